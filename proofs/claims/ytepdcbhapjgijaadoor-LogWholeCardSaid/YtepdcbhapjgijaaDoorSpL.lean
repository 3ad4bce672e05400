/- Walk over the document's Less at spans. -/
import Derived.Test.YtepdcbhapjgijaaDoorSpK
namespace Go.Proofs.YtepdcbhapjgijaaDoor
open Go.RowKit
set_option maxRecDepth 100000

end Go.Proofs.YtepdcbhapjgijaaDoor
