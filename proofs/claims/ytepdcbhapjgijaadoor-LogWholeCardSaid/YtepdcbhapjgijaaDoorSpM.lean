/- Walks over the document's Covers and Touch at spans. -/
import Derived.Test.YtepdcbhapjgijaaDoorSpL
namespace Go.Proofs.YtepdcbhapjgijaaDoor
open Go.RowKit
set_option maxRecDepth 100000

end Go.Proofs.YtepdcbhapjgijaaDoor
