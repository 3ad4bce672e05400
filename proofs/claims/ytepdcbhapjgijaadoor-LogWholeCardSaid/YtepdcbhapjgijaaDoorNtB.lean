/- Walk over the document's Formed of notes (printed by wip/tools/genNtB.py). -/
import Derived.Test.YtepdcbhapjgijaaDoorNtA
import Derived.Test.YtepdcbhapjgijaaDoorMVec
import Derived.Test.YtepdcbhapjgijaaDoorReg
import Derived.IntWalk
namespace Go.Proofs.YtepdcbhapjgijaaDoor
open Go.RowKit
set_option maxRecDepth 100000

end Go.Proofs.YtepdcbhapjgijaaDoor
