/- Walk over the document's Formed of notes (printed by wip/tools/genNtB.py). -/
import Derived.Test.YticnfjfdeagmaaaDoorNtA
import Derived.Test.YticnfjfdeagmaaaDoorMVec
import Derived.Test.YticnfjfdeagmaaaDoorReg
import Derived.IntWalk
namespace Go.Proofs.YticnfjfdeagmaaaDoor
open Go.RowKit
set_option maxRecDepth 100000

end Go.Proofs.YticnfjfdeagmaaaDoor
