/- Walk over the document's Less at spans. -/
import Derived.Test.YticnfjfdeagmaaaGreatDoorSpK
namespace Go.Proofs.YticnfjfdeagmaaaGreatDoor
open Go.RowKit
set_option maxRecDepth 100000

end Go.Proofs.YticnfjfdeagmaaaGreatDoor
