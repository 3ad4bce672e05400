/- Walks over the document's Covers and Touch at spans. -/
import Derived.Test.YticnfjfdeagmaaaGreatDoorSpL
namespace Go.Proofs.YticnfjfdeagmaaaGreatDoor
open Go.RowKit
set_option maxRecDepth 100000

end Go.Proofs.YticnfjfdeagmaaaGreatDoor
