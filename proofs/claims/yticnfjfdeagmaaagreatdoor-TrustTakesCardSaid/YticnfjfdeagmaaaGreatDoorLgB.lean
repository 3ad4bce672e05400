/- Walks: invlog.Formed, invlog.Known. -/
import Derived.Test.YticnfjfdeagmaaaGreatDoorLgA
namespace Go.Proofs.YticnfjfdeagmaaaGreatDoor
open Go.RowKit
set_option maxRecDepth 100000

/-- Is a log formed? What is known behind it. -/
def lgF (b : List Vc.St) (L : List (NV × Nt)) (su : Int) : Bool := (lgW (vec (jn [b])) (nts L)).isSome && (fm (-1) b && (decide (0 ≤ su) && decide (su ≤ L.length)))
/-- What is known behind a log, or nothing. -/
def KnownP (w : World) (b : List Vc.St) (L : List (NV × Nt)) (su : Int) (e : Ending) (w' : World) : Prop :=
  (lgF b L su = true ∧ ∃ q K kc, lgW (vec (jn [b])) (nts L) = some q ∧ e = .returned (.slice K q.length kc) ∧ Rd w' w'.heap.size 2 K q.length kc (sv q) ∧ Below w.heap.size w w') ∨
  (lgF b L su = false ∧ e = .returned (.slice none 0 0) ∧ Below w.heap.size w w')
end Go.Proofs.YticnfjfdeagmaaaGreatDoor
