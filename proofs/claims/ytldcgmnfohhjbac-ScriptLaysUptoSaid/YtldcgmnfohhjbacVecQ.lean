/- Walks over Has, the program's and the document's; the document's Formed and Same. -/
import Derived.Test.YtldcgmnfohhjbacVecP
import Derived.Deep.RegionHeld3
import Derived.Deep.RegionWith
namespace Go.Proofs.Ytldcgmnfohhjbac
open Go.RowKit
set_option maxRecDepth 100000

/-- Is a stamp in it? -/
def hasB (v : List Vc.St) (s : Vc.St) : Bool := Vc.right s && decide (s.1 ≤ cntZ v s.2)

theorem dec_drop {u v : List Vc.St} {k : Nat} (h1 : k < u.length) (h2 : k < v.length) (h : u[k] = v[k]) : decide (u.drop k = v.drop k) = decide (u.drop (k + 1) = v.drop (k + 1)) := by
  refine decide_eq_decide.2 ?_
  rw [List.drop_eq_getElem_cons h1, List.drop_eq_getElem_cons h2, h]
  exact ⟨fun e => (List.cons.inj e).2, fun e => by rw [e]⟩

end Go.Proofs.Ytldcgmnfohhjbac
