/- Walks over the document's Covers and Touch at spans. -/
import Derived.Test.YticnfjfdeagmaaaDoorSpL
namespace Go.Proofs.YticnfjfdeagmaaaDoor
open Go.RowKit
set_option maxRecDepth 100000

theorem refTouchS_any (A : Option Addr) (n c : Nat) (l : List Sn.Sp) (B : Option Addr) (m d : Nat) (l2 : List Sn.Sp) (w : World) (hl : l.length = n) (hR : Rd w w.heap.size 2 A n c (sv l)) (hl2 : l2.length = m) (hR2 : Rd w w.heap.size 2 B m d (sv l2)) :
    Calls Tryd.prog 27 #[.slice A n c, .slice B m d] w fun e w' => e = .returned (.bool (decide (Sn.meetL l l2 ≠ []))) ∧ Below w.heap.size w w' := by
  have HT := Lib.hid (refMeetS_any A n c l B m d l2 w hl hR hl2 hR2)
  have hmx : (Sn.meetL l l2).length ≤ 128 := Sn.fmS_128 (Sn.of_fm _)
  clear hR hl hR2 hl2
  generalize Sn.meetL l l2 = T at HT hmx
  go_enter Tryd.func27, Tryd.ntmps27
  go_wp2_with (go_at_call 55; go_must (refine HT.out.mono ?_); rintro e w1 ⟨A1, c1, rfl, ho1, hb1⟩)
  go_ret
  refine ⟨?_, hb1⟩
  rcases T with _ | ⟨s, r⟩
  · rfl
  · simp
end Go.Proofs.YticnfjfdeagmaaaDoor
