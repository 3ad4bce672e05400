/- Walk over span.Less. -/
import Derived.Test.YtepdcbhapjgijaaDoorSpG
namespace Go.Proofs.YtepdcbhapjgijaaDoor
open Go.RowKit
set_option maxRecDepth 100000

theorem restL_len (l : List Sn.Sp) : (Sn.restL l).length ≤ 128 := Sn.fmS_128 (Sn.of_fm _)
set_option maxHeartbeats 2000000 in
theorem less_any (A : Option Addr) (n c : Nat) (l : List Sn.Sp) (B : Option Addr) (m d : Nat) (r : List Sn.Sp) (w : World) (hl : l.length = n) (hR : Rd w w.heap.size 2 A n c (sv l)) (hn : n ≤ 8796093022208) (hr : r.length = m) (hR2 : Rd w w.heap.size 2 B m d (sv r)) (hm : m ≤ 8796093022208) :
    Calls Tryd.prog 32 #[.slice A n c, .slice B m d] w fun e w' => SpOut w w' e (Sn.lessL l r) := by
  have hq := restL_len r
  have HT := Lib.hid (rest_any B m d r w hr hR2 hm)
  have HM := Lib.hid (fun (V : World) (hb : Below w.heap.size w V) (A1 : Option Addr) (c1 : Nat) (h1 : Rd V V.heap.size 2 A1 (Sn.restL r).length c1 (sv (Sn.restL r))) => meet_any A n c l A1 (Sn.restL r).length c1 (Sn.restL r) V hl (hR.go hb) hn rfl h1 (by omega))
  have HE := Lib.hid (Sn.meet_rest l r)
  clear hR hl hR2 hr
  go_enter Tryd.func32, Tryd.ntmps32
  go_wp2_with (first
    | (go_at_call 53; go_must (refine HT.out.mono ?_); rintro e w1 ⟨A1, c1, rfl, ho1, hb1⟩)
    | (go_at_call 31; go_must (refine (HM.out _ hb1 _ _ (Rd.of_own ho1)).mono ?_); rintro e w2 ⟨A2, c2, rfl, ho2, hb2⟩))
  go_ret
  refine ⟨A2, c2, by rw [HE.out] <;> rfl, ?_, below_then hb1 (Nat.le_refl _) hb2⟩
  rw [← HE.out]
  exact own_less ho2 hb1.size
end Go.Proofs.YtepdcbhapjgijaaDoor
