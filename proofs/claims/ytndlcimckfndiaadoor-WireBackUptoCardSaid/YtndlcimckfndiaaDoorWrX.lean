/- Walks: SameBody at one body held twice; the document's Reader.Body. -/
import Derived.Test.YtndlcimckfndiaaDoorWrW
import Derived.Test.YtndlcimckfndiaaDoorMWk
namespace Go.Proofs.YtndlcimckfndiaaDoor
open Go.RowKit
set_option maxRecDepth 100000

set_option maxHeartbeats 2000000 in
theorem sameBody_self (x : Wq.Bd) (A B : Option Addr) (c d : Nat) (w : World) (hR : Rd w w.heap.size 1 A x.v.length c (bv x.v)) (hR2 : Rd w w.heap.size 1 B x.v.length d (bv x.v)) :
    Calls Tryd.prog 36 #[.agg (bval x A c), .agg (bval x B d)] w fun e w' => e = .returned (.bool true) ∧ Below w.heap.size w w' := by
  obtain ⟨o, ⟨a, b⟩, v⟩ := x
  unfold bval
  dsimp only at *
  have hb : Below w.heap.size w ((w.alloc (.cells #[.int .i64 o, .int .i64 a, .int .i64 b, .slice A v.length c] 63)).alloc (.cells #[.int .i64 o, .int .i64 a, .int .i64 b, .slice B v.length d] 63)) := ((Below.refl _ _).alloc (Nat.le_refl _) _).alloc (by simp) _
  have h1 := ((Blk.new w 63 #[.int .i64 o, .int .i64 a, .int .i64 b, .slice A v.length c]).alloc (.cells #[.int .i64 o, .int .i64 a, .int .i64 b, .slice B v.length d] 63)).four
  have h2 := (Blk.new (w.alloc (.cells #[.int .i64 o, .int .i64 a, .int .i64 b, .slice A v.length c] 63)) 63 #[.int .i64 o, .int .i64 a, .int .i64 b, .slice B v.length d]).four
  rw [World.size_alloc] at h2
  have G := sameB_any A B v.length c v.length d w.heap.size w.heap.size v v ((w.alloc (.cells #[.int .i64 o, .int .i64 a, .int .i64 b, .slice A v.length c] 63)).alloc (.cells #[.int .i64 o, .int .i64 a, .int .i64 b, .slice B v.length d] 63)) (hR.below hb) (hR2.below hb)
  rw [show (v == v) = true by simp] at G
  obtain ⟨p0, p1, p2, p3⟩ := h1
  obtain ⟨q0, q1, q2, q3⟩ := h2
  have G := Lib.hid G
  have HB := Lib.hid hb
  clear hb hR hR2
  generalize v.length = n at *
  go_enter Tryd.func36, Tryd.ntmps36
  go_wp2_with (go_at_call 39; go_must (refine G.out.mono ?_); rintro e w1 ⟨rfl, rfl⟩)
  go_ret
  exact ⟨rfl, HB.out⟩
end Go.Proofs.YtndlcimckfndiaaDoor
