/- Walk over the law NoteTells. -/
import Derived.Test.YtldcgmnfohhjbaaDoorNtK
namespace Go.Proofs.YtldcgmnfohhjbaaDoor
open Go.RowKit
set_option maxRecDepth 100000

set_option maxHeartbeats 4000000 in
theorem noteTells_walk (v : NV) (x : Nt) (o : Int) (w : World) (hT : Tab w) (hN : NtRd w w.heap.size v x) (hs : NtSz v) :
    Calls Tryd.prog 5 #[.agg v.val, .int .i64 o] w fun e w' => e = .returned (.bool true) ∧ Below w.heap.size w w' := by
  have H1 := fun (W : World) (hT : Tab W) hN => told_any v x o W hT hN hs.s4
  have H2 := fun (W : World) hN => refTold_any v x o W hN
  generalize tQ x o = Q at H1 H2
  generalize tB x o = B at H1 H2
  generalize tE x o = E at H1 H2
  have G1 := Lib.hid H1
  have G2 := Lib.hid H2
  clear H1 H2 hs
  obtain ⟨⟨sc, sn⟩, ob, gn⟩ := Q
  have hb0 : Below w.heap.size w (w.alloc (.cells v.val 32)) := (Below.refl _ _).alloc (Nat.le_refl _) _
  have hBx := Blk.new w 32 v.val
  obtain ⟨w0, hw0⟩ : ∃ w0, w0 = w.alloc (.cells v.val 32) := ⟨_, rfl⟩
  rw [← hw0] at hb0 hBx
  have hT0 := hT.below hb0
  have hN0 := hN.go hb0
  have HW := Lib.hid hw0.symm
  clear hw0 hT hN
  go_enter Tryd.func5, Tryd.ntmps5
  go_wp2_with fail
  rw [HW.out]
  refine (aliveN_any w0 hT0).mono ?_
  rintro e w1 ⟨rfl, hb1⟩
  have hT1 := hT0.below hb1
  have hN1 := hN0.go hb1
  have hB1 := hBx.go hb1
  have hbw1 := below_then hb0 (Nat.le_refl _) hb1
  have q0 := hB1.cell 0
  have q1 := hB1.cell 1
  have q2 := hB1.cell 2
  have q3 := hB1.cell 3
  clear hT0 hN0 hBx hb0 hb1 HW
  go_wp2_with fail
  refine (G1.out w1 hT1 hN1).mono ?_
  rintro e w2 ⟨rfl, hb2⟩
  have hb3 := hb2.alloc hb2.size (.cells #[.int .i64 sc, .int .i64 sn, .int .i64 ob, .bool gn] 26)
  have hbw3 := below_then hbw1 (Nat.le_refl _) hb3
  have hN3 := hN1.go hb3
  have hB3 := hB1.go hb3
  have hD := Blk.new w2 26 #[.int .i64 sc, .int .i64 sn, .int .i64 ob, .bool gn]
  clear q0 q1 q2 q3
  have q0 := hB3.cell 0
  have q1 := hB3.cell 1
  have q2 := hB3.cell 2
  have q3 := hB3.cell 3
  simp only [wcA]
  go_wp2_with fail
  refine (G2.out _ hN3).mono ?_
  rintro e w4 ⟨rfl, hb4⟩
  have hD4 := hD.go hb4
  have p0 : (w4.alloc (.cells #[.int .i64 sc, .int .i64 sn, .int .i64 ob, .bool gn] 26)).cell? ⟨w2.heap.size, 0, none⟩ = some (.int .i64 sc) := (hD4.alloc _).cell 0
  have p1 : (w4.alloc (.cells #[.int .i64 sc, .int .i64 sn, .int .i64 ob, .bool gn] 26)).cell? ⟨w2.heap.size, 1, none⟩ = some (.int .i64 sn) := (hD4.alloc _).cell 1
  have p2 : (w4.alloc (.cells #[.int .i64 sc, .int .i64 sn, .int .i64 ob, .bool gn] 26)).cell? ⟨w2.heap.size, 2, none⟩ = some (.int .i64 ob) := (hD4.alloc _).cell 2
  have p3 : (w4.alloc (.cells #[.int .i64 sc, .int .i64 sn, .int .i64 ob, .bool gn] 26)).cell? ⟨w2.heap.size, 3, none⟩ = some (.bool gn) := (hD4.alloc _).cell 3
  have hbw4 := below_then hbw3 (Nat.le_refl _) hb4
  clear q0 q1 q2 q3 hD hD4 hB3 hN3 hb3 hbw3 hb4 G1 G2
  simp only [wcA]
  go_wp2
  go_ret
  exact ⟨ret_bool (by simp), hbw4.alloc hbw4.size _⟩
end Go.Proofs.YtldcgmnfohhjbaaDoor
