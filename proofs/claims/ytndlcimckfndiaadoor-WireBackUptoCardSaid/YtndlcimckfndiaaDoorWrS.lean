/- Walks: the message that asks is decoded; alive of the wire's laws. -/
import Derived.Test.YtndlcimckfndiaaDoorWrR
namespace Go.Proofs.YtndlcimckfndiaaDoor
open Go.RowKit
set_option maxRecDepth 100000

theorem pN_1 (n : Nat) (h : n < 128) (r : List UInt8) : Wq.pN (UInt8.ofNat n :: r) = some (n, r) := by
  have := Wq.pN_lay (n := n) (by omega) r
  rw [lay_1 n h] at this
  exact this
def msg0 : Array Value := #[.int .i64 0, .int .i64 0, .int .i64 0, .int .i64 0, .int .i64 0, .slice none 0 0, .slice none 0 0, .slice none 0 0, .int .i64 0, .int .i64 0, .int .i64 0, .slice none 0 0]

theorem Blk.twelve {W : World} {g : Nat} {t : TypeId} {a0 a1 a2 a3 a4 a5 a6 a7 a8 a9 a10 a11 : Value} (h : Blk W g t #[a0, a1, a2, a3, a4, a5, a6, a7, a8, a9, a10, a11]) :
    W.cell? ⟨g, 0, none⟩ = some a0 ∧ W.cell? ⟨g, 1, none⟩ = some a1 ∧ W.cell? ⟨g, 2, none⟩ = some a2 ∧ W.cell? ⟨g, 3, none⟩ = some a3 ∧ W.cell? ⟨g, 4, none⟩ = some a4 ∧ W.cell? ⟨g, 5, none⟩ = some a5 ∧
    W.cell? ⟨g, 6, none⟩ = some a6 ∧ W.cell? ⟨g, 7, none⟩ = some a7 ∧ W.cell? ⟨g, 8, none⟩ = some a8 ∧ W.cell? ⟨g, 9, none⟩ = some a9 ∧ W.cell? ⟨g, 10, none⟩ = some a10 ∧ W.cell? ⟨g, 11, none⟩ = some a11 :=
  ⟨h.cell 0, h.cell 1, h.cell 2, h.cell 3, h.cell 4, h.cell 5, h.cell 6, h.cell 7, h.cell 8, h.cell 9, h.cell 10, h.cell 11⟩

theorem Blk.frozen12 {W : World} {g : Nat} {t : TypeId} {cs : Array Value} (h : Blk W g t cs) :
    W.frozen? ⟨g, 0, none⟩ = false ∧ W.frozen? ⟨g, 1, none⟩ = false ∧ W.frozen? ⟨g, 2, none⟩ = false ∧ W.frozen? ⟨g, 3, none⟩ = false ∧ W.frozen? ⟨g, 4, none⟩ = false ∧ W.frozen? ⟨g, 5, none⟩ = false ∧
    W.frozen? ⟨g, 6, none⟩ = false ∧ W.frozen? ⟨g, 7, none⟩ = false ∧ W.frozen? ⟨g, 8, none⟩ = false ∧ W.frozen? ⟨g, 9, none⟩ = false ∧ W.frozen? ⟨g, 10, none⟩ = false ∧ W.frozen? ⟨g, 11, none⟩ = false :=
  ⟨h.frozen 0, h.frozen 1, h.frozen 2, h.frozen 3, h.frozen 4, h.frozen 5, h.frozen 6, h.frozen 7, h.frozen 8, h.frozen 9, h.frozen 10, h.frozen 11⟩
theorem Blk.fill12 {W : World} {g : Nat} {t : TypeId} {a0 a1 a2 a3 a4 a5 a6 a7 a8 a9 a10 a11 : Value} (h : Blk W g t #[a0, a1, a2, a3, a4, a5, a6, a7, a8, a9, a10, a11]) (b0 b1 b2 b3 b4 b5 b6 b7 b8 b9 b10 b11 : Value) : Blk ((((((((((((W.setCell ⟨g, 0, none⟩ b0).setCell ⟨g, 1, none⟩ b1).setCell ⟨g, 2, none⟩ b2).setCell ⟨g, 3, none⟩ b3).setCell ⟨g, 4, none⟩ b4).setCell ⟨g, 5, none⟩ b5).setCell ⟨g, 6, none⟩ b6).setCell ⟨g, 7, none⟩ b7).setCell ⟨g, 8, none⟩ b8).setCell ⟨g, 9, none⟩ b9).setCell ⟨g, 10, none⟩ b10).setCell ⟨g, 11, none⟩ b11) g t #[b0, b1, b2, b3, b4, b5, b6, b7, b8, b9, b10, b11] := by
  have h0 : Blk (W.setCell ⟨g, 0, none⟩ b0) g t #[b0, a1, a2, a3, a4, a5, a6, a7, a8, a9, a10, a11] := h.set_ 0 b0
  have h1 : Blk ((W.setCell ⟨g, 0, none⟩ b0).setCell ⟨g, 1, none⟩ b1) g t #[b0, b1, a2, a3, a4, a5, a6, a7, a8, a9, a10, a11] := h0.set_ 1 b1
  have h2 : Blk (((W.setCell ⟨g, 0, none⟩ b0).setCell ⟨g, 1, none⟩ b1).setCell ⟨g, 2, none⟩ b2) g t #[b0, b1, b2, a3, a4, a5, a6, a7, a8, a9, a10, a11] := h1.set_ 2 b2
  have h3 : Blk ((((W.setCell ⟨g, 0, none⟩ b0).setCell ⟨g, 1, none⟩ b1).setCell ⟨g, 2, none⟩ b2).setCell ⟨g, 3, none⟩ b3) g t #[b0, b1, b2, b3, a4, a5, a6, a7, a8, a9, a10, a11] := h2.set_ 3 b3
  have h4 : Blk (((((W.setCell ⟨g, 0, none⟩ b0).setCell ⟨g, 1, none⟩ b1).setCell ⟨g, 2, none⟩ b2).setCell ⟨g, 3, none⟩ b3).setCell ⟨g, 4, none⟩ b4) g t #[b0, b1, b2, b3, b4, a5, a6, a7, a8, a9, a10, a11] := h3.set_ 4 b4
  have h5 : Blk ((((((W.setCell ⟨g, 0, none⟩ b0).setCell ⟨g, 1, none⟩ b1).setCell ⟨g, 2, none⟩ b2).setCell ⟨g, 3, none⟩ b3).setCell ⟨g, 4, none⟩ b4).setCell ⟨g, 5, none⟩ b5) g t #[b0, b1, b2, b3, b4, b5, a6, a7, a8, a9, a10, a11] := h4.set_ 5 b5
  have h6 : Blk (((((((W.setCell ⟨g, 0, none⟩ b0).setCell ⟨g, 1, none⟩ b1).setCell ⟨g, 2, none⟩ b2).setCell ⟨g, 3, none⟩ b3).setCell ⟨g, 4, none⟩ b4).setCell ⟨g, 5, none⟩ b5).setCell ⟨g, 6, none⟩ b6) g t #[b0, b1, b2, b3, b4, b5, b6, a7, a8, a9, a10, a11] := h5.set_ 6 b6
  have h7 : Blk ((((((((W.setCell ⟨g, 0, none⟩ b0).setCell ⟨g, 1, none⟩ b1).setCell ⟨g, 2, none⟩ b2).setCell ⟨g, 3, none⟩ b3).setCell ⟨g, 4, none⟩ b4).setCell ⟨g, 5, none⟩ b5).setCell ⟨g, 6, none⟩ b6).setCell ⟨g, 7, none⟩ b7) g t #[b0, b1, b2, b3, b4, b5, b6, b7, a8, a9, a10, a11] := h6.set_ 7 b7
  have h8 : Blk (((((((((W.setCell ⟨g, 0, none⟩ b0).setCell ⟨g, 1, none⟩ b1).setCell ⟨g, 2, none⟩ b2).setCell ⟨g, 3, none⟩ b3).setCell ⟨g, 4, none⟩ b4).setCell ⟨g, 5, none⟩ b5).setCell ⟨g, 6, none⟩ b6).setCell ⟨g, 7, none⟩ b7).setCell ⟨g, 8, none⟩ b8) g t #[b0, b1, b2, b3, b4, b5, b6, b7, b8, a9, a10, a11] := h7.set_ 8 b8
  have h9 : Blk ((((((((((W.setCell ⟨g, 0, none⟩ b0).setCell ⟨g, 1, none⟩ b1).setCell ⟨g, 2, none⟩ b2).setCell ⟨g, 3, none⟩ b3).setCell ⟨g, 4, none⟩ b4).setCell ⟨g, 5, none⟩ b5).setCell ⟨g, 6, none⟩ b6).setCell ⟨g, 7, none⟩ b7).setCell ⟨g, 8, none⟩ b8).setCell ⟨g, 9, none⟩ b9) g t #[b0, b1, b2, b3, b4, b5, b6, b7, b8, b9, a10, a11] := h8.set_ 9 b9
  have h10 : Blk (((((((((((W.setCell ⟨g, 0, none⟩ b0).setCell ⟨g, 1, none⟩ b1).setCell ⟨g, 2, none⟩ b2).setCell ⟨g, 3, none⟩ b3).setCell ⟨g, 4, none⟩ b4).setCell ⟨g, 5, none⟩ b5).setCell ⟨g, 6, none⟩ b6).setCell ⟨g, 7, none⟩ b7).setCell ⟨g, 8, none⟩ b8).setCell ⟨g, 9, none⟩ b9).setCell ⟨g, 10, none⟩ b10) g t #[b0, b1, b2, b3, b4, b5, b6, b7, b8, b9, b10, a11] := h9.set_ 10 b10
  have h11 : Blk ((((((((((((W.setCell ⟨g, 0, none⟩ b0).setCell ⟨g, 1, none⟩ b1).setCell ⟨g, 2, none⟩ b2).setCell ⟨g, 3, none⟩ b3).setCell ⟨g, 4, none⟩ b4).setCell ⟨g, 5, none⟩ b5).setCell ⟨g, 6, none⟩ b6).setCell ⟨g, 7, none⟩ b7).setCell ⟨g, 8, none⟩ b8).setCell ⟨g, 9, none⟩ b9).setCell ⟨g, 10, none⟩ b10).setCell ⟨g, 11, none⟩ b11) g t #[b0, b1, b2, b3, b4, b5, b6, b7, b8, b9, b10, b11] := h10.set_ 11 b11
  exact h11
theorem below_fill12 {B : Nat} {a W : World} {g : Nat} (hb : Below B a W) (hg : B ≤ g) (b0 b1 b2 b3 b4 b5 b6 b7 b8 b9 b10 b11 : Value) : Below B a ((((((((((((W.setCell ⟨g, 0, none⟩ b0).setCell ⟨g, 1, none⟩ b1).setCell ⟨g, 2, none⟩ b2).setCell ⟨g, 3, none⟩ b3).setCell ⟨g, 4, none⟩ b4).setCell ⟨g, 5, none⟩ b5).setCell ⟨g, 6, none⟩ b6).setCell ⟨g, 7, none⟩ b7).setCell ⟨g, 8, none⟩ b8).setCell ⟨g, 9, none⟩ b9).setCell ⟨g, 10, none⟩ b10).setCell ⟨g, 11, none⟩ b11) :=
  ((((((((((((hb.setCell (p := ⟨g, 0, none⟩) hg b0).setCell (p := ⟨g, 1, none⟩) hg b1).setCell (p := ⟨g, 2, none⟩) hg b2).setCell (p := ⟨g, 3, none⟩) hg b3).setCell (p := ⟨g, 4, none⟩) hg b4).setCell (p := ⟨g, 5, none⟩) hg b5).setCell (p := ⟨g, 6, none⟩) hg b6).setCell (p := ⟨g, 7, none⟩) hg b7).setCell (p := ⟨g, 8, none⟩) hg b8).setCell (p := ⟨g, 9, none⟩) hg b9).setCell (p := ⟨g, 10, none⟩) hg b10).setCell (p := ⟨g, 11, none⟩) hg b11)
theorem but_fill12 {W : World} {g : Nat} (b0 b1 b2 b3 b4 b5 b6 b7 b8 b9 b10 b11 : Value) : But g W ((((((((((((W.setCell ⟨g, 0, none⟩ b0).setCell ⟨g, 1, none⟩ b1).setCell ⟨g, 2, none⟩ b2).setCell ⟨g, 3, none⟩ b3).setCell ⟨g, 4, none⟩ b4).setCell ⟨g, 5, none⟩ b5).setCell ⟨g, 6, none⟩ b6).setCell ⟨g, 7, none⟩ b7).setCell ⟨g, 8, none⟩ b8).setCell ⟨g, 9, none⟩ b9).setCell ⟨g, 10, none⟩ b10).setCell ⟨g, 11, none⟩ b11) :=
  (((((((((((((But.refl g W).trans (But.set_ (g := g) _ (p := ⟨g, 0, none⟩) rfl b0)).trans (But.set_ (g := g) _ (p := ⟨g, 1, none⟩) rfl b1)).trans (But.set_ (g := g) _ (p := ⟨g, 2, none⟩) rfl b2)).trans (But.set_ (g := g) _ (p := ⟨g, 3, none⟩) rfl b3)).trans (But.set_ (g := g) _ (p := ⟨g, 4, none⟩) rfl b4)).trans (But.set_ (g := g) _ (p := ⟨g, 5, none⟩) rfl b5)).trans (But.set_ (g := g) _ (p := ⟨g, 6, none⟩) rfl b6)).trans (But.set_ (g := g) _ (p := ⟨g, 7, none⟩) rfl b7)).trans (But.set_ (g := g) _ (p := ⟨g, 8, none⟩) rfl b8)).trans (But.set_ (g := g) _ (p := ⟨g, 9, none⟩) rfl b9)).trans (But.set_ (g := g) _ (p := ⟨g, 10, none⟩) rfl b10)).trans (But.set_ (g := g) _ (p := ⟨g, 11, none⟩) rfl b11))

set_option maxHeartbeats 8000000 in
theorem decAsk_any (A : Option Addr) (c : Nat) (w : World) (hR : Rd w w.heap.size 1 A 4 c (bv [4, 1, 2, 7])) :
    Calls Tryd.prog 43 #[.slice A 4 c] w fun e w' => e = .returned (.tuple #[.agg ask, .int .i64 0]) ∧ Below w.heap.size w w' := by
  have hb0 : Below w.heap.size w ((w.alloc (.cells msg0 74)).alloc (.cells #[.slice A 4 c, .int .i64 0, .bool false] 90)) := ((Below.refl _ _).alloc (Nat.le_refl _) _).alloc (by simp) _
  have hM0 := (Blk.new w 74 msg0).alloc (.cells #[.slice A 4 c, .int .i64 0, .bool false] 90)
  have hG0 := Blk.new (w.alloc (.cells msg0 74)) 90 #[.slice A 4 c, .int .i64 0, .bool false]
  rw [World.size_alloc] at hG0
  obtain ⟨W0, hW0⟩ : ∃ W0, W0 = (w.alloc (.cells msg0 74)).alloc (.cells #[.slice A 4 c, .int .i64 0, .bool false] 90) := ⟨_, rfl⟩
  have hs0 : W0.heap.size = w.heap.size + 1 + 1 := by rw [hW0]; simp
  rw [← hW0] at hb0 hM0 hG0
  have hP0 : PR W0 (w.heap.size + 1) 4 (some [4, 1, 2, 7]) := ⟨A, 4, c, hG0, (hR.below hb0).more (by omega), rfl, by simp, by unfold maxLen; omega⟩
  have v1 : numV (some [4, 1, 2, 7]) = 4 := numV_some (pN_1 4 (by omega) [1, 2, 7])
  have s1 : numS (some [4, 1, 2, 7]) = some [1, 2, 7] := numS_some (pN_1 4 (by omega) [1, 2, 7])
  have v2 : numV (some [1, 2, 7]) = 1 := numV_some (pN_1 1 (by omega) [2, 7])
  have s2 : numS (some [1, 2, 7]) = some [2, 7] := numS_some (pN_1 1 (by omega) [2, 7])
  have v3 : numV (some [2, 7]) = 2 := numV_some (pN_1 2 (by omega) [7])
  have s3 : numS (some [2, 7]) = some [7] := numS_some (pN_1 2 (by omega) [7])
  have v4 : numV (some [7]) = 7 := numV_some (pN_1 7 (by omega) [])
  have s4 : numS (some [7]) = some [] := numS_some (pN_1 7 (by omega) [])
  have G1 := fun (W : World) h => rdNum_any (w.heap.size + 1) 4 (some [4, 1, 2, 7]) W h
  have G2 := fun (W : World) h => rdNum_any (w.heap.size + 1) 4 (some [1, 2, 7]) W h
  have G3 := fun (W : World) h => rdNum_any (w.heap.size + 1) 4 (some [2, 7]) W h
  have G4 := fun (W : World) h => rdNum_any (w.heap.size + 1) 4 (some [7]) W h
  rw [v1, s1] at G1
  rw [v2, s2] at G2
  rw [v3, s3] at G3
  rw [v4, s4] at G4
  have G1 := Lib.hid G1
  have G2 := Lib.hid G2
  have G3 := Lib.hid G3
  have G4 := Lib.hid G4
  have HW := Lib.hid hW0.symm
  have HB0 := Lib.hid hb0
  unfold msg0 at HW hM0
  clear hR hG0 hW0 hb0 v1 s1 v2 s2 v3 s3 v4 s4
  unfold ask
  go_enter Tryd.func43, Tryd.ntmps43
  go_wp2_with fail
  rw [HW.out]
  refine (G1.out _ hP0).mono ?_
  rintro e w1 ⟨rfl, hP1, hu1⟩
  have hl1 := hu1.size
  have hM1 := hM0.but hu1 (by omega)
  have hb1 := below_but HB0.out hu1 (by omega) (by omega)
  have hbX : Below w1.heap.size w1 (w1.alloc (.cells #[.int .i64 4, .int .i64 0, .int .i64 0, .int .i64 0, .int .i64 0, .slice none 0 0, .slice none 0 0, .slice none 0 0, .int .i64 0, .int .i64 0, .int .i64 0, .slice none 0 0] 74)) := (Below.refl _ _).alloc (Nat.le_refl _) _
  have hX := Blk.new w1 74 #[.int .i64 4, .int .i64 0, .int .i64 0, .int .i64 0, .int .i64 0, .slice none 0 0, .slice none 0 0, .slice none 0 0, .int .i64 0, .int .i64 0, .int .i64 0, .slice none 0 0]
  obtain ⟨W2, hW2⟩ : ∃ W2, W2 = w1.alloc (.cells #[.int .i64 4, .int .i64 0, .int .i64 0, .int .i64 0, .int .i64 0, .slice none 0 0, .slice none 0 0, .slice none 0 0, .int .i64 0, .int .i64 0, .int .i64 0, .slice none 0 0] 74) := ⟨_, rfl⟩
  have hl2 : W2.heap.size = w1.heap.size + 1 := by rw [hW2]; simp
  rw [← hW2] at hbX hX
  have HW2 := Lib.hid hW2.symm
  have hP2 := hP1.go hbX
  have hM2 := hM1.go hbX
  have hb2 := below_then hb1 (by omega) hbX
  clear hP0 hu1 hM0 hP1 hM1 hb1 hW2 hbX
  go_wp2_with fail
  rw [HW2.out]
  refine (G2.out _ hP2).mono ?_
  rintro e w3 ⟨rfl, hP3, hu3⟩
  have hl3 := hu3.size
  have hX3 := hX.but hu3 (by omega)
  have hM3 := hM2.but hu3 (by omega)
  have hb3 := below_but hb2 hu3 (by omega) (by omega)
  have xf1 := hX3.frozen 1
  have xc1 := hX3.cell 1
  have hu4 : But w1.heap.size w3 (w3.setCell ⟨w1.heap.size, 1, none⟩ (.int .i64 1)) := But.set_ (g := w1.heap.size) w3 (p := ⟨w1.heap.size, 1, none⟩) rfl _
  have hX4 : Blk (w3.setCell ⟨w1.heap.size, 1, none⟩ (.int .i64 1)) w1.heap.size 74 #[.int .i64 4, .int .i64 1, .int .i64 0, .int .i64 0, .int .i64 0, .slice none 0 0, .slice none 0 0, .slice none 0 0, .int .i64 0, .int .i64 0, .int .i64 0, .slice none 0 0] := hX3.set_ 1 (.int .i64 1)
  have hP4 := hP3.but hu4 (by omega)
  have hM4 := hM3.but hu4 (by omega)
  have hb4 := below_but hb3 hu4 (by omega) (by omega)
  obtain ⟨W4, hW4⟩ : ∃ W4, W4 = w3.setCell ⟨w1.heap.size, 1, none⟩ (.int .i64 1) := ⟨_, rfl⟩
  have hl4 : W4.heap.size = w3.heap.size := by rw [hW4]; simp
  rw [← hW4] at hX4 hP4 hM4 hb4
  have HW4 := Lib.hid hW4.symm
  clear hP2 hu3 hX hM2 hb2 hP3 hX3 hM3 hb3 hu4 hW4
  go_wp2_with fail
  rw [HW4.out]
  refine (G3.out _ hP4).mono ?_
  rintro e w5 ⟨rfl, hP5, hu5⟩
  have hl5 := hu5.size
  have hX5 := hX4.but hu5 (by omega)
  have hM5 := hM4.but hu5 (by omega)
  have hb5 := below_but hb4 hu5 (by omega) (by omega)
  have xf2 := hX5.frozen 2
  have xc2 := hX5.cell 2
  have hu6 : But w1.heap.size w5 (w5.setCell ⟨w1.heap.size, 2, none⟩ (.int .i64 2)) := But.set_ (g := w1.heap.size) w5 (p := ⟨w1.heap.size, 2, none⟩) rfl _
  have hX6 : Blk (w5.setCell ⟨w1.heap.size, 2, none⟩ (.int .i64 2)) w1.heap.size 74 #[.int .i64 4, .int .i64 1, .int .i64 2, .int .i64 0, .int .i64 0, .slice none 0 0, .slice none 0 0, .slice none 0 0, .int .i64 0, .int .i64 0, .int .i64 0, .slice none 0 0] := hX5.set_ 2 (.int .i64 2)
  have hP6 := hP5.but hu6 (by omega)
  have hM6 := hM5.but hu6 (by omega)
  have hb6 := below_but hb5 hu6 (by omega) (by omega)
  have x60 := hX6.cell 0
  obtain ⟨W6, hW6⟩ : ∃ W6, W6 = w5.setCell ⟨w1.heap.size, 2, none⟩ (.int .i64 2) := ⟨_, rfl⟩
  have hl6 : W6.heap.size = w5.heap.size := by rw [hW6]; simp
  rw [← hW6] at hX6 hP6 hM6 hb6
  have HW6 := Lib.hid hW6.symm
  clear hP4 hu5 hX4 hM4 hb4 hP5 hX5 hM5 hb5 hu6 hW6 xf1 xc1
  go_wp2_with fail
  rw [HW6.out]
  refine (G4.out _ hP6).mono ?_
  rintro e w7 ⟨rfl, hP7, hu7⟩
  have hl7 := hu7.size
  have hX7 := hX6.but hu7 (by omega)
  have hM7 := hM6.but hu7 (by omega)
  have hb7 := below_but hb6 hu7 (by omega) (by omega)
  have xf8 := hX7.frozen 8
  have xc8 := hX7.cell 8
  have hu8 : But w1.heap.size w7 (w7.setCell ⟨w1.heap.size, 8, none⟩ (.int .i64 7)) := But.set_ (g := w1.heap.size) w7 (p := ⟨w1.heap.size, 8, none⟩) rfl _
  have hX8 : Blk (w7.setCell ⟨w1.heap.size, 8, none⟩ (.int .i64 7)) w1.heap.size 74 #[.int .i64 4, .int .i64 1, .int .i64 2, .int .i64 0, .int .i64 0, .slice none 0 0, .slice none 0 0, .slice none 0 0, .int .i64 7, .int .i64 0, .int .i64 0, .slice none 0 0] := hX7.set_ 8 (.int .i64 7)
  have hP8 := hP7.but hu8 (by omega)
  have hM8 := hM7.but hu8 (by omega)
  have hb8 := below_but hb7 hu8 (by omega) (by omega)
  obtain ⟨Ag, ng, cg, hBg, _, hng, _⟩ := hP8
  obtain rfl : ng = 0 := hng.symm
  have gc0 := hBg.cell 0
  have gc2 := hBg.cell 2
  have HF := Lib.hid fun W => formedAsk_any W
  unfold ask at HF
  have HX8 := Lib.hid hX8
  have HM8 := Lib.hid hM8
  have HB8 := Lib.hid hb8
  clear hP6 hu7 hX6 hM6 hb6 hP7 hX7 hM7 hb7 hu8 hM8 hb8 hBg x60 xf2 xc2
  obtain ⟨p0, p1, p2, p3, p4, p5, p6, p7, p8, p9, p10, p11⟩ := HX8.out.twelve
  go_wp2_with (go_at_call 40; go_must (refine (HF.out _).mono ?_); rintro e w9 ⟨rfl, hb9⟩; obtain ⟨r0, r1, r2, r3, r4, r5, r6, r7, r8, r9, r10, r11⟩ := (HX8.out.go hb9).twelve; have hM9 := HM8.out.go hb9; obtain ⟨m0, m1, m2, m3, m4, m5, m6, m7, m8, m9, m10, m11⟩ := hM9.twelve; obtain ⟨z0, z1, z2, z3, z4, z5, z6, z7, z8, z9, z10, z11⟩ := hM9.frozen12)
  have hF := hM9.fill12 (.int .i64 4) (.int .i64 1) (.int .i64 2) (.int .i64 0) (.int .i64 0) (.slice none 0 0) (.slice none 0 0) (.slice none 0 0) (.int .i64 7) (.int .i64 0) (.int .i64 0) (.slice none 0 0)
  have hbw := below_fill12 (below_then HB8.out (Nat.le_refl _) hb9) (Nat.le_refl w.heap.size) (.int .i64 4) (.int .i64 1) (.int .i64 2) (.int .i64 0) (.int .i64 0) (.slice none 0 0) (.slice none 0 0) (.slice none 0 0) (.int .i64 7) (.int .i64 0) (.int .i64 0) (.slice none 0 0)
  refine bodyPost_ret (res_ct rfl _ _ w.heap.size 74 _ _ _ rfl hF Tryd.underlying74 rfl (by kernel_rfl)) rfl ⟨rfl, hbw⟩
end Go.Proofs.YtndlcimckfndiaaDoor
