/- Walks: alive of the wire's laws: one message that asks, encoded and decoded. -/
import Derived.Test.YtndlcimckfndiaaDoorMWk
import Derived.Test.YtndlcimckfndiaaDoorMWa
namespace Go.Proofs.YtndlcimckfndiaaDoor
open Go.RowKit
set_option maxRecDepth 100000

/-- The message that asks for object 7. -/
def ask : Array Value := #[.int .i64 4, .int .i64 1, .int .i64 2, .int .i64 0, .int .i64 0, .slice none 0 0, .slice none 0 0, .slice none 0 0, .int .i64 7, .int .i64 0, .int .i64 0, .slice none 0 0]
set_option maxHeartbeats 4000000 in
theorem node_any (z : Int) (w : World) (h : 0 ≤ z ∧ z < 64) : Calls Tryd.prog 74 #[.int .i64 z] w fun e w' => e = .returned (.bool true) ∧ w' = w := by
  obtain ⟨h1, h2⟩ := h
  go_enter Tryd.func74, Tryd.ntmps74
  go_wp2
  go_ret
  exact ⟨rfl, rfl⟩
set_option maxHeartbeats 4000000 in
theorem formedAsk_any (w : World) : Calls Tryd.prog 40 #[.agg ask] w fun e w' => e = .returned (.bool true) ∧ Below w.heap.size w w' := by
  have H1 := Lib.hid fun W => node_any 1 W (by omega)
  have H2 := Lib.hid fun W => node_any 2 W (by omega)
  unfold ask
  go_enter Tryd.func40, Tryd.ntmps40
  go_wp2_with (go_at_call 74; (first
    | ((with_reducible refine (H2.out _).mono ?_); rintro e w' ⟨rfl, rfl⟩)
    | ((with_reducible refine (H1.out _).mono ?_); rintro e w' ⟨rfl, rfl⟩)))
  go_ret
  exact ⟨rfl, (Below.refl _ _).alloc (Nat.le_refl _) _⟩

theorem lay_1 (n : Nat) (h : n < 128) : Pk.lay n = [UInt8.ofNat n] := Pk.lay_small h
theorem layAsk3 : layAll [4, 1, 2] = [4, 1, 2] := by unfold layAll; simp [lay_1]
theorem layAsk1 : layAll [7] = [7] := by unfold layAll; simp [lay_1]

set_option maxHeartbeats 4000000 in
theorem encAsk_any (w : World) : Calls Tryd.prog 37 #[.agg ask] w fun e w' => ∃ A c, e = .returned (.tuple #[.slice A 4 c, .int .i64 0]) ∧ Rd w' w'.heap.size 1 A 4 c (bv [4, 1, 2, 7]) ∧ Below w.heap.size w w' := by
  have h1max : 1 ≤ maxLen := by unfold maxLen; omega
  have h3max : 3 ≤ maxLen := by unfold maxLen; omega
  have hb0 : Below w.heap.size w (w.alloc (.cells ask 74)) := (Below.refl _ _).alloc (Nat.le_refl _) _
  have hX := Blk.new w 74 ask
  have G1 := Lib.hid (formedAsk_any (w.alloc (.cells ask 74)))
  have HB := Lib.hid hb0
  have HX := Lib.hid hX
  have G2 := fun (W : World) (D : Option Addr) (d : Nat) (h : Rd W W.heap.size 1 D 3 d (iv [4, 1, 2])) => lay_any none D 0 0 3 d [] [4, 1, 2] W rfl Rd.none_ rfl h (by intro x hx; simp at hx; rcases hx with rfl | rfl | rfl <;> exact ⟨by decide, by decide⟩) (by omega) (by omega)
  rw [List.nil_append, layAsk3] at G2
  have G2 := Lib.hid G2
  have G3 := fun (W : World) (A D : Option Addr) (a d : Nat) (h1 : Rd W W.heap.size 1 A 3 a (bv [4, 1, 2])) (h : Rd W W.heap.size 1 D 1 d (iv [7])) => lay_any A D 3 a 1 d [4, 1, 2] [7] W rfl h1 rfl h (by intro x hx; simp at hx; subst hx; exact ⟨by decide, by decide⟩) (by omega) (by omega)
  rw [layAsk1] at G3
  have G3 := Lib.hid G3
  clear hb0 hX
  unfold ask at G1 HB HX ⊢
  go_enter Tryd.func37, Tryd.ntmps37
  go_wp2_with (go_at_call 40; go_must (refine G1.out.mono ?_); rintro e w1 ⟨rfl, hb1⟩; have hX1 := HX.out.go hb1; have q0 := hX1.cell 0; have q1 := hX1.cell 1; have q2 := hX1.cell 2; have q8 := hX1.cell 8)
  have hbA : Below w1.heap.size w1 (w1.alloc (.cells #[.int .i64 4, .int .i64 1, .int .i64 2] 3)) := (Below.refl _ _).alloc (Nat.le_refl _) _
  have HA := Lib.hid (Rd.new w1 3 1 3 #[.int .i64 4, .int .i64 1, .int .i64 2] rfl h3max)
  have HBA := Lib.hid hbA
  have HX1 := Lib.hid hX1
  have HBw := Lib.hid (below_then HB.out (Nat.le_refl _) hb1)
  clear hb1 hbA
  have hR7 := fun (W : World) => Rd.new W 3 1 1 #[.int .i64 7] rfl h1max
  have HR7 := Lib.hid fun (W : World) => (show Rd (W.alloc (.cells #[.int .i64 7] 3)) (W.alloc (.cells #[.int .i64 7] 3)).heap.size 1 (some ⟨W.heap.size, 0, none⟩) 1 1 (iv [7]) from by rw [World.size_alloc]; exact hR7 W)
  have HB7 := Lib.hid fun (W : World) => (show Below W.heap.size W (W.alloc (.cells #[.int .i64 7] 3)) from (Below.refl _ _).alloc (Nat.le_refl _) _)
  clear hR7
  go_wp2_with (go_at_call 49; (first
    | ((with_reducible refine (G3.out _ _ _ _ _ ((Rd.of_own ho2).go (HB7.out w2)) (HR7.out w2)).mono ?_); rintro e w3 ⟨u3, rfl, A3, c3, rfl, ho3, hb3⟩)
    | (refine (G2.out _ _ _ (by have h := HA.out; rw [World.size_alloc]; exact h)).mono ?_; rintro e w2 ⟨u2, rfl, A2, c2, rfl, ho2, hb2⟩; have hX2 := (HX1.out.go HBA.out).go hb2; have p0 := hX2.cell 0; have p8 := hX2.cell 8)))
  go_ret2
  exact ⟨A3, c3, rfl, Rd.of_own ho3, below_then (below_then (below_then (below_then HBw.out (Nat.le_refl _) HBA.out) (Nat.le_refl _) hb2) (Nat.le_refl _) (HB7.out w2)) (Nat.le_refl _) hb3⟩
end Go.Proofs.YtndlcimckfndiaaDoor
