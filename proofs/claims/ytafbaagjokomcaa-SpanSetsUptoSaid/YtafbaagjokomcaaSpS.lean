/- Walks: alive of the spans' laws. -/
import Derived.Test.YtafbaagjokomcaaSpR
namespace Go.Proofs.Ytafbaagjokomcaa
open Go.RowKit
set_option maxRecDepth 100000

theorem alive_tidy : Sn.tidy (ones [3, 1, 2, 7, 300]) = [(1, 3), (7, 7)] := by decide +kernel
theorem alive_h7 : hasO [(1, 3), (7, 7)] 7 = true := by decide +kernel
theorem alive_h300 : hasO [(1, 3), (7, 7)] 300 = false := by decide +kernel
theorem alive_size : numTo (Sn.setOf [(1, 3), (7, 7)]) 256 = 4 := by decide +kernel

set_option maxHeartbeats 2000000 in
theorem aliveS_any (w : World) : Calls Try.prog 9 #[] w fun e w' => e = .returned (.bool true) ∧ Below w.heap.size w w' := by
  have h5max : 5 ≤ maxLen := by unfold maxLen; omega
  have hb0 : Below w.heap.size w (w.alloc (.cells #[.int .i64 3, .int .i64 1, .int .i64 2, .int .i64 7, .int .i64 300] 3)) := (Below.refl _ _).alloc (Nat.le_refl _) _
  have hR0 := Rd.new w 3 1 5 #[.int .i64 3, .int .i64 1, .int .i64 2, .int .i64 7, .int .i64 300] rfl h5max
  have G1 := spanOf_any (some ⟨w.heap.size, 0, none⟩) 5 5 [3, 1, 2, 7, 300] (w.alloc (.cells #[.int .i64 3, .int .i64 1, .int .i64 2, .int .i64 7, .int .i64 300] 3)) rfl (by rw [World.size_alloc]; exact hR0) (by omega)
  rw [alive_tidy] at G1
  have G1 := Lib.hid G1
  have HB := Lib.hid hb0
  have G2 := Lib.hid fun (W : World) (A : Option Addr) (c : Nat) hR => hasS_any A 2 c [(1, 3), (7, 7)] 7 W rfl hR
  have G3 := Lib.hid fun (W : World) (A : Option Addr) (c : Nat) hR => hasS_any A 2 c [(1, 3), (7, 7)] 300 W rfl hR
  have G4 := Lib.hid fun (W : World) (A : Option Addr) (c : Nat) hR => spSize_any A 2 c [(1, 3), (7, 7)] W rfl hR (by omega)
  rw [alive_h7] at G2
  rw [alive_h300] at G3
  rw [alive_size] at G4
  clear hR0 hb0
  go_enter Try.func9, Try.ntmps9
  go_wp2_with (go_at_call 10; go_must (refine G1.out.mono ?_); rintro e w1 ⟨A', c', rfl, ho, hb⟩; have hR := Rd.of_own ho; obtain ⟨b, o, rfl, _, h0, h1⟩ := hR.stamp (v := [(1, 3), (7, 7)]) rfl (show 0 < 2 by omega); have k0 : w1.cell? ⟨b, o, none⟩ = some (.int .i64 1) := h0; have k1 : w1.cell? ⟨b, o + 1, none⟩ = some (.int .i64 3) := h1; clear h0 h1; have HR := Lib.hid hR; have HO := Lib.hid (below_then HB.out (Nat.le_refl _) hb); clear hR ho hb G1; simp only [List.length_cons, List.length_nil])
  go_wp2_with (first
    | (go_at_call 19; (first
      | ((with_reducible refine (G2.out _ _ _ HR.out).mono ?_); rintro e w2 ⟨rfl, hb2⟩; have HR2 := Lib.hid (HR.out.go hb2))
      | ((with_reducible refine (G3.out _ _ _ HR2.out).mono ?_); rintro e w3 ⟨rfl, hb3⟩; have HR3 := Lib.hid (HR2.out.go hb3))))
    | (go_at_call 21; go_must (refine (G4.out _ _ _ HR3.out).mono ?_); rintro e w4 ⟨rfl, hb4⟩))
  go_ret
  exact ⟨rfl, below_then (below_then (below_then HO.out (Nat.le_refl _) hb2) (Nat.le_refl _) hb3) (Nat.le_refl _) hb4⟩
end Go.Proofs.Ytafbaagjokomcaa
