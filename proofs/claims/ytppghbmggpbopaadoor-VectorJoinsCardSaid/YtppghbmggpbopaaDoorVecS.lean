/- Walks over law02.alive. -/
import Derived.Test.YtppghbmggpbopaaDoorVecR
namespace Go.Proofs.YtppghbmggpbopaaDoor
open Go.RowKit
set_option maxRecDepth 100000

theorem alive_vec : vec (jn [[(5, 0)], [(2, 3)]]) = [(5, 0), (2, 3)] := by decide +kernel
theorem alive_has : hasB [(5, 0), (2, 3)] (5, 0) = true := by decide +kernel
theorem alive_hasnt : hasB [(5, 0), (2, 3)] (3, 3) = false := by decide +kernel

set_option maxHeartbeats 2000000 in
theorem alive_any (w : World) (hT : Tab w) :
    Calls Tryd.prog 9 #[] w fun e w' => e = .returned (.bool true) ∧ Below w.heap.size w w' := by
  have h1max : 1 ≤ maxLen := by unfold maxLen; omega
  have hb1 : Below w.heap.size w (w.alloc (.cells #[.int .i64 5, .int .i64 0] 29)) := (Below.refl _ _).alloc (Nat.le_refl _) _
  have hS1 := Rd.new w 29 2 1 #[.int .i64 5, .int .i64 0] rfl h1max
  obtain ⟨W1, hW1⟩ : ∃ W1, W1 = w.alloc (.cells #[.int .i64 5, .int .i64 0] 29) := ⟨_, rfl⟩
  have hs1 : W1.heap.size = w.heap.size + 1 := by rw [hW1]; simp
  rw [← hW1] at hb1 hS1
  have hb2 : Below w.heap.size w (W1.alloc (.cells #[.int .i64 2, .int .i64 3] 29)) := hb1.alloc hb1.size _
  have hS2 := Rd.new W1 29 2 1 #[.int .i64 2, .int .i64 3] rfl h1max
  have hS1' := hS1.below (w' := W1.alloc (.cells #[.int .i64 2, .int .i64 3] 29)) ((Below.refl _ _).alloc (by omega) _)
  obtain ⟨W2, hW2⟩ : ∃ W2, W2 = W1.alloc (.cells #[.int .i64 2, .int .i64 3] 29) := ⟨_, rfl⟩
  have hs2 : W2.heap.size = w.heap.size + 1 + 1 := by rw [hW2]; simp; omega
  rw [← hW2] at hb2 hS2 hS1'
  rw [hs1, ← hs2] at hS2
  have hL := RdL.two (A := some ⟨w.heap.size, 0, none⟩) (n := 1) (c := 1) (u := [(5, 0)]) (D := some ⟨w.heap.size + 1, 0, none⟩) (m := 1) (d := 1) (v := [(2, 3)]) rfl rfl (hS1'.more (by omega)) hS2 22
  have hb3 := hb2.alloc (o := .cells #[.slice (some ⟨w.heap.size, 0, none⟩) 1 1, .slice (some ⟨w.heap.size + 1, 0, none⟩) 1 1] 22) hb2.size
  rw [hs2] at hL
  obtain ⟨W3, hW3⟩ : ∃ W3, W3 = W2.alloc (.cells #[.slice (some ⟨w.heap.size, 0, none⟩) 1 1, .slice (some ⟨w.heap.size + 1, 0, none⟩) 1 1] 22) := ⟨_, rfl⟩
  rw [← hW3] at hL hb3
  have H1 := Lib.hid (join_any _ 2 2 [[(5, 0)], [(2, 3)]] W3 (hT.below hb3) hL)
  rw [alive_vec] at H1
  rw [hW2, hW1] at hW3
  have HW := Lib.hid hW3.symm
  have hs3 := hb3.size
  clear hL hS1 hS1' hS2 hW3 hW1 hW2 hb1 hb2 hT
  go_enter Tryd.func9, Tryd.ntmps9
  go_wp2_with fail
  rw [HW.out]
  refine H1.out.mono ?_
  rintro e w1 ⟨A', c', rfl, ho, hb⟩
  have hbb := hb3.trans (hb.mono hs3)
  have hR := Rd.of_own ho
  have H2 := Lib.hid fun (W : World) hR => has_any A' 2 c' [(5, 0), (2, 3)] (5, 0) W rfl hR
  have H3 := Lib.hid fun (W : World) hR => has_any A' 2 c' [(5, 0), (2, 3)] (3, 3) W rfl hR
  rw [alive_has] at H2
  rw [alive_hasnt] at H3
  obtain ⟨b, o, rfl, _, h0, h1⟩ := hR.stamp rfl (show 1 < 2 by omega)
  have HR := Lib.hid hR
  have HO := Lib.hid hbb
  clear H1 HW ho hb hbb hR hb3
  simp only [List.length_cons, List.length_nil]
  go_wp2_with fail
  refine (H2.out w1 HR.out).mono ?_
  rintro e w2 ⟨rfl, hb2⟩
  have hb4 := below_then HO.out (Nat.le_refl _) hb2
  have HR2 := Lib.hid (HR.out.go hb2)
  clear H2 hb2
  go_wp2_with fail
  refine (H3.out w2 HR2.out).mono ?_
  rintro e w4 ⟨rfl, hb5⟩
  have hb6 := below_then hb4 (Nat.le_refl _) hb5
  clear H3 hb5 hb4
  go_wp2
  go_ret
  exact ⟨rfl, hb6⟩
end Go.Proofs.YtppghbmggpbopaaDoor
