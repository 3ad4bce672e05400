/- Walks over cmp.Or at int, stamp.Compare, note.Merge's order of writes. -/
import Derived.Test.YtnibkniggiokkaaDoorNmT
import Derived.Test.YtnibkniggiokkaaDoorMNm
import Derived.Test.YtnibkniggiokkaaDoorCmp
import Derived.Test.YtnibkniggiokkaaDoorReg
namespace Go.Proofs.YtnibkniggiokkaaDoor
open Go.RowKit Go.Shelf Go.Sort Go.Lib
set_option maxRecDepth 100000

/-- Draws and blocks of its own are all that came. -/
def Gr (w w' : World) : Prop := ∃ q os, w' = grow (w.drewN q) os
theorem Gr.refl (w : World) : Gr w w := ⟨0, #[], by rw [grow_empty]; rfl⟩
theorem Gr.drew1 (w : World) : Gr w w.drew := ⟨1, #[], by rw [grow_empty]; rfl⟩
theorem Gr.alloc1 (w : World) (o : Obj) : Gr w (w.alloc o) := ⟨0, #[o], by rw [alloc_eq_grow]; rfl⟩
theorem Gr.trans {a b c : World} (h : Gr a b) (h' : Gr b c) : Gr a c := by
  obtain ⟨q, os, rfl⟩ := h
  obtain ⟨q', os', rfl⟩ := h'
  exact ⟨q + q', os ++ os', by show grow (grow ((a.drewN q).drewN q') os) os' = _; rw [grow_grow, World.drewN_drewN]⟩
theorem Gr.cell {a b : World} (h : Gr a b) {p : Addr} {v : Value} (hp : p.block < a.heap.size) (hc : a.cell? p = some v) : b.cell? p = some v := by
  obtain ⟨q, os, rfl⟩ := h
  exact cell_grown hp hc q os
theorem Gr.size {a b : World} (h : Gr a b) : a.heap.size ≤ b.heap.size := by
  obtain ⟨q, os, rfl⟩ := h
  rw [size_grow]; exact Nat.le_add_right _ _

def orI (x y : Int) : Int := if x = 0 then y else x
theorem or_any (G : Nat) (x y : Int) (w : World) (h0 : w.cell? ⟨G, 0, none⟩ = some (.int .i64 x)) (h1 : w.cell? ⟨G, 1, none⟩ = some (.int .i64 y)) :
    Calls Tryd.prog 53 #[.slice (some ⟨G, 0, none⟩) 2 2] w fun e w' => e = .returned (.int .i64 (orI x y)) ∧ w = w' := by
  have HO := Lib.hid (show orI x y = if x = 0 then y else x from rfl)
  generalize orI x y = z at HO ⊢
  go_enter Tryd.func53, Tryd.ntmps53
  go_wp2
  go_loopw [5, 8] (fun v5 v8 wr => ∃ k : Nat, v8 = .int .i64 k ∧ k ≤ 2 ∧ w = wr ∧ Hid (1 ≤ k → x = 0) ∧ Hid (2 ≤ k → y = 0)) (fun _ v8 _ => 2 - (intOf v8).toNat)
  case atStart => exact ⟨0, rfl, by omega, rfl, fun h => by omega, fun h => by omega⟩
  case round =>
    obtain ⟨k, rfl, hk, rfl, HX, HY⟩ := hrel
    rcases Nat.lt_or_ge k 1 with hk1 | hk1
    · obtain rfl : k = 0 := by omega
      by_cases hx : x = 0
      · have hxb : (x != 0) = false := by rw [hx]; rfl
        have HZ := Lib.hid hx
        clear hx
        go_wp2
        go_roundw
        case rel => exact ⟨1, rfl, by omega, by first | rfl | trivial, fun _ => HZ.out, fun h => by omega⟩
        case measure => simp [intOf]
      · have hxb : (x != 0) = true := bne_iff_ne.2 hx
        have HZ := Lib.hid (HO.out.trans (if_neg hx))
        clear hx
        go_wp2
        go_ret
        exact ⟨by rw [HZ.out]; rfl, rfl⟩
    · rcases Nat.lt_or_ge k 2 with hk2 | hk2
      · obtain rfl : k = 1 := by omega
        have HX0 := Lib.hid (HO.out.trans (if_pos (HX.out hk1)))
        by_cases hy : y = 0
        · have hyb : (y != 0) = false := by rw [hy]; rfl
          have HZ := Lib.hid hy
          clear hy
          go_wp2
          go_roundw
          case rel => exact ⟨2, rfl, by omega, by first | rfl | trivial, fun _ => HX.out hk1, fun h => HZ.out⟩
          case measure => simp [intOf]
        · have hyb : (y != 0) = true := bne_iff_ne.2 hy
          clear hy
          go_wp2
          go_ret
          exact ⟨by rw [HX0.out]; rfl, rfl⟩
      · obtain rfl : k = 2 := by omega
        have HX0 := Lib.hid ((HO.out.trans (if_pos (HX.out hk1))).trans (HY.out hk2))
        go_wp2
        go_ret
        exact ⟨by rw [HX0.out]; rfl, rfl⟩

def stC (a b : Vc.St) : Int := orI (cmpI a.1 b.1) (cmpI a.2 b.2)
theorem stC_lt (a b : Vc.St) : decide (stC a b < 0) = stLt a b := by
  unfold stC orI cmpI stLt
  by_cases h1 : a.1 < b.1
  · simp [h1]
  · by_cases h2 : b.1 < a.1
    · have : ¬ a.1 = b.1 := by omega
      simp [h1, h2, this]
    · have : a.1 = b.1 := by omega
      by_cases h3 : a.2 < b.2
      · simp [this, h3]
      · by_cases h4 : b.2 < a.2 <;> simp [this, h3, h4]
def wCf (v w : Wr) : Int := orI (cmpI v.2.1 w.2.1) (stC w.1 v.1)
theorem wCf_lt : ltOf wCf = wLt := by
  funext v w
  unfold ltOf wCf wLt
  rw [← stC_lt]
  unfold orI cmpI
  by_cases h1 : v.2.1 < w.2.1
  · simp [h1]
  · by_cases h2 : w.2.1 < v.2.1
    · have : ¬ v.2.1 = w.2.1 := by omega
      simp [h1, h2, this]
    · have : v.2.1 = w.2.1 := by omega
      simp [this]



set_option maxHeartbeats 4000000 in
theorem stampCompare_z {a1 a2 b1 b2 z1 z2 : Int} (H1 : ∀ W, Calls Tryd.prog 54 #[.int .i64 a1, .int .i64 b1] W fun e w' => e = .returned (.int .i64 z1) ∧ W = w') (H2 : ∀ W, Calls Tryd.prog 54 #[.int .i64 a2, .int .i64 b2] W fun e w' => e = .returned (.int .i64 z2) ∧ W = w') (w : World) : Calls Tryd.prog 55 #[.agg #[.int .i64 a1, .int .i64 a2], .agg #[.int .i64 b1, .int .i64 b2]] w fun e w' => e = .returned (.int .i64 (orI z1 z2)) ∧ Gr w w' := by
  have H1 := Lib.hid H1
  have H2 := Lib.hid H2
  obtain ⟨w0, hw0⟩ : ∃ w0, w0 = (w.alloc (.cells #[.int .i64 a1, .int .i64 a2] 44)).alloc (.cells #[.int .i64 b1, .int .i64 b2] 44) := ⟨_, rfl⟩
  have HG := Lib.hid (show Gr w w0 from by rw [hw0]; exact (Gr.alloc1 _ _).trans (Gr.alloc1 _ _))
  have HS := Lib.hid (show ∀ W, Gr w0 W → (W.cell? ⟨w.heap.size, 0, none⟩ = some (.int .i64 a1) ∧ W.cell? ⟨w.heap.size, 1, none⟩ = some (.int .i64 a2) ∧ W.cell? ⟨w.heap.size + 1, 0, none⟩ = some (.int .i64 b1) ∧ W.cell? ⟨w.heap.size + 1, 1, none⟩ = some (.int .i64 b2)) from fun W h => by
    have hsz : w0.heap.size = w.heap.size + 2 := by rw [hw0]; simp
    refine ⟨h.cell (by dsimp only; omega) (by rw [hw0]; simp), h.cell (by dsimp only; omega) (by rw [hw0]; simp), h.cell (by dsimp only; omega) (by rw [hw0]; simp), h.cell (by dsimp only; omega) (by rw [hw0]; simp)⟩)
  have H3 := Lib.hid fun G W h0 h1 => or_any G z1 z2 W h0 h1
  generalize orI z1 z2 = z at H3 ⊢
  have HW := Lib.hid hw0.symm
  clear hw0
  have k := Gr.drew1 w0
  go_enter Tryd.func55, Tryd.ntmps55
  go_wp2_with fail
  rw [HW.out]
  refine region_nrm fun KK hKK => ?_
  refine wp_region_held_drew (S := (fun W => W.cell? ⟨w.heap.size, 0, none⟩ = some (.int .i64 a1) ∧ W.cell? ⟨w.heap.size, 1, none⟩ = some (.int .i64 a2) ∧ W.cell? ⟨w.heap.size + 1, 0, none⟩ = some (.int .i64 b1) ∧ W.cell? ⟨w.heap.size + 1, 1, none⟩ = some (.int .i64 b2))) (by kernel_rfl) (by first | exact HS.out _ k) (fun hHeld => ?_)
  refine wpAnyH_putD (i := 0) (d := 5) (v := ?_) rfl rfl (by kernel_rfl) (by kernel_rfl) (by kernel_rfl) (fun _ _ _ h => h) (Or.inl ⟨by kernel_rfl, ?_⟩) (by first | exact HS.out _ k) ?_
  rotate_left
  · (intro w hS; (try dsimp only at hS); go_simp <;> with_reducible rfl)
  try simp only [List.setIfInBounds_toArray, List.set_cons_zero, List.set_cons_succ]
  refine wpAnyH_putD (i := 1) (d := 6) (v := ?_) rfl rfl (by kernel_rfl) (by kernel_rfl) (by kernel_rfl) (fun _ _ _ h => h) (Or.inl ⟨by kernel_rfl, ?_⟩) (by first | exact HS.out _ k) ?_
  rotate_left
  · (intro w hS; (try dsimp only at hS); go_simp <;> with_reducible rfl)
  try simp only [List.setIfInBounds_toArray, List.set_cons_zero, List.set_cons_succ]
  refine wpAnyH_putD (i := 2) (d := 7) (v := ?_) rfl rfl (by kernel_rfl) (by kernel_rfl) (by kernel_rfl) (fun _ _ _ h => h) (Or.inl ⟨by kernel_rfl, ?_⟩) (by first | exact HS.out _ k) ?_
  rotate_left
  · (intro w hS; (try dsimp only at hS); go_simp <;> with_reducible rfl)
  try simp only [List.setIfInBounds_toArray, List.set_cons_zero, List.set_cons_succ]
  refine wpAnyH_putD (i := 3) (d := 8) (v := ?_) rfl rfl (by kernel_rfl) (by kernel_rfl) (by kernel_rfl) (fun _ _ _ h => h) (Or.inl ⟨by kernel_rfl, ?_⟩) (by first | exact HS.out _ k) ?_
  rotate_left
  · (intro w hS; (try dsimp only at hS); go_simp <;> with_reducible rfl)
  try simp only [List.setIfInBounds_toArray, List.set_cons_zero, List.set_cons_succ]
  refine wpAnyH_putD (i := 5) (d := 10) (v := ?_) rfl rfl (by kernel_rfl) (by kernel_rfl) (by kernel_rfl) (fun _ _ _ h => h) (Or.inl ⟨by kernel_rfl, ?_⟩) (by first | exact HS.out _ k) ?_
  rotate_left
  · (intro w hS; (try dsimp only at hS); go_simp <;> with_reducible rfl)
  try simp only [List.setIfInBounds_toArray, List.set_cons_zero, List.set_cons_succ]
  refine wpAnyH_putD (i := 6) (d := 11) (v := ?_) rfl rfl (by kernel_rfl) (by kernel_rfl) (by kernel_rfl) (fun _ _ _ h => h) (Or.inl ⟨by kernel_rfl, ?_⟩) (by first | exact HS.out _ k) ?_
  rotate_left
  · (intro w hS; (try dsimp only at hS); go_simp <;> with_reducible rfl)
  try simp only [List.setIfInBounds_toArray, List.set_cons_zero, List.set_cons_succ]
  refine wpAnyH_putD (i := 7) (d := 12) (v := ?_) rfl rfl (by kernel_rfl) (by kernel_rfl) (by kernel_rfl) (fun _ _ _ h => h) (Or.inl ⟨by kernel_rfl, ?_⟩) (by first | exact HS.out _ k) ?_
  rotate_left
  · (intro w hS; (try dsimp only at hS); go_simp <;> with_reducible rfl)
  try simp only [List.setIfInBounds_toArray, List.set_cons_zero, List.set_cons_succ]
  refine wpAnyH_putD (i := 8) (d := 13) (v := ?_) rfl rfl (by kernel_rfl) (by kernel_rfl) (by kernel_rfl) (fun _ _ _ h => h) (Or.inl ⟨by kernel_rfl, ?_⟩) (by first | exact HS.out _ k) ?_
  rotate_left
  · (intro w hS; (try dsimp only at hS); go_simp <;> with_reducible rfl)
  try simp only [List.setIfInBounds_toArray, List.set_cons_zero, List.set_cons_succ]
  refine wpAnyH_ready (rs := [4]) (by kernel_rfl) (by simp) ?_
  refine AllReadyH.cons rfl (fun K hK => ?_) AllReadyH.nil
  go_simp
  refine (H1.out _).mono ?_
  rintro e V ⟨rfl, rfl⟩
  refine hK.out _ _ (by first | exact HS.out _ k) (fun hHeld => ?_)
  clear hK K
  refine wpAnyH_ready (rs := [9]) (by kernel_rfl) (by simp) ?_
  refine AllReadyH.cons rfl (fun K hK => ?_) AllReadyH.nil
  go_simp
  refine (H2.out _).mono ?_
  rintro e V ⟨rfl, rfl⟩
  refine hK.out _ _ (by first | exact HS.out _ k) (fun hHeld => ?_)
  clear hK K
  refine wpAnyH_ready (rs := [10]) (by kernel_rfl) (by simp) ?_
  refine AllReadyH.cons rfl (fun K hK => ?_) AllReadyH.nil
  go_simp
  have k := k.trans (Gr.alloc1 _ (.cells #[.int .i64 z1, .int .i64 z2] 3))
  refine hK.out _ _ (by first | exact HS.out _ k) (fun hHeld => ?_)
  clear hK K
  refine wpAnyH_ready (rs := [11]) (by kernel_rfl) (by simp) ?_
  refine AllReadyH.cons rfl (fun K hK => ?_) AllReadyH.nil
  go_simp
  refine (H3.out _ _ (by simp) (by simp)).mono ?_
  rintro e w3 ⟨rfl, rfl⟩
  refine hK.out _ _ (by first | exact HS.out _ k) (fun hHeld => ?_)
  clear hK K
  refine wpAnyH_putD (i := 12) (d := 4) (v := ?_) rfl rfl (by kernel_rfl) (by kernel_rfl) (by kernel_rfl) (fun _ _ _ h => h) (Or.inl ⟨by kernel_rfl, ?_⟩) (by first | exact HS.out _ k) ?_
  rotate_left
  · (intro w hS; (try dsimp only at hS); go_simp <;> with_reducible rfl)
  try simp only [List.setIfInBounds_toArray, List.set_cons_zero, List.set_cons_succ]
  refine wpAnyH_done (by kernel_rfl) ?_ _
  refine Nrm.out (hKK _ _ ?_)
  go_wp2
  go_ret
  exact ⟨by simp, HG.out.trans k⟩

set_option maxHeartbeats 4000000 in
theorem mergeCmp_z {a1 a2 a3 b1 b2 b3 z1 z2 : Int} {a4 b4 : Bool} (H1 : ∀ W, Calls Tryd.prog 54 #[.int .i64 a3, .int .i64 b3] W fun e w' => e = .returned (.int .i64 z1) ∧ W = w') (H2 : ∀ W, Calls Tryd.prog 55 #[.agg #[.int .i64 b1, .int .i64 b2], .agg #[.int .i64 a1, .int .i64 a2]] W fun e w' => e = .returned (.int .i64 z2) ∧ Gr W w') (w : World) : Calls Tryd.prog 52 #[.agg #[.int .i64 a1, .int .i64 a2, .int .i64 a3, .bool a4], .agg #[.int .i64 b1, .int .i64 b2, .int .i64 b3, .bool b4]] w fun e w' => e = .returned (.int .i64 (orI z1 z2)) ∧ Gr w w' := by
  have H1 := Lib.hid H1
  have H2 := Lib.hid H2
  obtain ⟨w0, hw0⟩ : ∃ w0, w0 = (w.alloc (.cells #[.int .i64 a1, .int .i64 a2, .int .i64 a3, .bool a4] 46)).alloc (.cells #[.int .i64 b1, .int .i64 b2, .int .i64 b3, .bool b4] 46) := ⟨_, rfl⟩
  have HG := Lib.hid (show Gr w w0 from by rw [hw0]; exact (Gr.alloc1 _ _).trans (Gr.alloc1 _ _))
  have HS := Lib.hid (show ∀ W, Gr w0 W → (W.cell? ⟨w.heap.size, 0, none⟩ = some (.int .i64 a1) ∧ W.cell? ⟨w.heap.size, 1, none⟩ = some (.int .i64 a2) ∧ W.cell? ⟨w.heap.size, 2, none⟩ = some (.int .i64 a3) ∧ W.cell? ⟨w.heap.size, 3, none⟩ = some (.bool a4) ∧ W.cell? ⟨w.heap.size + 1, 0, none⟩ = some (.int .i64 b1) ∧ W.cell? ⟨w.heap.size + 1, 1, none⟩ = some (.int .i64 b2) ∧ W.cell? ⟨w.heap.size + 1, 2, none⟩ = some (.int .i64 b3) ∧ W.cell? ⟨w.heap.size + 1, 3, none⟩ = some (.bool b4)) from fun W h => by
    have hsz : w0.heap.size = w.heap.size + 2 := by rw [hw0]; simp
    refine ⟨h.cell (by dsimp only; omega) (by rw [hw0]; simp), h.cell (by dsimp only; omega) (by rw [hw0]; simp), h.cell (by dsimp only; omega) (by rw [hw0]; simp), h.cell (by dsimp only; omega) (by rw [hw0]; simp), h.cell (by dsimp only; omega) (by rw [hw0]; simp), h.cell (by dsimp only; omega) (by rw [hw0]; simp), h.cell (by dsimp only; omega) (by rw [hw0]; simp), h.cell (by dsimp only; omega) (by rw [hw0]; simp)⟩)
  have H3 := Lib.hid fun G W h0 h1 => or_any G z1 z2 W h0 h1
  generalize orI z1 z2 = z at H3 ⊢
  have HW := Lib.hid hw0.symm
  clear hw0
  have k := Gr.drew1 w0
  go_enter Tryd.func52, Tryd.ntmps52
  go_wp2_with fail
  rw [HW.out]
  refine region_nrm fun KK hKK => ?_
  refine wp_region_held_drew (S := (fun W => W.cell? ⟨w.heap.size, 0, none⟩ = some (.int .i64 a1) ∧ W.cell? ⟨w.heap.size, 1, none⟩ = some (.int .i64 a2) ∧ W.cell? ⟨w.heap.size, 2, none⟩ = some (.int .i64 a3) ∧ W.cell? ⟨w.heap.size, 3, none⟩ = some (.bool a4) ∧ W.cell? ⟨w.heap.size + 1, 0, none⟩ = some (.int .i64 b1) ∧ W.cell? ⟨w.heap.size + 1, 1, none⟩ = some (.int .i64 b2) ∧ W.cell? ⟨w.heap.size + 1, 2, none⟩ = some (.int .i64 b3) ∧ W.cell? ⟨w.heap.size + 1, 3, none⟩ = some (.bool b4))) (by kernel_rfl) (by first | exact HS.out _ k) (fun hHeld => ?_)
  refine wpAnyH_putD (i := 0) (d := 5) (v := ?_) rfl rfl (by kernel_rfl) (by kernel_rfl) (by kernel_rfl) (fun _ _ _ h => h) (Or.inl ⟨by kernel_rfl, ?_⟩) (by first | exact HS.out _ k) ?_
  rotate_left
  · (intro w hS; (try dsimp only at hS); go_simp <;> with_reducible rfl)
  try simp only [List.setIfInBounds_toArray, List.set_cons_zero, List.set_cons_succ]
  refine wpAnyH_putD (i := 1) (d := 6) (v := ?_) rfl rfl (by kernel_rfl) (by kernel_rfl) (by kernel_rfl) (fun _ _ _ h => h) (Or.inl ⟨by kernel_rfl, ?_⟩) (by first | exact HS.out _ k) ?_
  rotate_left
  · (intro w hS; (try dsimp only at hS); go_simp <;> with_reducible rfl)
  try simp only [List.setIfInBounds_toArray, List.set_cons_zero, List.set_cons_succ]
  refine wpAnyH_putD (i := 2) (d := 7) (v := ?_) rfl rfl (by kernel_rfl) (by kernel_rfl) (by kernel_rfl) (fun _ _ _ h => h) (Or.inl ⟨by kernel_rfl, ?_⟩) (by first | exact HS.out _ k) ?_
  rotate_left
  · (intro w hS; (try dsimp only at hS); go_simp <;> with_reducible rfl)
  try simp only [List.setIfInBounds_toArray, List.set_cons_zero, List.set_cons_succ]
  refine wpAnyH_putD (i := 3) (d := 8) (v := ?_) rfl rfl (by kernel_rfl) (by kernel_rfl) (by kernel_rfl) (fun _ _ _ h => h) (Or.inl ⟨by kernel_rfl, ?_⟩) (by first | exact HS.out _ k) ?_
  rotate_left
  · (intro w hS; (try dsimp only at hS); go_simp <;> with_reducible rfl)
  try simp only [List.setIfInBounds_toArray, List.set_cons_zero, List.set_cons_succ]
  refine wpAnyH_putD (i := 5) (d := 10) (v := ?_) rfl rfl (by kernel_rfl) (by kernel_rfl) (by kernel_rfl) (fun _ _ _ h => h) (Or.inl ⟨by kernel_rfl, ?_⟩) (by first | exact HS.out _ k) ?_
  rotate_left
  · (intro w hS; (try dsimp only at hS); go_simp <;> with_reducible rfl)
  try simp only [List.setIfInBounds_toArray, List.set_cons_zero, List.set_cons_succ]
  refine wpAnyH_putD (i := 6) (d := 11) (v := ?_) rfl rfl (by kernel_rfl) (by kernel_rfl) (by kernel_rfl) (fun _ _ _ h => h) (Or.inl ⟨by kernel_rfl, ?_⟩) (by first | exact HS.out _ k) ?_
  rotate_left
  · (intro w hS; (try dsimp only at hS); go_simp <;> with_reducible rfl)
  try simp only [List.setIfInBounds_toArray, List.set_cons_zero, List.set_cons_succ]
  refine wpAnyH_putD (i := 7) (d := 12) (v := ?_) rfl rfl (by kernel_rfl) (by kernel_rfl) (by kernel_rfl) (fun _ _ _ h => h) (Or.inl ⟨by kernel_rfl, ?_⟩) (by first | exact HS.out _ k) ?_
  rotate_left
  · (intro w hS; (try dsimp only at hS); go_simp <;> with_reducible rfl)
  try simp only [List.setIfInBounds_toArray, List.set_cons_zero, List.set_cons_succ]
  refine wpAnyH_putD (i := 8) (d := 13) (v := ?_) rfl rfl (by kernel_rfl) (by kernel_rfl) (by kernel_rfl) (fun _ _ _ h => h) (Or.inl ⟨by kernel_rfl, ?_⟩) (by first | exact HS.out _ k) ?_
  rotate_left
  · (intro w hS; (try dsimp only at hS); go_simp <;> with_reducible rfl)
  try simp only [List.setIfInBounds_toArray, List.set_cons_zero, List.set_cons_succ]
  refine wpAnyH_ready (rs := [4]) (by kernel_rfl) (by simp) ?_
  refine AllReadyH.cons rfl (fun K hK => ?_) AllReadyH.nil
  go_simp
  refine (H1.out _).mono ?_
  rintro e V ⟨rfl, rfl⟩
  refine hK.out _ _ (by first | exact HS.out _ k) (fun hHeld => ?_)
  clear hK K
  refine wpAnyH_ready (rs := [9]) (by kernel_rfl) (by simp) ?_
  refine AllReadyH.cons rfl (fun K hK => ?_) AllReadyH.nil
  go_simp
  refine (H2.out _).mono ?_
  rintro e U ⟨rfl, hk⟩
  have k := k.trans hk
  clear hk
  refine hK.out _ _ (by first | exact HS.out _ k) (fun hHeld => ?_)
  clear hK K
  refine wpAnyH_ready (rs := [10]) (by kernel_rfl) (by simp) ?_
  refine AllReadyH.cons rfl (fun K hK => ?_) AllReadyH.nil
  go_simp
  have k := k.trans (Gr.alloc1 _ (.cells #[.int .i64 z1, .int .i64 z2] 3))
  refine hK.out _ _ (by first | exact HS.out _ k) (fun hHeld => ?_)
  clear hK K
  refine wpAnyH_ready (rs := [11]) (by kernel_rfl) (by simp) ?_
  refine AllReadyH.cons rfl (fun K hK => ?_) AllReadyH.nil
  go_simp
  refine (H3.out _ _ (by simp) (by simp)).mono ?_
  rintro e w3 ⟨rfl, rfl⟩
  refine hK.out _ _ (by first | exact HS.out _ k) (fun hHeld => ?_)
  clear hK K
  refine wpAnyH_putD (i := 12) (d := 4) (v := ?_) rfl rfl (by kernel_rfl) (by kernel_rfl) (by kernel_rfl) (fun _ _ _ h => h) (Or.inl ⟨by kernel_rfl, ?_⟩) (by first | exact HS.out _ k) ?_
  rotate_left
  · (intro w hS; (try dsimp only at hS); go_simp <;> with_reducible rfl)
  try simp only [List.setIfInBounds_toArray, List.set_cons_zero, List.set_cons_succ]
  refine wpAnyH_done (by kernel_rfl) ?_ _
  refine Nrm.out (hKK _ _ ?_)
  go_wp2
  go_ret
  exact ⟨by simp, HG.out.trans k⟩

theorem stampCompare_any (a b : Vc.St) (w : World) : Calls Tryd.prog 55 #[.agg #[.int .i64 a.1, .int .i64 a.2], .agg #[.int .i64 b.1, .int .i64 b.2]] w fun e w' => e = .returned (.int .i64 (stC a b)) ∧ Gr w w' :=
  stampCompare_z (fun W => cmpI_any _ _ W) (fun W => cmpI_any _ _ W) w
theorem mergeCmp_any (x y : Wr) (w : World) : Calls Tryd.prog 52 #[.agg (wc x).toArray, .agg (wc y).toArray] w fun e w' => e = .returned (.int .i64 (wCf x y)) ∧ Gr w w' :=
  mergeCmp_z (fun W => cmpI_any _ _ W) (fun W => stampCompare_any _ _ W) w
end Go.Proofs.YtnibkniggiokkaaDoor
