/- Walks over the document's Body as bytes and its SameBody (printed by wip/tools/genWrW.py). -/
import Derived.Test.YtndlcimckfndiaaDoorWrV
import Derived.Test.YtndlcimckfndiaaDoorWrP
namespace Go.Proofs.YtndlcimckfndiaaDoor
open Go.RowKit
set_option maxRecDepth 100000

set_option maxHeartbeats 8000000 in
theorem refBodyBytes_any (x : Wq.Bd) (Av : Option Addr) (cv : Nat) (w : World) (hR : Rd w w.heap.size 1 Av x.v.length cv (bv x.v)) (hf : Wq.bdF x = true) (hc : x.s.1 < 9223372036854775808) :
    Calls Tryd.prog 32 #[.agg (bval x Av cv)] w fun e w' => ∃ v, e = .returned v ∧ BytesAre w.heap.size w (Wq.lB x) v w' := by
  obtain ⟨i0, hi0, hz0, hz1, hz2⟩ := info_parts u8_info
  obtain ⟨ho0, ho1, ha0, hb0, hb1, hv⟩ := (Wq.bdF_iff x).1 hf
  obtain ⟨o, ⟨a, b⟩, v⟩ := x
  dsimp only at *
  obtain ⟨p, rfl⟩ : ∃ p : Nat, o = (p : Int) := ⟨o.toNat, by omega⟩
  obtain ⟨q, rfl⟩ : ∃ q : Nat, a = (q : Int) := ⟨a.toNat, by omega⟩
  obtain ⟨r, rfl⟩ : ∃ r : Nat, b = (r : Int) := ⟨b.toNat, by omega⟩
  have hx9 : (Pk.lay p).length ≤ 9 := Pk.lay_len9 (by omega)
  have hy9 : (Pk.lay r).length ≤ 9 := Pk.lay_len9 (by omega)
  have hz9 : (Pk.lay q).length ≤ 9 := Pk.lay_len9 (by omega)
  have hn9 : (Pk.lay v.length).length ≤ 9 := Pk.lay_len9 (by omega)
  have G1 := fun W => refBytes_any p W (by omega)
  have G2 := fun W => refBytes_any r W (by omega)
  have G3 := fun W => refBytes_any q W (by omega)
  obtain ⟨lx, hlx⟩ : ∃ lx, lx = (Pk.lay p).length := ⟨_, rfl⟩
  obtain ⟨ly, hly⟩ : ∃ ly, ly = (Pk.lay r).length := ⟨_, rfl⟩
  obtain ⟨lz, hlz⟩ : ∃ lz, lz = (Pk.lay q).length := ⟨_, rfl⟩
  obtain ⟨ln, hln⟩ : ∃ ln, ln = (Pk.lay v.length).length := ⟨_, rfl⟩
  obtain ⟨m, hm⟩ : ∃ m, m = v.length := ⟨_, rfl⟩
  have GL := fun W (hb : Below w.heap.size w W) => refLaid_any Av m cv v W (by rw [hm]; exact hR.go hb) (by omega)
  rw [← hm] at hln
  rw [← hln] at GL
  rw [← hlx] at G1 hx9
  rw [← hly] at G2 hy9
  rw [← hlz] at G3 hz9
  rw [← hm, ← hln] at hn9
  rw [← hm] at hv
  unfold bval
  dsimp only
  rw [← hm]
  have G1 := Lib.hid G1
  have G2 := Lib.hid G2
  have G3 := Lib.hid G3
  have GL := Lib.hid GL
  have HLL := Lib.hid (And.intro hlx (And.intro hly (And.intro hlz (And.intro hln hm))))
  have h63 : lx + ly ≤ maxLen := by unfold maxLen; omega
  have h63b : lx + ly + lz ≤ maxLen := by unfold maxLen; omega
  have h63c : lx + ly + lz + (ln + m) ≤ maxLen := by unfold maxLen; omega
  have hX := Blk.new w 63 #[.int .i64 (p : Int), .int .i64 (q : Int), .int .i64 (r : Int), .slice Av m cv]
  have hbX : Below w.heap.size w (w.alloc (.cells #[.int .i64 (p : Int), .int .i64 (q : Int), .int .i64 (r : Int), .slice Av m cv] 63)) := (Below.refl _ _).alloc (Nat.le_refl _) _
  obtain ⟨W0, hW0⟩ : ∃ W0, W0 = w.alloc (.cells #[.int .i64 (p : Int), .int .i64 (q : Int), .int .i64 (r : Int), .slice Av m cv] 63) := ⟨_, rfl⟩
  have hs0 : W0.heap.size = w.heap.size + 1 := by rw [hW0]; simp
  rw [← hW0] at hX hbX
  have HW := Lib.hid hW0.symm
  have HX := Lib.hid hX
  have HB := Lib.hid hbX
  have HS := Lib.hid fun W (hb : Below W0.heap.size W0 W) => (HX.out.go hb).four
  clear hR hf hc hlx hly hlz hln hm hX hbX hW0 ho0 ho1 ha0 hb0 hb1
  go_enter Tryd.func32, Tryd.ntmps32
  go_wp2_with fail
  rw [HW.out]
  have kw : Below W0.heap.size W0 W0.drew := (Below.refl _ _).drew
  refine region_nrm fun KK hKK => ?_
  refine wp_region_held_drew (S := (fun W => W.cell? ⟨w.heap.size, 0, none⟩ = some (.int .i64 (p : Int)) ∧ W.cell? ⟨w.heap.size, 1, none⟩ = some (.int .i64 (q : Int)) ∧ W.cell? ⟨w.heap.size, 2, none⟩ = some (.int .i64 (r : Int)) ∧ W.cell? ⟨w.heap.size, 3, none⟩ = some (.slice Av m cv))) (by kernel_rfl) (by first | exact HS.out _ kw) (fun hHeld => ?_)
  refine wpAnyH_putD (i := 0) (d := 4) (v := ?_) rfl rfl (by kernel_rfl) (by kernel_rfl) (by kernel_rfl) (fun _ _ _ h => h) (Or.inl ⟨by kernel_rfl, ?_⟩) (by first | exact HS.out _ kw) ?_
  rotate_left
  · (intro w hS; (try dsimp only at hS); go_simp <;> with_reducible rfl)
  try simp only [List.setIfInBounds_toArray, List.set_cons_zero, List.set_cons_succ]
  refine wpAnyH_putD (i := 1) (d := 5) (v := ?_) rfl rfl (by kernel_rfl) (by kernel_rfl) (by kernel_rfl) (fun _ _ _ h => h) (Or.inl ⟨by kernel_rfl, ?_⟩) (by first | exact HS.out _ kw) ?_
  rotate_left
  · (intro w hS; (try dsimp only at hS); go_simp <;> with_reducible rfl)
  try simp only [List.setIfInBounds_toArray, List.set_cons_zero, List.set_cons_succ]
  refine wpAnyH_putD (i := 3) (d := 7) (v := ?_) rfl rfl (by kernel_rfl) (by kernel_rfl) (by kernel_rfl) (fun _ _ _ h => h) (Or.inl ⟨by kernel_rfl, ?_⟩) (by first | exact HS.out _ kw) ?_
  rotate_left
  · (intro w hS; (try dsimp only at hS); go_simp <;> with_reducible rfl)
  try simp only [List.setIfInBounds_toArray, List.set_cons_zero, List.set_cons_succ]
  refine wpAnyH_putD (i := 4) (d := 8) (v := ?_) rfl rfl (by kernel_rfl) (by kernel_rfl) (by kernel_rfl) (fun _ _ _ h => h) (Or.inl ⟨by kernel_rfl, ?_⟩) (by first | exact HS.out _ kw) ?_
  rotate_left
  · (intro w hS; (try dsimp only at hS); go_simp <;> with_reducible rfl)
  try simp only [List.setIfInBounds_toArray, List.set_cons_zero, List.set_cons_succ]
  refine wpAnyH_putD (i := 5) (d := 9) (v := ?_) rfl rfl (by kernel_rfl) (by kernel_rfl) (by kernel_rfl) (fun _ _ _ h => h) (Or.inl ⟨by kernel_rfl, ?_⟩) (by first | exact HS.out _ kw) ?_
  rotate_left
  · (intro w hS; (try dsimp only at hS); go_simp <;> with_reducible rfl)
  try simp only [List.setIfInBounds_toArray, List.set_cons_zero, List.set_cons_succ]
  refine wpAnyH_putD (i := 8) (d := 12) (v := ?_) rfl rfl (by kernel_rfl) (by kernel_rfl) (by kernel_rfl) (fun _ _ _ h => h) (Or.inl ⟨by kernel_rfl, ?_⟩) (by first | exact HS.out _ kw) ?_
  rotate_left
  · (intro w hS; (try dsimp only at hS); go_simp <;> with_reducible rfl)
  try simp only [List.setIfInBounds_toArray, List.set_cons_zero, List.set_cons_succ]
  refine wpAnyH_putD (i := 9) (d := 13) (v := ?_) rfl rfl (by kernel_rfl) (by kernel_rfl) (by kernel_rfl) (fun _ _ _ h => h) (Or.inl ⟨by kernel_rfl, ?_⟩) (by first | exact HS.out _ kw) ?_
  rotate_left
  · (intro w hS; (try dsimp only at hS); go_simp <;> with_reducible rfl)
  try simp only [List.setIfInBounds_toArray, List.set_cons_zero, List.set_cons_succ]
  refine wpAnyH_putD (i := 10) (d := 14) (v := ?_) rfl rfl (by kernel_rfl) (by kernel_rfl) (by kernel_rfl) (fun _ _ _ h => h) (Or.inl ⟨by kernel_rfl, ?_⟩) (by first | exact HS.out _ kw) ?_
  rotate_left
  · (intro w hS; (try dsimp only at hS); go_simp <;> with_reducible rfl)
  try simp only [List.setIfInBounds_toArray, List.set_cons_zero, List.set_cons_succ]
  refine wpAnyH_ready (rs := [2]) (by kernel_rfl) (by simp) ?_
  refine AllReadyH.cons rfl (fun K hK => ?_) AllReadyH.nil
  go_simp
  refine (G1.out _).mono ?_
  rintro e W1 ⟨D1, d1, rfl, ho1, hb'⟩
  have E := Lib.hid (own_less ho1 (show W0.heap.size ≤ _ from by simp))
  have kw := below_then kw (Nat.le_refl _) hb'
  clear ho1 hb'
  refine hK.out _ _ (by first | exact HS.out _ kw) (fun hHeld => ?_)
  clear hK K
  refine wpAnyH_ready (rs := [6]) (by kernel_rfl) (by simp) ?_
  refine AllReadyH.cons rfl (fun K hK => ?_) AllReadyH.nil
  go_simp
  refine (G2.out _).mono ?_
  rintro e W2 ⟨D2, d2, rfl, ho1, hb'⟩
  have C := Lib.hid ho1
  have E := Lib.hid (own_below E.out hb' (Nat.le_refl _))
  have kw := below_then kw (Nat.le_refl _) hb'
  clear ho1 hb'
  refine hK.out _ _ (by first | exact HS.out _ kw) (fun hHeld => ?_)
  clear hK K
  refine wpAnyH_ready (rs := [7]) (by kernel_rfl) (by simp) ?_
  refine AllReadyH.cons rfl (fun K hK => ?_) AllReadyH.nil
  rw [if_pos (by kernel_rfl)]
  refine wp_append_rd _ (.tmp 6) (.tmp 10) _ rfl W0.heap.size 5 i0 _ 1 1 Tryd.underlying23 hi0 hz0 hz1 hz2 rfl (by decide) _ lx (bv (Pk.lay p)) rfl E.out _ D2 ly d2 (bv (Pk.lay r)) rfl (Rd.of_own C.out) (bv_oneCell _) h63 (by omega) kw.size ?_
  intro A6 c6 V6 ho hg hat
  have kw := kw.trans (grown_below hg kw.size (fun g hg' => (E.out.lt g hg').1))
  have E := Lib.hid ho
  clear ho hg hat C
  refine hK.out _ _ (by first | exact HS.out _ kw) (fun hHeld => ?_)
  clear hK K
  refine wpAnyH_ready (rs := [11]) (by kernel_rfl) (by simp) ?_
  refine AllReadyH.cons rfl (fun K hK => ?_) AllReadyH.nil
  go_simp
  refine (G3.out _).mono ?_
  rintro e W3 ⟨D3, d3, rfl, ho1, hb'⟩
  have C := Lib.hid ho1
  have E := Lib.hid (own_below E.out hb' (Nat.le_refl _))
  have kw := below_then kw (Nat.le_refl _) hb'
  clear ho1 hb'
  refine hK.out _ _ (by first | exact HS.out _ kw) (fun hHeld => ?_)
  clear hK K
  refine wpAnyH_ready (rs := [12]) (by kernel_rfl) (by simp) ?_
  refine AllReadyH.cons rfl (fun K hK => ?_) AllReadyH.nil
  rw [if_pos (by kernel_rfl)]
  refine wp_append_rd _ (.tmp 11) (.tmp 15) _ rfl W0.heap.size 5 i0 _ 1 1 Tryd.underlying23 hi0 hz0 hz1 hz2 rfl (by decide) _ (lx + ly) (bv (Pk.lay p) ++ bv (Pk.lay r)) rfl E.out _ D3 lz d3 (bv (Pk.lay q)) rfl (Rd.of_own C.out) (bv_oneCell _) h63b (by omega) kw.size ?_
  intro A11 c11 V11 ho hg hat
  have kw := kw.trans (grown_below hg kw.size (fun g hg' => (E.out.lt g hg').1))
  have E := Lib.hid ho
  clear ho hg hat C
  refine hK.out _ _ (by first | exact HS.out _ kw) (fun hHeld => ?_)
  clear hK K
  refine wpAnyH_putD (i := 13) (d := 3) (v := ?_) rfl rfl (by kernel_rfl) (by kernel_rfl) (by kernel_rfl) (fun _ _ _ h => h) (Or.inl ⟨by kernel_rfl, ?_⟩) (by first | exact HS.out _ kw) ?_
  rotate_left
  · (intro w hS; (try dsimp only at hS); go_simp <;> with_reducible rfl)
  try simp only [List.setIfInBounds_toArray, List.set_cons_zero, List.set_cons_succ]
  refine wpAnyH_done (by kernel_rfl) ?_ _
  refine Nrm.out (hKK _ _ ?_)
  obtain ⟨q0, q1, q2, q3⟩ := HS.out _ kw
  have GLL := GL.out _ (below_then HB.out (Nat.le_refl _) kw)
  go_wp2_with (first
    | (go_at_call 66; go_must (refine GLL.mono ?_); rintro e w4 ⟨A4, c4, rfl, ho4, hb4⟩; have E4 := own_below E.out hb4 (Nat.le_refl _); have kw4 := below_then kw (Nat.le_refl _) hb4)
    | (at_builtin; go_must (refine wpList_append_rd _ rfl (.tmp 17) (.tmp 20) _ rfl W0.heap.size 5 i0 _ 1 1 Tryd.underlying23 hi0 hz0 hz1 hz2 rfl (by decide) _ (lx + ly + lz) (bv (Pk.lay p) ++ bv (Pk.lay r) ++ bv (Pk.lay q)) rfl E4 _ A4 (ln + m) c4 (bv (Pk.lay m ++ v)) rfl (Rd.of_own ho4) (bv_oneCell _) h63c (by omega) kw4.size ?_); intro A5 c5 w5 ho5 hg5 hat5; have kw5 := kw4.trans (grown_below hg5 kw4.size (fun g hg' => (E4.lt g hg').1)))
    | fail)
  go_ret
  obtain ⟨ex, ey, ez, en, em⟩ := HLL.out
  have e5 : Wq.lB ⟨(p : Int), ((q : Int), (r : Int)), v⟩ = Pk.lay p ++ Pk.lay r ++ Pk.lay q ++ (Pk.lay m ++ v) := by simp [Wq.lB, Wq.lR, em]
  have e6 : (Wq.lB ⟨(p : Int), ((q : Int), (r : Int)), v⟩).length = lx + ly + lz + (ln + m) := by rw [e5]; simp only [List.length_append]; rw [← ex, ← ey, ← ez, ← en, ← em]
  exact ⟨.slice A5 (lx + ly + lz + (ln + m)) c5, rfl, A5, c5, by rw [e6], by rw [e6, e5, bv_app, bv_app, bv_app]; exact own_less ho5 (by omega), below_then HB.out (Nat.le_refl _) kw5⟩
end Go.Proofs.YtndlcimckfndiaaDoor