/- Walk over the document's Told (under way). -/
import Derived.Test.YtldcgmnfohhjbaaDoorNtJ
namespace Go.Proofs.YtldcgmnfohhjbaaDoor
open Go.RowKit
set_option maxRecDepth 100000

set_option maxHeartbeats 8000000 in
theorem refTold_any (v : NV) (x : Nt) (o : Int) (w : World) (hN : NtRd w w.heap.size v x) :
    Calls Tryd.prog 24 #[.agg v.val, .int .i64 o] w (ToldP w (tQ x o) (tB x o) (tE x o)) := by
  obtain ⟨hzz, hi⟩ := zero_of_info write_zero
  have HI := Lib.hid hi
  obtain ⟨A1, n1, c1, A2, n2, c2, A3, n3, c3, A4, n4, c4⟩ := v
  have hb1 : Below w.heap.size w (w.alloc (.cells #[.slice A1 n1 c1, .slice A2 n2 c2, .slice A3 n3 c3, .slice A4 n4 c4] 32)) := (Below.refl _ _).alloc (Nat.le_refl _) _
  have hb0 : Below w.heap.size w ((w.alloc (.cells #[.slice A1 n1 c1, .slice A2 n2 c2, .slice A3 n3 c3, .slice A4 n4 c4] 32)).alloc (.cells (wcA w0_) 26)) := hb1.alloc hb1.size _
  have hB1 := (Blk.new w 32 #[.slice A1 n1 c1, .slice A2 n2 c2, .slice A3 n3 c3, .slice A4 n4 c4]).alloc (.cells (wcA w0_) 26)
  have hB2 := Blk.new (w.alloc (.cells #[.slice A1 n1 c1, .slice A2 n2 c2, .slice A3 n3 c3, .slice A4 n4 c4] 32)) 26 (wcA w0_)
  rw [World.size_alloc] at hB2
  obtain ⟨w0, hw0⟩ : ∃ w0, w0 = (w.alloc (.cells #[.slice A1 n1 c1, .slice A2 n2 c2, .slice A3 n3 c3, .slice A4 n4 c4] 32)).alloc (.cells (wcA w0_) 26) := ⟨_, rfl⟩
  rw [← hw0] at hb0 hB1 hB2
  have hN0 := hN.go hb0
  have HQ := Lib.hid fun W (hb : Below w0.heap.size w0 W) => (show (W.cell? ⟨w.heap.size, 0, none⟩ = some (.slice A1 n1 c1) ∧ W.cell? ⟨w.heap.size, 1, none⟩ = some (.slice A2 n2 c2) ∧ W.cell? ⟨w.heap.size, 2, none⟩ = some (.slice A3 n3 c3) ∧ W.cell? ⟨w.heap.size, 3, none⟩ = some (.slice A4 n4 c4)) from ⟨(hB1.go hb).cell 0, (hB1.go hb).cell 1, (hB1.go hb).cell 2, (hB1.go hb).cell 3⟩)
  have HB2 := Lib.hid fun W (hb : Below w0.heap.size w0 W) => hB2.go hb
  have H1 := fun (W : World) (hb : Below w0.heap.size w0 W) => refNoteFormed_any ⟨A1, n1, c1, A2, n2, c2, A3, n3, c3, A4, n4, c4⟩ x W (hN0.go hb)
  have H3 := Lib.hid fun (W : World) (hb : Below w0.heap.size w0 W) => refAt_any A4 n4 c4 x.w o W hN0.l4 (hN0.go hb).r4
  have H4 := fun (W : World) (hb : Below w0.heap.size w0 W) => refHasS_any A3 n3 c3 x.b o W hN0.l3 (hN0.go hb).r3
  have HW4 := Lib.hid fun (W : World) (hb : Below w0.heap.size w0 W) k (hk : k < x.w.length) => (hN0.go hb).r4.write hN0.l4 hk
  have HL4 := Lib.hid hN0.l4
  have hq : tQ x o = if (ntF x && (decide (0 ≤ o) && decide (o ≤ 255))) = true then atQ x.w o else w0_ := rfl
  have hb9 : tB x o = if (ntF x && (decide (0 ≤ o) && decide (o ≤ 255))) = true then (if atB x.w o = true then true else !hasO x.b o) else false := rfl
  have he9 : tE x o = if (ntF x && (decide (0 ≤ o) && decide (o ≤ 255))) = true then (if atB x.w o = true then 0 else 8) else 1 := rfl
  generalize tQ x o = Q at hq ⊢
  generalize tB x o = B at hb9 ⊢
  generalize tE x o = E at he9 ⊢
  generalize ntF x = f at H1 hq hb9 he9
  generalize hasO x.b o = z4 at H4 hb9
  have H1 := Lib.hid H1
  have H4 := Lib.hid H4
  have HQ9 := Lib.hid hq
  have HB9 := Lib.hid hb9
  have HE9 := Lib.hid he9
  have HW := Lib.hid hw0.symm
  have HB0 := Lib.hid hb0
  have k := Below.refl w0.heap.size w0
  obtain ⟨q0, q1, q2, q3⟩ := HQ.out _ k
  clear hN hN0 hB1 hB2 hw0 hb1 hb0 hi hq hb9 he9
  go_enter Tryd.func24, Tryd.ntmps24
  go_wp2_with fail
  rw [HW.out]
  cases f
  · go_wp2_with (first | (go_at_call 18; go_must (refine (H1.out _ k).mono ?_); rintro e w' ⟨rfl, hb'⟩; have k := below_then k (Nat.le_refl _) hb'; clear hb'; obtain ⟨q0, q1, q2, q3⟩ := HQ.out _ k) | (refine wpList_store_blk rfl 26 _ _ rfl (w.heap.size + 1) 26 _ (wcA w0_) rfl rfl (HB2.out _ k) HI.out rfl (wcA_one _) ?_; intro W hblk hg))
    refine bodyPost_ret (results_cell_tmp2 rfl _ _ (w.heap.size + 1) 26 _ _ _ rfl hblk Tryd.underlying26 rfl HI.out) rfl (ToldP.mk ?_ ((HB0.out.trans (k.mono HB0.out.size)).trans (grown_below hg (Nat.le_trans HB0.out.size k.size) (fun g hg' => by cases hg'; exact Nat.le_succ _))))
    rw [HQ9.out, HB9.out, HE9.out]; rfl
  by_cases u1 : 0 ≤ o ∧ o ≤ 255
  rotate_left
  · have HZ := Lib.hid (show (decide (0 ≤ o) && decide (o ≤ 255)) = false by simp; omega)
    by_cases u2 : o < 0
    · clear u1
      go_wp2_with (first | (go_at_call 18; go_must (refine (H1.out _ k).mono ?_); rintro e w' ⟨rfl, hb'⟩; have k := below_then k (Nat.le_refl _) hb'; clear hb'; obtain ⟨q0, q1, q2, q3⟩ := HQ.out _ k) | (refine wpList_store_blk rfl 26 _ _ rfl (w.heap.size + 1) 26 _ (wcA w0_) rfl rfl (HB2.out _ k) HI.out rfl (wcA_one _) ?_; intro W hblk hg))
      refine bodyPost_ret (results_cell_tmp2 rfl _ _ (w.heap.size + 1) 26 _ _ _ rfl hblk Tryd.underlying26 rfl HI.out) rfl (ToldP.mk ?_ ((HB0.out.trans (k.mono HB0.out.size)).trans (grown_below hg (Nat.le_trans HB0.out.size k.size) (fun g hg' => by cases hg'; exact Nat.le_succ _))))
      rw [HQ9.out, HB9.out, HE9.out, HZ.out]; rfl
    · have u3 : 255 < o := by omega
      clear u1
      go_wp2_with (first | (go_at_call 18; go_must (refine (H1.out _ k).mono ?_); rintro e w' ⟨rfl, hb'⟩; have k := below_then k (Nat.le_refl _) hb'; clear hb'; obtain ⟨q0, q1, q2, q3⟩ := HQ.out _ k) | (refine wpList_store_blk rfl 26 _ _ rfl (w.heap.size + 1) 26 _ (wcA w0_) rfl rfl (HB2.out _ k) HI.out rfl (wcA_one _) ?_; intro W hblk hg))
      refine bodyPost_ret (results_cell_tmp2 rfl _ _ (w.heap.size + 1) 26 _ _ _ rfl hblk Tryd.underlying26 rfl HI.out) rfl (ToldP.mk ?_ ((HB0.out.trans (k.mono HB0.out.size)).trans (grown_below hg (Nat.le_trans HB0.out.size k.size) (fun g hg' => by cases hg'; exact Nat.le_succ _))))
      rw [HQ9.out, HB9.out, HE9.out, HZ.out]; rfl
  have HZ := Lib.hid (show (decide (0 ≤ o) && decide (o ≤ 255)) = true by simp; omega)
  obtain ⟨u2, u3⟩ := u1
  go_wp2_with (first | (go_at_call 18; go_must (refine (H1.out _ k).mono ?_); rintro e w' ⟨rfl, hb'⟩; have k := below_then k (Nat.le_refl _) hb'; clear hb'; obtain ⟨q0, q1, q2, q3⟩ := HQ.out _ k))
  refine (H3.out _ k).mono ?_
  rintro e w' ⟨rfl, hb'⟩
  have hnone : atB x.w o = false → atQ x.w o = w0_ := fun h => by unfold atB at h; unfold atQ; cases hh : atO x.w o with
    | none => rfl
    | some q => rw [hh] at h; cases h
  have HA := HQ9.out
  have HAB := HB9.out
  have HAE := HE9.out
  rw [HZ.out] at HA HAB HAE
  generalize atB x.w o = bb at HAB HAE hnone ⊢
  generalize atQ x.w o = qq at HA hnone ⊢
  have k := below_then k (Nat.le_refl _) hb'
  clear hb'
  obtain ⟨w2, hw2⟩ : ∃ w2, w2 = w' := ⟨_, rfl⟩
  subst hw2
  obtain ⟨q0, q1, q2, q3⟩ := HQ.out _ k
  have HA := Lib.hid HA
  have HAB := Lib.hid HAB
  have HAE := Lib.hid HAE
  have HNO := Lib.hid hnone
  clear hnone
  cases bb
  · go_wp2_with (first
      | (refine wpList_store_blk rfl 26 (.tmp 7) (.tmp 26) rfl w2.heap.size 26 (wcA w0_) (wcA qq) rfl rfl (Blk.new w2 26 (wcA w0_)) HI.out rfl (wcA_one _) ?_; intro w3 hbox hg3; have k := k.trans (then_alloc k (.cells (wcA w0_) 26) |>.mono k.size |>.trans (grown_below hg3 (by simp; exact Nat.le_succ_of_le k.size) (fun g hg' => by cases hg'; exact k.size))); obtain ⟨q0, q1, q2, q3⟩ := HQ.out _ k)
      | (go_at_call 59; go_must (refine (H4.out _ k).mono ?_); rintro e w' ⟨rfl, hb'⟩; have k := below_then k (Nat.le_refl _) hb'; clear hb'; obtain ⟨q0, q1, q2, q3⟩ := HQ.out _ k)
      | (refine wpList_store_blk rfl 26 (.tmp 4) _ rfl (w.heap.size + 1) 26 _ (wcA w0_) rfl rfl (HB2.out _ k) HI.out rfl (wcA_one _) ?_; intro W hblk hg))
    refine bodyPost_ret (results_cell_tmp2 rfl _ _ (w.heap.size + 1) 26 _ _ _ rfl hblk Tryd.underlying26 rfl HI.out) rfl (ToldP.mk ?_ ((HB0.out.trans (k.mono HB0.out.size)).trans (grown_below hg (Nat.le_trans HB0.out.size k.size) (fun g hg' => by cases hg'; exact Nat.le_succ _))))
    rw [HA.out, HAB.out, HAE.out, HNO.out (by simp)]; rfl
  · go_wp2_with (first | (refine wpList_store_blk rfl 26 (.tmp 7) (.tmp 26) rfl w2.heap.size 26 (wcA w0_) (wcA qq) rfl rfl (Blk.new w2 26 (wcA w0_)) HI.out rfl (wcA_one _) ?_; intro w3 hbox hg3; have k := k.trans (then_alloc k (.cells (wcA w0_) 26) |>.mono k.size |>.trans (grown_below hg3 (by simp; exact Nat.le_succ_of_le k.size) (fun g hg' => by cases hg'; exact k.size))); obtain ⟨q0, q1, q2, q3⟩ := HQ.out _ k) | (refine wpList_load_row rfl 26 _ rfl w2.heap.size rfl 26 _ _ _ hbox Tryd.underlying26 rfl HI.out ?_) | (refine wpList_store_blk rfl 26 (.tmp 4) _ rfl (w.heap.size + 1) 26 _ (wcA qq) rfl rfl (HB2.out _ k) HI.out rfl (wcA_one _) ?_; intro W hblk hg))
    refine bodyPost_ret (results_cell_tmp2 rfl _ _ (w.heap.size + 1) 26 _ _ _ rfl hblk Tryd.underlying26 rfl HI.out) rfl (ToldP.mk ?_ ((HB0.out.trans (k.mono HB0.out.size)).trans (grown_below hg (Nat.le_trans HB0.out.size k.size) (fun g hg' => by cases hg'; exact Nat.le_succ _))))
    rw [HA.out, HAB.out, HAE.out]; rfl
end Go.Proofs.YtldcgmnfohhjbaaDoor
