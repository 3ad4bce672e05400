/- Walk over note.Through (printed by wip/tools/genNtP.py). -/
import Derived.Test.YtnibkniggiokkaaDoorNtX
import Derived.Test.YtnibkniggiokkaaDoorMSp
namespace Go.Proofs.YtnibkniggiokkaaDoor
open Go.RowKit
set_option maxRecDepth 100000

theorem zv_app (l m : List Int) : zv (l ++ m) = zv l ++ zv m := by simp [zv]
theorem thru_b (x : Nt) (sp : List Sn.Sp) : Sn.tidy ([x.b, Sn.tidy (ones (objs (unseen sp x.w)))].flatten) = (thru x sp).b := by
  refine Sn.tidy_congr fun o h0 h1 => ?_
  simp only [List.flatten_cons, List.flatten_nil, List.append_nil]
  rw [Sn.inB_app, Sn.inB_app, Sn.tidy_in _ _ h0 h1]
  congr 1
  unfold ones objs obs
  rw [List.map_map]
  rfl
theorem int_infoE : (Tryd.prog.info? 3).map (fun i => (i.zero, i.size, i.bytes)) = some (some (.int .i64 0), 1, 8) := by kernel_rfl

set_option maxHeartbeats 2000000 in
theorem through_no (v : NV) (x : Nt) (A : Option Addr) (n c : Nat) (w : World) (hT : Tab w) (hN : NtRd w w.heap.size v x) (hf : ntF x = false) :
    Calls Tryd.prog 9 #[.agg v.val, .slice A n c] w fun e w' => e = .returned (.tuple #[.agg NV0.val, .int .i64 1]) ∧ Below w.heap.size w w' := by
  obtain ⟨A1, n1, c1, A2, n2, c2, A3, n3, c3, A4, n4, c4⟩ := v
  have hb0 : Below w.heap.size w ((w.alloc (.cells #[.slice A1 n1 c1, .slice A2 n2 c2, .slice A3 n3 c3, .slice A4 n4 c4] 26)).alloc (.cells #[.slice none 0 0, .slice none 0 0, .slice none 0 0, .slice none 0 0] 26)) := ((Below.refl _ _).alloc (Nat.le_refl _) _).alloc (by simp) _
  have hX := (Blk.new w 26 #[.slice A1 n1 c1, .slice A2 n2 c2, .slice A3 n3 c3, .slice A4 n4 c4]).alloc (.cells #[.slice none 0 0, .slice none 0 0, .slice none 0 0, .slice none 0 0] 26)
  have hM := Blk.new (w.alloc (.cells #[.slice A1 n1 c1, .slice A2 n2 c2, .slice A3 n3 c3, .slice A4 n4 c4] 26)) 26 #[.slice none 0 0, .slice none 0 0, .slice none 0 0, .slice none 0 0]
  rw [World.size_alloc] at hM
  obtain ⟨W0, hW0⟩ : ∃ W0, W0 = (w.alloc (.cells #[.slice A1 n1 c1, .slice A2 n2 c2, .slice A3 n3 c3, .slice A4 n4 c4] 26)).alloc (.cells #[.slice none 0 0, .slice none 0 0, .slice none 0 0, .slice none 0 0] 26) := ⟨_, rfl⟩
  have hs0 : W0.heap.size = w.heap.size + 1 + 1 := by rw [hW0]; simp
  rw [← hW0] at hb0 hX hM
  have hN0 := hN.go hb0
  have G1 := noteFormed_any ⟨A1, n1, c1, A2, n2, c2, A3, n3, c3, A4, n4, c4⟩ x W0 (hT.below hb0) hN0
  rw [hf] at G1
  dsimp only [NV.val] at G1 ⊢
  have G1 := Lib.hid G1
  have HB := Lib.hid hb0
  have HX := Lib.hid hX
  have HM := Lib.hid hM
  have HW := Lib.hid hW0.symm
  obtain ⟨zz, hii⟩ := zero_of_info notes_zero
  have HI := Lib.hid hii
  clear hf hT hN hN0 hb0 hX hM hW0 hii
  go_enter Tryd.func9, Tryd.ntmps9
  go_wp2_with fail
  rw [HW.out]
  obtain ⟨q0, q1, q2, q3⟩ := HX.out.four4
  go_wp2_with fail
  refine G1.out.mono ?_
  rintro e w1 ⟨rfl, hb1⟩
  have hM1 := HM.out.go hb1
  have hs1 := hb1.size
  go_wp2_with (refine wpList_store_blk rfl 26 _ _ rfl (w.heap.size + 1) 26 _ #[.slice none 0 0, .slice none 0 0, .slice none 0 0, .slice none 0 0] rfl rfl hM1 HI.out rfl (by simp [Value.oneCell']) ?_; intro W hblk hg)
  refine bodyPost_ret (res_ct rfl _ _ (w.heap.size + 1) 26 _ _ _ rfl hblk Tryd.underlying26 rfl (by kernel_rfl)) rfl ⟨rfl, (below_then HB.out (Nat.le_refl _) hb1).trans (grown_below hg (by omega) (fun j hj => by cases hj; omega))⟩

set_option maxHeartbeats 8000000 in
theorem through_yes (v : NV) (x : Nt) (A : Option Addr) (n c : Nat) (sp : List Sn.Sp) (w : World) (hT : Tab w) (hN : NtRd w w.heap.size v x) (hf : ntF x = true) (hl : sp.length = n) (hR : Rd w w.heap.size 2 A n c (sv sp)) :
    Calls Tryd.prog 9 #[.agg v.val, .slice A n c] w fun e w' => ∃ v' : NV, e = .returned (.tuple #[.agg v'.val, .int .i64 0]) ∧ NtOwn w' w.heap.size v' (thru x sp) ∧ Below w.heap.size w w' := by
  obtain ⟨i0, hi0, hz0, hz1, hz2⟩ := info_parts writes_info
  obtain ⟨j0, hj0, hy0, hy1, hy2⟩ := info_parts int_infoE
  have hf' := hf
  unfold ntF ntH at hf'
  simp only [Bool.and_eq_true] at hf'
  obtain ⟨⟨h1, h2, h3, h4⟩, h5⟩ := hf'
  have z1 := stl_len h1
  have z2 := stl_len h2
  have z3 := Sn.fmS_128 h4
  have z4 := wrl_len h5
  obtain ⟨A1, n1, c1, A2, n2, c2, A3, n3, c3, A4, n4, c4⟩ := v
  have hb0 : Below w.heap.size w ((w.alloc (.cells #[.slice A1 n1 c1, .slice A2 n2 c2, .slice A3 n3 c3, .slice A4 n4 c4] 26)).alloc (.cells #[.slice none 0 0, .slice none 0 0, .slice none 0 0, .slice none 0 0] 26)) := ((Below.refl _ _).alloc (Nat.le_refl _) _).alloc (by simp) _
  have hX := (Blk.new w 26 #[.slice A1 n1 c1, .slice A2 n2 c2, .slice A3 n3 c3, .slice A4 n4 c4]).alloc (.cells #[.slice none 0 0, .slice none 0 0, .slice none 0 0, .slice none 0 0] 26)
  have hM := Blk.new (w.alloc (.cells #[.slice A1 n1 c1, .slice A2 n2 c2, .slice A3 n3 c3, .slice A4 n4 c4] 26)) 26 #[.slice none 0 0, .slice none 0 0, .slice none 0 0, .slice none 0 0]
  rw [World.size_alloc] at hM
  obtain ⟨W0, hW0⟩ : ∃ W0, W0 = (w.alloc (.cells #[.slice A1 n1 c1, .slice A2 n2 c2, .slice A3 n3 c3, .slice A4 n4 c4] 26)).alloc (.cells #[.slice none 0 0, .slice none 0 0, .slice none 0 0, .slice none 0 0] 26) := ⟨_, rfl⟩
  have hs0 : W0.heap.size = w.heap.size + 1 + 1 := by rw [hW0]; simp
  rw [← hW0] at hb0 hX hM
  have hN0 := hN.go hb0
  have G1 := noteFormed_any ⟨A1, n1, c1, A2, n2, c2, A3, n3, c3, A4, n4, c4⟩ x W0 (hT.below hb0) hN0
  rw [hf] at G1
  dsimp only [NV.val] at G1 ⊢
  have G1 := Lib.hid G1
  have HB := Lib.hid hb0
  have HX := Lib.hid hX
  have HM := Lib.hid hM
  have HW := Lib.hid hW0.symm
  obtain ⟨zz, hii⟩ := zero_of_info notes_zero
  have HI := Lib.hid hii
  obtain ⟨l1, r1, l2, r2, l3, r3, l4, r4⟩ := hN0
  dsimp only at l1 r1 l2 r2 l3 r3 l4 r4
  have GC1 := Lib.hid fun (W : World) (hb : Below W0.heap.size W0 W) => cloneSt_any A1 n1 c1 (sv x.s) W (r1.go hb) (sv_oneCell _) (by omega)
  have GC2 := Lib.hid fun (W : World) (hb : Below W0.heap.size W0 W) => cloneSt_any A2 n2 c2 (sv x.e) W (r2.go hb) (sv_oneCell _) (by omega)
  have GO := Lib.hid fun (W : World) (D : Option Addr) (m d : Nat) (L : List Int) (hm : L.length = m) (h : Rd W W.heap.size 1 D m d (zv L)) (h2 : m ≤ 256) => spanOf_any D m d L W hm h (by omega)
  have GJ := Lib.hid fun (W : World) (D : Option Addr) (d : Nat) (y : List Sn.Sp) (hy : y.length ≤ 128) (h : RdL W W.heap.size D 2 d [x.b, y]) => joinS_any D 2 d [x.b, y] W h (by simp only [List.flatten_cons, List.flatten_nil, List.append_nil, List.length_append]; omega)
  have GH := Lib.hid fun (W : World) (hb : Below W0.heap.size W0 W) (ob : Int) => hasS_any A n c sp ob W hl ((hR.go hb0).go hb)
  have HR3 := Lib.hid fun (W : World) (hb : Below W0.heap.size W0 W) => r3.go hb
  have HR4 := Lib.hid fun (W : World) (hb : Below W0.heap.size W0 W) => r4.go hb
  have HL4 := Lib.hid l4
  have HLL := Lib.hid (And.intro l1 (And.intro l2 l3))
  have HTE := Lib.hid (show x.w.take n4 = x.w from List.take_of_length_le (by omega))
  have HST := Lib.hid fun k (h : k < x.w.length) => seen_take sp x.w k h
  have HUT := Lib.hid fun k (h : k < x.w.length) => unseen_take sp x.w k h
  have hn4 : n4 ≤ 256 := by omega
  have h1max : 1 ≤ maxLen := by unfold maxLen; omega
  have HS := Lib.hid fun W (hb : Below W0.heap.size W0 W) => (show W.cell? ⟨w.heap.size, 0, none⟩ = some (.slice A1 n1 c1) ∧ W.cell? ⟨w.heap.size, 1, none⟩ = some (.slice A2 n2 c2) ∧ W.cell? ⟨w.heap.size, 2, none⟩ = some (.slice A3 n3 c3) from ⟨(hX.go hb).cell 0, (hX.go hb).cell 1, (hX.go hb).cell 2⟩)
  clear hf hT hN hb0 hX hM hW0 hii h1 h2 h3 h4 h5 hl hR l1 r1 l2 r2 l3 r3 l4 r4
  go_enter Tryd.func9, Tryd.ntmps9
  go_wp2_with fail
  rw [HW.out]
  obtain ⟨q0, q1, q2, q3⟩ := HX.out.four4
  go_wp2_with fail
  refine G1.out.mono ?_
  rintro e w1 ⟨rfl, hb1⟩
  clear q0 q1 q2 q3
  have q3 := (HX.out.go hb1).cell 3
  go_wp2_with fail
  go_loopw [6, 7, 9, 17] (fun v6 v7 _ v17 wr => ∃ (k m1 d1 m2 d2 : Nat) (D1 D2 : Option Addr), v17 = .int .i64 k ∧ v6 = .slice D1 m1 d1 ∧ v7 = .slice D2 m2 d2 ∧ k ≤ n4 ∧ m1 ≤ k ∧ m2 ≤ k ∧ Below W0.heap.size W0 wr ∧
    Hid (wr.ownsRow W0.heap.size 46 4 (.slice D1 m1 d1) m1 (wv (seen sp (x.w.take k)))) ∧ Hid (wr.ownsRow W0.heap.size 3 1 (.slice D2 m2 d2) m2 (zv (objs (unseen sp (x.w.take k))))) ∧ Hid ((seen sp (x.w.take k)).length = m1 ∧ (unseen sp (x.w.take k)).length = m2)) (fun _ _ _ v17 _ => n4 - (intOf v17).toNat)
  case atStart => exact ⟨0, 0, 0, 0, 0, none, none, rfl, rfl, rfl, by omega, by omega, by omega, hb1, World.ownsRow_nil _ _ _ _, World.ownsRow_nil _ _ _ _, rfl, rfl⟩
  case round =>
    obtain ⟨k, m1, d1, m2, d2, D1, D2, rfl, rfl, rfl, hk, hm1, hm2, hb, o1, o2, hln⟩ := hrel
    have hbs := hb.size
    clear q3 hb1
    by_cases hlt : k < n4
    · have hkl : k < x.w.length := by rw [HL4.out]; exact hlt
      obtain ⟨bb, oo, rfl, hab, g0, g1, g2, g3⟩ := (HR4.out wr hb).write HL4.out hkl
      have HT1 := Lib.hid (HST.out k hkl)
      have HT2 := Lib.hid (HUT.out k hkl)
      generalize x.w[k]'hkl = wk at g0 g1 g2 g3 HT1 HT2
      obtain ⟨⟨ct, nd⟩, ob, gb⟩ := wk
      dsimp only at g0 g1 g2 g3 HT1 HT2
      have GH1 := fun W hb => GH.out W hb ob
      generalize hasO sp ob = z at GH1 HT1 HT2
      have GH1 := Lib.hid GH1
      have hY := Blk.new wr 46 #[.int .i64 ct, .int .i64 nd, .int .i64 ob, .bool gb]
      have hbY : Below wr.heap.size wr (wr.alloc (.cells #[.int .i64 ct, .int .i64 nd, .int .i64 ob, .bool gb] 46)) := (Below.refl _ _).alloc (Nat.le_refl _) _
      have k1 := below_then hb (Nat.le_refl _) hbY
      obtain ⟨y0, y1, y2, y3⟩ := hY.four4
      have HY := Lib.hid hY
      have HBY := Lib.hid hbY
      have K1 := Lib.hid k1
      clear hb hkl
      go_wp2_with fail
      refine (GH1.out _ K1.out).mono ?_
      rintro e w2 ⟨rfl, hb2⟩
      have k2 := below_then K1.out (Nat.le_refl _) hb2
      have hs2 := k2.size
      clear y0 y1 y2 y3
      obtain ⟨y0, y1, y2, y3⟩ := (HY.out.go hb2).four4
      have P1 := own_below (own_below o1.out HBY.out (Nat.le_refl _)) hb2 (Nat.le_refl _)
      have P2 := own_below (own_below o2.out HBY.out (Nat.le_refl _)) hb2 (Nat.le_refl _)
      have h63 : m1 + 1 ≤ maxLen := by unfold maxLen; omega
      have h63b : m2 + 1 ≤ maxLen := by unfold maxLen; omega
      have k3 := k2.alloc hs2 (.cells #[.int .i64 ct, .int .i64 nd, .int .i64 ob, .bool gb] 46)
      have k4 := k2.alloc hs2 (.cells #[.int .i64 ob] 3)
      have HRN := Lib.hid (show Rd (w2.alloc (.cells #[.int .i64 ct, .int .i64 nd, .int .i64 ob, .bool gb] 46)) (w2.heap.size + 1) 4 (some ⟨w2.heap.size, 0, none⟩) 1 1 [.int .i64 ct, .int .i64 nd, .int .i64 ob, .bool gb] from Rd.new w2 46 4 1 #[.int .i64 ct, .int .i64 nd, .int .i64 ob, .bool gb] rfl h1max)
      have HRI := Lib.hid (show Rd (w2.alloc (.cells #[.int .i64 ob] 3)) (w2.heap.size + 1) 1 (some ⟨w2.heap.size, 0, none⟩) 1 1 [.int .i64 ob] from Rd.new w2 3 1 1 #[.int .i64 ob] rfl h1max)
      rcases z with _ | _
      · go_wp2_with (at_builtin; go_must (refine wpList_append_rd _ rfl (.tmp 29) (.tmp 32) _ rfl W0.heap.size 3 j0 _ 1 8 Tryd.underlying53 hj0 hy0 hy1 hy2 rfl (by decide) _ m2 _ rfl (P2.alloc _) _ (some ⟨w2.heap.size, 0, none⟩) 1 1 [.int .i64 ob] rfl HRI.out (by intro u hu; simp at hu; subst hu; rfl) h63b (by omega) (by simp; omega) ?_); intro D3 d3 w3 ho3 hg3 hat3)
        have k5 := k4.trans (grown_below hg3 (by simp; omega) (fun j hj => own_lt P2 j hj))
        have P3 := (P1.alloc (.cells #[.int .i64 ob] 3)).kept hg3 (own_two (P1.alloc (.cells #[.int .i64 ob] 3)) (P2.alloc (.cells #[.int .i64 ob] 3)) (by decide))
        go_roundw
        case rel =>
          refine ⟨k + 1, m1, d1, m2 + 1, d3, D1, D3, by go_num, rfl, rfl, by omega, by omega, by omega, k5, ?_, ?_, ?_⟩
          · show World.ownsRow _ _ _ _ _ _ _; rw [HT1.out]; exact P3
          · show World.ownsRow _ _ _ _ _ _ _; rw [HT2.out]; simp only [if_false, Bool.false_eq_true]; rw [objs_app, zv_app]; exact ho3
          · show _ ∧ _; rw [HT1.out, HT2.out]; simp only [if_false, Bool.false_eq_true]; rw [List.length_append]; exact ⟨hln.out.1, by rw [hln.out.2]; rfl⟩
        case measure => simp [intOf]; omega
      · go_wp2_with (at_builtin; go_must (refine wpList_append_rd _ rfl (.tmp 25) (.tmp 27) _ rfl W0.heap.size 46 i0 _ 4 32 Tryd.underlying24 hi0 hz0 hz1 hz2 rfl (by decide) _ m1 _ rfl (P1.alloc _) _ (some ⟨w2.heap.size, 0, none⟩) 1 1 [.int .i64 ct, .int .i64 nd, .int .i64 ob, .bool gb] rfl HRN.out (wv_oneCell [((ct, nd), ob, gb)]) h63 (by omega) (by simp; omega) ?_); intro D3 d3 w3 ho3 hg3 hat3)
        have k5 := k3.trans (grown_below hg3 (by simp; omega) (fun j hj => own_lt P1 j hj))
        have P3 := (P2.alloc (.cells #[.int .i64 ct, .int .i64 nd, .int .i64 ob, .bool gb] 46)).kept hg3 (own_two (P2.alloc (.cells #[.int .i64 ct, .int .i64 nd, .int .i64 ob, .bool gb] 46)) (P1.alloc (.cells #[.int .i64 ct, .int .i64 nd, .int .i64 ob, .bool gb] 46)) (by decide))
        go_roundw
        case rel =>
          refine ⟨k + 1, m1 + 1, d3, m2, d2, D3, D2, by go_num, rfl, rfl, by omega, by omega, by omega, k5, ?_, ?_, ?_⟩
          · show World.ownsRow _ _ _ _ _ _ _; rw [HT1.out]; simp only [if_true]; rw [wv_app]; exact ho3
          · show World.ownsRow _ _ _ _ _ _ _; rw [HT2.out]; exact P3
          · show _ ∧ _; rw [HT1.out, HT2.out]; simp only [if_true]; rw [List.length_append]; exact ⟨by rw [hln.out.1]; rfl, hln.out.2⟩
        case measure => simp [intOf]; omega
    · obtain rfl : k = n4 := by omega
      rw [HTE.out] at o1 o2 hln
      have kw := hb.drew
      have E1 := Lib.hid (show (wr.drew).ownsRow W0.heap.size 46 4 (.slice D1 m1 d1) m1 (wv (seen sp x.w)) from o1.out)
      have E2 := Lib.hid (show (wr.drew).ownsRow W0.heap.size 3 1 (.slice D2 m2 d2) m2 (zv (objs (unseen sp x.w))) from o2.out)
      have HLN := Lib.hid hln.out
      have HOL := Lib.hid (show (objs (unseen sp x.w)).length = m2 from by unfold objs; rw [List.length_map]; exact hln.out.2)
      clear o1 o2 hln hb
      go_wp2_with fail
      refine region_nrm fun KK hKK => ?_
      refine wp_region_held_drew (S := (fun W => W.cell? ⟨w.heap.size, 0, none⟩ = some (.slice A1 n1 c1) ∧ W.cell? ⟨w.heap.size, 1, none⟩ = some (.slice A2 n2 c2) ∧ W.cell? ⟨w.heap.size, 2, none⟩ = some (.slice A3 n3 c3))) (by kernel_rfl) (by first | exact HS.out _ kw | exact hS9) (fun hHeld => ?_)
      refine wpAnyH_putD (i := 0) (d := 35) (v := ?_) rfl rfl (by kernel_rfl) (by kernel_rfl) (by kernel_rfl) (fun _ _ _ h => h) (Or.inl ⟨by kernel_rfl, ?_⟩) (by first | exact HS.out _ kw | exact hS9) ?_
      rotate_left
      · (intro w hS; (try dsimp only at hS); go_simp <;> with_reducible rfl)
      try simp only [List.setIfInBounds_toArray, List.set_cons_zero, List.set_cons_succ]
      refine wpAnyH_putD (i := 1) (d := 36) (v := ?_) rfl rfl (by kernel_rfl) (by kernel_rfl) (by kernel_rfl) (fun _ _ _ h => h) (Or.inl ⟨by kernel_rfl, ?_⟩) (by first | exact HS.out _ kw | exact hS9) ?_
      rotate_left
      · (intro w hS; (try dsimp only at hS); go_simp <;> with_reducible rfl)
      try simp only [List.setIfInBounds_toArray, List.set_cons_zero, List.set_cons_succ]
      refine wpAnyH_putD (i := 3) (d := 38) (v := ?_) rfl rfl (by kernel_rfl) (by kernel_rfl) (by kernel_rfl) (fun _ _ _ h => h) (Or.inl ⟨by kernel_rfl, ?_⟩) (by first | exact HS.out _ kw | exact hS9) ?_
      rotate_left
      · (intro w hS; (try dsimp only at hS); go_simp <;> with_reducible rfl)
      try simp only [List.setIfInBounds_toArray, List.set_cons_zero, List.set_cons_succ]
      refine wpAnyH_putD (i := 4) (d := 39) (v := ?_) rfl rfl (by kernel_rfl) (by kernel_rfl) (by kernel_rfl) (fun _ _ _ h => h) (Or.inl ⟨by kernel_rfl, ?_⟩) (by first | exact HS.out _ kw | exact hS9) ?_
      rotate_left
      · (intro w hS; (try dsimp only at hS); go_simp <;> with_reducible rfl)
      try simp only [List.setIfInBounds_toArray, List.set_cons_zero, List.set_cons_succ]
      refine wpAnyH_putD (i := 6) (d := 41) (v := ?_) rfl rfl (by kernel_rfl) (by kernel_rfl) (by kernel_rfl) (fun _ _ _ h => h) (Or.inl ⟨by kernel_rfl, ?_⟩) (by first | exact HS.out _ kw | exact hS9) ?_
      rotate_left
      · (intro w hS; (try dsimp only at hS); go_simp <;> with_reducible rfl)
      try simp only [List.setIfInBounds_toArray, List.set_cons_zero, List.set_cons_succ]
      refine wpAnyH_putD (i := 7) (d := 42) (v := ?_) rfl rfl (by kernel_rfl) (by kernel_rfl) (by kernel_rfl) (fun _ _ _ h => h) (Or.inl ⟨by kernel_rfl, ?_⟩) (by first | exact HS.out _ kw | exact hS9) ?_
      rotate_left
      · (intro w hS; (try dsimp only at hS); go_simp <;> with_reducible rfl)
      try simp only [List.setIfInBounds_toArray, List.set_cons_zero, List.set_cons_succ]
      refine wpAnyH_putD (i := 8) (d := 43) (v := ?_) rfl rfl (by kernel_rfl) (by kernel_rfl) (by kernel_rfl) (fun _ _ _ h => h) (Or.inl ⟨by kernel_rfl, ?_⟩) (by first | exact HS.out _ kw | exact hS9) ?_
      rotate_left
      · (intro w hS; (try dsimp only at hS); go_simp <;> with_reducible rfl)
      try simp only [List.setIfInBounds_toArray, List.set_cons_zero, List.set_cons_succ]
      refine wpAnyH_putD (i := 12) (d := 47) (v := ?_) rfl rfl (by kernel_rfl) (by kernel_rfl) (by kernel_rfl) (fun _ _ _ h => h) (Or.inl ⟨by kernel_rfl, ?_⟩) (by first | exact HS.out _ kw | exact hS9) ?_
      rotate_left
      · (intro w hS; (try dsimp only at hS); go_simp <;> with_reducible rfl)
      try simp only [List.setIfInBounds_toArray, List.set_cons_zero, List.set_cons_succ]
      refine wpAnyH_ready (rs := [2]) (by kernel_rfl) (by simp) ?_
      refine AllReadyH.cons rfl (fun K hK => ?_) AllReadyH.nil
      go_simp
      refine (GC1.out _ kw).mono ?_
      rintro e W1 ⟨F1, f1, rfl, ho, hb'⟩
      have C1 := Lib.hid (own_less ho kw.size)
      have E1 := Lib.hid (own_below E1.out hb' (Nat.le_refl _))
      have E2 := Lib.hid (own_below E2.out hb' (Nat.le_refl _))
      have kw := below_then kw (Nat.le_refl _) hb'
      clear ho hb'
      refine hK.out _ _ (by first | exact HS.out _ kw | exact hS9) (fun hHeld => ?_)
      clear hK K
      refine wpAnyH_ready (rs := [5]) (by kernel_rfl) (by simp) ?_
      refine AllReadyH.cons rfl (fun K hK => ?_) AllReadyH.nil
      go_simp
      refine (GC2.out _ kw).mono ?_
      rintro e W2 ⟨F2, f2, rfl, ho, hb'⟩
      have C2 := Lib.hid (own_less ho kw.size)
      have C1 := Lib.hid (own_below C1.out hb' (Nat.le_refl _))
      have E1 := Lib.hid (own_below E1.out hb' (Nat.le_refl _))
      have E2 := Lib.hid (own_below E2.out hb' (Nat.le_refl _))
      have kw := below_then kw (Nat.le_refl _) hb'
      clear ho hb'
      refine hK.out _ _ (by first | exact HS.out _ kw | exact hS9) (fun hHeld => ?_)
      clear hK K
      refine wpAnyH_ready (rs := [9]) (by kernel_rfl) (by simp) ?_
      refine AllReadyH.cons rfl (fun K hK => ?_) AllReadyH.nil
      go_simp
      refine (GO.out _ _ _ _ _ HOL.out (Rd.of_own E2.out) (by omega)).mono ?_
      rintro e W3 ⟨F3, f3, rfl, ho, hb'⟩
      have RO := Lib.hid (Rd.of_own ho)
      have C1 := Lib.hid (own_below C1.out hb' (Nat.le_refl _))
      have C2 := Lib.hid (own_below C2.out hb' (Nat.le_refl _))
      have E1 := Lib.hid (own_below E1.out hb' (Nat.le_refl _))
      have kw := below_then kw (Nat.le_refl _) hb'
      clear ho hb'
      refine hK.out _ _ (by first | exact HS.out _ kw | exact hS9) (fun hHeld => ?_)
      clear hK K
      refine wpAnyH_ready (rs := [10]) (by kernel_rfl) (by simp) ?_
      refine AllReadyH.cons rfl (fun K hK => ?_) AllReadyH.nil
      go_simp
      have hb' := then_alloc kw (.cells #[.slice A3 n3 c3, .slice F3 (Sn.tidy (ones (objs (unseen sp x.w)))).length f3] 23)
      have RL := Lib.hid (RdL.two HLL.out.2.2 rfl (HR3.out _ kw) RO.out 23)
      have C1 := Lib.hid (own_below C1.out hb' (Nat.le_refl _))
      have C2 := Lib.hid (own_below C2.out hb' (Nat.le_refl _))
      have E1 := Lib.hid (own_below E1.out hb' (Nat.le_refl _))
      have kw := below_then kw (Nat.le_refl _) hb'
      clear hb'
      refine hK.out _ _ (by first | exact HS.out _ kw | exact hS9) (fun hHeld => ?_)
      clear hK K
      refine wpAnyH_ready (rs := [11]) (by kernel_rfl) (by simp) ?_
      refine AllReadyH.cons rfl (fun K hK => ?_) AllReadyH.nil
      go_simp
      refine (GJ.out _ _ _ _ (Sn.tidy_len _) RL.out).mono ?_
      rintro e W4 ⟨F4, f4, rfl, ho, hb'⟩
      have C4 := Lib.hid (own_less ho kw.size)
      have C1 := Lib.hid (own_below C1.out hb' (Nat.le_refl _))
      have C2 := Lib.hid (own_below C2.out hb' (Nat.le_refl _))
      have E1 := Lib.hid (own_below E1.out hb' (Nat.le_refl _))
      have kw := below_then kw (Nat.le_refl _) hb'
      clear ho hb'
      refine hK.out _ _ (by first | exact HS.out _ kw | exact hS9) (fun hHeld => ?_)
      clear hK K
      refine wpAnyH_putD (i := 13) (d := 48) (v := ?_) rfl rfl (by kernel_rfl) (by kernel_rfl) (by kernel_rfl) (fun _ _ _ h => h) (Or.inl ⟨by kernel_rfl, ?_⟩) (by first | exact HS.out _ kw | exact hS9) ?_
      rotate_left
      · (intro w hS; (try dsimp only at hS); go_simp <;> with_reducible rfl)
      try simp only [List.setIfInBounds_toArray, List.set_cons_zero, List.set_cons_succ]
      refine wpAnyH_ready (rs := [14]) (by kernel_rfl) (by simp) ?_
      refine AllReadyH.cons rfl (fun K hK => ?_) AllReadyH.nil
      rw [if_pos (by kernel_rfl)]
      refine wp_store_blk 26 (.tmp 4) (.tmp 48) rfl (w.heap.size + 1) _ _ #[.slice F1 n1 f1, .slice F2 n2 f2, .slice F4 _ f4, .slice D1 m1 d1] rfl rfl (HM.out.go kw) HI.out rfl (by simp [Value.oneCell']) ?_
      intro W hblk hg
      have hS9 := ((HX.out.go kw).grown hg (by simp))
      have hS9 := (show W.cell? ⟨w.heap.size, 0, none⟩ = some (.slice A1 n1 c1) ∧ W.cell? ⟨w.heap.size, 1, none⟩ = some (.slice A2 n2 c2) ∧ W.cell? ⟨w.heap.size, 2, none⟩ = some (.slice A3 n3 c3) from ⟨hS9.cell 0, hS9.cell 1, hS9.cell 2⟩)
      refine hK.out _ _ (by first | exact HS.out _ kw | exact hS9) (fun hHeld => ?_)
      clear hK K
      refine wpAnyH_putD (i := 15) (d := 5) (v := ?_) rfl rfl (by kernel_rfl) (by kernel_rfl) (by kernel_rfl) (fun _ _ _ h => h) (Or.inl ⟨by kernel_rfl, ?_⟩) (by first | exact HS.out _ kw | exact hS9) ?_
      rotate_left
      · (intro w hS; (try dsimp only at hS); go_simp <;> with_reducible rfl)
      try simp only [List.setIfInBounds_toArray, List.set_cons_zero, List.set_cons_succ]
      refine wpAnyH_done (by kernel_rfl) ?_ _
      refine Nrm.out (hKK _ _ ?_)
      go_wp2
      have hBM := HM.out.go kw
      refine bodyPost_ret (res_ct rfl _ _ (w.heap.size + 1) 26 _ _ _ rfl hblk Tryd.underlying26 rfl (by kernel_rfl)) rfl ⟨⟨F1, n1, f1, F2, n2, f2, F4, _, f4, D1, m1, d1⟩, rfl, ?_, (below_then HB.out (Nat.le_refl _) kw).trans (grown_below hg (by have := kw.size; omega) (fun j hj => by cases hj; omega))⟩
      have e4 := thru_b x sp
      have e5 : Sn.tidy (x.b ++ Sn.tidy (ones (objs (unseen sp x.w)))) = (thru x sp).b := by have := thru_b x sp; simpa using this
      have C5 := C4.out
      simp only [e4] at C5
      have R1 := own_less (base' := w.heap.size) (C1.out.kept hg (own_blk C1.out hBM (by decide))) (by omega)
      have R2 := own_less (base' := w.heap.size) (C2.out.kept hg (own_blk C2.out hBM (by decide))) (by omega)
      have R3 := own_less (base' := w.heap.size) (C5.kept hg (own_blk C5 hBM (by decide))) (by omega)
      have R4 := own_less (base' := w.heap.size) (E1.out.kept hg (own_blk E1.out hBM (by decide))) (by omega)
      rw [e5]
      exact ⟨HLL.out.1, R1, HLL.out.2.1, R2, rfl, R3, HLN.out.1, R4⟩
end Go.Proofs.YtnibkniggiokkaaDoor
