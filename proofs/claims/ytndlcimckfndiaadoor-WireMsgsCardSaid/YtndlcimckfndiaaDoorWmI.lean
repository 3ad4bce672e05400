/- Walk: the document's Encode at any message (printed by wip/tools/genWmI.py). -/
import Derived.Test.YtndlcimckfndiaaDoorWmG
import Derived.Test.YtndlcimckfndiaaDoorWmH
namespace Go.Proofs.YtndlcimckfndiaaDoor
open Go.RowKit
set_option maxRecDepth 100000

theorem own_litB (w : World) (cur : Array Value) (n : Nat) (e : TypeId) (hm : n ≤ maxLen) (hs : cur.size = n) : (w.alloc (.cells cur e)).ownsRow w.heap.size e 1 (.slice (some ⟨w.heap.size, 0, none⟩) n n) n cur.toList :=
  ⟨by simp [hs], .inr ⟨w.heap.size, n, cur, rfl, Nat.le_refl _, heap_alloc_new w _, Nat.le_refl _, hm, by simp [hs], by subst hs; rw [Nat.mul_one, ← Array.length_toList, List.take_length]⟩⟩
set_option maxHeartbeats 2000000 in
theorem refEncode_no (m : Wq.Ms) (u : MV) (L : List (NV × Nt)) (w : World) (hM : MsRd w w.heap.size u m L) (hiv : m.i.length + m.v.length ≤ 9223372036854775807) (hf : Wq.fmM m = false) :
    Calls Tryd.prog 38 #[.agg (mval m u)] w fun e w' => e = .returned (.tuple #[.slice none 0 0, .int .i64 1]) ∧ Below w.heap.size w w' := by
  have hb0 : Below w.heap.size w (w.alloc (.cells (mval m u) 74)) := (Below.refl _ _).alloc (Nat.le_refl _) _
  have G1 := refMsFormed_any m u L _ (hM.go hb0) hiv
  rw [hf] at G1
  obtain ⟨k, f, t, n, q, i, v, l, ⟨o, ⟨a, b⟩, bvv⟩⟩ := m
  obtain ⟨iA, ic, vA, vc, lA, lc, bA, bc⟩ := u
  unfold mval at G1 hb0 ⊢
  dsimp only at G1 hb0 ⊢
  have G1 := Lib.hid G1
  have HB := Lib.hid hb0
  obtain ⟨q0, q1, q2, q3, q4, q5, q6, q7, q8, q9, q10, q11⟩ := (Blk.new w 74 #[.int .i64 k, .int .i64 f, .int .i64 t, .int .i64 n, .int .i64 q, .slice iA i.length ic, .slice vA v.length vc, .slice lA l.length lc, .int .i64 o, .int .i64 a, .int .i64 b, .slice bA bvv.length bc]).twelve
  clear hf hb0 hM hiv
  go_enter Tryd.func38, Tryd.ntmps38
  go_wp2_with (go_at_call 41; go_must (refine G1.out.mono ?_); rintro e w1 ⟨rfl, hb1⟩)
  go_ret2
  exact ⟨rfl, below_then HB.out (Nat.le_refl _) hb1⟩

set_option maxHeartbeats 4000000 in
theorem refEncode_any (m : Wq.Ms) (u : MV) (L : List (NV × Nt)) (w : World) (hM : MsRd w w.heap.size u m L) (hiv : m.i.length + m.v.length ≤ 9223372036854775807) (hc : Wq.msC m) (hf : Wq.fmM m = true) :
    Calls Tryd.prog 38 #[.agg (mval m u)] w fun e w' => ∃ v, e = .returned (.tuple #[v, .int .i64 0]) ∧ BytesAre w.heap.size w (Wq.enc m) v w' := by
  obtain ⟨i0, hi0, hz0, hz1, hz2⟩ := info_parts u8_info
  have hb0 : Below w.heap.size w (w.alloc (.cells (mval m u) 74)) := (Below.refl _ _).alloc (Nat.le_refl _) _
  have G1 := refMsFormed_any m u L _ (hM.go hb0) hiv
  rw [hf] at G1
  have hh := Wq.fm_head hf
  have hkk := Wq.fm_kind hf
  have E1 := @Wq.enc_1 m
  have E2 := @Wq.enc_2 m
  have E3 := @Wq.enc_3 m
  have E4 := @Wq.enc_4 m
  have E5 := @Wq.enc_5 m
  have P1 := @Wq.fm_1 m hf
  have P3 := @Wq.fm_3 m hf
  have P4 := @Wq.fm_4 m hf
  have P5 := @Wq.fm_5 m hf
  obtain ⟨c1, c2, c3, c4, c5⟩ := hc
  obtain ⟨iR, vR, lR, hnl, bR⟩ := hM.go hb0
  obtain ⟨W0, hW0⟩ : ∃ W0, W0 = w.alloc (.cells (mval m u) 74) := ⟨_, rfl⟩
  have HX := Blk.new w 74 (mval m u)
  have hs0 : W0.heap.size = w.heap.size + 1 := by rw [hW0]; simp
  rw [← hW0] at G1 iR vR lR bR HX hb0
  obtain ⟨k, f, t, n, q, i, v, l, ⟨o, ⟨a, b⟩, bvv⟩⟩ := m
  obtain ⟨iA, ic, vA, vc, lA, lc, bA, bc⟩ := u
  unfold mval at G1 HX hW0 ⊢
  dsimp only at *
  obtain ⟨⟨f0, f1⟩, ⟨t0, t1⟩, n0, q0', l0⟩ := hh
  obtain ⟨f, rfl⟩ : ∃ x : Nat, f = (x : Int) := ⟨f.toNat, by omega⟩
  obtain ⟨t, rfl⟩ : ∃ x : Nat, t = (x : Int) := ⟨t.toNat, by omega⟩
  obtain ⟨n, rfl⟩ : ∃ x : Nat, n = (x : Int) := ⟨n.toNat, by omega⟩
  obtain ⟨q, rfl⟩ : ∃ x : Nat, q = (x : Int) := ⟨q.toNat, by omega⟩
  obtain ⟨k, rfl⟩ : ∃ x : Nat, k = (x : Int) := ⟨k.toNat, by omega⟩
  have k0 : k ≤ 5 := by omega
  have hf1 : f ≤ 63 := by omega
  have ht1 : t ≤ 63 := by omega
  obtain ⟨hd, hhd⟩ : ∃ x, x = [UInt8.ofNat k, UInt8.ofNat f, UInt8.ofNat t] := ⟨_, rfl⟩
  have hhd' : hd = Pk.lay (k : Int).toNat ++ (Pk.lay (f : Int).toNat ++ Pk.lay (t : Int).toNat) := by rw [hhd, Int.toNat_natCast, Int.toNat_natCast, Int.toNat_natCast, Pk.lay_small (by omega), Pk.lay_small (by omega), Pk.lay_small (by omega)]; rfl
  have hbv : bv hd = [.int .u8 (k : Int), .int .u8 (f : Int), .int .u8 (t : Int)] := by
    rw [hhd]
    simp only [bv, List.map_cons, List.map_nil, Pk.toNat_ofNat (show k < 256 by omega), Pk.toNat_ofNat (show f < 256 by omega), Pk.toNat_ofNat (show t < 256 by omega)]
  have hl3 : hd.length = 3 := by rw [hhd]; rfl
  have GS := fun (W : World) (hb : Below W0.heap.size W0 W) (hk : k = 1) => refSetBytes_any iA i.length ic i W rfl (iR.go hb) (P1 (by omega)).1
  have GV := fun (W : World) (hb : Below W0.heap.size W0 W) (hk : k = 1) => refVecBytes_any vA v.length vc v W rfl (vR.go hb) (P1 (by omega)).2 c3
  have GB := fun (W : World) (hb : Below W0.heap.size W0 W) (hk : k = 5) => refBodyBytes_any ⟨o, (a, b), bvv⟩ bA bc W (bR.go hb) (P5 (by omega)) c5
  have GL := fun (W : World) (hb : Below W0.heap.size W0 W) (j : Nat) (hj : j < L.length) => (lR.go hb).note hj
  have HLN : L.length = l.length := lR.len
  have GN := fun (W : World) (hb : Below W0.heap.size W0 W) (j : Nat) (hj : j < L.length) (hj2 : j < l.length) (hk : k = 3) =>
    (show Calls Tryd.prog 26 #[.agg L[j].1.val] W fun e w' => ∃ u, e = .returned u ∧ BytesAre W.heap.size W (Wq.lNt l[j]) u w' ∧ (Wq.lNt l[j]).length ≤ 20000 from by
      have e1 : l[j] = L[j].2 := by simp only [← hnl]; exact nts_at L j hj
      have hmem := List.getElem_mem hj2
      have hh := lNt_small (P3 (by omega) _ hmem) (c4 _ hmem)
      rw [e1] at hh hmem ⊢
      exact (refNoteBytes_any L[j].1 L[j].2 W ((lR.go hb).each _ (List.getElem_mem hj)) (P3 (by omega) _ hmem) (c4 _ hmem)).mono fun e W' ⟨u, h1, h2⟩ => ⟨u, h1, h2, hh⟩)
  have HTK := fun j (hj : j < l.length) => lL_take l j hj
  have HTE : Wq.lL (l.take l.length) = Wq.lL l := by rw [List.take_length]
  have HLS := Lib.hid fun (h : k = 1) => Wq.lS_len (P1 (by omega)).1
  have HLV := Lib.hid fun (h : k = 1) => lV_len (P1 (by omega)).2 c3
  have HP4 := Lib.hid fun (h : k = 4) => P4 (by omega)
  have HLB := Lib.hid fun (h : k = 5) => lB_small (P5 (by omega)) c5
  have hc1 : n < 9223372036854775808 := by omega
  have hc2 : q < 9223372036854775808 := by omega
  unfold bval at GB
  dsimp only at GB
  clear hf hiv hM iR vR lR bR hnl P1 P3 P4 P5 c3 c4 c5
  obtain ⟨ni, hni⟩ : ∃ x, x = i.length := ⟨_, rfl⟩
  obtain ⟨nv, hnv⟩ : ∃ x, x = v.length := ⟨_, rfl⟩
  obtain ⟨nb, hnb⟩ : ∃ x, x = bvv.length := ⟨_, rfl⟩
  rw [← hni] at HX G1 GS hW0 ⊢
  rw [← hnv] at HX G1 GV hW0 ⊢
  rw [← hnb] at HX G1 GB hW0 ⊢
  have GN := Lib.hid GN
  have HTK := Lib.hid HTK
  have G1 := Lib.hid G1
  have GS := Lib.hid GS
  have GV := Lib.hid GV
  have GB := Lib.hid GB
  have GL := Lib.hid GL
  have HLN := Lib.hid HLN
  have HX := Lib.hid HX
  have HB := Lib.hid hb0
  have HTE := Lib.hid HTE
  have HHD := Lib.hid hhd'
  have HBV := Lib.hid hbv
  have HL3 := Lib.hid hl3
  have HW := Lib.hid hW0.symm
  have E1 := Lib.hid fun (h : k = 1) => E1 (by omega)
  have E2 := Lib.hid fun (h : k = 2) => E2 (by omega)
  have E3 := Lib.hid fun (h : k = 3) => E3 (by omega)
  have E4 := Lib.hid fun (h : k = 4) => E4 (by omega)
  have E5 := Lib.hid fun (h : k = 5) => E5 (by omega)
  have HKK := Lib.hid (show k = 1 ∨ k = 2 ∨ k = 3 ∨ k = 4 ∨ k = 5 by omega)
  have h3max : 3 ≤ maxLen := by unfold maxLen; omega
  clear hb0 hhd' hhd hbv hW0 hni hnv hnb hkk hl3 f0 f1 t0 t1 n0 q0' c1 c2
  go_enter Tryd.func38, Tryd.ntmps38
  go_wp2_with fail
  rw [HW.out]
  obtain ⟨q0, q1, q2, q3, q4, q5, q6, q7, q8, q9, q10, q11⟩ := HX.out.twelve
  go_wp2_with fail
  refine G1.out.mono ?_
  rintro e w1 ⟨rfl, hb1⟩
  have hX1 := HX.out.go hb1
  clear q0 q1 q2 q3 q4 q5 q6 q7 q8 q9 q10 q11
  obtain ⟨q0, q1, q2, q3, q4, q5, q6, q7, q8, q9, q10, q11⟩ := hX1.twelve
  have HB1 := Lib.hid hb1
  clear hX1 hb1 G1
  go_upto_region 4 with fail
  have hbA : Below w1.heap.size w1 (w1.alloc (.cells #[.int .u8 (k : Int), .int .u8 (f : Int), .int .u8 (t : Int)] 5)) := (Below.refl _ _).alloc (Nat.le_refl _) _
  have kw := below_then HB1.out (Nat.le_refl _) hbA
  have E := Lib.hid (show (w1.alloc (.cells #[.int .u8 (k : Int), .int .u8 (f : Int), .int .u8 (t : Int)] 5)).ownsRow W0.heap.size 5 1 (.slice (some ⟨w1.heap.size, 0, none⟩) 3 3) 3 (bv hd) from by rw [HBV.out]; exact own_less (own_litB w1 #[.int .u8 (k : Int), .int .u8 (f : Int), .int .u8 (t : Int)] 3 5 h3max rfl) HB1.out.size)
  obtain ⟨w2, hw2⟩ : ∃ W, W = w1.alloc (.cells #[.int .u8 (k : Int), .int .u8 (f : Int), .int .u8 (t : Int)] 5) := ⟨_, rfl⟩
  rw [← hw2] at kw E
  have HW2 := Lib.hid hw2.symm
  obtain ⟨g2, hg2⟩ : ∃ g, g = w1.heap.size := ⟨_, rfl⟩
  clear hw2 hbA q0 q1 q2 q3 q4 q5 q6 q7 q8 q9 q10 q11 hg2
  rw [HW2.out]
  have hX2 := HX.out.go kw
  obtain ⟨q0, q1, q2, q3, q4, q5, q6, q7, q8, q9, q10, q11⟩ := hX2.twelve
  clear hX2
  have HSA := Lib.hid fun (W : World) (hb : Below W0.heap.size W0 W) => (show W.cell? ⟨w.heap.size, 3, none⟩ = some (.int .i64 n) ∧ W.cell? ⟨w.heap.size, 5, none⟩ = some (.slice iA ni ic) ∧ W.cell? ⟨w.heap.size, 6, none⟩ = some (.slice vA nv vc) from ⟨(HX.out.go hb).cell 3, (HX.out.go hb).cell 5, (HX.out.go hb).cell 6⟩)
  have HSC := Lib.hid fun (W : World) (hb : Below W0.heap.size W0 W) => (show W.cell? ⟨w.heap.size, 3, none⟩ = some (.int .i64 n) ∧ W.cell? ⟨w.heap.size, 4, none⟩ = some (.int .i64 q) ∧ W.cell? ⟨w.heap.size, 7, none⟩ = some (.slice lA l.length lc) from ⟨(HX.out.go hb).cell 3, (HX.out.go hb).cell 4, (HX.out.go hb).cell 7⟩)
  rcases HKK.out with rfl | rfl | rfl | rfl | rfl
  · -- kind 1
    have kw := kw.drew
    have E := Lib.hid (show (w2.drew).ownsRow W0.heap.size 5 1 _ 3 (bv hd) from E.out)
    have hn9 : (Pk.lay n).length ≤ 9 := Pk.lay_len9 hc1
    have GA := fun W => refBytes_any n W hc1
    obtain ⟨ln, hln⟩ : ∃ x, x = (Pk.lay n).length := ⟨_, rfl⟩
    rw [← hln] at GA hn9
    have GS1 := fun W hb => GS.out W hb (by first | rfl | trivial)
    have GV1 := fun W hb => GV.out W hb (by first | rfl | trivial)
    have hls := HLS.out (by first | rfl | trivial)
    have hlv := HLV.out (by first | rfl | trivial)
    unfold BytesAre at GS1 GV1
    obtain ⟨p, hp⟩ : ∃ p, p = Wq.lS i := ⟨_, rfl⟩
    obtain ⟨r, hr⟩ : ∃ p, p = Wq.lV v := ⟨_, rfl⟩
    rw [← hp] at GS1 hls
    rw [← hr] at GV1 hlv
    obtain ⟨lp, hlp⟩ : ∃ x, x = p.length := ⟨_, rfl⟩
    obtain ⟨lr, hlr⟩ : ∃ x, x = r.length := ⟨_, rfl⟩
    rw [← hlp] at GS1 hls
    rw [← hlr] at GV1 hlv
    have h63 : 3 + ln ≤ maxLen := by unfold maxLen; omega
    have h63b : 3 + ln + lp ≤ maxLen := by unfold maxLen; omega
    have h63c : 3 + ln + lp + lr ≤ maxLen := by unfold maxLen; omega
    have GA := Lib.hid GA
    have GS1 := Lib.hid GS1
    have GV1 := Lib.hid GV1
    have HLL := Lib.hid (And.intro hln (And.intro hlp (And.intro hlr (And.intro hp hr))))
    clear hln hlp hlr hp hr
    go_wp2_with fail
    refine region_nrm fun KK hKK => ?_
    refine wp_region_held_drew (S := (fun W => W.cell? ⟨w.heap.size, 3, none⟩ = some (.int .i64 n) ∧ W.cell? ⟨w.heap.size, 5, none⟩ = some (.slice iA ni ic) ∧ W.cell? ⟨w.heap.size, 6, none⟩ = some (.slice vA nv vc))) (by kernel_rfl) (by first | exact HSA.out _ kw) (fun hHeld => ?_)
    refine wpAnyH_putD (i := 0) (d := 23) (v := ?_) rfl rfl (by kernel_rfl) (by kernel_rfl) (by kernel_rfl) (fun _ _ _ h => h) (Or.inl ⟨by kernel_rfl, ?_⟩) (by first | exact HSA.out _ kw) ?_
    rotate_left
    · (intro w hS; (try dsimp only at hS); go_simp <;> with_reducible rfl)
    try simp only [List.setIfInBounds_toArray, List.set_cons_zero, List.set_cons_succ]
    refine wpAnyH_putD (i := 1) (d := 24) (v := ?_) rfl rfl (by kernel_rfl) (by kernel_rfl) (by kernel_rfl) (fun _ _ _ h => h) (Or.inl ⟨by kernel_rfl, ?_⟩) (by first | exact HSA.out _ kw) ?_
    rotate_left
    · (intro w hS; (try dsimp only at hS); go_simp <;> with_reducible rfl)
    try simp only [List.setIfInBounds_toArray, List.set_cons_zero, List.set_cons_succ]
    refine wpAnyH_putD (i := 2) (d := 25) (v := ?_) rfl rfl (by kernel_rfl) (by kernel_rfl) (by kernel_rfl) (fun _ _ _ h => h) (Or.inl ⟨by kernel_rfl, ?_⟩) (by first | exact HSA.out _ kw) ?_
    rotate_left
    · (intro w hS; (try dsimp only at hS); go_simp <;> with_reducible rfl)
    try simp only [List.setIfInBounds_toArray, List.set_cons_zero, List.set_cons_succ]
    refine wpAnyH_putD (i := 5) (d := 28) (v := ?_) rfl rfl (by kernel_rfl) (by kernel_rfl) (by kernel_rfl) (fun _ _ _ h => h) (Or.inl ⟨by kernel_rfl, ?_⟩) (by first | exact HSA.out _ kw) ?_
    rotate_left
    · (intro w hS; (try dsimp only at hS); go_simp <;> with_reducible rfl)
    try simp only [List.setIfInBounds_toArray, List.set_cons_zero, List.set_cons_succ]
    refine wpAnyH_putD (i := 6) (d := 29) (v := ?_) rfl rfl (by kernel_rfl) (by kernel_rfl) (by kernel_rfl) (fun _ _ _ h => h) (Or.inl ⟨by kernel_rfl, ?_⟩) (by first | exact HSA.out _ kw) ?_
    rotate_left
    · (intro w hS; (try dsimp only at hS); go_simp <;> with_reducible rfl)
    try simp only [List.setIfInBounds_toArray, List.set_cons_zero, List.set_cons_succ]
    refine wpAnyH_putD (i := 9) (d := 32) (v := ?_) rfl rfl (by kernel_rfl) (by kernel_rfl) (by kernel_rfl) (fun _ _ _ h => h) (Or.inl ⟨by kernel_rfl, ?_⟩) (by first | exact HSA.out _ kw) ?_
    rotate_left
    · (intro w hS; (try dsimp only at hS); go_simp <;> with_reducible rfl)
    try simp only [List.setIfInBounds_toArray, List.set_cons_zero, List.set_cons_succ]
    refine wpAnyH_putD (i := 10) (d := 33) (v := ?_) rfl rfl (by kernel_rfl) (by kernel_rfl) (by kernel_rfl) (fun _ _ _ h => h) (Or.inl ⟨by kernel_rfl, ?_⟩) (by first | exact HSA.out _ kw) ?_
    rotate_left
    · (intro w hS; (try dsimp only at hS); go_simp <;> with_reducible rfl)
    try simp only [List.setIfInBounds_toArray, List.set_cons_zero, List.set_cons_succ]
    refine wpAnyH_ready (rs := [3]) (by kernel_rfl) (by simp) ?_
    refine AllReadyH.cons rfl (fun K hK => ?_) AllReadyH.nil
    go_simp
    refine (GA.out _).mono ?_
    rintro e W1 ⟨D1, d1, rfl, ho1, hb'⟩
    have C := Lib.hid ho1
    have E := Lib.hid (own_below E.out hb' (Nat.le_refl _))
    have kw := below_then kw (Nat.le_refl _) hb'
    clear ho1 hb'
    refine hK.out _ _ (by first | exact HSA.out _ kw) (fun hHeld => ?_)
    clear hK K
    refine wpAnyH_ready (rs := [4]) (by kernel_rfl) (by simp) ?_
    refine AllReadyH.cons rfl (fun K hK => ?_) AllReadyH.nil
    rw [if_pos (by kernel_rfl)]
    refine wp_append_rd _ (.tmp 23) (.tmp 26) _ rfl W0.heap.size 5 i0 _ 1 1 Tryd.underlying23 hi0 hz0 hz1 hz2 rfl (by decide) _ 3 (bv hd) rfl E.out _ D1 ln d1 (bv (Pk.lay n)) rfl (Rd.of_own C.out) (bv_oneCell _) h63 (by omega) kw.size ?_
    intro A26 c26 V26 ho hg hat
    have kw := kw.trans (grown_below hg kw.size (fun g hg' => (E.out.lt g hg').1))
    have E := Lib.hid ho
    clear ho hg hat C
    refine hK.out _ _ (by first | exact HSA.out _ kw) (fun hHeld => ?_)
    clear hK K
    refine wpAnyH_ready (rs := [7]) (by kernel_rfl) (by simp) ?_
    refine AllReadyH.cons rfl (fun K hK => ?_) AllReadyH.nil
    go_simp
    refine (GS1.out _ kw).mono ?_
    rintro e W2 ⟨_, rfl, D2, d2, rfl, ho1, hb'⟩
    have C := Lib.hid ho1
    have E := Lib.hid (own_below E.out hb' (Nat.le_refl _))
    have kw := below_then kw (Nat.le_refl _) hb'
    clear ho1 hb'
    refine hK.out _ _ (by first | exact HSA.out _ kw) (fun hHeld => ?_)
    clear hK K
    refine wpAnyH_ready (rs := [8]) (by kernel_rfl) (by simp) ?_
    refine AllReadyH.cons rfl (fun K hK => ?_) AllReadyH.nil
    rw [if_pos (by kernel_rfl)]
    refine wp_append_rd _ (.tmp 27) (.tmp 30) _ rfl W0.heap.size 5 i0 _ 1 1 Tryd.underlying23 hi0 hz0 hz1 hz2 rfl (by decide) _ (3 + ln) (bv hd ++ bv (Pk.lay n)) rfl E.out _ D2 lp d2 (bv p) rfl (Rd.of_own C.out) (bv_oneCell _) h63b (by omega) kw.size ?_
    intro A30 c30 V30 ho hg hat
    have kw := kw.trans (grown_below hg kw.size (fun g hg' => (E.out.lt g hg').1))
    have E := Lib.hid ho
    clear ho hg hat C
    refine hK.out _ _ (by first | exact HSA.out _ kw) (fun hHeld => ?_)
    clear hK K
    refine wpAnyH_ready (rs := [11]) (by kernel_rfl) (by simp) ?_
    refine AllReadyH.cons rfl (fun K hK => ?_) AllReadyH.nil
    go_simp
    refine (GV1.out _ kw).mono ?_
    rintro e W3 ⟨_, rfl, D3, d3, rfl, ho1, hb'⟩
    have C := Lib.hid ho1
    have E := Lib.hid (own_below E.out hb' (Nat.le_refl _))
    have kw := below_then kw (Nat.le_refl _) hb'
    clear ho1 hb'
    refine hK.out _ _ (by first | exact HSA.out _ kw) (fun hHeld => ?_)
    clear hK K
    refine wpAnyH_ready (rs := [12]) (by kernel_rfl) (by simp) ?_
    refine AllReadyH.cons rfl (fun K hK => ?_) AllReadyH.nil
    rw [if_pos (by kernel_rfl)]
    refine wp_append_rd _ (.tmp 31) (.tmp 34) _ rfl W0.heap.size 5 i0 _ 1 1 Tryd.underlying23 hi0 hz0 hz1 hz2 rfl (by decide) _ (3 + ln + lp) (bv hd ++ bv (Pk.lay n) ++ bv p) rfl E.out _ D3 lr d3 (bv r) rfl (Rd.of_own C.out) (bv_oneCell _) h63c (by omega) kw.size ?_
    intro A34 c34 V34 ho hg hat
    have kw := kw.trans (grown_below hg kw.size (fun g hg' => (E.out.lt g hg').1))
    have E := Lib.hid ho
    clear ho hg hat C
    refine hK.out _ _ (by first | exact HSA.out _ kw) (fun hHeld => ?_)
    clear hK K
    refine wpAnyH_putD (i := 13) (d := 4) (v := ?_) rfl rfl (by kernel_rfl) (by kernel_rfl) (by kernel_rfl) (fun _ _ _ h => h) (Or.inl ⟨by kernel_rfl, ?_⟩) (by first | exact HSA.out _ kw) ?_
    rotate_left
    · (intro w hS; (try dsimp only at hS); go_simp <;> with_reducible rfl)
    try simp only [List.setIfInBounds_toArray, List.set_cons_zero, List.set_cons_succ]
    refine wpAnyH_done (by kernel_rfl) ?_ _
    refine Nrm.out (hKK _ _ ?_)
    go_wp2
    go_ret2
    obtain ⟨x1, x2, x3, x4, x5⟩ := HLL.out
    have e5 : Wq.enc _ = hd ++ Pk.lay n ++ p ++ r := (E1.out (by first | rfl | trivial)).trans (by rw [HHD.out, x4, x5]; simp)
    have e6 : (hd ++ Pk.lay n ++ p ++ r).length = 3 + ln + lp + lr := by simp only [List.length_append]; rw [HL3.out, ← x1, ← x2, ← x3]
    refine ⟨_, rfl, ?_⟩
    unfold BytesAre
    rw [e5, e6, bv_app, bv_app, bv_app]
    exact ⟨A34, c34, rfl, own_less E.out (by omega), below_then HB.out (Nat.le_refl _) kw⟩
  · -- kind 2
    go_wp2
    go_ret2
    have e5 : Wq.enc _ = hd := (E2.out (by first | rfl | trivial)).trans (by rw [HHD.out])
    have e6 : Wq.enc ⟨2, f, t, n, q, i, v, l, ⟨o, (a, b), bvv⟩⟩ = hd := e5
    refine ⟨_, rfl, ?_⟩
    unfold BytesAre
    first | rw [e5, HL3.out] | rw [e6, HL3.out]
    exact ⟨some ⟨w1.heap.size, 0, none⟩, 3, rfl, own_less E.out (by omega), below_then HB.out (Nat.le_refl _) kw⟩
  · -- kind 3
    have hn9 : (Pk.lay n).length ≤ 9 := Pk.lay_len9 hc1
    have hq9 : (Pk.lay q).length ≤ 9 := Pk.lay_len9 hc2
    have hl9 : (Pk.lay l.length).length ≤ 9 := Pk.lay_len9 (by omega)
    have GA := fun W => refBytes_any n W hc1
    have GQ := fun W => refBytes_any q W hc2
    have GZ := fun W => refBytes_any l.length W (by omega)
    obtain ⟨ln, hln⟩ : ∃ x, x = (Pk.lay n).length := ⟨_, rfl⟩
    obtain ⟨lq, hlq⟩ : ∃ x, x = (Pk.lay q).length := ⟨_, rfl⟩
    obtain ⟨lz, hlz⟩ : ∃ x, x = (Pk.lay l.length).length := ⟨_, rfl⟩
    rw [← hln] at GA hn9
    rw [← hlq] at GQ hq9
    rw [← hlz] at GZ hl9
    have h63 : 3 + ln ≤ maxLen := by unfold maxLen; omega
    have h63b : 3 + ln + lq ≤ maxLen := by unfold maxLen; omega
    have h63c : 3 + ln + lq + lz ≤ maxLen := by unfold maxLen; omega
    have GA := Lib.hid GA
    have GQ := Lib.hid GQ
    have GZ := Lib.hid GZ
    have HLL := Lib.hid (And.intro hln (And.intro hlq hlz))
    clear hln hlq hlz
    have kw := kw.drew
    have E := Lib.hid (show (w2.drew).ownsRow W0.heap.size 5 1 _ 3 (bv hd) from E.out)
    go_wp2_with fail
    refine region_nrm fun KK hKK => ?_
    refine wp_region_held_drew (S := (fun W => W.cell? ⟨w.heap.size, 3, none⟩ = some (.int .i64 n) ∧ W.cell? ⟨w.heap.size, 4, none⟩ = some (.int .i64 q) ∧ W.cell? ⟨w.heap.size, 7, none⟩ = some (.slice lA l.length lc))) (by kernel_rfl) (by first | exact HSC.out _ kw) (fun hHeld => ?_)
    refine wpAnyH_putD (i := 0) (d := 38) (v := ?_) rfl rfl (by kernel_rfl) (by kernel_rfl) (by kernel_rfl) (fun _ _ _ h => h) (Or.inl ⟨by kernel_rfl, ?_⟩) (by first | exact HSC.out _ kw) ?_
    rotate_left
    · (intro w hS; (try dsimp only at hS); go_simp <;> with_reducible rfl)
    try simp only [List.setIfInBounds_toArray, List.set_cons_zero, List.set_cons_succ]
    refine wpAnyH_putD (i := 1) (d := 39) (v := ?_) rfl rfl (by kernel_rfl) (by kernel_rfl) (by kernel_rfl) (fun _ _ _ h => h) (Or.inl ⟨by kernel_rfl, ?_⟩) (by first | exact HSC.out _ kw) ?_
    rotate_left
    · (intro w hS; (try dsimp only at hS); go_simp <;> with_reducible rfl)
    try simp only [List.setIfInBounds_toArray, List.set_cons_zero, List.set_cons_succ]
    refine wpAnyH_putD (i := 2) (d := 40) (v := ?_) rfl rfl (by kernel_rfl) (by kernel_rfl) (by kernel_rfl) (fun _ _ _ h => h) (Or.inl ⟨by kernel_rfl, ?_⟩) (by first | exact HSC.out _ kw) ?_
    rotate_left
    · (intro w hS; (try dsimp only at hS); go_simp <;> with_reducible rfl)
    try simp only [List.setIfInBounds_toArray, List.set_cons_zero, List.set_cons_succ]
    refine wpAnyH_putD (i := 5) (d := 43) (v := ?_) rfl rfl (by kernel_rfl) (by kernel_rfl) (by kernel_rfl) (fun _ _ _ h => h) (Or.inl ⟨by kernel_rfl, ?_⟩) (by first | exact HSC.out _ kw) ?_
    rotate_left
    · (intro w hS; (try dsimp only at hS); go_simp <;> with_reducible rfl)
    try simp only [List.setIfInBounds_toArray, List.set_cons_zero, List.set_cons_succ]
    refine wpAnyH_putD (i := 6) (d := 44) (v := ?_) rfl rfl (by kernel_rfl) (by kernel_rfl) (by kernel_rfl) (fun _ _ _ h => h) (Or.inl ⟨by kernel_rfl, ?_⟩) (by first | exact HSC.out _ kw) ?_
    rotate_left
    · (intro w hS; (try dsimp only at hS); go_simp <;> with_reducible rfl)
    try simp only [List.setIfInBounds_toArray, List.set_cons_zero, List.set_cons_succ]
    refine wpAnyH_putD (i := 9) (d := 47) (v := ?_) rfl rfl (by kernel_rfl) (by kernel_rfl) (by kernel_rfl) (fun _ _ _ h => h) (Or.inl ⟨by kernel_rfl, ?_⟩) (by first | exact HSC.out _ kw) ?_
    rotate_left
    · (intro w hS; (try dsimp only at hS); go_simp <;> with_reducible rfl)
    try simp only [List.setIfInBounds_toArray, List.set_cons_zero, List.set_cons_succ]
    refine wpAnyH_putD (i := 10) (d := 48) (v := ?_) rfl rfl (by kernel_rfl) (by kernel_rfl) (by kernel_rfl) (fun _ _ _ h => h) (Or.inl ⟨by kernel_rfl, ?_⟩) (by first | exact HSC.out _ kw) ?_
    rotate_left
    · (intro w hS; (try dsimp only at hS); go_simp <;> with_reducible rfl)
    try simp only [List.setIfInBounds_toArray, List.set_cons_zero, List.set_cons_succ]
    refine wpAnyH_putD (i := 11) (d := 49) (v := ?_) rfl rfl (by kernel_rfl) (by kernel_rfl) (by kernel_rfl) (fun _ _ _ h => h) (Or.inl ⟨by kernel_rfl, ?_⟩) (by first | exact HSC.out _ kw) ?_
    rotate_left
    · (intro w hS; (try dsimp only at hS); go_simp <;> with_reducible rfl)
    try simp only [List.setIfInBounds_toArray, List.set_cons_zero, List.set_cons_succ]
    refine wpAnyH_ready (rs := [3]) (by kernel_rfl) (by simp) ?_
    refine AllReadyH.cons rfl (fun K hK => ?_) AllReadyH.nil
    go_simp
    refine (GA.out _).mono ?_
    rintro e W1 ⟨D1, d1, rfl, ho1, hb'⟩
    have C := Lib.hid ho1
    have E := Lib.hid (own_below E.out hb' (Nat.le_refl _))
    have kw := below_then kw (Nat.le_refl _) hb'
    clear ho1 hb'
    refine hK.out _ _ (by first | exact HSC.out _ kw) (fun hHeld => ?_)
    clear hK K
    refine wpAnyH_ready (rs := [4]) (by kernel_rfl) (by simp) ?_
    refine AllReadyH.cons rfl (fun K hK => ?_) AllReadyH.nil
    rw [if_pos (by kernel_rfl)]
    refine wp_append_rd _ (.tmp 38) (.tmp 41) _ rfl W0.heap.size 5 i0 _ 1 1 Tryd.underlying23 hi0 hz0 hz1 hz2 rfl (by decide) _ 3 (bv hd) rfl E.out _ D1 ln d1 (bv (Pk.lay n)) rfl (Rd.of_own C.out) (bv_oneCell _) h63 (by omega) kw.size ?_
    intro A41 c41 V41 ho hg hat
    have kw := kw.trans (grown_below hg kw.size (fun g hg' => (E.out.lt g hg').1))
    have E := Lib.hid ho
    clear ho hg hat C
    refine hK.out _ _ (by first | exact HSC.out _ kw) (fun hHeld => ?_)
    clear hK K
    refine wpAnyH_ready (rs := [7]) (by kernel_rfl) (by simp) ?_
    refine AllReadyH.cons rfl (fun K hK => ?_) AllReadyH.nil
    go_simp
    refine (GQ.out _).mono ?_
    rintro e W2 ⟨D2, d2, rfl, ho1, hb'⟩
    have C := Lib.hid ho1
    have E := Lib.hid (own_below E.out hb' (Nat.le_refl _))
    have kw := below_then kw (Nat.le_refl _) hb'
    clear ho1 hb'
    refine hK.out _ _ (by first | exact HSC.out _ kw) (fun hHeld => ?_)
    clear hK K
    refine wpAnyH_ready (rs := [8]) (by kernel_rfl) (by simp) ?_
    refine AllReadyH.cons rfl (fun K hK => ?_) AllReadyH.nil
    rw [if_pos (by kernel_rfl)]
    refine wp_append_rd _ (.tmp 42) (.tmp 45) _ rfl W0.heap.size 5 i0 _ 1 1 Tryd.underlying23 hi0 hz0 hz1 hz2 rfl (by decide) _ (3 + ln) (bv hd ++ bv (Pk.lay n)) rfl E.out _ D2 lq d2 (bv (Pk.lay q)) rfl (Rd.of_own C.out) (bv_oneCell _) h63b (by omega) kw.size ?_
    intro A45 c45 V45 ho hg hat
    have kw := kw.trans (grown_below hg kw.size (fun g hg' => (E.out.lt g hg').1))
    have E := Lib.hid ho
    clear ho hg hat C
    refine hK.out _ _ (by first | exact HSC.out _ kw) (fun hHeld => ?_)
    clear hK K
    refine wpAnyH_ready (rs := [12]) (by kernel_rfl) (by simp) ?_
    refine AllReadyH.cons rfl (fun K hK => ?_) AllReadyH.nil
    go_simp
    refine (GZ.out _).mono ?_
    rintro e W3 ⟨D3, d3, rfl, ho1, hb'⟩
    have C := Lib.hid ho1
    have E := Lib.hid (own_below E.out hb' (Nat.le_refl _))
    have kw := below_then kw (Nat.le_refl _) hb'
    clear ho1 hb'
    refine hK.out _ _ (by first | exact HSC.out _ kw) (fun hHeld => ?_)
    clear hK K
    refine wpAnyH_ready (rs := [13]) (by kernel_rfl) (by simp) ?_
    refine AllReadyH.cons rfl (fun K hK => ?_) AllReadyH.nil
    rw [if_pos (by kernel_rfl)]
    refine wp_append_rd _ (.tmp 46) (.tmp 50) _ rfl W0.heap.size 5 i0 _ 1 1 Tryd.underlying23 hi0 hz0 hz1 hz2 rfl (by decide) _ (3 + ln + lq) (bv hd ++ bv (Pk.lay n) ++ bv (Pk.lay q)) rfl E.out _ D3 lz d3 (bv (Pk.lay l.length)) rfl (Rd.of_own C.out) (bv_oneCell _) h63c (by omega) kw.size ?_
    intro A50 c50 V50 ho hg hat
    have kw := kw.trans (grown_below hg kw.size (fun g hg' => (E.out.lt g hg').1))
    have E := Lib.hid ho
    clear ho hg hat C
    refine hK.out _ _ (by first | exact HSC.out _ kw) (fun hHeld => ?_)
    clear hK K
    refine wpAnyH_putD (i := 14) (d := 4) (v := ?_) rfl rfl (by kernel_rfl) (by kernel_rfl) (by kernel_rfl) (fun _ _ _ h => h) (Or.inl ⟨by kernel_rfl, ?_⟩) (by first | exact HSC.out _ kw) ?_
    rotate_left
    · (intro w hS; (try dsimp only at hS); go_simp <;> with_reducible rfl)
    try simp only [List.setIfInBounds_toArray, List.set_cons_zero, List.set_cons_succ]
    refine wpAnyH_done (by kernel_rfl) ?_ _
    refine Nrm.out (hKK _ _ ?_)
    obtain ⟨pre, hpre⟩ : ∃ x, x = hd ++ Pk.lay n ++ Pk.lay q ++ Pk.lay l.length := ⟨_, rfl⟩
    have HPL := Lib.hid (show pre.length = 3 + ln + lq + lz by obtain ⟨x1, x2, x3⟩ := HLL.out; rw [hpre]; simp only [List.length_append]; rw [HL3.out, ← x1, ← x2, ← x3])
    have E := Lib.hid (show World.ownsRow _ W0.heap.size 5 1 (.slice A50 (3 + ln + lq + lz) c50) (3 + ln + lq + lz) (bv pre) from by have := E.out; rw [hpre, bv_app, bv_app, bv_app]; exact this)
    have HPR := Lib.hid hpre
    clear q0 q1 q2 q3 q4 q5 q6 q7 q8 q9 q10 q11 hpre hHeld
    have K3 := Lib.hid kw
    clear kw
    go_wp2_with fail
    go_loopw [4, 5] (fun v4 v5 wr => ∃ (j N c' : Nat) (A' : Option Addr), v5 = .int .i64 j ∧ v4 = .slice A' N c' ∧ j ≤ l.length ∧ N ≤ 30 + 20000 * j ∧ Hid (wr.ownsRow W0.heap.size 5 1 (.slice A' N c') N (bv (pre ++ Wq.lL (l.take j)))) ∧ Hid ((pre ++ Wq.lL (l.take j)).length = N) ∧ Below W0.heap.size W0 wr) (fun _ v5 _ => l.length - (intOf v5).toNat)
    case atStart => exact ⟨0, 3 + ln + lq + lz, c50, A50, rfl, rfl, by omega, by omega, by show World.ownsRow _ _ _ _ _ _ _; simpa [Wq.lL] using E.out, by show _ = _; simp [Wq.lL, HPL.out], K3.out⟩
    case round =>
      obtain ⟨j, N, c', A', rfl, rfl, hj, hN, ho, hq, hb⟩ := hrel
      have hbs := hb.size
      have q7 := (HX.out.go hb).cell 7
      by_cases hlt : j < l.length
      · have hjl : j < L.length := by rw [HLN.out]; exact hlt
        obtain ⟨bb, oo, rfl, hbb, g0, g1, g2', g3⟩ := GL.out wr hb j hjl
        have HT := Lib.hid (HTK.out j hlt)
        have GN1 := GN.out wr hb j hjl hlt (by first | rfl | trivial)
        obtain ⟨lx, hlx⟩ : ∃ x, x = pre ++ Wq.lL (l.take j) := ⟨_, rfl⟩
        obtain ⟨⟨nv', x⟩, hpx⟩ : ∃ p, p = L[j] := ⟨_, rfl⟩
        rw [← hpx] at g0 g1 g2' g3 GN1
        dsimp only at g0 g1 g2' g3 GN1
        obtain ⟨A1, n1, c1, A2, n2, c2, A3, n3, c3, A4, n4, c4⟩ := nv'
        dsimp only [NV.val] at g0 g1 g2' g3 GN1
        obtain ⟨y, hy⟩ : ∃ y, y = Wq.lNt (l[j]'hlt) := ⟨_, rfl⟩
        rw [← hy] at GN1
        have HT := Lib.hid (show pre ++ Wq.lL (l.take (j + 1)) = lx ++ y by rw [HT.out, ← hy, hlx, List.append_assoc])
        have GN1 := Lib.hid GN1
        have HO := Lib.hid (show wr.ownsRow W0.heap.size 5 1 (.slice A' N c') N (bv lx) from by rw [hlx]; exact ho.out)
        have HQ := Lib.hid (show lx.length = N from by rw [hlx]; exact hq.out)
        have HBR := Lib.hid hb
        clear hlx hy hpx ho hq hb
        go_wp2_with (first
          | (go_at_call 26; go_must (refine GN1.out.mono ?_); rintro e w4 ⟨_, rfl, ⟨D4, d4, rfl, ho4, hb4⟩, hy4⟩; have E4 := own_below HO.out hb4 (Nat.le_refl _); have k4 := below_then HBR.out (Nat.le_refl _) hb4; have h64 : N + y.length ≤ maxLen := (by unfold maxLen; omega))
          | (at_builtin; go_must (refine wpList_append_rd _ rfl (.tmp 59) (.tmp 65) _ rfl W0.heap.size 5 i0 _ 1 1 Tryd.underlying23 hi0 hz0 hz1 hz2 rfl (by decide) _ N (bv lx) rfl E4 _ D4 y.length d4 (bv y) rfl (Rd.of_own ho4) (bv_oneCell _) h64 (by omega) k4.size ?_); intro A5 c5 w5 ho5 hg5 hat5; have k5 := k4.trans (grown_below hg5 k4.size (fun g hg' => (E4.lt g hg').1)))
          | fail)
        go_roundw
        case rel =>
          refine ⟨j + 1, N + y.length, c5, A5, by go_num, rfl, by omega, by omega, ?_, ?_, k5⟩
          · show World.ownsRow _ _ _ _ _ _ _
            rw [HT.out, bv_app]
            exact ho5
          · show _ = _
            rw [HT.out, List.length_append, HQ.out]
        case measure => simp [intOf]; omega
      · obtain rfl : j = l.length := by omega
        have q1 := hq.out
        have q3 := ho.out
        have HBR := Lib.hid hb
        clear hq ho hb
        go_wp2
        go_ret2
        rw [HTE.out] at q1 q3
        have e5 : Wq.enc _ = pre ++ Wq.lL l := (E3.out (by first | rfl | trivial)).trans (by rw [HPR.out, HHD.out]; simp)
        refine ⟨_, rfl, ?_⟩
        unfold BytesAre
        rw [e5, q1]
        exact ⟨A', c', rfl, own_less q3 (by omega), below_then HB.out (Nat.le_refl _) HBR.out⟩
  · -- kind 4
    have ho := HP4.out (by first | rfl | trivial)
    obtain ⟨o, rfl⟩ : ∃ x : Nat, o = (x : Int) := ⟨o.toNat, by omega⟩
    have ho9 : (Pk.lay o).length ≤ 9 := Pk.lay_len9 (by omega)
    have GA := Lib.hid fun W => refBytes_any o W (by omega)
    have h63 : 3 + (Pk.lay o).length ≤ maxLen := by unfold maxLen; omega
    clear ho
    go_wp2_with (first
      | (go_at_call 47; go_must (refine (GA.out _).mono ?_); rintro e w3 ⟨D3, d3, rfl, ho3, hb3⟩; have E3 := own_below E.out hb3 (Nat.le_refl _); have k3 := below_then kw (Nat.le_refl _) hb3)
      | (at_builtin; go_must (refine wpList_append_rd _ rfl (.tmp 69) (.tmp 73) _ rfl W0.heap.size 5 i0 _ 1 1 Tryd.underlying23 hi0 hz0 hz1 hz2 rfl (by decide) _ 3 (bv hd) rfl E3 _ D3 (Pk.lay o).length d3 (bv (Pk.lay o)) rfl (Rd.of_own ho3) (bv_oneCell _) h63 (by omega) k3.size ?_); intro A5 c5 w5 ho5 hg5 hat5; have k5 := k3.trans (grown_below hg5 k3.size (fun g hg' => (E3.lt g hg').1)))
      | fail)
    go_ret2
    have e5 : Wq.enc _ = hd ++ Pk.lay o := (E4.out (by first | rfl | trivial)).trans (by rw [HHD.out]; simp)
    have e6 : (hd ++ Pk.lay o).length = 3 + (Pk.lay o).length := by rw [List.length_append, HL3.out]
    refine ⟨_, rfl, ?_⟩
    unfold BytesAre
    rw [e5, e6, bv_app]
    exact ⟨A5, c5, rfl, own_less ho5 (by omega), below_then HB.out (Nat.le_refl _) k5⟩
  · -- kind 5
    have GB1 := fun W hb => GB.out W hb (by first | rfl | trivial)
    have hlb := HLB.out (by first | rfl | trivial)
    unfold BytesAre at GB1
    obtain ⟨p, hp⟩ : ∃ p, p = Wq.lB ⟨o, (a, b), bvv⟩ := ⟨_, rfl⟩
    rw [← hp] at GB1 hlb
    have h63 : 3 + p.length ≤ maxLen := by unfold maxLen; omega
    have GB1 := Lib.hid GB1
    have HP := Lib.hid hp
    clear hp
    go_wp2_with (first
      | (go_at_call 32; go_must (refine (GB1.out _ kw).mono ?_); rintro e w3 ⟨_, rfl, D3, d3, rfl, ho3, hb3⟩; have E3 := own_below E.out hb3 (Nat.le_refl _); have k3 := below_then kw (Nat.le_refl _) hb3)
      | (at_builtin; go_must (refine wpList_append_rd _ rfl (.tmp 77) (.tmp 80) _ rfl W0.heap.size 5 i0 _ 1 1 Tryd.underlying23 hi0 hz0 hz1 hz2 rfl (by decide) _ 3 (bv hd) rfl E3 _ D3 p.length d3 (bv p) rfl (Rd.of_own ho3) (bv_oneCell _) h63 (by omega) k3.size ?_); intro A5 c5 w5 ho5 hg5 hat5; have k5 := k3.trans (grown_below hg5 k3.size (fun g hg' => (E3.lt g hg').1)))
      | fail)
    go_ret2
    have e5 : Wq.enc _ = hd ++ p := (E5.out (by first | rfl | trivial)).trans (by rw [HHD.out, HP.out]; simp)
    have e6 : (hd ++ p).length = 3 + p.length := by rw [List.length_append, HL3.out]
    refine ⟨_, rfl, ?_⟩
    unfold BytesAre
    rw [e5, e6, bv_app]
    exact ⟨A5, c5, rfl, own_less ho5 (by omega), below_then HB.out (Nat.le_refl _) k5⟩
end Go.Proofs.YtndlcimckfndiaaDoor
