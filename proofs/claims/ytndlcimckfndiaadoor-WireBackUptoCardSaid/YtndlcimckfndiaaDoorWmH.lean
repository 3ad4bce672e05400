/- Walk: wire.Encode at any message (printed by wip/tools/genWmH.py). -/
import Derived.Test.YtndlcimckfndiaaDoorWmF
import Derived.Test.YtndlcimckfndiaaDoorWmE
namespace Go.Proofs.YtndlcimckfndiaaDoor
open Go.RowKit
set_option maxRecDepth 100000

theorem MsRd.go {w w' : World} {u : MV} {m : Wq.Ms} {L : List (NV × Nt)} (h : MsRd w w.heap.size u m L) (hb : Below w.heap.size w w') : MsRd w' w'.heap.size u m L := ⟨h.i.go hb, h.v.go hb, h.l.go hb, h.nl, h.b.go hb⟩
namespace Wq
theorem fm_head {m : Ms} (h : fmM m = true) : (0 ≤ m.f ∧ m.f ≤ 63) ∧ (0 ≤ m.t ∧ m.t ≤ 63) ∧ 0 ≤ m.n ∧ 0 ≤ m.q ∧ m.l.length ≤ 257 := (headF_iff m).1 (Bool.and_eq_true_iff.1 h).1
theorem fm_1 {m : Ms} (h : fmM m = true) (hk : m.k = 1) : Sn.fmS (-2) m.i = true ∧ fm (-1) m.v = true := by
  have h1 := (Bool.and_eq_true_iff.1 h).2
  simp only [kindF, hk, if_true, Bool.and_eq_true] at h1
  exact ⟨h1.2.2.2.2.1, h1.2.2.2.2.2⟩
theorem fm_3 {m : Ms} (h : fmM m = true) (hk : m.k = 3) : ∀ x ∈ m.l, ntF x = true := by
  have h1 := (Bool.and_eq_true_iff.1 h).2
  simp only [kindF, hk, show ¬ ((3 : Int) = 1) by decide, show ¬ ((3 : Int) = 2) by decide, if_false, if_true, Bool.and_eq_true, List.all_eq_true] at h1
  exact h1.1
theorem fm_4 {m : Ms} (h : fmM m = true) (hk : m.k = 4) : 0 ≤ m.b.o ∧ m.b.o ≤ 255 := by
  have h1 := (Bool.and_eq_true_iff.1 h).2
  simp only [kindF, hk, show ¬ ((4 : Int) = 1) by decide, show ¬ ((4 : Int) = 2) by decide, show ¬ ((4 : Int) = 3) by decide, if_false, if_true, Bool.and_eq_true, decide_eq_true_eq] at h1
  exact h1.2.2.1
theorem fm_5 {m : Ms} (h : fmM m = true) (hk : m.k = 5) : bdF m.b = true := by
  have h1 := (Bool.and_eq_true_iff.1 h).2
  simp only [kindF, hk, show ¬ ((5 : Int) = 1) by decide, show ¬ ((5 : Int) = 2) by decide, show ¬ ((5 : Int) = 3) by decide, show ¬ ((5 : Int) = 4) by decide, if_false, if_true, Bool.and_eq_true] at h1
  exact h1.2.2
theorem enc_1 {m : Ms} (hk : m.k = 1) : enc m = Pk.lay m.k.toNat ++ (Pk.lay m.f.toNat ++ (Pk.lay m.t.toNat ++ (Pk.lay m.n.toNat ++ (lS m.i ++ lV m.v)))) := by unfold enc lK; rw [if_pos hk]
theorem enc_2 {m : Ms} (hk : m.k = 2) : enc m = Pk.lay m.k.toNat ++ (Pk.lay m.f.toNat ++ Pk.lay m.t.toNat) := by unfold enc lK; simp [hk]
theorem enc_3 {m : Ms} (hk : m.k = 3) : enc m = Pk.lay m.k.toNat ++ (Pk.lay m.f.toNat ++ (Pk.lay m.t.toNat ++ (Pk.lay m.n.toNat ++ (Pk.lay m.q.toNat ++ (Pk.lay m.l.length ++ lL m.l))))) := by unfold enc lK; simp [hk]
theorem enc_4 {m : Ms} (hk : m.k = 4) : enc m = Pk.lay m.k.toNat ++ (Pk.lay m.f.toNat ++ (Pk.lay m.t.toNat ++ Pk.lay m.b.o.toNat)) := by unfold enc lK; simp [hk]
theorem enc_5 {m : Ms} (hk : m.k = 5) : enc m = Pk.lay m.k.toNat ++ (Pk.lay m.f.toNat ++ (Pk.lay m.t.toNat ++ lB m.b)) := by unfold enc lK; simp [hk]
end Wq
theorem newInts {W : World} {xs : List Int} {m : Nat} (hm : xs.length = m) (h9 : m ≤ 9) : Rd (W.alloc (.cells (iv xs).toArray 3)) (W.alloc (.cells (iv xs).toArray 3)).heap.size 1 (some ⟨W.heap.size, 0, none⟩) m m (iv xs) := by
  rw [World.size_alloc]
  have := Rd.new W 3 1 m (iv xs).toArray (by simp [iv, hm]) (by unfold maxLen; omega)
  simpa using this

theorem newIntsAt {W : World} {x : Int} (_ : Below W.heap.size W (W.alloc (.cells #[.int .i64 x] 3))) : Rd (W.alloc (.cells #[.int .i64 x] 3)) (W.alloc (.cells #[.int .i64 x] 3)).heap.size 1 (some ⟨W.heap.size, 0, none⟩) 1 1 (iv [x]) := newInts (xs := [x]) rfl (by omega)
set_option maxHeartbeats 2000000 in
theorem encode_no (m : Wq.Ms) (u : MV) (L : List (NV × Nt)) (w : World) (hT : Tab w) (hM : MsRd w w.heap.size u m L) (hiv : m.i.length + m.v.length ≤ 9223372036854775807) (hf : Wq.fmM m = false) :
    Calls Tryd.prog 37 #[.agg (mval m u)] w fun e w' => e = .returned (.tuple #[.slice none 0 0, .int .i64 1]) ∧ Below w.heap.size w w' := by
  have hb0 : Below w.heap.size w (w.alloc (.cells (mval m u) 74)) := (Below.refl _ _).alloc (Nat.le_refl _) _
  have G1 := wireFormed_any m u L _ (hT.below hb0) (hM.go hb0) hiv
  rw [hf] at G1
  obtain ⟨k, f, t, n, q, i, v, l, ⟨o, ⟨a, b⟩, bvv⟩⟩ := m
  obtain ⟨iA, ic, vA, vc, lA, lc, bA, bc⟩ := u
  unfold mval at G1 hb0 ⊢
  dsimp only at G1 hb0 ⊢
  have G1 := Lib.hid G1
  have HB := Lib.hid hb0
  obtain ⟨q0, q1, q2, q3, q4, q5, q6, q7, q8, q9, q10, q11⟩ := (Blk.new w 74 #[.int .i64 k, .int .i64 f, .int .i64 t, .int .i64 n, .int .i64 q, .slice iA i.length ic, .slice vA v.length vc, .slice lA l.length lc, .int .i64 o, .int .i64 a, .int .i64 b, .slice bA bvv.length bc]).twelve
  clear hf hb0 hT hM hiv
  go_enter Tryd.func37, Tryd.ntmps37
  go_wp2_with (go_at_call 40; go_must (refine G1.out.mono ?_); rintro e w1 ⟨rfl, hb1⟩)
  go_ret2
  exact ⟨rfl, below_then HB.out (Nat.le_refl _) hb1⟩

theorem lL_take (l : List Nt) (k : Nat) (h : k < l.length) : Wq.lL (l.take (k + 1)) = Wq.lL (l.take k) ++ Wq.lNt l[k] := by
  unfold Wq.lL
  rw [List.take_succ_eq_append_getElem h, List.flatMap_append]; simp

set_option maxHeartbeats 3000000 in
theorem encode_any (m : Wq.Ms) (u : MV) (L : List (NV × Nt)) (w : World) (hT : Tab w) (hM : MsRd w w.heap.size u m L) (hiv : m.i.length + m.v.length ≤ 9223372036854775807) (hc : Wq.msC m) (hf : Wq.fmM m = true) :
    Calls Tryd.prog 37 #[.agg (mval m u)] w fun e w' => ∃ v, e = .returned (.tuple #[v, .int .i64 0]) ∧ BytesAre w.heap.size w (Wq.enc m) v w' := by
  obtain ⟨i0, hi0, hz0, hz1, hz2⟩ := info_parts u8_info
  have hb0 : Below w.heap.size w (w.alloc (.cells (mval m u) 74)) := (Below.refl _ _).alloc (Nat.le_refl _) _
  have G1 := wireFormed_any m u L _ (hT.below hb0) (hM.go hb0) hiv
  rw [hf] at G1
  have hh := Wq.fm_head hf
  have hkk := Wq.fm_kind hf
  have E1 := @Wq.enc_1 m
  have E2 := @Wq.enc_2 m
  have E3 := @Wq.enc_3 m
  have E4 := @Wq.enc_4 m
  have E5 := @Wq.enc_5 m
  have P1 := @Wq.fm_1 m hf
  have P3 := @Wq.fm_3 m hf
  have P4 := @Wq.fm_4 m hf
  have P5 := @Wq.fm_5 m hf
  obtain ⟨c1, c2, c3, c4, c5⟩ := hc
  obtain ⟨iR, vR, lR, hnl, bR⟩ := hM.go hb0
  obtain ⟨W0, hW0⟩ : ∃ W0, W0 = w.alloc (.cells (mval m u) 74) := ⟨_, rfl⟩
  have HX := Blk.new w 74 (mval m u)
  have hs0 : W0.heap.size = w.heap.size + 1 := by rw [hW0]; simp
  rw [← hW0] at G1 iR vR lR bR HX hb0
  have hT0 := hT.below hb0
  obtain ⟨k, f, t, n, q, i, v, l, ⟨o, ⟨a, b⟩, bvv⟩⟩ := m
  obtain ⟨iA, ic, vA, vc, lA, lc, bA, bc⟩ := u
  unfold mval at G1 HX hW0 ⊢
  dsimp only at *
  obtain ⟨⟨f0, f1⟩, ⟨t0, t1⟩, n0, q0', l0⟩ := hh
  have hu3 : ∀ x ∈ [k, f, t], Wq.u63 x := by
    intro x hx
    simp only [List.mem_cons, List.not_mem_nil, or_false] at hx
    rcases hx with rfl | rfl | rfl
    · exact ⟨by omega, by omega⟩
    · exact ⟨by omega, by omega⟩
    · exact ⟨by omega, by omega⟩
  have G2 := fun (W : World) (D : Option Addr) (d : Nat) (h : Rd W W.heap.size 1 D 3 d (iv [k, f, t])) => lay_any none D 0 0 3 d [] [k, f, t] W rfl Rd.none_ rfl h hu3 (by omega) (by omega)
  have hd27 := layAll_len [k, f, t] hu3
  rw [List.nil_append] at G2
  obtain ⟨hd, hhd⟩ : ∃ x, x = layAll [k, f, t] := ⟨_, rfl⟩
  rw [← hhd] at G2 hd27
  have hhd' : hd = Pk.lay k.toNat ++ (Pk.lay f.toNat ++ Pk.lay t.toNat) := by rw [hhd]; simp [layAll]
  have GS := fun (W : World) (hb : Below W0.heap.size W0 W) (A : Option Addr) (c : Nat) (x : List UInt8) (hR : Rd W W.heap.size 1 A x.length c (bv x)) (hx : x.length ≤ 4000) (hk : k = 1) => appendSet_any A iA x.length c i.length ic x i W rfl hR rfl (iR.go hb) (P1 hk).1 (by omega)
  have GV := fun (W : World) (hb : Below W0.heap.size W0 W) (A : Option Addr) (c : Nat) (x : List UInt8) (hR : Rd W W.heap.size 1 A x.length c (bv x)) (hx : x.length ≤ 4000) (hk : k = 1) => appendVec_any A vA x.length c v.length vc x v W rfl hR rfl (vR.go hb) (P1 hk).2 c3 (by omega)
  have GB := fun (W : World) (hb : Below W0.heap.size W0 W) (A : Option Addr) (c : Nat) (x : List UInt8) (hR : Rd W W.heap.size 1 A x.length c (bv x)) (hx : x.length ≤ 4000) (hk : k = 5) => appendBody_any A x.length c x ⟨o, (a, b), bvv⟩ bA bc W rfl hR (bR.go hb) (P5 hk) c5 (by omega)
  have GL := fun (W : World) (hb : Below W0.heap.size W0 W) (j : Nat) (hj : j < L.length) => (lR.go hb).note hj
  have HLN : L.length = l.length := lR.len
  have GN := fun (W : World) (hb : Below W0.heap.size W0 W) (j : Nat) (hj : j < L.length) (hj2 : j < l.length) (A : Option Addr) (c : Nat) (x : List UInt8) (hR : Rd W W.heap.size 1 A x.length c (bv x)) (hx : x.length ≤ 100000000) (hk : k = 3) =>
    (show Calls Tryd.prog 27 #[.slice A x.length c, .agg L[j].1.val] W fun e w' => ∃ u, e = .returned (.tuple #[u, .int .i64 0]) ∧ BytesAre W.heap.size W (x ++ Wq.lNt l[j]) u w' ∧ (Wq.lNt l[j]).length ≤ 20000 from by
      have e1 : l[j] = L[j].2 := by simp only [← hnl]; exact nts_at L j hj
      have hmem := List.getElem_mem hj2
      have hh := lNt_small (P3 hk _ hmem) (c4 _ hmem)
      rw [e1] at hh hmem ⊢
      exact (appendNote_any A x.length c x L[j].1 L[j].2 W (hT0.below hb) rfl hR ((lR.go hb).each _ (List.getElem_mem hj)) (P3 hk _ hmem) (c4 _ hmem) (by omega)).mono fun e W' ⟨u, h1, h2⟩ => ⟨u, h1, h2, hh⟩)
  have HTK := fun j (hj : j < l.length) => lL_take l j hj
  have HTE : Wq.lL (l.take l.length) = Wq.lL l := by rw [List.take_length]
  have HP4 := Lib.hid P4
  have HI := Lib.hid fun (h : k = 1) => (P1 h).1
  unfold bval at GB
  dsimp only at GB
  clear hf hiv hT hM iR vR lR bR hnl hhd hu3 P1 P3 P4 P5 hT0 c3 c4 c5
  obtain ⟨ni, hni⟩ : ∃ x, x = i.length := ⟨_, rfl⟩
  obtain ⟨nv, hnv⟩ : ∃ x, x = v.length := ⟨_, rfl⟩
  obtain ⟨nb, hnb⟩ : ∃ x, x = bvv.length := ⟨_, rfl⟩
  rw [← hni] at HX G1 GS hW0 ⊢
  rw [← hnv] at HX G1 GV hW0 ⊢
  rw [← hnb] at HX G1 GB hW0 ⊢
  have GN := Lib.hid GN
  have HTK := Lib.hid HTK
  have G1 := Lib.hid G1
  have G2 := Lib.hid G2
  have GS := Lib.hid GS
  have GV := Lib.hid GV
  have GB := Lib.hid GB
  have GL := Lib.hid GL
  have HLN := Lib.hid HLN
  have HX := Lib.hid HX
  have HB := Lib.hid hb0
  have HTE := Lib.hid HTE
  have HHD := Lib.hid hhd'
  have HW := Lib.hid hW0.symm
  have E1 := Lib.hid E1
  have E2 := Lib.hid E2
  have E3 := Lib.hid E3
  have E4 := Lib.hid E4
  have E5 := Lib.hid E5
  have HKK := Lib.hid hkk
  simp only [List.length_cons, List.length_nil] at hd27
  clear hb0 hhd' hW0 hni hnv hnb hkk
  go_enter Tryd.func37, Tryd.ntmps37
  go_wp2_with fail
  rw [HW.out]
  have q0 := HX.out.twelve
  obtain ⟨q0, q1, q2, q3, q4, q5, q6, q7, q8, q9, q10, q11⟩ := q0
  go_wp2_with fail
  refine G1.out.mono ?_
  rintro e w1 ⟨rfl, hb1⟩
  have hX1 := HX.out.go hb1
  clear q0 q1 q2 q3 q4 q5 q6 q7 q8 q9 q10 q11
  obtain ⟨q0, q1, q2, q3, q4, q5, q6, q7, q8, q9, q10, q11⟩ := hX1.twelve
  have HX1 := Lib.hid hX1
  have HB1 := Lib.hid hb1
  clear hX1 hb1 G1
  go_wp2_with fail
  refine (G2.out (w1.alloc (.cells #[.int .i64 k, .int .i64 f, .int .i64 t] 3)) _ _ (newInts (xs := [k, f, t]) rfl (by omega))).mono ?_
  rintro e w2 ⟨_, rfl, D2, d2, rfl, ho2, hb2⟩
  have hbA := below_then HB1.out (Nat.le_refl _) ((Below.refl w1.heap.size w1).alloc (Nat.le_refl _) (.cells #[.int .i64 k, .int .i64 f, .int .i64 t] 3))
  have hw2 := below_then hbA (Nat.le_refl _) hb2
  have ho2 := own_less ho2 hbA.size
  have hX2 := HX.out.go hw2
  clear q0 q1 q2 q3 q4 q5 q6 q7 q8 q9 q10 q11
  obtain ⟨q0, q1, q2, q3, q4, q5, q6, q7, q8, q9, q10, q11⟩ := hX2.twelve
  have HX2 := Lib.hid hX2
  have kw := hw2
  have E := Lib.hid ho2
  clear hX2 ho2 hw2 hbA hb2 G2
  have HS := Lib.hid fun (W : World) (hb : Below W0.heap.size W0 W) => (show W.cell? ⟨w.heap.size, 3, none⟩ = some (.int .i64 n) ∧ W.cell? ⟨w.heap.size, 5, none⟩ = some (.slice iA ni ic) from ⟨(HX.out.go hb).cell 3, (HX.out.go hb).cell 5⟩)
  go_upto_region 4 with fail
  rcases HKK.out with rfl | rfl | rfl | rfl | rfl
  · -- kind 1
    have kw := kw.drew
    have E := Lib.hid (show (w2.drew).ownsRow W0.heap.size 5 1 (.slice D2 hd.length d2) hd.length (bv hd) from E.out)
    have hu1 : ∀ x ∈ [n], Wq.u63 x := by
      intro x hx
      rw [List.mem_singleton] at hx
      subst hx
      exact ⟨n0, c1⟩
    have h9 := layAll_len [n] hu1
    simp only [List.length_cons, List.length_nil] at h9
    have GL1 := fun (W : World) (A D : Option Addr) (c d : Nat) (hR : Rd W W.heap.size 1 A hd.length c (bv hd)) (h : Rd W W.heap.size 1 D 1 d (iv [n])) => lay_any A D hd.length c 1 d hd [n] W rfl hR rfl h hu1 (by omega) (by omega)
    obtain ⟨h2, hh2⟩ : ∃ x, x = hd ++ layAll [n] := ⟨_, rfl⟩
    have h2l : h2.length ≤ 36 := by rw [hh2, List.length_append]; omega
    rw [← hh2] at GL1
    have HH2 := Lib.hid hh2
    have GL1 := Lib.hid GL1
    have hls := Wq.lS_len (HI.out (by first | rfl | trivial))
    have GS1 := fun (W : World) hb A c hR => GS.out W hb A c h2 hR (by omega) (by first | rfl | trivial)
    obtain ⟨h3, hh3⟩ : ∃ x, x = h2 ++ Wq.lS i := ⟨_, rfl⟩
    have h3l : h3.length ≤ 600 := by rw [hh3, List.length_append]; omega
    rw [← hh3] at GS1
    have GV1 := fun (W : World) hb A c hR => GV.out W hb A c h3 hR (by omega) (by first | rfl | trivial)
    obtain ⟨h4, hh4⟩ : ∃ x, x = h3 ++ Wq.lV v := ⟨_, rfl⟩
    rw [← hh4] at GV1
    have HH4 := Lib.hid (show h4 = h2 ++ Wq.lS i ++ Wq.lV v by rw [hh4, hh3])
    have GS1 := Lib.hid GS1
    have GV1 := Lib.hid GV1
    clear hh2 hu1 hh3 hh4
    go_wp2_with fail
    refine region_nrm fun KK hKK => ?_
    refine wp_region_held_drew (S := (fun W => W.cell? ⟨w.heap.size, 3, none⟩ = some (.int .i64 n) ∧ W.cell? ⟨w.heap.size, 5, none⟩ = some (.slice iA ni ic))) (by kernel_rfl) (by first | exact HS.out _ kw) (fun hHeld => ?_)
    refine wpAnyH_putD (i := 0) (d := 23) (v := ?_) rfl rfl (by kernel_rfl) (by kernel_rfl) (by kernel_rfl) (fun _ _ _ h => h) (Or.inl ⟨by kernel_rfl, ?_⟩) (by first | exact HS.out _ kw) ?_
    rotate_left
    · (intro w hS; (try dsimp only at hS); go_simp <;> with_reducible rfl)
    try simp only [List.setIfInBounds_toArray, List.set_cons_zero, List.set_cons_succ]
    refine wpAnyH_putD (i := 1) (d := 24) (v := ?_) rfl rfl (by kernel_rfl) (by kernel_rfl) (by kernel_rfl) (fun _ _ _ h => h) (Or.inl ⟨by kernel_rfl, ?_⟩) (by first | exact HS.out _ kw) ?_
    rotate_left
    · (intro w hS; (try dsimp only at hS); go_simp <;> with_reducible rfl)
    try simp only [List.setIfInBounds_toArray, List.set_cons_zero, List.set_cons_succ]
    refine wpAnyH_putD (i := 2) (d := 25) (v := ?_) rfl rfl (by kernel_rfl) (by kernel_rfl) (by kernel_rfl) (fun _ _ _ h => h) (Or.inl ⟨by kernel_rfl, ?_⟩) (by first | exact HS.out _ kw) ?_
    rotate_left
    · (intro w hS; (try dsimp only at hS); go_simp <;> with_reducible rfl)
    try simp only [List.setIfInBounds_toArray, List.set_cons_zero, List.set_cons_succ]
    refine wpAnyH_putD (i := 5) (d := 28) (v := ?_) rfl rfl (by kernel_rfl) (by kernel_rfl) (by kernel_rfl) (fun _ _ _ h => h) (Or.inl ⟨by kernel_rfl, ?_⟩) (by first | exact HS.out _ kw) ?_
    rotate_left
    · (intro w hS; (try dsimp only at hS); go_simp <;> with_reducible rfl)
    try simp only [List.setIfInBounds_toArray, List.set_cons_zero, List.set_cons_succ]
    refine wpAnyH_putD (i := 6) (d := 29) (v := ?_) rfl rfl (by kernel_rfl) (by kernel_rfl) (by kernel_rfl) (fun _ _ _ h => h) (Or.inl ⟨by kernel_rfl, ?_⟩) (by first | exact HS.out _ kw) ?_
    rotate_left
    · (intro w hS; (try dsimp only at hS); go_simp <;> with_reducible rfl)
    try simp only [List.setIfInBounds_toArray, List.set_cons_zero, List.set_cons_succ]
    refine wpAnyH_ready (rs := [3]) (by kernel_rfl) (by simp) ?_
    refine AllReadyH.cons rfl (fun K hK => ?_) AllReadyH.nil
    go_simp
    have hb' := then_alloc kw (.cells #[.int .i64 n] 3)
    have NW := Lib.hid (newIntsAt hb')
    have E := Lib.hid (own_below E.out hb' (Nat.le_refl _))
    have kw := below_then kw (Nat.le_refl _) hb'
    clear hb'
    refine hK.out _ _ (by first | exact HS.out _ kw) (fun hHeld => ?_)
    clear hK K
    refine wpAnyH_ready (rs := [4]) (by kernel_rfl) (by simp) ?_
    refine AllReadyH.cons rfl (fun K hK => ?_) AllReadyH.nil
    go_simp
    refine (GL1.out _ _ _ _ _ (Rd.of_own E.out) NW.out).mono ?_
    rintro e W1 ⟨_, rfl, D3, d3, rfl, ho1, hb'⟩
    have E := Lib.hid (own_less ho1 kw.size)
    have kw := below_then kw (Nat.le_refl _) hb'
    clear ho1 hb' NW
    refine hK.out _ _ (by first | exact HS.out _ kw) (fun hHeld => ?_)
    clear hK K
    refine wpAnyH_ready (rs := [7]) (by kernel_rfl) (by simp) ?_
    refine AllReadyH.cons rfl (fun K hK => ?_) AllReadyH.nil
    go_simp
    refine (GS1.out _ kw _ _ (Rd.of_own E.out)).mono ?_
    rintro e W2 ⟨_, rfl, D4, d4, rfl, ho1, hb'⟩
    have E := Lib.hid (own_less ho1 kw.size)
    have kw := below_then kw (Nat.le_refl _) hb'
    clear ho1 hb'
    refine hK.out _ _ (by first | exact HS.out _ kw) (fun hHeld => ?_)
    clear hK K
    refine wpAnyH_putD (i := 8) (d := 22) (v := ?_) rfl rfl (by kernel_rfl) (by kernel_rfl) (by kernel_rfl) (fun _ _ _ h => h) (Or.inl ⟨by kernel_rfl, ?_⟩) (by first | exact HS.out _ kw) ?_
    rotate_left
    · (intro w hS; (try dsimp only at hS); go_simp <;> with_reducible rfl)
    try simp only [List.setIfInBounds_toArray, List.set_cons_zero, List.set_cons_succ]
    refine wpAnyH_putD (i := 9) (d := 31) (v := ?_) rfl rfl (by kernel_rfl) (by kernel_rfl) (by kernel_rfl) (fun _ _ _ h => h) (Or.inl ⟨by kernel_rfl, ?_⟩) (by first | exact HS.out _ kw) ?_
    rotate_left
    · (intro w hS; (try dsimp only at hS); go_simp <;> with_reducible rfl)
    try simp only [List.setIfInBounds_toArray, List.set_cons_zero, List.set_cons_succ]
    refine wpAnyH_putD (i := 10) (d := 32) (v := ?_) rfl rfl (by kernel_rfl) (by kernel_rfl) (by kernel_rfl) (fun _ _ _ h => h) (Or.inl ⟨by kernel_rfl, ?_⟩) (by first | exact HS.out _ kw) ?_
    rotate_left
    · (intro w hS; (try dsimp only at hS); go_simp <;> with_reducible rfl)
    try simp only [List.setIfInBounds_toArray, List.set_cons_zero, List.set_cons_succ]
    refine wpAnyH_putD (i := 11) (d := 4) (v := ?_) rfl rfl (by kernel_rfl) (by kernel_rfl) (by kernel_rfl) (fun _ _ _ h => h) (Or.inl ⟨by kernel_rfl, ?_⟩) (by first | exact HS.out _ kw) ?_
    rotate_left
    · (intro w hS; (try dsimp only at hS); go_simp <;> with_reducible rfl)
    try simp only [List.setIfInBounds_toArray, List.set_cons_zero, List.set_cons_succ]
    refine wpAnyH_done (by kernel_rfl) ?_ _
    refine Nrm.out (hKK _ _ ?_)
    have q6 := (HX.out.go kw).cell 6
    clear hHeld
    go_wp2_with (go_at_call 13; go_must (refine (GV1.out _ kw _ _ (Rd.of_own E.out)).mono ?_); rintro e w3 ⟨_, rfl, D5, d5, rfl, ho3, hb3⟩)
    go_ret2
    have e5 : Wq.enc _ = h4 := (E1.out (by first | rfl | trivial)).trans (by rw [HH4.out, HH2.out, HHD.out]; simp [layAll])
    refine ⟨_, rfl, ?_⟩
    unfold BytesAre
    rw [e5]
    exact ⟨D5, d5, rfl, own_less ho3 (by have := kw.size; omega), below_then (below_then HB.out (Nat.le_refl _) kw) (Nat.le_refl _) hb3⟩
  · -- kind 2
    go_wp2
    go_ret2
    have e5 : Wq.enc _ = hd := (E2.out (by first | rfl | trivial)).trans (by rw [HHD.out])
    have e6 : Pk.lay 2 ++ (Pk.lay f.toNat ++ Pk.lay t.toNat) = hd := by rw [HHD.out]; rfl
    refine ⟨_, rfl, ?_⟩
    unfold BytesAre
    first | rw [e5] | rw [e6]
    exact ⟨D2, d2, rfl, own_less E.out (by omega), below_then HB.out (Nat.le_refl _) kw⟩
  · -- kind 3
    have hu1 : ∀ x ∈ [n, q, (l.length : Int)], Wq.u63 x := by
      intro x hx
      simp only [List.mem_cons, List.not_mem_nil, or_false] at hx
      rcases hx with rfl | rfl | rfl
      · exact ⟨n0, c1⟩
      · exact ⟨q0', c2⟩
      · exact ⟨by omega, by omega⟩
    have h9 := layAll_len [n, q, (l.length : Int)] hu1
    simp only [List.length_cons, List.length_nil] at h9
    have G4 := Lib.hid fun (W : World) (A D : Option Addr) (c d : Nat) (hR : Rd W W.heap.size 1 A hd.length c (bv hd)) (h : Rd W W.heap.size 1 D 3 d (iv [n, q, (l.length : Int)])) => lay_any A D hd.length c 3 d hd [n, q, (l.length : Int)] W rfl hR rfl h hu1 (by omega) (by omega)
    clear hu1
    have hbA : Below w2.heap.size w2 (w2.alloc (.cells #[.int .i64 n, .int .i64 q, .int .i64 l.length] 3)) := (Below.refl _ _).alloc (Nat.le_refl _) _
    have kA := below_then kw (Nat.le_refl _) hbA
    go_wp2_with fail
    refine (G4.out (w2.alloc (.cells #[.int .i64 n, .int .i64 q, .int .i64 l.length] 3)) _ _ _ _ ((Rd.of_own E.out).go hbA) (newInts (xs := [n, q, (l.length : Int)]) rfl (by omega))).mono ?_
    rintro e w3 ⟨_, rfl, D3, d3, rfl, ho3, hb3⟩
    have k3 := below_then kA (Nat.le_refl _) hb3
    obtain ⟨pre, hpre⟩ : ∃ x, x = hd ++ layAll [n, q, (l.length : Int)] := ⟨_, rfl⟩
    rw [← hpre] at ho3 ⊢
    have hpl : pre.length ≤ 54 := by rw [hpre, List.length_append]; omega
    have HPR := Lib.hid hpre
    have HO := Lib.hid (own_less ho3 kA.size)
    clear q0 q1 q2 q3 q4 q5 q6 q7 q8 q9 q10 q11
    have q7 := (HX.out.go k3).cell 7
    have K3 := Lib.hid k3
    clear ho3 hb3 kA hbA kw k3 hpre
    go_wp2_with fail
    go_loopw [4, 6, 55] (fun v4 _ v55 wr => ∃ (j N c' : Nat) (A' : Option Addr), v55 = .int .i64 j ∧ v4 = .slice A' N c' ∧ j ≤ l.length ∧ N ≤ 54 + 20000 * j ∧ Hid (wr.ownsRow W0.heap.size 5 1 (.slice A' N c') N (bv (pre ++ Wq.lL (l.take j)))) ∧ Hid ((pre ++ Wq.lL (l.take j)).length = N) ∧ Below W0.heap.size W0 wr) (fun _ _ v55 _ => l.length - (intOf v55).toNat)
    case atStart => exact ⟨0, pre.length, d3, D3, rfl, rfl, by omega, by omega, by show World.ownsRow _ _ _ _ _ _ _; simpa [Wq.lL] using HO.out, by show _ = _; simp [Wq.lL], K3.out⟩
    case round =>
      obtain ⟨j, N, c', A', rfl, rfl, hj, hN, ho, hq, hb⟩ := hrel
      have hbs := hb.size
      clear q7
      by_cases hlt : j < l.length
      · have hjl : j < L.length := by rw [HLN.out]; exact hlt
        obtain ⟨bb, oo, rfl, hbb, g0, g1, g2, g3⟩ := GL.out wr hb j hjl
        have HT := Lib.hid (HTK.out j hlt)
        have hX9 := Blk.new wr 51 L[j].1.val
        have hb9 : Below wr.heap.size wr (wr.alloc (.cells L[j].1.val 51)) := (Below.refl _ _).alloc (Nat.le_refl _) _
        obtain ⟨lx, hlx⟩ : ∃ x, x = pre ++ Wq.lL (l.take j) := ⟨_, rfl⟩
        have GN1 := GN.out (wr.alloc (.cells L[j].1.val 51)) (below_then hb (Nat.le_refl _) hb9) j hjl hlt A' c' lx (by rw [hlx, hq.out]; exact (Rd.of_own ho.out).go hb9) (by rw [hlx, hq.out]; omega) (by first | rfl | trivial)
        have hlN : lx.length = N := by rw [hlx]; exact hq.out
        rw [hlN] at GN1
        obtain ⟨⟨nv', x⟩, hpx⟩ : ∃ p, p = L[j] := ⟨_, rfl⟩
        rw [← hpx] at g0 g1 g2 g3 GN1 hX9 hb9
        dsimp only at g0 g1 g2 g3 GN1 hX9 hb9
        obtain ⟨A1, n1, c1, A2, n2, c2, A3, n3, c3, A4, n4, c4⟩ := nv'
        dsimp only [NV.val] at g0 g1 g2 g3 GN1 hX9 hb9
        obtain ⟨y, hy⟩ : ∃ y, y = Wq.lNt (l[j]'hlt) := ⟨_, rfl⟩
        rw [← hy] at GN1
        have HT := Lib.hid (show pre ++ Wq.lL (l.take (j + 1)) = lx ++ y by rw [HT.out, ← hy, hlx, List.append_assoc])
        obtain ⟨zz, hzz⟩ : ∃ z, z = lx ++ y := ⟨_, rfl⟩
        have hzl : zz.length = N + y.length := by rw [hzz, List.length_append, hlN]
        rw [← hzz] at GN1
        have HT := Lib.hid (HT.out.trans hzz.symm)
        have HZL := Lib.hid hzl
        have GN1 := Lib.hid GN1
        have HLN2 := Lib.hid hlN
        have HB9 := Lib.hid (below_then hb (Nat.le_refl _) hb9)
        obtain ⟨r0, r1, r2, r3⟩ := hX9.four
        clear hlx hy hpx hlN ho hq hX9 hb9 hb hzz hzl
        go_wp2_with (go_at_call 27; go_must (refine GN1.out.mono ?_); rintro e w4 ⟨_, rfl, ⟨D4, d4, rfl, ho4, hb4⟩, hy4⟩)
        have hs9 := HB9.out.size
        go_roundw
        case rel =>
          refine ⟨j + 1, zz.length, d4, D4, by go_num, rfl, by omega, by rw [HZL.out]; omega, ?_, ?_, below_then HB9.out (Nat.le_refl _) hb4⟩
          · show World.ownsRow _ _ _ _ _ _ _
            rw [HT.out]
            exact own_less ho4 hs9
          · show _ = _
            rw [HT.out]
        case measure => simp [intOf]; omega
      · obtain rfl : j = l.length := by omega
        have q1 := hq.out
        have q3 := ho.out
        clear hq ho
        go_wp2
        go_ret2
        rw [HTE.out] at q1 q3
        have e5 : Wq.enc _ = pre ++ Wq.lL l := (E3.out (by first | rfl | trivial)).trans (by rw [HPR.out, HHD.out]; simp [layAll])
        refine ⟨_, rfl, ?_⟩
        unfold BytesAre
        rw [e5, q1]
        exact ⟨A', c', rfl, own_less q3 (by omega), below_then HB.out (Nat.le_refl _) hb⟩
  · -- kind 4
    have hu1 : ∀ x ∈ [o], Wq.u63 x := by
      intro x hx
      rw [List.mem_singleton] at hx
      subst hx
      have := HP4.out (by first | rfl | trivial)
      exact ⟨by omega, by omega⟩
    have G4 := Lib.hid fun (W : World) (A D : Option Addr) (c d : Nat) (hR : Rd W W.heap.size 1 A hd.length c (bv hd)) (h : Rd W W.heap.size 1 D 1 d (iv [o])) => lay_any A D hd.length c 1 d hd [o] W rfl hR rfl h hu1 (by omega) (by omega)
    obtain ⟨h3, hh3⟩ : ∃ x, x = hd ++ layAll [o] := ⟨_, rfl⟩
    rw [← hh3] at G4
    have HH3 := Lib.hid hh3
    clear hu1 hh3
    have hbA : Below w2.heap.size w2 (w2.alloc (.cells #[.int .i64 o] 3)) := (Below.refl _ _).alloc (Nat.le_refl _) _
    go_wp2_with (go_at_call 49; go_must (refine (G4.out (w2.alloc (.cells #[.int .i64 o] 3)) _ _ _ _ ((Rd.of_own E.out).go hbA) (newInts (xs := [o]) rfl (by omega))).mono ?_); rintro e w3 ⟨_, rfl, D3, d3, rfl, ho3, hb3⟩)
    go_ret2
    have kA := below_then kw (Nat.le_refl _) hbA
    have e5 : Wq.enc _ = h3 := (E4.out (by first | rfl | trivial)).trans (by rw [HH3.out, HHD.out]; simp [layAll])
    refine ⟨_, rfl, ?_⟩
    unfold BytesAre
    rw [e5]
    exact ⟨D3, d3, rfl, own_less ho3 (by have := kA.size; omega), below_then (below_then HB.out (Nat.le_refl _) kA) (Nat.le_refl _) hb3⟩
  · -- kind 5
    have GB1 := fun (W : World) hb A c hR => GB.out W hb A c hd hR (by omega) (by first | rfl | trivial)
    obtain ⟨h3, hh3⟩ : ∃ x, x = hd ++ Wq.lB ⟨o, (a, b), bvv⟩ := ⟨_, rfl⟩
    rw [← hh3] at GB1
    have HH3 := Lib.hid hh3
    have GB1 := Lib.hid GB1
    clear hh3
    go_wp2_with (go_at_call 33; go_must (refine (GB1.out _ kw _ _ (Rd.of_own E.out)).mono ?_); rintro e w3 ⟨_, rfl, D3, d3, rfl, ho3, hb3⟩)
    go_ret2
    have e5 : Wq.enc _ = h3 := (E5.out (by first | rfl | trivial)).trans (by rw [HH3.out, HHD.out]; simp)
    refine ⟨_, rfl, ?_⟩
    unfold BytesAre
    rw [e5]
    exact ⟨D3, d3, rfl, own_less ho3 (by have := kw.size; omega), below_then (below_then HB.out (Nat.le_refl _) kw) (Nat.le_refl _) hb3⟩
end Go.Proofs.YtndlcimckfndiaaDoor
