/- Walk: is a message formed? (wire.Formed; printed by wip/tools/genWmF.py). -/
import Derived.Test.YtndlcimckfndiaaDoorWmB
import Derived.Test.YtndlcimckfndiaaDoorWrQ
import Derived.Deep.DeepCutAuto
namespace Go.Proofs.YtndlcimckfndiaaDoor
open Go.RowKit
set_option maxRecDepth 100000

/-- Is a message formed, by its numbers, its lengths, and what its lists are. -/
def fmW (k f t n q o a b : Int) (ni nv nl nb : Nat) (S V LL R : Bool) : Bool :=
  ((decide (0 ≤ f) && decide (f ≤ 63)) && ((decide (0 ≤ t) && decide (t ≤ 63)) && (decide (0 ≤ n) && (decide (0 ≤ q) && decide (nl ≤ 257))))) &&
  (if k = 1 then decide (q = 0) && (decide (nl = 0) && ((decide (o = 0) && ((decide (a = 0) && decide (b = 0)) && decide (nb = 0))) && (decide (0 < ni) && (S && V))))
  else if k = 2 then (decide (ni = 0) && decide (nv = 0)) && ((decide (n = 0) && (decide (q = 0) && decide (nl = 0))) && (decide (o = 0) && ((decide (a = 0) && decide (b = 0)) && decide (nb = 0))))
  else if k = 3 then LL && ((decide (ni = 0) && decide (nv = 0)) && (decide (o = 0) && ((decide (a = 0) && decide (b = 0)) && decide (nb = 0))))
  else if k = 4 then (decide (ni = 0) && decide (nv = 0)) && ((decide (n = 0) && (decide (q = 0) && decide (nl = 0))) && ((decide (0 ≤ o) && decide (o ≤ 255)) && ((decide (a = 0) && decide (b = 0)) && decide (nb = 0))))
  else if k = 5 then (decide (ni = 0) && decide (nv = 0)) && ((decide (n = 0) && (decide (q = 0) && decide (nl = 0))) && R)
  else false)
theorem fmM_W (m : Wq.Ms) : Wq.fmM m = fmW m.k m.f m.t m.n m.q m.b.o m.b.s.1 m.b.s.2 m.i.length m.v.length m.l.length m.b.v.length (Sn.fmS (-2) m.i) (fm (-1) m.v) (m.l.all ntF) (Wq.bdF m.b) := rfl
theorem nodeB_any (z : Int) (w : World) : Calls Tryd.prog 74 #[.int .i64 z] w fun e w' => e = .returned (.bool (decide (0 ≤ z) && decide (z ≤ 63))) ∧ w = w' := by
  by_cases c1 : 0 ≤ z
  · have HX := Lib.hid (show (decide (0 ≤ z) && decide (z ≤ 63)) = decide (z ≤ 63) by simp [c1])
    rw [HX.out]
    by_cases c2 : z ≤ 63
    · have HX := Lib.hid (show decide (z ≤ 63) = true by simp [c2])
      rw [HX.out]
      go_enter Tryd.func74, Tryd.ntmps74
      go_wp2
      go_ret
      exact ⟨ret_bool (by simp; omega), rfl⟩
    · have HX := Lib.hid (show decide (z ≤ 63) = false by simp [c2])
      rw [HX.out]
      go_enter Tryd.func74, Tryd.ntmps74
      go_wp2
      go_ret
      exact ⟨ret_bool (by simp; omega), rfl⟩
  · have HX := Lib.hid (show (decide (0 ≤ z) && decide (z ≤ 63)) = false by simp [c1])
    rw [HX.out]
    have hd : decide (0 ≤ z) = false := by simpa using c1
    go_enter Tryd.func74, Tryd.ntmps74
    go_wp2
    go_ret
    exact ⟨rfl, rfl⟩
theorem all_drop {L : List (NV × Nt)} {k : Nat} (h : k < L.length) : (nts (L.drop k)).all ntF = (ntF L[k].2 && (nts (L.drop (k + 1))).all ntF) := by
  rw [List.drop_eq_getElem_cons h]
  rfl
theorem all_drop_end {L : List (NV × Nt)} {k : Nat} (h : L.length ≤ k) : (nts (L.drop k)).all ntF = true := by
  rw [List.drop_of_length_le h]; rfl

set_option maxHeartbeats 8000000 in
theorem wireFormed_any (m : Wq.Ms) (u : MV) (L : List (NV × Nt)) (w : World) (hT : Tab w) (hM : MsRd w w.heap.size u m L) (hiv : m.i.length + m.v.length ≤ 9223372036854775807) :
    Calls Tryd.prog 40 #[.agg (mval m u)] w fun e w' => e = .returned (.bool (Wq.fmM m)) ∧ Below w.heap.size w w' := by
  rw [fmM_W]
  obtain ⟨iR, vR, lR, hnl, bR⟩ := hM
  obtain ⟨k, f, t, n, q, i, v, l, ⟨o, ⟨a, b⟩, bvv⟩⟩ := m
  obtain ⟨iA, ic, vA, vc, lA, lc, bA, bc⟩ := u
  unfold mval
  dsimp only at *
  have hb0 : Below w.heap.size w (w.alloc (.cells #[.int .i64 k, .int .i64 f, .int .i64 t, .int .i64 n, .int .i64 q, .slice iA i.length ic, .slice vA v.length vc, .slice lA l.length lc, .int .i64 o, .int .i64 a, .int .i64 b, .slice bA bvv.length bc] 74)) := (Below.refl _ _).alloc (Nat.le_refl _) _
  have HX := Blk.new w 74 #[.int .i64 k, .int .i64 f, .int .i64 t, .int .i64 n, .int .i64 q, .slice iA i.length ic, .slice vA v.length vc, .slice lA l.length lc, .int .i64 o, .int .i64 a, .int .i64 b, .slice bA bvv.length bc]
  have GS := fun (W : World) (hb : Below w.heap.size w W) => formedS_any iA i.length ic i W rfl (iR.go hb)
  have GV := fun (W : World) (hb : Below w.heap.size w W) => formed_any vA v.length vc v W rfl (vR.go hb)
  have GR := fun (W : World) => bodyRight_any ⟨o, (a, b), bvv⟩ bA bc W
  have mi : i.length ≤ maxLen := Nat.le_trans iR.cap iR.max
  have mv : v.length ≤ maxLen := Nat.le_trans vR.cap vR.max
  have ml : l.length ≤ maxLen := Nat.le_trans lR.rd.cap lR.rd.max
  have mb : bvv.length ≤ maxLen := Nat.le_trans bR.cap bR.max
  have HLN := lR.len
  have GL := fun (W : World) (hb : Below w.heap.size w W) (j : Nat) (hj : j < L.length) => (lR.go hb).note hj
  have GN := fun (W : World) (hb : Below w.heap.size w W) (j : Nat) (hj : j < L.length) => noteFormed_any L[j].1 L[j].2 W (hT.below hb) ((lR.go hb).each _ (List.getElem_mem hj))
  have HLA : l.all ntF = (nts (L.drop 0)).all ntF := by rw [← hnl]; rfl
  unfold bval at GR
  dsimp only at GR
  generalize Sn.fmS (-2) i = S at GS ⊢
  generalize fm (-1) v = V at GV ⊢
  generalize Wq.bdF ⟨o, (a, b), bvv⟩ = R at GR ⊢
  rw [HLA]
  clear iR vR lR bR hnl HLA hT
  generalize i.length = ni at *
  generalize v.length = nv at *
  generalize l.length = nl at *
  generalize bvv.length = nb at *
  have hnl : nl ≤ 9223372036854775807 := by unfold maxLen at ml; omega
  clear mi mv ml mb
  have GS := Lib.hid GS
  have GV := Lib.hid GV
  have GR := Lib.hid GR
  have GL := Lib.hid GL
  have GN := Lib.hid GN
  have HX := Lib.hid HX
  have HB := Lib.hid hb0
  have HLN := Lib.hid HLN
  obtain ⟨LL, hLL⟩ : ∃ z, z = (nts (L.drop 0)).all ntF := ⟨_, rfl⟩
  rw [← hLL]
  have HLL := Lib.hid hLL
  have HNF := fun W => nodeB_any f W
  have HNT := fun W => nodeB_any t W
  obtain ⟨zf, hzf⟩ : ∃ z, z = (decide (0 ≤ f) && decide (f ≤ 63)) := ⟨_, rfl⟩
  obtain ⟨zt, hzt⟩ : ∃ z, z = (decide (0 ≤ t) && decide (t ≤ 63)) := ⟨_, rfl⟩
  rw [← hzf] at HNF
  rw [← hzt] at HNT
  obtain ⟨W0, hW0⟩ : ∃ W0, W0 = w.alloc (.cells #[.int .i64 k, .int .i64 f, .int .i64 t, .int .i64 n, .int .i64 q, .slice iA ni ic, .slice vA nv vc, .slice lA nl lc, .int .i64 o, .int .i64 a, .int .i64 b, .slice bA nb bc] 74) := ⟨_, rfl⟩
  rw [← hW0] at HX HB
  have HW := Lib.hid hW0.symm
  have HZF := Lib.hid hzf
  have HZT := Lib.hid hzt
  obtain ⟨q0, q1, q2, q3, q4, q5, q6, q7, q8, q9, q10, q11⟩ := HX.out.twelve
  clear hb0 hLL hzf hzt hW0
  rcases zf with _ | _
  · have HV := Lib.hid (show fmW k f t n q o a b ni nv nl nb S V LL R = false by have := HZF.out; grind [fmW])
    have HNF := Lib.hid HNF
    clear HNT
    go_enter Tryd.func40, Tryd.ntmps40
    go_wp2_with fail
    rw [HW.out]
    refine (HNF.out _).mono ?_
    rintro e w1 ⟨rfl, rfl⟩
    go_wp2
    go_ret
    exact ⟨by rw [HV.out] <;> rfl, HB.out⟩
  rcases zt with _ | _
  · have HV := Lib.hid (show fmW k f t n q o a b ni nv nl nb S V LL R = false by have := HZT.out; grind [fmW])
    have HNF := Lib.hid HNF
    have HNT := Lib.hid HNT
    go_enter Tryd.func40, Tryd.ntmps40
    go_wp2_with fail
    rw [HW.out]
    refine (HNF.out _).mono ?_
    rintro e w1 ⟨rfl, rfl⟩
    go_wp2_with fail
    refine (HNT.out _).mono ?_
    rintro e w1 ⟨rfl, rfl⟩
    go_wp2
    go_ret
    exact ⟨by rw [HV.out] <;> rfl, HB.out⟩
  have HFT := Lib.hid (show 0 ≤ f ∧ f ≤ 63 ∧ 0 ≤ t ∧ t ≤ 63 by have h1 := HZF.out; have h2 := HZT.out; simp at h1 h2; omega)
  have HNF := Lib.hid HNF
  have HNT := Lib.hid HNT
  clear HZF HZT
  go_enter Tryd.func40, Tryd.ntmps40
  go_wp2_with fail
  rw [HW.out]
  refine (HNF.out _).mono ?_
  rintro e w1 ⟨rfl, rfl⟩
  go_wp2_with fail
  refine (HNT.out _).mono ?_
  rintro e w1 ⟨rfl, rfl⟩
  clear HNF HNT
  go_upto_region 3 with fail
  obtain ⟨sb, hsb⟩ : ∃ z, z = decide (0 < ni + nv) := ⟨_, rfl⟩
  have HSB := Lib.hid hsb
  clear hsb
  go_cut [3] (fun v3 wx => v3 = .bool sb ∧ W0 = wx)
  case first =>
    go_wp2_with fail
    go_meet
    exact ⟨congrArg Value.bool (by rw [HSB.out, Bool.eq_iff_iff]; simp; omega), rfl⟩
  case rest =>
  obtain ⟨rfl, rfl⟩ := hcut
  go_upto_region 4 with fail
  obtain ⟨nt, hnt⟩ : ∃ z, z = decide (0 < nl) := ⟨_, rfl⟩
  have HNB := Lib.hid hnt
  clear hnt
  go_cut [4] (fun v4 wx => v4 = .bool nt ∧ W0 = wx)
  case first =>
    go_wp2_with fail
    go_meet
    exact ⟨congrArg Value.bool (by rw [HNB.out, Bool.eq_iff_iff] <;> simp), rfl⟩
  case rest =>
  obtain ⟨rfl, rfl⟩ := hcut
  go_upto_region 5 with fail
  obtain ⟨bd, hbd⟩ : ∃ z, z = !(decide (a = 0) && decide (b = 0) && decide (nb = 0)) := ⟨_, rfl⟩
  have HBD := Lib.hid hbd
  clear hbd
  go_cut [5] (fun v5 wx => v5 = .bool bd ∧ W0 = wx)
  case first =>
    by_cases h1 : a = 0
    · subst h1
      by_cases h2 : b = 0
      · subst h2
        go_wp2_with fail
        go_meet
        exact ⟨congrArg Value.bool (by rw [HBD.out, Bool.eq_iff_iff]; simp; try omega), rfl⟩
      · go_wp2_with fail
        go_meet
        exact ⟨congrArg Value.bool (by rw [HBD.out]; simp [h2]), rfl⟩
    · go_wp2_with fail
      go_meet
      exact ⟨congrArg Value.bool (by rw [HBD.out]; simp [h1]), rfl⟩
  case rest =>
  obtain ⟨rfl, rfl⟩ := hcut
  by_cases hk1 : k = 1
  · subst hk1
    have k1 : ((1 : Int) == 1) = true := rfl
    by_cases h1 : 0 ≤ n
    rotate_left
    · have h1b : decide (0 ≤ n) = false := by simpa using h1
      have HV := Lib.hid (show fmW 1 f t n q o a b ni nv nl nb S V LL R = false by have h1 := HSB.out; have h2 := HNB.out; have h3 := HBD.out; have h4 := HFT.out; grind [fmW])
      go_wp2_with (first
        | (go_at_call 56; go_must (refine (GS.out _ HB.out).mono ?_); rintro e w1 ⟨rfl, hb1⟩; have hd1 := below_then HB.out (Nat.le_refl _) hb1; have q6 := (HX.out.go hb1).cell 6)
        | (go_at_call 48; go_must (refine (GV.out _ hd1).mono ?_); rintro e w2 ⟨rfl, hb2⟩; have hd2 := below_then hd1 (Nat.le_refl _) hb2)
        | (go_at_call 67; go_must (refine (GR.out _).mono ?_); rintro e w1 ⟨rfl, hb1⟩; have hd1 := below_then HB.out (Nat.le_refl _) hb1)
        | fail)
      go_ret
      exact ⟨by rw [HV.out] <;> rfl, HB.out⟩
    by_cases h2 : q = 0
    rotate_left
    · have h2b : (q == 0) = false := by simpa using h2
      have HV := Lib.hid (show fmW 1 f t n q o a b ni nv nl nb S V LL R = false by have h1 := HSB.out; have h2 := HNB.out; have h3 := HBD.out; have h4 := HFT.out; grind [fmW])
      go_wp2_with (first
        | (go_at_call 56; go_must (refine (GS.out _ HB.out).mono ?_); rintro e w1 ⟨rfl, hb1⟩; have hd1 := below_then HB.out (Nat.le_refl _) hb1; have q6 := (HX.out.go hb1).cell 6)
        | (go_at_call 48; go_must (refine (GV.out _ hd1).mono ?_); rintro e w2 ⟨rfl, hb2⟩; have hd2 := below_then hd1 (Nat.le_refl _) hb2)
        | (go_at_call 67; go_must (refine (GR.out _).mono ?_); rintro e w1 ⟨rfl, hb1⟩; have hd1 := below_then HB.out (Nat.le_refl _) hb1)
        | fail)
      go_ret
      exact ⟨by rw [HV.out] <;> rfl, HB.out⟩
    subst h2
    rcases nt with _ | _
    rotate_left
    · skip
      have HV := Lib.hid (show fmW 1 f t n 0 o a b ni nv nl nb S V LL R = false by have h1 := HSB.out; have h2 := HNB.out; have h3 := HBD.out; have h4 := HFT.out; grind [fmW])
      go_wp2_with (first
        | (go_at_call 56; go_must (refine (GS.out _ HB.out).mono ?_); rintro e w1 ⟨rfl, hb1⟩; have hd1 := below_then HB.out (Nat.le_refl _) hb1; have q6 := (HX.out.go hb1).cell 6)
        | (go_at_call 48; go_must (refine (GV.out _ hd1).mono ?_); rintro e w2 ⟨rfl, hb2⟩; have hd2 := below_then hd1 (Nat.le_refl _) hb2)
        | (go_at_call 67; go_must (refine (GR.out _).mono ?_); rintro e w1 ⟨rfl, hb1⟩; have hd1 := below_then HB.out (Nat.le_refl _) hb1)
        | fail)
      go_ret
      exact ⟨by rw [HV.out] <;> rfl, HB.out⟩
    rcases bd with _ | _
    rotate_left
    · skip
      have HV := Lib.hid (show fmW 1 f t n 0 o a b ni nv nl nb S V LL R = false by have h1 := HSB.out; have h2 := HNB.out; have h3 := HBD.out; have h4 := HFT.out; grind [fmW])
      go_wp2_with (first
        | (go_at_call 56; go_must (refine (GS.out _ HB.out).mono ?_); rintro e w1 ⟨rfl, hb1⟩; have hd1 := below_then HB.out (Nat.le_refl _) hb1; have q6 := (HX.out.go hb1).cell 6)
        | (go_at_call 48; go_must (refine (GV.out _ hd1).mono ?_); rintro e w2 ⟨rfl, hb2⟩; have hd2 := below_then hd1 (Nat.le_refl _) hb2)
        | (go_at_call 67; go_must (refine (GR.out _).mono ?_); rintro e w1 ⟨rfl, hb1⟩; have hd1 := below_then HB.out (Nat.le_refl _) hb1)
        | fail)
      go_ret
      exact ⟨by rw [HV.out] <;> rfl, HB.out⟩
    by_cases h3 : o = 0
    rotate_left
    · have h3b : (o == 0) = false := by simpa using h3
      have HV := Lib.hid (show fmW 1 f t n 0 o a b ni nv nl nb S V LL R = false by have h1 := HSB.out; have h2 := HNB.out; have h3 := HBD.out; have h4 := HFT.out; grind [fmW])
      go_wp2_with (first
        | (go_at_call 56; go_must (refine (GS.out _ HB.out).mono ?_); rintro e w1 ⟨rfl, hb1⟩; have hd1 := below_then HB.out (Nat.le_refl _) hb1; have q6 := (HX.out.go hb1).cell 6)
        | (go_at_call 48; go_must (refine (GV.out _ hd1).mono ?_); rintro e w2 ⟨rfl, hb2⟩; have hd2 := below_then hd1 (Nat.le_refl _) hb2)
        | (go_at_call 67; go_must (refine (GR.out _).mono ?_); rintro e w1 ⟨rfl, hb1⟩; have hd1 := below_then HB.out (Nat.le_refl _) hb1)
        | fail)
      go_ret
      exact ⟨by rw [HV.out] <;> rfl, HB.out⟩
    subst h3
    by_cases h4 : 0 < ni
    rotate_left
    · have h4b : decide ((0 : Int) < (ni : Int)) = false := by simp; omega
      have h4c : ¬ (0 : Int) < (ni : Int) := by omega
      have HV := Lib.hid (show fmW 1 f t n 0 0 a b ni nv nl nb S V LL R = false by have h1 := HSB.out; have h2 := HNB.out; have h3 := HBD.out; have h4 := HFT.out; grind [fmW])
      go_wp2_with (first
        | (go_at_call 56; go_must (refine (GS.out _ HB.out).mono ?_); rintro e w1 ⟨rfl, hb1⟩; have hd1 := below_then HB.out (Nat.le_refl _) hb1; have q6 := (HX.out.go hb1).cell 6)
        | (go_at_call 48; go_must (refine (GV.out _ hd1).mono ?_); rintro e w2 ⟨rfl, hb2⟩; have hd2 := below_then hd1 (Nat.le_refl _) hb2)
        | (go_at_call 67; go_must (refine (GR.out _).mono ?_); rintro e w1 ⟨rfl, hb1⟩; have hd1 := below_then HB.out (Nat.le_refl _) hb1)
        | fail)
      go_ret
      exact ⟨by rw [HV.out] <;> rfl, HB.out⟩
    have h4c : (0 : Int) < (ni : Int) := by omega
    rcases S with _ | _
    · skip
      have HV := Lib.hid (show fmW 1 f t n 0 0 a b ni nv nl nb false V LL R = false by have h1 := HSB.out; have h2 := HNB.out; have h3 := HBD.out; have h4 := HFT.out; grind [fmW])
      go_wp2_with (first
        | (go_at_call 56; go_must (refine (GS.out _ HB.out).mono ?_); rintro e w1 ⟨rfl, hb1⟩; have hd1 := below_then HB.out (Nat.le_refl _) hb1; have q6 := (HX.out.go hb1).cell 6)
        | (go_at_call 48; go_must (refine (GV.out _ hd1).mono ?_); rintro e w2 ⟨rfl, hb2⟩; have hd2 := below_then hd1 (Nat.le_refl _) hb2)
        | (go_at_call 67; go_must (refine (GR.out _).mono ?_); rintro e w1 ⟨rfl, hb1⟩; have hd1 := below_then HB.out (Nat.le_refl _) hb1)
        | fail)
      go_ret
      exact ⟨by rw [HV.out] <;> rfl, hd1⟩
    · skip
      have HV := Lib.hid (show fmW 1 f t n 0 0 a b ni nv nl nb true V LL R = V by have h1 := HSB.out; have h2 := HNB.out; have h3 := HBD.out; have h4 := HFT.out; grind [fmW])
      go_wp2_with (first
        | (go_at_call 56; go_must (refine (GS.out _ HB.out).mono ?_); rintro e w1 ⟨rfl, hb1⟩; have hd1 := below_then HB.out (Nat.le_refl _) hb1; have q6 := (HX.out.go hb1).cell 6)
        | (go_at_call 48; go_must (refine (GV.out _ hd1).mono ?_); rintro e w2 ⟨rfl, hb2⟩; have hd2 := below_then hd1 (Nat.le_refl _) hb2)
        | (go_at_call 67; go_must (refine (GR.out _).mono ?_); rintro e w1 ⟨rfl, hb1⟩; have hd1 := below_then HB.out (Nat.le_refl _) hb1)
        | fail)
      go_ret
      exact ⟨by rw [HV.out] <;> rfl, hd2⟩
  have hk1b : (k == 1) = false := by simpa using hk1
  by_cases hk3 : k = 3
  · subst hk3
    by_cases h1 : 257 < nl
    · have h1b : (257 : Int) < (nl : Int) := by omega
      have HV := Lib.hid (show fmW 3 f t n q o a b ni nv nl nb S V LL R = false by have h1 := HSB.out; have h2 := HNB.out; have h3 := HBD.out; have h4 := HFT.out; grind [fmW])
      go_wp2_with (first
        | (go_at_call 56; go_must (refine (GS.out _ HB.out).mono ?_); rintro e w1 ⟨rfl, hb1⟩; have hd1 := below_then HB.out (Nat.le_refl _) hb1; have q6 := (HX.out.go hb1).cell 6)
        | (go_at_call 48; go_must (refine (GV.out _ hd1).mono ?_); rintro e w2 ⟨rfl, hb2⟩; have hd2 := below_then hd1 (Nat.le_refl _) hb2)
        | (go_at_call 67; go_must (refine (GR.out _).mono ?_); rintro e w1 ⟨rfl, hb1⟩; have hd1 := below_then HB.out (Nat.le_refl _) hb1)
        | fail)
      go_ret
      exact ⟨by rw [HV.out] <;> rfl, HB.out⟩
    have h1b : ¬ (257 : Int) < (nl : Int) := by omega
    by_cases h2 : n < 0
    · skip
      have HV := Lib.hid (show fmW 3 f t n q o a b ni nv nl nb S V LL R = false by have h1 := HSB.out; have h2 := HNB.out; have h3 := HBD.out; have h4 := HFT.out; grind [fmW])
      go_wp2_with (first
        | (go_at_call 56; go_must (refine (GS.out _ HB.out).mono ?_); rintro e w1 ⟨rfl, hb1⟩; have hd1 := below_then HB.out (Nat.le_refl _) hb1; have q6 := (HX.out.go hb1).cell 6)
        | (go_at_call 48; go_must (refine (GV.out _ hd1).mono ?_); rintro e w2 ⟨rfl, hb2⟩; have hd2 := below_then hd1 (Nat.le_refl _) hb2)
        | (go_at_call 67; go_must (refine (GR.out _).mono ?_); rintro e w1 ⟨rfl, hb1⟩; have hd1 := below_then HB.out (Nat.le_refl _) hb1)
        | fail)
      go_ret
      exact ⟨by rw [HV.out] <;> rfl, HB.out⟩
    by_cases h3 : q < 0
    · skip
      have HV := Lib.hid (show fmW 3 f t n q o a b ni nv nl nb S V LL R = false by have h1 := HSB.out; have h2 := HNB.out; have h3 := HBD.out; have h4 := HFT.out; grind [fmW])
      go_wp2_with (first
        | (go_at_call 56; go_must (refine (GS.out _ HB.out).mono ?_); rintro e w1 ⟨rfl, hb1⟩; have hd1 := below_then HB.out (Nat.le_refl _) hb1; have q6 := (HX.out.go hb1).cell 6)
        | (go_at_call 48; go_must (refine (GV.out _ hd1).mono ?_); rintro e w2 ⟨rfl, hb2⟩; have hd2 := below_then hd1 (Nat.le_refl _) hb2)
        | (go_at_call 67; go_must (refine (GR.out _).mono ?_); rintro e w1 ⟨rfl, hb1⟩; have hd1 := below_then HB.out (Nat.le_refl _) hb1)
        | fail)
      go_ret
      exact ⟨by rw [HV.out] <;> rfl, HB.out⟩
    rcases sb with _ | _
    rotate_left
    · skip
      have HV := Lib.hid (show fmW 3 f t n q o a b ni nv nl nb S V LL R = false by have h1 := HSB.out; have h2 := HNB.out; have h3 := HBD.out; have h4 := HFT.out; grind [fmW])
      go_wp2_with (first
        | (go_at_call 56; go_must (refine (GS.out _ HB.out).mono ?_); rintro e w1 ⟨rfl, hb1⟩; have hd1 := below_then HB.out (Nat.le_refl _) hb1; have q6 := (HX.out.go hb1).cell 6)
        | (go_at_call 48; go_must (refine (GV.out _ hd1).mono ?_); rintro e w2 ⟨rfl, hb2⟩; have hd2 := below_then hd1 (Nat.le_refl _) hb2)
        | (go_at_call 67; go_must (refine (GR.out _).mono ?_); rintro e w1 ⟨rfl, hb1⟩; have hd1 := below_then HB.out (Nat.le_refl _) hb1)
        | fail)
      go_ret
      exact ⟨by rw [HV.out] <;> rfl, HB.out⟩
    rcases bd with _ | _
    rotate_left
    · skip
      have HV := Lib.hid (show fmW 3 f t n q o a b ni nv nl nb S V LL R = false by have h1 := HSB.out; have h2 := HNB.out; have h3 := HBD.out; have h4 := HFT.out; grind [fmW])
      go_wp2_with (first
        | (go_at_call 56; go_must (refine (GS.out _ HB.out).mono ?_); rintro e w1 ⟨rfl, hb1⟩; have hd1 := below_then HB.out (Nat.le_refl _) hb1; have q6 := (HX.out.go hb1).cell 6)
        | (go_at_call 48; go_must (refine (GV.out _ hd1).mono ?_); rintro e w2 ⟨rfl, hb2⟩; have hd2 := below_then hd1 (Nat.le_refl _) hb2)
        | (go_at_call 67; go_must (refine (GR.out _).mono ?_); rintro e w1 ⟨rfl, hb1⟩; have hd1 := below_then HB.out (Nat.le_refl _) hb1)
        | fail)
      go_ret
      exact ⟨by rw [HV.out] <;> rfl, HB.out⟩
    by_cases h4 : o = 0
    rotate_left
    · have h4b : (o != 0) = true := by simpa using h4
      have HV := Lib.hid (show fmW 3 f t n q o a b ni nv nl nb S V LL R = false by have h1 := HSB.out; have h2 := HNB.out; have h3 := HBD.out; have h4 := HFT.out; grind [fmW])
      go_wp2_with (first
        | (go_at_call 56; go_must (refine (GS.out _ HB.out).mono ?_); rintro e w1 ⟨rfl, hb1⟩; have hd1 := below_then HB.out (Nat.le_refl _) hb1; have q6 := (HX.out.go hb1).cell 6)
        | (go_at_call 48; go_must (refine (GV.out _ hd1).mono ?_); rintro e w2 ⟨rfl, hb2⟩; have hd2 := below_then hd1 (Nat.le_refl _) hb2)
        | (go_at_call 67; go_must (refine (GR.out _).mono ?_); rintro e w1 ⟨rfl, hb1⟩; have hd1 := below_then HB.out (Nat.le_refl _) hb1)
        | fail)
      go_ret
      exact ⟨by rw [HV.out] <;> rfl, HB.out⟩
    subst h4
    have HV := Lib.hid (show fmW 3 f t n q 0 a b ni nv nl nb S V LL R = LL by have h1 := HSB.out; have h2 := HNB.out; have h3 := HBD.out; have h4 := HFT.out; grind [fmW])
    go_wp2_with fail
    go_loopw [7, 115] (fun _ i wr => ∃ (j : Nat), j ≤ nl ∧ i = .int .i64 j ∧ Below w.heap.size w wr ∧ Hid (LL = (nts (L.drop j)).all ntF)) (fun _ i _ => nl - (intOf i).toNat)
    case atStart => exact ⟨0, by omega, rfl, HB.out, HLL.out⟩
    case round =>
      obtain ⟨j, hj, rfl, hb, hr⟩ := hrel
      clear q0 q1 q2 q3 q4 q5 q6 q7 q8 q9 q10 q11
      by_cases hlt : j < nl
      · have hjl : j < L.length := by rw [HLN.out]; exact hlt
        obtain ⟨bb, oo, rfl, hbb, g0, g1, g2, g3⟩ := GL.out wr hb j hjl
        have HD := hr.out.trans (all_drop hjl)
        have GN1 := fun W hb => GN.out W hb j hjl
        obtain ⟨⟨nv', x⟩, hpx⟩ : ∃ p, p = L[j] := ⟨_, rfl⟩
        rw [← hpx] at g0 g1 g2 g3 GN1 HD
        dsimp only at g0 g1 g2 g3 GN1 HD
        obtain ⟨A1, n1, c1, A2, n2, c2, A3, n3, c3, A4, n4, c4⟩ := nv'
        dsimp only [NV.val] at g0 g1 g2 g3 GN1
        generalize ntF x = z at GN1 HD
        have GN1 := Lib.hid GN1
        have HD := Lib.hid HD
        have HBr := Lib.hid hb
        have hbs := hb.size
        have k1 : Below w.heap.size w (wr.alloc (.cells #[.slice A1 n1 c1, .slice A2 n2 c2, .slice A3 n3 c3, .slice A4 n4 c4] 51)) := hb.alloc hb.size _
        obtain ⟨r0, r1, r2, r3⟩ := (Blk.new wr 51 #[.slice A1 n1 c1, .slice A2 n2 c2, .slice A3 n3 c3, .slice A4 n4 c4]).four
        clear hb hr hpx
        rcases z with _ | _
        · go_wp2_with (go_at_call 61; go_must (refine (GN1.out _ k1).mono ?_); rintro e w2 ⟨rfl, hb2⟩)
          go_ret
          exact ⟨by rw [HV.out, HD.out]; rfl, below_then k1 (Nat.le_refl _) hb2⟩
        · go_wp2_with (go_at_call 61; go_must (refine (GN1.out _ k1).mono ?_); rintro e w2 ⟨rfl, hb2⟩)
          go_roundw
          case rel => exact ⟨j + 1, by omega, by go_num, below_then k1 (Nat.le_refl _) hb2, by show _ = _; rw [HD.out]; rfl⟩
          case measure => simp [intOf]; omega
      · obtain rfl : j = nl := by omega
        have HT := Lib.hid (show LL = true by rw [hr.out, all_drop_end (by rw [HLN.out]; exact Nat.le_refl _)])
        have HBr := Lib.hid hb
        clear hr hb
        go_wp2
        go_ret
        exact ⟨by rw [HV.out, HT.out] <;> rfl, HBr.out⟩
  have hk3b : (k == 3) = false := by simpa using hk3
  rcases sb with _ | _
  rotate_left
  · skip
    have HV := Lib.hid (show fmW k f t n q o a b ni nv nl nb S V LL R = false by have h1 := HSB.out; have h2 := HNB.out; have h3 := HBD.out; have h4 := HFT.out; grind [fmW])
    go_wp2_with (first
      | (go_at_call 56; go_must (refine (GS.out _ HB.out).mono ?_); rintro e w1 ⟨rfl, hb1⟩; have hd1 := below_then HB.out (Nat.le_refl _) hb1; have q6 := (HX.out.go hb1).cell 6)
      | (go_at_call 48; go_must (refine (GV.out _ hd1).mono ?_); rintro e w2 ⟨rfl, hb2⟩; have hd2 := below_then hd1 (Nat.le_refl _) hb2)
      | (go_at_call 67; go_must (refine (GR.out _).mono ?_); rintro e w1 ⟨rfl, hb1⟩; have hd1 := below_then HB.out (Nat.le_refl _) hb1)
      | fail)
    go_ret
    exact ⟨by rw [HV.out] <;> rfl, HB.out⟩
  rcases nt with _ | _
  rotate_left
  · skip
    have HV := Lib.hid (show fmW k f t n q o a b ni nv nl nb S V LL R = false by have h1 := HSB.out; have h2 := HNB.out; have h3 := HBD.out; have h4 := HFT.out; grind [fmW])
    go_wp2_with (first
      | (go_at_call 56; go_must (refine (GS.out _ HB.out).mono ?_); rintro e w1 ⟨rfl, hb1⟩; have hd1 := below_then HB.out (Nat.le_refl _) hb1; have q6 := (HX.out.go hb1).cell 6)
      | (go_at_call 48; go_must (refine (GV.out _ hd1).mono ?_); rintro e w2 ⟨rfl, hb2⟩; have hd2 := below_then hd1 (Nat.le_refl _) hb2)
      | (go_at_call 67; go_must (refine (GR.out _).mono ?_); rintro e w1 ⟨rfl, hb1⟩; have hd1 := below_then HB.out (Nat.le_refl _) hb1)
      | fail)
    go_ret
    exact ⟨by rw [HV.out] <;> rfl, HB.out⟩
  by_cases h1 : n = 0
  rotate_left
  · have h1b : (n != 0) = true := by simpa using h1
    have HV := Lib.hid (show fmW k f t n q o a b ni nv nl nb S V LL R = false by have h1 := HSB.out; have h2 := HNB.out; have h3 := HBD.out; have h4 := HFT.out; grind [fmW])
    go_wp2_with (first
      | (go_at_call 56; go_must (refine (GS.out _ HB.out).mono ?_); rintro e w1 ⟨rfl, hb1⟩; have hd1 := below_then HB.out (Nat.le_refl _) hb1; have q6 := (HX.out.go hb1).cell 6)
      | (go_at_call 48; go_must (refine (GV.out _ hd1).mono ?_); rintro e w2 ⟨rfl, hb2⟩; have hd2 := below_then hd1 (Nat.le_refl _) hb2)
      | (go_at_call 67; go_must (refine (GR.out _).mono ?_); rintro e w1 ⟨rfl, hb1⟩; have hd1 := below_then HB.out (Nat.le_refl _) hb1)
      | fail)
    go_ret
    exact ⟨by rw [HV.out] <;> rfl, HB.out⟩
  subst h1
  by_cases h2 : q = 0
  rotate_left
  · have h2b : (q != 0) = true := by simpa using h2
    have HV := Lib.hid (show fmW k f t 0 q o a b ni nv nl nb S V LL R = false by have h1 := HSB.out; have h2 := HNB.out; have h3 := HBD.out; have h4 := HFT.out; grind [fmW])
    go_wp2_with (first
      | (go_at_call 56; go_must (refine (GS.out _ HB.out).mono ?_); rintro e w1 ⟨rfl, hb1⟩; have hd1 := below_then HB.out (Nat.le_refl _) hb1; have q6 := (HX.out.go hb1).cell 6)
      | (go_at_call 48; go_must (refine (GV.out _ hd1).mono ?_); rintro e w2 ⟨rfl, hb2⟩; have hd2 := below_then hd1 (Nat.le_refl _) hb2)
      | (go_at_call 67; go_must (refine (GR.out _).mono ?_); rintro e w1 ⟨rfl, hb1⟩; have hd1 := below_then HB.out (Nat.le_refl _) hb1)
      | fail)
    go_ret
    exact ⟨by rw [HV.out] <;> rfl, HB.out⟩
  subst h2
  by_cases hk2 : k = 2
  · subst hk2
    rcases bd with _ | _
    rotate_left
    · skip
      have HV := Lib.hid (show fmW 2 f t 0 0 o a b ni nv nl nb S V LL R = false by have h1 := HSB.out; have h2 := HNB.out; have h3 := HBD.out; have h4 := HFT.out; grind [fmW])
      go_wp2_with (first
        | (go_at_call 56; go_must (refine (GS.out _ HB.out).mono ?_); rintro e w1 ⟨rfl, hb1⟩; have hd1 := below_then HB.out (Nat.le_refl _) hb1; have q6 := (HX.out.go hb1).cell 6)
        | (go_at_call 48; go_must (refine (GV.out _ hd1).mono ?_); rintro e w2 ⟨rfl, hb2⟩; have hd2 := below_then hd1 (Nat.le_refl _) hb2)
        | (go_at_call 67; go_must (refine (GR.out _).mono ?_); rintro e w1 ⟨rfl, hb1⟩; have hd1 := below_then HB.out (Nat.le_refl _) hb1)
        | fail)
      go_ret
      exact ⟨by rw [HV.out] <;> rfl, HB.out⟩
    by_cases h3 : o = 0
    rotate_left
    · have h3b : (o == 0) = false := by simpa using h3
      have HV := Lib.hid (show fmW 2 f t 0 0 o a b ni nv nl nb S V LL R = false by have h1 := HSB.out; have h2 := HNB.out; have h3 := HBD.out; have h4 := HFT.out; grind [fmW])
      go_wp2_with (first
        | (go_at_call 56; go_must (refine (GS.out _ HB.out).mono ?_); rintro e w1 ⟨rfl, hb1⟩; have hd1 := below_then HB.out (Nat.le_refl _) hb1; have q6 := (HX.out.go hb1).cell 6)
        | (go_at_call 48; go_must (refine (GV.out _ hd1).mono ?_); rintro e w2 ⟨rfl, hb2⟩; have hd2 := below_then hd1 (Nat.le_refl _) hb2)
        | (go_at_call 67; go_must (refine (GR.out _).mono ?_); rintro e w1 ⟨rfl, hb1⟩; have hd1 := below_then HB.out (Nat.le_refl _) hb1)
        | fail)
      go_ret
      exact ⟨by rw [HV.out] <;> rfl, HB.out⟩
    subst h3
    have HV := Lib.hid (show fmW 2 f t 0 0 0 a b ni nv nl nb S V LL R = true by have h1 := HSB.out; have h2 := HNB.out; have h3 := HBD.out; have h4 := HFT.out; grind [fmW])
    go_wp2_with (first
      | (go_at_call 56; go_must (refine (GS.out _ HB.out).mono ?_); rintro e w1 ⟨rfl, hb1⟩; have hd1 := below_then HB.out (Nat.le_refl _) hb1; have q6 := (HX.out.go hb1).cell 6)
      | (go_at_call 48; go_must (refine (GV.out _ hd1).mono ?_); rintro e w2 ⟨rfl, hb2⟩; have hd2 := below_then hd1 (Nat.le_refl _) hb2)
      | (go_at_call 67; go_must (refine (GR.out _).mono ?_); rintro e w1 ⟨rfl, hb1⟩; have hd1 := below_then HB.out (Nat.le_refl _) hb1)
      | fail)
    go_ret
    exact ⟨by rw [HV.out] <;> rfl, HB.out⟩
  have hk2b : (k == 2) = false := by simpa using hk2
  by_cases hk4 : k = 4
  · subst hk4
    rcases bd with _ | _
    rotate_left
    · skip
      have HV := Lib.hid (show fmW 4 f t 0 0 o a b ni nv nl nb S V LL R = false by have h1 := HSB.out; have h2 := HNB.out; have h3 := HBD.out; have h4 := HFT.out; grind [fmW])
      go_wp2_with (first
        | (go_at_call 56; go_must (refine (GS.out _ HB.out).mono ?_); rintro e w1 ⟨rfl, hb1⟩; have hd1 := below_then HB.out (Nat.le_refl _) hb1; have q6 := (HX.out.go hb1).cell 6)
        | (go_at_call 48; go_must (refine (GV.out _ hd1).mono ?_); rintro e w2 ⟨rfl, hb2⟩; have hd2 := below_then hd1 (Nat.le_refl _) hb2)
        | (go_at_call 67; go_must (refine (GR.out _).mono ?_); rintro e w1 ⟨rfl, hb1⟩; have hd1 := below_then HB.out (Nat.le_refl _) hb1)
        | fail)
      go_ret
      exact ⟨by rw [HV.out] <;> rfl, HB.out⟩
    by_cases h3 : 0 ≤ o
    rotate_left
    · have h3b : decide (0 ≤ o) = false := by simpa using h3
      have HV := Lib.hid (show fmW 4 f t 0 0 o a b ni nv nl nb S V LL R = false by have h1 := HSB.out; have h2 := HNB.out; have h3 := HBD.out; have h4 := HFT.out; grind [fmW])
      go_wp2_with (first
        | (go_at_call 56; go_must (refine (GS.out _ HB.out).mono ?_); rintro e w1 ⟨rfl, hb1⟩; have hd1 := below_then HB.out (Nat.le_refl _) hb1; have q6 := (HX.out.go hb1).cell 6)
        | (go_at_call 48; go_must (refine (GV.out _ hd1).mono ?_); rintro e w2 ⟨rfl, hb2⟩; have hd2 := below_then hd1 (Nat.le_refl _) hb2)
        | (go_at_call 67; go_must (refine (GR.out _).mono ?_); rintro e w1 ⟨rfl, hb1⟩; have hd1 := below_then HB.out (Nat.le_refl _) hb1)
        | fail)
      go_ret
      exact ⟨by rw [HV.out] <;> rfl, HB.out⟩
    by_cases h4 : o < 256
    rotate_left
    · have h4b : decide (o < 256) = false := by simpa using h4
      have HV := Lib.hid (show fmW 4 f t 0 0 o a b ni nv nl nb S V LL R = false by have h1 := HSB.out; have h2 := HNB.out; have h3 := HBD.out; have h4 := HFT.out; grind [fmW])
      go_wp2_with (first
        | (go_at_call 56; go_must (refine (GS.out _ HB.out).mono ?_); rintro e w1 ⟨rfl, hb1⟩; have hd1 := below_then HB.out (Nat.le_refl _) hb1; have q6 := (HX.out.go hb1).cell 6)
        | (go_at_call 48; go_must (refine (GV.out _ hd1).mono ?_); rintro e w2 ⟨rfl, hb2⟩; have hd2 := below_then hd1 (Nat.le_refl _) hb2)
        | (go_at_call 67; go_must (refine (GR.out _).mono ?_); rintro e w1 ⟨rfl, hb1⟩; have hd1 := below_then HB.out (Nat.le_refl _) hb1)
        | fail)
      go_ret
      exact ⟨by rw [HV.out] <;> rfl, HB.out⟩
    have HV := Lib.hid (show fmW 4 f t 0 0 o a b ni nv nl nb S V LL R = true by have h1 := HSB.out; have h2 := HNB.out; have h3 := HBD.out; have h4 := HFT.out; grind [fmW])
    go_wp2_with (first
      | (go_at_call 56; go_must (refine (GS.out _ HB.out).mono ?_); rintro e w1 ⟨rfl, hb1⟩; have hd1 := below_then HB.out (Nat.le_refl _) hb1; have q6 := (HX.out.go hb1).cell 6)
      | (go_at_call 48; go_must (refine (GV.out _ hd1).mono ?_); rintro e w2 ⟨rfl, hb2⟩; have hd2 := below_then hd1 (Nat.le_refl _) hb2)
      | (go_at_call 67; go_must (refine (GR.out _).mono ?_); rintro e w1 ⟨rfl, hb1⟩; have hd1 := below_then HB.out (Nat.le_refl _) hb1)
      | fail)
    go_ret
    exact ⟨by rw [HV.out] <;> rfl, HB.out⟩
  have hk4b : (k == 4) = false := by simpa using hk4
  by_cases hk5 : k = 5
  · subst hk5
    have HV := Lib.hid (show fmW 5 f t 0 0 o a b ni nv nl nb S V LL R = R by have h1 := HSB.out; have h2 := HNB.out; have h3 := HBD.out; have h4 := HFT.out; grind [fmW])
    go_wp2_with (first
      | (go_at_call 56; go_must (refine (GS.out _ HB.out).mono ?_); rintro e w1 ⟨rfl, hb1⟩; have hd1 := below_then HB.out (Nat.le_refl _) hb1; have q6 := (HX.out.go hb1).cell 6)
      | (go_at_call 48; go_must (refine (GV.out _ hd1).mono ?_); rintro e w2 ⟨rfl, hb2⟩; have hd2 := below_then hd1 (Nat.le_refl _) hb2)
      | (go_at_call 67; go_must (refine (GR.out _).mono ?_); rintro e w1 ⟨rfl, hb1⟩; have hd1 := below_then HB.out (Nat.le_refl _) hb1)
      | fail)
    go_ret
    exact ⟨by rw [HV.out] <;> rfl, hd1⟩
  have hk5b : (k == 5) = false := by simpa using hk5
  have HV := Lib.hid (show fmW k f t 0 0 o a b ni nv nl nb S V LL R = false by have h1 := HSB.out; have h2 := HNB.out; have h3 := HBD.out; have h4 := HFT.out; grind [fmW])
  go_wp2_with (first
    | (go_at_call 56; go_must (refine (GS.out _ HB.out).mono ?_); rintro e w1 ⟨rfl, hb1⟩; have hd1 := below_then HB.out (Nat.le_refl _) hb1; have q6 := (HX.out.go hb1).cell 6)
    | (go_at_call 48; go_must (refine (GV.out _ hd1).mono ?_); rintro e w2 ⟨rfl, hb2⟩; have hd2 := below_then hd1 (Nat.le_refl _) hb2)
    | (go_at_call 67; go_must (refine (GR.out _).mono ?_); rintro e w1 ⟨rfl, hb1⟩; have hd1 := below_then HB.out (Nat.le_refl _) hb1)
    | fail)
  go_ret
  exact ⟨by rw [HV.out] <;> rfl, HB.out⟩
end Go.Proofs.YtndlcimckfndiaaDoor
