/- Walk: is a message formed? (the document's Formed; printed by wip/tools/genWmG.py). -/
import Derived.Test.YtndlcimckfndiaaDoorWmF
import Derived.Test.YtndlcimckfndiaaDoorWmA
namespace Go.Proofs.YtndlcimckfndiaaDoor
open Go.RowKit
set_option maxRecDepth 100000

set_option maxHeartbeats 8000000 in
theorem refMsFormed_any (m : Wq.Ms) (u : MV) (L : List (NV × Nt)) (w : World) (hM : MsRd w w.heap.size u m L) (hiv : m.i.length + m.v.length ≤ 9223372036854775807) :
    Calls Tryd.prog 41 #[.agg (mval m u)] w fun e w' => e = .returned (.bool (Wq.fmM m)) ∧ Below w.heap.size w w' := by
  rw [fmM_W]
  obtain ⟨iR, vR, lR, hnl, bR⟩ := hM
  obtain ⟨k, f, t, n, q, i, v, l, ⟨o, ⟨a, b⟩, bvv⟩⟩ := m
  obtain ⟨iA, ic, vA, vc, lA, lc, bA, bc⟩ := u
  unfold mval
  dsimp only at *
  have hb0 : Below w.heap.size w (w.alloc (.cells #[.int .i64 k, .int .i64 f, .int .i64 t, .int .i64 n, .int .i64 q, .slice iA i.length ic, .slice vA v.length vc, .slice lA l.length lc, .int .i64 o, .int .i64 a, .int .i64 b, .slice bA bvv.length bc] 74)) := (Below.refl _ _).alloc (Nat.le_refl _) _
  have HX := Blk.new w 74 #[.int .i64 k, .int .i64 f, .int .i64 t, .int .i64 n, .int .i64 q, .slice iA i.length ic, .slice vA v.length vc, .slice lA l.length lc, .int .i64 o, .int .i64 a, .int .i64 b, .slice bA bvv.length bc]
  have GS := fun (W : World) (hb : Below w.heap.size w W) => refFormedS_any iA i.length ic i W rfl (iR.go hb)
  have GV := fun (W : World) (hb : Below w.heap.size w W) => refFormed_any vA v.length vc v W rfl (vR.go hb)
  have GR := fun (W : World) => refBodyRight_any ⟨o, (a, b), bvv⟩ bA bc W
  have mi : i.length ≤ maxLen := Nat.le_trans iR.cap iR.max
  have mv : v.length ≤ maxLen := Nat.le_trans vR.cap vR.max
  have ml : l.length ≤ maxLen := Nat.le_trans lR.rd.cap lR.rd.max
  have mb : bvv.length ≤ maxLen := Nat.le_trans bR.cap bR.max
  have HLN := lR.len
  have GL := fun (W : World) (hb : Below w.heap.size w W) (j : Nat) (hj : j < L.length) => (lR.go hb).note hj
  have GN := fun (W : World) (hb : Below w.heap.size w W) (j : Nat) (hj : j < L.length) => refNoteFormed_any L[j].1 L[j].2 W ((lR.go hb).each _ (List.getElem_mem hj))
  have HLA : l.all ntF = (nts (L.drop 0)).all ntF := by rw [← hnl]; rfl
  have GE := fun (W : World) => refEmpty_any ⟨o, (a, b), bvv⟩ bA bc W
  unfold bval at GR GE
  dsimp only at GR GE
  have hEm : Wq.emB ⟨o, (a, b), bvv⟩ = ((decide (a = 0) && decide (b = 0)) && decide (bvv.length = 0)) := rfl
  generalize Wq.emB ⟨o, (a, b), bvv⟩ = em at GE hEm
  generalize Sn.fmS (-2) i = S at GS ⊢
  generalize fm (-1) v = V at GV ⊢
  generalize Wq.bdF ⟨o, (a, b), bvv⟩ = R at GR ⊢
  rw [HLA]
  clear iR vR lR bR hnl HLA
  generalize i.length = ni at *
  generalize v.length = nv at *
  generalize l.length = nl at *
  generalize bvv.length = nb at *
  have hnl : nl ≤ 9223372036854775807 := by unfold maxLen at ml; omega
  clear mi mv ml mb
  have GS := Lib.hid GS
  have GV := Lib.hid GV
  have GR := Lib.hid GR
  have GE := Lib.hid GE
  have HEM := Lib.hid hEm
  clear hEm
  have GL := Lib.hid GL
  have GN := Lib.hid GN
  have HX := Lib.hid HX
  have HB := Lib.hid hb0
  have HLN := Lib.hid HLN
  obtain ⟨LL, hLL⟩ : ∃ z, z = (nts (L.drop 0)).all ntF := ⟨_, rfl⟩
  rw [← hLL]
  have HLL := Lib.hid hLL
  obtain ⟨W0, hW0⟩ : ∃ W0, W0 = w.alloc (.cells #[.int .i64 k, .int .i64 f, .int .i64 t, .int .i64 n, .int .i64 q, .slice iA ni ic, .slice vA nv vc, .slice lA nl lc, .int .i64 o, .int .i64 a, .int .i64 b, .slice bA nb bc] 74) := ⟨_, rfl⟩
  rw [← hW0] at HX HB
  have HW := Lib.hid hW0.symm
  obtain ⟨q0, q1, q2, q3, q4, q5, q6, q7, q8, q9, q10, q11⟩ := HX.out.twelve
  clear hb0 hLL hW0
  by_cases h1 : f < 0
  · skip
    have HV := Lib.hid (show fmW k f t n q o a b ni nv nl nb S V LL R = false by grind [fmW])
    go_enter Tryd.func41, Tryd.ntmps41
    go_wp2_with fail
    rw [HW.out]
    go_wp2
    go_ret
    exact ⟨by rw [HV.out] <;> rfl, HB.out⟩
  by_cases h2 : 63 < f
  · skip
    have HV := Lib.hid (show fmW k f t n q o a b ni nv nl nb S V LL R = false by grind [fmW])
    go_enter Tryd.func41, Tryd.ntmps41
    go_wp2_with fail
    rw [HW.out]
    go_wp2
    go_ret
    exact ⟨by rw [HV.out] <;> rfl, HB.out⟩
  by_cases h3 : t < 0
  · skip
    have HV := Lib.hid (show fmW k f t n q o a b ni nv nl nb S V LL R = false by grind [fmW])
    go_enter Tryd.func41, Tryd.ntmps41
    go_wp2_with fail
    rw [HW.out]
    go_wp2
    go_ret
    exact ⟨by rw [HV.out] <;> rfl, HB.out⟩
  by_cases h4 : 63 < t
  · skip
    have HV := Lib.hid (show fmW k f t n q o a b ni nv nl nb S V LL R = false by grind [fmW])
    go_enter Tryd.func41, Tryd.ntmps41
    go_wp2_with fail
    rw [HW.out]
    go_wp2
    go_ret
    exact ⟨by rw [HV.out] <;> rfl, HB.out⟩
  by_cases h5 : n < 0
  · skip
    have HV := Lib.hid (show fmW k f t n q o a b ni nv nl nb S V LL R = false by grind [fmW])
    go_enter Tryd.func41, Tryd.ntmps41
    go_wp2_with fail
    rw [HW.out]
    go_wp2
    go_ret
    exact ⟨by rw [HV.out] <;> rfl, HB.out⟩
  by_cases h6 : q < 0
  · skip
    have HV := Lib.hid (show fmW k f t n q o a b ni nv nl nb S V LL R = false by grind [fmW])
    go_enter Tryd.func41, Tryd.ntmps41
    go_wp2_with fail
    rw [HW.out]
    go_wp2
    go_ret
    exact ⟨by rw [HV.out] <;> rfl, HB.out⟩
  by_cases h7 : 257 < nl
  · have h7b : (257 : Int) < (nl : Int) := by omega
    have HV := Lib.hid (show fmW k f t n q o a b ni nv nl nb S V LL R = false by grind [fmW])
    go_enter Tryd.func41, Tryd.ntmps41
    go_wp2_with fail
    rw [HW.out]
    go_wp2
    go_ret
    exact ⟨by rw [HV.out] <;> rfl, HB.out⟩
  have h7b : ¬ (257 : Int) < (nl : Int) := by omega
  have HFT := Lib.hid (show 0 ≤ f ∧ f ≤ 63 ∧ 0 ≤ t ∧ t ≤ 63 ∧ 0 ≤ n ∧ 0 ≤ q ∧ nl ≤ 257 by omega)
  go_enter Tryd.func41, Tryd.ntmps41
  go_upto_region 3 with fail
  rw [HW.out]
  obtain ⟨sb, hsb⟩ : ∃ z, z = (decide (ni = 0) && decide (nv = 0)) := ⟨_, rfl⟩
  have HSB := Lib.hid hsb
  clear hsb
  go_cut [3] (fun v3 wx => v3 = .bool sb ∧ W0 = wx)
  case first =>
    by_cases h1 : ni = 0
    · subst h1
      go_wp2_with fail
      go_meet
      exact ⟨congrArg Value.bool (by rw [HSB.out, Bool.eq_iff_iff]; simp; try omega), rfl⟩
    · have h1b : ((ni : Int) == 0) = false := by simpa using h1
      have H1 := Lib.hid h1
      go_wp2_with fail
      go_meet
      exact ⟨congrArg Value.bool (by rw [HSB.out]; simp [H1.out]), rfl⟩
  case rest =>
  obtain ⟨rfl, rfl⟩ := hcut
  go_upto_region 4 with fail
  obtain ⟨rw', hrw⟩ : ∃ z, z = (decide (n = 0) && (decide (q = 0) && decide (nl = 0))) := ⟨_, rfl⟩
  have HRW := Lib.hid hrw
  clear hrw
  go_cut [4] (fun v4 wx => v4 = .bool rw' ∧ W0 = wx)
  case first =>
    by_cases h1 : n = 0
    · subst h1
      by_cases h2 : q = 0
      · subst h2
        go_wp2_with fail
        go_meet
        exact ⟨congrArg Value.bool (by rw [HRW.out, Bool.eq_iff_iff]; simp; try omega), rfl⟩
      · have h2b : (q == 0) = false := by simpa using h2
        have H2 := Lib.hid h2
        go_wp2_with fail
        go_meet
        exact ⟨congrArg Value.bool (by rw [HRW.out]; simp [H2.out]), rfl⟩
    · have h1b : (n == 0) = false := by simpa using h1
      have H1 := Lib.hid h1
      go_wp2_with fail
      go_meet
      exact ⟨congrArg Value.bool (by rw [HRW.out]; simp [H1.out]), rfl⟩
  case rest =>
  obtain ⟨rfl, rfl⟩ := hcut
  go_upto_region 5 with fail
  obtain ⟨nn, hnn⟩ : ∃ z, z = (decide (o = 0) && em) := ⟨_, rfl⟩
  have HNN := Lib.hid hnn
  clear hnn
  go_cut [5] (fun v5 wx => v5 = .bool nn ∧ Below W0.heap.size W0 wx)
  case first =>
    by_cases h1 : o = 0
    · subst h1
      go_wp2_with (go_at_call 75; go_must (refine (GE.out _).mono ?_); rintro e w1 ⟨rfl, hb1⟩)
      go_meet
      exact ⟨congrArg Value.bool (by rw [HNN.out]; simp), hb1⟩
    · have h1b : (o == 0) = false := by simpa using h1
      have H1 := Lib.hid h1
      go_wp2_with fail
      go_meet
      exact ⟨congrArg Value.bool (by rw [HNN.out]; simp [H1.out]), Below.refl _ _⟩
  case rest =>
  obtain ⟨rfl, hbc⟩ := hcut
  have HBC := Lib.hid (below_then HB.out (Nat.le_refl _) hbc)
  have HX := Lib.hid (HX.out.go hbc)
  clear q0 q1 q2 q3 q4 q5 q6 q7 q8 q9 q10 q11 hbc
  obtain ⟨q0, q1, q2, q3, q4, q5, q6, q7, q8, q9, q10, q11⟩ := HX.out.twelve
  by_cases hk1 : k = 1
  · subst hk1
    by_cases h1 : q = 0
    rotate_left
    · have h1b : (q == 0) = false := by simpa using h1
      have HV := Lib.hid (show fmW 1 f t n q o a b ni nv nl nb S V LL R = false by have h1 := HSB.out; have h2 := HRW.out; have h3 := HNN.out; have h4 := HFT.out; have h5 := HEM.out; grind [fmW])
      go_wp2_with (first
        | (go_at_call 19; go_must (refine (GS.out _ HBC.out).mono ?_); rintro e w1 ⟨rfl, hb1⟩; have hd1 := below_then HBC.out (Nat.le_refl _) hb1; have q6 := (HX.out.go hb1).cell 6)
        | (go_at_call 11; go_must (refine (GV.out _ hd1).mono ?_); rintro e w2 ⟨rfl, hb2⟩; have hd2 := below_then hd1 (Nat.le_refl _) hb2)
        | (go_at_call 31; go_must (refine (GR.out _).mono ?_); rintro e w1 ⟨rfl, hb1⟩; have hd1 := below_then HBC.out (Nat.le_refl _) hb1)
        | (go_at_call 75; go_must (refine (GE.out _).mono ?_); rintro e w1 ⟨rfl, hb1⟩; have hd1 := below_then HBC.out (Nat.le_refl _) hb1)
        | fail)
      go_ret
      exact ⟨by rw [HV.out] <;> rfl, HBC.out⟩
    subst h1
    by_cases h2 : nl = 0
    rotate_left
    · have h2b : ((nl : Int) == 0) = false := by simpa using h2
      have HV := Lib.hid (show fmW 1 f t n 0 o a b ni nv nl nb S V LL R = false by have h1 := HSB.out; have h2 := HRW.out; have h3 := HNN.out; have h4 := HFT.out; have h5 := HEM.out; grind [fmW])
      go_wp2_with (first
        | (go_at_call 19; go_must (refine (GS.out _ HBC.out).mono ?_); rintro e w1 ⟨rfl, hb1⟩; have hd1 := below_then HBC.out (Nat.le_refl _) hb1; have q6 := (HX.out.go hb1).cell 6)
        | (go_at_call 11; go_must (refine (GV.out _ hd1).mono ?_); rintro e w2 ⟨rfl, hb2⟩; have hd2 := below_then hd1 (Nat.le_refl _) hb2)
        | (go_at_call 31; go_must (refine (GR.out _).mono ?_); rintro e w1 ⟨rfl, hb1⟩; have hd1 := below_then HBC.out (Nat.le_refl _) hb1)
        | (go_at_call 75; go_must (refine (GE.out _).mono ?_); rintro e w1 ⟨rfl, hb1⟩; have hd1 := below_then HBC.out (Nat.le_refl _) hb1)
        | fail)
      go_ret
      exact ⟨by rw [HV.out] <;> rfl, HBC.out⟩
    subst h2
    rcases nn with _ | _
    · skip
      have HV := Lib.hid (show fmW 1 f t n 0 o a b ni nv 0 nb S V LL R = false by have h1 := HSB.out; have h2 := HRW.out; have h3 := HNN.out; have h4 := HFT.out; have h5 := HEM.out; grind [fmW])
      go_wp2_with (first
        | (go_at_call 19; go_must (refine (GS.out _ HBC.out).mono ?_); rintro e w1 ⟨rfl, hb1⟩; have hd1 := below_then HBC.out (Nat.le_refl _) hb1; have q6 := (HX.out.go hb1).cell 6)
        | (go_at_call 11; go_must (refine (GV.out _ hd1).mono ?_); rintro e w2 ⟨rfl, hb2⟩; have hd2 := below_then hd1 (Nat.le_refl _) hb2)
        | (go_at_call 31; go_must (refine (GR.out _).mono ?_); rintro e w1 ⟨rfl, hb1⟩; have hd1 := below_then HBC.out (Nat.le_refl _) hb1)
        | (go_at_call 75; go_must (refine (GE.out _).mono ?_); rintro e w1 ⟨rfl, hb1⟩; have hd1 := below_then HBC.out (Nat.le_refl _) hb1)
        | fail)
      go_ret
      exact ⟨by rw [HV.out] <;> rfl, HBC.out⟩
    by_cases h3 : 0 < ni
    rotate_left
    · have h3b : decide ((0 : Int) < (ni : Int)) = false := by simp; omega
      have h3c : ¬ (0 : Int) < (ni : Int) := by omega
      have HV := Lib.hid (show fmW 1 f t n 0 o a b ni nv 0 nb S V LL R = false by have h1 := HSB.out; have h2 := HRW.out; have h3 := HNN.out; have h4 := HFT.out; have h5 := HEM.out; grind [fmW])
      go_wp2_with (first
        | (go_at_call 19; go_must (refine (GS.out _ HBC.out).mono ?_); rintro e w1 ⟨rfl, hb1⟩; have hd1 := below_then HBC.out (Nat.le_refl _) hb1; have q6 := (HX.out.go hb1).cell 6)
        | (go_at_call 11; go_must (refine (GV.out _ hd1).mono ?_); rintro e w2 ⟨rfl, hb2⟩; have hd2 := below_then hd1 (Nat.le_refl _) hb2)
        | (go_at_call 31; go_must (refine (GR.out _).mono ?_); rintro e w1 ⟨rfl, hb1⟩; have hd1 := below_then HBC.out (Nat.le_refl _) hb1)
        | (go_at_call 75; go_must (refine (GE.out _).mono ?_); rintro e w1 ⟨rfl, hb1⟩; have hd1 := below_then HBC.out (Nat.le_refl _) hb1)
        | fail)
      go_ret
      exact ⟨by rw [HV.out] <;> rfl, HBC.out⟩
    have h3c : (0 : Int) < (ni : Int) := by omega
    rcases S with _ | _
    · skip
      have HV := Lib.hid (show fmW 1 f t n 0 o a b ni nv 0 nb false V LL R = false by have h1 := HSB.out; have h2 := HRW.out; have h3 := HNN.out; have h4 := HFT.out; have h5 := HEM.out; grind [fmW])
      go_wp2_with (first
        | (go_at_call 19; go_must (refine (GS.out _ HBC.out).mono ?_); rintro e w1 ⟨rfl, hb1⟩; have hd1 := below_then HBC.out (Nat.le_refl _) hb1; have q6 := (HX.out.go hb1).cell 6)
        | (go_at_call 11; go_must (refine (GV.out _ hd1).mono ?_); rintro e w2 ⟨rfl, hb2⟩; have hd2 := below_then hd1 (Nat.le_refl _) hb2)
        | (go_at_call 31; go_must (refine (GR.out _).mono ?_); rintro e w1 ⟨rfl, hb1⟩; have hd1 := below_then HBC.out (Nat.le_refl _) hb1)
        | (go_at_call 75; go_must (refine (GE.out _).mono ?_); rintro e w1 ⟨rfl, hb1⟩; have hd1 := below_then HBC.out (Nat.le_refl _) hb1)
        | fail)
      go_ret
      exact ⟨by rw [HV.out] <;> rfl, hd1⟩
    · skip
      have HV := Lib.hid (show fmW 1 f t n 0 o a b ni nv 0 nb true V LL R = V by have h1 := HSB.out; have h2 := HRW.out; have h3 := HNN.out; have h4 := HFT.out; have h5 := HEM.out; grind [fmW])
      go_wp2_with (first
        | (go_at_call 19; go_must (refine (GS.out _ HBC.out).mono ?_); rintro e w1 ⟨rfl, hb1⟩; have hd1 := below_then HBC.out (Nat.le_refl _) hb1; have q6 := (HX.out.go hb1).cell 6)
        | (go_at_call 11; go_must (refine (GV.out _ hd1).mono ?_); rintro e w2 ⟨rfl, hb2⟩; have hd2 := below_then hd1 (Nat.le_refl _) hb2)
        | (go_at_call 31; go_must (refine (GR.out _).mono ?_); rintro e w1 ⟨rfl, hb1⟩; have hd1 := below_then HBC.out (Nat.le_refl _) hb1)
        | (go_at_call 75; go_must (refine (GE.out _).mono ?_); rintro e w1 ⟨rfl, hb1⟩; have hd1 := below_then HBC.out (Nat.le_refl _) hb1)
        | fail)
      go_ret
      exact ⟨by rw [HV.out] <;> rfl, hd2⟩
  have hk1b : (k == 1) = false := by simpa using hk1
  by_cases hk2 : k = 2
  · subst hk2
    rcases sb with _ | _
    · skip
      have HV := Lib.hid (show fmW 2 f t n q o a b ni nv nl nb S V LL R = false by have h1 := HSB.out; have h2 := HRW.out; have h3 := HNN.out; have h4 := HFT.out; have h5 := HEM.out; grind [fmW])
      go_wp2_with (first
        | (go_at_call 19; go_must (refine (GS.out _ HBC.out).mono ?_); rintro e w1 ⟨rfl, hb1⟩; have hd1 := below_then HBC.out (Nat.le_refl _) hb1; have q6 := (HX.out.go hb1).cell 6)
        | (go_at_call 11; go_must (refine (GV.out _ hd1).mono ?_); rintro e w2 ⟨rfl, hb2⟩; have hd2 := below_then hd1 (Nat.le_refl _) hb2)
        | (go_at_call 31; go_must (refine (GR.out _).mono ?_); rintro e w1 ⟨rfl, hb1⟩; have hd1 := below_then HBC.out (Nat.le_refl _) hb1)
        | (go_at_call 75; go_must (refine (GE.out _).mono ?_); rintro e w1 ⟨rfl, hb1⟩; have hd1 := below_then HBC.out (Nat.le_refl _) hb1)
        | fail)
      go_ret
      exact ⟨by rw [HV.out] <;> rfl, HBC.out⟩
    rcases rw' with _ | _
    · skip
      have HV := Lib.hid (show fmW 2 f t n q o a b ni nv nl nb S V LL R = false by have h1 := HSB.out; have h2 := HRW.out; have h3 := HNN.out; have h4 := HFT.out; have h5 := HEM.out; grind [fmW])
      go_wp2_with (first
        | (go_at_call 19; go_must (refine (GS.out _ HBC.out).mono ?_); rintro e w1 ⟨rfl, hb1⟩; have hd1 := below_then HBC.out (Nat.le_refl _) hb1; have q6 := (HX.out.go hb1).cell 6)
        | (go_at_call 11; go_must (refine (GV.out _ hd1).mono ?_); rintro e w2 ⟨rfl, hb2⟩; have hd2 := below_then hd1 (Nat.le_refl _) hb2)
        | (go_at_call 31; go_must (refine (GR.out _).mono ?_); rintro e w1 ⟨rfl, hb1⟩; have hd1 := below_then HBC.out (Nat.le_refl _) hb1)
        | (go_at_call 75; go_must (refine (GE.out _).mono ?_); rintro e w1 ⟨rfl, hb1⟩; have hd1 := below_then HBC.out (Nat.le_refl _) hb1)
        | fail)
      go_ret
      exact ⟨by rw [HV.out] <;> rfl, HBC.out⟩
    have HV := Lib.hid (show fmW 2 f t n q o a b ni nv nl nb S V LL R = nn by have h1 := HSB.out; have h2 := HRW.out; have h3 := HNN.out; have h4 := HFT.out; have h5 := HEM.out; grind [fmW])
    go_wp2_with (first
      | (go_at_call 19; go_must (refine (GS.out _ HBC.out).mono ?_); rintro e w1 ⟨rfl, hb1⟩; have hd1 := below_then HBC.out (Nat.le_refl _) hb1; have q6 := (HX.out.go hb1).cell 6)
      | (go_at_call 11; go_must (refine (GV.out _ hd1).mono ?_); rintro e w2 ⟨rfl, hb2⟩; have hd2 := below_then hd1 (Nat.le_refl _) hb2)
      | (go_at_call 31; go_must (refine (GR.out _).mono ?_); rintro e w1 ⟨rfl, hb1⟩; have hd1 := below_then HBC.out (Nat.le_refl _) hb1)
      | (go_at_call 75; go_must (refine (GE.out _).mono ?_); rintro e w1 ⟨rfl, hb1⟩; have hd1 := below_then HBC.out (Nat.le_refl _) hb1)
      | fail)
    go_ret
    exact ⟨by rw [HV.out] <;> rfl, HBC.out⟩
  have hk2b : (k == 2) = false := by simpa using hk2
  by_cases hk3 : k = 3
  · subst hk3
    have HV := Lib.hid (show fmW 3 f t n q o a b ni nv nl nb S V LL R = (LL && (sb && nn)) by have h1 := HSB.out; have h2 := HRW.out; have h3 := HNN.out; have h4 := HFT.out; have h5 := HEM.out; grind [fmW])
    go_wp2_with fail
    go_loopw [6] (fun i wr => ∃ (j : Nat), j ≤ nl ∧ i = .int .i64 j ∧ Below wc.heap.size wc wr ∧ Hid (LL = (nts (L.drop j)).all ntF)) (fun i _ => nl - (intOf i).toNat)
    case atStart => exact ⟨0, by omega, rfl, Below.refl _ _, HLL.out⟩
    case round =>
      obtain ⟨j, hj, rfl, hb, hr⟩ := hrel
      clear q0 q1 q2 q3 q4 q5 q6 q7 q8 q9 q10 q11
      have q7 := (HX.out.go hb).cell 7
      by_cases hlt : j < nl
      · have hjl : j < L.length := by rw [HLN.out]; exact hlt
        have hbw := below_then HBC.out (Nat.le_refl _) hb
        obtain ⟨bb, oo, rfl, hbb, g0, g1, g2, g3⟩ := GL.out wr hbw j hjl
        have HD := hr.out.trans (all_drop hjl)
        have GN1 := fun W hb => GN.out W hb j hjl
        obtain ⟨⟨nv', x⟩, hpx⟩ : ∃ p, p = L[j] := ⟨_, rfl⟩
        rw [← hpx] at g0 g1 g2 g3 GN1 HD
        dsimp only at g0 g1 g2 g3 GN1 HD
        obtain ⟨A1, n1, c1, A2, n2, c2, A3, n3, c3, A4, n4, c4⟩ := nv'
        dsimp only [NV.val] at g0 g1 g2 g3 GN1
        generalize ntF x = z at GN1 HD
        have GN1 := Lib.hid GN1
        have HD := Lib.hid HD
        have HBr := Lib.hid hb
        have HBw := Lib.hid hbw
        clear hb hr hpx hbw
        rcases z with _ | _
        · go_wp2_with (go_at_call 25; go_must (refine (GN1.out _ HBw.out).mono ?_); rintro e w2 ⟨rfl, hb2⟩)
          go_ret
          exact ⟨by rw [HV.out, HD.out]; rfl, below_then HBw.out (Nat.le_refl _) hb2⟩
        · go_wp2_with (go_at_call 25; go_must (refine (GN1.out _ HBw.out).mono ?_); rintro e w2 ⟨rfl, hb2⟩)
          go_roundw
          case rel => exact ⟨j + 1, by omega, by go_num, below_then HBr.out (Nat.le_refl _) hb2, by show _ = _; rw [HD.out]; rfl⟩
          case measure => simp [intOf]; omega
      · obtain rfl : j = nl := by omega
        have HT := Lib.hid (show LL = true by rw [hr.out, all_drop_end (by rw [HLN.out]; exact Nat.le_refl _)])
        have HBr := Lib.hid hb
        clear hr hb
        rcases sb with _ | _
        all_goals
          go_wp2
          go_ret
          exact ⟨by rw [HV.out, HT.out]; rfl, below_then HBC.out (Nat.le_refl _) HBr.out⟩
  have hk3b : (k == 3) = false := by simpa using hk3
  by_cases hk4 : k = 4
  · subst hk4
    rcases sb with _ | _
    · skip
      have HV := Lib.hid (show fmW 4 f t n q o a b ni nv nl nb S V LL R = false by have h1 := HSB.out; have h2 := HRW.out; have h3 := HNN.out; have h4 := HFT.out; have h5 := HEM.out; grind [fmW])
      go_wp2_with (first
        | (go_at_call 19; go_must (refine (GS.out _ HBC.out).mono ?_); rintro e w1 ⟨rfl, hb1⟩; have hd1 := below_then HBC.out (Nat.le_refl _) hb1; have q6 := (HX.out.go hb1).cell 6)
        | (go_at_call 11; go_must (refine (GV.out _ hd1).mono ?_); rintro e w2 ⟨rfl, hb2⟩; have hd2 := below_then hd1 (Nat.le_refl _) hb2)
        | (go_at_call 31; go_must (refine (GR.out _).mono ?_); rintro e w1 ⟨rfl, hb1⟩; have hd1 := below_then HBC.out (Nat.le_refl _) hb1)
        | (go_at_call 75; go_must (refine (GE.out _).mono ?_); rintro e w1 ⟨rfl, hb1⟩; have hd1 := below_then HBC.out (Nat.le_refl _) hb1)
        | fail)
      go_ret
      exact ⟨by rw [HV.out] <;> rfl, HBC.out⟩
    rcases rw' with _ | _
    · skip
      have HV := Lib.hid (show fmW 4 f t n q o a b ni nv nl nb S V LL R = false by have h1 := HSB.out; have h2 := HRW.out; have h3 := HNN.out; have h4 := HFT.out; have h5 := HEM.out; grind [fmW])
      go_wp2_with (first
        | (go_at_call 19; go_must (refine (GS.out _ HBC.out).mono ?_); rintro e w1 ⟨rfl, hb1⟩; have hd1 := below_then HBC.out (Nat.le_refl _) hb1; have q6 := (HX.out.go hb1).cell 6)
        | (go_at_call 11; go_must (refine (GV.out _ hd1).mono ?_); rintro e w2 ⟨rfl, hb2⟩; have hd2 := below_then hd1 (Nat.le_refl _) hb2)
        | (go_at_call 31; go_must (refine (GR.out _).mono ?_); rintro e w1 ⟨rfl, hb1⟩; have hd1 := below_then HBC.out (Nat.le_refl _) hb1)
        | (go_at_call 75; go_must (refine (GE.out _).mono ?_); rintro e w1 ⟨rfl, hb1⟩; have hd1 := below_then HBC.out (Nat.le_refl _) hb1)
        | fail)
      go_ret
      exact ⟨by rw [HV.out] <;> rfl, HBC.out⟩
    by_cases h3 : 0 ≤ o
    rotate_left
    · have h3b : decide (0 ≤ o) = false := by simpa using h3
      have HV := Lib.hid (show fmW 4 f t n q o a b ni nv nl nb S V LL R = false by have h1 := HSB.out; have h2 := HRW.out; have h3 := HNN.out; have h4 := HFT.out; have h5 := HEM.out; grind [fmW])
      go_wp2_with (first
        | (go_at_call 19; go_must (refine (GS.out _ HBC.out).mono ?_); rintro e w1 ⟨rfl, hb1⟩; have hd1 := below_then HBC.out (Nat.le_refl _) hb1; have q6 := (HX.out.go hb1).cell 6)
        | (go_at_call 11; go_must (refine (GV.out _ hd1).mono ?_); rintro e w2 ⟨rfl, hb2⟩; have hd2 := below_then hd1 (Nat.le_refl _) hb2)
        | (go_at_call 31; go_must (refine (GR.out _).mono ?_); rintro e w1 ⟨rfl, hb1⟩; have hd1 := below_then HBC.out (Nat.le_refl _) hb1)
        | (go_at_call 75; go_must (refine (GE.out _).mono ?_); rintro e w1 ⟨rfl, hb1⟩; have hd1 := below_then HBC.out (Nat.le_refl _) hb1)
        | fail)
      go_ret
      exact ⟨by rw [HV.out] <;> rfl, HBC.out⟩
    by_cases h4 : o ≤ 255
    rotate_left
    · have h4b : decide (o ≤ 255) = false := by simpa using h4
      have HV := Lib.hid (show fmW 4 f t n q o a b ni nv nl nb S V LL R = false by have h1 := HSB.out; have h2 := HRW.out; have h3 := HNN.out; have h4 := HFT.out; have h5 := HEM.out; grind [fmW])
      go_wp2_with (first
        | (go_at_call 19; go_must (refine (GS.out _ HBC.out).mono ?_); rintro e w1 ⟨rfl, hb1⟩; have hd1 := below_then HBC.out (Nat.le_refl _) hb1; have q6 := (HX.out.go hb1).cell 6)
        | (go_at_call 11; go_must (refine (GV.out _ hd1).mono ?_); rintro e w2 ⟨rfl, hb2⟩; have hd2 := below_then hd1 (Nat.le_refl _) hb2)
        | (go_at_call 31; go_must (refine (GR.out _).mono ?_); rintro e w1 ⟨rfl, hb1⟩; have hd1 := below_then HBC.out (Nat.le_refl _) hb1)
        | (go_at_call 75; go_must (refine (GE.out _).mono ?_); rintro e w1 ⟨rfl, hb1⟩; have hd1 := below_then HBC.out (Nat.le_refl _) hb1)
        | fail)
      go_ret
      exact ⟨by rw [HV.out] <;> rfl, HBC.out⟩
    have HV := Lib.hid (show fmW 4 f t n q o a b ni nv nl nb S V LL R = em by have h1 := HSB.out; have h2 := HRW.out; have h3 := HNN.out; have h4 := HFT.out; have h5 := HEM.out; grind [fmW])
    go_wp2_with (first
      | (go_at_call 19; go_must (refine (GS.out _ HBC.out).mono ?_); rintro e w1 ⟨rfl, hb1⟩; have hd1 := below_then HBC.out (Nat.le_refl _) hb1; have q6 := (HX.out.go hb1).cell 6)
      | (go_at_call 11; go_must (refine (GV.out _ hd1).mono ?_); rintro e w2 ⟨rfl, hb2⟩; have hd2 := below_then hd1 (Nat.le_refl _) hb2)
      | (go_at_call 31; go_must (refine (GR.out _).mono ?_); rintro e w1 ⟨rfl, hb1⟩; have hd1 := below_then HBC.out (Nat.le_refl _) hb1)
      | (go_at_call 75; go_must (refine (GE.out _).mono ?_); rintro e w1 ⟨rfl, hb1⟩; have hd1 := below_then HBC.out (Nat.le_refl _) hb1)
      | fail)
    go_ret
    exact ⟨by rw [HV.out] <;> rfl, hd1⟩
  have hk4b : (k == 4) = false := by simpa using hk4
  by_cases hk5 : k = 5
  · subst hk5
    rcases sb with _ | _
    · skip
      have HV := Lib.hid (show fmW 5 f t n q o a b ni nv nl nb S V LL R = false by have h1 := HSB.out; have h2 := HRW.out; have h3 := HNN.out; have h4 := HFT.out; have h5 := HEM.out; grind [fmW])
      go_wp2_with (first
        | (go_at_call 19; go_must (refine (GS.out _ HBC.out).mono ?_); rintro e w1 ⟨rfl, hb1⟩; have hd1 := below_then HBC.out (Nat.le_refl _) hb1; have q6 := (HX.out.go hb1).cell 6)
        | (go_at_call 11; go_must (refine (GV.out _ hd1).mono ?_); rintro e w2 ⟨rfl, hb2⟩; have hd2 := below_then hd1 (Nat.le_refl _) hb2)
        | (go_at_call 31; go_must (refine (GR.out _).mono ?_); rintro e w1 ⟨rfl, hb1⟩; have hd1 := below_then HBC.out (Nat.le_refl _) hb1)
        | (go_at_call 75; go_must (refine (GE.out _).mono ?_); rintro e w1 ⟨rfl, hb1⟩; have hd1 := below_then HBC.out (Nat.le_refl _) hb1)
        | fail)
      go_ret
      exact ⟨by rw [HV.out] <;> rfl, HBC.out⟩
    rcases rw' with _ | _
    · skip
      have HV := Lib.hid (show fmW 5 f t n q o a b ni nv nl nb S V LL R = false by have h1 := HSB.out; have h2 := HRW.out; have h3 := HNN.out; have h4 := HFT.out; have h5 := HEM.out; grind [fmW])
      go_wp2_with (first
        | (go_at_call 19; go_must (refine (GS.out _ HBC.out).mono ?_); rintro e w1 ⟨rfl, hb1⟩; have hd1 := below_then HBC.out (Nat.le_refl _) hb1; have q6 := (HX.out.go hb1).cell 6)
        | (go_at_call 11; go_must (refine (GV.out _ hd1).mono ?_); rintro e w2 ⟨rfl, hb2⟩; have hd2 := below_then hd1 (Nat.le_refl _) hb2)
        | (go_at_call 31; go_must (refine (GR.out _).mono ?_); rintro e w1 ⟨rfl, hb1⟩; have hd1 := below_then HBC.out (Nat.le_refl _) hb1)
        | (go_at_call 75; go_must (refine (GE.out _).mono ?_); rintro e w1 ⟨rfl, hb1⟩; have hd1 := below_then HBC.out (Nat.le_refl _) hb1)
        | fail)
      go_ret
      exact ⟨by rw [HV.out] <;> rfl, HBC.out⟩
    have HV := Lib.hid (show fmW 5 f t n q o a b ni nv nl nb S V LL R = R by have h1 := HSB.out; have h2 := HRW.out; have h3 := HNN.out; have h4 := HFT.out; have h5 := HEM.out; grind [fmW])
    go_wp2_with (first
      | (go_at_call 19; go_must (refine (GS.out _ HBC.out).mono ?_); rintro e w1 ⟨rfl, hb1⟩; have hd1 := below_then HBC.out (Nat.le_refl _) hb1; have q6 := (HX.out.go hb1).cell 6)
      | (go_at_call 11; go_must (refine (GV.out _ hd1).mono ?_); rintro e w2 ⟨rfl, hb2⟩; have hd2 := below_then hd1 (Nat.le_refl _) hb2)
      | (go_at_call 31; go_must (refine (GR.out _).mono ?_); rintro e w1 ⟨rfl, hb1⟩; have hd1 := below_then HBC.out (Nat.le_refl _) hb1)
      | (go_at_call 75; go_must (refine (GE.out _).mono ?_); rintro e w1 ⟨rfl, hb1⟩; have hd1 := below_then HBC.out (Nat.le_refl _) hb1)
      | fail)
    go_ret
    exact ⟨by rw [HV.out] <;> rfl, hd1⟩
  have hk5b : (k == 5) = false := by simpa using hk5
  have HV := Lib.hid (show fmW k f t n q o a b ni nv nl nb S V LL R = false by have h1 := HSB.out; have h2 := HRW.out; have h3 := HNN.out; have h4 := HFT.out; have h5 := HEM.out; grind [fmW])
  go_wp2_with (first
    | (go_at_call 19; go_must (refine (GS.out _ HBC.out).mono ?_); rintro e w1 ⟨rfl, hb1⟩; have hd1 := below_then HBC.out (Nat.le_refl _) hb1; have q6 := (HX.out.go hb1).cell 6)
    | (go_at_call 11; go_must (refine (GV.out _ hd1).mono ?_); rintro e w2 ⟨rfl, hb2⟩; have hd2 := below_then hd1 (Nat.le_refl _) hb2)
    | (go_at_call 31; go_must (refine (GR.out _).mono ?_); rintro e w1 ⟨rfl, hb1⟩; have hd1 := below_then HBC.out (Nat.le_refl _) hb1)
    | (go_at_call 75; go_must (refine (GE.out _).mono ?_); rintro e w1 ⟨rfl, hb1⟩; have hd1 := below_then HBC.out (Nat.le_refl _) hb1)
    | fail)
  go_ret
  exact ⟨by rw [HV.out] <;> rfl, HBC.out⟩
end Go.Proofs.YtndlcimckfndiaaDoor
