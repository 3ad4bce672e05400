/- Walk: WireMsgs: a message is encoded as the document says, or refused (printed by wip/tools/genWmL.py). -/
import Derived.Test.YtndlcimckfndiaaDoorWmI
import Derived.Test.YtndlcimckfndiaaDoorWrZ
namespace Go.Proofs.YtndlcimckfndiaaDoor
open Go.RowKit
set_option maxRecDepth 100000

set_option maxHeartbeats 4000000 in
theorem wireMsgs_walk (m : Wq.Ms) (u : MV) (L : List (NV × Nt)) (w : World) (hT : Tab w) (hM : MsRd w w.heap.size u m L) (hiv : m.i.length + m.v.length ≤ 9223372036854775807) (hc : Wq.msC m) :
    Calls Tryd.prog 7 #[.agg (mval m u)] w fun e w' => e = .returned (.bool true) ∧ Below w.heap.size w w' := by
  have GA := Lib.hid fun (W : World) => aliveW_any W
  have GF := fun (W : World) (hb : Below w.heap.size w W) => wireFormed_any m u L W (hT.below hb) (hM.go hb) hiv
  have GG := fun (W : World) (hb : Below w.heap.size w W) => refMsFormed_any m u L W (hM.go hb) hiv
  rcases hf : Wq.fmM m with _ | _
  · have GE := fun (W : World) (hb : Below w.heap.size w W) => encode_no m u L W (hT.below hb) (hM.go hb) hiv hf
    have GR := fun (W : World) (hb : Below w.heap.size w W) => refEncode_no m u L W (hM.go hb) hiv hf
    have GS := fun (W : World) => (sameB_any none none 0 0 0 0 W.heap.size W.heap.size [] [] W Rd.none_ Rd.none_).mono fun e W' (h : e = .returned (.bool (([] : List UInt8) == [])) ∧ W = W') => (show e = .returned (.bool true) ∧ W = W' from ⟨by rw [h.1]; rfl, h.2⟩)
    rw [hf] at GF GG
    obtain ⟨k, f, t, n, q, i, v, l, ⟨o, ⟨a, b⟩, bvv⟩⟩ := m
    obtain ⟨iA, ic, vA, vc, lA, lc, bA, bc⟩ := u
    unfold mval at GE GR GF GG ⊢
    dsimp only at GE GR GF GG ⊢
    have GE := Lib.hid GE
    have GR := Lib.hid GR
    have GF := Lib.hid GF
    have GG := Lib.hid GG
    have GS := Lib.hid GS
    have hb0 : Below w.heap.size w (w.alloc (.cells #[.int .i64 k, .int .i64 f, .int .i64 t, .int .i64 n, .int .i64 q, .slice iA i.length ic, .slice vA v.length vc, .slice lA l.length lc, .int .i64 o, .int .i64 a, .int .i64 b, .slice bA bvv.length bc] 74)) := (Below.refl _ _).alloc (Nat.le_refl _) _
    have HX0 := Blk.new w 74 #[.int .i64 k, .int .i64 f, .int .i64 t, .int .i64 n, .int .i64 q, .slice iA i.length ic, .slice vA v.length vc, .slice lA l.length lc, .int .i64 o, .int .i64 a, .int .i64 b, .slice bA bvv.length bc]
    obtain ⟨W0, hW0⟩ : ∃ W0, W0 = w.alloc (.cells #[.int .i64 k, .int .i64 f, .int .i64 t, .int .i64 n, .int .i64 q, .slice iA i.length ic, .slice vA v.length vc, .slice lA l.length lc, .int .i64 o, .int .i64 a, .int .i64 b, .slice bA bvv.length bc] 74) := ⟨_, rfl⟩
    rw [← hW0] at hb0 HX0
    have HW := Lib.hid hW0.symm
    have HB := Lib.hid hb0
    have HX := Lib.hid fun W (hb : Below W0.heap.size W0 W) => HX0.go hb
    clear hb0 HX0 hW0 hf hT hM hiv hc
    have HSS := Lib.hid fun W (hb : Below W0.heap.size W0 W) => (HX.out W hb).twelve
    go_enter Tryd.func7, Tryd.ntmps7
    go_wp2_with fail
    rw [HW.out]
    go_wp2_with (first
      | (go_at_call 10; go_must (refine (GA.out _).mono ?_); rintro e w1 ⟨rfl, hb1⟩; have hd1 := below_then HB.out (Nat.le_refl _) hb1; obtain ⟨q0, q1, q2, q3, q4, q5, q6, q7, q8, q9, q10, q11⟩ := HSS.out _ hb1)
      | (go_at_call 37; go_must (refine (GE.out _ hd1).mono ?_); rintro e w2 ⟨rfl, hb2⟩; have hd2 := below_then hd1 (Nat.le_refl _) hb2; have hz2 := below_then hb1 (Nat.le_refl _) hb2; clear q0 q1 q2 q3 q4 q5 q6 q7 q8 q9 q10 q11; obtain ⟨q0, q1, q2, q3, q4, q5, q6, q7, q8, q9, q10, q11⟩ := HSS.out _ hz2)
      | (go_at_call 38; go_must (refine (GR.out _ hd2).mono ?_); rintro e w3 ⟨rfl, hb3⟩; have hd3 := below_then hd2 (Nat.le_refl _) hb3; have hz3 := below_then hz2 (Nat.le_refl _) hb3; clear q0 q1 q2 q3 q4 q5 q6 q7 q8 q9 q10 q11)
      | fail)
    have kz := hz3.drew
    have kw := hd3.drew
    refine region_nrm fun KK hKK => ?_
    refine wp_region_held_drew (S := (fun W => W.cell? ⟨w.heap.size, 0, none⟩ = some (.int .i64 k) ∧ W.cell? ⟨w.heap.size, 1, none⟩ = some (.int .i64 f) ∧ W.cell? ⟨w.heap.size, 2, none⟩ = some (.int .i64 t) ∧ W.cell? ⟨w.heap.size, 3, none⟩ = some (.int .i64 n) ∧ W.cell? ⟨w.heap.size, 4, none⟩ = some (.int .i64 q) ∧ W.cell? ⟨w.heap.size, 5, none⟩ = some (.slice iA i.length ic) ∧ W.cell? ⟨w.heap.size, 6, none⟩ = some (.slice vA v.length vc) ∧ W.cell? ⟨w.heap.size, 7, none⟩ = some (.slice lA l.length lc) ∧ W.cell? ⟨w.heap.size, 8, none⟩ = some (.int .i64 o) ∧ W.cell? ⟨w.heap.size, 9, none⟩ = some (.int .i64 a) ∧ W.cell? ⟨w.heap.size, 10, none⟩ = some (.int .i64 b) ∧ W.cell? ⟨w.heap.size, 11, none⟩ = some (.slice bA bvv.length bc))) (by kernel_rfl) (by first | exact HSS.out _ kz) (fun hHeld => ?_)
    refine wpAnyH_putD (i := 0) (d := 19) (v := ?_) rfl rfl (by kernel_rfl) (by kernel_rfl) (by kernel_rfl) (fun _ _ _ h => h) (Or.inl ⟨by kernel_rfl, ?_⟩) (by first | exact HSS.out _ kz) ?_
    rotate_left
    · (intro w hS; (try dsimp only at hS); go_simp <;> with_reducible rfl)
    try simp only [List.setIfInBounds_toArray, List.set_cons_zero, List.set_cons_succ]
    refine wpAnyH_putD (i := 1) (d := 20) (v := ?_) rfl rfl (by kernel_rfl) (by kernel_rfl) (by kernel_rfl) (fun _ _ _ h => h) (Or.inl ⟨by kernel_rfl, ?_⟩) (by first | exact HSS.out _ kz) ?_
    rotate_left
    · (intro w hS; (try dsimp only at hS); go_simp <;> with_reducible rfl)
    try simp only [List.setIfInBounds_toArray, List.set_cons_zero, List.set_cons_succ]
    refine wpAnyH_ready (rs := [2]) (by kernel_rfl) (by simp) ?_
    refine AllReadyH.cons rfl (fun K hK => ?_) AllReadyH.nil
    go_simp
    refine (GS.out _).mono ?_
    rintro e W1 ⟨rfl, rfl⟩
    refine hK.out _ _ (by first | exact HSS.out _ kz) (fun hHeld => ?_)
    clear hK K
    refine wpAnyH_putD (i := 3) (d := 22) (v := (.bool true)) rfl rfl (by kernel_rfl) (by kernel_rfl) (by kernel_rfl) (fun _ _ _ h => h) (Or.inl ⟨by kernel_rfl, ?_⟩) (by first | exact HSS.out _ kz) ?_
    · (intro w hS; (try dsimp only at hS); go_simp <;> with_reducible rfl)
    try simp only [List.setIfInBounds_toArray, List.set_cons_zero, List.set_cons_succ]
    refine wpAnyH_putD (i := 4) (d := 23) (v := ?_) rfl rfl (by kernel_rfl) (by kernel_rfl) (by kernel_rfl) (fun _ _ _ h => h) (Or.inl ⟨by kernel_rfl, ?_⟩) (by first | exact HSS.out _ kz) ?_
    rotate_left
    · (intro w hS; (try dsimp only at hS); go_simp <;> with_reducible rfl)
    try simp only [List.setIfInBounds_toArray, List.set_cons_zero, List.set_cons_succ]
    refine wpAnyH_putD (i := 5) (d := 24) (v := ?_) rfl rfl (by kernel_rfl) (by kernel_rfl) (by kernel_rfl) (fun _ _ _ h => h) (Or.inl ⟨by kernel_rfl, ?_⟩) (by first | exact HSS.out _ kz) ?_
    rotate_left
    · (intro w hS; (try dsimp only at hS); go_simp <;> with_reducible rfl)
    try simp only [List.setIfInBounds_toArray, List.set_cons_zero, List.set_cons_succ]
    refine wpAnyH_putD (i := 6) (d := 25) (v := ?_) rfl rfl (by kernel_rfl) (by kernel_rfl) (by kernel_rfl) (fun _ _ _ h => h) (Or.inl ⟨by kernel_rfl, ?_⟩) (by first | exact HSS.out _ kz) ?_
    rotate_left
    · (intro w hS; (try dsimp only at hS); go_simp <;> with_reducible rfl)
    try simp only [List.setIfInBounds_toArray, List.set_cons_zero, List.set_cons_succ]
    refine wpAnyH_putD (i := 7) (d := 26) (v := (.bool true)) rfl rfl (by kernel_rfl) (by kernel_rfl) (by kernel_rfl) (fun _ _ _ h => h) (Or.inl ⟨by kernel_rfl, ?_⟩) (by first | exact HSS.out _ kz) ?_
    · (intro w hS; (try dsimp only at hS); go_simp <;> with_reducible rfl)
    try simp only [List.setIfInBounds_toArray, List.set_cons_zero, List.set_cons_succ]
    refine wpAnyH_putD (i := 8) (d := 27) (v := (.bool true)) rfl rfl (by kernel_rfl) (by kernel_rfl) (by kernel_rfl) (fun _ _ _ h => h) (Or.inl ⟨by kernel_rfl, ?_⟩) (by first | exact HSS.out _ kz) ?_
    · (intro w hS; (try dsimp only at hS); go_simp <;> with_reducible rfl)
    try simp only [List.setIfInBounds_toArray, List.set_cons_zero, List.set_cons_succ]
    refine wpAnyH_putD (i := 9) (d := 28) (v := ?_) rfl rfl (by kernel_rfl) (by kernel_rfl) (by kernel_rfl) (fun _ _ _ h => h) (Or.inl ⟨by kernel_rfl, ?_⟩) (by first | exact HSS.out _ kz) ?_
    rotate_left
    · (intro w hS; (try dsimp only at hS); go_simp <;> with_reducible rfl)
    try simp only [List.setIfInBounds_toArray, List.set_cons_zero, List.set_cons_succ]
    refine wpAnyH_putD (i := 11) (d := 30) (v := ?_) rfl rfl (by kernel_rfl) (by kernel_rfl) (by kernel_rfl) (fun _ _ _ h => h) (Or.inl ⟨by kernel_rfl, ?_⟩) (by first | exact HSS.out _ kz) ?_
    rotate_left
    · (intro w hS; (try dsimp only at hS); go_simp <;> with_reducible rfl)
    try simp only [List.setIfInBounds_toArray, List.set_cons_zero, List.set_cons_succ]
    refine wpAnyH_ready (rs := [10]) (by kernel_rfl) (by simp) ?_
    refine AllReadyH.cons rfl (fun K hK => ?_) AllReadyH.nil
    go_simp
    refine (GF.out _ kw).mono ?_
    rintro e W2 ⟨rfl, hb'⟩
    have kz := below_then kz (Nat.le_refl _) hb'
    have kw := below_then kw (Nat.le_refl _) hb'
    clear hb'
    refine hK.out _ _ (by first | exact HSS.out _ kz) (fun hHeld => ?_)
    clear hK K
    refine wpAnyH_ready (rs := [12]) (by kernel_rfl) (by simp) ?_
    refine AllReadyH.cons rfl (fun K hK => ?_) AllReadyH.nil
    go_simp
    refine (GG.out _ kw).mono ?_
    rintro e W3 ⟨rfl, hb'⟩
    have kz := below_then kz (Nat.le_refl _) hb'
    have kw := below_then kw (Nat.le_refl _) hb'
    clear hb'
    refine hK.out _ _ (by first | exact HSS.out _ kz) (fun hHeld => ?_)
    clear hK K
    refine wpAnyH_putD (i := 13) (d := 32) (v := ?_) rfl rfl (by kernel_rfl) (by kernel_rfl) (by kernel_rfl) (fun _ _ _ h => h) (Or.inl ⟨by kernel_rfl, ?_⟩) (by first | exact HSS.out _ kz) ?_
    rotate_left
    · (intro w hS; (try dsimp only at hS); go_simp <;> with_reducible rfl)
    try simp only [List.setIfInBounds_toArray, List.set_cons_zero, List.set_cons_succ]
    refine wpAnyH_putD (i := 14) (d := 33) (v := ?_) rfl rfl (by kernel_rfl) (by kernel_rfl) (by kernel_rfl) (fun _ _ _ h => h) (Or.inl ⟨by kernel_rfl, ?_⟩) (by first | exact HSS.out _ kz) ?_
    rotate_left
    · (intro w hS; (try dsimp only at hS); go_simp <;> with_reducible rfl)
    try simp only [List.setIfInBounds_toArray, List.set_cons_zero, List.set_cons_succ]
    refine wpAnyH_putD (i := 15) (d := 2) (v := ?_) rfl rfl (by kernel_rfl) (by kernel_rfl) (by kernel_rfl) (fun _ _ _ h => h) (Or.inl ⟨by kernel_rfl, ?_⟩) (by first | exact HSS.out _ kz) ?_
    rotate_left
    · (intro w hS; (try dsimp only at hS); go_simp <;> with_reducible rfl)
    try simp only [List.setIfInBounds_toArray, List.set_cons_zero, List.set_cons_succ]
    refine wpAnyH_done (by kernel_rfl) ?_ _
    refine Nrm.out (hKK _ _ ?_)
    go_wp2
    go_ret
    exact ⟨rfl, kw⟩
  · have GE := fun (W : World) (hb : Below w.heap.size w W) => encode_any m u L W (hT.below hb) (hM.go hb) hiv hc hf
    have GR := fun (W : World) (hb : Below w.heap.size w W) => refEncode_any m u L W (hM.go hb) hiv hc hf
    unfold BytesAre at GE GR
    obtain ⟨bs, hbs⟩ : ∃ x, x = Wq.enc m := ⟨_, rfl⟩
    rw [← hbs] at GE GR
    have GS := fun (W : World) (A D : Option Addr) (a d : Nat) (h1 : Rd W W.heap.size 1 A bs.length a (bv bs)) (h2 : Rd W W.heap.size 1 D bs.length d (bv bs)) => (sameB_any A D bs.length a bs.length d W.heap.size W.heap.size bs bs W h1 h2).mono fun e W' (h : e = .returned (.bool (bs == bs)) ∧ W = W') => (show e = .returned (.bool true) ∧ W = W' from ⟨by rw [h.1, beq_self_eq_true], h.2⟩)
    clear hbs
    rw [hf] at GF GG
    obtain ⟨k, f, t, n, q, i, v, l, ⟨o, ⟨a, b⟩, bvv⟩⟩ := m
    obtain ⟨iA, ic, vA, vc, lA, lc, bA, bc⟩ := u
    unfold mval at GE GR GF GG ⊢
    dsimp only at GE GR GF GG ⊢
    have GE := Lib.hid GE
    have GR := Lib.hid GR
    have GF := Lib.hid GF
    have GG := Lib.hid GG
    have GS := Lib.hid GS
    have hb0 : Below w.heap.size w (w.alloc (.cells #[.int .i64 k, .int .i64 f, .int .i64 t, .int .i64 n, .int .i64 q, .slice iA i.length ic, .slice vA v.length vc, .slice lA l.length lc, .int .i64 o, .int .i64 a, .int .i64 b, .slice bA bvv.length bc] 74)) := (Below.refl _ _).alloc (Nat.le_refl _) _
    have HX0 := Blk.new w 74 #[.int .i64 k, .int .i64 f, .int .i64 t, .int .i64 n, .int .i64 q, .slice iA i.length ic, .slice vA v.length vc, .slice lA l.length lc, .int .i64 o, .int .i64 a, .int .i64 b, .slice bA bvv.length bc]
    obtain ⟨W0, hW0⟩ : ∃ W0, W0 = w.alloc (.cells #[.int .i64 k, .int .i64 f, .int .i64 t, .int .i64 n, .int .i64 q, .slice iA i.length ic, .slice vA v.length vc, .slice lA l.length lc, .int .i64 o, .int .i64 a, .int .i64 b, .slice bA bvv.length bc] 74) := ⟨_, rfl⟩
    rw [← hW0] at hb0 HX0
    have HW := Lib.hid hW0.symm
    have HB := Lib.hid hb0
    have HX := Lib.hid fun W (hb : Below W0.heap.size W0 W) => HX0.go hb
    clear hb0 HX0 hW0 hf hT hM hiv hc
    have HSS := Lib.hid fun W (hb : Below W0.heap.size W0 W) => (HX.out W hb).twelve
    go_enter Tryd.func7, Tryd.ntmps7
    go_wp2_with fail
    rw [HW.out]
    go_wp2_with (first
      | (go_at_call 10; go_must (refine (GA.out _).mono ?_); rintro e w1 ⟨rfl, hb1⟩; have hd1 := below_then HB.out (Nat.le_refl _) hb1; obtain ⟨q0, q1, q2, q3, q4, q5, q6, q7, q8, q9, q10, q11⟩ := HSS.out _ hb1)
      | (go_at_call 37; go_must (refine (GE.out _ hd1).mono ?_); rintro e w2 ⟨_, rfl, A2, c2, rfl, ho2, hb2⟩; have hd2 := below_then hd1 (Nat.le_refl _) hb2; have hz2 := below_then hb1 (Nat.le_refl _) hb2; clear q0 q1 q2 q3 q4 q5 q6 q7 q8 q9 q10 q11; obtain ⟨q0, q1, q2, q3, q4, q5, q6, q7, q8, q9, q10, q11⟩ := HSS.out _ hz2)
      | (go_at_call 38; go_must (refine (GR.out _ hd2).mono ?_); rintro e w3 ⟨_, rfl, A3, c3, rfl, ho3, hb3⟩; have hd3 := below_then hd2 (Nat.le_refl _) hb3; have hz3 := below_then hz2 (Nat.le_refl _) hb3; clear q0 q1 q2 q3 q4 q5 q6 q7 q8 q9 q10 q11)
      | fail)
    have h2 := (Rd.of_own ho2).go hb3
    have h3 := Rd.of_own ho3
    have GS1 := Lib.hid (GS.out w3.drew A2 A3 c2 c3 h2.drew h3.drew)
    have kz := hz3.drew
    have kw := hd3.drew
    refine region_nrm fun KK hKK => ?_
    refine wp_region_held_drew (S := (fun W => W.cell? ⟨w.heap.size, 0, none⟩ = some (.int .i64 k) ∧ W.cell? ⟨w.heap.size, 1, none⟩ = some (.int .i64 f) ∧ W.cell? ⟨w.heap.size, 2, none⟩ = some (.int .i64 t) ∧ W.cell? ⟨w.heap.size, 3, none⟩ = some (.int .i64 n) ∧ W.cell? ⟨w.heap.size, 4, none⟩ = some (.int .i64 q) ∧ W.cell? ⟨w.heap.size, 5, none⟩ = some (.slice iA i.length ic) ∧ W.cell? ⟨w.heap.size, 6, none⟩ = some (.slice vA v.length vc) ∧ W.cell? ⟨w.heap.size, 7, none⟩ = some (.slice lA l.length lc) ∧ W.cell? ⟨w.heap.size, 8, none⟩ = some (.int .i64 o) ∧ W.cell? ⟨w.heap.size, 9, none⟩ = some (.int .i64 a) ∧ W.cell? ⟨w.heap.size, 10, none⟩ = some (.int .i64 b) ∧ W.cell? ⟨w.heap.size, 11, none⟩ = some (.slice bA bvv.length bc))) (by kernel_rfl) (by first | exact HSS.out _ kz) (fun hHeld => ?_)
    refine wpAnyH_putD (i := 0) (d := 19) (v := ?_) rfl rfl (by kernel_rfl) (by kernel_rfl) (by kernel_rfl) (fun _ _ _ h => h) (Or.inl ⟨by kernel_rfl, ?_⟩) (by first | exact HSS.out _ kz) ?_
    rotate_left
    · (intro w hS; (try dsimp only at hS); go_simp <;> with_reducible rfl)
    try simp only [List.setIfInBounds_toArray, List.set_cons_zero, List.set_cons_succ]
    refine wpAnyH_putD (i := 1) (d := 20) (v := ?_) rfl rfl (by kernel_rfl) (by kernel_rfl) (by kernel_rfl) (fun _ _ _ h => h) (Or.inl ⟨by kernel_rfl, ?_⟩) (by first | exact HSS.out _ kz) ?_
    rotate_left
    · (intro w hS; (try dsimp only at hS); go_simp <;> with_reducible rfl)
    try simp only [List.setIfInBounds_toArray, List.set_cons_zero, List.set_cons_succ]
    refine wpAnyH_ready (rs := [2]) (by kernel_rfl) (by simp) ?_
    refine AllReadyH.cons rfl (fun K hK => ?_) AllReadyH.nil
    go_simp
    refine (GS1.out).mono ?_
    rintro e W1 ⟨rfl, rfl⟩
    refine hK.out _ _ (by first | exact HSS.out _ kz) (fun hHeld => ?_)
    clear hK K
    refine wpAnyH_putD (i := 3) (d := 22) (v := (.bool true)) rfl rfl (by kernel_rfl) (by kernel_rfl) (by kernel_rfl) (fun _ _ _ h => h) (Or.inl ⟨by kernel_rfl, ?_⟩) (by first | exact HSS.out _ kz) ?_
    · (intro w hS; (try dsimp only at hS); go_simp <;> with_reducible rfl)
    try simp only [List.setIfInBounds_toArray, List.set_cons_zero, List.set_cons_succ]
    refine wpAnyH_putD (i := 4) (d := 23) (v := ?_) rfl rfl (by kernel_rfl) (by kernel_rfl) (by kernel_rfl) (fun _ _ _ h => h) (Or.inl ⟨by kernel_rfl, ?_⟩) (by first | exact HSS.out _ kz) ?_
    rotate_left
    · (intro w hS; (try dsimp only at hS); go_simp <;> with_reducible rfl)
    try simp only [List.setIfInBounds_toArray, List.set_cons_zero, List.set_cons_succ]
    refine wpAnyH_putD (i := 5) (d := 24) (v := ?_) rfl rfl (by kernel_rfl) (by kernel_rfl) (by kernel_rfl) (fun _ _ _ h => h) (Or.inl ⟨by kernel_rfl, ?_⟩) (by first | exact HSS.out _ kz) ?_
    rotate_left
    · (intro w hS; (try dsimp only at hS); go_simp <;> with_reducible rfl)
    try simp only [List.setIfInBounds_toArray, List.set_cons_zero, List.set_cons_succ]
    refine wpAnyH_putD (i := 6) (d := 25) (v := ?_) rfl rfl (by kernel_rfl) (by kernel_rfl) (by kernel_rfl) (fun _ _ _ h => h) (Or.inl ⟨by kernel_rfl, ?_⟩) (by first | exact HSS.out _ kz) ?_
    rotate_left
    · (intro w hS; (try dsimp only at hS); go_simp <;> with_reducible rfl)
    try simp only [List.setIfInBounds_toArray, List.set_cons_zero, List.set_cons_succ]
    refine wpAnyH_putD (i := 7) (d := 26) (v := (.bool true)) rfl rfl (by kernel_rfl) (by kernel_rfl) (by kernel_rfl) (fun _ _ _ h => h) (Or.inl ⟨by kernel_rfl, ?_⟩) (by first | exact HSS.out _ kz) ?_
    · (intro w hS; (try dsimp only at hS); go_simp <;> with_reducible rfl)
    try simp only [List.setIfInBounds_toArray, List.set_cons_zero, List.set_cons_succ]
    refine wpAnyH_putD (i := 8) (d := 27) (v := (.bool true)) rfl rfl (by kernel_rfl) (by kernel_rfl) (by kernel_rfl) (fun _ _ _ h => h) (Or.inl ⟨by kernel_rfl, ?_⟩) (by first | exact HSS.out _ kz) ?_
    · (intro w hS; (try dsimp only at hS); go_simp <;> with_reducible rfl)
    try simp only [List.setIfInBounds_toArray, List.set_cons_zero, List.set_cons_succ]
    refine wpAnyH_putD (i := 9) (d := 28) (v := ?_) rfl rfl (by kernel_rfl) (by kernel_rfl) (by kernel_rfl) (fun _ _ _ h => h) (Or.inl ⟨by kernel_rfl, ?_⟩) (by first | exact HSS.out _ kz) ?_
    rotate_left
    · (intro w hS; (try dsimp only at hS); go_simp <;> with_reducible rfl)
    try simp only [List.setIfInBounds_toArray, List.set_cons_zero, List.set_cons_succ]
    refine wpAnyH_putD (i := 11) (d := 30) (v := ?_) rfl rfl (by kernel_rfl) (by kernel_rfl) (by kernel_rfl) (fun _ _ _ h => h) (Or.inl ⟨by kernel_rfl, ?_⟩) (by first | exact HSS.out _ kz) ?_
    rotate_left
    · (intro w hS; (try dsimp only at hS); go_simp <;> with_reducible rfl)
    try simp only [List.setIfInBounds_toArray, List.set_cons_zero, List.set_cons_succ]
    refine wpAnyH_ready (rs := [10]) (by kernel_rfl) (by simp) ?_
    refine AllReadyH.cons rfl (fun K hK => ?_) AllReadyH.nil
    go_simp
    refine (GF.out _ kw).mono ?_
    rintro e W2 ⟨rfl, hb'⟩
    have kz := below_then kz (Nat.le_refl _) hb'
    have kw := below_then kw (Nat.le_refl _) hb'
    clear hb'
    refine hK.out _ _ (by first | exact HSS.out _ kz) (fun hHeld => ?_)
    clear hK K
    refine wpAnyH_ready (rs := [12]) (by kernel_rfl) (by simp) ?_
    refine AllReadyH.cons rfl (fun K hK => ?_) AllReadyH.nil
    go_simp
    refine (GG.out _ kw).mono ?_
    rintro e W3 ⟨rfl, hb'⟩
    have kz := below_then kz (Nat.le_refl _) hb'
    have kw := below_then kw (Nat.le_refl _) hb'
    clear hb'
    refine hK.out _ _ (by first | exact HSS.out _ kz) (fun hHeld => ?_)
    clear hK K
    refine wpAnyH_putD (i := 13) (d := 32) (v := ?_) rfl rfl (by kernel_rfl) (by kernel_rfl) (by kernel_rfl) (fun _ _ _ h => h) (Or.inl ⟨by kernel_rfl, ?_⟩) (by first | exact HSS.out _ kz) ?_
    rotate_left
    · (intro w hS; (try dsimp only at hS); go_simp <;> with_reducible rfl)
    try simp only [List.setIfInBounds_toArray, List.set_cons_zero, List.set_cons_succ]
    refine wpAnyH_putD (i := 14) (d := 33) (v := ?_) rfl rfl (by kernel_rfl) (by kernel_rfl) (by kernel_rfl) (fun _ _ _ h => h) (Or.inl ⟨by kernel_rfl, ?_⟩) (by first | exact HSS.out _ kz) ?_
    rotate_left
    · (intro w hS; (try dsimp only at hS); go_simp <;> with_reducible rfl)
    try simp only [List.setIfInBounds_toArray, List.set_cons_zero, List.set_cons_succ]
    refine wpAnyH_putD (i := 15) (d := 2) (v := ?_) rfl rfl (by kernel_rfl) (by kernel_rfl) (by kernel_rfl) (fun _ _ _ h => h) (Or.inl ⟨by kernel_rfl, ?_⟩) (by first | exact HSS.out _ kz) ?_
    rotate_left
    · (intro w hS; (try dsimp only at hS); go_simp <;> with_reducible rfl)
    try simp only [List.setIfInBounds_toArray, List.set_cons_zero, List.set_cons_succ]
    refine wpAnyH_done (by kernel_rfl) ?_ _
    refine Nrm.out (hKK _ _ ?_)
    go_wp2
    go_ret
    exact ⟨rfl, kw⟩
end Go.Proofs.YtndlcimckfndiaaDoor
