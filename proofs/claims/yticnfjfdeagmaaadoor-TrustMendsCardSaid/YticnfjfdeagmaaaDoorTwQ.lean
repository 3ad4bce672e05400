/- Walk of the law TrustMends (printed by wip/tools/genTwQ.py). -/
import Derived.Test.YticnfjfdeagmaaaDoorMTwN
import Derived.Test.YticnfjfdeagmaaaDoorSpL
import Derived.Test.YticnfjfdeagmaaaDoorSpM
import Derived.Test.YticnfjfdeagmaaaDoorSpV
import Derived.Test.YticnfjfdeagmaaaDoorMVec
namespace Go.Proofs.YticnfjfdeagmaaaDoor
open Go.RowKit
set_option maxRecDepth 100000

theorem refTwoS_any (A D : Option Addr) (n c m d : Nat) (l r : List Sn.Sp) (w : World) (hl : l.length = n) (hr : r.length = m) (hR : Rd w w.heap.size 2 A n c (sv l)) (hR2 : Rd w w.heap.size 2 D m d (sv r)) :
    Calls Tryd.prog 25 #[.slice A n c, .slice D m d] w fun e w' => SpOut w w' e (Sn.tidy (l ++ r)) := by
  have hb : Below w.heap.size w (w.alloc (.cells #[.slice A n c, .slice D m d] 24)) := (Below.refl _ _).alloc (Nat.le_refl _) _
  have H := Lib.hid (refJoinS_any (some ⟨w.heap.size, 0, none⟩) 2 2 [l, r] _ (RdL.two hl hr hR hR2 24))
  have HE := Lib.hid (show Sn.tidy [l, r].flatten = Sn.tidy (l ++ r) by simp)
  have HB := Lib.hid hb
  clear hR hR2 hl hr hb
  go_enter Tryd.func25, Tryd.ntmps25
  go_wp2_with fail
  refine H.out.mono ?_
  rintro e w1 hout
  rw [HE.out] at hout
  obtain ⟨A1, c1, rfl, ho, hb1⟩ := hout
  go_wp2
  go_ret
  exact ⟨A1, c1, rfl, own_less ho HB.out.size, below_then HB.out (Nat.le_refl _) hb1⟩

set_option maxHeartbeats 8000000 in
theorem trustMends_walk (A D E1 E2 : Option Addr) (n c q d s1 t1 s2 t2 : Nat) (L : List (ZV × Zn)) (u0 : List Vc.St) (i1 i2 : List Sn.Sp) (w : World) (hT : Tab w) (hR : RdZ w w.heap.size A n c L) (hl : u0.length = q) (hR2 : Rd w w.heap.size 2 D q d (sv u0))
    (hl1 : i1.length = s1) (hRi : Rd w w.heap.size 2 E1 s1 t1 (sv i1)) (hs1 : s1 ≤ 8796093022208) (hl2 : i2.length = s2) (hRj : Rd w w.heap.size 2 E2 s2 t2 (sv i2)) :
    Calls Tryd.prog 7 #[.slice A n c, .slice D q d, .agg #[.slice E1 s1 t1, .slice E2 s2 t2]] w fun e w' => e = .returned (.bool true) ∧ Below w.heap.size w w' := by
  have hb0 : Below w.heap.size w (w.alloc (.cells #[.slice E1 s1 t1, .slice E2 s2 t2] 44)) := (Below.refl _ _).alloc (Nat.le_refl _) _
  have hX := Blk.new w 44 #[.slice E1 s1 t1, .slice E2 s2 t2]
  obtain ⟨W0, hW0⟩ : ∃ W0, W0 = w.alloc (.cells #[.slice E1 s1 t1, .slice E2 s2 t2] 44) := ⟨_, rfl⟩
  rw [← hW0] at hb0 hX
  have HA := Lib.hid (aliveT_any W0 (hT.below hb0))
  have F1 := fun (V : World) (hb : Below W0.heap.size W0 V) => refZonesFormed_any A n c L V ((hR.go hb0).go hb)
  have F2 := fun (V : World) (hb : Below W0.heap.size W0 V) => refFormed_any D q d u0 V hl ((hR2.go hb0).go hb)
  have HX := Lib.hid hX
  have HW := Lib.hid hW0.symm
  have HB0 := Lib.hid hb0
  have HT0 := Lib.hid (hT.below hb0)
  have HR0 := Lib.hid (hR.go hb0)
  have HR20 := Lib.hid (hR2.go hb0)
  have HL0 := Lib.hid hl
  have HI0 := Lib.hid (And.intro hl1 (hRi.go hb0))
  have HJ0 := Lib.hid (And.intro hl2 (hRj.go hb0))
  rcases hf1 : zF (-1) none (zns L) with _ | _
  · simp only [hf1] at F1
    have F1 := Lib.hid F1
    clear hf1 F2 hX hW0 hb0 hT hR hl hR2 hl1 hRi hl2 hRj
    go_enter Tryd.func7, Tryd.ntmps7
    go_wp2_with fail
    rw [HW.out]
    refine HA.out.mono ?_
    rintro e w1 ⟨rfl, hb1⟩
    go_wp2_with fail
    refine (F1.out _ hb1).mono ?_
    rintro e w2 ⟨rfl, hb2⟩
    have HB := Lib.hid (below_then HB0.out (Nat.le_refl _) (below_then hb1 (Nat.le_refl _) hb2))
    clear hb1 hb2
    go_wp2
    go_ret
    exact ⟨rfl, HB.out⟩
  rcases hf2 : fm (-1) u0 with _ | _
  · simp only [hf1] at F1
    simp only [hf2] at F2
    have F1 := Lib.hid F1
    have F2 := Lib.hid F2
    clear hf1 hf2 hX hW0 hb0 hT hR hl hR2 hl1 hRi hl2 hRj
    go_enter Tryd.func7, Tryd.ntmps7
    go_wp2_with fail
    rw [HW.out]
    refine HA.out.mono ?_
    rintro e w1 ⟨rfl, hb1⟩
    go_wp2_with fail
    refine (F1.out _ hb1).mono ?_
    rintro e w2 ⟨rfl, hb2⟩
    have hb2 := below_then hb1 (Nat.le_refl _) hb2
    go_wp2_with fail
    refine (F2.out _ hb2).mono ?_
    rintro e w3 ⟨rfl, hb3⟩
    have HB := Lib.hid (below_then HB0.out (Nat.le_refl _) (below_then hb2 (Nat.le_refl _) hb3))
    clear hb1 hb2 hb3
    go_wp2
    go_ret
    exact ⟨rfl, HB.out⟩
  obtain ⟨b, hb⟩ : ∃ b, b = Sn.tidy i2 := ⟨_, rfl⟩
  have hbf : Sn.fmS (-2) b = true := by rw [hb]; exact Sn.tidy_fm _
  have hb128 := Sn.fmS_128 hbf
  obtain ⟨sv0, hsv⟩ : ∃ s, s = sinceF (zns L) u0 i1 := ⟨_, rfl⟩
  have hsv2 : sv0 = sinceZ (zns L) u0 i1 := by rw [hsv]; unfold sinceF; rw [hf1, hf2]; rfl
  have hE : tkE (zns L) u0 (ntM sv0 u0 b) = 0 := tkE_is hf1 hf2 (ntM_fm sv0 hf2 hbf) (ntM_fits sv0 u0 b)
  obtain ⟨z1, z2⟩ := tkZ_zero hE
  rw [ntM_now sv0 hf2 b] at z2
  have hX1 := tkZ_fm hf1 hf2 (ntM sv0 u0 b)
  have hM := take_mends hf1 hf2 i1 b
  rw [← hsv2] at hM
  obtain ⟨X, hXX⟩ : ∃ X, X = tkZ (zns L) u0 (ntM sv0 u0 b) := ⟨_, rfl⟩
  rw [← hXX] at z1 hX1 hM
  have hTouch : Sn.meetL (Sn.lessL i1 b) (blurF X) = [] := by
    rw [blurF_yes hX1]
    exact (Sn.of_nil_iff _).2 hM
  have HTO := Lib.hid hTouch
  have HE := Lib.hid (And.intro hE (And.intro z1 z2))
  have HSV := Lib.hid hsv
  have HBB := Lib.hid (show Sn.tidy (i2 ++ []) = b by rw [List.append_nil, hb])
  simp only [hf1] at F1
  simp only [hf2] at F2
  have F1 := Lib.hid F1
  have F2 := Lib.hid F2
  clear hf1 hf2 hX hW0 hb0 hT hR hl hR2 hl1 hRi hl2 hRj hb hbf hsv hsv2 hE z1 z2 hX1 hM hXX hTouch
  go_enter Tryd.func7, Tryd.ntmps7
  go_wp2_with fail
  rw [HW.out]
  refine HA.out.mono ?_
  rintro e w1 ⟨rfl, hb1⟩
  go_wp2_with fail
  refine (F1.out _ hb1).mono ?_
  rintro e w2 ⟨rfl, hb2⟩
  have hb2 := below_then hb1 (Nat.le_refl _) hb2
  go_wp2_with fail
  refine (F2.out _ hb2).mono ?_
  rintro e w3 ⟨rfl, hb3⟩
  have hb3 := below_then hb2 (Nat.le_refl _) hb3
  have HB3 := Lib.hid hb3
  have kk : Below W0.heap.size W0 w3.drew := hb3.drew
  have TWO := Lib.hid fun (V : World) (hb : Below W0.heap.size W0 V) => refTwoS_any E2 none s2 t2 0 0 i2 [] V HJ0.out.1 rfl (HJ0.out.2.go hb) Rd.none_
  have XX := Lib.hid fun (V : World) (hb : Below W0.heap.size W0 V) => (show V.cell? ⟨w.heap.size, 0, none⟩ = some (.slice E1 s1 t1) ∧ V.cell? ⟨w.heap.size, 1, none⟩ = some (.slice E2 s2 t2) from ⟨(HX.out.go hb).cell 0, (HX.out.go hb).cell 1⟩)
  clear hb1 hb2 hb3 F1 F2
  go_wp2_with fail
  refine region_nrm fun KK hKK => ?_
  refine wp_region_held_drew (S := (fun V => V.cell? ⟨w.heap.size, 0, none⟩ = some (.slice E1 s1 t1) ∧ V.cell? ⟨w.heap.size, 1, none⟩ = some (.slice E2 s2 t2))) (by kernel_rfl) (by first | exact XX.out _ kk) (fun hHeld => ?_)
  refine wpAnyH_putD (i := 0) (d := 23) (v := ?_) rfl rfl (by kernel_rfl) (by kernel_rfl) (by kernel_rfl) (fun _ _ _ h => h) (Or.inl ⟨by kernel_rfl, ?_⟩) (by first | exact XX.out _ kk) ?_
  rotate_left
  · (intro w hS; (try dsimp only at hS); go_simp <;> with_reducible rfl)
  try simp only [List.setIfInBounds_toArray, List.set_cons_zero, List.set_cons_succ]
  refine wpAnyH_putD (i := 1) (d := 24) (v := ?_) rfl rfl (by kernel_rfl) (by kernel_rfl) (by kernel_rfl) (fun _ _ _ h => h) (Or.inl ⟨by kernel_rfl, ?_⟩) (by first | exact XX.out _ kk) ?_
  rotate_left
  · (intro w hS; (try dsimp only at hS); go_simp <;> with_reducible rfl)
  try simp only [List.setIfInBounds_toArray, List.set_cons_zero, List.set_cons_succ]
  refine wpAnyH_putD (i := 2) (d := 25) (v := ?_) rfl rfl (by kernel_rfl) (by kernel_rfl) (by kernel_rfl) (fun _ _ _ h => h) (Or.inl ⟨by kernel_rfl, ?_⟩) (by first | exact XX.out _ kk) ?_
  rotate_left
  · (intro w hS; (try dsimp only at hS); go_simp <;> with_reducible rfl)
  try simp only [List.setIfInBounds_toArray, List.set_cons_zero, List.set_cons_succ]
  refine wpAnyH_putD (i := 3) (d := 26) (v := ?_) rfl rfl (by kernel_rfl) (by kernel_rfl) (by kernel_rfl) (fun _ _ _ h => h) (Or.inl ⟨by kernel_rfl, ?_⟩) (by first | exact XX.out _ kk) ?_
  rotate_left
  · (intro w hS; (try dsimp only at hS); go_simp <;> with_reducible rfl)
  try simp only [List.setIfInBounds_toArray, List.set_cons_zero, List.set_cons_succ]
  refine wpAnyH_ready (rs := [4]) (by kernel_rfl) (by simp) ?_
  refine AllReadyH.cons rfl (fun K hK => ?_) AllReadyH.nil
  go_simp
  refine (TWO.out _ kk).mono ?_
  rintro e w4 hout
  rw [HBB.out] at hout
  obtain ⟨A4, c4, rfl, ho4, hb4⟩ := hout
  have HO4 := Lib.hid (Rd.of_own ho4)
  have kk := below_then kk (Nat.le_refl _) hb4
  clear ho4 hb4
  refine hK.out _ _ (by first | exact XX.out _ kk) (fun hHeld => ?_)
  clear hK K
  refine wpAnyH_putD (i := 5) (d := 7) (v := ?_) rfl rfl (by kernel_rfl) (by kernel_rfl) (by kernel_rfl) (fun _ _ _ h => h) (Or.inl ⟨by kernel_rfl, ?_⟩) (by first | exact XX.out _ kk) ?_
  rotate_left
  · (intro w hS; (try dsimp only at hS); go_simp <;> with_reducible rfl)
  try simp only [List.setIfInBounds_toArray, List.set_cons_zero, List.set_cons_succ]
  refine wpAnyH_putD (i := 6) (d := 8) (v := ?_) rfl rfl (by kernel_rfl) (by kernel_rfl) (by kernel_rfl) (fun _ _ _ h => h) (Or.inl ⟨by kernel_rfl, ?_⟩) (by first | exact XX.out _ kk) ?_
  rotate_left
  · (intro w hS; (try dsimp only at hS); go_simp <;> with_reducible rfl)
  try simp only [List.setIfInBounds_toArray, List.set_cons_zero, List.set_cons_succ]
  refine wpAnyH_done (by kernel_rfl) ?_ _
  refine Nrm.out (hKK _ _ ?_)
  obtain ⟨nb, hnb⟩ : ∃ nb, nb = b.length := ⟨_, rfl⟩
  have HO4 := HO4.out
  rw [← hnb] at HO4 hb128 ⊢
  have HO4 := Lib.hid HO4
  have HNB := Lib.hid hnb.symm
  have SI := zonesSince_any A D E1 n c q d s1 t1 L u0 i1 w4 (HT0.out.below kk) (HR0.out.go kk) HL0.out (HR20.out.go kk) HI0.out.1 (HI0.out.2.go kk) hs1
  rw [← HSV.out] at SI
  obtain ⟨ns, hns⟩ : ∃ ns, ns = sv0.length := ⟨_, rfl⟩
  unfold StOut at SI
  rw [← hns] at SI
  have SI := Lib.hid SI
  have HNS := Lib.hid hns.symm
  have HB4 := Lib.hid kk
  clear hnb hns kk
  go_wp2_with fail
  refine SI.out.mono ?_
  rintro e w5 ⟨A5, c5, rfl, ho5, hb5⟩
  have hb05 := below_then HB4.out (Nat.le_refl _) hb5
  have HO5 := Lib.hid (HO4.out.go hb5)
  have hR5 := Rd.of_own ho5
  have hb6 := then_alloc hb5 (.cells #[.slice A5 ns c5, .slice D q d] 23)
  have ME := refMeet_ne (some ⟨w5.heap.size, 0, none⟩) 2 2 [sv0, u0] _ (RdL.two HNS.out HL0.out hR5 (HR20.out.go hb05) 23) (by omega)
  obtain ⟨mv, hmv⟩ : ∃ mv, mv = vec (mt [sv0, u0]) := ⟨_, rfl⟩
  rw [← hmv] at ME
  obtain ⟨nm, hnm⟩ : ∃ nm, nm = mv.length := ⟨_, rfl⟩
  rw [← hnm] at ME
  have ME := Lib.hid ME
  have HMV := Lib.hid hmv
  have HNM := Lib.hid hnm.symm
  have HB6 := Lib.hid (below_then hb05 (Nat.le_refl _) hb6)
  have HO6 := Lib.hid (HO5.out.go hb6)
  clear hb5 hb05 hb6 hR5 ho5 hmv hnm SI
  go_wp2_with fail
  refine ME.out.mono ?_
  rintro e w7 ⟨A7, c7, rfl, ho7, hb7⟩
  have hb07 := below_then HB6.out (Nat.le_refl _) hb7
  have TK := take_any A D n c q d L u0 ⟨A7, nm, c7, D, q, d, A4, nb, c4, none, 0, 0⟩ (ntM sv0 u0 b) w7 (HT0.out.below hb07) (HR0.out.go hb07) HL0.out (HR20.out.go hb07) ⟨by show (vec (mt [sv0, u0])).length = nm; rw [← HMV.out]; exact HNM.out, by show Rd w7 w7.heap.size 2 A7 nm c7 (sv (vec (mt [sv0, u0]))); rw [← HMV.out]; exact Rd.of_own ho7, HL0.out, HR20.out.go hb07, HNB.out, HO6.out.go hb7, rfl, Rd.none_⟩
  rw [HE.out.1, HE.out.2.1, HE.out.2.2] at TK
  simp only [NV.val] at TK
  have TK := Lib.hid TK
  have HO7 := Lib.hid (HO6.out.go hb7)
  have HB7 := Lib.hid hb07
  clear hb7 hb07 ho7 ME
  go_wp2_with fail
  refine TK.out.mono ?_
  rintro e w8 ⟨A8, k8, c8, M8, B8, m8, d8, rfl, hz8, hm8, hl8, hr8, hb8⟩
  have hb08 := below_then HB7.out (Nat.le_refl _) hb8
  have SM := same_q B8 D m8 d8 q d u0 u0 w8 hl8 HL0.out hr8 (HR20.out.go hb08)
  rw [decide_eq_true rfl] at SM
  have SM := Lib.hid SM
  have HZ8 := Lib.hid hz8
  have HM8 := Lib.hid hm8
  have HO8 := Lib.hid (HO7.out.go hb8)
  have HB8 := Lib.hid hb08
  clear hz8 hm8 hl8 hr8 hb8 hb08 TK
  go_wp2_with fail
  refine SM.out.mono ?_
  rintro e w9 ⟨rfl, p9, rfl⟩
  have HB9 := Lib.hid (below_drewN HB8.out p9)
  have hb89 := below_drewN (Below.refl w8.heap.size w8) p9
  have LE := refLessS_any E1 s1 t1 i1 A4 nb c4 b (w8.drewN p9) HI0.out.1 (HI0.out.2.go HB9.out) HNB.out (HO8.out.go hb89)
  obtain ⟨le, hle⟩ : ∃ l, l = Sn.lessL i1 b := ⟨_, rfl⟩
  rw [← hle] at LE
  have LE := Lib.hid LE
  have HLE := Lib.hid hle
  have HZ9 := Lib.hid (HZ8.out.go hb89)
  clear hle hb89
  go_wp2_with fail
  refine LE.out.mono ?_
  rintro e w10 ⟨A10, c10, rfl, ho10, hb10⟩
  obtain ⟨nl, hnl⟩ : ∃ n, n = le.length := ⟨_, rfl⟩
  rw [← hnl] at ho10 ⊢
  have BL := zonesBlurred_any A8 k8 c8 M8 w10 (HZ9.out.go hb10)
  rw [HM8.out] at BL
  obtain ⟨bx, hbx⟩ : ∃ l, l = blurF X := ⟨_, rfl⟩
  rw [← hbx] at BL
  have BL := Lib.hid BL
  have HBX := Lib.hid hbx
  have HNL := Lib.hid hnl.symm
  have HO10 := Lib.hid (Rd.of_own ho10)
  have HB10 := Lib.hid (below_then HB9.out (Nat.le_refl _) hb10)
  clear hbx hnl ho10 hb10
  go_wp2_with fail
  refine BL.out.mono ?_
  rintro e w11 ⟨A11, c11, rfl, ho11, hb11⟩
  have TO := refTouchS_any A10 nl c10 le A11 bx.length c11 bx w11 HNL.out (HO10.out.go hb11) rfl (Rd.of_own ho11)
  rw [HLE.out, HBX.out, HTO.out] at TO
  simp only [ne_eq, not_true_eq_false, decide_false] at TO
  rw [← HBX.out] at TO
  have TO := Lib.hid TO
  have HB11 := Lib.hid (below_then HB10.out (Nat.le_refl _) hb11)
  clear ho11 hb11
  go_wp2_with fail
  refine TO.out.mono ?_
  rintro e w12 ⟨rfl, hb12⟩
  have HF := Lib.hid (below_then HB0.out (Nat.le_refl _) (below_then HB11.out (Nat.le_refl _) hb12))
  clear hb12
  go_wp2
  go_ret
  exact ⟨rfl, HF.out⟩
end Go.Proofs.YticnfjfdeagmaaaDoor
