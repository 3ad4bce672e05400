/- Walk of the law TrustSharp. -/
import Derived.Test.YticnfjfdeagmaaaDoorMTwN
namespace Go.Proofs.YticnfjfdeagmaaaDoor
open Go.RowKit
set_option maxRecDepth 100000

set_option maxHeartbeats 8000000 in
theorem trustSharp_walk (A D : Option Addr) (n c q d : Nat) (L : List (ZV × Zn)) (u0 : List Vc.St) (v : NV) (x : Nt) (w : World) (hT : Tab w) (hR : RdZ w w.heap.size A n c L) (hl : u0.length = q) (hR2 : Rd w w.heap.size 2 D q d (sv u0)) (hN : NtRd w w.heap.size v x) :
    Calls Tryd.prog 5 #[.slice A n c, .slice D q d, .agg v.val] w fun e w' => e = .returned (.bool true) ∧ Below w.heap.size w w' := by
  obtain ⟨A1, n1, c1, A2, n2, c2, A3, n3, c3, A4, n4, c4⟩ := v
  have hb0 : Below w.heap.size w (w.alloc (.cells #[.slice A1 n1 c1, .slice A2 n2 c2, .slice A3 n3 c3, .slice A4 n4 c4] 27)) := (Below.refl _ _).alloc (Nat.le_refl _) _
  have hX := Blk.new w 27 #[.slice A1 n1 c1, .slice A2 n2 c2, .slice A3 n3 c3, .slice A4 n4 c4]
  obtain ⟨W0, hW0⟩ : ∃ W0, W0 = w.alloc (.cells #[.slice A1 n1 c1, .slice A2 n2 c2, .slice A3 n3 c3, .slice A4 n4 c4] 27) := ⟨_, rfl⟩
  rw [← hW0] at hb0 hX
  have HA := Lib.hid (aliveT_any W0 (hT.below hb0))
  have T1 := fun (V : World) (hb : Below W0.heap.size W0 V) => take_any A D n c q d L u0 ⟨A1, n1, c1, A2, n2, c2, A3, n3, c3, A4, n4, c4⟩ x V ((hT.below hb0).below hb) ((hR.go hb0).go hb) hl ((hR2.go hb0).go hb) ((hN.go hb0).go hb)
  simp only [NV.val] at T1 ⊢
  have HX := Lib.hid hX
  have HW := Lib.hid hW0.symm
  have HB0 := Lib.hid hb0
  have HN0 := Lib.hid (hN.go hb0)
  have HR0 := Lib.hid (hR.go hb0)
  have HR20 := Lib.hid (hR2.go hb0)
  have HL0 := Lib.hid hl
  by_cases hE : tkE (zns L) u0 x = 0
  · obtain ⟨f1, f2, f3, f4⟩ := tkE_zero hE
    obtain ⟨z1, z2⟩ := tkZ_zero hE
    rw [hE, z1, z2] at T1
    have hX1 := tkZ_fm f1 f2 x
    have hK1 : fm (-1) (nowOf u0 x) = true := formed_vec _
    have LA1 := fun (o : Nat) (ho : o < 256) (h1 : hasO (blurF (zns L)) (o : Int) = false) (h2 : hasO (blurF (tkZ (zns L) u0 x)) (o : Int) = true) => take_sharp f1 f2 f3 f4 o ho (by rw [← blurF_yes f1]; exact h1) (by rw [← blurF_yes hX1]; exact h2)
    have LA2 := fun (o : Nat) (ho : o < 256) (h1 : cov2 u0 (reachF (zns L) u0 (o : Int)) = true) => (show cov2 (reachF (tkZ (zns L) u0 x) (nowOf u0 x) (o : Int)) (reachF (zns L) u0 (o : Int)) = true ∧ cov2 (nowOf u0 x) (reachF (tkZ (zns L) u0 x) (nowOf u0 x) (o : Int)) = true from by
      rw [reachF_yes f1 f2 (by omega)] at h1 ⊢
      rw [reachF_yes hX1 hK1 (by omega)]
      exact take_reach f1 f2 o ho h1)
    obtain ⟨X, hXX⟩ : ∃ X, X = tkZ (zns L) u0 x := ⟨_, rfl⟩
    obtain ⟨K, hKK⟩ : ∃ K, K = nowOf u0 x := ⟨_, rfl⟩
    rw [← hXX, ← hKK] at T1 LA2
    rw [← hXX] at LA1
    have T1 := Lib.hid T1
    have LA1 := Lib.hid LA1
    have LA2 := Lib.hid LA2
    clear hE f1 f2 f3 f4 z1 z2 hX1 hK1 hXX hKK hX hW0 hb0 hT hR hl hR2 hN
    go_enter Tryd.func5, Tryd.ntmps5
    go_wp2_with fail
    rw [HW.out]
    refine HA.out.mono ?_
    rintro e w1 ⟨rfl, hb1⟩
    obtain ⟨q0, q1, q2, q3⟩ := (HX.out.go hb1).four4
    go_wp2_with fail
    refine (T1.out _ hb1).mono ?_
    rintro e w2 ⟨A5, k5, c5, M5, B5, m5, d5, rfl, hz5, hm5, hl5, hr5, hb2⟩
    have hb02 := below_then hb1 (Nat.le_refl _) hb2
    have B1 := Lib.hid (zonesBlurred_any A n c L w2 (HR0.out.go hb02))
    have HZ5 := Lib.hid hz5
    have HM5 := Lib.hid hm5
    have HL5 := Lib.hid hl5
    have HR5 := Lib.hid hr5
    have HB2 := Lib.hid hb02
    clear hz5 hm5 hl5 hr5 hb1 hb2 hb02 T1 q0 q1 q2 q3
    go_wp2_with fail
    refine B1.out.mono ?_
    rintro e w3 hout
    obtain ⟨u, hu⟩ : ∃ u, u = blurF (zns L) := ⟨_, rfl⟩
    rw [← hu] at hout
    obtain ⟨nu, hnu⟩ : ∃ nu, nu = u.length := ⟨_, rfl⟩
    obtain ⟨A6, c6, rfl, ho6, hb3⟩ := hout
    rw [← hnu] at ho6 ⊢
    have B2 := zonesBlurred_any A5 k5 c5 M5 w3 (HZ5.out.go hb3)
    rw [HM5.out] at B2
    have B2 := Lib.hid B2
    have HU := Lib.hid hu
    have HNU := Lib.hid hnu.symm
    have HX6 := Lib.hid (Rd.of_own ho6)
    have HB3 := Lib.hid hb3
    clear hu hnu ho6 hb3 B1
    go_wp2_with fail
    refine B2.out.mono ?_
    rintro e w4 hout
    obtain ⟨u2, hu2⟩ : ∃ u, u = blurF X := ⟨_, rfl⟩
    rw [← hu2] at hout
    obtain ⟨nu2, hnu2⟩ : ∃ nu, nu = u2.length := ⟨_, rfl⟩
    obtain ⟨A7, c7, rfl, ho7, hb4⟩ := hout
    rw [← hnu2] at ho7 ⊢
    have hb24 := below_then HB3.out (Nat.le_refl _) hb4
    have HU2 := Lib.hid hu2
    have HNU2 := Lib.hid hnu2.symm
    have HX7 := Lib.hid (Rd.of_own ho7)
    have HX64 := Lib.hid (HX6.out.go hb4)
    have HZ4 := Lib.hid (HZ5.out.go hb24)
    have HR4 := Lib.hid (HR5.out.go hb24)
    have HB4 := Lib.hid (below_then HB2.out (Nat.le_refl _) hb24)
    clear hu2 hnu2 ho7 hb4 hb24 B2 HX6 HZ5 HR5
    go_wp2
    go_loopw [12] (fun v12 wr => ∃ k : Nat, v12 = .int .i64 k ∧ k ≤ 256 ∧ Below w4.heap.size w4 wr) (fun v12 _ => 256 - (intOf v12).toNat)
    case atStart => exact ⟨0, rfl, by omega, Below.refl _ _⟩
    case round =>
      obtain ⟨k, rfl, hk, hb⟩ := hrel
      by_cases hlt : k < 256
      · have H1 := refHasS_any A6 nu c6 u (k : Int) wr HNU.out (HX64.out.go hb)
        have l1 := LA1.out k hlt
        have l2 := LA2.out k hlt
        rw [← HU.out, ← HU2.out] at l1
        obtain ⟨ob, hob⟩ : ∃ b, b = hasO u (k : Int) := ⟨_, rfl⟩
        obtain ⟨nb, hnb⟩ : ∃ b, b = hasO u2 (k : Int) := ⟨_, rfl⟩
        obtain ⟨bb, hbb⟩ : ∃ b, b = hasO x.b (k : Int) := ⟨_, rfl⟩
        rw [← hob] at H1 l1
        rw [← hnb, ← hbb] at l1
        have L1 := Lib.hid l1
        have L2 := Lib.hid l2
        have H1 := Lib.hid H1
        have HOB := Lib.hid hob
        have HNB := Lib.hid hnb
        have HBB := Lib.hid hbb
        have HBR := Lib.hid hb
        clear hob hnb hbb l1 l2 hb
        go_wp2_with fail
        refine H1.out.mono ?_
        rintro e w5 ⟨rfl, hb5⟩
        have hb5 := below_then HBR.out (Nat.le_refl _) hb5
        have H2 := refHasS_any A7 nu2 c7 u2 (k : Int) w5 HNU2.out (HX7.out.go hb5)
        rw [← HNB.out] at H2
        have H2 := Lib.hid H2
        have HB5 := Lib.hid hb5
        clear hb5
        go_wp2_with fail
        refine H2.out.mono ?_
        rintro e w6 ⟨rfl, hb6⟩
        have hb6 := below_then HB5.out (Nat.le_refl _) hb6
        have hb06 := below_then HB4.out (Nat.le_refl _) hb6
        obtain ⟨q0, q1, q2, q3⟩ := (HX.out.go hb06).four4
        have H3 := refHasS_any A3 n3 c3 x.b (k : Int) w6 HN0.out.l3 (HN0.out.go hb06).r3
        rw [← HBB.out] at H3
        have H3 := Lib.hid H3
        have HB6 := Lib.hid hb6
        have REST := Lib.hid (show ∀ V, Below w4.heap.size w4 V → Calls Tryd.prog 18 #[.slice A5 k5 c5, .slice B5 m5 d5, .int .i64 (k : Int)] V fun e w' => StOut V w' e (reachF X K (k : Int)) from fun V hv => by
          have := zonesReach_any A5 B5 k5 c5 m5 d5 M5 K (k : Int) V (HZ4.out.go hv) HL5.out (HR4.out.go hv)
          rw [HM5.out] at this
          exact this)
        have REST2 := Lib.hid (show ∀ V, Below w4.heap.size w4 V → Calls Tryd.prog 18 #[.slice A n c, .slice D q d, .int .i64 (k : Int)] V fun e w' => StOut V w' e (reachF (zns L) u0 (k : Int)) from fun V hv =>
          zonesReach_any A D n c q d L u0 (k : Int) V ((HR0.out.go HB4.out).go hv) HL0.out ((HR20.out.go HB4.out).go hv))
        clear hb6 hb06 H1 H2
        have hcase : ob = true ∨ (ob = false ∧ nb = false) ∨ (ob = false ∧ nb = true ∧ bb = true) := by
          rcases ob with _ | _
          · rcases nb with _ | _
            · exact .inr (.inl ⟨rfl, rfl⟩)
            · exact .inr (.inr ⟨rfl, rfl, L1.out rfl rfl⟩)
          · exact .inl rfl
        obtain ⟨ra, hra⟩ : ∃ r, r = reachF X K (k : Int) := ⟨_, rfl⟩
        obtain ⟨rb, hrb⟩ : ∃ r, r = reachF (zns L) u0 (k : Int) := ⟨_, rfl⟩
        rw [← hra] at REST L2
        rw [← hrb] at REST2 L2
        clear hra hrb
        obtain ⟨na, hna⟩ : ∃ n, n = ra.length := ⟨_, rfl⟩
        obtain ⟨nb2, hnb2⟩ : ∃ n, n = rb.length := ⟨_, rfl⟩
        unfold StOut at REST REST2
        simp only [← hna] at REST
        simp only [← hnb2] at REST2
        have HNA := Lib.hid hna.symm
        have HNB2 := Lib.hid hnb2.symm
        clear hna hnb2
        rcases hcase with rfl | ⟨rfl, rfl⟩ | ⟨rfl, rfl, rfl⟩
        · clear q0 q1 q2 q3 H3
          go_wp2_with fail
          refine (REST.out _ HB6.out).mono ?_
          rintro e w7 ⟨A8, c8, rfl, ho8, hb7⟩
          have hb7 := below_then HB6.out (Nat.le_refl _) hb7
          have HB7 := Lib.hid hb7
          have HO8 := Lib.hid (Rd.of_own ho8)
          clear ho8 hb7
          go_wp2_with fail
          refine (REST2.out _ HB7.out).mono ?_
          rintro e w8 ⟨A9, c9, rfl, ho9, hb8⟩
          have HO88 := Lib.hid (HO8.out.go hb8)
          have hb8 := below_then HB7.out (Nat.le_refl _) hb8
          have HO9 := Lib.hid (Rd.of_own ho9)
          have C1 := refCovers_any D A9 q d nb2 c9 u0 rb w8 HL0.out HNB2.out ((HR20.out.go HB4.out).go hb8) HO9.out
          have HB8 := Lib.hid hb8
          have L2x := L2.out
          unfold cov2 at L2x
          obtain ⟨b1, hb1e⟩ : ∃ b, b = covB (Vc.cnt u0) (Vc.cnt rb) := ⟨_, rfl⟩
          rw [← hb1e] at C1 L2x
          have C1 := Lib.hid C1
          have L2x := Lib.hid L2x
          clear hb8 ho9 hb1e
          go_wp2_with fail
          refine C1.out.mono ?_
          rintro e w9 ⟨rfl, hb9⟩
          have HB9 := Lib.hid (below_then HB8.out (Nat.le_refl _) hb9)
          rcases b1 with _ | _
          · clear hb9
            go_wp2
            go_roundw
            case rel => exact ⟨k + 1, by go_num, by omega, HB9.out⟩
            case measure => simp [intOf]; omega
          · obtain ⟨e1, e2⟩ := L2x.out rfl
            have C2 := refCovers_any A8 A9 na c8 nb2 c9 ra rb w9 HNA.out HNB2.out (HO88.out.go hb9) (HO9.out.go hb9)
            rw [e1] at C2
            have C3 := fun V (hv : Below w9.heap.size w9 V) => refCovers_any B5 A8 m5 d5 na c8 K ra V HL5.out HNA.out ((HR4.out.go HB9.out).go hv) ((HO88.out.go hb9).go hv)
            rw [e2] at C3
            have C2 := Lib.hid C2
            have C3 := Lib.hid C3
            clear hb9 e1 e2
            go_wp2_with fail
            refine C2.out.mono ?_
            rintro e w10 ⟨rfl, hb10⟩
            have HB10 := Lib.hid (below_then HB9.out (Nat.le_refl _) hb10)
            go_wp2_with fail
            refine (C3.out _ hb10).mono ?_
            rintro e w11 ⟨rfl, hb11⟩
            have HB11 := Lib.hid (below_then HB10.out (Nat.le_refl _) hb11)
            clear hb10 hb11
            go_wp2
            go_roundw
            case rel => exact ⟨k + 1, by go_num, by omega, HB11.out⟩
            case measure => simp [intOf]; omega
        · clear q0 q1 q2 q3 H3
          go_wp2_with fail
          refine (REST.out _ HB6.out).mono ?_
          rintro e w7 ⟨A8, c8, rfl, ho8, hb7⟩
          have hb7 := below_then HB6.out (Nat.le_refl _) hb7
          have HB7 := Lib.hid hb7
          have HO8 := Lib.hid (Rd.of_own ho8)
          clear ho8 hb7
          go_wp2_with fail
          refine (REST2.out _ HB7.out).mono ?_
          rintro e w8 ⟨A9, c9, rfl, ho9, hb8⟩
          have HO88 := Lib.hid (HO8.out.go hb8)
          have hb8 := below_then HB7.out (Nat.le_refl _) hb8
          have HO9 := Lib.hid (Rd.of_own ho9)
          have C1 := refCovers_any D A9 q d nb2 c9 u0 rb w8 HL0.out HNB2.out ((HR20.out.go HB4.out).go hb8) HO9.out
          have HB8 := Lib.hid hb8
          have L2x := L2.out
          unfold cov2 at L2x
          obtain ⟨b1, hb1e⟩ : ∃ b, b = covB (Vc.cnt u0) (Vc.cnt rb) := ⟨_, rfl⟩
          rw [← hb1e] at C1 L2x
          have C1 := Lib.hid C1
          have L2x := Lib.hid L2x
          clear hb8 ho9 hb1e
          go_wp2_with fail
          refine C1.out.mono ?_
          rintro e w9 ⟨rfl, hb9⟩
          have HB9 := Lib.hid (below_then HB8.out (Nat.le_refl _) hb9)
          rcases b1 with _ | _
          · clear hb9
            go_wp2
            go_roundw
            case rel => exact ⟨k + 1, by go_num, by omega, HB9.out⟩
            case measure => simp [intOf]; omega
          · obtain ⟨e1, e2⟩ := L2x.out rfl
            have C2 := refCovers_any A8 A9 na c8 nb2 c9 ra rb w9 HNA.out HNB2.out (HO88.out.go hb9) (HO9.out.go hb9)
            rw [e1] at C2
            have C3 := fun V (hv : Below w9.heap.size w9 V) => refCovers_any B5 A8 m5 d5 na c8 K ra V HL5.out HNA.out ((HR4.out.go HB9.out).go hv) ((HO88.out.go hb9).go hv)
            rw [e2] at C3
            have C2 := Lib.hid C2
            have C3 := Lib.hid C3
            clear hb9 e1 e2
            go_wp2_with fail
            refine C2.out.mono ?_
            rintro e w10 ⟨rfl, hb10⟩
            have HB10 := Lib.hid (below_then HB9.out (Nat.le_refl _) hb10)
            go_wp2_with fail
            refine (C3.out _ hb10).mono ?_
            rintro e w11 ⟨rfl, hb11⟩
            have HB11 := Lib.hid (below_then HB10.out (Nat.le_refl _) hb11)
            clear hb10 hb11
            go_wp2
            go_roundw
            case rel => exact ⟨k + 1, by go_num, by omega, HB11.out⟩
            case measure => simp [intOf]; omega
        · go_wp2_with fail
          refine H3.out.mono ?_
          rintro e w6' ⟨rfl, hb6'⟩
          have HB6 := Lib.hid (below_then HB6.out (Nat.le_refl _) hb6')
          clear q0 q1 q2 q3 hb6'
          go_wp2_with fail
          refine (REST.out _ HB6.out).mono ?_
          rintro e w7 ⟨A8, c8, rfl, ho8, hb7⟩
          have hb7 := below_then HB6.out (Nat.le_refl _) hb7
          have HB7 := Lib.hid hb7
          have HO8 := Lib.hid (Rd.of_own ho8)
          clear ho8 hb7
          go_wp2_with fail
          refine (REST2.out _ HB7.out).mono ?_
          rintro e w8 ⟨A9, c9, rfl, ho9, hb8⟩
          have HO88 := Lib.hid (HO8.out.go hb8)
          have hb8 := below_then HB7.out (Nat.le_refl _) hb8
          have HO9 := Lib.hid (Rd.of_own ho9)
          have C1 := refCovers_any D A9 q d nb2 c9 u0 rb w8 HL0.out HNB2.out ((HR20.out.go HB4.out).go hb8) HO9.out
          have HB8 := Lib.hid hb8
          have L2x := L2.out
          unfold cov2 at L2x
          obtain ⟨b1, hb1e⟩ : ∃ b, b = covB (Vc.cnt u0) (Vc.cnt rb) := ⟨_, rfl⟩
          rw [← hb1e] at C1 L2x
          have C1 := Lib.hid C1
          have L2x := Lib.hid L2x
          clear hb8 ho9 hb1e
          go_wp2_with fail
          refine C1.out.mono ?_
          rintro e w9 ⟨rfl, hb9⟩
          have HB9 := Lib.hid (below_then HB8.out (Nat.le_refl _) hb9)
          rcases b1 with _ | _
          · clear hb9
            go_wp2
            go_roundw
            case rel => exact ⟨k + 1, by go_num, by omega, HB9.out⟩
            case measure => simp [intOf]; omega
          · obtain ⟨e1, e2⟩ := L2x.out rfl
            have C2 := refCovers_any A8 A9 na c8 nb2 c9 ra rb w9 HNA.out HNB2.out (HO88.out.go hb9) (HO9.out.go hb9)
            rw [e1] at C2
            have C3 := fun V (hv : Below w9.heap.size w9 V) => refCovers_any B5 A8 m5 d5 na c8 K ra V HL5.out HNA.out ((HR4.out.go HB9.out).go hv) ((HO88.out.go hb9).go hv)
            rw [e2] at C3
            have C2 := Lib.hid C2
            have C3 := Lib.hid C3
            clear hb9 e1 e2
            go_wp2_with fail
            refine C2.out.mono ?_
            rintro e w10 ⟨rfl, hb10⟩
            have HB10 := Lib.hid (below_then HB9.out (Nat.le_refl _) hb10)
            go_wp2_with fail
            refine (C3.out _ hb10).mono ?_
            rintro e w11 ⟨rfl, hb11⟩
            have HB11 := Lib.hid (below_then HB10.out (Nat.le_refl _) hb11)
            clear hb10 hb11
            go_wp2
            go_roundw
            case rel => exact ⟨k + 1, by go_num, by omega, HB11.out⟩
            case measure => simp [intOf]; omega
      · obtain rfl : k = 256 := by omega
        have HF := Lib.hid (below_then HB0.out (Nat.le_refl _) (below_then HB4.out (Nat.le_refl _) hb))
        clear hb
        go_wp2
        go_ret
        exact ⟨rfl, HF.out⟩
  · obtain ⟨z1, z2⟩ := tkZ_no hE
    rw [z1, z2] at T1
    obtain ⟨E, hEE⟩ : ∃ E, E = tkE (zns L) u0 x := ⟨_, rfl⟩
    rw [← hEE] at T1 hE
    have T1 := Lib.hid T1
    have hne : (E != 0) = true := by simpa using hE
    clear z1 z2 hEE hE hX hW0 hb0 hT hR hl hR2 hN
    go_enter Tryd.func5, Tryd.ntmps5
    go_wp2_with fail
    rw [HW.out]
    refine HA.out.mono ?_
    rintro e w1 ⟨rfl, hb1⟩
    obtain ⟨q0, q1, q2, q3⟩ := (HX.out.go hb1).four4
    go_wp2_with fail
    refine (T1.out _ hb1).mono ?_
    rintro e w2 ⟨A5, k5, c5, M5, B5, m5, d5, rfl, hz5, hm5, hl5, hr5, hb2⟩
    obtain rfl : M5 = [] := by
      have := congrArg List.length hm5
      rw [zns_len] at this
      exact List.eq_nil_of_length_eq_zero this
    obtain rfl : k5 = 0 := hz5.len.symm
    have HB := Lib.hid (below_then HB0.out (Nat.le_refl _) (below_then hb1 (Nat.le_refl _) hb2))
    clear hz5 hm5 hl5 hr5 hb1 hb2 q0 q1 q2 q3
    go_wp2
    go_ret
    exact ⟨rfl, HB.out⟩
end Go.Proofs.YticnfjfdeagmaaaDoor
