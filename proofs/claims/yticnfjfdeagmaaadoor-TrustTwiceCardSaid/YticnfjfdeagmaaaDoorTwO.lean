/- Walk of the law TrustTwice. -/
import Derived.Test.YticnfjfdeagmaaaDoorMTwN
namespace Go.Proofs.YticnfjfdeagmaaaDoor
open Go.RowKit
set_option maxRecDepth 100000

set_option maxHeartbeats 8000000 in
theorem trustTwice_walk (A D : Option Addr) (n c q d : Nat) (L : List (ZV × Zn)) (u0 : List Vc.St) (v : NV) (x : Nt) (w : World) (hT : Tab w) (hR : RdZ w w.heap.size A n c L) (hl : u0.length = q) (hR2 : Rd w w.heap.size 2 D q d (sv u0)) (hN : NtRd w w.heap.size v x) :
    Calls Tryd.prog 3 #[.slice A n c, .slice D q d, .agg v.val] w fun e w' => e = .returned (.bool true) ∧ Below w.heap.size w w' := by
  obtain ⟨A1, n1, c1, A2, n2, c2, A3, n3, c3, A4, n4, c4⟩ := v
  have hb0 : Below w.heap.size w (w.alloc (.cells #[.slice A1 n1 c1, .slice A2 n2 c2, .slice A3 n3 c3, .slice A4 n4 c4] 27)) := (Below.refl _ _).alloc (Nat.le_refl _) _
  have hX := Blk.new w 27 #[.slice A1 n1 c1, .slice A2 n2 c2, .slice A3 n3 c3, .slice A4 n4 c4]
  obtain ⟨W0, hW0⟩ : ∃ W0, W0 = w.alloc (.cells #[.slice A1 n1 c1, .slice A2 n2 c2, .slice A3 n3 c3, .slice A4 n4 c4] 27) := ⟨_, rfl⟩
  rw [← hW0] at hb0 hX
  have HA := Lib.hid (aliveT_any W0 (hT.below hb0))
  have T1 := fun (V : World) (hb : Below W0.heap.size W0 V) => take_any A D n c q d L u0 ⟨A1, n1, c1, A2, n2, c2, A3, n3, c3, A4, n4, c4⟩ x V ((hT.below hb0).below hb) ((hR.go hb0).go hb) hl ((hR2.go hb0).go hb) ((hN.go hb0).go hb)
  simp only [NV.val] at T1 ⊢
  have HX := Lib.hid hX
  have HW := Lib.hid hW0.symm
  have HB0 := Lib.hid hb0
  have HT0 := Lib.hid (hT.below hb0)
  have HN0 := Lib.hid (hN.go hb0)
  by_cases hE : tkE (zns L) u0 x = 0
  · obtain ⟨f1, f2, f3, f4⟩ := tkE_zero hE
    obtain ⟨z1, z2⟩ := tkZ_zero hE
    rw [hE, z1, z2] at T1
    have hX1 := tkZ_fm f1 f2 x
    have hK1 : fm (-1) (nowOf u0 x) = true := formed_vec _
    have hE2 := tkE_is hX1 hK1 f3 (fits_now f4)
    obtain ⟨y1, y2⟩ := tkZ_zero hE2
    rw [take_twice f1 f2] at y1
    rw [now_now] at y2
    have hE3 := tkE_is hX1 hK1 (ntE_fm hK1) (ntE_fits (nowOf u0 x))
    obtain ⟨r1, r2⟩ := tkZ_zero hE3
    rw [take_none f1 f2] at r1
    rw [nowE hK1] at r2
    obtain ⟨X, hXX⟩ : ∃ X, X = tkZ (zns L) u0 x := ⟨_, rfl⟩
    obtain ⟨K, hKK⟩ : ∃ K, K = nowOf u0 x := ⟨_, rfl⟩
    rw [← hXX, ← hKK] at T1 hE2 hE3 y1 y2 r1 r2
    have T1 := Lib.hid T1
    have HE2 := Lib.hid (And.intro hE2 (And.intro y1 y2))
    have HE3 := Lib.hid (And.intro hE3 (And.intro r1 r2))
    clear hE f1 f2 f3 f4 z1 z2 hX1 hK1 hE2 hE3 y1 y2 r1 r2 hXX hKK hX hW0 hb0 hT hR hl hR2 hN
    go_enter Tryd.func3, Tryd.ntmps3
    go_wp2_with fail
    rw [HW.out]
    refine HA.out.mono ?_
    rintro e w1 ⟨rfl, hb1⟩
    obtain ⟨q0, q1, q2, q3⟩ := (HX.out.go hb1).four4
    go_wp2_with fail
    refine (T1.out _ hb1).mono ?_
    rintro e w2 ⟨A5, k5, c5, M5, B5, m5, d5, rfl, hz5, hm5, hl5, hr5, hb2⟩
    have hb02 := below_then hb1 (Nat.le_refl _) hb2
    clear q0 q1 q2 q3
    obtain ⟨q0, q1, q2, q3⟩ := (HX.out.go hb02).four4
    have T2 := take_any A5 B5 k5 c5 m5 d5 M5 K ⟨A1, n1, c1, A2, n2, c2, A3, n3, c3, A4, n4, c4⟩ x w2 (HT0.out.below hb02) hz5 hl5 hr5 (HN0.out.go hb02)
    rw [hm5, HE2.out.1, HE2.out.2.1, HE2.out.2.2] at T2
    simp only [NV.val] at T2
    have T2 := Lib.hid T2
    have HZ5 := Lib.hid hz5
    have HM5 := Lib.hid hm5
    have HL5 := Lib.hid hl5
    have HR5 := Lib.hid hr5
    have HB2 := Lib.hid hb02
    clear hz5 hm5 hl5 hr5 hb1 hb2 hb02 T1
    go_wp2_with fail
    refine T2.out.mono ?_
    rintro e w3 ⟨A6, k6, c6, M6, B6, m6, d6, rfl, hz6, hm6, hl6, hr6, hb3⟩
    have hb03 := below_then HB2.out (Nat.le_refl _) hb3
    have T3 := take_any A6 B6 k6 c6 m6 d6 M6 K ⟨B5, m5, d5, B5, m5, d5, none, 0, 0, none, 0, 0⟩ (ntE K) w3 (HT0.out.below hb03) hz6 hl6 hr6 ⟨HL5.out, HR5.out.go hb3, HL5.out, HR5.out.go hb3, rfl, Rd.none_, rfl, Rd.none_⟩
    rw [hm6, HE3.out.1, HE3.out.2.1, HE3.out.2.2] at T3
    simp only [NV.val] at T3
    have T3 := Lib.hid T3
    have HZ6 := Lib.hid hz6
    have HM6 := Lib.hid hm6
    have HL6 := Lib.hid hl6
    have HR6 := Lib.hid hr6
    have HZ56 := Lib.hid (HZ5.out.go hb3)
    have HR56 := Lib.hid (HR5.out.go hb3)
    have HB3 := Lib.hid hb03
    clear hz6 hm6 hl6 hr6 hb3 hb03 T2 q0 q1 q2 q3 HZ5 HR5
    go_wp2_with fail
    refine T3.out.mono ?_
    rintro e w4 ⟨A7, k7, c7, M7, B7, m7, d7, rfl, hz7, hm7, hl7, hr7, hb4⟩
    have hb04 := below_then HB3.out (Nat.le_refl _) hb4
    have S1 := refZonesSame_q A5 A6 k5 c5 k6 c6 M5 M6 w4 (HZ56.out.go hb4) (HZ6.out.go hb4)
    rw [HM5.out, HM6.out, decide_eq_true rfl] at S1
    have S1 := Lib.hid S1
    have S2 := fun m => same_q B5 B6 m5 d5 m6 d6 K K (w4.drewN m) HL5.out HL6.out ((HR56.out.go hb4).drewN m) ((HR6.out.go hb4).drewN m)
    have S3 := fun m => refZonesSame_q A5 A7 k5 c5 k7 c7 M5 M7 (w4.drewN m) ((HZ56.out.go hb4).go (below_drewN (Below.refl _ _) m)) (hz7.go (below_drewN (Below.refl _ _) m))
    have S4 := fun m => same_q B5 B7 m5 d5 m7 d7 K K (w4.drewN m) HL5.out hl7 ((HR56.out.go hb4).drewN m) (hr7.drewN m)
    simp only [decide_true] at S2 S4
    simp only [HM5.out, hm7, decide_true] at S3
    have S2 := Lib.hid S2
    have S3 := Lib.hid S3
    have S4 := Lib.hid S4
    have HB4 := Lib.hid hb04
    clear hz7 hm7 hl7 hr7 hb4 hb04 T3
    go_wp2_with fail
    refine S1.out.mono ?_
    rintro e w5 ⟨rfl, p1, rfl⟩
    go_wp2_with fail
    refine (S2.out _).mono ?_
    rintro e w6 ⟨rfl, p2, rfl⟩
    rw [World.drewN_drewN]
    go_wp2_with fail
    refine (S3.out _).mono ?_
    rintro e w7 ⟨rfl, p3, rfl⟩
    rw [World.drewN_drewN]
    go_wp2_with fail
    refine (S4.out _).mono ?_
    rintro e w8 ⟨rfl, p4, rfl⟩
    rw [World.drewN_drewN]
    go_wp2
    go_ret
    exact ⟨rfl, below_drewN (below_then HB0.out (Nat.le_refl _) HB4.out) _⟩
  · obtain ⟨z1, z2⟩ := tkZ_no hE
    rw [z1, z2] at T1
    obtain ⟨E, hEE⟩ : ∃ E, E = tkE (zns L) u0 x := ⟨_, rfl⟩
    rw [← hEE] at T1 hE
    have T1 := Lib.hid T1
    have hne : (E != 0) = true := by simpa using hE
    clear z1 z2 hEE hE hX hW0 hb0 hT hR hl hR2 hN
    go_enter Tryd.func3, Tryd.ntmps3
    go_wp2_with fail
    rw [HW.out]
    refine HA.out.mono ?_
    rintro e w1 ⟨rfl, hb1⟩
    obtain ⟨q0, q1, q2, q3⟩ := (HX.out.go hb1).four4
    go_wp2_with fail
    refine (T1.out _ hb1).mono ?_
    rintro e w2 ⟨A5, k5, c5, M5, B5, m5, d5, rfl, hz5, hm5, hl5, hr5, hb2⟩
    obtain rfl : M5 = [] := by
      have := congrArg List.length hm5
      rw [zns_len] at this
      exact List.eq_nil_of_length_eq_zero this
    obtain rfl : k5 = 0 := hz5.len.symm
    obtain rfl : m5 = 0 := hl5.symm
    have HB := Lib.hid (below_then HB0.out (Nat.le_refl _) (below_then hb1 (Nat.le_refl _) hb2))
    clear hz5 hm5 hl5 hr5 hb1 hb2 q0 q1 q2 q3
    go_wp2
    go_ret
    exact ⟨rfl, HB.out⟩
end Go.Proofs.YticnfjfdeagmaaaDoor
