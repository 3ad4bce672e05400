/- The laws' fixed fact; walks of the laws TrustSinces, TrustForms. -/
import Derived.Test.YticnfjfdeagmaaaDoorTwM
import Derived.Test.YticnfjfdeagmaaaDoorTwH
import Derived.Test.YticnfjfdeagmaaaDoorSpB
namespace Go.Proofs.YticnfjfdeagmaaaDoor
open Go.RowKit
set_option maxRecDepth 100000

def ntAl : Nt := ⟨[], [(1, 0)], [(3, 5)], []⟩
theorem al_E : tkE [] [] ntAl = 0 := by decide +kernel
theorem al_Z : tkZ' [] [] ntAl = [((3, 5), [])] := by decide +kernel
theorem al_K : tkK [] [] ntAl = [(1, 0)] := by decide +kernel

set_option maxHeartbeats 4000000 in
theorem aliveT_any (w : World) (hT : Tab w) : Calls Tryd.prog 8 #[] w fun e w' => e = .returned (.bool true) ∧ Below w.heap.size w w' := by
  have h1max : 1 ≤ maxLen := by unfold maxLen; omega
  have hbA : Below w.heap.size w (w.alloc (.cells #[.int .i64 1, .int .i64 0] 51)) := (Below.refl _ _).alloc (Nat.le_refl _) _
  have hbB := then_alloc hbA (.cells #[.int .i64 3, .int .i64 5] 53)
  have r1 := Rd.new w 51 2 1 #[.int .i64 1, .int .i64 0] rfl h1max
  have r2 := Rd.new (w.alloc (.cells #[.int .i64 1, .int .i64 0] 51)) 53 2 1 #[.int .i64 3, .int .i64 5] rfl h1max
  have hs1 : (w.alloc (.cells #[.int .i64 1, .int .i64 0] 51)).heap.size = w.heap.size + 1 := by simp
  rw [← hs1] at r1
  have r1 := r1.go hbB
  simp only [World.size_alloc] at r2
  have hb2 := below_then hbA (Nat.le_refl _) hbB
  obtain ⟨W2, hW2⟩ : ∃ W2, W2 = (w.alloc (.cells #[.int .i64 1, .int .i64 0] 51)).alloc (.cells #[.int .i64 3, .int .i64 5] 53) := ⟨_, rfl⟩
  have hs2 : W2.heap.size = w.heap.size + 1 + 1 := by rw [hW2]; simp
  rw [← hW2] at r1 r2 hb2
  rw [← hs2] at r2
  have hN : NtRd W2 W2.heap.size ⟨none, 0, 0, some ⟨w.heap.size, 0, none⟩, 1, 1, some ⟨w.heap.size + 1, 0, none⟩, 1, 1, none, 0, 0⟩ ntAl := ⟨rfl, Rd.none_, rfl, r1, rfl, r2, rfl, Rd.none_⟩
  have T := take_any none none 0 0 0 0 [] [] ⟨none, 0, 0, some ⟨w.heap.size, 0, none⟩, 1, 1, some ⟨w.heap.size + 1, 0, none⟩, 1, 1, none, 0, 0⟩ ntAl W2 (hT.below hb2) (RdZ.none_ _ _) rfl Rd.none_ hN
  rw [show zns [] = [] from rfl, al_E, al_Z, al_K] at T
  simp only [NV.val] at T
  have T := Lib.hid T
  have HW := Lib.hid hW2.symm
  have HB := Lib.hid hb2
  clear hbA hbB r1 r2 hs1 hb2 hW2 hN hT hs2
  go_enter Tryd.func8, Tryd.ntmps8
  go_wp2_with fail
  rw [HW.out]
  refine T.out.mono ?_
  rintro e w3 ⟨A', k', c', M, B', m', d', rfl, hz, hm, hl, _, hb3⟩
  obtain rfl : m' = 1 := hl.symm
  obtain ⟨p, rfl⟩ : ∃ p, M = [p] := by
    have := congrArg List.length hm
    rw [zns_len] at this
    exact List.length_eq_one_iff.1 this
  obtain rfl : k' = 1 := hz.len.symm
  obtain ⟨b, o, rfl, _, g0, g1, g2⟩ := hz.zone (k := 0) (by simp)
  have hv := (hz.each p (List.mem_singleton.2 rfl)).1
  have hp : p.2 = ((3, 5), []) := by simpa [zns] using hm
  simp only [List.getElem_cons_zero, Nat.zero_mul, Nat.add_zero, hp] at g0 g1 g2
  rw [hp] at hv
  have hv : p.1.n = 0 := hv.symm
  rw [hv] at g2
  have HB3 := Lib.hid (below_then HB.out (Nat.le_refl _) hb3)
  clear hz hm hl hb3 hv hp T
  go_wp2
  go_ret
  exact ⟨rfl, HB3.out⟩

set_option maxHeartbeats 4000000 in
theorem trustSinces_walk (A D E : Option Addr) (n c m d q s : Nat) (L : List (ZV × Zn)) (u0 : List Vc.St) (sp : List Sn.Sp) (w : World) (hT : Tab w) (hR : RdZ w w.heap.size A n c L) (hl : u0.length = m) (hR2 : Rd w w.heap.size 2 D m d (sv u0))
    (hl3 : sp.length = q) (hR3 : Rd w w.heap.size 2 E q s (sv sp)) (hq : q ≤ 8796093022208) :
    Calls Tryd.prog 6 #[.slice A n c, .slice D m d, .slice E q s] w fun e w' => e = .returned (.bool true) ∧ Below w.heap.size w w' := by
  have G1 := Lib.hid fun (V : World) (hb : Below w.heap.size w V) => zonesSince_any A D E n c m d q s L u0 sp V (hT.below hb) (hR.go hb) hl (hR2.go hb) hl3 (hR3.go hb) hq
  have G2 := Lib.hid fun (V : World) (hb : Below w.heap.size w V) => refZonesSince_any A D E n c m d q s L u0 sp V (hR.go hb) hl (hR2.go hb) hl3 (hR3.go hb)
  have HE := Lib.hid (show sinceG (zns L) u0 sp = sinceF (zns L) u0 sp from rfl)
  have HA := Lib.hid (aliveT_any w hT)
  clear hR hR2 hR3 hl hl3 hT
  go_enter Tryd.func6, Tryd.ntmps6
  go_wp2_with fail
  refine HA.out.mono ?_
  rintro e w1 ⟨rfl, hb1⟩
  go_wp2_with fail
  refine (G1.out _ hb1).mono ?_
  rintro e w2 hout
  obtain ⟨u, hu⟩ : ∃ u, u = sinceF (zns L) u0 sp := ⟨_, rfl⟩
  rw [← hu] at hout
  obtain ⟨nu, hnu⟩ : ∃ nu, nu = u.length := ⟨_, rfl⟩
  obtain ⟨A2, c2, rfl, ho2, hb2⟩ := hout
  rw [← hnu] at ho2 ⊢
  have hb2w := below_then hb1 (Nat.le_refl _) hb2
  have HU := Lib.hid hu
  have HNU := Lib.hid hnu.symm
  have HO := Lib.hid (Rd.of_own ho2)
  clear hu hnu ho2 hb1 hb2
  go_wp2_with fail
  refine (G2.out _ hb2w).mono ?_
  rintro e w3 hout
  rw [HE.out, ← HU.out] at hout
  obtain ⟨A3, c3, rfl, ho3, hb3⟩ := hout
  rw [HNU.out] at ho3 ⊢
  have HB3 := Lib.hid (below_then hb2w (Nat.le_refl _) hb3)
  have S := same_any A2 A3 nu c2 nu c3 u u w3 HNU.out HNU.out (HO.out.go hb3) (Rd.of_own ho3)
  rw [decide_eq_true rfl] at S
  have S := Lib.hid S
  clear hb3 ho3 hb2w
  go_wp2_with fail
  refine S.out.mono ?_
  rintro e w4 ⟨rfl, hb4⟩
  go_wp2
  go_ret
  exact ⟨rfl, below_then HB3.out (Nat.le_refl _) hb4⟩

set_option maxHeartbeats 8000000 in
theorem trustForms_walk (A D : Option Addr) (n c m d : Nat) (L : List (ZV × Zn)) (u0 : List Vc.St) (o : Int) (w : World) (hT : Tab w) (hR : RdZ w w.heap.size A n c L) (hz : ZnSz n L) (hl : u0.length = m) (hR2 : Rd w w.heap.size 2 D m d (sv u0)) :
    Calls Tryd.prog 4 #[.slice A n c, .slice D m d, .int .i64 o] w fun e w' => e = .returned (.bool true) ∧ Below w.heap.size w w' := by
  have HR := Lib.hid hR
  have HR2 := Lib.hid hR2
  have HL := Lib.hid hl
  have HA := Lib.hid (aliveT_any w hT)
  have C := Lib.hid fun (V : World) (hb : Below w.heap.size w V) => refZonesCopy_any A n c L V (hR.go hb) hz
  clear hR hR2 hl hT
  go_enter Tryd.func4, Tryd.ntmps4
  go_wp2_with fail
  refine HA.out.mono ?_
  rintro e w1 ⟨rfl, hb1⟩
  go_wp2_with fail
  refine (C.out _ hb1).mono ?_
  rintro e w2 ⟨A', c', M, rfl, ho, hM, hb2⟩
  have hb2w := below_then hb1 (Nat.le_refl _) hb2
  have HM := Lib.hid hM
  have HO := Lib.hid ho.rd
  have G1 := zonesFormed_any A' n c' M w2 ho.rd
  rw [hM] at G1
  obtain ⟨z, hz⟩ : ∃ z, z = zF (-1) none (zns L) := ⟨_, rfl⟩
  rw [← hz] at G1
  have G1 := Lib.hid G1
  have HZ := Lib.hid hz
  clear hM hz ho hb1 hb2
  go_wp2_with fail
  refine G1.out.mono ?_
  rintro e w3 ⟨rfl, hb3⟩
  have hb3w := below_then hb2w (Nat.le_refl _) hb3
  have G2 := refZonesFormed_any A n c L w3 (HR.out.go hb3w)
  rw [← HZ.out] at G2
  have G2 := Lib.hid G2
  have HO3 := Lib.hid (HO.out.go hb3)
  have HB3 := Lib.hid hb3w
  clear hb3 hb3w hb2w
  go_wp2_with fail
  refine G2.out.mono ?_
  rintro e w4 ⟨rfl, hb4⟩
  have hb4w := below_then HB3.out (Nat.le_refl _) hb4
  have HO4 := Lib.hid (HO3.out.go hb4)
  have B1 := zonesBlurred_any A' n c' M w4 HO4.out
  rw [HM.out] at B1
  have B1 := Lib.hid B1
  have HB4 := Lib.hid hb4w
  have heq : (z == z) = true := by simp
  clear hb4 hb4w
  go_wp2_with fail
  refine B1.out.mono ?_
  rintro e w5 hout
  obtain ⟨u, hu⟩ : ∃ u, u = blurF (zns L) := ⟨_, rfl⟩
  rw [← hu] at hout
  obtain ⟨nu, hnu⟩ : ∃ nu, nu = u.length := ⟨_, rfl⟩
  obtain ⟨A5, c5, rfl, ho5, hb5⟩ := hout
  rw [← hnu] at ho5 ⊢
  have hb5w := below_then HB4.out (Nat.le_refl _) hb5
  have B2 := Lib.hid (refZonesBlurred_any A n c L w5 (HR.out.go hb5w))
  have HU := Lib.hid hu
  have HNU := Lib.hid hnu.symm
  have HO5 := Lib.hid (HO4.out.go hb5)
  have HX5 := Lib.hid (Rd.of_own ho5)
  have HB5 := Lib.hid hb5w
  clear hu hnu ho5 hb5 hb5w
  go_wp2_with fail
  refine B2.out.mono ?_
  rintro e w6 hout
  rw [← HU.out] at hout
  obtain ⟨A6, c6, rfl, ho6, hb6⟩ := hout
  rw [HNU.out] at ho6 ⊢
  have S := sameS_any A5 A6 nu c5 nu c6 u u w6 HNU.out HNU.out (HX5.out.go hb6) (Rd.of_own ho6)
  rw [decide_eq_true rfl] at S
  have S := Lib.hid S
  have HO6 := Lib.hid (HO5.out.go hb6)
  have HB6 := Lib.hid (below_then HB5.out (Nat.le_refl _) hb6)
  clear ho6 hb6
  go_wp2_with fail
  refine S.out.mono ?_
  rintro e w7 ⟨rfl, hb7⟩
  have HO7 := Lib.hid (HO6.out.go hb7)
  have HB7 := Lib.hid (below_then HB6.out (Nat.le_refl _) hb7)
  have R1 := zonesReach_any A' D n c' m d M u0 o w7 HO7.out HL.out (HR2.out.go HB7.out)
  rw [HM.out] at R1
  have R1 := Lib.hid R1
  clear hb7
  go_wp2_with fail
  refine R1.out.mono ?_
  rintro e w8 hout
  obtain ⟨r, hr⟩ : ∃ r, r = reachF (zns L) u0 o := ⟨_, rfl⟩
  rw [← hr] at hout
  obtain ⟨nr, hnr⟩ : ∃ nr, nr = r.length := ⟨_, rfl⟩
  obtain ⟨A8, c8, rfl, ho8, hb8⟩ := hout
  rw [← hnr] at ho8 ⊢
  have hb8w := below_then HB7.out (Nat.le_refl _) hb8
  have R2 := Lib.hid (refZonesReach_any A D n c m d L u0 o w8 (HR.out.go hb8w) HL.out (HR2.out.go hb8w))
  have HRR := Lib.hid hr
  have HNR := Lib.hid hnr.symm
  have HO8 := Lib.hid (HO7.out.go hb8)
  have HX8 := Lib.hid (Rd.of_own ho8)
  have HB8 := Lib.hid hb8w
  clear hr hnr ho8 hb8 hb8w
  go_wp2_with fail
  refine R2.out.mono ?_
  rintro e w9 hout
  rw [← HRR.out] at hout
  obtain ⟨A9, c9, rfl, ho9, hb9⟩ := hout
  rw [HNR.out] at ho9 ⊢
  have S9 := same_any A8 A9 nr c8 nr c9 r r w9 HNR.out HNR.out (HX8.out.go hb9) (Rd.of_own ho9)
  rw [decide_eq_true rfl] at S9
  have S9 := Lib.hid S9
  have HO9 := Lib.hid (HO8.out.go hb9)
  have HB9 := Lib.hid (below_then HB8.out (Nat.le_refl _) hb9)
  clear ho9 hb9
  go_wp2_with fail
  refine S9.out.mono ?_
  rintro e w10 ⟨rfl, hb10⟩
  have HB10 := Lib.hid (below_then HB9.out (Nat.le_refl _) hb10)
  have Z := refZonesSame_q A' A n c' n c M L w10 (HO9.out.go hb10) (HR.out.go HB10.out)
  rw [HM.out, decide_eq_true rfl] at Z
  have Z := Lib.hid Z
  clear hb10
  go_wp2_with fail
  refine Z.out.mono ?_
  rintro e w11 ⟨rfl, q11, rfl⟩
  go_wp2
  go_ret
  exact ⟨rfl, below_drewN HB10.out _⟩
end Go.Proofs.YticnfjfdeagmaaaDoor
