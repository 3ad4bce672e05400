/- Walks over trust.Formed and the document's Formed of zones. -/
import Derived.Test.YtepdcbhapjgijaaDoorTwA
import Derived.Test.YtepdcbhapjgijaaDoorMVec
namespace Go.Proofs.YtepdcbhapjgijaaDoor
open Go.RowKit
set_option maxRecDepth 100000

theorem Blk.three {w : World} {g : Nat} {t : TypeId} {a b c : Value} (h : Blk w g t #[a, b, c]) : w.cell? ⟨g, 0, none⟩ = some a ∧ w.cell? ⟨g, 1, none⟩ = some b ∧ w.cell? ⟨g, 2, none⟩ = some c := ⟨h.cell 0, h.cell 1, h.cell 2⟩

set_option maxHeartbeats 8000000 in
theorem zonesFormed_any (A : Option Addr) (n c : Nat) (L : List (ZV × Zn)) (w : World) (hR : RdZ w w.heap.size A n c L) :
    Calls Tryd.prog 19 #[.slice A n c] w fun e w' => e = .returned (.bool (zF (-1) none (zns L))) ∧ Below w.heap.size w w' := by
  have hmax := hR.max
  have hln := hR.len
  have HL := Lib.hid hln
  have HR := Lib.hid hR
  have HD := Lib.hid fun e p k h => zF_drop e p (zns L) k h
  have HE := Lib.hid fun e p k h => zF_end e p (zns L) k h
  clear hR hln
  go_enter Tryd.func19, Tryd.ntmps19
  go_wp2
  go_loopw [3, 8] (fun v3 v8 wr => ∃ (k : Nat), k ≤ n ∧ v8 = .int .i64 k ∧ v3 = .int .i64 (aheadE (zns L) k) ∧ (-1 ≤ aheadE (zns L) k ∧ aheadE (zns L) k ≤ 255) ∧ Below w.heap.size w wr ∧ Hid (zF (-1) none (zns L) = zF (aheadE (zns L) k) (aheadP (zns L) k) ((zns L).drop k))) (fun _ v8 _ => n - (intOf v8).toNat)
  case atStart => exact ⟨0, by omega, rfl, by rw [aheadE_zero], by rw [aheadE_zero]; omega, Below.refl _ _, by rw [aheadE_zero, aheadP_zero]; rfl⟩
  case round =>
    obtain ⟨k, hk, rfl, rfl, hre, hb, hr⟩ := hrel
    have hbs := hb.size
    by_cases hlt : k < n
    · have hkL : k < L.length := by rw [HL.out]; exact hlt
      have hkZ : k < (zns L).length := by rw [zns_len]; exact hkL
      obtain ⟨b, o, rfl, hab, g0, g1, g2⟩ := (HR.out.below hb).zone hkL
      obtain ⟨hvl, hRv⟩ := HR.out.each _ (List.getElem_mem hkL)
      have hd := hr.out.trans (HD.out _ _ k hkZ)
      have he1 := aheadE_next (zns L) k hkZ
      have hp1 := aheadP_next (zns L) k hkZ
      rw [zns_at L k hkL] at hd he1 hp1
      obtain ⟨p, hp⟩ : ∃ p, p = aheadP (zns L) k := ⟨_, rfl⟩
      have HP := Lib.hid hp
      rw [← hp] at hd
      obtain ⟨e, he⟩ : ∃ e, e = aheadE (zns L) k := ⟨_, rfl⟩
      have HEE := Lib.hid he
      rw [← he] at hd hre ⊢
      generalize hq : L[k] = q at g0 g1 g2 hvl hRv hd he1 hp1
      have HQ := Lib.hid hq
      obtain ⟨⟨Av, nv, cv⟩, ⟨lo, hi⟩, u⟩ := q
      dsimp only at g0 g1 g2 hvl hRv hd he1 hp1
      have hst : zStep e p ((lo, hi), u) = ((decide (e < lo) && (decide (lo ≤ hi) && decide (hi ≤ 255))) && (fm (-1) u && !(decide (p = some u) && decide (lo = e + 1)))) := rfl
      have hb1 := hb.alloc hbs (.cells #[.int .i64 lo, .int .i64 hi, .slice Av nv cv] 62)
      have hX := Blk.new wr 62 #[.int .i64 lo, .int .i64 hi, .slice Av nv cv]
      have F := formed_any Av nv cv u _ hvl ((hRv.below hb1).more hb1.size)
      have HB := Lib.hid hb1
      have HX := Lib.hid hX
      have HE1 := Lib.hid he1
      have HP1 := Lib.hid hp1
      have HVL := Lib.hid hvl
      have HRV := Lib.hid hRv
      have HST := Lib.hid hst
      have HDD := Lib.hid hd
      clear hd hst he1 hp1 hvl hRv hp he hq hX hr hb hab
      by_cases c1 : lo ≤ e
      · have HN := Lib.hid (show zF (-1) none (zns L) = false by rw [HDD.out, HST.out]; simp [show ¬ e < lo by omega])
        go_wp2
        go_ret
        exact ⟨by rw [HN.out]; rfl, HB.out⟩
      · by_cases c2 : lo > hi
        · have HN := Lib.hid (show zF (-1) none (zns L) = false by rw [HDD.out, HST.out]; simp [show ¬ lo ≤ hi by omega])
          go_wp2
          go_ret
          exact ⟨by rw [HN.out]; rfl, HB.out⟩
        · by_cases c3 : hi > 255
          · have HN := Lib.hid (show zF (-1) none (zns L) = false by rw [HDD.out, HST.out]; simp [show ¬ hi ≤ 255 by omega])
            go_wp2
            go_ret
            exact ⟨by rw [HN.out]; rfl, HB.out⟩
          · rcases hf : fm (-1) u with _ | _
            · have HN := Lib.hid (show zF (-1) none (zns L) = false by rw [HDD.out, HST.out, hf]; simp)
              rw [hf] at F
              have F := Lib.hid F
              clear hf
              go_wp2_with fail
              refine F.out.mono ?_
              rintro e w1 ⟨rfl, hb1⟩
              have HB1 := Lib.hid (below_then HB.out (Nat.le_refl _) hb1)
              clear hb1
              go_wp2
              go_ret
              exact ⟨by rw [HN.out]; rfl, HB1.out⟩
            · rw [hf] at F
              have HSS := Lib.hid (show zStep e p ((lo, hi), u) = !(decide (p = some u) && decide (lo = e + 1)) by rw [HST.out, hf, decide_eq_true (show e < lo by omega), decide_eq_true (show lo ≤ hi by omega), decide_eq_true (show hi ≤ 255 by omega)]; simp)
              have F := Lib.hid F
              clear hf HST
              go_wp2_with fail
              refine F.out.mono ?_
              rintro e' w1 ⟨rfl, hb1⟩
              have HB1 := Lib.hid (below_then HB.out (Nat.le_refl _) hb1)
              have HX1 := Lib.hid (HX.out.go hb1)
              obtain ⟨x0, x1, x2⟩ := HX1.out.three
              clear hb1 HB HX F g0 g1 g2
              by_cases hk0 : k = 0
              · have hpn : p = none := by rw [HP.out, hk0, aheadP_zero]
                have HN := Lib.hid (show zF (-1) none (zns L) = zF hi (some u) ((zns L).drop (k + 1)) by rw [HDD.out, HSS.out, hpn]; simp)
                have dk : decide (0 < k) = false := by simp; omega
                clear hpn hk0
                go_wp2
                go_quiet (fail)
                go_wp2
                go_roundw
                case rel => exact ⟨k + 1, by omega, by go_num, by rw [HE1.out], by rw [HE1.out]; omega, below_drewN HB1.out _, by show _ = _; rw [HN.out, HE1.out, HP1.out]⟩
                case measure => simp [intOf]; omega
              · obtain ⟨i, rfl⟩ : ∃ i, k = i + 1 := ⟨k - 1, by omega⟩
                have hiL : i < L.length := by omega
                have dk : decide (0 < i + 1) = true := by simp
                have he2 := aheadE_next (zns L) i (by rw [zns_len]; exact hiL)
                have hp2 := aheadP_next (zns L) i (by rw [zns_len]; exact hiL)
                rw [zns_at L i hiL] at he2 hp2
                have w1e : IntKind.i64.wrap (e + 1) = e + 1 := IntWalk.i64_in _ (by omega)
                have w2e : IntKind.i64.wrap (((i + 1 : Nat) : Int) - 1) = (i : Int) := by rw [show (((i + 1 : Nat) : Int) - 1) = (i : Int) by omega]; exact IntWalk.i64_in _ (by omega)
                have hpe := HP.out
                rw [hp2] at hpe
                have hin : (0 : Int) ≤ (i : Int) ∧ (i : Int) < (n : Int) := by omega
                by_cases c4 : lo = e + 1
                · subst c4
                  obtain ⟨b', o', e', hbb', p0, p1, p2⟩ := (HR.out.below (below_then (HB1.out) (Nat.le_refl _) (Below.refl _ _))).zone hiL
                  obtain ⟨hvl2, hRv2⟩ := HR.out.each _ (List.getElem_mem hiL)
                  obtain ⟨rfl, rfl⟩ : b = b' ∧ o = o' := by injection e' with e'; injection e' with e1 e2; exact ⟨e1, e2⟩
                  generalize L[i] = q2 at p0 p1 p2 hvl2 hRv2 hpe
                  obtain ⟨⟨Ai, ni, ci⟩, ⟨lo2, hi2⟩, u2⟩ := q2
                  dsimp only at p0 p1 p2 hvl2 hRv2 hpe
                  have G := fun m => equalSt_q Av Ai nv cv ni ci u u2 (w1.drewN m) HVL.out hvl2 (((HRV.out.below HB1.out).more HB1.out.size).drewN m) (((hRv2.below HB1.out).more HB1.out.size).drewN m)
                  have HPE := Lib.hid hpe
                  have e8 : IntKind.i64.wrap (i : Int) = (i : Int) := IntWalk.i64_in _ (by omega)
                  have e9 : (((i + 1 : Nat) : Int) - 1) = (i : Int) := by omega
                  clear hpe he2 hp2 p0 p1 e' hbb' hvl2 hRv2
                  by_cases c5 : u = u2
                  · have HN := Lib.hid (show zF (-1) none (zns L) = false by rw [HDD.out, HSS.out, HPE.out, c5]; simp)
                    simp only [decide_eq_true c5] at G
                    have G := Lib.hid G
                    clear c5
                    go_wp2
                    go_quiet ((go_at_call 42; exact Calls.quiet_of (G.out _)))
                    go_wp2
                    go_ret
                    exact ⟨by rw [HN.out]; rfl, below_drewN HB1.out _⟩
                  · have HN := Lib.hid (show zF (-1) none (zns L) = zF hi (some u) ((zns L).drop (i + 1 + 1)) by rw [HDD.out, HSS.out, HPE.out, decide_eq_false (show ¬ some u2 = some u from fun h => c5 (Option.some.inj h).symm)]; simp)
                    simp only [decide_eq_false c5] at G
                    have G := Lib.hid G
                    clear c5
                    go_wp2
                    go_quiet ((go_at_call 42; exact Calls.quiet_of (G.out _)))
                    go_wp2
                    go_roundw
                    case rel => exact ⟨i + 1 + 1, by omega, by go_num, by rw [HE1.out], by rw [HE1.out]; omega, below_drewN HB1.out _, by show _ = _; rw [HN.out, HE1.out, HP1.out]⟩
                    case measure => simp [intOf]; omega
                · have HN := Lib.hid (show zF (-1) none (zns L) = zF hi (some u) ((zns L).drop (i + 1 + 1)) by rw [HDD.out, HSS.out, decide_eq_false c4]; simp)
                  have d4 : (lo == e + 1) = false := by simpa using c4
                  clear hpe he2 hp2 c4
                  go_wp2
                  go_quiet (fail)
                  go_wp2
                  go_roundw
                  case rel => exact ⟨i + 1 + 1, by omega, by go_num, by rw [HE1.out], by rw [HE1.out]; omega, below_drewN HB1.out _, by show _ = _; rw [HN.out, HE1.out, HP1.out]⟩
                  case measure => simp [intOf]; omega
    · obtain rfl : k = n := by omega
      have HN := Lib.hid (show zF (-1) none (zns L) = true by rw [hr.out, HE.out _ _ _ (by rw [zns_len, HL.out]; exact Nat.le_refl _)])
      clear hr
      go_wp2
      go_ret
      exact ⟨by rw [HN.out]; rfl, hb⟩
end Go.Proofs.YtepdcbhapjgijaaDoor
