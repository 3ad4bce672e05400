/- Walks over the document's Formed, at and Same of zones (printed by wip/tools/genTwC.py). -/
import Derived.Test.YticnfjfdeagmaaaGreatDoorTwB
namespace Go.Proofs.YticnfjfdeagmaaaGreatDoor
open Go.RowKit
set_option maxRecDepth 100000

theorem Blk.two2 {w : World} {g : Nat} {t : TypeId} {a b : Value} (h : Blk w g t #[a, b]) : w.cell? ⟨g, 0, none⟩ = some a ∧ w.cell? ⟨g, 1, none⟩ = some b := ⟨h.cell 0, h.cell 1⟩

set_option maxHeartbeats 8000000 in
theorem refZonesFormed_any (A : Option Addr) (n c : Nat) (L : List (ZV × Zn)) (w : World) (hR : RdZ w w.heap.size A n c L) :
    Calls Tryz.prog 30 #[.slice A n c] w fun e w' => e = .returned (.bool (zF (-1) none (zns L))) ∧ Below w.heap.size w w' := by
  have hmax := hR.max
  have hln := hR.len
  have HL := Lib.hid hln
  have HR := Lib.hid hR
  have HD := Lib.hid fun e p k h => zF_drop e p (zns L) k h
  have HE := Lib.hid fun e p k h => zF_end e p (zns L) k h
  clear hR hln
  go_enter Tryz.func30, Tryz.ntmps30
  go_wp2
  go_loopw [3] (fun v3 wr => ∃ (k : Nat), k ≤ n ∧ v3 = .int .i64 k ∧ (-1 ≤ aheadE (zns L) k ∧ aheadE (zns L) k ≤ 255) ∧ Below w.heap.size w wr ∧ Hid (zF (-1) none (zns L) = zF (aheadE (zns L) k) (aheadP (zns L) k) ((zns L).drop k))) (fun v3 _ => n - (intOf v3).toNat)
  case atStart => exact ⟨0, by omega, rfl, by rw [aheadE_zero]; omega, Below.refl _ _, by rw [aheadE_zero, aheadP_zero]; rfl⟩
  case round =>
    obtain ⟨k, hk, rfl, hre, hb, hr⟩ := hrel
    have hbs := hb.size
    by_cases hlt : k < n
    · have hkL : k < L.length := by rw [HL.out]; exact hlt
      have hkZ : k < (zns L).length := by rw [zns_len]; exact hkL
      obtain ⟨b, o, rfl, hab, g0, g1, g2⟩ := (HR.out.below hb).zone hkL
      obtain ⟨hvl, hRv⟩ := HR.out.each _ (List.getElem_mem hkL)
      have hd := hr.out.trans (HD.out _ _ k hkZ)
      have he1 := aheadE_next (zns L) k hkZ
      have hp1 := aheadP_next (zns L) k hkZ
      rw [zns_at L k hkL] at hd he1 hp1
      obtain ⟨p, hp⟩ : ∃ p, p = aheadP (zns L) k := ⟨_, rfl⟩
      have HP := Lib.hid hp
      rw [← hp] at hd
      obtain ⟨e, he⟩ : ∃ e, e = aheadE (zns L) k := ⟨_, rfl⟩
      have HEE := Lib.hid he
      rw [← he] at hd hre
      generalize hq : L[k] = q at g0 g1 g2 hvl hRv hd he1 hp1
      have HQ := Lib.hid hq
      obtain ⟨⟨Av, nv, cv⟩, ⟨lo, hi⟩, u⟩ := q
      dsimp only at g0 g1 g2 hvl hRv hd he1 hp1
      have hst : zStep e p ((lo, hi), u) = ((decide (e < lo) && (decide (lo ≤ hi) && decide (hi ≤ 255))) && (fm (-1) u && !(decide (p = some u) && decide (lo = e + 1)))) := rfl
      have hb1 := hb.alloc hbs (.cells #[.int .i64 lo, .int .i64 hi] 42)
      have hX := Blk.new wr 42 #[.int .i64 lo, .int .i64 hi]
      have F := refFormed_any Av nv cv u _ hvl ((hRv.below hb1).more hb1.size)
      have g2' := World.cell?_alloc_lt wr (.cells #[.int .i64 lo, .int .i64 hi] 42) ⟨b, o + k * 3 + 2, none⟩ (World.block_lt_of_cell? _ _ g2)
      rw [g2] at g2'
      have HG2 := Lib.hid fun (W : World) (hw : Below (wr.alloc (.cells #[.int .i64 lo, .int .i64 hi] 42)).heap.size (wr.alloc (.cells #[.int .i64 lo, .int .i64 hi] 42)) W) => (hw.cell (p := ⟨b, o + k * 3 + 2, none⟩) (World.block_lt_of_cell? _ _ g2')).trans g2'
      have HB := Lib.hid hb1
      have HX := Lib.hid hX
      have HE1 := Lib.hid he1
      have HP1 := Lib.hid hp1
      have HVL := Lib.hid hvl
      have HRV := Lib.hid hRv
      have HST := Lib.hid hst
      have HDD := Lib.hid hd
      clear hd hst he1 hp1 hvl hRv hp he hq hX hr hb hab
      by_cases c1 : lo < 0
      · have HN := Lib.hid (show zF (-1) none (zns L) = false by rw [HDD.out, HST.out]; simp [show ¬ e < lo by omega])
        go_wp2
        go_ret
        exact ⟨by rw [HN.out]; rfl, HB.out⟩
      · by_cases c2 : lo > hi
        · have HN := Lib.hid (show zF (-1) none (zns L) = false by rw [HDD.out, HST.out]; simp [show ¬ lo ≤ hi by omega])
          go_wp2
          go_ret
          exact ⟨by rw [HN.out]; rfl, HB.out⟩
        · by_cases c3 : hi > 255
          · have HN := Lib.hid (show zF (-1) none (zns L) = false by rw [HDD.out, HST.out]; simp [show ¬ hi ≤ 255 by omega])
            go_wp2
            go_ret
            exact ⟨by rw [HN.out]; rfl, HB.out⟩
          · rcases hf : fm (-1) u with _ | _
            · have HN := Lib.hid (show zF (-1) none (zns L) = false by rw [HDD.out, HST.out, hf]; simp)
              rw [hf] at F
              have F := Lib.hid F
              clear hf
              go_wp2_with fail
              refine F.out.mono ?_
              rintro e w1 ⟨rfl, hb1⟩
              have HB1 := Lib.hid (below_then HB.out (Nat.le_refl _) hb1)
              clear hb1
              go_wp2
              go_ret
              exact ⟨by rw [HN.out]; rfl, HB1.out⟩
            · rw [hf] at F
              have HSS := Lib.hid (show zStep e p ((lo, hi), u) = (decide (e < lo) && !(decide (p = some u) && decide (lo = e + 1))) by rw [HST.out, hf, decide_eq_true (show lo ≤ hi by omega), decide_eq_true (show hi ≤ 255 by omega)]; simp)
              have F := Lib.hid F
              clear hf HST
              go_wp2_with fail
              refine F.out.mono ?_
              rintro e' w1 ⟨rfl, hb1⟩
              have HB1 := Lib.hid (below_then HB.out (Nat.le_refl _) hb1)
              have HX1 := Lib.hid (HX.out.go hb1)
              have g2 := HG2.out _ hb1
              obtain ⟨x0, x1⟩ := HX1.out.two2
              clear hb1 HB HX F g0 g1 HG2 g2'
              by_cases hk0 : k = 0
              · have hpn : p = none := by rw [HP.out, hk0, aheadP_zero]
                have hen : e = -1 := by rw [HEE.out, hk0, aheadE_zero]
                have HN := Lib.hid (show zF (-1) none (zns L) = zF hi (some u) ((zns L).drop (k + 1)) by rw [HDD.out, HSS.out, hpn, decide_eq_true (show e < lo by omega)]; simp)
                have dk : decide (0 < k) = false := by simp; omega
                clear hpn hk0 hen g2
                go_wp2
                go_quiet (fail)
                go_wp2
                go_roundw
                case rel => exact ⟨k + 1, by omega, by go_num, by rw [HE1.out]; omega, below_drewN HB1.out _, by show _ = _; rw [HN.out, HE1.out, HP1.out]⟩
                case measure => simp [intOf]; omega
              · obtain ⟨i, rfl⟩ : ∃ i, k = i + 1 := ⟨k - 1, by omega⟩
                have hiL : i < L.length := by omega
                have dk : decide (0 < i + 1) = true := by simp
                have he2 := aheadE_next (zns L) i (by rw [zns_len]; exact hiL)
                have hp2 := aheadP_next (zns L) i (by rw [zns_len]; exact hiL)
                rw [zns_at L i hiL] at he2 hp2
                have hpe := HP.out
                rw [hp2] at hpe
                have hee := HEE.out
                rw [he2] at hee
                have hin : (0 : Int) ≤ (i : Int) ∧ (i : Int) < (n : Int) := by omega
                have e8 : IntKind.i64.wrap (i : Int) = (i : Int) := IntWalk.i64_in _ (by omega)
                have e9 : (((i + 1 : Nat) : Int) - 1) = (i : Int) := by omega
                have w1e : IntKind.i64.wrap (lo - 1) = lo - 1 := IntWalk.i64_in _ (by omega)
                obtain ⟨b', o', e', hbb', p0, p1, p2⟩ := (HR.out.below HB1.out).zone hiL
                obtain ⟨hvl2, hRv2⟩ := HR.out.each _ (List.getElem_mem hiL)
                obtain ⟨rfl, rfl⟩ : b = b' ∧ o = o' := by injection e' with e'; injection e' with e1 e2; exact ⟨e1, e2⟩
                generalize L[i] = q2 at p0 p1 p2 hvl2 hRv2 hpe hee
                obtain ⟨⟨Ai, ni, ci⟩, ⟨lo2, hi2⟩, u2⟩ := q2
                dsimp only at p0 p1 p2 hvl2 hRv2 hpe hee
                subst hee
                have HPE := Lib.hid hpe
                have G := fun m => same_q Ai Av ni ci nv cv u2 u (w1.drewN m) hvl2 HVL.out (((hRv2.below HB1.out).more HB1.out.size).drewN m) (((HRV.out.below HB1.out).more HB1.out.size).drewN m)
                clear hpe he2 hp2 p0 e' hbb' hvl2 hRv2
                by_cases c6 : e ≥ lo
                · have HN := Lib.hid (show zF (-1) none (zns L) = false by rw [HDD.out, HSS.out, decide_eq_false (show ¬ e < lo by omega)]; rfl)
                  have d6 : decide (e ≥ lo) = true := decide_eq_true c6
                  clear G p2
                  go_wp2
                  go_quiet (fail)
                  go_wp2
                  go_ret
                  exact ⟨by rw [HN.out]; rfl, below_drewN HB1.out _⟩
                · have d6 : decide (e ≥ lo) = false := decide_eq_false c6
                  have d7 : decide (e < lo) = true := decide_eq_true (by omega)
                  by_cases c4 : e = lo - 1
                  · obtain rfl : lo = e + 1 := by omega
                    have d4 : (e == e + 1 - 1) = true := by simp
                    have w1f : IntKind.i64.wrap (e + 1 - 1) = e := by rw [show e + 1 - 1 = e by omega]; exact IntWalk.i64_in _ (by omega)
                    have w1g : IntKind.i64.wrap e = e := IntWalk.i64_in _ (by omega)
                    clear c4 w1e
                    by_cases c5 : u2 = u
                    · have HN := Lib.hid (show zF (-1) none (zns L) = false by rw [HDD.out, HSS.out, HPE.out, c5, d7]; simp)
                      simp only [decide_eq_true c5] at G
                      have G := Lib.hid G
                      clear c5 c6
                      go_wp2
                      go_quiet ((go_at_call 10; exact Calls.quiet_of (G.out _)))
                      go_wp2
                      go_ret
                      exact ⟨by rw [HN.out]; rfl, below_drewN HB1.out _⟩
                    · have HN := Lib.hid (show zF (-1) none (zns L) = zF hi (some u) ((zns L).drop (i + 1 + 1)) by rw [HDD.out, HSS.out, HPE.out, d7, decide_eq_false (show ¬ some u2 = some u from fun h => c5 (Option.some.inj h))]; simp)
                      simp only [decide_eq_false c5] at G
                      have G := Lib.hid G
                      clear c5 c6
                      go_wp2
                      go_quiet ((go_at_call 10; exact Calls.quiet_of (G.out _)))
                      go_wp2
                      go_roundw
                      case rel => exact ⟨i + 1 + 1, by omega, by go_num, by rw [HE1.out]; omega, below_drewN HB1.out _, by show _ = _; rw [HN.out, HE1.out, HP1.out]⟩
                      case measure => simp [intOf]; omega
                  · have d4 : (e == lo - 1) = false := by simpa using c4
                    have HN := Lib.hid (show zF (-1) none (zns L) = zF hi (some u) ((zns L).drop (i + 1 + 1)) by rw [HDD.out, HSS.out, d7, decide_eq_false (show ¬ lo = e + 1 by omega)]; simp)
                    clear G c6 c4 p2
                    go_wp2
                    go_quiet (fail)
                    go_wp2
                    go_roundw
                    case rel => exact ⟨i + 1 + 1, by omega, by go_num, by rw [HE1.out]; omega, below_drewN HB1.out _, by show _ = _; rw [HN.out, HE1.out, HP1.out]⟩
                    case measure => simp [intOf]; omega
    · obtain rfl : k = n := by omega
      have HN := Lib.hid (show zF (-1) none (zns L) = true by rw [hr.out, HE.out _ _ _ (by rw [zns_len, HL.out]; exact Nat.le_refl _)])
      clear hr
      go_wp2
      go_ret
      exact ⟨by rw [HN.out]; rfl, hb⟩

/-- Where a zone of an object stands. -/
def AtZ (L : List (ZV × Zn)) (o : Int) (w : World) (e : Ending) (w' : World) : Prop :=
  w = w' ∧ ((∃ k, ∃ h : k < L.length, e = .returned (.int .i64 (k : Int)) ∧ (zns L).find? (inZ o) = some L[k].2) ∨ (e = .returned (.int .i64 (-1)) ∧ (zns L).find? (inZ o) = none))
theorem find_drop (o : Int) (z : List Zn) (k : Nat) (h : k < z.length) : (z.drop k).find? (inZ o) = if inZ o z[k] = true then some z[k] else (z.drop (k + 1)).find? (inZ o) := by
  rw [List.drop_eq_getElem_cons h, List.find?_cons]
  rcases inZ o z[k] with _ | _ <;> rfl
theorem inZ_no1 {o lo hi : Int} {u : List Vc.St} (h : ¬ lo ≤ o) : inZ o ((lo, hi), u) = false := by unfold inZ; simp; omega
theorem inZ_no2 {o lo hi : Int} {u : List Vc.St} (h : ¬ o ≤ hi) : inZ o ((lo, hi), u) = false := by unfold inZ; simp; omega
theorem inZ_yes {o lo hi : Int} {u : List Vc.St} (h : lo ≤ o) (h2 : o ≤ hi) : inZ o ((lo, hi), u) = true := by unfold inZ; simp; omega
set_option maxHeartbeats 2000000 in
theorem refAtZ_any (A : Option Addr) (n c : Nat) (L : List (ZV × Zn)) (o : Int) (w : World) (hR : RdZ w w.heap.size A n c L) :
    Calls Tryz.prog 36 #[.slice A n c, .int .i64 o] w (AtZ L o w) := by
  have hmax := hR.max
  have hln := hR.len
  have HL := Lib.hid hln
  have HD := Lib.hid fun k h => find_drop o (zns L) k h
  have HR := Lib.hid hR
  clear hln hR
  go_enter Tryz.func36, Tryz.ntmps36
  go_wp2
  go_loopw [5] (fun v5 wr => ∃ (k : Nat), k ≤ n ∧ v5 = .int .i64 k ∧ w = wr ∧ Hid ((zns L).find? (inZ o) = ((zns L).drop k).find? (inZ o))) (fun v5 _ => n - (intOf v5).toNat)
  case atStart => exact ⟨0, by omega, rfl, rfl, rfl⟩
  case round =>
    obtain ⟨k, hk, rfl, rfl, hr⟩ := hrel
    by_cases hlt : k < n
    · have hkL : k < L.length := by rw [HL.out]; exact hlt
      have hkZ : k < (zns L).length := by rw [zns_len]; exact hkL
      obtain ⟨b, oo, rfl, hab, g0, g1, g2⟩ := HR.out.zone hkL
      have hd := hr.out.trans (HD.out k hkZ)
      rw [zns_at L k hkL] at hd
      have HK := Lib.hid hkL
      generalize hq : L[k] = q at g0 g1 g2 hd
      have HQ := Lib.hid hq
      obtain ⟨⟨Av, nv, cv⟩, ⟨lo, hi⟩, u⟩ := q
      dsimp only at g0 g1 g2 hd
      have HDD := Lib.hid hd
      clear hq hd hr hab g2
      by_cases c1 : lo ≤ o
      · by_cases c2 : o ≤ hi
        · have HN := Lib.hid (show (zns L).find? (inZ o) = some ((lo, hi), u) by rw [HDD.out, if_pos (inZ_yes c1 c2)])
          go_wp2
          go_ret
          exact ⟨rfl, .inl ⟨k, HK.out, rfl, HN.out.trans (congrArg some (congrArg Prod.snd HQ.out).symm)⟩⟩
        · have HN := Lib.hid (show (zns L).find? (inZ o) = ((zns L).drop (k + 1)).find? (inZ o) by rw [HDD.out, if_neg (by rw [inZ_no2 c2]; simp)])
          go_wp2
          go_roundw
          case rel => exact ⟨k + 1, by omega, by go_num, trivial, HN.out⟩
          case measure => simp [intOf]; omega
      · have HN := Lib.hid (show (zns L).find? (inZ o) = ((zns L).drop (k + 1)).find? (inZ o) by rw [HDD.out, if_neg (by rw [inZ_no1 c1]; simp)])
        go_wp2
        go_roundw
        case rel => exact ⟨k + 1, by omega, by go_num, trivial, HN.out⟩
        case measure => simp [intOf]; omega
    · obtain rfl : k = n := by omega
      have HN := Lib.hid (show (zns L).find? (inZ o) = none by rw [hr.out, List.drop_of_length_le (by rw [zns_len, HL.out]; exact Nat.le_refl _)]; rfl)
      clear hr
      go_wp2
      go_ret
      exact ⟨rfl, .inr ⟨rfl, HN.out⟩⟩

theorem dec_dropZ {L M : List Zn} {k : Nat} (h1 : k < L.length) (h2 : k < M.length) (he : L[k] = M[k]) : decide (L.drop k = M.drop k) = decide (L.drop (k + 1) = M.drop (k + 1)) := by
  rw [List.drop_eq_getElem_cons h1, List.drop_eq_getElem_cons h2, he]
  exact decide_eq_decide.2 ⟨fun h => (List.cons.inj h).2, fun h => by rw [h]⟩
set_option maxHeartbeats 4000000 in
theorem refZonesSame_q (A D : Option Addr) (n c m d : Nat) (L M : List (ZV × Zn)) (w : World) (hR : RdZ w w.heap.size A n c L) (hR2 : RdZ w w.heap.size D m d M) :
    Calls Tryz.prog 9 #[.slice A n c, .slice D m d] w fun e w' => e = .returned (.bool (decide (zns L = zns M))) ∧ ∃ q, w' = w.drewN q := by
  have hmax := hR.max
  have hln := hR.len
  have hln2 := hR2.len
  have HL := Lib.hid hln
  have HL2 := Lib.hid hln2
  have HR := Lib.hid hR
  have HR2 := Lib.hid hR2
  clear hR hR2
  by_cases hnm : n = m
  · subst hnm
    clear hln hln2
    go_enter Tryz.func9, Tryz.ntmps9
    go_wp2
    go_loopw [5] (fun i wr => ∃ (k q : Nat), k ≤ n ∧ i = .int .i64 k ∧ Hid (decide (zns L = zns M) = decide ((zns L).drop k = (zns M).drop k)) ∧ Hid (wr = w.drewN q)) (fun i _ => n - (intOf i).toNat)
    case atStart => exact ⟨0, 0, by omega, rfl, Lib.hid rfl, Lib.hid rfl⟩
    case round =>
      obtain ⟨k, q, hk, rfl, hdd, hq⟩ := hrel
      have hb : Below w.heap.size w wr := by rw [hq.out]; exact below_drewN (Below.refl _ _) q
      by_cases hlt : k < n
      · have hk1 : k < L.length := by rw [HL.out]; exact hlt
        have hk2 : k < M.length := by rw [HL2.out]; exact hlt
        have hz1 : k < (zns L).length := by rw [zns_len]; exact hk1
        have hz2 : k < (zns M).length := by rw [zns_len]; exact hk2
        obtain ⟨b, o, rfl, hab, g0, g1, g2⟩ := (HR.out.below hb).zone hk1
        obtain ⟨b2, o2, rfl, hab2, h0, h1, h2⟩ := (HR2.out.below hb).zone hk2
        obtain ⟨hvl, hRv⟩ := HR.out.each _ (List.getElem_mem hk1)
        obtain ⟨hvl2, hRv2⟩ := HR2.out.each _ (List.getElem_mem hk2)
        have hN := fun (h : L[k].2 = M[k].2) => hdd.out.trans (dec_dropZ hz1 hz2 (by rw [zns_at L k hk1, zns_at M k hk2, h]))
        have hO := fun (h : ¬ L[k].2 = M[k].2) => (show decide (zns L = zns M) = false by
          rw [decide_eq_false_iff_not]; intro e; apply h
          have e1 := zns_at L k hk1
          have e2 := zns_at M k hk2
          rw [← e1, ← e2]
          simp only [e])
        generalize L[k] = q1 at g0 g1 g2 hvl hRv hN hO
        generalize M[k] = q2 at h0 h1 h2 hvl2 hRv2 hN hO
        obtain ⟨⟨Av, nv, cv⟩, ⟨lo, hi⟩, u⟩ := q1
        obtain ⟨⟨Au, nu, cu⟩, ⟨lo2, hi2⟩, u2⟩ := q2
        dsimp only at g0 g1 g2 hvl hRv hN hO h0 h1 h2 hvl2 hRv2
        have HNN := Lib.hid hN
        have HOO := Lib.hid hO
        have G := fun p => same_q Av Au nv cv nu cu u u2 (wr.drewN p) hvl hvl2 (((hRv.below hb).more hb.size).drewN p) (((hRv2.below hb).more hb.size).drewN p)
        clear hN hO hvl hvl2 hRv hRv2 hdd hb hab hab2
        by_cases c1 : lo = lo2
        · subst c1
          by_cases c2 : hi = hi2
          · subst c2
            by_cases c3 : u = u2
            · subst c3
              have HN := Lib.hid (HNN.out rfl)
              simp only [decide_true] at G
              have G := Lib.hid G
              go_wp2
              go_quiet ((go_at_call 10; exact Calls.quiet_of (G.out _)))
              go_wp2
              go_roundw
              case rel => exact ⟨k + 1, _, by omega, by go_num, HN, quiet_then hq _⟩
              case measure => simp [intOf]; omega
            · have HN := Lib.hid (HOO.out (by simpa using c3))
              simp only [decide_eq_false c3] at G
              have G := Lib.hid G
              clear c3
              go_wp2
              go_quiet ((go_at_call 10; exact Calls.quiet_of (G.out _)))
              go_wp2
              go_ret
              exact ⟨by rw [HN.out]; rfl, _, (quiet_then hq _).out⟩
          · have HN := Lib.hid (HOO.out (by intro h; injection h with h; injection h with h3 h4; exact c2 h4))
            clear G
            go_wp2
            go_quiet (fail)
            go_wp2
            go_ret
            exact ⟨by rw [HN.out]; rfl, _, (quiet_then hq _).out⟩
        · have HN := Lib.hid (HOO.out (by intro h; injection h with h; injection h with h3 h4; exact c1 h3))
          clear G
          go_wp2
          go_quiet (fail)
          go_wp2
          go_ret
          exact ⟨by rw [HN.out]; rfl, _, (quiet_then hq _).out⟩
      · obtain rfl : k = n := by omega
        have HX := Lib.hid (show decide (zns L = zns M) = true by rw [hdd.out, List.drop_of_length_le (by rw [zns_len, HL.out]; exact Nat.le_refl _), List.drop_of_length_le (by rw [zns_len, HL2.out]; exact Nat.le_refl _)]; simp)
        clear hdd
        go_wp2
        go_ret
        exact ⟨by rw [HX.out]; rfl, q, hq.out⟩
  · have HN := Lib.hid (show decide (zns L = zns M) = false by
      rw [decide_eq_false_iff_not]; intro h
      have := congrArg List.length h
      rw [zns_len, zns_len] at this
      omega)
    have hne : ¬ ((n : Int) = (m : Int)) := by omega
    clear hln hln2
    go_enter Tryz.func9, Tryz.ntmps9
    go_wp2
    go_ret
    exact ⟨by rw [HN.out]; rfl, 0, rfl⟩
end Go.Proofs.YticnfjfdeagmaaaGreatDoor
