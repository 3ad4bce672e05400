/- Walk over slices.symMergeCmpFunc at writes, the other arms (printed by wip/tools/genNmU.py). -/
import Derived.Test.YtnibkniggiokkaaDoorNmU
namespace Go.Proofs.YtnibkniggiokkaaDoor
open Go.RowKit Go.Shelf Go.Sort Go.Lib
set_option maxRecDepth 100000

theorem mvl_all (P R : List Wr) (x : Wr) (Z : List Wr) : St.mvl P R x Z R.length = P ++ R ++ [x] ++ Z := by simp [St.mvl]

set_option maxHeartbeats 4000000 in
theorem symRight_any {k : Nat} {d0 : Array Wr} {w0 : World} {blk off g : Nat} {cb : Array Value} {cf : Wr → Wr → Int} (K : SortW k d0 w0 blk off g cb cf) (cap a m b : Nat) (P L Q : List Wr) (y : Wr) (hRis : St.Ris (ltOf cf) L) (hlen : (P ++ L ++ [y] ++ Q).length = d0.size) (h2l : 2 ≤ L.length)
    (ha : a = P.length) (hm : m = a + L.length) (hb : b = m + 1) (W : World) (hW : SWK wc k w0 blk off (P ++ L ++ [y] ++ Q).toArray W) :
    Calls Tryd.prog 91 #[.slice (some ⟨blk, off, none⟩) d0.size cap, .int .i64 a, .int .i64 m, .int .i64 b, .func (.func g) #[] cb] W fun e W' => e = .returned (.tuple #[]) ∧ SWK wc k w0 blk off (P ++ St.mrg (ltOf cf) L [y] ++ Q).toArray W' := by
  have hl2 : P.length + L.length + 1 + Q.length = d0.size := by rw [← hlen]; simp; omega
  have HK := Lib.hid K
  have HW := Lib.hid hW
  have HRis := Lib.hid hRis
  have eg := K.fn
  have hsz := K.sz
  have zE := K.zE
  have aE := agg_write
  have HL := Lib.hid (And.intro ha (And.intro hm (And.intro hb hl2)))
  obtain ⟨n, hn⟩ : ∃ n, n = d0.size := ⟨_, rfl⟩
  have hma : a + 2 ≤ m := by omega
  have hbn : b ≤ n := by omega
  have hbm : (b : Int) - (m : Int) = 1 := by omega
  have hmb : m + 1 = b := by omega
  have hma1 : ¬ ((m : Int) - (a : Int) = 1) := by omega
  have hma2 : ((m : Int) - (a : Int) == 1) = false := beq_eq_false_iff_ne.2 hma1
  have HLS := Lib.hid (show ∀ t, (St.mvl P L y Q t).toArray.size = d0.size from fun t => by rw [← hlen]; simp [St.mvl]; omega)
  have HN := Lib.hid hn
  rw [← hn] at hsz
  have an : (m : Int) < (n : Int) := by omega
  have ra : IntKind.i64.wrap (m : Int) = (m : Int) := by rw [IntKind.wrap_i64]; omega
  clear hW K hRis hlen ha hb hl2 hm h2l
  rw [← hn]
  clear hn
  have mixed : Tryd.prog.follows .mixedOrders = true := by kernel_rfl
  go_enter Tryd.func91, Tryd.ntmps91
  go_wp2
  go_loopw [14, 15] (fun v10 v11 wr => ∃ (i j : Nat), v10 = .int .i64 i ∧ v11 = .int .i64 j ∧ a ≤ i ∧ i ≤ j ∧ j ≤ m ∧ Hid (∀ u, u < i - a → ltOf cf y L[u]! = false) ∧ Hid (∀ u, j - a ≤ u → u < L.length → ltOf cf y L[u]! = true) ∧ Aside (SWK wc k w0 blk off (P ++ L ++ [y] ++ Q).toArray wr)) (fun v10 v11 _ => (intOf v11).toNat - (intOf v10).toNat)
  case atStart => exact ⟨a, m, rfl, rfl, Nat.le_refl _, by omega, Nat.le_refl _, fun u h => by omega, fun u h1 h2 => by have := HL.out; omega, HW.out⟩
  case round =>
    obtain ⟨i, j, rfl, rfl, hai, hij, hjm, HI, HJ, SW⟩ := hrel
    by_cases hlt : i < j
    · obtain ⟨h, hh⟩ : ∃ h : Nat, ((i : Int) + (j : Int)) / 2 = (h : Int) := ⟨(i + j) / 2, by omega⟩
      have h1 : i ≤ h := by omega
      have h2 : h < j := by omega
      have hhn : (h : Int) < (n : Int) := by omega
      have rh : IntKind.i64.wrap (h : Int) = (h : Int) := by rw [IntKind.wrap_i64]; omega
      obtain ⟨dk, hdk⟩ : ∃ dk, dk = (P ++ L ++ [y] ++ Q).toArray := ⟨_, rfl⟩
      have hsk : dk.size = d0.size := by have := HLS.out 0; rw [hdk]; simp [St.mvl] at this; simp; omega
      have SK := SW.out
      rw [← hdk] at SK
      obtain ⟨x, hx⟩ : ∃ x, x = dk[h]! := ⟨_, rfl⟩
      have hy : y = dk[m]! := by
        rw [hdk, getA_right P L [y] Q (i := 0) (by simp) (by have := HL.out; omega)]; rfl
      have hxL : x = L[h - a]! := by
        rw [hx, hdk, getA_left P L [y] Q (i := h - a) (by have := HL.out; omega) (by have := HL.out; omega)]
      have l1 := SK.ld HK.out.row hsk Tryd.prog m (by rw [hsk, ← HN.out]; omega)
      have l2 := SK.ld HK.out.row hsk Tryd.prog h (by rw [hsk, ← HN.out]; omega)
      have hc := SK.cmp HK.out.cmp hsk y x
      have HG := Lib.hid fun q os => SW.out.grown q os
      rw [← hy] at l1
      rw [← hx] at l2
      have HX := Lib.hid hxL
      clear hxL hy hx hdk hsk SK SW
      by_cases hlv : cf y x < 0
      · have hd : decide (cf y x < 0) = true := decide_eq_true hlv
        have HD := Lib.hid (show ltOf cf y x = true from hd)
        go_wp2_with fail
        go_quiet_grown (first | (go_at_fn g; refine Calls.grown_of (hc _ _)))
        have S2 : Aside (SWK wc k w0 blk off (P ++ L ++ [y] ++ Q).toArray (grow (wr.drewN nq) osq)) := HG.out nq osq
        clear l1 l2 hc HG
        generalize grow (wr.drewN nq) osq = w2 at S2 ⊢
        go_wp2
        go_roundw
        case rel =>
          refine ⟨i, h, rfl, rfl, hai, h1, by omega, HI, fun u hu hu2 => ?_, S2⟩
          have e := HD.out
          rw [HX.out] at e
          rcases Bool.eq_false_or_eq_true (ltOf cf y L[u]!) with h4 | h4
          · exact h4
          · exfalso
            have h5 := St.ris_get HK.out.swo HRis.out (show h - a ≤ u by omega) hu2
            have := HK.out.swo.ntrans _ _ _ h4 h5
            rw [e] at this; cases this
        case measure => simp [intOf]; omega
      · have hd : decide (cf y x < 0) = false := decide_eq_false hlv
        have HD := Lib.hid (show ltOf cf y x = false from hd)
        go_wp2_with fail
        go_quiet_grown (first | (go_at_fn g; refine Calls.grown_of (hc _ _)))
        have S2 : Aside (SWK wc k w0 blk off (P ++ L ++ [y] ++ Q).toArray (grow (wr.drewN nq) osq)) := HG.out nq osq
        clear l1 l2 hc HG
        generalize grow (wr.drewN nq) osq = w2 at S2 ⊢
        go_wp2
        go_roundw
        case rel =>
          refine ⟨h + 1, j, by go_num, rfl, by omega, by omega, hjm, fun u hu => ?_, HJ, S2⟩
          have e := HD.out
          rw [HX.out] at e
          have h5 := St.ris_get HK.out.swo HRis.out (show u ≤ h - a by omega) (by have := HL.out; omega)
          exact HK.out.swo.ntrans _ _ _ e h5
        case measure => simp [intOf]; omega
    · obtain rfl : i = j := by omega
      clear hlt hij
      have HE := Lib.hid (show P ++ (L.take (i - a) ++ y :: L.drop (i - a)) ++ Q = P ++ St.mrg (ltOf cf) L [y] ++ Q by
        have := St.merge_right (lt := ltOf cf) y (L.take (i - a)) (L.drop (i - a)) (fun r hr => by
          obtain ⟨u, hu, rfl⟩ := List.getElem_of_mem hr
          simp at hu
          rw [List.getElem_take]
          have := HI.out u (by omega)
          rwa [getElem!_pos L u (by omega)] at this) (fun r hr => by
          obtain ⟨u, hu, rfl⟩ := List.getElem_of_mem hr
          simp at hu
          rw [List.getElem_drop]
          have := HJ.out (i - a + u) (by omega) (by omega)
          rwa [getElem!_pos L _ (by omega)] at this)
        rw [List.take_append_drop] at this
        rw [this])
      clear HI HJ
      go_wp2
      go_loopw [17] (fun v13 wr => ∃ (q t : Nat), v13 = .int .i64 q ∧ Hid (q = a + t) ∧ i ≤ q ∧ q ≤ m ∧ Aside (SWK wc k w0 blk off (St.mvl P L y Q t).toArray wr)) (fun v13 _ => (intOf v13).toNat)
      case atStart => exact ⟨m, L.length, rfl, HL.out.2.1, hjm, Nat.le_refl _, (by rw [mvl_all]; exact SW)⟩
      case round =>
        clear SW
        obtain ⟨q, t, rfl, HT, hiq, hqm, SW⟩ := hrel
        by_cases hlt : i < q
        · have hltz : (q : Int) > (i : Int) := by omega
          obtain ⟨dk, hdk⟩ : ∃ dk, dk = (St.mvl P L y Q t).toArray := ⟨_, rfl⟩
          have hsk : dk.size = d0.size := by rw [hdk]; exact HLS.out t
          have SK := SW.out
          rw [← hdk] at SK
          obtain ⟨p, hp⟩ : ∃ p, q = p + 1 := ⟨q - 1, by omega⟩
          have hn2 := HN.out
          have hi1 : q < dk.size := by omega
          have hj1 : p < dk.size := by omega
          have ep : (q : Int) - 1 = (p : Int) := by omega
          have bi : (q : Int) < (n : Int) := by omega
          have bj : (p : Int) < (n : Int) := by omega
          have ri : IntKind.i64.wrap (q : Int) = (q : Int) := by rw [IntKind.wrap_i64]; omega
          have rj : IntKind.i64.wrap (p : Int) = (p : Int) := by rw [IntKind.wrap_i64]; omega
          obtain ⟨u, hu⟩ : ∃ x, x = dk[q]! := ⟨_, rfl⟩
          obtain ⟨v, hv⟩ : ∃ x, x = dk[p]! := ⟨_, rfl⟩
          have h1 := SK.ld1 HK.out.row hsk Tryd.prog q hi1
          have h2 := SK.ld1 HK.out.row hsk Tryd.prog p hj1
          have s1 := SK.st1 HK.out.row hsk Tryd.prog q hi1 v
          have s2 := SK.st2 HK.out.row hsk Tryd.prog q p hi1 hj1 v u
          have SP := Lib.hid (SK.swapped HK.out.row q p hi1 hj1)
          rw [← hu] at h1 SP
          rw [← hv] at h2 SP
          have HX := Lib.hid (show SWK wc k w0 blk off (St.mvl P L y Q (t - 1)).toArray _ from by
            have h3 := SP.out
            have h4 := HT.out
            have h5 := HL.out
            obtain ⟨t', rfl⟩ : ∃ t', t = t' + 1 := ⟨t - 1, by omega⟩
            rw [hdk, St.swp_list, St.mvl_down P L y Q (t := t') (by omega) (by omega) (by omega)] at h3
            exact h3)
          have hX1 : (wc u).length = k := HK.out.row.hk u
          have hY1 : (wc v).length = k := HK.out.row.hk v
          obtain ⟨cu, hcu⟩ : ∃ c, c = wc u := ⟨_, rfl⟩
          obtain ⟨cv, hcv⟩ : ∃ c, c = wc v := ⟨_, rfl⟩
          rw [← hcu] at h1 s2 hX1 HX
          rw [← hcv] at h2 s1 s2 hY1 HX
          have HP := Lib.hid hp
          clear hcu hcv hu hv SP SK SW hdk hp hn2
          go_wp2
          go_big_region_o
          all_goals go_wp2
          go_roundw
          case rel => exact ⟨p, t - 1, by go_num, by have := HT.out; have := HP.out; show _ = _; omega, by have := HP.out; omega, by have := HP.out; omega, HX.out⟩
          case measure => have := HP.out; simp [intOf]; omega
        · have hlt2 : ¬ (q : Int) > (i : Int) := by omega
          go_wp2
          refine bodyPost_ret (results_none rfl _ _ _) rfl ?_
          refine ⟨rfl, ?_⟩
          have e := HE.out
          rw [show i - a = t by have := HT.out; omega] at e
          rw [List.append_assoc] at e
          have h := SW.out
          unfold St.mvl at h
          rw [List.append_assoc, e, List.append_assoc] at h
          exact h


/-- What the rotation and the two merges behind the search come to. -/
theorem mid_calls {k : Nat} {d0 : Array Wr} {w0 : World} {blk off g : Nat} {cb : Array Value} {cf : Wr → Wr → Int} {N0 : Nat} (K : SortW k d0 w0 blk off g cb cf) (hIH : ∀ (a m b cap : Nat) (P L R Q : List Wr), P.length + L.length + R.length + Q.length = d0.size → L ≠ [] → R ≠ [] → b - a < N0 → St.Ris (ltOf cf) L → St.Ris (ltOf cf) R → a = P.length → m = a + L.length → b = m + R.length → ∀ W, SWK wc k w0 blk off (P ++ L ++ R ++ Q).toArray W →
    Calls Tryd.prog 91 #[.slice (some ⟨blk, off, none⟩) d0.size cap, .int .i64 a, .int .i64 m, .int .i64 b, .func (.func g) #[] cb] W fun e W' => e = .returned (.tuple #[]) ∧ SWK wc k w0 blk off (P ++ St.mrg (ltOf cf) L R ++ Q).toArray W') (cap : Nat) (P L R Q : List Wr) (hL : St.Ris (ltOf cf) L) (hR : St.Ris (ltOf cf) R) (hlen : P.length + L.length + R.length + Q.length = d0.size) {s en mid a m b : Nat} (hCut : St.Cut (ltOf cf) L R (s - a) (mid - s))
    (ha : a = P.length) (hm : m = a + L.length) (hb : b = m + R.length) (has : a ≤ s) (hsm : s ≤ m) (hsd : s ≤ mid) (hdb : mid - s ≤ b - m) (hen : en = mid + m - s) (hmb : mid < b) (ham : a < mid) (hN : b - a ≤ N0) :
    ((s < m ∧ m < en → ∀ W, SWK wc k w0 blk off (P ++ L ++ R ++ Q).toArray W → Calls Tryd.prog 94 #[.slice (some ⟨blk, off, none⟩) d0.size cap, .int .i64 s, .int .i64 m, .int .i64 en, .func (.func g) #[] cb] W fun e W' => e = .returned (.tuple #[]) ∧ SWK wc k w0 blk off (P ++ L.take (s - a) ++ R.take (mid - s) ++ (L.drop (s - a) ++ R.drop (mid - s) ++ Q)).toArray W') ∧
      (¬ (s < m ∧ m < en) → ∀ W, SWK wc k w0 blk off (P ++ L ++ R ++ Q).toArray W → SWK wc k w0 blk off (P ++ L.take (s - a) ++ R.take (mid - s) ++ (L.drop (s - a) ++ R.drop (mid - s) ++ Q)).toArray W)) ∧
    ((a < s ∧ s < mid → ∀ W, SWK wc k w0 blk off (P ++ L.take (s - a) ++ R.take (mid - s) ++ (L.drop (s - a) ++ R.drop (mid - s) ++ Q)).toArray W → Calls Tryd.prog 91 #[.slice (some ⟨blk, off, none⟩) d0.size cap, .int .i64 a, .int .i64 s, .int .i64 mid, .func (.func g) #[] cb] W fun e W' => e = .returned (.tuple #[]) ∧ SWK wc k w0 blk off (P ++ St.mrg (ltOf cf) (L.take (s - a)) (R.take (mid - s)) ++ L.drop (s - a) ++ R.drop (mid - s) ++ Q).toArray W') ∧
      (¬ (a < s ∧ s < mid) → ∀ W, SWK wc k w0 blk off (P ++ L.take (s - a) ++ R.take (mid - s) ++ (L.drop (s - a) ++ R.drop (mid - s) ++ Q)).toArray W → SWK wc k w0 blk off (P ++ St.mrg (ltOf cf) (L.take (s - a)) (R.take (mid - s)) ++ L.drop (s - a) ++ R.drop (mid - s) ++ Q).toArray W)) ∧
    ((mid < en ∧ en < b → ∀ W, SWK wc k w0 blk off (P ++ St.mrg (ltOf cf) (L.take (s - a)) (R.take (mid - s)) ++ L.drop (s - a) ++ R.drop (mid - s) ++ Q).toArray W → Calls Tryd.prog 91 #[.slice (some ⟨blk, off, none⟩) d0.size cap, .int .i64 mid, .int .i64 en, .int .i64 b, .func (.func g) #[] cb] W fun e W' => e = .returned (.tuple #[]) ∧ SWK wc k w0 blk off (P ++ St.mrg (ltOf cf) L R ++ Q).toArray W') ∧
      (¬ (mid < en ∧ en < b) → ∀ W, SWK wc k w0 blk off (P ++ St.mrg (ltOf cf) (L.take (s - a)) (R.take (mid - s)) ++ L.drop (s - a) ++ R.drop (mid - s) ++ Q).toArray W → SWK wc k w0 blk off (P ++ St.mrg (ltOf cf) L R ++ Q).toArray W)) := by
  have hM := hCut.merge
  have eL : L.take (s - a) ++ L.drop (s - a) = L := List.take_append_drop ..
  have eR : R.take (mid - s) ++ R.drop (mid - s) = R := List.take_append_drop ..
  have l1 : (L.take (s - a)).length = s - a := by rw [List.length_take]; omega
  have l2 : (L.drop (s - a)).length = m - s := by rw [List.length_drop]; omega
  have r1 : (R.take (mid - s)).length = mid - s := by rw [List.length_take]; omega
  have r2 : (R.drop (mid - s)).length = b - en := by rw [List.length_drop]; omega
  have i1 := St.Ris.take hL (s - a)
  have i2 := St.Ris.drop hL (s - a)
  have j1 := St.Ris.take hR (mid - s)
  have j2 := St.Ris.drop hR (mid - s)
  rw [hM]
  generalize L.take (s - a) = L1 at *
  generalize L.drop (s - a) = L2 at *
  generalize R.take (mid - s) = R1 at *
  generalize R.drop (mid - s) = R2 at *
  subst eL eR
  rw [List.length_append, List.length_append] at hlen
  have nil : ∀ {l : List Wr}, l.length = 0 → l = [] := fun h => List.length_eq_zero_iff.1 h
  have ne : ∀ {l : List Wr}, 0 < l.length → l ≠ [] := fun h => List.length_pos_iff.1 h
  have lm : (St.mrg (ltOf cf) L1 R1).length = L1.length + R1.length := List.length_merge ..
  refine ⟨⟨fun hg W h => ?_, fun hg W h => ?_⟩, ⟨fun hg W h => ?_, fun hg W h => ?_⟩, ⟨fun hg W h => ?_, fun hg W h => ?_⟩⟩
  · refine (rotate_k K.four d0 w0 blk off cap s m en K.row (Nat.le_trans K.sz (by decide)) (P ++ L1) L2 R1 (R2 ++ Q) (ne (by omega)) (ne (by omega)) (by simp; omega) (by simp; omega) (by simp; omega) (by simp; omega) _ W (by simpa using h)).mono ?_
    rintro e W' ⟨rfl, h'⟩
    exact ⟨rfl, by simpa using h'⟩
  · have e1 : L2 ++ R1 = R1 ++ L2 := by
      by_cases h1 : s < m
      · rw [nil (l := R1) (by omega)]; simp
      · rw [nil (l := L2) (by omega)]; simp
    have e2 : P ++ (L1 ++ L2) ++ (R1 ++ R2) ++ Q = P ++ L1 ++ R1 ++ (L2 ++ R2 ++ Q) := by
      have : P ++ (L1 ++ L2) ++ (R1 ++ R2) ++ Q = P ++ L1 ++ (L2 ++ R1) ++ (R2 ++ Q) := by simp
      rw [this, e1]; simp
    rw [← e2]; exact h
  · refine (hIH a s mid cap P L1 R1 (L2 ++ R2 ++ Q) (by simp; omega) (ne (by omega)) (ne (by omega)) (by omega) i1 j1 ha (by omega) (by omega) W h).mono ?_
    rintro e W' ⟨rfl, h'⟩
    exact ⟨rfl, by simpa using h'⟩
  · have e1 : St.mrg (ltOf cf) L1 R1 = L1 ++ R1 := by
      by_cases h1 : a < s
      · rw [nil (l := R1) (by omega)]; simp [St.mrg]
      · rw [nil (l := L1) (by omega)]; simp [St.mrg]
    rw [e1]; simpa using h
  · refine (hIH mid en b cap (P ++ St.mrg (ltOf cf) L1 R1) L2 R2 Q (by rw [List.length_append, lm]; omega) (ne (by omega)) (ne (by omega)) (by omega) i2 j2 (by rw [List.length_append, lm]; omega) (by omega) (by omega) W h).mono ?_
    rintro e W' ⟨rfl, h'⟩
    exact ⟨rfl, by simpa using h'⟩
  · have e1 : St.mrg (ltOf cf) L2 R2 = L2 ++ R2 := by
      by_cases h1 : mid < en
      · rw [nil (l := R2) (by omega)]; simp [St.mrg]
      · rw [nil (l := L2) (by omega)]; simp [St.mrg]
    rw [e1]; simpa using h


set_option maxHeartbeats 16000000 in
theorem symMid_any {k : Nat} {d0 : Array Wr} {w0 : World} {blk off g : Nat} {cb : Array Value} {cf : Wr → Wr → Int} {N0 : Nat} (K : SortW k d0 w0 blk off g cb cf) (cap a m b : Nat) (hIH : ∀ (a m b cap : Nat) (P L R Q : List Wr), P.length + L.length + R.length + Q.length = d0.size → L ≠ [] → R ≠ [] → b - a < N0 → St.Ris (ltOf cf) L → St.Ris (ltOf cf) R → a = P.length → m = a + L.length → b = m + R.length → ∀ W, SWK wc k w0 blk off (P ++ L ++ R ++ Q).toArray W →
    Calls Tryd.prog 91 #[.slice (some ⟨blk, off, none⟩) d0.size cap, .int .i64 a, .int .i64 m, .int .i64 b, .func (.func g) #[] cb] W fun e W' => e = .returned (.tuple #[]) ∧ SWK wc k w0 blk off (P ++ St.mrg (ltOf cf) L R ++ Q).toArray W') (P L R Q : List Wr) (hRL : St.Ris (ltOf cf) L) (hRR : St.Ris (ltOf cf) R) (hlen : P.length + L.length + R.length + Q.length = d0.size) (h2l : 2 ≤ L.length) (h2r : 2 ≤ R.length)
    (ha : a = P.length) (hm : m = a + L.length) (hb : b = m + R.length) (hN0 : b - a ≤ N0) (W : World) (hW : SWK wc k w0 blk off (P ++ L ++ R ++ Q).toArray W) :
    Calls Tryd.prog 91 #[.slice (some ⟨blk, off, none⟩) d0.size cap, .int .i64 a, .int .i64 m, .int .i64 b, .func (.func g) #[] cb] W fun e W' => e = .returned (.tuple #[]) ∧ SWK wc k w0 blk off (P ++ St.mrg (ltOf cf) L R ++ Q).toArray W' := by
  have HK := Lib.hid K
  have HW := Lib.hid hW
  have HRis := Lib.hid (And.intro hRL hRR)
  have HI' := Lib.hid hIH
  have eg := K.fn
  have hsz := K.sz
  have zE := K.zE
  have aE := agg_write
  have HL := Lib.hid (And.intro ha (And.intro hm (And.intro hb hlen)))
  obtain ⟨n, hn⟩ : ∃ n, n = d0.size := ⟨_, rfl⟩
  have hma : a + 2 ≤ m := by omega
  have hmb : m + 2 ≤ b := by omega
  have hbn : b ≤ n := by omega
  have hma1 : ¬ ((m : Int) - (a : Int) = 1) := by omega
  have hma2 : ((m : Int) - (a : Int) == 1) = false := beq_eq_false_iff_ne.2 hma1
  have hbm1 : ¬ ((b : Int) - (m : Int) = 1) := by omega
  have hbm2 : ((b : Int) - (m : Int) == 1) = false := beq_eq_false_iff_ne.2 hbm1
  have HN := Lib.hid hn
  rw [← hn] at hsz
  obtain ⟨mid, hmid⟩ : ∃ mid : Nat, ((a : Int) + (b : Int)) / 2 = (mid : Int) := ⟨(a + b) / 2, by omega⟩
  have hmid1 : a + b ≤ 2 * mid + 1 := by omega
  have hmid2 : 2 * mid ≤ a + b := by omega
  have HF2 := Lib.hid (And.intro hmid1 (And.intro hmid2 (And.intro hma hmb)))
  obtain ⟨p, hp⟩ : ∃ p, p = mid + m - 1 := ⟨_, rfl⟩
  have ep : (mid : Int) + (m : Int) - 1 = (p : Int) := by omega
  have ep1 : p + 1 = mid + m := by omega
  clear hW K hRL hRR hlen ha hb hm h2l h2r hIH hp
  rw [← hn]
  clear hn
  have K := HK.out
  have HI0 := HI'.out
  have mixed : Tryd.prog.follows .mixedOrders = true := by kernel_rfl

  by_cases hgt : mid < m
  · have hgz : (m : Int) > (mid : Int) := by omega
    obtain ⟨st, hst⟩ : ∃ st, st = mid + m - b := ⟨_, rfl⟩
    have est : (mid : Int) + (m : Int) - (b : Int) = (st : Int) := by omega
    have HF := Lib.hid (show a ≤ st ∧ st ≤ mid ∧ mid ≤ mid ∧ mid ≤ m ∧ mid ≤ st + (b - m) ∧ (st = a ∨ mid = st + (b - m)) ∧ (mid = m ∨ mid = mid) by omega)
    clear hst
    clear HI0 K
    go_enter Tryd.func91, Tryd.ntmps91
    go_wp2
    go_loopw [20, 21] (fun v10 v11 wr => ∃ (s r : Nat), v10 = .int .i64 s ∧ v11 = .int .i64 r ∧ st ≤ s ∧ s ≤ r ∧ r ≤ mid ∧ Hid (st < s → ltOf cf R[mid - s]! L[s - 1 - a]! = false) ∧ Hid (r < mid → ltOf cf R[mid - 1 - r]! L[r - a]! = true) ∧ Aside (SWK wc k w0 blk off (P ++ L ++ R ++ Q).toArray wr)) (fun v10 v11 _ => (intOf v11).toNat - (intOf v10).toNat)
    case atStart => exact ⟨st, mid, rfl, rfl, Nat.le_refl _, HF.out.2.1, Nat.le_refl _, fun h => by omega, fun h => by omega, HW.out⟩
    case round =>
      obtain ⟨s, r, rfl, rfl, hss, hsr, hrr, HI, HJ, SW⟩ := hrel
      have hF := HF.out
      by_cases hlt : s < r
      · obtain ⟨h, hh⟩ : ∃ h : Nat, ((s : Int) + (r : Int)) / 2 = (h : Int) := ⟨(s + r) / 2, by omega⟩
        have h1 : s ≤ h := by omega
        have h2 : h < r := by omega
        obtain ⟨pc, hpc⟩ : ∃ pc, pc = p - h := ⟨_, rfl⟩
        have epc : (p : Int) - (h : Int) = (pc : Int) := by omega
        have hhn : (h : Int) < (n : Int) := by omega
        have hpn : (pc : Int) < (n : Int) := by omega
        have rh : IntKind.i64.wrap (h : Int) = (h : Int) := by rw [IntKind.wrap_i64]; omega
        have rpc : IntKind.i64.wrap (pc : Int) = (pc : Int) := by rw [IntKind.wrap_i64]; omega
        obtain ⟨dk, hdk⟩ : ∃ dk, dk = (P ++ L ++ R ++ Q).toArray := ⟨_, rfl⟩
        have hsk : dk.size = d0.size := by have := HL.out; rw [hdk]; simp; omega
        have SK := SW.out
        rw [← hdk] at SK
        obtain ⟨x, hx⟩ : ∃ x, x = dk[h]! := ⟨_, rfl⟩
        obtain ⟨y, hy⟩ : ∃ x, x = dk[pc]! := ⟨_, rfl⟩
        have hxL : x = L[h - a]! := by
          rw [hx, hdk, getA_left P L R Q (i := h - a) (by have := HL.out; omega) (by have := HL.out; omega)]
        have hyR : y = R[mid - 1 - h]! := by
          rw [hy, hdk, getA_right P L R Q (i := mid - 1 - h) (by have := HL.out; omega) (by have := HL.out; omega)]
        have l1 := SK.ld HK.out.row hsk Tryd.prog pc (by rw [hsk, ← HN.out]; omega)
        have l2 := SK.ld HK.out.row hsk Tryd.prog h (by rw [hsk, ← HN.out]; omega)
        have hc := SK.cmp HK.out.cmp hsk y x
        have HG := Lib.hid fun q os => SW.out.grown q os
        rw [← hy] at l1
        rw [← hx] at l2
        have HX := Lib.hid (And.intro hxL hyR)
        clear hxL hyR hy hx hdk hsk SK SW hpc hF
        by_cases hlv : cf y x < 0
        · have hd : decide (cf y x < 0) = true := decide_eq_true hlv
          have HD := Lib.hid (show ltOf cf y x = true from hd)
          go_wp2_with fail
          go_quiet_grown (first | (go_at_fn g; refine Calls.grown_of (hc _ _)))
          have S2 : Aside (SWK wc k w0 blk off (P ++ L ++ R ++ Q).toArray (grow (wr.drewN nq) osq)) := HG.out nq osq
          clear l1 l2 hc HG
          generalize grow (wr.drewN nq) osq = w2 at S2 ⊢
          go_wp2
          go_roundw
          case rel =>
            refine ⟨s, h, rfl, rfl, hss, h1, by omega, HI, fun _ => ?_, S2⟩
            have e := HD.out
            rw [HX.out.1, HX.out.2] at e
            exact e
          case measure => simp [intOf]; omega
        · have hd : decide (cf y x < 0) = false := decide_eq_false hlv
          have HD := Lib.hid (show ltOf cf y x = false from hd)
          go_wp2_with fail
          go_quiet_grown (first | (go_at_fn g; refine Calls.grown_of (hc _ _)))
          have S2 : Aside (SWK wc k w0 blk off (P ++ L ++ R ++ Q).toArray (grow (wr.drewN nq) osq)) := HG.out nq osq
          clear l1 l2 hc HG
          generalize grow (wr.drewN nq) osq = w2 at S2 ⊢
          go_wp2
          go_roundw
          case rel =>
            refine ⟨h + 1, r, by go_num, rfl, by omega, by omega, hrr, fun _ => ?_, HJ, S2⟩
            have e := HD.out
            rw [HX.out.1, HX.out.2] at e
            rw [show mid - (h + 1) = mid - 1 - h by omega, show h + 1 - 1 - a = h - a by omega]
            exact e
          case measure => simp [intOf]; omega
      · obtain rfl : s = r := by omega
        clear hlt hsr
        obtain ⟨en, hen⟩ : ∃ en, en = mid + m - s := ⟨_, rfl⟩
        have een : (mid : Int) + (m : Int) - (s : Int) = (en : Int) := by omega
        have hCut : St.Cut (ltOf cf) L R (s - a) (mid - s) := by
          have h5 := HL.out
          refine St.cut_of HK.out.swo HRis.out.1 HRis.out.2 (s0 := st - a) (r0 := mid - a) (by omega) (by omega) (by omega) (by omega) (fun h => by omega) (fun h => by omega) (fun h => ?_) (fun h => ?_)
          · have := HI.out (by omega)
            rwa [show s - 1 - a = s - a - 1 by omega] at this
          · exact ⟨by omega, by have := HJ.out (by omega); rwa [show mid - 1 - s = mid - s - 1 by omega] at this⟩
        obtain ⟨T1, T2, T3⟩ := mid_calls HK.out HI'.out cap P L R Q HRis.out.1 HRis.out.2 (by have := HL.out; omega) hCut (s := s) (en := en) (mid := mid) (a := a) (m := m) (b := b) HL.out.1 HL.out.2.1 HL.out.2.2.1 (by omega) (by omega) (by omega) (by have := HL.out; omega) (by omega) (by have := HF2.out; omega) (by have := HF2.out; omega) (by omega)
        have HT := Lib.hid (And.intro T1 (And.intro T2 T3))
        rw [← HN.out] at HT
        have S0 := SW.out
        have q1 : en ≤ b := by have := HL.out; omega
        have q2 : m ≤ en := by omega
        have q3 : a ≤ s := by omega
        have q4 : s ≤ mid := by omega
        have q5 : s ≤ m := by omega
        have HEN := Lib.hid hen
        clear SW HI HJ hCut T1 T2 T3 hF hen
        rcases Nat.lt_or_ge s m with A | A <;> rcases Nat.lt_or_ge s mid with B | B <;> rcases Nat.lt_or_ge a s with C | C <;> rcases Nat.lt_or_ge en b with D | D
        · by_cases hz : False; · exact hz.elim
          first
          | (exfalso; have := HEN.out; have := HF2.out; omega)
          | (have f1 : (s : Int) < (m : Int) := by have := HEN.out; omega
             have f2 : (m : Int) < (en : Int) := by have := HEN.out; omega
             have f3 : (a : Int) < (s : Int) := by have := HEN.out; omega
             have f4 : (s : Int) < (mid : Int) := by have := HEN.out; omega
             have f5 : (mid : Int) < (en : Int) := by have := HEN.out; omega
             have f6 : (en : Int) < (b : Int) := by have := HEN.out; omega
             go_wp2_with (first
               | (go_at_call 91; have h := S2; refine (HT.out.2.2.1 (by omega) _ h).mono ?_; rintro e w3 ⟨rfl, S3⟩)
               | (go_at_call 91; have h := S1; refine (HT.out.2.1.1 (by omega) _ h).mono ?_; rintro e w2 ⟨rfl, S2⟩)
               | (go_at_call 94; refine (HT.out.1.1 (by omega) _ S0).mono ?_; rintro e w1 ⟨rfl, S1⟩))
             go_end0
             have h9 := S3
             exact ⟨rfl, by first | exact h9 | (rw [List.append_assoc] at h9; exact h9)⟩)
        · by_cases hz : False; · exact hz.elim
          first
          | (exfalso; have := HEN.out; have := HF2.out; omega)
          | (have f1 : (s : Int) < (m : Int) := by have := HEN.out; omega
             have f2 : (m : Int) < (en : Int) := by have := HEN.out; omega
             have f3 : (a : Int) < (s : Int) := by have := HEN.out; omega
             have f4 : (s : Int) < (mid : Int) := by have := HEN.out; omega
             have f5 : (mid : Int) < (en : Int) := by have := HEN.out; omega
             have f6 : ¬ (en : Int) < (b : Int) := by have := HEN.out; omega
             go_wp2_with (first
               | (go_at_call 91; have h := S1; refine (HT.out.2.1.1 (by omega) _ h).mono ?_; rintro e w2 ⟨rfl, S2⟩)
               | (go_at_call 94; refine (HT.out.1.1 (by omega) _ S0).mono ?_; rintro e w1 ⟨rfl, S1⟩))
             go_end0
             have h9 := HT.out.2.2.2 (by omega) _ S2
             exact ⟨rfl, by first | exact h9 | (rw [List.append_assoc] at h9; exact h9)⟩)
        · by_cases hz : False; · exact hz.elim
          first
          | (exfalso; have := HEN.out; have := HF2.out; omega)
          | (have f1 : (s : Int) < (m : Int) := by have := HEN.out; omega
             have f2 : (m : Int) < (en : Int) := by have := HEN.out; omega
             have f3 : ¬ (a : Int) < (s : Int) := by have := HEN.out; omega
             have f4 : (s : Int) < (mid : Int) := by have := HEN.out; omega
             have f5 : (mid : Int) < (en : Int) := by have := HEN.out; omega
             have f6 : (en : Int) < (b : Int) := by have := HEN.out; omega
             go_wp2_with (first
               | (go_at_call 91; have h := S2; refine (HT.out.2.2.1 (by omega) _ h).mono ?_; rintro e w3 ⟨rfl, S3⟩)
               | (go_at_call 94; refine (HT.out.1.1 (by omega) _ S0).mono ?_; rintro e w1 ⟨rfl, S1⟩; have S2 := HT.out.2.1.2 (by omega) _ S1))
             go_end0
             have h9 := S3
             exact ⟨rfl, by first | exact h9 | (rw [List.append_assoc] at h9; exact h9)⟩)
        · by_cases hz : False; · exact hz.elim
          first
          | (exfalso; have := HEN.out; have := HF2.out; omega)
          | (have f1 : (s : Int) < (m : Int) := by have := HEN.out; omega
             have f2 : (m : Int) < (en : Int) := by have := HEN.out; omega
             have f3 : ¬ (a : Int) < (s : Int) := by have := HEN.out; omega
             have f4 : (s : Int) < (mid : Int) := by have := HEN.out; omega
             have f5 : (mid : Int) < (en : Int) := by have := HEN.out; omega
             have f6 : ¬ (en : Int) < (b : Int) := by have := HEN.out; omega
             go_wp2_with (first
               | (go_at_call 94; refine (HT.out.1.1 (by omega) _ S0).mono ?_; rintro e w1 ⟨rfl, S1⟩; have S2 := HT.out.2.1.2 (by omega) _ S1))
             go_end0
             have h9 := HT.out.2.2.2 (by omega) _ S2
             exact ⟨rfl, by first | exact h9 | (rw [List.append_assoc] at h9; exact h9)⟩)
        · by_cases hz : False; · exact hz.elim
          first
          | (exfalso; have := HEN.out; have := HF2.out; omega)
          | (have f1 : (s : Int) < (m : Int) := by have := HEN.out; omega
             have f2 : ¬ (m : Int) < (en : Int) := by have := HEN.out; omega
             have f3 : (a : Int) < (s : Int) := by have := HEN.out; omega
             have f4 : ¬ (s : Int) < (mid : Int) := by have := HEN.out; omega
             have f5 : (mid : Int) < (en : Int) := by have := HEN.out; omega
             have f6 : (en : Int) < (b : Int) := by have := HEN.out; omega
             have S1 := HT.out.1.2 (by omega) _ S0
             have S2 := HT.out.2.1.2 (by omega) _ S1
             go_wp2_with (first
               | (go_at_call 91; have h := S2; refine (HT.out.2.2.1 (by omega) _ h).mono ?_; rintro e w3 ⟨rfl, S3⟩))
             go_end0
             have h9 := S3
             exact ⟨rfl, by first | exact h9 | (rw [List.append_assoc] at h9; exact h9)⟩)
        · by_cases hz : False; · exact hz.elim
          first
          | (exfalso; have := HEN.out; have := HF2.out; omega)
          | (have f1 : (s : Int) < (m : Int) := by have := HEN.out; omega
             have f2 : ¬ (m : Int) < (en : Int) := by have := HEN.out; omega
             have f3 : (a : Int) < (s : Int) := by have := HEN.out; omega
             have f4 : ¬ (s : Int) < (mid : Int) := by have := HEN.out; omega
             have f5 : (mid : Int) < (en : Int) := by have := HEN.out; omega
             have f6 : ¬ (en : Int) < (b : Int) := by have := HEN.out; omega
             have S1 := HT.out.1.2 (by omega) _ S0
             have S2 := HT.out.2.1.2 (by omega) _ S1
             go_wp2
             go_end0
             have h9 := HT.out.2.2.2 (by omega) _ S2
             exact ⟨rfl, by first | exact h9 | (rw [List.append_assoc] at h9; exact h9)⟩)
        · by_cases hz : False; · exact hz.elim
          first
          | (exfalso; have := HEN.out; have := HF2.out; omega)
          | (have f1 : (s : Int) < (m : Int) := by have := HEN.out; omega
             have f2 : ¬ (m : Int) < (en : Int) := by have := HEN.out; omega
             have f3 : ¬ (a : Int) < (s : Int) := by have := HEN.out; omega
             have f4 : ¬ (s : Int) < (mid : Int) := by have := HEN.out; omega
             have f5 : (mid : Int) < (en : Int) := by have := HEN.out; omega
             have f6 : (en : Int) < (b : Int) := by have := HEN.out; omega
             have S1 := HT.out.1.2 (by omega) _ S0
             have S2 := HT.out.2.1.2 (by omega) _ S1
             go_wp2_with (first
               | (go_at_call 91; have h := S2; refine (HT.out.2.2.1 (by omega) _ h).mono ?_; rintro e w3 ⟨rfl, S3⟩))
             go_end0
             have h9 := S3
             exact ⟨rfl, by first | exact h9 | (rw [List.append_assoc] at h9; exact h9)⟩)
        · by_cases hz : False; · exact hz.elim
          first
          | (exfalso; have := HEN.out; have := HF2.out; omega)
          | (have f1 : (s : Int) < (m : Int) := by have := HEN.out; omega
             have f2 : ¬ (m : Int) < (en : Int) := by have := HEN.out; omega
             have f3 : ¬ (a : Int) < (s : Int) := by have := HEN.out; omega
             have f4 : ¬ (s : Int) < (mid : Int) := by have := HEN.out; omega
             have f5 : (mid : Int) < (en : Int) := by have := HEN.out; omega
             have f6 : ¬ (en : Int) < (b : Int) := by have := HEN.out; omega
             have S1 := HT.out.1.2 (by omega) _ S0
             have S2 := HT.out.2.1.2 (by omega) _ S1
             go_wp2
             go_end0
             have h9 := HT.out.2.2.2 (by omega) _ S2
             exact ⟨rfl, by first | exact h9 | (rw [List.append_assoc] at h9; exact h9)⟩)
        · by_cases hz : False; · exact hz.elim
          first
          | (exfalso; have := HEN.out; have := HF2.out; omega)
          | (have f1 : ¬ (s : Int) < (m : Int) := by have := HEN.out; omega
             have f2 : (m : Int) < (en : Int) := by have := HEN.out; omega
             have f3 : (a : Int) < (s : Int) := by have := HEN.out; omega
             have f4 : (s : Int) < (mid : Int) := by have := HEN.out; omega
             have f5 : ¬ (mid : Int) < (en : Int) := by have := HEN.out; omega
             have f6 : (en : Int) < (b : Int) := by have := HEN.out; omega
             have S1 := HT.out.1.2 (by omega) _ S0
             go_wp2_with (first
               | (go_at_call 91; have h := S1; refine (HT.out.2.1.1 (by omega) _ h).mono ?_; rintro e w2 ⟨rfl, S2⟩))
             go_end0
             have h9 := HT.out.2.2.2 (by omega) _ S2
             exact ⟨rfl, by first | exact h9 | (rw [List.append_assoc] at h9; exact h9)⟩)
        · by_cases hz : False; · exact hz.elim
          first
          | (exfalso; have := HEN.out; have := HF2.out; omega)
          | (have f1 : ¬ (s : Int) < (m : Int) := by have := HEN.out; omega
             have f2 : (m : Int) < (en : Int) := by have := HEN.out; omega
             have f3 : (a : Int) < (s : Int) := by have := HEN.out; omega
             have f4 : (s : Int) < (mid : Int) := by have := HEN.out; omega
             have f5 : ¬ (mid : Int) < (en : Int) := by have := HEN.out; omega
             have f6 : ¬ (en : Int) < (b : Int) := by have := HEN.out; omega
             have S1 := HT.out.1.2 (by omega) _ S0
             go_wp2_with (first
               | (go_at_call 91; have h := S1; refine (HT.out.2.1.1 (by omega) _ h).mono ?_; rintro e w2 ⟨rfl, S2⟩))
             go_end0
             have h9 := HT.out.2.2.2 (by omega) _ S2
             exact ⟨rfl, by first | exact h9 | (rw [List.append_assoc] at h9; exact h9)⟩)
        · by_cases hz : False; · exact hz.elim
          first
          | (exfalso; have := HEN.out; have := HF2.out; omega)
          | (have f1 : ¬ (s : Int) < (m : Int) := by have := HEN.out; omega
             have f2 : (m : Int) < (en : Int) := by have := HEN.out; omega
             have f3 : ¬ (a : Int) < (s : Int) := by have := HEN.out; omega
             have f4 : (s : Int) < (mid : Int) := by have := HEN.out; omega
             have f5 : ¬ (mid : Int) < (en : Int) := by have := HEN.out; omega
             have f6 : (en : Int) < (b : Int) := by have := HEN.out; omega
             have S1 := HT.out.1.2 (by omega) _ S0
             have S2 := HT.out.2.1.2 (by omega) _ S1
             go_wp2
             go_end0
             have h9 := HT.out.2.2.2 (by omega) _ S2
             exact ⟨rfl, by first | exact h9 | (rw [List.append_assoc] at h9; exact h9)⟩)
        · by_cases hz : False; · exact hz.elim
          first
          | (exfalso; have := HEN.out; have := HF2.out; omega)
          | (have f1 : ¬ (s : Int) < (m : Int) := by have := HEN.out; omega
             have f2 : (m : Int) < (en : Int) := by have := HEN.out; omega
             have f3 : ¬ (a : Int) < (s : Int) := by have := HEN.out; omega
             have f4 : (s : Int) < (mid : Int) := by have := HEN.out; omega
             have f5 : ¬ (mid : Int) < (en : Int) := by have := HEN.out; omega
             have f6 : ¬ (en : Int) < (b : Int) := by have := HEN.out; omega
             have S1 := HT.out.1.2 (by omega) _ S0
             have S2 := HT.out.2.1.2 (by omega) _ S1
             go_wp2
             go_end0
             have h9 := HT.out.2.2.2 (by omega) _ S2
             exact ⟨rfl, by first | exact h9 | (rw [List.append_assoc] at h9; exact h9)⟩)
        · by_cases hz : False; · exact hz.elim
          first
          | (exfalso; have := HEN.out; have := HF2.out; omega)
          | (have f1 : ¬ (s : Int) < (m : Int) := by have := HEN.out; omega
             have f2 : ¬ (m : Int) < (en : Int) := by have := HEN.out; omega
             have f3 : (a : Int) < (s : Int) := by have := HEN.out; omega
             have f4 : ¬ (s : Int) < (mid : Int) := by have := HEN.out; omega
             have f5 : ¬ (mid : Int) < (en : Int) := by have := HEN.out; omega
             have f6 : (en : Int) < (b : Int) := by have := HEN.out; omega
             have S1 := HT.out.1.2 (by omega) _ S0
             have S2 := HT.out.2.1.2 (by omega) _ S1
             go_wp2
             go_end0
             have h9 := HT.out.2.2.2 (by omega) _ S2
             exact ⟨rfl, by first | exact h9 | (rw [List.append_assoc] at h9; exact h9)⟩)
        · by_cases hz : False; · exact hz.elim
          first
          | (exfalso; have := HEN.out; have := HF2.out; omega)
          | (have f1 : ¬ (s : Int) < (m : Int) := by have := HEN.out; omega
             have f2 : ¬ (m : Int) < (en : Int) := by have := HEN.out; omega
             have f3 : (a : Int) < (s : Int) := by have := HEN.out; omega
             have f4 : ¬ (s : Int) < (mid : Int) := by have := HEN.out; omega
             have f5 : ¬ (mid : Int) < (en : Int) := by have := HEN.out; omega
             have f6 : ¬ (en : Int) < (b : Int) := by have := HEN.out; omega
             have S1 := HT.out.1.2 (by omega) _ S0
             have S2 := HT.out.2.1.2 (by omega) _ S1
             go_wp2
             go_end0
             have h9 := HT.out.2.2.2 (by omega) _ S2
             exact ⟨rfl, by first | exact h9 | (rw [List.append_assoc] at h9; exact h9)⟩)
        · by_cases hz : False; · exact hz.elim
          first
          | (exfalso; have := HEN.out; have := HF2.out; omega)
          | (have f1 : ¬ (s : Int) < (m : Int) := by have := HEN.out; omega
             have f2 : ¬ (m : Int) < (en : Int) := by have := HEN.out; omega
             have f3 : ¬ (a : Int) < (s : Int) := by have := HEN.out; omega
             have f4 : ¬ (s : Int) < (mid : Int) := by have := HEN.out; omega
             have f5 : ¬ (mid : Int) < (en : Int) := by have := HEN.out; omega
             have f6 : (en : Int) < (b : Int) := by have := HEN.out; omega
             have S1 := HT.out.1.2 (by omega) _ S0
             have S2 := HT.out.2.1.2 (by omega) _ S1
             go_wp2
             go_end0
             have h9 := HT.out.2.2.2 (by omega) _ S2
             exact ⟨rfl, by first | exact h9 | (rw [List.append_assoc] at h9; exact h9)⟩)
        · by_cases hz : False; · exact hz.elim
          first
          | (exfalso; have := HEN.out; have := HF2.out; omega)
          | (have f1 : ¬ (s : Int) < (m : Int) := by have := HEN.out; omega
             have f2 : ¬ (m : Int) < (en : Int) := by have := HEN.out; omega
             have f3 : ¬ (a : Int) < (s : Int) := by have := HEN.out; omega
             have f4 : ¬ (s : Int) < (mid : Int) := by have := HEN.out; omega
             have f5 : ¬ (mid : Int) < (en : Int) := by have := HEN.out; omega
             have f6 : ¬ (en : Int) < (b : Int) := by have := HEN.out; omega
             have S1 := HT.out.1.2 (by omega) _ S0
             have S2 := HT.out.2.1.2 (by omega) _ S1
             go_wp2
             go_end0
             have h9 := HT.out.2.2.2 (by omega) _ S2
             exact ⟨rfl, by first | exact h9 | (rw [List.append_assoc] at h9; exact h9)⟩)
  · have hgz : ¬ (m : Int) > (mid : Int) := by omega
    have HF := Lib.hid (show a ≤ a ∧ a ≤ m ∧ m ≤ mid ∧ m ≤ m ∧ mid ≤ a + (b - m) ∧ (a = a ∨ mid = a + (b - m)) ∧ (m = m ∨ m = mid) by omega)
    clear HI0 K
    go_enter Tryd.func91, Tryd.ntmps91
    go_wp2
    go_loopw [20, 21] (fun v10 v11 wr => ∃ (s r : Nat), v10 = .int .i64 s ∧ v11 = .int .i64 r ∧ a ≤ s ∧ s ≤ r ∧ r ≤ m ∧ Hid (a < s → ltOf cf R[mid - s]! L[s - 1 - a]! = false) ∧ Hid (r < m → ltOf cf R[mid - 1 - r]! L[r - a]! = true) ∧ Aside (SWK wc k w0 blk off (P ++ L ++ R ++ Q).toArray wr)) (fun v10 v11 _ => (intOf v11).toNat - (intOf v10).toNat)
    case atStart => exact ⟨a, m, rfl, rfl, Nat.le_refl _, HF.out.2.1, Nat.le_refl _, fun h => by omega, fun h => by omega, HW.out⟩
    case round =>
      obtain ⟨s, r, rfl, rfl, hss, hsr, hrr, HI, HJ, SW⟩ := hrel
      have hF := HF.out
      by_cases hlt : s < r
      · obtain ⟨h, hh⟩ : ∃ h : Nat, ((s : Int) + (r : Int)) / 2 = (h : Int) := ⟨(s + r) / 2, by omega⟩
        have h1 : s ≤ h := by omega
        have h2 : h < r := by omega
        obtain ⟨pc, hpc⟩ : ∃ pc, pc = p - h := ⟨_, rfl⟩
        have epc : (p : Int) - (h : Int) = (pc : Int) := by omega
        have hhn : (h : Int) < (n : Int) := by omega
        have hpn : (pc : Int) < (n : Int) := by omega
        have rh : IntKind.i64.wrap (h : Int) = (h : Int) := by rw [IntKind.wrap_i64]; omega
        have rpc : IntKind.i64.wrap (pc : Int) = (pc : Int) := by rw [IntKind.wrap_i64]; omega
        obtain ⟨dk, hdk⟩ : ∃ dk, dk = (P ++ L ++ R ++ Q).toArray := ⟨_, rfl⟩
        have hsk : dk.size = d0.size := by have := HL.out; rw [hdk]; simp; omega
        have SK := SW.out
        rw [← hdk] at SK
        obtain ⟨x, hx⟩ : ∃ x, x = dk[h]! := ⟨_, rfl⟩
        obtain ⟨y, hy⟩ : ∃ x, x = dk[pc]! := ⟨_, rfl⟩
        have hxL : x = L[h - a]! := by
          rw [hx, hdk, getA_left P L R Q (i := h - a) (by have := HL.out; omega) (by have := HL.out; omega)]
        have hyR : y = R[mid - 1 - h]! := by
          rw [hy, hdk, getA_right P L R Q (i := mid - 1 - h) (by have := HL.out; omega) (by have := HL.out; omega)]
        have l1 := SK.ld HK.out.row hsk Tryd.prog pc (by rw [hsk, ← HN.out]; omega)
        have l2 := SK.ld HK.out.row hsk Tryd.prog h (by rw [hsk, ← HN.out]; omega)
        have hc := SK.cmp HK.out.cmp hsk y x
        have HG := Lib.hid fun q os => SW.out.grown q os
        rw [← hy] at l1
        rw [← hx] at l2
        have HX := Lib.hid (And.intro hxL hyR)
        clear hxL hyR hy hx hdk hsk SK SW hpc hF
        by_cases hlv : cf y x < 0
        · have hd : decide (cf y x < 0) = true := decide_eq_true hlv
          have HD := Lib.hid (show ltOf cf y x = true from hd)
          go_wp2_with fail
          go_quiet_grown (first | (go_at_fn g; refine Calls.grown_of (hc _ _)))
          have S2 : Aside (SWK wc k w0 blk off (P ++ L ++ R ++ Q).toArray (grow (wr.drewN nq) osq)) := HG.out nq osq
          clear l1 l2 hc HG
          generalize grow (wr.drewN nq) osq = w2 at S2 ⊢
          go_wp2
          go_roundw
          case rel =>
            refine ⟨s, h, rfl, rfl, hss, h1, by omega, HI, fun _ => ?_, S2⟩
            have e := HD.out
            rw [HX.out.1, HX.out.2] at e
            exact e
          case measure => simp [intOf]; omega
        · have hd : decide (cf y x < 0) = false := decide_eq_false hlv
          have HD := Lib.hid (show ltOf cf y x = false from hd)
          go_wp2_with fail
          go_quiet_grown (first | (go_at_fn g; refine Calls.grown_of (hc _ _)))
          have S2 : Aside (SWK wc k w0 blk off (P ++ L ++ R ++ Q).toArray (grow (wr.drewN nq) osq)) := HG.out nq osq
          clear l1 l2 hc HG
          generalize grow (wr.drewN nq) osq = w2 at S2 ⊢
          go_wp2
          go_roundw
          case rel =>
            refine ⟨h + 1, r, by go_num, rfl, by omega, by omega, hrr, fun _ => ?_, HJ, S2⟩
            have e := HD.out
            rw [HX.out.1, HX.out.2] at e
            rw [show mid - (h + 1) = mid - 1 - h by omega, show h + 1 - 1 - a = h - a by omega]
            exact e
          case measure => simp [intOf]; omega
      · obtain rfl : s = r := by omega
        clear hlt hsr
        obtain ⟨en, hen⟩ : ∃ en, en = mid + m - s := ⟨_, rfl⟩
        have een : (mid : Int) + (m : Int) - (s : Int) = (en : Int) := by omega
        have hCut : St.Cut (ltOf cf) L R (s - a) (mid - s) := by
          have h5 := HL.out
          refine St.cut_of HK.out.swo HRis.out.1 HRis.out.2 (s0 := a - a) (r0 := m - a) (by omega) (by omega) (by omega) (by omega) (fun h => by omega) (fun h => by omega) (fun h => ?_) (fun h => ?_)
          · have := HI.out (by omega)
            rwa [show s - 1 - a = s - a - 1 by omega] at this
          · exact ⟨by omega, by have := HJ.out (by omega); rwa [show mid - 1 - s = mid - s - 1 by omega] at this⟩
        obtain ⟨T1, T2, T3⟩ := mid_calls HK.out HI'.out cap P L R Q HRis.out.1 HRis.out.2 (by have := HL.out; omega) hCut (s := s) (en := en) (mid := mid) (a := a) (m := m) (b := b) HL.out.1 HL.out.2.1 HL.out.2.2.1 (by omega) (by omega) (by omega) (by have := HL.out; omega) (by omega) (by have := HF2.out; omega) (by have := HF2.out; omega) (by omega)
        have HT := Lib.hid (And.intro T1 (And.intro T2 T3))
        rw [← HN.out] at HT
        have S0 := SW.out
        have q1 : en ≤ b := by have := HL.out; omega
        have q2 : m ≤ en := by omega
        have q3 : a ≤ s := by omega
        have q4 : s ≤ mid := by omega
        have q5 : s ≤ m := by omega
        have HEN := Lib.hid hen
        clear SW HI HJ hCut T1 T2 T3 hF hen
        rcases Nat.lt_or_ge s m with A | A <;> rcases Nat.lt_or_ge s mid with B | B <;> rcases Nat.lt_or_ge a s with C | C <;> rcases Nat.lt_or_ge en b with D | D
        · by_cases hz : False; · exact hz.elim
          first
          | (exfalso; have := HEN.out; have := HF2.out; omega)
          | (have f1 : (s : Int) < (m : Int) := by have := HEN.out; omega
             have f2 : (m : Int) < (en : Int) := by have := HEN.out; omega
             have f3 : (a : Int) < (s : Int) := by have := HEN.out; omega
             have f4 : (s : Int) < (mid : Int) := by have := HEN.out; omega
             have f5 : (mid : Int) < (en : Int) := by have := HEN.out; omega
             have f6 : (en : Int) < (b : Int) := by have := HEN.out; omega
             go_wp2_with (first
               | (go_at_call 91; have h := S2; refine (HT.out.2.2.1 (by omega) _ h).mono ?_; rintro e w3 ⟨rfl, S3⟩)
               | (go_at_call 91; have h := S1; refine (HT.out.2.1.1 (by omega) _ h).mono ?_; rintro e w2 ⟨rfl, S2⟩)
               | (go_at_call 94; refine (HT.out.1.1 (by omega) _ S0).mono ?_; rintro e w1 ⟨rfl, S1⟩))
             go_end0
             have h9 := S3
             exact ⟨rfl, by first | exact h9 | (rw [List.append_assoc] at h9; exact h9)⟩)
        · by_cases hz : False; · exact hz.elim
          first
          | (exfalso; have := HEN.out; have := HF2.out; omega)
          | (have f1 : (s : Int) < (m : Int) := by have := HEN.out; omega
             have f2 : (m : Int) < (en : Int) := by have := HEN.out; omega
             have f3 : (a : Int) < (s : Int) := by have := HEN.out; omega
             have f4 : (s : Int) < (mid : Int) := by have := HEN.out; omega
             have f5 : (mid : Int) < (en : Int) := by have := HEN.out; omega
             have f6 : ¬ (en : Int) < (b : Int) := by have := HEN.out; omega
             go_wp2_with (first
               | (go_at_call 91; have h := S1; refine (HT.out.2.1.1 (by omega) _ h).mono ?_; rintro e w2 ⟨rfl, S2⟩)
               | (go_at_call 94; refine (HT.out.1.1 (by omega) _ S0).mono ?_; rintro e w1 ⟨rfl, S1⟩))
             go_end0
             have h9 := HT.out.2.2.2 (by omega) _ S2
             exact ⟨rfl, by first | exact h9 | (rw [List.append_assoc] at h9; exact h9)⟩)
        · by_cases hz : False; · exact hz.elim
          first
          | (exfalso; have := HEN.out; have := HF2.out; omega)
          | (have f1 : (s : Int) < (m : Int) := by have := HEN.out; omega
             have f2 : (m : Int) < (en : Int) := by have := HEN.out; omega
             have f3 : ¬ (a : Int) < (s : Int) := by have := HEN.out; omega
             have f4 : (s : Int) < (mid : Int) := by have := HEN.out; omega
             have f5 : (mid : Int) < (en : Int) := by have := HEN.out; omega
             have f6 : (en : Int) < (b : Int) := by have := HEN.out; omega
             go_wp2_with (first
               | (go_at_call 91; have h := S2; refine (HT.out.2.2.1 (by omega) _ h).mono ?_; rintro e w3 ⟨rfl, S3⟩)
               | (go_at_call 94; refine (HT.out.1.1 (by omega) _ S0).mono ?_; rintro e w1 ⟨rfl, S1⟩; have S2 := HT.out.2.1.2 (by omega) _ S1))
             go_end0
             have h9 := S3
             exact ⟨rfl, by first | exact h9 | (rw [List.append_assoc] at h9; exact h9)⟩)
        · by_cases hz : False; · exact hz.elim
          first
          | (exfalso; have := HEN.out; have := HF2.out; omega)
          | (have f1 : (s : Int) < (m : Int) := by have := HEN.out; omega
             have f2 : (m : Int) < (en : Int) := by have := HEN.out; omega
             have f3 : ¬ (a : Int) < (s : Int) := by have := HEN.out; omega
             have f4 : (s : Int) < (mid : Int) := by have := HEN.out; omega
             have f5 : (mid : Int) < (en : Int) := by have := HEN.out; omega
             have f6 : ¬ (en : Int) < (b : Int) := by have := HEN.out; omega
             go_wp2_with (first
               | (go_at_call 94; refine (HT.out.1.1 (by omega) _ S0).mono ?_; rintro e w1 ⟨rfl, S1⟩; have S2 := HT.out.2.1.2 (by omega) _ S1))
             go_end0
             have h9 := HT.out.2.2.2 (by omega) _ S2
             exact ⟨rfl, by first | exact h9 | (rw [List.append_assoc] at h9; exact h9)⟩)
        · by_cases hz : False; · exact hz.elim
          first
          | (exfalso; have := HEN.out; have := HF2.out; omega)
          | (have f1 : (s : Int) < (m : Int) := by have := HEN.out; omega
             have f2 : ¬ (m : Int) < (en : Int) := by have := HEN.out; omega
             have f3 : (a : Int) < (s : Int) := by have := HEN.out; omega
             have f4 : ¬ (s : Int) < (mid : Int) := by have := HEN.out; omega
             have f5 : (mid : Int) < (en : Int) := by have := HEN.out; omega
             have f6 : (en : Int) < (b : Int) := by have := HEN.out; omega
             have S1 := HT.out.1.2 (by omega) _ S0
             have S2 := HT.out.2.1.2 (by omega) _ S1
             go_wp2_with (first
               | (go_at_call 91; have h := S2; refine (HT.out.2.2.1 (by omega) _ h).mono ?_; rintro e w3 ⟨rfl, S3⟩))
             go_end0
             have h9 := S3
             exact ⟨rfl, by first | exact h9 | (rw [List.append_assoc] at h9; exact h9)⟩)
        · by_cases hz : False; · exact hz.elim
          first
          | (exfalso; have := HEN.out; have := HF2.out; omega)
          | (have f1 : (s : Int) < (m : Int) := by have := HEN.out; omega
             have f2 : ¬ (m : Int) < (en : Int) := by have := HEN.out; omega
             have f3 : (a : Int) < (s : Int) := by have := HEN.out; omega
             have f4 : ¬ (s : Int) < (mid : Int) := by have := HEN.out; omega
             have f5 : (mid : Int) < (en : Int) := by have := HEN.out; omega
             have f6 : ¬ (en : Int) < (b : Int) := by have := HEN.out; omega
             have S1 := HT.out.1.2 (by omega) _ S0
             have S2 := HT.out.2.1.2 (by omega) _ S1
             go_wp2
             go_end0
             have h9 := HT.out.2.2.2 (by omega) _ S2
             exact ⟨rfl, by first | exact h9 | (rw [List.append_assoc] at h9; exact h9)⟩)
        · by_cases hz : False; · exact hz.elim
          first
          | (exfalso; have := HEN.out; have := HF2.out; omega)
          | (have f1 : (s : Int) < (m : Int) := by have := HEN.out; omega
             have f2 : ¬ (m : Int) < (en : Int) := by have := HEN.out; omega
             have f3 : ¬ (a : Int) < (s : Int) := by have := HEN.out; omega
             have f4 : ¬ (s : Int) < (mid : Int) := by have := HEN.out; omega
             have f5 : (mid : Int) < (en : Int) := by have := HEN.out; omega
             have f6 : (en : Int) < (b : Int) := by have := HEN.out; omega
             have S1 := HT.out.1.2 (by omega) _ S0
             have S2 := HT.out.2.1.2 (by omega) _ S1
             go_wp2_with (first
               | (go_at_call 91; have h := S2; refine (HT.out.2.2.1 (by omega) _ h).mono ?_; rintro e w3 ⟨rfl, S3⟩))
             go_end0
             have h9 := S3
             exact ⟨rfl, by first | exact h9 | (rw [List.append_assoc] at h9; exact h9)⟩)
        · by_cases hz : False; · exact hz.elim
          first
          | (exfalso; have := HEN.out; have := HF2.out; omega)
          | (have f1 : (s : Int) < (m : Int) := by have := HEN.out; omega
             have f2 : ¬ (m : Int) < (en : Int) := by have := HEN.out; omega
             have f3 : ¬ (a : Int) < (s : Int) := by have := HEN.out; omega
             have f4 : ¬ (s : Int) < (mid : Int) := by have := HEN.out; omega
             have f5 : (mid : Int) < (en : Int) := by have := HEN.out; omega
             have f6 : ¬ (en : Int) < (b : Int) := by have := HEN.out; omega
             have S1 := HT.out.1.2 (by omega) _ S0
             have S2 := HT.out.2.1.2 (by omega) _ S1
             go_wp2
             go_end0
             have h9 := HT.out.2.2.2 (by omega) _ S2
             exact ⟨rfl, by first | exact h9 | (rw [List.append_assoc] at h9; exact h9)⟩)
        · by_cases hz : False; · exact hz.elim
          first
          | (exfalso; have := HEN.out; have := HF2.out; omega)
          | (have f1 : ¬ (s : Int) < (m : Int) := by have := HEN.out; omega
             have f2 : (m : Int) < (en : Int) := by have := HEN.out; omega
             have f3 : (a : Int) < (s : Int) := by have := HEN.out; omega
             have f4 : (s : Int) < (mid : Int) := by have := HEN.out; omega
             have f5 : ¬ (mid : Int) < (en : Int) := by have := HEN.out; omega
             have f6 : (en : Int) < (b : Int) := by have := HEN.out; omega
             have S1 := HT.out.1.2 (by omega) _ S0
             go_wp2_with (first
               | (go_at_call 91; have h := S1; refine (HT.out.2.1.1 (by omega) _ h).mono ?_; rintro e w2 ⟨rfl, S2⟩))
             go_end0
             have h9 := HT.out.2.2.2 (by omega) _ S2
             exact ⟨rfl, by first | exact h9 | (rw [List.append_assoc] at h9; exact h9)⟩)
        · by_cases hz : False; · exact hz.elim
          first
          | (exfalso; have := HEN.out; have := HF2.out; omega)
          | (have f1 : ¬ (s : Int) < (m : Int) := by have := HEN.out; omega
             have f2 : (m : Int) < (en : Int) := by have := HEN.out; omega
             have f3 : (a : Int) < (s : Int) := by have := HEN.out; omega
             have f4 : (s : Int) < (mid : Int) := by have := HEN.out; omega
             have f5 : ¬ (mid : Int) < (en : Int) := by have := HEN.out; omega
             have f6 : ¬ (en : Int) < (b : Int) := by have := HEN.out; omega
             have S1 := HT.out.1.2 (by omega) _ S0
             go_wp2_with (first
               | (go_at_call 91; have h := S1; refine (HT.out.2.1.1 (by omega) _ h).mono ?_; rintro e w2 ⟨rfl, S2⟩))
             go_end0
             have h9 := HT.out.2.2.2 (by omega) _ S2
             exact ⟨rfl, by first | exact h9 | (rw [List.append_assoc] at h9; exact h9)⟩)
        · by_cases hz : False; · exact hz.elim
          first
          | (exfalso; have := HEN.out; have := HF2.out; omega)
          | (have f1 : ¬ (s : Int) < (m : Int) := by have := HEN.out; omega
             have f2 : (m : Int) < (en : Int) := by have := HEN.out; omega
             have f3 : ¬ (a : Int) < (s : Int) := by have := HEN.out; omega
             have f4 : (s : Int) < (mid : Int) := by have := HEN.out; omega
             have f5 : ¬ (mid : Int) < (en : Int) := by have := HEN.out; omega
             have f6 : (en : Int) < (b : Int) := by have := HEN.out; omega
             have S1 := HT.out.1.2 (by omega) _ S0
             have S2 := HT.out.2.1.2 (by omega) _ S1
             go_wp2
             go_end0
             have h9 := HT.out.2.2.2 (by omega) _ S2
             exact ⟨rfl, by first | exact h9 | (rw [List.append_assoc] at h9; exact h9)⟩)
        · by_cases hz : False; · exact hz.elim
          first
          | (exfalso; have := HEN.out; have := HF2.out; omega)
          | (have f1 : ¬ (s : Int) < (m : Int) := by have := HEN.out; omega
             have f2 : (m : Int) < (en : Int) := by have := HEN.out; omega
             have f3 : ¬ (a : Int) < (s : Int) := by have := HEN.out; omega
             have f4 : (s : Int) < (mid : Int) := by have := HEN.out; omega
             have f5 : ¬ (mid : Int) < (en : Int) := by have := HEN.out; omega
             have f6 : ¬ (en : Int) < (b : Int) := by have := HEN.out; omega
             have S1 := HT.out.1.2 (by omega) _ S0
             have S2 := HT.out.2.1.2 (by omega) _ S1
             go_wp2
             go_end0
             have h9 := HT.out.2.2.2 (by omega) _ S2
             exact ⟨rfl, by first | exact h9 | (rw [List.append_assoc] at h9; exact h9)⟩)
        · by_cases hz : False; · exact hz.elim
          first
          | (exfalso; have := HEN.out; have := HF2.out; omega)
          | (have f1 : ¬ (s : Int) < (m : Int) := by have := HEN.out; omega
             have f2 : ¬ (m : Int) < (en : Int) := by have := HEN.out; omega
             have f3 : (a : Int) < (s : Int) := by have := HEN.out; omega
             have f4 : ¬ (s : Int) < (mid : Int) := by have := HEN.out; omega
             have f5 : ¬ (mid : Int) < (en : Int) := by have := HEN.out; omega
             have f6 : (en : Int) < (b : Int) := by have := HEN.out; omega
             have S1 := HT.out.1.2 (by omega) _ S0
             have S2 := HT.out.2.1.2 (by omega) _ S1
             go_wp2
             go_end0
             have h9 := HT.out.2.2.2 (by omega) _ S2
             exact ⟨rfl, by first | exact h9 | (rw [List.append_assoc] at h9; exact h9)⟩)
        · by_cases hz : False; · exact hz.elim
          first
          | (exfalso; have := HEN.out; have := HF2.out; omega)
          | (have f1 : ¬ (s : Int) < (m : Int) := by have := HEN.out; omega
             have f2 : ¬ (m : Int) < (en : Int) := by have := HEN.out; omega
             have f3 : (a : Int) < (s : Int) := by have := HEN.out; omega
             have f4 : ¬ (s : Int) < (mid : Int) := by have := HEN.out; omega
             have f5 : ¬ (mid : Int) < (en : Int) := by have := HEN.out; omega
             have f6 : ¬ (en : Int) < (b : Int) := by have := HEN.out; omega
             have S1 := HT.out.1.2 (by omega) _ S0
             have S2 := HT.out.2.1.2 (by omega) _ S1
             go_wp2
             go_end0
             have h9 := HT.out.2.2.2 (by omega) _ S2
             exact ⟨rfl, by first | exact h9 | (rw [List.append_assoc] at h9; exact h9)⟩)
        · by_cases hz : False; · exact hz.elim
          first
          | (exfalso; have := HEN.out; have := HF2.out; omega)
          | (have f1 : ¬ (s : Int) < (m : Int) := by have := HEN.out; omega
             have f2 : ¬ (m : Int) < (en : Int) := by have := HEN.out; omega
             have f3 : ¬ (a : Int) < (s : Int) := by have := HEN.out; omega
             have f4 : ¬ (s : Int) < (mid : Int) := by have := HEN.out; omega
             have f5 : ¬ (mid : Int) < (en : Int) := by have := HEN.out; omega
             have f6 : (en : Int) < (b : Int) := by have := HEN.out; omega
             have S1 := HT.out.1.2 (by omega) _ S0
             have S2 := HT.out.2.1.2 (by omega) _ S1
             go_wp2
             go_end0
             have h9 := HT.out.2.2.2 (by omega) _ S2
             exact ⟨rfl, by first | exact h9 | (rw [List.append_assoc] at h9; exact h9)⟩)
        · by_cases hz : False; · exact hz.elim
          first
          | (exfalso; have := HEN.out; have := HF2.out; omega)
          | (have f1 : ¬ (s : Int) < (m : Int) := by have := HEN.out; omega
             have f2 : ¬ (m : Int) < (en : Int) := by have := HEN.out; omega
             have f3 : ¬ (a : Int) < (s : Int) := by have := HEN.out; omega
             have f4 : ¬ (s : Int) < (mid : Int) := by have := HEN.out; omega
             have f5 : ¬ (mid : Int) < (en : Int) := by have := HEN.out; omega
             have f6 : ¬ (en : Int) < (b : Int) := by have := HEN.out; omega
             have S1 := HT.out.1.2 (by omega) _ S0
             have S2 := HT.out.2.1.2 (by omega) _ S1
             go_wp2
             go_end0
             have h9 := HT.out.2.2.2 (by omega) _ S2
             exact ⟨rfl, by first | exact h9 | (rw [List.append_assoc] at h9; exact h9)⟩)

/-- slices.symMergeCmpFunc: two rising rows that stand beside one another are merged. -/
theorem symMerge_any {k : Nat} {d0 : Array Wr} {w0 : World} {blk off g : Nat} {cb : Array Value} {cf : Wr → Wr → Int} (K : SortW k d0 w0 blk off g cb cf) : ∀ (N0 : Nat) (a m b cap : Nat) (P L R Q : List Wr), P.length + L.length + R.length + Q.length = d0.size → L ≠ [] → R ≠ [] → b - a < N0 → St.Ris (ltOf cf) L → St.Ris (ltOf cf) R → a = P.length → m = a + L.length → b = m + R.length → ∀ W, SWK wc k w0 blk off (P ++ L ++ R ++ Q).toArray W →
    Calls Tryd.prog 91 #[.slice (some ⟨blk, off, none⟩) d0.size cap, .int .i64 a, .int .i64 m, .int .i64 b, .func (.func g) #[] cb] W fun e W' => e = .returned (.tuple #[]) ∧ SWK wc k w0 blk off (P ++ St.mrg (ltOf cf) L R ++ Q).toArray W'
  | 0, a, m, b, cap, P, L, R, Q, _, _, _, h, _, _, _, _, _, _, _ => absurd h (Nat.not_lt_zero _)
  | N0 + 1, a, m, b, cap, P, L, R, Q, hlen, hL, hR, hN, h1, h2, ha, hm, hb, W, hW => by
    have hL0 := List.length_pos_iff.2 hL
    have hR0 := List.length_pos_iff.2 hR
    by_cases e1 : L.length = 1
    · obtain ⟨x, rfl⟩ := List.length_eq_one_iff.1 e1
      exact symLeft_any K cap a m b P R Q x h2 (by simp at hlen ⊢; omega) ha (by simpa using hm) hb W hW
    · by_cases e2 : R.length = 1
      · obtain ⟨y, rfl⟩ := List.length_eq_one_iff.1 e2
        exact symRight_any K cap a m b P L Q y h1 (by simp at hlen ⊢; omega) (by omega) ha hm (by simpa using hb) W hW
      · exact symMid_any K cap a m b (symMerge_any K N0) P L R Q h1 h2 hlen (by omega) (by omega) ha hm hb (by omega) W hW
end Go.Proofs.YtnibkniggiokkaaDoor
