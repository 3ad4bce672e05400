/- Walk over slices.symMergeCmpFunc at writes: two rising rows beside one another become their merge. -/
import Derived.Test.YtnibkniggiokkaaDoorNmS
import Derived.Shelf.SlSortCmp.QuietGrown
import Derived.Shelf.SlSortCmp.PdqK
namespace Go.Proofs.YtnibkniggiokkaaDoor
open Go.RowKit Go.Shelf Go.Sort Go.Lib
set_option maxRecDepth 100000

/-- What a stable sort of writes is told, once. -/
structure SortW (k : Nat) (d0 : Array Wr) (w0 : World) (blk off g : Nat) (cb : Array Value) (cf : Wr → Wr → Int) : Prop where
  four : 4 = k
  row : RowK wc k w0 blk off d0
  cmp : CmpLays Tryd.prog g cb wc k cf blk off d0.size w0
  fn : ∀ args w, (callFunc g args).run Tryd.prog w = .ok (.enter g args) w
  sz : d0.size ≤ 1000000000
  swo : SWO (ltOf cf)
theorem SortW.zE {k : Nat} {d0 : Array Wr} {w0 : World} {blk off g : Nat} {cb : Array Value} {cf : Wr → Wr → Int} (h : SortW k d0 w0 blk off g cb cf) : ∀ w, (Go.sizeOf 46).run Tryd.prog w = .ok k w := fun w => by rw [← h.four]; exact size_write w
theorem getA_left (P L R Q : List Wr) {i j : Nat} (h : i < L.length) (hj : j = P.length + i) : (P ++ L ++ R ++ Q).toArray[j]! = L[i]! := by
  subst hj
  rw [List.getElem!_toArray, List.append_assoc (P ++ L)]
  exact St.get_left P L (R ++ Q) h
theorem getA_right (P L R Q : List Wr) {i j : Nat} (h : i < R.length) (hj : j = P.length + L.length + i) : (P ++ L ++ R ++ Q).toArray[j]! = R[i]! := by
  subst hj
  rw [List.getElem!_toArray]
  exact St.get_right P L R Q h

theorem rotate_k {k : Nat} (hk4 : 4 = k) (d0 : Array Wr) (w0 : World) (blk off cap a m b : Nat) (R : RowK wc k w0 blk off d0) (hsz : d0.size ≤ 8796093022208) (P U V Q : List Wr) (hU : U ≠ []) (hV : V ≠ []) (hlen : (P ++ U ++ V ++ Q).length = d0.size)
    (ha : a = P.length) (hm : m = P.length + U.length) (hb : b = P.length + U.length + V.length) (fv : Value) (W : World) (hW : SWK wc k w0 blk off (P ++ U ++ V ++ Q).toArray W) :
    Calls Tryd.prog 94 #[.slice (some ⟨blk, off, none⟩) d0.size cap, .int .i64 a, .int .i64 m, .int .i64 b, fv] W fun e W' => e = .returned (.tuple #[]) ∧ SWK wc k w0 blk off (P ++ V ++ U ++ Q).toArray W' := by
  subst hk4
  exact rotate_any d0 w0 blk off cap a m b R hsz P U V Q hU hV hlen ha hm hb fv W hW

set_option maxHeartbeats 4000000 in
theorem symLeft_any {k : Nat} {d0 : Array Wr} {w0 : World} {blk off g : Nat} {cb : Array Value} {cf : Wr → Wr → Int} (K : SortW k d0 w0 blk off g cb cf) (cap a m b : Nat) (P R Q : List Wr) (x : Wr) (hRis : St.Ris (ltOf cf) R) (hlen : (P ++ [x] ++ R ++ Q).length = d0.size)
    (ha : a = P.length) (hm : m = a + 1) (hb : b = m + R.length) (W : World) (hW : SWK wc k w0 blk off (P ++ [x] ++ R ++ Q).toArray W) :
    Calls Tryd.prog 91 #[.slice (some ⟨blk, off, none⟩) d0.size cap, .int .i64 a, .int .i64 m, .int .i64 b, .func (.func g) #[] cb] W fun e W' => e = .returned (.tuple #[]) ∧ SWK wc k w0 blk off (P ++ St.mrg (ltOf cf) [x] R ++ Q).toArray W' := by
  have hl2 : P.length + 1 + R.length + Q.length = d0.size := by rw [← hlen]; simp; omega
  have HK := Lib.hid K
  have HW := Lib.hid hW
  have HRis := Lib.hid hRis
  have eg := K.fn
  have hsz := K.sz
  have zE := K.zE
  have aE := agg_write
  have HL := Lib.hid (And.intro ha (And.intro hm (And.intro hb hl2)))
  obtain ⟨n, hn⟩ : ∃ n, n = d0.size := ⟨_, rfl⟩
  have hmb : m ≤ b := by omega
  have hbn : b ≤ n := by omega
  have hma : (m : Int) - (a : Int) = 1 := by omega
  have ham : a + 1 = m := by omega
  have HLS := Lib.hid (show ∀ t, (St.mvl P R x Q t).toArray.size = d0.size from fun t => by rw [← hlen]; simp [St.mvl]; omega)
  have HN := Lib.hid hn
  rw [← hn] at hsz
  have an : (a : Int) < (n : Int) := by omega
  have ra : IntKind.i64.wrap (a : Int) = (a : Int) := by rw [IntKind.wrap_i64]; omega
  clear hW K hRis hlen ha hb hl2 hm
  rw [← hn]
  clear hn
  have mixed : Tryd.prog.follows .mixedOrders = true := by kernel_rfl
  go_enter Tryd.func91, Tryd.ntmps91
  go_wp2
  go_loopw [10, 11] (fun v10 v11 wr => ∃ (i j : Nat), v10 = .int .i64 i ∧ v11 = .int .i64 j ∧ m ≤ i ∧ i ≤ j ∧ j ≤ b ∧ Hid (∀ u, u < i - m → ltOf cf R[u]! x = true) ∧ Hid (∀ u, j - m ≤ u → u < R.length → ltOf cf R[u]! x = false) ∧ Aside (SWK wc k w0 blk off (P ++ [x] ++ R ++ Q).toArray wr)) (fun v10 v11 _ => (intOf v11).toNat - (intOf v10).toNat)
  case atStart => exact ⟨m, b, rfl, rfl, Nat.le_refl _, hmb, Nat.le_refl _, fun u h => by omega, fun u h1 h2 => by have := HL.out; omega, HW.out⟩
  case round =>
    obtain ⟨i, j, rfl, rfl, hmi, hij, hjb, HI, HJ, SW⟩ := hrel
    by_cases hlt : i < j
    · obtain ⟨h, hh⟩ : ∃ h : Nat, ((i : Int) + (j : Int)) / 2 = (h : Int) := ⟨(i + j) / 2, by omega⟩
      have h1 : i ≤ h := by omega
      have h2 : h < j := by omega
      have hhn : (h : Int) < (n : Int) := by omega
      have rh : IntKind.i64.wrap (h : Int) = (h : Int) := by rw [IntKind.wrap_i64]; omega
      obtain ⟨dk, hdk⟩ : ∃ dk, dk = (P ++ [x] ++ R ++ Q).toArray := ⟨_, rfl⟩
      have hsk : dk.size = d0.size := by have := HLS.out 0; rw [hdk]; simp [St.mvl] at this; simp; omega
      have SK := SW.out
      rw [← hdk] at SK
      obtain ⟨y, hy⟩ : ∃ y, y = dk[h]! := ⟨_, rfl⟩
      have hx : x = dk[a]! := by
        rw [hdk, getA_left P [x] R Q (i := 0) (by simp) (by have := HL.out; omega)]; rfl
      have hyR : y = R[h - m]! := by
        rw [hy, hdk, getA_right P [x] R Q (i := h - m) (by have := HL.out; omega) (by have := HL.out; simp; omega)]
      have l1 := SK.ld HK.out.row hsk Tryd.prog h (by rw [hsk, ← HN.out]; omega)
      have l2 := SK.ld HK.out.row hsk Tryd.prog a (by rw [hsk, ← HN.out]; omega)
      have hc := SK.cmp HK.out.cmp hsk y x
      have HG := Lib.hid fun q os => SW.out.grown q os
      rw [← hy] at l1
      rw [← hx] at l2
      have HY := Lib.hid hyR
      clear hyR hy hx hdk hsk SK SW
      by_cases hlv : cf y x < 0
      · have hd : decide (cf y x < 0) = true := decide_eq_true hlv
        have HD := Lib.hid (show ltOf cf y x = true from hd)
        go_wp2_with fail
        go_quiet_grown (first | (go_at_fn g; refine Calls.grown_of (hc _ _)))
        have S2 : Aside (SWK wc k w0 blk off (P ++ [x] ++ R ++ Q).toArray (grow (wr.drewN nq) osq)) := HG.out nq osq
        clear l1 l2 hc HG
        generalize grow (wr.drewN nq) osq = w2 at S2 ⊢
        go_wp2
        go_roundw
        case rel =>
          refine ⟨h + 1, j, by go_num, rfl, by omega, by omega, hjb, fun u hu => ?_, HJ, S2⟩
          have e := HD.out
          rw [HY.out] at e
          rcases Nat.lt_or_ge u (h - m) with h3 | h3
          · rcases Bool.eq_false_or_eq_true (ltOf cf R[u]! x) with h4 | h4
            · exact h4
            · exfalso
              have h5 := St.ris_get HK.out.swo HRis.out (show u ≤ h - m by omega) (by have := HL.out; omega)
              have := HK.out.swo.ntrans _ _ _ h5 h4
              rw [e] at this; cases this
          · obtain rfl : u = h - m := by omega
            exact e
        case measure => simp [intOf]; omega
      · have hd : decide (cf y x < 0) = false := decide_eq_false hlv
        have HD := Lib.hid (show ltOf cf y x = false from hd)
        go_wp2_with fail
        go_quiet_grown (first | (go_at_fn g; refine Calls.grown_of (hc _ _)))
        have S2 : Aside (SWK wc k w0 blk off (P ++ [x] ++ R ++ Q).toArray (grow (wr.drewN nq) osq)) := HG.out nq osq
        clear l1 l2 hc HG
        generalize grow (wr.drewN nq) osq = w2 at S2 ⊢
        go_wp2
        go_roundw
        case rel =>
          refine ⟨i, h, rfl, rfl, hmi, h1, by omega, HI, fun u hu hu2 => ?_, S2⟩
          have e := HD.out
          rw [HY.out] at e
          have h5 := St.ris_get HK.out.swo HRis.out (show h - m ≤ u by omega) hu2
          exact HK.out.swo.ntrans _ _ _ h5 e
        case measure => simp [intOf]; omega
    · obtain rfl : i = j := by omega
      clear hlt hij
      have HE := Lib.hid (show P ++ (R.take (i - m) ++ x :: R.drop (i - m)) ++ Q = P ++ St.mrg (ltOf cf) [x] R ++ Q by
        have := St.merge_left (lt := ltOf cf) x (R.take (i - m)) (R.drop (i - m)) (fun r hr => by
          obtain ⟨u, hu, rfl⟩ := List.getElem_of_mem hr
          simp at hu
          rw [List.getElem_take]
          have := HI.out u (by omega)
          rwa [getElem!_pos R u (by omega)] at this) (fun r hr => by
          obtain ⟨u, hu, rfl⟩ := List.getElem_of_mem hr
          simp at hu
          rw [List.getElem_drop]
          have := HJ.out (i - m + u) (by omega) (by omega)
          rwa [getElem!_pos R _ (by omega)] at this)
        rw [List.take_append_drop] at this
        rw [this])
      clear HI HJ
      go_wp2
      go_loopw [13] (fun v13 wr => ∃ (q t : Nat), v13 = .int .i64 q ∧ Hid (q = a + t) ∧ a ≤ q ∧ q + 1 ≤ i ∧ Aside (SWK wc k w0 blk off (St.mvl P R x Q t).toArray wr)) (fun v13 _ => i - (intOf v13).toNat)
      case atStart => exact ⟨a, 0, rfl, rfl, Nat.le_refl _, by omega, (by simpa [St.mvl] using SW)⟩
      case round =>
        clear SW
        obtain ⟨q, t, rfl, HT, haq, hqi, SW⟩ := hrel
        by_cases hlt : q + 1 < i
        · have hltz : (q : Int) < (i : Int) - 1 := by omega
          obtain ⟨dk, hdk⟩ : ∃ dk, dk = (St.mvl P R x Q t).toArray := ⟨_, rfl⟩
          have hsk : dk.size = d0.size := by rw [hdk]; exact HLS.out t
          have SK := SW.out
          rw [← hdk] at SK
          obtain ⟨p, hp⟩ : ∃ p, p = q + 1 := ⟨_, rfl⟩
          have hn2 := HN.out
          have hi1 : q < dk.size := by omega
          have hj1 : p < dk.size := by omega
          have ep : (q : Int) + 1 = (p : Int) := by omega
          have bi : (q : Int) < (n : Int) := by omega
          have bj : (p : Int) < (n : Int) := by omega
          have ri : IntKind.i64.wrap (q : Int) = (q : Int) := by rw [IntKind.wrap_i64]; omega
          have rj : IntKind.i64.wrap (p : Int) = (p : Int) := by rw [IntKind.wrap_i64]; omega
          obtain ⟨u, hu⟩ : ∃ x, x = dk[q]! := ⟨_, rfl⟩
          obtain ⟨v, hv⟩ : ∃ x, x = dk[p]! := ⟨_, rfl⟩
          have h1 := SK.ld1 HK.out.row hsk Tryd.prog q hi1
          have h2 := SK.ld1 HK.out.row hsk Tryd.prog p hj1
          have s1 := SK.st1 HK.out.row hsk Tryd.prog q hi1 v
          have s2 := SK.st2 HK.out.row hsk Tryd.prog q p hi1 hj1 v u
          have SP := Lib.hid (SK.swapped HK.out.row q p hi1 hj1)
          rw [← hu] at h1 SP
          rw [← hv] at h2 SP
          have HX := Lib.hid (show SWK wc k w0 blk off (St.mvl P R x Q (t + 1)).toArray _ from by
            have h3 := SP.out
            have h4 := HT.out
            have h5 := HL.out
            rw [hdk, St.swp_list, St.mvl_up P R x Q (t := t) (by omega) (by omega) (by omega)] at h3
            exact h3)
          have hX1 : (wc u).length = k := HK.out.row.hk u
          have hY1 : (wc v).length = k := HK.out.row.hk v
          obtain ⟨cu, hcu⟩ : ∃ c, c = wc u := ⟨_, rfl⟩
          obtain ⟨cv, hcv⟩ : ∃ c, c = wc v := ⟨_, rfl⟩
          rw [← hcu] at h1 s2 hX1 HX
          rw [← hcv] at h2 s1 s2 hY1 HX
          have HP := Lib.hid hp
          clear hcu hcv hu hv SP SK SW hdk hp hn2
          go_wp2
          go_big_region_o
          all_goals go_wp2
          go_roundw
          case rel => exact ⟨p, t + 1, by go_num, by have := HT.out; have := HP.out; show _ = _; omega, by omega, by have := HP.out; omega, HX.out⟩
          case measure => have := HP.out; simp [intOf]; omega
        · have hlt2 : ¬ (q : Int) < (i : Int) - 1 := by omega
          go_wp2
          refine bodyPost_ret (results_none rfl _ _ _) rfl ?_
          refine ⟨rfl, ?_⟩
          have e := HE.out
          rw [show i - m = t by have := HT.out; omega] at e
          rw [List.append_assoc] at e
          have h := SW.out
          unfold St.mvl at h
          rw [List.append_assoc, e, List.append_assoc] at h
          exact h
end Go.Proofs.YtnibkniggiokkaaDoor
