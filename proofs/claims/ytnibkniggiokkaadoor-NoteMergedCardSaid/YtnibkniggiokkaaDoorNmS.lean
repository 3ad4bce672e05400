/- Walks over slices.swapRangeCmpFunc, rotateCmpFunc at writes. -/
import Derived.Shelf.SlSortCmp.KitK
import Derived.Test.YtnibkniggiokkaaDoorMNm
import Derived.Test.YtnibkniggiokkaaDoorNtA
namespace Go.Proofs.YtnibkniggiokkaaDoor
open Go.RowKit Go.Shelf Go.Sort Go.Lib
set_option maxRecDepth 100000

theorem agg_write : ∀ w, (isAgg 46).run Tryd.prog w = .ok true w := fun _ => by kernel_rfl
theorem size_write : ∀ w, (Go.sizeOf 46).run Tryd.prog w = .ok 4 w := fun _ => by kernel_rfl

set_option maxHeartbeats 4000000 in
theorem swapRange_any (d0 : Array Wr) (w0 : World) (blk off cap a b n : Nat) (R : RowK wc 4 w0 blk off d0) (hsz : d0.size ≤ 8796093022208) (X A M B Y : List Wr) (hA : A.length = n) (hB : B.length = n) (hlen : (X ++ A ++ M ++ B ++ Y).length = d0.size)
    (ha : a = X.length) (hb : b = X.length + n + M.length) (fv : Value) (W : World) (hW : SWK wc 4 w0 blk off (X ++ A ++ M ++ B ++ Y).toArray W) :
    Calls Tryd.prog 105 #[.slice (some ⟨blk, off, none⟩) d0.size cap, .int .i64 a, .int .i64 b, .int .i64 n, fv] W fun e W' => e = .returned (.tuple #[]) ∧ SWK wc 4 w0 blk off (X ++ B ++ M ++ A ++ Y).toArray W' := by
  have hl2 : X.length + n + M.length + n + Y.length = d0.size := by rw [← hlen]; simp; omega
  have HR := Lib.hid R
  have HS := Lib.hid (show ∀ t, (St.srl X A M B Y t).length = d0.size from fun t => by rw [← hlen]; unfold St.srl; simp [hA, hB]; omega)
  have HW := Lib.hid (show SWK wc 4 w0 blk off (St.srl X A M B Y 0).toArray W by rw [St.srl_zero]; exact hW)
  have HE := Lib.hid (St.srl_end X A M B Y (t := n) (by omega) (by omega))
  have HST := Lib.hid fun t (ht : t < n) => St.srl_step X A M B Y hA hB ht (a := a + t) (b := b + t) (by omega) (by omega)
  have hb2 : b + n ≤ d0.size := by omega
  have ha2 : a + n ≤ d0.size := by omega
  clear hW hA hB hlen R ha hb hl2
  obtain ⟨k, hk4⟩ : ∃ k, 4 = k := ⟨_, rfl⟩
  rw [hk4] at HR HW
  have zE : ∀ w, (Go.sizeOf 46).run Tryd.prog w = .ok k w := fun w => by rw [← hk4]; exact size_write w
  have aE := agg_write
  have HK4 := Lib.hid hk4
  rw [show SWK wc 4 w0 blk off = SWK wc k w0 blk off by rw [hk4]]
  clear hk4
  have mixed : Tryd.prog.follows .mixedOrders = true := by kernel_rfl
  go_enter Tryd.func105, Tryd.ntmps105
  go_wp2
  go_loopw [10] (fun v10 wr => ∃ t : Nat, v10 = .int .i64 t ∧ t ≤ n ∧ Aside (SWK wc k w0 blk off (St.srl X A M B Y t).toArray wr)) (fun v10 _ => n - (intOf v10).toNat)
  case atStart => exact ⟨0, rfl, Nat.zero_le _, HW.out⟩
  case round =>
    obtain ⟨t, rfl, htn, SW⟩ := hrel
    by_cases hlt : t < n
    · obtain ⟨dk, hdk⟩ : ∃ dk, dk = (St.srl X A M B Y t).toArray := ⟨_, rfl⟩
      have hsk : dk.size = d0.size := by rw [hdk]; simp [HS.out]
      have SK := SW.out
      rw [← hdk] at SK
      obtain ⟨i, hi⟩ : ∃ i, i = a + t := ⟨_, rfl⟩
      obtain ⟨j, hj⟩ : ∃ j, j = b + t := ⟨_, rfl⟩
      have hi1 : i < dk.size := by omega
      have hj1 : j < dk.size := by omega
      have ei : (a : Int) + (t : Int) = (i : Int) := by omega
      have ej : (b : Int) + (t : Int) = (j : Int) := by omega
      have bi : (i : Int) < (d0.size : Int) := by omega
      have bj : (j : Int) < (d0.size : Int) := by omega
      have hlz : (t : Int) < (n : Int) := by omega
      have ri : IntKind.i64.wrap (i : Int) = (i : Int) := by rw [IntKind.wrap_i64]; omega
      have rj : IntKind.i64.wrap (j : Int) = (j : Int) := by rw [IntKind.wrap_i64]; omega
      obtain ⟨x, hx⟩ : ∃ x, x = dk[i]! := ⟨_, rfl⟩
      obtain ⟨y, hy⟩ : ∃ x, x = dk[j]! := ⟨_, rfl⟩
      have h1 := SK.ld1 HR.out hsk Tryd.prog i hi1
      have h2 := SK.ld1 HR.out hsk Tryd.prog j hj1
      have s1 := SK.st1 HR.out hsk Tryd.prog i hi1 y
      have s2 := SK.st2 HR.out hsk Tryd.prog i j hi1 hj1 y x
      have SP := Lib.hid (SK.swapped HR.out i j hi1 hj1)
      rw [← hx] at h1 SP
      rw [← hy] at h2 SP
      have HX := Lib.hid (show SWK wc k w0 blk off (St.srl X A M B Y (t + 1)).toArray _ from by
        have := SP.out
        rw [hdk, St.swp_list, hi, hj, HST.out t hlt, ← hi, ← hj] at this
        exact this)
      have hX1 : (wc x).length = k := HK4.out
      have hY1 : (wc y).length = k := HK4.out
      obtain ⟨cx, hcx⟩ : ∃ c, c = wc x := ⟨_, rfl⟩
      obtain ⟨cy, hcy⟩ : ∃ c, c = wc y := ⟨_, rfl⟩
      rw [← hcx] at h1 s2 hX1 HX
      rw [← hcy] at h2 s1 s2 hY1 HX
      clear hcx hcy hx hy SP SK SW hi hj hdk
      go_wp2
      go_big_region_o
      all_goals go_wp2
      go_roundw
      case rel => exact ⟨t + 1, by go_num, by omega, HX.out⟩
      case measure => simp [intOf]; omega
    · obtain rfl : t = n := by omega
      go_wp2
      go_end0
      exact ⟨rfl, by rw [← HE.out]; exact SW.out⟩

set_option maxHeartbeats 4000000 in
theorem rotate_any (d0 : Array Wr) (w0 : World) (blk off cap a m b : Nat) (R : RowK wc 4 w0 blk off d0) (hsz : d0.size ≤ 8796093022208) (P U V Q : List Wr) (hU : U ≠ []) (hV : V ≠ []) (hlen : (P ++ U ++ V ++ Q).length = d0.size)
    (ha : a = P.length) (hm : m = P.length + U.length) (hb : b = P.length + U.length + V.length) (fv : Value) (W : World) (hW : SWK wc 4 w0 blk off (P ++ U ++ V ++ Q).toArray W) :
    Calls Tryd.prog 94 #[.slice (some ⟨blk, off, none⟩) d0.size cap, .int .i64 a, .int .i64 m, .int .i64 b, fv] W fun e W' => e = .returned (.tuple #[]) ∧ SWK wc 4 w0 blk off (P ++ V ++ U ++ Q).toArray W' := by
  have hl2 : P.length + U.length + V.length + Q.length = d0.size := by rw [← hlen]; simp; omega
  have HR := Lib.hid R
  have HW := Lib.hid hW
  have e1 : (m : Int) - (a : Int) = (U.length : Nat) := by omega
  have e2 : (b : Int) - (m : Int) = (V.length : Nat) := by omega
  have hmb : m ≤ 8796093022208 := by omega
  have HL := Lib.hid (show m = P.length + U.length ∧ P.length + U.length + V.length + Q.length = d0.size from ⟨hm, hl2⟩)
  obtain ⟨T, hT⟩ : ∃ T, T = P ++ V ++ U ++ Q := ⟨_, rfl⟩
  have HT := Lib.hid hT
  rw [← hT]
  have HU := Lib.hid (List.length_pos_iff.2 hU)
  have HV := Lib.hid (List.length_pos_iff.2 hV)
  clear hW hlen R ha hb hl2 hm hT hU hV
  obtain ⟨u, hu⟩ : ∃ u, u = U.length := ⟨_, rfl⟩
  obtain ⟨v, hv⟩ : ∃ v, v = V.length := ⟨_, rfl⟩
  rw [← hu] at e1
  rw [← hv] at e2
  have HUV := Lib.hid (And.intro hu hv)
  have hub : u ≤ 8796093022208 := by have := HL.out; omega
  have hvb : v ≤ 8796093022208 := by have := HL.out; omega
  clear hu hv
  go_enter Tryd.func94, Tryd.ntmps94
  go_wp2
  go_loopw [10, 11] (fun v10 v11 wr => ∃ (i j : Nat) (P' U' V' Q' : List Wr), v10 = .int .i64 i ∧ v11 = .int .i64 j ∧ Hid (i = U'.length ∧ j = V'.length ∧ m = P'.length + i ∧ m + j + Q'.length = d0.size) ∧ 0 < i ∧ 0 < j ∧ Hid (P' ++ V' ++ U' ++ Q' = T) ∧ Aside (SWK wc 4 w0 blk off (P' ++ U' ++ V' ++ Q').toArray wr)) (fun v10 v11 _ => (intOf v10).toNat + (intOf v11).toNat)
  case atStart => exact ⟨u, v, P, U, V, Q, rfl, rfl, by have := HL.out; have := HUV.out; exact Lib.hid ⟨this.1, this.2, by omega, by omega⟩, by rw [HUV.out.1]; exact HU.out, by rw [HUV.out.2]; exact HV.out, HT.out.symm, HW.out⟩
  case round =>
    obtain ⟨i, j, P', U', V', Q', rfl, rfl, HN, hi0, hj0, HE, SW⟩ := hrel
    obtain ⟨n1, n2, n3, n4⟩ := HN.out
    obtain ⟨s, hs⟩ : ∃ s, s = m - i := ⟨_, rfl⟩
    have es : (m : Int) - (i : Int) = (s : Int) := by omega
    have hmj : m + j ≤ 8796093022208 := by omega
    have him : i ≤ m := by omega
    by_cases hij : i = j
    · subst hij
      have hc := swapRange_any d0 w0 blk off cap s m i HR.out hsz P' U' [] V' Q' n1.symm n2.symm (by simp; omega) (by omega) (by simp; omega) fv wr (by rw [List.append_nil]; exact SW.out)
      have HC := Lib.hid hc
      have HQ := Lib.hid (show P' ++ V' ++ [] ++ U' ++ Q' = T by rw [List.append_nil]; exact HE.out)
      clear hc n1 n2 n3 n4 hs HN SW
      go_wp2_with (go_at_call 105; refine HC.out.mono ?_; rintro e w1 ⟨rfl, hsw⟩)
      go_end0
      exact ⟨rfl, by rw [← HQ.out]; exact hsw⟩
    · have hne : ((i : Int) != (j : Int)) = true := bne_iff_ne.2 (by omega)
      by_cases hgt : j < i
      · have hgz : decide ((i : Int) > (j : Int)) = true := decide_eq_true (by omega)
        have eU : U'.take j ++ U'.drop j = U' := List.take_append_drop ..
        have hc := swapRange_any d0 w0 blk off cap s m j HR.out hsz P' (U'.take j) (U'.drop j) V' Q' (by simp; omega) n2.symm (by simp; omega) (by omega) (by simp; omega) fv wr (by rw [List.append_assoc P', eU]; exact SW.out)
        have HC := Lib.hid hc
        have HQ := Lib.hid (show (P' ++ V') ++ U'.take j ++ U'.drop j ++ Q' = T by rw [List.append_assoc (P' ++ V'), eU]; exact HE.out)
        have HN2 := Lib.hid (show i - j = (U'.drop j).length ∧ j = (U'.take j).length ∧ m = (P' ++ V').length + (i - j) ∧ m + j + Q'.length = d0.size from ⟨by simp; omega, by simp; omega, by simp; omega, n4⟩)
        clear hc n1 n2 n3 n4 hs HN SW eU
        go_wp2_with (go_at_call 105; refine HC.out.mono ?_; rintro e w1 ⟨rfl, hsw⟩)
        go_roundw
        case rel => exact ⟨i - j, j, P' ++ V', U'.drop j, U'.take j, Q', by go_num, rfl, HN2, by omega, hj0, HQ, hsw⟩
        case measure => simp [intOf]; omega
      · have hgz : decide ((i : Int) > (j : Int)) = false := decide_eq_false (by omega)
        have hlt : i < j := by omega
        obtain ⟨q, hq⟩ : ∃ q, q = m + j - i := ⟨_, rfl⟩
        have eq : (m : Int) + (j : Int) - (i : Int) = (q : Int) := by omega
        have eV : V'.take (j - i) ++ V'.drop (j - i) = V' := List.take_append_drop ..
        have hc := swapRange_any d0 w0 blk off cap s q i HR.out hsz P' U' (V'.take (j - i)) (V'.drop (j - i)) Q' n1.symm (by simp; omega) (by simp; omega) (by omega) (by simp; omega) fv wr (by rw [List.append_assoc (P' ++ U'), eV]; exact SW.out)
        have HC := Lib.hid hc
        have HQ := Lib.hid (show P' ++ V'.take (j - i) ++ V'.drop (j - i) ++ (U' ++ Q') = T by rw [List.append_assoc P', eV, ← List.append_assoc]; exact HE.out)
        have HN2 := Lib.hid (show i = (V'.drop (j - i)).length ∧ j - i = (V'.take (j - i)).length ∧ m = P'.length + i ∧ m + (j - i) + (U' ++ Q').length = d0.size from ⟨by simp; omega, by simp; omega, n3, by simp; omega⟩)
        clear hc n1 n2 n3 n4 hs HN SW eV hq
        go_wp2_with (go_at_call 105; refine HC.out.mono ?_; rintro e w1 ⟨rfl, hsw⟩)
        go_roundw
        case rel => exact ⟨i, j - i, P', V'.drop (j - i), V'.take (j - i), U' ++ Q', rfl, by go_num, HN2, hi0, by omega, HQ, (show SWK wc 4 w0 blk off (P' ++ V'.drop (j - i) ++ V'.take (j - i) ++ (U' ++ Q')).toArray w1 by rw [← List.append_assoc]; exact hsw)⟩
        case measure => simp [intOf]; omega
end Go.Proofs.YtnibkniggiokkaaDoor
