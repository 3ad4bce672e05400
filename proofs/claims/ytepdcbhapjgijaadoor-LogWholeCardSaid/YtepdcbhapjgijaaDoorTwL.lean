/- Walk over trust.joined. -/
import Derived.Test.YtepdcbhapjgijaaDoorTwK
import Derived.Test.YtepdcbhapjgijaaDoorTwJ
import Derived.Test.YtepdcbhapjgijaaDoorMTr
import Derived.BigQuiet
namespace Go.Proofs.YtepdcbhapjgijaaDoor
open Go.RowKit
set_option maxRecDepth 100000

theorem jstep_nil (x : Zn) : jstep [] x = [x] := rfl
theorem jstep_snoc (l : List Zn) (y x : Zn) : jstep (l ++ [y]) x = if y.1.2 + 1 = x.1.1 ∧ y.2 = x.2 then l ++ [((y.1.1, x.1.2), x.2)] else l ++ [y] ++ [x] := by
  unfold jstep
  rw [List.getLast?_append]
  simp
theorem zvv_set_last (u : List (ZV × Zn)) (v : ZV) (lo hi h2 : Int) (x : List Vc.St) : (zvv (u ++ [(v, (lo, hi), x)])).set (u.length * 3 + 1) (.int .i64 h2) = zvv (u ++ [(v, (lo, h2), x)]) := by
  rw [zvv_app, zvv_app, List.set_append, if_neg (by rw [zvv_len]; omega), zvv_len]
  rw [show u.length * 3 + 1 - u.length * 3 = 1 by omega]; rfl
/-- The zones put together so far. -/
structure JoI (w1 : World) (A : Option Addr) (k c : Nat) (Z : List Zn) (M : List (ZV × Zn)) (W : World) : Prop where
  row : W.ownsRow w1.heap.size 62 3 (.slice A k c) k (zvv M)
  el : ∀ p ∈ M, p.2.2.length = p.1.n ∧ Rd w1 w1.heap.size 2 p.1.A p.1.n p.1.c (sv p.2.2)
  hi : ∀ p ∈ M, -1 ≤ p.2.1.2 ∧ p.2.1.2 ≤ 255
  z : zns M = Z
theorem JoI.len {w1 W : World} {A : Option Addr} {k c : Nat} {Z : List Zn} {M : List (ZV × Zn)} (h : JoI w1 A k c Z M W) : M.length = k := by
  have := h.row.1
  rw [zvv_len] at this; omega

set_option maxHeartbeats 8000000 in
theorem joined_any (base n c : Nat) (A : Option Addr) (L : List (ZV × Zn)) (w : World) (hL : OwnZ w base A n c L) (hb : ∀ p ∈ L, (0 ≤ p.2.1.1 ∧ p.2.1.1 ≤ 255) ∧ (-1 ≤ p.2.1.2 ∧ p.2.1.2 ≤ 255)) (hn : n ≤ 3518437208883) (hbase : base ≤ w.heap.size) :
    Calls Tryd.prog 33 #[.slice A n c] w fun e w' => ∃ A' k' c' M, e = .returned (.slice A' k' c') ∧ RdZ w' w'.heap.size A' k' c' M ∧ (∃ m, (zns L).Perm m ∧ (m.Pairwise fun a b => a.1.1 ≤ b.1.1) ∧ zns M = joinedZ m) ∧ Below base w w' ∧ KeepsFrom 0 w w' := by
  have hs : Calls Tryd.prog 54 #[.slice A n c, .func (.func 55) #[] #[]] w fun e w' => e = .returned (.tuple #[]) ∧ Below base w w' ∧ KeepsFrom 0 w w' ∧ ∃ L', List.Perm L L' ∧ (L'.Pairwise fun x y => x.2.1.1 ≤ y.2.1.1) ∧ OwnZ w' base A n c L' := by
    obtain ⟨A', c', hv, h1, h2⟩ := own_form hL.row
    injection hv with hv1 _ hv3
    subst hv1 hv3
    rcases A with _ | a
    · obtain ⟨rfl, rfl⟩ := h1 rfl
      refine (sortNilZ_any _ w).mono fun e w' ⟨he, hw⟩ => ?_
      subst hw
      obtain rfl : L = [] := List.eq_nil_of_length_eq_zero hL.len
      exact ⟨he, Below.refl _ _, KeepsFrom.refl _ _, [], List.Perm.refl _, List.Pairwise.nil, hL⟩
    · obtain ⟨g, rfl, hg, hg2⟩ := h2 a rfl
      refine (sortZ_own base g n c L (fun p hp => (hb p hp).1) w hL (by omega)).mono fun e w' ⟨he, L', p1, p2, p3, p4⟩ => ?_
      have hcl : ∃ cur, w.heap[g]? = some (.cells cur 62 (0, 0)) := by
        rcases hL.row.2 with h | ⟨g2, cap, cur, hv2, _, hgb, _⟩
        · exact absurd h.1 (by simp)
        · injection hv2 with e1 _ _
          injection e1 with e1
          injection e1 with e1
          subst e1
          exact ⟨cur, hgb⟩
      obtain ⟨cur, hcl⟩ := hcl
      exact ⟨he, grown_below p4 (by omega) (fun k hk => by cases hk; exact hg), (KeepsOthers.of_grownBy p4 (fun j o ej hj => by cases ej; rw [hcl] at hj; cases hj; rfl)).from _, L', p1, p2, p3⟩
  obtain ⟨i0, hi0, hz0, hz1, hz2⟩ := info_parts zone_info
  have h1max : 1 ≤ maxLen := by unfold maxLen; omega
  have HS := Lib.hid hs
  have HB := Lib.hid hb
  clear hs hL hb
  go_enter Tryd.func33, Tryd.ntmps33
  go_wp2_with fail
  refine HS.out.mono ?_
  rintro e w1 ⟨rfl, hb1, hkf, L', hp, hr, hL1⟩
  have HKF := Lib.hid hkf
  have HP := Lib.hid hp
  have HRI := Lib.hid hr
  have HB1 := Lib.hid hb1
  have HL1 := Lib.hid hL1
  have HLN := Lib.hid hL1.len
  have HBL := Lib.hid fun p (h : p ∈ L') => HB.out p (hp.mem_iff.2 h)
  clear hp hr hb1 hL1 hkf HS HB
  go_wp2
  go_loopw [3, 11] (fun v3 v11 wr => ∃ (i k c' : Nat) (A' : Option Addr), v11 = .int .i64 i ∧ v3 = .slice A' k c' ∧ i ≤ n ∧ k ≤ i ∧ Below w1.heap.size w1 wr ∧ Hid (∃ M, JoI w1 A' k c' (((zns L').take i).foldl jstep []) M wr)) (fun _ v11 _ => n - (intOf v11).toNat)
  case atStart => exact ⟨0, 0, 0, none, rfl, rfl, by omega, by omega, Below.refl _ _, [], ⟨World.ownsRow_nil _ _ _ _, (fun p hp => by cases hp), (fun p hp => by cases hp), rfl⟩⟩
  case round =>
    obtain ⟨i, k, c', A', rfl, rfl, hi, hki, hb, hq⟩ := hrel
    obtain ⟨M, hM⟩ := hq.out
    have hbs := hb.size
    by_cases hlt : i < n
    · have hkL : i < L'.length := by rw [HLN.out]; exact hlt
      have hkZ : i < (zns L').length := by rw [zns_len]; exact hkL
      obtain ⟨b, oo, rfl, hab, g0, g1, g2⟩ := (HL1.out.rd.below hb).zone hkL
      obtain ⟨hvl, hRv⟩ := HL1.out.rd.each _ (List.getElem_mem hkL)
      have hxb := HBL.out _ (List.getElem_mem hkL)
      have hnx : ((zns L').take (i + 1)).foldl jstep [] = jstep (((zns L').take i).foldl jstep []) L'[i].2 := by rw [List.take_succ_eq_append_getElem hkZ, zns_at L' i hkL, List.foldl_append]; rfl
      generalize L'[i] = x at g0 g1 g2 hvl hRv hxb hnx
      obtain ⟨⟨Av, nv, cv⟩, ⟨lo, hi'⟩, u⟩ := x
      dsimp only at g0 g1 g2 hvl hRv hxb hnx
      rw [← hM.z] at hnx
      have hml := hM.len
      have hwb := (Below.refl wr.heap.size wr).alloc (Nat.le_refl _) (.cells #[.int .i64 lo, .int .i64 hi', .slice Av nv cv] 62)
      have hX := Blk.new wr 62 #[.int .i64 lo, .int .i64 hi', .slice Av nv cv]
      have hrow := own_below hM.row hwb (Nat.le_refl _)
      have hb2 := below_then hb (Nat.le_refl _) hwb
      obtain ⟨W, hW⟩ : ∃ W, W = wr.alloc (.cells #[.int .i64 lo, .int .i64 hi', .slice Av nv cv] 62) := ⟨_, rfl⟩
      have hsW : W.heap.size = wr.heap.size + 1 := by rw [hW]; simp
      rw [← hW] at hX hrow hb2
      have HW := Lib.hid hW.symm
      have HSW := Lib.hid hsW
      have HX := Lib.hid hX
      have HB2 := Lib.hid hb2
      have HEL := Lib.hid hM.el
      have HHI := Lib.hid hM.hi
      have HXE := Lib.hid (And.intro hvl hRv)
      have h63 : k + 1 ≤ maxLen := by unfold maxLen; omega
      have HHB := Lib.hid hxb
      clear hvl hRv hX hwb hW hb2 hab hkL hkZ hq hb hsW
      have APP := Lib.hid fun (V : World) (q : Nat) (hV : V = W.drewN q) (hj : zns (M ++ [((⟨Av, nv, cv⟩ : ZV), (lo, hi'), u)]) = ((zns L').take (i + 1)).foldl jstep []) (A3 : Option Addr) (c3 : Nat) (W3 : World) (ho : W3.ownsRow w1.heap.size 62 3 (.slice A3 (k + 1) c3) (k + 1) (zvv M ++ zvl (⟨Av, nv, cv⟩, (lo, hi'), u))) =>
        (show JoI w1 A3 (k + 1) c3 (((zns L').take (i + 1)).foldl jstep []) (M ++ [((⟨Av, nv, cv⟩ : ZV), (lo, hi'), u)]) W3 from
        ⟨by rw [zvv_app]; simpa [zvv] using ho, fun p hp => by
          rcases List.mem_append.1 hp with hp | hp
          · exact HEL.out p hp
          · rw [List.mem_singleton] at hp; subst hp; exact HXE.out, fun p hp => by
          rcases List.mem_append.1 hp with hp | hp
          · exact HHI.out p hp
          · rw [List.mem_singleton] at hp; subst hp; exact HHB.out.2, hj⟩)
      rcases List.eq_nil_or_concat M with hMn | ⟨M0, y, hMy⟩
      · have hk0 : k = 0 := by rw [← hml, hMn]; rfl
        have HJ := Lib.hid (show zns (M ++ [((⟨Av, nv, cv⟩ : ZV), (lo, hi'), u)]) = ((zns L').take (i + 1)).foldl jstep [] by rw [hnx, hMn]; rfl)
        have dk : decide (0 < k) = false := by simp; omega
        have HROW := Lib.hid hrow
        clear hnx hMn hk0 hM hml hrow
        go_wp2_with fail
        rw [HW.out]
        obtain ⟨x0, x1, x2⟩ := HX.out.three
        go_wp2_with fail
        go_quiet (fail)
        go_wp2_with (at_builtin; go_must (refine wpList_append_rd _ rfl (.tmp 53) (.tmp 55) _ rfl w1.heap.size 62 i0 _ 3 40 Tryd.underlying31 hi0 hz0 hz1 hz2 rfl (by decide) (.slice A' k c') k _ rfl (HROW.out.alloc _) _ (some ⟨_, 0, none⟩) 1 1 [.int .i64 lo, .int .i64 hi', .slice Av nv cv] rfl (Rd.new _ 62 3 1 #[.int .i64 lo, .int .i64 hi', .slice Av nv cv] rfl h1max) (zvl_oneCell (⟨Av, nv, cv⟩, (lo, hi'), u)) h63 (by omega) (by have := HB2.out.size; simp; omega) ?_); intro A3 c3 W3 ho3 hg3 hat3)
        go_roundw
        case rel => exact ⟨i + 1, k + 1, c3, A3, by go_num, rfl, by omega, by omega, ((below_drewN HB2.out _).alloc (by exact HB2.out.size) _).trans (grown_below hg3 (by have := HB2.out.size; simp; omega) (fun g hg => own_lt HROW.out g hg)), _, APP.out _ 0 rfl HJ.out A3 c3 W3 ho3⟩
        case measure => simp [intOf]; omega
      · rw [List.concat_eq_append] at hMy
        subst hMy
        obtain ⟨j, rfl⟩ : ∃ j, k = j + 1 := ⟨k - 1, by rw [← hml, List.length_append, List.length_singleton]; omega⟩
        have hM0 : M0.length = j := by rw [List.length_append, List.length_singleton] at hml; omega
        obtain ⟨⟨Ay, ny, cy⟩, ⟨ylo, yhi⟩, yu⟩ := y
        rw [zns_app, show zns [((⟨Ay, ny, cy⟩ : ZV), (ylo, yhi), yu)] = [((ylo, yhi), yu)] from rfl, jstep_snoc] at hnx
        dsimp only at hnx
        obtain ⟨A9, c9, hv9, _, hf9⟩ := own_form hrow
        injection hv9 with hv1 _ hv3
        subst hv1 hv3
        have hrz : RdZ W W.heap.size A' (j + 1) c' (M0 ++ [((⟨Ay, ny, cy⟩ : ZV), (ylo, yhi), yu)]) := ⟨hml, Rd.of_own hrow, fun p hp => ⟨(HEL.out p hp).1, (HEL.out p hp).2.go HB2.out⟩⟩
        obtain ⟨g', o', hA', hgl, p0, p1, p2⟩ := hrz.zone (k := j) (by rw [hml]; omega)
        have hgj : (M0 ++ [((⟨Ay, ny, cy⟩ : ZV), (ylo, yhi), yu)])[j]'(by rw [hml]; omega) = (⟨Ay, ny, cy⟩, (ylo, yhi), yu) := by
          rw [List.getElem_append_right (by omega)]; simp [hM0]
        rw [hgj] at p0 p1 p2
        dsimp only at p0 p1 p2
        obtain ⟨g, hga, hg1, _⟩ := hf9 _ hA'
        injection hga with h1 h2
        subst h1 h2
        subst hA'
        have hyE := HEL.out (⟨Ay, ny, cy⟩, (ylo, yhi), yu) (by simp)
        have hyH := HHI.out (⟨Ay, ny, cy⟩, (ylo, yhi), yu) (by simp)
        dsimp only at hyE hyH
        have EQ := fun m => equalSt_q Ay Av ny cy nv cv yu u (W.drewN m) hyE.1 HXE.out.1 ((hyE.2.go HB2.out).drewN m) ((HXE.out.2.go HB2.out).drewN m)
        obtain ⟨oc1, oc2, oc3⟩ := own_cell hrow (j := j * 3 + 1) (by omega) (.int .i64 hi')
        rw [← hM0, zvv_set_last, hM0] at oc1
        simp only [Nat.zero_add] at p0 p1 p2
        have HROW := Lib.hid hrow
        have HM0 := Lib.hid hM0
        have HOC := Lib.hid (And.intro oc1 (And.intro oc2 oc3))
        have e8 : IntKind.i64.wrap (j : Int) = (j : Int) := IntWalk.i64_in _ (by omega)
        have e9 : (((j + 1 : Nat) : Int) - 1) = (j : Int) := by omega
        have e10 : IntKind.i64.wrap (((j + 1 : Nat) : Int) - 1) = (j : Int) := by rw [e9]; exact e8
        have hin : (0 : Int) ≤ (j : Int) ∧ (j : Int) < ((j + 1 : Nat) : Int) := by omega
        have wy : IntKind.i64.wrap (yhi + 1) = yhi + 1 := IntWalk.i64_in _ (by omega)
        have dk : decide (0 < j + 1) = true := by simp
        have HG1 := Lib.hid hg1
        clear hrow hrz hgj hf9 hg1 hM0 hM hml oc1 oc2 hyE
        by_cases c4 : yhi + 1 = lo
        · by_cases c5 : yu = u
          · rw [if_pos ⟨c4, c5⟩] at hnx
            have HNX := Lib.hid hnx
            subst c4
            have HC5 := Lib.hid c5
            have JEL := Lib.hid (show ∀ p ∈ M0 ++ [((⟨Ay, ny, cy⟩ : ZV), (ylo, hi'), yu)], p.2.2.length = p.1.n ∧ Rd w1 w1.heap.size 2 p.1.A p.1.n p.1.c (sv p.2.2) from fun p hp => by
              rcases List.mem_append.1 hp with hp | hp
              · exact HEL.out p (List.mem_append_left _ hp)
              · rw [List.mem_singleton] at hp; subst hp; exact HEL.out (⟨Ay, ny, cy⟩, (ylo, yhi), yu) (by simp))
            have JHI := Lib.hid (show ∀ p ∈ M0 ++ [((⟨Ay, ny, cy⟩ : ZV), (ylo, hi'), yu)], -1 ≤ p.2.1.2 ∧ p.2.1.2 ≤ 255 from fun p hp => by
              rcases List.mem_append.1 hp with hp | hp
              · exact HHI.out p (List.mem_append_left _ hp)
              · rw [List.mem_singleton] at hp; subst hp; exact HHB.out.2)
            simp only [decide_eq_true c5] at EQ
            have EQ := Lib.hid EQ
            clear hnx c5
            go_wp2_with fail
            rw [HW.out]
            obtain ⟨x0, x1, x2⟩ := HX.out.three
            go_wp2_with fail
            go_quiet ((go_at_call 42; exact Calls.quiet_of (EQ.out _)))
            clear EQ
            go_wp2
            go_roundw
            case rel => exact ⟨i + 1, j + 1, c', some ⟨g', 0, none⟩, by go_num, rfl, by omega, by omega, (below_drewN HB2.out _).setCell (p := ⟨g', j * 3 + 1, none⟩) HG1.out _, M0 ++ [((⟨Ay, ny, cy⟩ : ZV), (ylo, hi'), yu)], ⟨HOC.out.1, JEL.out, JHI.out, by rw [HNX.out, zns_app, HC5.out]; rfl⟩⟩
            case measure => simp [intOf]; omega
          · rw [if_neg (fun h => c5 h.2)] at hnx
            have HJ := Lib.hid (show zns ((M0 ++ [((⟨Ay, ny, cy⟩ : ZV), (ylo, yhi), yu)]) ++ [((⟨Av, nv, cv⟩ : ZV), (lo, hi'), u)]) = ((zns L').take (i + 1)).foldl jstep [] by rw [hnx, zns_app, zns_app]; rfl)
            simp only [decide_eq_false c5] at EQ
            have EQ := Lib.hid EQ
            subst c4
            clear hnx c5
            go_wp2_with fail
            rw [HW.out]
            obtain ⟨x0, x1, x2⟩ := HX.out.three
            go_wp2_with fail
            go_quiet ((go_at_call 42; exact Calls.quiet_of (EQ.out _)))
            clear EQ
            go_wp2_with (at_builtin; go_must (refine wpList_append_rd _ rfl (.tmp 53) (.tmp 55) _ rfl w1.heap.size 62 i0 _ 3 40 Tryd.underlying31 hi0 hz0 hz1 hz2 rfl (by decide) (.slice (some ⟨g', 0, none⟩) (j + 1) c') (j + 1) _ rfl (HROW.out.alloc _) _ (some ⟨_, 0, none⟩) 1 1 [.int .i64 (yhi + 1), .int .i64 hi', .slice Av nv cv] rfl (Rd.new _ 62 3 1 #[.int .i64 (yhi + 1), .int .i64 hi', .slice Av nv cv] rfl h1max) (zvl_oneCell (⟨Av, nv, cv⟩, (yhi + 1, hi'), u)) h63 (by omega) (by have := HB2.out.size; simp; omega) ?_); intro A3 c3 W3 ho3 hg3 hat3)
            go_roundw
            case rel => exact ⟨i + 1, j + 1 + 1, c3, A3, by go_num, rfl, by omega, by omega, ((below_drewN HB2.out _).alloc (by exact HB2.out.size) _).trans (grown_below hg3 (by have := HB2.out.size; simp; omega) (fun g hg => own_lt HROW.out g hg)), _, APP.out _ 0 rfl HJ.out A3 c3 W3 ho3⟩
            case measure => simp [intOf]; omega
        · rw [if_neg (fun h => c4 h.1)] at hnx
          have HJ := Lib.hid (show zns ((M0 ++ [((⟨Ay, ny, cy⟩ : ZV), (ylo, yhi), yu)]) ++ [((⟨Av, nv, cv⟩ : ZV), (lo, hi'), u)]) = ((zns L').take (i + 1)).foldl jstep [] by rw [hnx, zns_app, zns_app]; rfl)
          have d4 : (yhi + 1 == lo) = false := by simpa using c4
          clear hnx c4 EQ
          go_wp2_with fail
          rw [HW.out]
          obtain ⟨x0, x1, x2⟩ := HX.out.three
          go_wp2_with fail
          go_quiet (fail)
          go_wp2_with (at_builtin; go_must (refine wpList_append_rd _ rfl (.tmp 53) (.tmp 55) _ rfl w1.heap.size 62 i0 _ 3 40 Tryd.underlying31 hi0 hz0 hz1 hz2 rfl (by decide) (.slice (some ⟨g', 0, none⟩) (j + 1) c') (j + 1) _ rfl (HROW.out.alloc _) _ (some ⟨_, 0, none⟩) 1 1 [.int .i64 lo, .int .i64 hi', .slice Av nv cv] rfl (Rd.new _ 62 3 1 #[.int .i64 lo, .int .i64 hi', .slice Av nv cv] rfl h1max) (zvl_oneCell (⟨Av, nv, cv⟩, (lo, hi'), u)) h63 (by omega) (by have := HB2.out.size; simp; omega) ?_); intro A3 c3 W3 ho3 hg3 hat3)
          go_roundw
          case rel => exact ⟨i + 1, j + 1 + 1, c3, A3, by go_num, rfl, by omega, by omega, ((below_drewN HB2.out _).alloc (by exact HB2.out.size) _).trans (grown_below hg3 (by have := HB2.out.size; simp; omega) (fun g hg => own_lt HROW.out g hg)), _, APP.out _ 0 rfl HJ.out A3 c3 W3 ho3⟩
          case measure => simp [intOf]; omega
    · obtain rfl : i = n := by omega
      have HZ := Lib.hid (show zns M = joinedZ (zns L') by rw [hM.z, List.take_of_length_le (by rw [zns_len, HLN.out]; exact Nat.le_refl _)]; rfl)
      have HRZ := Lib.hid (show RdZ wr wr.heap.size A' k c' M from ⟨hM.len, Rd.of_own hM.row, fun p hp => ⟨(hM.el p hp).1, (hM.el p hp).2.go hb⟩⟩)
      clear hq hM
      go_wp2
      go_ret
      exact ⟨A', k, c', M, rfl, HRZ.out, ⟨zns L', HP.out.map _, by unfold zns; rw [List.pairwise_map]; exact HRI.out, HZ.out⟩, HB1.out.trans (hb.mono (by have := HB1.out.size; omega)), HKF.out.trans (keeps_below hb)⟩
end Go.Proofs.YtepdcbhapjgijaaDoor
