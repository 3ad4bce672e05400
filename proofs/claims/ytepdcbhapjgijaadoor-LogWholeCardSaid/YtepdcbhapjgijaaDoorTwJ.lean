/- Walk over trust.Take's closure (printed by wip/tools/genTwJ.py). -/
import Derived.Test.YtepdcbhapjgijaaDoorTwI
namespace Go.Proofs.YtepdcbhapjgijaaDoor
open Go.RowKit Go.Shelf
set_option maxRecDepth 100000

theorem OwnZ.setB {w : World} {base BO k c : Nat} {A : Option Addr} {L : List (ZV × Zn)} {v0 : Value} (h : OwnZ w base A k c L) (hv : Boxed w BO 31 v0) (v : Value) : OwnZ (w.setCell ⟨BO, 0, none⟩ v) base A k c L :=
  ⟨h.row.kept (grownBy_setCell' w BO v) (.inr (hv.not_row (by decide) h.row).symm), fun p hp => ⟨(h.el p hp).1, (h.el p hp).2.kept (grownBy_setCell' w BO v) (.inr (hv.not_row (by decide) (h.el p hp).2).symm)⟩⟩
theorem Rd.kz {BO : Nat} {W V : World} {size n c : Nat} {A : Option Addr} {xs : List Value} (h : Rd W W.heap.size size A n c xs) (k : KZ BO W V) (hs : 0 < n → ∀ a, A = some a → a.block ≠ BO ∧ pt BO W ≠ some a.block) : Rd V V.heap.size size A n c xs :=
  ⟨h.len, h.cap, h.max, h.nil, fun hn => by
    obtain ⟨ad, e, hb, hc⟩ := h.at0 hn
    obtain ⟨s1, s2⟩ := hs hn ad e
    exact ⟨ad, e, Nat.lt_of_lt_of_le hb k.size, fun j u hu => k.cell (by rw [block_of_add]; exact s1) (by rw [block_of_add]; exact s2) (hc j u hu)⟩⟩
/-- Neither the box nor the row to which it points. -/
def SepA (BO : Nat) (W : World) (n : Nat) (A : Option Addr) : Prop := 0 < n → ∀ a, A = some a → a.block ≠ BO ∧ pt BO W ≠ some a.block
theorem KeepsFrom.zero {B : Nat} {W V : World} (h : KeepsFrom 0 W V) : KeepsFrom B W V := ⟨h.size, fun k o _ hk ho => h.same k o (Nat.zero_le _) hk ho⟩
def putL (c : Bool) (l : List Sn.Sp) (u : List Vc.St) : List Zn := if c = true then [] else l.map fun s => (s, u)
/-- The zones in hand, and what has been kept since. -/
structure PutI (w : World) (BO base : Nat) (Z : List Zn) (W : World) : Prop where
  st : ∃ A k c M, Boxed W BO 31 (.slice A k c) ∧ OwnZ W base A k c M ∧ zns M = Z
  kz : KZ BO w W
  kf : KeepsFrom 0 w W
  bl : Below base w W
theorem blkN {W : World} {B : Nat} {t : TypeId} {cs : Array Value} (_ : Below B W (W.alloc (.cells cs t))) : Blk (W.alloc (.cells cs t)) W.heap.size t cs := Blk.new W t cs
theorem rdN {W : World} {t : TypeId} {cs : Array Value} (size n : Nat) (_ : Below W.heap.size W (W.alloc (.cells cs t))) (hn : cs.size = n * size) (hm : n ≤ maxLen) : Rd (W.alloc (.cells cs t)) (W.alloc (.cells cs t)).heap.size size (some ⟨W.heap.size, 0, none⟩) n n cs.toList := by
  have := Rd.new W t size n cs hn hm
  rw [World.size_alloc]; exact this

set_option maxHeartbeats 8000000 in
theorem put_any (BN BO base : Nat) (D A N A0 : Option Addr) (m d n c nn nc k0 c0 : Nat) (l : List Sn.Sp) (u nw : List Vc.St) (M : List (ZV × Zn)) (w : World) (hT : Tab w) (hbn : Boxed w BN 22 (.slice N nn nc)) (hnn : nw.length = nn) (hRN : Rd w w.heap.size 2 N nn nc (sv nw))
    (hbo : Boxed w BO 31 (.slice A0 k0 c0)) (hM : OwnZ w base A0 k0 c0 M) (hbase : base ≤ BO) (hl : l.length = m) (hRl : Rd w w.heap.size 2 D m d (sv l)) (sl : SepA BO w m D) (hu : u.length = n) (hRu : Rd w w.heap.size 2 A n c (sv u)) (su : SepA BO w n A) (hn : n ≤ 8796093022208) (hsz : k0 + m ≤ 3518437208883) :
    Calls Tryd.prog 24 #[.slice D m d, .slice A n c, .pointer (some ⟨BN, 0, none⟩), .pointer (some ⟨BO, 0, none⟩)] w fun e w' => e = .returned (.tuple #[]) ∧ PutI w BO base (zns M ++ putL (cov2 u nw) l u) w' := by
  have hq := hbn.cell
  have C := covers_any A N n c nn nc u nw w hT hu hnn hRu hRN
  rcases hc : covB (Vc.cnt u) (Vc.cnt nw) with _ | _
  · rw [hc] at C
    have HP := Lib.hid (show putL (cov2 u nw) l u = l.map fun s => (s, u) by unfold cov2; rw [hc]; rfl)
    obtain ⟨i0, hi0, hz0, hz1, hz2⟩ := info_parts zone_info
    have h1max : 1 ≤ maxLen := by unfold maxLen; omega
    have C := Lib.hid C
    have HBO := Lib.hid hbo
    have HM0 := Lib.hid hM
    have HLl := Lib.hid hl
    have HRl := Lib.hid hRl
    have HRu := Lib.hid hRu
    have SL := Lib.hid sl
    have SU := Lib.hid su
    have HU := Lib.hid hu
    have hlm := hRl.cap
    have hlx := hRl.max
    have hmx : m ≤ 9223372036854775807 := by unfold maxLen at hlx; omega
    clear hc hbo hM hRl hRu sl su hT hbn hRN hl hu
    go_enter Tryd.func24, Tryd.ntmps24
    go_wp2_with fail
    refine C.out.mono ?_
    rintro e w1 ⟨rfl, hb1⟩
    have P1 := Lib.hid (show PutI w BO base (zns M ++ (l.take 0).map fun s => (s, u)) w1 from ⟨⟨A0, k0, c0, M, (hb1.block _ HBO.out.lt).trans HBO.out, HM0.out.below hb1, by simp⟩, KZ.of_below HBO.out.lt hb1, keeps_below hb1, hb1.mono (by have := HBO.out.lt; omega)⟩)
    clear hb1 hq C
    go_wp2
    go_loopw [13] (fun v13 wr => ∃ i : Nat, v13 = .int .i64 i ∧ i ≤ m ∧ Hid (PutI w BO base (zns M ++ (l.take i).map fun s => (s, u)) wr)) (fun v13 _ => m - (intOf v13).toNat)
    case atStart => exact ⟨0, rfl, Nat.zero_le _, P1.out⟩
    case round =>
      obtain ⟨i, rfl, hi, hp⟩ := hrel
      by_cases hlt : i < m
      · obtain ⟨⟨A1, k1, c1, M1, hbx, hM1, hz⟩, kz, kf, bl⟩ := hp.out
        have hkl : i < l.length := by rw [HLl.out]; exact hlt
        obtain ⟨b, oo, rfl, hab, g0, g1⟩ := (HRl.out.kz kz SL.out).stamp HLl.out hlt
        have hRu1 := HRu.out.kz kz SU.out
        have hnx := List.take_succ_eq_append_getElem hkl
        have hk1 : k1 = k0 + i := by
          have e1 := congrArg List.length hz
          have e2 := hM1.len
          have e3 := HM0.out.len
          rw [zns_len, List.length_append, zns_len, List.length_map, List.length_take] at e1
          omega
        have hk2 : k1 + 1 ≤ 3518437208883 := by omega
        clear hk1
        generalize (l[i]'hkl) = s at g0 g1 hnx
        obtain ⟨lo, hi'⟩ := s
        dsimp only at g0 g1
        have hwb : Below wr.heap.size wr (wr.alloc (.cells #[.int .i64 lo, .int .i64 hi'] 59)) := (Below.refl _ _).alloc (Nat.le_refl _) _
        have XS := Lib.hid ((Blk.new wr 59 #[.int .i64 lo, .int .i64 hi']).go (Below.refl _ _).drew)
        have hwd := below_then hwb (Nat.le_refl _) (Below.refl _ (wr.alloc (.cells #[.int .i64 lo, .int .i64 hi'] 59))).drew
        have BX := Lib.hid (show Boxed _ BO 31 (.slice A1 k1 c1) from (hwd.block _ hbx.lt).trans hbx)
        have BX0 := BX
        have CZ := Lib.hid (hM1.below hwd)
        have RU := Lib.hid fun V (hb : Below wr.heap.size wr V) => cloneSt_any A n c (sv u) V (hRu1.go hb) (sv_oneCell _) hn
        have k := hwd
        have h63 : k1 + 1 ≤ maxLen := by unfold maxLen; omega
        have HNX := Lib.hid (show (l.take (i + 1)).map (fun s => (s, u)) = (l.take i).map (fun s => (s, u)) ++ [((lo, hi'), u)] by rw [hnx, List.map_append]; rfl)
        have HZ := Lib.hid hz
        have HBX := Lib.hid hbx
        have KZZ := Lib.hid kz
        have KF := Lib.hid kf
        have BL := Lib.hid bl
        have hbs := bl.size
        have hbl := HBO.out.lt
        clear hp hbx hM1 hz kz kf bl hab hRu1 hnx hkl hwb hwd P1
        go_wp2_with fail
        clear g0 g1
        refine region_nrm fun KK hKK => ?_
        refine wp_region_held_drew (S := (fun V => V.cell? ⟨wr.heap.size, 0, none⟩ = some (.int .i64 lo) ∧ V.cell? ⟨wr.heap.size, 1, none⟩ = some (.int .i64 hi'))) (by kernel_rfl) (by first | exact ⟨XS.out.cell 0, XS.out.cell 1⟩) (fun hHeld => ?_)
        refine wpAnyH_putD (i := 1) (d := 18) (v := ?_) rfl rfl (by kernel_rfl) (by kernel_rfl) (by kernel_rfl) (fun _ _ _ h => h) (Or.inl ⟨by kernel_rfl, ?_⟩) (by first | exact ⟨XS.out.cell 0, XS.out.cell 1⟩) ?_
        rotate_left
        · (intro w hS; (try dsimp only at hS); go_simp <;> with_reducible rfl)
        try simp only [List.setIfInBounds_toArray, List.set_cons_zero, List.set_cons_succ]
        refine wpAnyH_putD (i := 2) (d := 19) (v := ?_) rfl rfl (by kernel_rfl) (by kernel_rfl) (by kernel_rfl) (fun _ _ _ h => h) (Or.inl ⟨by kernel_rfl, ?_⟩) (by first | exact ⟨XS.out.cell 0, XS.out.cell 1⟩) ?_
        rotate_left
        · (intro w hS; (try dsimp only at hS); go_simp <;> with_reducible rfl)
        try simp only [List.setIfInBounds_toArray, List.set_cons_zero, List.set_cons_succ]
        refine wpAnyH_ready (rs := [0, 3]) (by kernel_rfl) (by simp) ?_
        refine AllReadyH.cons rfl (fun K hK => ?_) (AllReadyH.cons rfl (fun K hK => ?_) AllReadyH.nil)
        · have qg := BX0.out.cell
          have qg2 := BX.out.cell
          go_simp
          clear qg qg2
          refine hK.out _ _ (by first | exact ⟨XS.out.cell 0, XS.out.cell 1⟩) (fun hHeld => ?_)
          clear hK K
          refine wpAnyH_ready (rs := [3]) (by kernel_rfl) (by simp) ?_
          refine AllReadyH.cons rfl (fun K hK => ?_) AllReadyH.nil
          go_simp
          refine (RU.out _ k).mono ?_
          rintro e W1 ⟨Ac, cc, rfl, ho, hb'⟩
          have CV := Lib.hid (own_less ho (show base ≤ _ from by have := k.size; have := KZZ.out.size; omega))
          have CZ := Lib.hid (CZ.out.below hb')
          have XS := Lib.hid (XS.out.go hb')
          have BX := Lib.hid (show Boxed W1 BO 31 (.slice A1 k1 c1) from (hb'.block _ BX.out.lt).trans BX.out)
          have k := below_then k (Nat.le_refl _) hb'
          clear ho hb'
          refine hK.out _ _ (by first | exact ⟨XS.out.cell 0, XS.out.cell 1⟩) (fun hHeld => ?_)
          clear hK K
          refine wpAnyH_putD (i := 4) (d := 21) (v := ?_) rfl rfl (by kernel_rfl) (by kernel_rfl) (by kernel_rfl) (fun _ _ _ h => h) (Or.inl ⟨by kernel_rfl, ?_⟩) (by first | exact ⟨XS.out.cell 0, XS.out.cell 1⟩) ?_
          rotate_left
          · (intro w hS; (try dsimp only at hS); go_simp <;> with_reducible rfl)
          try simp only [List.setIfInBounds_toArray, List.set_cons_zero, List.set_cons_succ]
          refine wpAnyH_ready (rs := [5]) (by kernel_rfl) (by simp) ?_
          refine AllReadyH.cons rfl (fun K hK => ?_) AllReadyH.nil
          go_simp
          have hb' := then_alloc k (.cells #[.int .i64 lo, .int .i64 hi', .slice Ac n cc] 62)
          have CV := Lib.hid (own_below CV.out hb' (Nat.le_refl _))
          have CZ := Lib.hid (CZ.out.below hb')
          have XS := Lib.hid (XS.out.go hb')
          have BX := Lib.hid (show Boxed _ BO 31 (.slice A1 k1 c1) from (hb'.block _ BX.out.lt).trans BX.out)
          have RN := Lib.hid (rdN 3 1 hb' rfl h1max)
          have k := below_then k (Nat.le_refl _) hb'
          clear hb'
          refine hK.out _ _ (by first | exact ⟨XS.out.cell 0, XS.out.cell 1⟩) (fun hHeld => ?_)
          clear hK K
          refine wpAnyH_ready (rs := [6]) (by kernel_rfl) (by simp) ?_
          refine AllReadyH.cons rfl (fun K hK => ?_) AllReadyH.nil
          rw [if_pos (by kernel_rfl)]
          refine wp_append_rd _ (.tmp 17) (.tmp 22) _ rfl base 62 i0 _ 3 40 Tryd.underlying31 hi0 hz0 hz1 hz2 rfl (by decide) (.slice A1 k1 c1) k1 _ rfl CZ.out.row _ (some ⟨_, 0, none⟩) 1 1 _ rfl RN.out (zvl_oneCell (⟨Ac, n, cc⟩, (lo, hi'), u)) h63 (by omega) (by have := k.size; have := KZZ.out.size; omega) ?_
          intro A3 c3 W3 ho3 hg3 hat3
          have hnr := BX.out.not_row (show (31 : TypeId) ≠ 62 by decide) CZ.out.row
          have BX3 := Lib.hid (BX.out.kept hg3 hnr)
          have XS := Lib.hid (XS.out.grown hg3 (Blk.not_row XS.out (show (59 : TypeId) ≠ 62 by decide) CZ.out.row))
          have CZ3 := Lib.hid (OwnZ.push (p := (⟨Ac, n, cc⟩, (lo, hi'), u)) CZ.out ⟨HU.out, CV.out⟩ hg3 ho3)
          have kz3 := Lib.hid (KZ.appended (v' := .slice A3 (k1 + 1) c3) HBX.out (show (31 : TypeId) ≠ 62 by decide) k CZ.out.row hg3 hat3 (fun g hg => (ho3.lt g hg).2))
          have kf3 := Lib.hid (KeepsFrom.appended (B := 0) (BO := BO) (v' := .slice A3 (k1 + 1) c3) k CZ.out.row hg3)
          have bl3 := Lib.hid (((BL.out.trans (k.mono (by have := KZZ.out.size; omega))).trans (grown_below hg3 (by have := k.size; have := KZZ.out.size; omega) (fun g hg => own_lt CZ.out.row g hg))).setCell (p := ⟨BO, 0, none⟩) hbase (.slice A3 (k1 + 1) c3))
          clear ho3 hg3 hat3 hnr
          refine hK.out _ _ (by first | exact ⟨XS.out.cell 0, XS.out.cell 1⟩) (fun hHeld => ?_)
          clear hK K
          refine wpAnyH_ready (rs := [7]) (by kernel_rfl) (by simp) ?_
          refine AllReadyH.cons rfl (fun K hK => ?_) AllReadyH.nil
          have qg := BX3.out.cell
          have qf := BX3.out.frozen
          go_simp
          clear qg qf
          have XS := Lib.hid (XS.out.grown (grownBy_setCell' _ BO (.slice A3 (k1 + 1) c3)) (fun e => by injection e with e; omega))
          refine hK.out _ _ (by first | exact ⟨XS.out.cell 0, XS.out.cell 1⟩) (fun hHeld => ?_)
          clear hK K
          refine wpAnyH_done (by kernel_rfl) ?_ _
          refine Nrm.out (hKK _ _ ?_)
          go_wp2
          go_roundw
          case rel => exact ⟨i + 1, by go_num, by omega, ⟨⟨A3, k1 + 1, c3, _, BX3.out.set _, CZ3.out.setB BX3.out _, by rw [zns_app, HZ.out, HNX.out, List.append_assoc]; rfl⟩, KZZ.out.trans kz3.out, KF.out.trans kf3.out, bl3.out⟩⟩
          case measure => simp [intOf]; omega
        · go_simp
          refine (RU.out _ k).mono ?_
          rintro e W1 ⟨Ac, cc, rfl, ho, hb'⟩
          have CV := Lib.hid (own_less ho (show base ≤ _ from by have := k.size; have := KZZ.out.size; omega))
          have CZ := Lib.hid (CZ.out.below hb')
          have XS := Lib.hid (XS.out.go hb')
          have BX := Lib.hid (show Boxed W1 BO 31 (.slice A1 k1 c1) from (hb'.block _ BX.out.lt).trans BX.out)
          have k := below_then k (Nat.le_refl _) hb'
          clear ho hb'
          refine hK.out _ _ (by first | exact ⟨XS.out.cell 0, XS.out.cell 1⟩) (fun hHeld => ?_)
          clear hK K
          refine wpAnyH_putD (i := 4) (d := 21) (v := ?_) rfl rfl (by kernel_rfl) (by kernel_rfl) (by kernel_rfl) (fun _ _ _ h => h) (Or.inl ⟨by kernel_rfl, ?_⟩) (by first | exact ⟨XS.out.cell 0, XS.out.cell 1⟩) ?_
          rotate_left
          · (intro w hS; (try dsimp only at hS); go_simp <;> with_reducible rfl)
          try simp only [List.setIfInBounds_toArray, List.set_cons_zero, List.set_cons_succ]
          refine wpAnyH_ready (rs := [0, 5]) (by kernel_rfl) (by simp) ?_
          refine AllReadyH.cons rfl (fun K hK => ?_) (AllReadyH.cons rfl (fun K hK => ?_) AllReadyH.nil)
          · have qg := BX0.out.cell
            have qg2 := BX.out.cell
            go_simp
            clear qg qg2
            refine hK.out _ _ (by first | exact ⟨XS.out.cell 0, XS.out.cell 1⟩) (fun hHeld => ?_)
            clear hK K
            refine wpAnyH_ready (rs := [5]) (by kernel_rfl) (by simp) ?_
            refine AllReadyH.cons rfl (fun K hK => ?_) AllReadyH.nil
            go_simp
            have hb' := then_alloc k (.cells #[.int .i64 lo, .int .i64 hi', .slice Ac n cc] 62)
            have CV := Lib.hid (own_below CV.out hb' (Nat.le_refl _))
            have CZ := Lib.hid (CZ.out.below hb')
            have XS := Lib.hid (XS.out.go hb')
            have BX := Lib.hid (show Boxed _ BO 31 (.slice A1 k1 c1) from (hb'.block _ BX.out.lt).trans BX.out)
            have RN := Lib.hid (rdN 3 1 hb' rfl h1max)
            have k := below_then k (Nat.le_refl _) hb'
            clear hb'
            refine hK.out _ _ (by first | exact ⟨XS.out.cell 0, XS.out.cell 1⟩) (fun hHeld => ?_)
            clear hK K
            refine wpAnyH_ready (rs := [6]) (by kernel_rfl) (by simp) ?_
            refine AllReadyH.cons rfl (fun K hK => ?_) AllReadyH.nil
            rw [if_pos (by kernel_rfl)]
            refine wp_append_rd _ (.tmp 17) (.tmp 22) _ rfl base 62 i0 _ 3 40 Tryd.underlying31 hi0 hz0 hz1 hz2 rfl (by decide) (.slice A1 k1 c1) k1 _ rfl CZ.out.row _ (some ⟨_, 0, none⟩) 1 1 _ rfl RN.out (zvl_oneCell (⟨Ac, n, cc⟩, (lo, hi'), u)) h63 (by omega) (by have := k.size; have := KZZ.out.size; omega) ?_
            intro A3 c3 W3 ho3 hg3 hat3
            have hnr := BX.out.not_row (show (31 : TypeId) ≠ 62 by decide) CZ.out.row
            have BX3 := Lib.hid (BX.out.kept hg3 hnr)
            have XS := Lib.hid (XS.out.grown hg3 (Blk.not_row XS.out (show (59 : TypeId) ≠ 62 by decide) CZ.out.row))
            have CZ3 := Lib.hid (OwnZ.push (p := (⟨Ac, n, cc⟩, (lo, hi'), u)) CZ.out ⟨HU.out, CV.out⟩ hg3 ho3)
            have kz3 := Lib.hid (KZ.appended (v' := .slice A3 (k1 + 1) c3) HBX.out (show (31 : TypeId) ≠ 62 by decide) k CZ.out.row hg3 hat3 (fun g hg => (ho3.lt g hg).2))
            have kf3 := Lib.hid (KeepsFrom.appended (B := 0) (BO := BO) (v' := .slice A3 (k1 + 1) c3) k CZ.out.row hg3)
            have bl3 := Lib.hid (((BL.out.trans (k.mono (by have := KZZ.out.size; omega))).trans (grown_below hg3 (by have := k.size; have := KZZ.out.size; omega) (fun g hg => own_lt CZ.out.row g hg))).setCell (p := ⟨BO, 0, none⟩) hbase (.slice A3 (k1 + 1) c3))
            clear ho3 hg3 hat3 hnr
            refine hK.out _ _ (by first | exact ⟨XS.out.cell 0, XS.out.cell 1⟩) (fun hHeld => ?_)
            clear hK K
            refine wpAnyH_ready (rs := [7]) (by kernel_rfl) (by simp) ?_
            refine AllReadyH.cons rfl (fun K hK => ?_) AllReadyH.nil
            have qg := BX3.out.cell
            have qf := BX3.out.frozen
            go_simp
            clear qg qf
            have XS := Lib.hid (XS.out.grown (grownBy_setCell' _ BO (.slice A3 (k1 + 1) c3)) (fun e => by injection e with e; omega))
            refine hK.out _ _ (by first | exact ⟨XS.out.cell 0, XS.out.cell 1⟩) (fun hHeld => ?_)
            clear hK K
            refine wpAnyH_done (by kernel_rfl) ?_ _
            refine Nrm.out (hKK _ _ ?_)
            go_wp2
            go_roundw
            case rel => exact ⟨i + 1, by go_num, by omega, ⟨⟨A3, k1 + 1, c3, _, BX3.out.set _, CZ3.out.setB BX3.out _, by rw [zns_app, HZ.out, HNX.out, List.append_assoc]; rfl⟩, KZZ.out.trans kz3.out, KF.out.trans kf3.out, bl3.out⟩⟩
            case measure => simp [intOf]; omega
          · go_simp
            have hb' := then_alloc k (.cells #[.int .i64 lo, .int .i64 hi', .slice Ac n cc] 62)
            have CV := Lib.hid (own_below CV.out hb' (Nat.le_refl _))
            have CZ := Lib.hid (CZ.out.below hb')
            have XS := Lib.hid (XS.out.go hb')
            have BX := Lib.hid (show Boxed _ BO 31 (.slice A1 k1 c1) from (hb'.block _ BX.out.lt).trans BX.out)
            have RN := Lib.hid (rdN 3 1 hb' rfl h1max)
            have k := below_then k (Nat.le_refl _) hb'
            clear hb'
            refine hK.out _ _ (by first | exact ⟨XS.out.cell 0, XS.out.cell 1⟩) (fun hHeld => ?_)
            clear hK K
            refine wpAnyH_ready (rs := [0]) (by kernel_rfl) (by simp) ?_
            refine AllReadyH.cons rfl (fun K hK => ?_) AllReadyH.nil
            have qg := BX0.out.cell
            have qg2 := BX.out.cell
            go_simp
            clear qg qg2
            refine hK.out _ _ (by first | exact ⟨XS.out.cell 0, XS.out.cell 1⟩) (fun hHeld => ?_)
            clear hK K
            refine wpAnyH_ready (rs := [6]) (by kernel_rfl) (by simp) ?_
            refine AllReadyH.cons rfl (fun K hK => ?_) AllReadyH.nil
            rw [if_pos (by kernel_rfl)]
            refine wp_append_rd _ (.tmp 17) (.tmp 22) _ rfl base 62 i0 _ 3 40 Tryd.underlying31 hi0 hz0 hz1 hz2 rfl (by decide) (.slice A1 k1 c1) k1 _ rfl CZ.out.row _ (some ⟨_, 0, none⟩) 1 1 _ rfl RN.out (zvl_oneCell (⟨Ac, n, cc⟩, (lo, hi'), u)) h63 (by omega) (by have := k.size; have := KZZ.out.size; omega) ?_
            intro A3 c3 W3 ho3 hg3 hat3
            have hnr := BX.out.not_row (show (31 : TypeId) ≠ 62 by decide) CZ.out.row
            have BX3 := Lib.hid (BX.out.kept hg3 hnr)
            have XS := Lib.hid (XS.out.grown hg3 (Blk.not_row XS.out (show (59 : TypeId) ≠ 62 by decide) CZ.out.row))
            have CZ3 := Lib.hid (OwnZ.push (p := (⟨Ac, n, cc⟩, (lo, hi'), u)) CZ.out ⟨HU.out, CV.out⟩ hg3 ho3)
            have kz3 := Lib.hid (KZ.appended (v' := .slice A3 (k1 + 1) c3) HBX.out (show (31 : TypeId) ≠ 62 by decide) k CZ.out.row hg3 hat3 (fun g hg => (ho3.lt g hg).2))
            have kf3 := Lib.hid (KeepsFrom.appended (B := 0) (BO := BO) (v' := .slice A3 (k1 + 1) c3) k CZ.out.row hg3)
            have bl3 := Lib.hid (((BL.out.trans (k.mono (by have := KZZ.out.size; omega))).trans (grown_below hg3 (by have := k.size; have := KZZ.out.size; omega) (fun g hg => own_lt CZ.out.row g hg))).setCell (p := ⟨BO, 0, none⟩) hbase (.slice A3 (k1 + 1) c3))
            clear ho3 hg3 hat3 hnr
            refine hK.out _ _ (by first | exact ⟨XS.out.cell 0, XS.out.cell 1⟩) (fun hHeld => ?_)
            clear hK K
            refine wpAnyH_ready (rs := [7]) (by kernel_rfl) (by simp) ?_
            refine AllReadyH.cons rfl (fun K hK => ?_) AllReadyH.nil
            have qg := BX3.out.cell
            have qf := BX3.out.frozen
            go_simp
            clear qg qf
            have XS := Lib.hid (XS.out.grown (grownBy_setCell' _ BO (.slice A3 (k1 + 1) c3)) (fun e => by injection e with e; omega))
            refine hK.out _ _ (by first | exact ⟨XS.out.cell 0, XS.out.cell 1⟩) (fun hHeld => ?_)
            clear hK K
            refine wpAnyH_done (by kernel_rfl) ?_ _
            refine Nrm.out (hKK _ _ ?_)
            go_wp2
            go_roundw
            case rel => exact ⟨i + 1, by go_num, by omega, ⟨⟨A3, k1 + 1, c3, _, BX3.out.set _, CZ3.out.setB BX3.out _, by rw [zns_app, HZ.out, HNX.out, List.append_assoc]; rfl⟩, KZZ.out.trans kz3.out, KF.out.trans kf3.out, bl3.out⟩⟩
            case measure => simp [intOf]; omega
      · obtain rfl : i = m := by omega
        have HPP := Lib.hid (show PutI w BO base (zns M ++ putL (cov2 u nw) l u) wr by rw [HP.out]; have := hp.out; rwa [List.take_of_length_le (by rw [HLl.out]; exact Nat.le_refl _)] at this)
        clear hp
        go_wp2
        go_end0
        exact ⟨rfl, HPP.out⟩
  · rw [hc] at C
    have HP := Lib.hid (show putL (cov2 u nw) l u = [] by unfold cov2; rw [hc]; rfl)
    have C := Lib.hid C
    have HBO := Lib.hid hbo
    have HM0 := Lib.hid hM
    clear hc hbo hM hRl hRu sl su hT hbn hRN
    go_enter Tryd.func24, Tryd.ntmps24
    go_wp2_with fail
    refine C.out.mono ?_
    rintro e w1 ⟨rfl, hb1⟩
    go_wp2
    refine bodyPost_ret (results_none rfl _ _ _) rfl ?_
    rw [HP.out, List.append_nil]
    exact ⟨rfl, ⟨A0, k0, c0, M, (hb1.block _ HBO.out.lt).trans HBO.out, HM0.out.below hb1, rfl⟩, KZ.of_below HBO.out.lt hb1, keeps_below hb1, hb1.mono (by have := HBO.out.lt; omega)⟩
end Go.Proofs.YtepdcbhapjgijaaDoor
