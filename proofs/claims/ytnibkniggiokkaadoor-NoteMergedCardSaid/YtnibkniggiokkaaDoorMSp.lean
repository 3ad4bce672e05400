/- Texts of one layer in one file: SpE, SpF, SpG, SpH, SpI, SpJ, SpK, SpL, SpM, SpV, SpW. -/
import Derived.Test.YtnibkniggiokkaaDoorSpD
import Derived.Test.YtnibkniggiokkaaDoorReg
import Derived.BigQuiet
import Derived.Lib.AppendZerosOnto
namespace Go.Proofs.YtnibkniggiokkaaDoor
open Go.RowKit Go.Shelf
set_option maxRecDepth 100000

/-- A store into one cell of a row of the call's own. -/
theorem own_cell {w : World} {base G n c size j : Nat} {e : TypeId} {xs : List Value} (h : w.ownsRow base e size (.slice (some ⟨G, 0, none⟩) n c) n xs) (hj : j < n * size) (u : Value) :
    (w.setCell ⟨G, j, none⟩ u).ownsRow base e size (.slice (some ⟨G, 0, none⟩) n c) n (xs.set j u) ∧ w.grownBy (w.setCell ⟨G, j, none⟩ u) (some G) ∧ w.frozen? ⟨G, j, none⟩ = false := by
  obtain ⟨hl, h | ⟨g, cap, cur, hv, hb, hg, hnc, hcm, hcs, hx⟩⟩ := h
  · exact absurd h.1 (by simp)
  · injection hv with hv1 _ hv3
    injection hv1 with hv1
    injection hv1 with hv1
    subst hv1 hv3
    refine ⟨⟨by simpa using hl, .inr ⟨G, c, _, rfl, hb, heap_setCell_same w G j cur e u hg, hnc, hcm, by simpa using hcs, ?_⟩⟩, ⟨rfl, rfl, rfl, by simp, fun k _ hne => Below.heap_setCell w ⟨G, j, none⟩ u k (by rintro rfl; exact hne rfl)⟩, by simp [World.frozen?, hg]⟩
    rw [← hx]
    apply List.ext_getElem?
    intro t
    rw [List.getElem?_take, List.getElem?_set]
    by_cases ht : t < n * size
    · rw [if_pos ht]
      by_cases hjt : j = t
      · subst hjt
        have : j < cur.size := by have := Nat.mul_le_mul_right size hnc; omega
        simp [this]; omega
      · rw [if_neg hjt, List.getElem?_take, if_pos ht]
        simp [hjt]
    · rw [if_neg ht, if_neg (by omega), List.getElem?_take, if_neg ht]
theorem sv_set_last (u : List Sn.Sp) (t : Sn.Sp) (hi : Int) : (sv (u ++ [t])).set (u.length * 2 + 1) (.int .i64 hi) = sv (u ++ [(t.1, hi)]) := by
  have e : ∀ r : List Sn.Sp, (sv r).length = r.length * 2 := fun r => by rw [sv_encS, flat_len encS 2 _ (fun _ _ => rfl)]
  rw [sv_app, sv_app, List.set_append, if_neg (by rw [e]; omega), e]
  rw [show u.length * 2 + 1 - u.length * 2 = 1 by omega]; rfl
theorem put_okS (l : List Sn.Sp) (h : ∀ s ∈ l, Sn.okS s) : ∀ t ∈ Sn.put l, Sn.okS t := by
  induction hn : l.length generalizing l with
  | zero =>
    obtain rfl := List.eq_nil_of_length_eq_zero hn
    intro t ht; cases ht
  | succ n ih =>
    obtain ⟨r, s, rfl⟩ : ∃ r s, l = r ++ [s] := ⟨_, _, (List.dropLast_concat_getLast (by intro e; rw [e] at hn; cases hn)).symm⟩
    have ihr := ih r (fun s hs => h s (List.mem_append_left _ hs)) (by simpa using hn)
    obtain ⟨a1, a2, a3⟩ := h s (by simp)
    rw [Sn.put_snoc]
    rcases hp : Sn.put r with _ | ⟨x, q⟩
    · intro t ht
      rw [Sn.putS_nil, List.mem_singleton] at ht
      subst ht; exact ⟨a1, a2, a3⟩
    · obtain ⟨u, z, hu⟩ : ∃ u z, x :: q = u ++ [z] := ⟨_, _, (List.dropLast_concat_getLast (by simp)).symm⟩
      rw [hp, hu] at ihr
      rw [hu, Sn.putS_snoc]
      obtain ⟨b1, b2, b3⟩ := ihr z (by simp)
      split
      · intro t ht
        rcases List.mem_append.1 ht with ht | ht
        · exact ihr t (List.mem_append_left _ ht)
        · rw [List.mem_singleton] at ht; subst ht
          exact ⟨b1, by simp only; omega, by simp only; omega⟩
      · intro t ht
        rcases List.mem_append.1 ht with ht | ht
        · exact ihr t ht
        · rw [List.mem_singleton] at ht; subst ht; exact ⟨a1, a2, a3⟩

set_option maxHeartbeats 1000000 in
theorem insNil_any (f : Value) (w : World) : Calls Tryd.prog 95 #[.slice none 0 0, .int .i64 0, .int .i64 0, f] w fun e w' => e = .returned (.tuple #[]) ∧ w = w' := by
  go_enter Tryd.func95, Tryd.ntmps95
  go_wp2
  go_loop [8] (fun v8 => v8 = .int .i64 1) (fun _ => 0)
  case atStart => exact rfl
  case round =>
    obtain rfl := hrel
    go_wp2
    go_end0
    exact ⟨rfl, rfl⟩
set_option maxHeartbeats 1000000 in
theorem pdqNil_any (f : Value) (w : World) : Calls Tryd.prog 92 #[.slice none 0 0, .int .i64 0, .int .i64 0, .int .i64 0, f] w fun e w' => e = .returned (.tuple #[]) ∧ w = w' := by
  go_enter Tryd.func92, Tryd.ntmps92
  go_wp2
  go_loop [1, 2, 3, 10] (fun v1 v2 v3 v10 => v1 = .int .i64 0 ∧ v2 = .int .i64 0 ∧ v3 = .int .i64 0 ∧ v10 = .bool true) (fun _ _ _ _ => 0)
  case atStart => exact ⟨rfl, rfl, rfl, rfl⟩
  case round =>
    obtain ⟨rfl, rfl, rfl, rfl⟩ := hrel
    go_wp2_with (go_at_call 95; go_must (refine (insNil_any _ _).mono ?_); rintro e w' ⟨rfl, rfl⟩)
    refine bodyPost_ret (results_none rfl _ _ _) rfl ?_
    exact ⟨rfl, rfl⟩
set_option maxHeartbeats 1000000 in
theorem sortNil_any (f : Value) (w : World) : Calls Tryd.prog 85 #[.slice none 0 0, f] w fun e w' => e = .returned (.tuple #[]) ∧ w = w' := by
  have hl : ∀ W, Calls Tryd.prog 93 #[.int .u64 0] W fun e w' => e = .returned (.int .i64 0) ∧ W = w' := fun W =>
    (Any.bits_Len (SlLaysF0.n15.bits (P := Tryd.prog) (ρ := sortSp_ren) { sortSp with }) 0 W (by omega) (by omega)).mono fun _ _ ⟨he, hw⟩ => ⟨he, hw.symm⟩
  go_enter Tryd.func85, Tryd.ntmps85
  go_wp2_with (first
    | (go_at_call 93; go_must (refine (hl _).mono ?_); rintro e w' ⟨rfl, rfl⟩)
    | (go_at_call 92; go_must (refine (pdqNil_any _ _).mono ?_); rintro e w' ⟨rfl, rfl⟩))
  go_end0
  exact ⟨rfl, rfl⟩

set_option maxHeartbeats 8000000 in
theorem tidy_any (A : Option Addr) (n c : Nat) (l : List Sn.Sp) (w : World) (hl : l.length = n) (hR : Rd w w.heap.size 2 A n c (sv l)) (hn : n ≤ 8796093022208) :
    Calls Tryd.prog 70 #[.slice A n c] w fun e w' => ∃ A' c', e = .returned (.slice A' (Sn.tidy l).length c') ∧ w'.ownsRow w.heap.size 37 2 (.slice A' (Sn.tidy l).length c') (Sn.tidy l).length (sv (Sn.tidy l)) ∧ Below w.heap.size w w' := by
  obtain ⟨i0, hi0, hz0, hz1, hz2⟩ := info_parts spanE_info
  have h1max : 1 ≤ maxLen := by unfold maxLen; omega
  have HR := Lib.hid hR
  have HL := Lib.hid hl
  clear hR hl
  go_enter Tryd.func70, Tryd.ntmps70
  go_wp2
  go_loopw [3, 12] (fun v3 v12 wr => ∃ (k m c' : Nat) (A' : Option Addr), v12 = .int .i64 k ∧ v3 = .slice A' m c' ∧ k ≤ n ∧ m ≤ k ∧ Below w.heap.size w wr ∧ Hid (wr.ownsRow w.heap.size 37 2 (.slice A' m c') m (sv (Sn.cut (l.take k)))) ∧ Hid ((Sn.cut (l.take k)).length = m)) (fun _ v12 _ => n - (intOf v12).toNat)
  case atStart => exact ⟨0, 0, 0, none, rfl, rfl, by omega, by omega, Below.refl _ _, World.ownsRow_nil _ _ _ _, rfl⟩
  case round =>
    obtain ⟨k, m, c', A', rfl, rfl, hk, hm, hb, ho, hlen⟩ := hrel
    have hbs := hb.size
    by_cases hlt : k < n
    · obtain ⟨bb, o, rfl, hab, g0, g1⟩ := (HR.out.below hb).stamp HL.out hlt
      have hkl : k < l.length := by rw [HL.out]; exact hlt
      have HT := Lib.hid (show Sn.cut (l.take (k + 1)) = Sn.cut (l.take k) ++ (Sn.cutS (l[k]'hkl)).toList by rw [List.take_succ_eq_append_getElem hkl, Sn.cut_snoc])
      have hcs : Sn.cutS (l[k]'hkl) = if max (l[k]'hkl).1 0 ≤ min (l[k]'hkl).2 255 then some (max (l[k]'hkl).1 0, min (l[k]'hkl).2 255) else none := rfl
      generalize (l[k]'hkl) = s at g0 g1 HT hcs
      obtain ⟨lo, hi⟩ := s
      dsimp only at g0 g1 hcs
      have h63 : m + 1 ≤ maxLen := by unfold maxLen; omega
      by_cases hc : max lo 0 ≤ min hi 255
      · have HC := Lib.hid (show Sn.cut (l.take (k + 1)) = Sn.cut (l.take k) ++ [(max lo 0, min hi 255)] by rw [HT.out, hcs, if_pos hc]; rfl)
        have hRn : Rd ((wr.alloc (.cells #[.int .i64 (max lo 0), .int .i64 (min hi 255)] 37)).alloc (.cells #[.int .i64 (max lo 0), .int .i64 (min hi 255)] 37)) (wr.heap.size + 1 + 1) 2 (some ⟨wr.heap.size + 1, 0, none⟩) 1 1 [.int .i64 (max lo 0), .int .i64 (min hi 255)] := by
          have := Rd.new (wr.alloc (.cells #[.int .i64 (max lo 0), .int .i64 (min hi 255)] 37)) 37 2 1 #[.int .i64 (max lo 0), .int .i64 (min hi 255)] rfl h1max
          rwa [World.size_alloc] at this
        have HRN := Lib.hid hRn
        have HHC := Lib.hid hcs
        clear hcs hRn hkl
        go_wp2_with (at_builtin; go_must (refine wpList_append_rd _ rfl (.tmp 29) (.tmp 31) _ rfl w.heap.size 37 i0 _ 2 16 Tryd.underlying23 hi0 hz0 hz1 hz2 rfl (by decide) (.slice A' m c') m _ rfl ((ho.out.alloc _).alloc _) _ (some ⟨_, 0, none⟩) 1 1 [.int .i64 (max lo 0), .int .i64 (min hi 255)] rfl HRN.out (by intro u hu; simp at hu; rcases hu with rfl | rfl <;> rfl) h63 (by omega) (by simp; omega) ?_); intro A3 c3 w3 ho3 hg3 hat3)
        go_roundw
        case rel =>
          refine ⟨k + 1, m + 1, c3, A3, by go_num, rfl, by omega, by omega, ((hb.alloc hbs _).alloc (by simp; omega) _).trans (grown_below hg3 (by simp; omega) (fun j hj => own_lt ho.out j hj)), ?_, ?_⟩
          · rw [HC.out, sv_app]; exact ho3
          · show _ = _
            rw [HC.out, List.length_append, hlen.out]; rfl
        case measure => simp [intOf]; omega
      · have HC := Lib.hid (show Sn.cut (l.take (k + 1)) = Sn.cut (l.take k) by rw [HT.out, hcs, if_neg hc]; simp)
        clear hcs hkl
        go_wp2
        go_roundw
        case rel => exact ⟨k + 1, m, c', A', by go_num, rfl, by omega, by omega, hb.alloc hbs _, by rw [HC.out]; exact ho.out.alloc _, by show _ = _; rw [HC.out]; exact hlen.out⟩
        case measure => simp [intOf]; omega
    · obtain rfl : k = n := by omega
      have hcut : l.take k = l := List.take_of_length_le (by rw [HL.out]; exact Nat.le_refl _)
      rw [hcut] at ho hlen
      have hs : ∃ (Q : World → Prop), (∀ V, Q V → ∃ cc : List Sn.Sp, Sn.put cc = Sn.tidy l ∧ (∀ s ∈ cc, Sn.okS s) ∧ cc.length = m ∧ Rd V V.heap.size 2 A' m c' (sv cc) ∧ Below w.heap.size w V) ∧ Calls Tryd.prog 85 #[.slice A' m c', .func (.func 86) #[] #[]] wr fun e V => e = .returned (.tuple #[]) ∧ Q V := by
        rcases A' with _ | ad
        · obtain ⟨A'', c'', hv, h1, _⟩ := own_form ho.out
          have h2 := (Rd.of_own ho.out).nil rfl
          have h3 := (Rd.of_own ho.out).cap
          obtain rfl : m = 0 := by omega
          subst h2
          have hce : Sn.cut l = [] := List.eq_nil_of_length_eq_zero hlen.out
          refine ⟨fun V => wr = V, fun V hV => ⟨[], ?_, (fun s hs => by cases hs), rfl, Rd.none_, by rw [← hV]; exact hb⟩, sortNil_any _ wr⟩
          have := Sn.tidy_put (l := l) (c := []) (by rw [hce]) trivial
          exact this
        · obtain ⟨G, hG⟩ : ∃ G, ad = ⟨G, 0, none⟩ := by
            rcases ho.out.2 with h | ⟨g, cap, cur, hv, _⟩
            · exact absurd h.1 (by simp)
            · injection hv with hv1 _ _
              injection hv1 with hv1
              exact ⟨g, hv1⟩
          subst hG
          refine ⟨fun V => ∃ l', List.Perm (Sn.cut l) l' ∧ Sn.risS l' ∧ V.ownsRow w.heap.size 37 2 (.slice (some ⟨G, 0, none⟩) m c') m (sv l') ∧ wr.grownBy V (some G), fun V hV => ?_, sortS_own w.heap.size G m c' (Sn.cut l) wr ho.out hlen.out (by omega)⟩
          obtain ⟨l', hp, hr, ho', hg'⟩ := hV
          exact ⟨l', Sn.tidy_put hp hr, fun s hs => Sn.cut_ok (hp.mem_iff.2 hs), by rw [← hp.length_eq]; exact hlen.out, Rd.of_own ho', hb.trans (grown_below hg' hbs (fun j hj => by cases hj; exact (ho.out.lt G rfl).1))⟩
      obtain ⟨Q, hQ, hS⟩ := hs
      have HS := Lib.hid hS
      have HQ := Lib.hid hQ
      clear hS hQ ho hlen hcut hb hbs
      go_wp2_with (go_at_call 85; go_must (refine HS.out.mono ?_); rintro e w1 ⟨rfl, hq1⟩)
      obtain ⟨cc, hput, hok, hcl, hRc, hb1⟩ := HQ.out _ hq1
      have HP := Lib.hid hput
      have HOK := Lib.hid hok
      have HCL := Lib.hid hcl
      have HRC := Lib.hid hRc
      have HB1 := Lib.hid hb1
      have hs1 := hb1.size
      clear hput hok hcl hRc hb1 HS HQ hq1
      go_loopw [6, 38] (fun v6 v38 wr => ∃ (j q c2 : Nat) (A2 : Option Addr), v38 = .int .i64 j ∧ v6 = .slice A2 q c2 ∧ j ≤ m ∧ q ≤ j ∧ Below w1.heap.size w1 wr ∧ Hid (wr.ownsRow w1.heap.size 37 2 (.slice A2 q c2) q (sv (Sn.put (cc.take j)))) ∧ Hid ((Sn.put (cc.take j)).length = q)) (fun _ v38 _ => m - (intOf v38).toNat)
      case atStart => exact ⟨0, 0, 0, none, rfl, rfl, by omega, by omega, Below.refl _ _, World.ownsRow_nil _ _ _ _, rfl⟩
      case round =>
        obtain ⟨j, q, c2, A2, rfl, rfl, hj, hq, hb, ho, hlen⟩ := hrel
        have hbs := hb.size
        by_cases hlt : j < m
        · obtain ⟨bb, o, rfl, hab, g0, g1⟩ := (HRC.out.below hb).stamp HCL.out hlt
          have hkl : j < cc.length := by rw [HCL.out]; exact hlt
          have HT := Lib.hid (show Sn.put (cc.take (j + 1)) = Sn.putS (Sn.put (cc.take j)) (cc[j]'hkl) by rw [List.take_succ_eq_append_getElem hkl, Sn.put_snoc])
          obtain ⟨a1, a2, a3⟩ := HOK.out _ (List.getElem_mem hkl)
          have hpo := put_okS (cc.take j) (fun s hs => HOK.out s (List.mem_of_mem_take hs))
          generalize (cc[j]'hkl) = s at g0 g1 HT a1 a2 a3
          obtain ⟨lo, hi⟩ := s
          dsimp only at g0 g1 a1 a2 a3
          have h63 : q + 1 ≤ maxLen := by unfold maxLen; omega
          have hbA : Below wr.heap.size wr (wr.alloc (.cells #[.int .i64 lo, .int .i64 hi] 37)) := (Below.refl _ _).alloc (Nat.le_refl _) _
          have hX := Blk.new wr 37 #[.int .i64 lo, .int .i64 hi]
          have hRn : Rd ((wr.alloc (.cells #[.int .i64 lo, .int .i64 hi] 37)).drew.alloc (.cells #[.int .i64 lo, .int .i64 hi] 37)) (wr.heap.size + 1 + 1) 2 (some ⟨wr.heap.size + 1, 0, none⟩) 1 1 [.int .i64 lo, .int .i64 hi] := by
            have := Rd.new (wr.alloc (.cells #[.int .i64 lo, .int .i64 hi] 37)).drew 37 2 1 #[.int .i64 lo, .int .i64 hi] rfl h1max
            rwa [show (wr.alloc (.cells #[.int .i64 lo, .int .i64 hi] 37)).drew.heap.size = wr.heap.size + 1 from World.size_alloc _ _] at this
          have HRN := Lib.hid hRn
          have hXX := fun (V : World) (hv : Below (wr.alloc (.cells #[.int .i64 lo, .int .i64 hi] 37)).heap.size (wr.alloc (.cells #[.int .i64 lo, .int .i64 hi] 37)) V) => (show V.cell? ⟨wr.heap.size, 0, none⟩ = some (.int .i64 lo) ∧ V.cell? ⟨wr.heap.size, 1, none⟩ = some (.int .i64 hi) from ⟨(hX.go hv).cell 0, (hX.go hv).cell 1⟩)
          have HXX := Lib.hid hXX
          have kw := (Below.refl (wr.alloc (.cells #[.int .i64 lo, .int .i64 hi] 37)).heap.size (wr.alloc (.cells #[.int .i64 lo, .int .i64 hi] 37))).drew
          have HBX := Lib.hid hX
          clear hRn hX hXX hkl
          by_cases hq0 : q = 0
          · subst hq0
            have hpe : Sn.put (cc.take j) = [] := List.eq_nil_of_length_eq_zero hlen.out
            have HT2 := Lib.hid (show Sn.put (cc.take (j + 1)) = Sn.put (cc.take j) ++ [(lo, hi)] by rw [HT.out, hpe]; rfl)
            clear hpe hpo
            go_wp2
            refine region_nrm fun KK hKK => ?_
            refine wp_region_held_drew (S := (fun V => V.cell? ⟨wr.heap.size, 0, none⟩ = some (.int .i64 lo) ∧ V.cell? ⟨wr.heap.size, 1, none⟩ = some (.int .i64 hi))) (by kernel_rfl) (by first | exact HXX.out _ kw) (fun hHeld => ?_)
            refine wpAnyH_putD (i := 0) (d := 44) (v := ?_) rfl rfl (by kernel_rfl) (by kernel_rfl) (by kernel_rfl) (fun _ _ _ h => h) (Or.inl ⟨by kernel_rfl, ?_⟩) (by first | exact HXX.out _ kw) ?_
            rotate_left
            · (intro w hS; (try dsimp only at hS); go_simp <;> with_reducible rfl)
            try simp only [List.setIfInBounds_toArray, List.set_cons_zero, List.set_cons_succ]
            refine wpAnyH_putD (i := 1) (d := 45) (v := (.bool false)) rfl rfl (by kernel_rfl) (by kernel_rfl) (by kernel_rfl) (fun _ _ _ h => h) (Or.inl ⟨by kernel_rfl, ?_⟩) (by first | exact HXX.out _ kw) ?_
            · (intro w hS; (try dsimp only at hS); go_simp <;> with_reducible rfl)
            try simp only [List.setIfInBounds_toArray, List.set_cons_zero, List.set_cons_succ]
            refine wpAnyH_putD (i := 2) (d := 46) (v := ?_) rfl rfl (by kernel_rfl) (by kernel_rfl) (by kernel_rfl) (fun _ _ _ h => h) (Or.inl ⟨by kernel_rfl, ?_⟩) (by first | exact HXX.out _ kw) ?_
            rotate_left
            · (intro w hS; (try dsimp only at hS); go_simp <;> with_reducible rfl)
            try simp only [List.setIfInBounds_toArray, List.set_cons_zero, List.set_cons_succ]
            refine wpAnyH_putD (i := 3) (d := 47) (v := undef) rfl rfl (by kernel_rfl) (by kernel_rfl) (by kernel_rfl) (fun _ _ _ h => h) (Or.inr ⟨by kernel_rfl, rfl⟩) (by first | exact HXX.out _ kw) ?_
            try simp only [List.setIfInBounds_toArray, List.set_cons_zero, List.set_cons_succ]
            refine wpAnyH_putD (i := 4) (d := 48) (v := undef) rfl rfl (by kernel_rfl) (by kernel_rfl) (by kernel_rfl) (fun _ _ _ h => h) (Or.inr ⟨by kernel_rfl, rfl⟩) (by first | exact HXX.out _ kw) ?_
            try simp only [List.setIfInBounds_toArray, List.set_cons_zero, List.set_cons_succ]
            refine wpAnyH_putD (i := 5) (d := 49) (v := undef) rfl rfl (by kernel_rfl) (by kernel_rfl) (by kernel_rfl) (fun _ _ _ h => h) (Or.inr ⟨by kernel_rfl, rfl⟩) (by first | exact HXX.out _ kw) ?_
            try simp only [List.setIfInBounds_toArray, List.set_cons_zero, List.set_cons_succ]
            refine wpAnyH_putD (i := 6) (d := 50) (v := undef) rfl rfl (by kernel_rfl) (by kernel_rfl) (by kernel_rfl) (fun _ _ _ h => h) (Or.inr ⟨by kernel_rfl, rfl⟩) (by first | exact HXX.out _ kw) ?_
            try simp only [List.setIfInBounds_toArray, List.set_cons_zero, List.set_cons_succ]
            refine wpAnyH_putD (i := 7) (d := 51) (v := undef) rfl rfl (by kernel_rfl) (by kernel_rfl) (by kernel_rfl) (fun _ _ _ h => h) (Or.inr ⟨by kernel_rfl, rfl⟩) (by first | exact HXX.out _ kw) ?_
            try simp only [List.setIfInBounds_toArray, List.set_cons_zero, List.set_cons_succ]
            refine wpAnyH_putD (i := 8) (d := 52) (v := undef) rfl rfl (by kernel_rfl) (by kernel_rfl) (by kernel_rfl) (fun _ _ _ h => h) (Or.inr ⟨by kernel_rfl, rfl⟩) (by first | exact HXX.out _ kw) ?_
            try simp only [List.setIfInBounds_toArray, List.set_cons_zero, List.set_cons_succ]
            refine wpAnyH_putD (i := 9) (d := 53) (v := undef) rfl rfl (by kernel_rfl) (by kernel_rfl) (by kernel_rfl) (fun _ _ _ h => h) (Or.inr ⟨by kernel_rfl, rfl⟩) (by first | exact HXX.out _ kw) ?_
            try simp only [List.setIfInBounds_toArray, List.set_cons_zero, List.set_cons_succ]
            refine wpAnyH_putD (i := 10) (d := 54) (v := undef) rfl rfl (by kernel_rfl) (by kernel_rfl) (by kernel_rfl) (fun _ _ _ h => h) (Or.inr ⟨by kernel_rfl, rfl⟩) (by first | exact HXX.out _ kw) ?_
            try simp only [List.setIfInBounds_toArray, List.set_cons_zero, List.set_cons_succ]
            refine wpAnyH_putD (i := 11) (d := 55) (v := undef) rfl rfl (by kernel_rfl) (by kernel_rfl) (by kernel_rfl) (fun _ _ _ h => h) (Or.inr ⟨by kernel_rfl, rfl⟩) (by first | exact HXX.out _ kw) ?_
            try simp only [List.setIfInBounds_toArray, List.set_cons_zero, List.set_cons_succ]
            refine wpAnyH_putD (i := 12) (d := 56) (v := undef) rfl rfl (by kernel_rfl) (by kernel_rfl) (by kernel_rfl) (fun _ _ _ h => h) (Or.inr ⟨by kernel_rfl, rfl⟩) (by first | exact HXX.out _ kw) ?_
            try simp only [List.setIfInBounds_toArray, List.set_cons_zero, List.set_cons_succ]
            refine wpAnyH_putD (i := 13) (d := 57) (v := ?_) rfl rfl (by kernel_rfl) (by kernel_rfl) (by kernel_rfl) (fun _ _ _ h => h) (Or.inl ⟨by kernel_rfl, ?_⟩) (by first | exact HXX.out _ kw) ?_
            rotate_left
            · (intro w hS; (try dsimp only at hS); go_simp <;> with_reducible rfl)
            try simp only [List.setIfInBounds_toArray, List.set_cons_zero, List.set_cons_succ]
            refine wpAnyH_done (by kernel_rfl) ?_ _
            refine Nrm.out (hKK _ _ ?_)
            go_wp2_with (at_builtin; go_must (refine wpList_append_rd _ rfl (.tmp 72) (.tmp 74) _ rfl w1.heap.size 37 i0 _ 2 16 Tryd.underlying23 hi0 hz0 hz1 hz2 rfl (by decide) (.slice A2 0 c2) 0 _ rfl (World.ownsRow.alloc (show (wr.alloc _).drew.ownsRow _ _ _ _ _ _ from ho.out.alloc _) _) _ (some ⟨_, 0, none⟩) 1 1 [.int .i64 lo, .int .i64 hi] rfl HRN.out (by intro u hu; simp at hu; rcases hu with rfl | rfl <;> rfl) h63 (by omega) (by simp; omega) ?_); intro A3 c3 w3 ho3 hg3 hat3)
            go_roundw
            case rel =>
              refine ⟨j + 1, 0 + 1, c3, A3, by go_num, rfl, by omega, by omega, (((hb.alloc hbs _).drew).alloc (by simp; omega) _).trans (grown_below hg3 (by simp; omega) (fun j hj => own_lt ho.out j hj)), ?_, ?_⟩
              · rw [HT2.out, sv_app]; exact ho3
              · show _ = _
                rw [HT2.out, List.length_append, hlen.out]; rfl
            case measure => simp [intOf]; omega
          · obtain ⟨p, rfl⟩ : ∃ p, q = p + 1 := ⟨q - 1, by omega⟩
            obtain ⟨u, t, hu⟩ : ∃ u t, Sn.put (cc.take j) = u ++ [t] := ⟨_, _, (List.dropLast_concat_getLast (by intro e; have := hlen.out; rw [e] at this; cases this)).symm⟩
            obtain ⟨b1, b2, b3⟩ := hpo t (by rw [hu]; simp)
            have hul : u.length = p := by have := hlen.out; rw [hu, List.length_append] at this; simpa using this
            obtain ⟨G, cap, hv, hGb, hGs⟩ := ho.out.form (by omega)
            injection hv with hv1 _ hv3
            subst hv1 hv3
            have hcell : ∀ V : World, V.ownsRow w1.heap.size 37 2 (.slice (some ⟨G, 0, none⟩) (p + 1) c2) (p + 1) (sv (Sn.put (cc.take j))) → V.cell? ⟨G, p * 2 + 1, none⟩ = some (.int .i64 t.2) := fun V hV => by
              obtain ⟨b', o', hA', _, hc0, hc1⟩ := (Rd.of_own hV).stamp (k := p) hlen.out (by omega)
              injection hA' with hA'
              injection hA' with e1 e2
              subst e1 e2
              rw [Nat.zero_add] at hc1
              rw [hc1]
              have : (Sn.put (cc.take j))[p]'(by rw [hlen.out]; omega) = t := by
                rw [List.getElem_of_eq hu, List.getElem_append_right (by omega)]; simp [hul]
              rw [this]
            have ho1 : ((wr.alloc (.cells #[.int .i64 lo, .int .i64 hi] 37)).drew).ownsRow w1.heap.size 37 2 (.slice (some ⟨G, 0, none⟩) (p + 1) c2) (p + 1) (sv (Sn.put (cc.take j))) := ho.out.alloc _
            have hG := hcell _ ho1
            have hS1 := And.intro (HXX.out _ kw).1 (And.intro (HXX.out _ kw).2 hG)
            have HO := Lib.hid ho1
            have HUL := Lib.hid hul
            have HGB := Lib.hid hGb
            have HG := Lib.hid hG
            have hGne : G ≠ wr.heap.size := by omega
            have hzw : IntKind.i64.wrap (t.2 + 1) = t.2 + 1 := IntWalk.i64_in _ (by omega)
            have hzp : IntKind.i64.wrap (p : Int) = (p : Int) := IntWalk.i64_in _ (by omega)
            have hpa : (0 : Int) ≤ (p : Int) := by omega
            have hpb : (p : Int) < (p : Int) + 1 := by omega
            have hpc : ((p : Int)).toNat = p := by omega
            obtain ⟨t1, t2⟩ := t
            dsimp only at b1 b2 b3 hG hzw hS1 HG
            by_cases hc : lo ≤ t2 + 1
            · have HT2 := Lib.hid (show Sn.put (cc.take (j + 1)) = u ++ [(t1, max t2 hi)] by rw [HT.out, hu, Sn.putS_snoc, if_pos hc])
              have HU := Lib.hid hu
              have HPP := Lib.hid hpo
              clear hcell ho1 hu hul hpo hGb hG
              go_wp2
              refine region_nrm fun KK hKK => ?_
              refine wp_region_held_drew (S := (fun V => V.cell? ⟨wr.heap.size, 0, none⟩ = some (.int .i64 lo) ∧ V.cell? ⟨wr.heap.size, 1, none⟩ = some (.int .i64 hi) ∧ V.cell? ⟨G, p * 2 + 1, none⟩ = some (.int .i64 t2))) (by kernel_rfl) (by first | exact hS1) (fun hHeld => ?_)
              refine wpAnyH_putD (i := 0) (d := 44) (v := ?_) rfl rfl (by kernel_rfl) (by kernel_rfl) (by kernel_rfl) (fun _ _ _ h => h) (Or.inl ⟨by kernel_rfl, ?_⟩) (by first | exact hS1) ?_
              rotate_left
              · (intro w hS; (try dsimp only at hS); go_simp <;> with_reducible rfl)
              try simp only [List.setIfInBounds_toArray, List.set_cons_zero, List.set_cons_succ]
              refine wpAnyH_putD (i := 1) (d := 45) (v := (.bool true)) rfl rfl (by kernel_rfl) (by kernel_rfl) (by kernel_rfl) (fun _ _ _ h => h) (Or.inl ⟨by kernel_rfl, ?_⟩) (by first | exact hS1) ?_
              · (intro w hS; (try dsimp only at hS); go_simp <;> with_reducible rfl)
              try simp only [List.setIfInBounds_toArray, List.set_cons_zero, List.set_cons_succ]
              refine wpAnyH_putD (i := 2) (d := 46) (v := ?_) rfl rfl (by kernel_rfl) (by kernel_rfl) (by kernel_rfl) (fun _ _ _ h => h) (Or.inl ⟨by kernel_rfl, ?_⟩) (by first | exact hS1) ?_
              rotate_left
              · (intro w hS; (try dsimp only at hS); go_simp <;> with_reducible rfl)
              try simp only [List.setIfInBounds_toArray, List.set_cons_zero, List.set_cons_succ]
              refine wpAnyH_putD (i := 3) (d := 47) (v := ?_) rfl rfl (by kernel_rfl) (by kernel_rfl) (by kernel_rfl) (fun _ _ _ h => h) (Or.inl ⟨by kernel_rfl, ?_⟩) (by first | exact hS1) ?_
              rotate_left
              · (intro w hS; (try dsimp only at hS); go_simp <;> with_reducible rfl)
              try simp only [List.setIfInBounds_toArray, List.set_cons_zero, List.set_cons_succ]
              refine wpAnyH_putD (i := 4) (d := 48) (v := ?_) rfl rfl (by kernel_rfl) (by kernel_rfl) (by kernel_rfl) (fun _ _ _ h => h) (Or.inl ⟨by kernel_rfl, ?_⟩) (by first | exact hS1) ?_
              rotate_left
              · (intro w hS; (try dsimp only at hS); go_simp <;> with_reducible rfl)
              try simp only [List.setIfInBounds_toArray, List.set_cons_zero, List.set_cons_succ]
              refine wpAnyH_putD (i := 5) (d := 49) (v := ?_) rfl rfl (by kernel_rfl) (by kernel_rfl) (by kernel_rfl) (fun _ _ _ h => h) (Or.inl ⟨by kernel_rfl, ?_⟩) (by first | exact hS1) ?_
              rotate_left
              · (intro w hS; (try dsimp only at hS); go_simp <;> with_reducible rfl)
              try simp only [List.setIfInBounds_toArray, List.set_cons_zero, List.set_cons_succ]
              refine wpAnyH_putD (i := 6) (d := 50) (v := ?_) rfl rfl (by kernel_rfl) (by kernel_rfl) (by kernel_rfl) (fun _ _ _ h => h) (Or.inl ⟨by kernel_rfl, ?_⟩) (by first | exact hS1) ?_
              rotate_left
              · (intro w hS; (try dsimp only at hS); go_simp <;> with_reducible rfl)
              try simp only [List.setIfInBounds_toArray, List.set_cons_zero, List.set_cons_succ]
              refine wpAnyH_putD (i := 7) (d := 51) (v := ?_) rfl rfl (by kernel_rfl) (by kernel_rfl) (by kernel_rfl) (fun _ _ _ h => h) (Or.inl ⟨by kernel_rfl, ?_⟩) (by first | exact hS1) ?_
              rotate_left
              · (intro w hS; (try dsimp only at hS); go_simp <;> with_reducible rfl)
              try simp only [List.setIfInBounds_toArray, List.set_cons_zero, List.set_cons_succ]
              refine wpAnyH_putD (i := 8) (d := 52) (v := ?_) rfl rfl (by kernel_rfl) (by kernel_rfl) (by kernel_rfl) (fun _ _ _ h => h) (Or.inl ⟨by kernel_rfl, ?_⟩) (by first | exact hS1) ?_
              rotate_left
              · (intro w hS; (try dsimp only at hS); go_simp <;> with_reducible rfl)
              try simp only [List.setIfInBounds_toArray, List.set_cons_zero, List.set_cons_succ]
              refine wpAnyH_putD (i := 9) (d := 53) (v := ?_) rfl rfl (by kernel_rfl) (by kernel_rfl) (by kernel_rfl) (fun _ _ _ h => h) (Or.inl ⟨by kernel_rfl, ?_⟩) (by first | exact hS1) ?_
              rotate_left
              · (intro w hS; (try dsimp only at hS); go_simp <;> with_reducible rfl)
              try simp only [List.setIfInBounds_toArray, List.set_cons_zero, List.set_cons_succ]
              refine wpAnyH_putD (i := 10) (d := 54) (v := ?_) rfl rfl (by kernel_rfl) (by kernel_rfl) (by kernel_rfl) (fun _ _ _ h => h) (Or.inl ⟨by kernel_rfl, ?_⟩) (by first | exact hS1) ?_
              rotate_left
              · (intro w hS; (try dsimp only at hS); go_simp <;> with_reducible rfl)
              try simp only [List.setIfInBounds_toArray, List.set_cons_zero, List.set_cons_succ]
              refine wpAnyH_putD (i := 11) (d := 55) (v := ?_) rfl rfl (by kernel_rfl) (by kernel_rfl) (by kernel_rfl) (fun _ _ _ h => h) (Or.inl ⟨by kernel_rfl, ?_⟩) (by first | exact hS1) ?_
              rotate_left
              · (intro w hS; (try dsimp only at hS); go_simp <;> with_reducible rfl)
              try simp only [List.setIfInBounds_toArray, List.set_cons_zero, List.set_cons_succ]
              refine wpAnyH_putD (i := 12) (d := 56) (v := (.bool true)) rfl rfl (by kernel_rfl) (by kernel_rfl) (by kernel_rfl) (fun _ _ _ h => h) (Or.inl ⟨by kernel_rfl, ?_⟩) (by first | exact hS1) ?_
              · (intro w hS; (try dsimp only at hS); go_simp <;> with_reducible rfl)
              try simp only [List.setIfInBounds_toArray, List.set_cons_zero, List.set_cons_succ]
              refine wpAnyH_putD (i := 13) (d := 57) (v := ?_) rfl rfl (by kernel_rfl) (by kernel_rfl) (by kernel_rfl) (fun _ _ _ h => h) (Or.inl ⟨by kernel_rfl, ?_⟩) (by first | exact hS1) ?_
              rotate_left
              · (intro w hS; (try dsimp only at hS); go_simp <;> with_reducible rfl)
              try simp only [List.setIfInBounds_toArray, List.set_cons_zero, List.set_cons_succ]
              refine wpAnyH_done (by kernel_rfl) ?_ _
              refine Nrm.out (hKK _ _ ?_)
              clear hS1
              go_wp2_with fail
              have kw2 := kw.drew
              refine region_nrm fun KK hKK => ?_
              refine wp_region_held_drew (S := (fun V => V.cell? ⟨wr.heap.size, 0, none⟩ = some (.int .i64 lo) ∧ V.cell? ⟨wr.heap.size, 1, none⟩ = some (.int .i64 hi))) (by kernel_rfl) (by first | exact HXX.out _ kw2 | exact hS9) (fun hHeld => ?_)
              refine wpAnyH_putD (i := 0) (d := 58) (v := ?_) rfl rfl (by kernel_rfl) (by kernel_rfl) (by kernel_rfl) (fun _ _ _ h => h) (Or.inl ⟨by kernel_rfl, ?_⟩) (by first | exact HXX.out _ kw2 | exact hS9) ?_
              rotate_left
              · (intro w hS; (try dsimp only at hS); go_simp <;> with_reducible rfl)
              try simp only [List.setIfInBounds_toArray, List.set_cons_zero, List.set_cons_succ]
              refine wpAnyH_putD (i := 1) (d := 59) (v := ?_) rfl rfl (by kernel_rfl) (by kernel_rfl) (by kernel_rfl) (fun _ _ _ h => h) (Or.inl ⟨by kernel_rfl, ?_⟩) (by first | exact HXX.out _ kw2 | exact hS9) ?_
              rotate_left
              · (intro w hS; (try dsimp only at hS); go_simp <;> with_reducible rfl)
              try simp only [List.setIfInBounds_toArray, List.set_cons_zero, List.set_cons_succ]
              refine wpAnyH_putD (i := 2) (d := 60) (v := ?_) rfl rfl (by kernel_rfl) (by kernel_rfl) (by kernel_rfl) (fun _ _ _ h => h) (Or.inl ⟨by kernel_rfl, ?_⟩) (by first | exact HXX.out _ kw2 | exact hS9) ?_
              rotate_left
              · (intro w hS; (try dsimp only at hS); go_simp <;> with_reducible rfl)
              try simp only [List.setIfInBounds_toArray, List.set_cons_zero, List.set_cons_succ]
              refine wpAnyH_putD (i := 3) (d := 61) (v := ?_) rfl rfl (by kernel_rfl) (by kernel_rfl) (by kernel_rfl) (fun _ _ _ h => h) (Or.inl ⟨by kernel_rfl, ?_⟩) (by first | exact HXX.out _ kw2 | exact hS9) ?_
              rotate_left
              · (intro w hS; (try dsimp only at hS); go_simp <;> with_reducible rfl)
              try simp only [List.setIfInBounds_toArray, List.set_cons_zero, List.set_cons_succ]
              refine wpAnyH_putD (i := 4) (d := 62) (v := ?_) rfl rfl (by kernel_rfl) (by kernel_rfl) (by kernel_rfl) (fun _ _ _ h => h) (Or.inl ⟨by kernel_rfl, ?_⟩) (by first | exact HXX.out _ kw2 | exact hS9) ?_
              rotate_left
              · (intro w hS; (try dsimp only at hS); go_simp <;> with_reducible rfl)
              try simp only [List.setIfInBounds_toArray, List.set_cons_zero, List.set_cons_succ]
              refine wpAnyH_putD (i := 5) (d := 63) (v := ?_) rfl rfl (by kernel_rfl) (by kernel_rfl) (by kernel_rfl) (fun _ _ _ h => h) (Or.inl ⟨by kernel_rfl, ?_⟩) (by first | exact HXX.out _ kw2 | exact hS9) ?_
              rotate_left
              · (intro w hS; (try dsimp only at hS); go_simp <;> with_reducible rfl)
              try simp only [List.setIfInBounds_toArray, List.set_cons_zero, List.set_cons_succ]
              refine wpAnyH_putD (i := 6) (d := 64) (v := ?_) rfl rfl (by kernel_rfl) (by kernel_rfl) (by kernel_rfl) (fun _ _ _ h => h) (Or.inl ⟨by kernel_rfl, ?_⟩) (by first | exact HXX.out _ kw2 | exact hS9) ?_
              rotate_left
              · (intro w hS; (try dsimp only at hS); go_simp <;> with_reducible rfl)
              try simp only [List.setIfInBounds_toArray, List.set_cons_zero, List.set_cons_succ]
              refine wpAnyH_putD (i := 7) (d := 65) (v := ?_) rfl rfl (by kernel_rfl) (by kernel_rfl) (by kernel_rfl) (fun _ _ _ h => h) (Or.inl ⟨by kernel_rfl, ?_⟩) (by first | exact HXX.out _ kw2 | exact hS9) ?_
              rotate_left
              · (intro w hS; (try dsimp only at hS); go_simp <;> with_reducible rfl)
              try simp only [List.setIfInBounds_toArray, List.set_cons_zero, List.set_cons_succ]
              refine wpAnyH_putD (i := 9) (d := 67) (v := ?_) rfl rfl (by kernel_rfl) (by kernel_rfl) (by kernel_rfl) (fun _ _ _ h => h) (Or.inl ⟨by kernel_rfl, ?_⟩) (by first | exact HXX.out _ kw2 | exact hS9) ?_
              rotate_left
              · (intro w hS; (try dsimp only at hS); go_simp <;> with_reducible rfl)
              try simp only [List.setIfInBounds_toArray, List.set_cons_zero, List.set_cons_succ]
              refine wpAnyH_putD (i := 10) (d := 68) (v := ?_) rfl rfl (by kernel_rfl) (by kernel_rfl) (by kernel_rfl) (fun _ _ _ h => h) (Or.inl ⟨by kernel_rfl, ?_⟩) (by first | exact HXX.out _ kw2 | exact hS9) ?_
              rotate_left
              · (intro w hS; (try dsimp only at hS); go_simp <;> with_reducible rfl)
              try simp only [List.setIfInBounds_toArray, List.set_cons_zero, List.set_cons_succ]
              refine wpAnyH_ready (rs := [8]) (by kernel_rfl) (by simp) ?_
              refine AllReadyH.cons rfl (fun K hK => ?_) AllReadyH.nil
              have qg := HG.out
              go_simp
              clear qg
              refine hK.out _ _ (by first | exact HXX.out _ kw2 | exact hS9) (fun hHeld => ?_)
              clear hK K
              refine wpAnyH_putD (i := 11) (d := 69) (v := ?_) rfl rfl (by kernel_rfl) (by kernel_rfl) (by kernel_rfl) (fun _ _ _ h => h) (Or.inl ⟨by kernel_rfl, ?_⟩) (by first | exact HXX.out _ kw2 | exact hS9) ?_
              rotate_left
              · (intro w hS; (try dsimp only at hS); go_simp <;> with_reducible rfl)
              try simp only [List.setIfInBounds_toArray, List.set_cons_zero, List.set_cons_succ]
              refine wpAnyH_putD (i := 12) (d := 70) (v := ?_) rfl rfl (by kernel_rfl) (by kernel_rfl) (by kernel_rfl) (fun _ _ _ h => h) (Or.inl ⟨by kernel_rfl, ?_⟩) (by first | exact HXX.out _ kw2 | exact hS9) ?_
              rotate_left
              · (intro w hS; (try dsimp only at hS); go_simp <;> with_reducible rfl)
              try simp only [List.setIfInBounds_toArray, List.set_cons_zero, List.set_cons_succ]
              refine wpAnyH_putD (i := 13) (d := 71) (v := ?_) rfl rfl (by kernel_rfl) (by kernel_rfl) (by kernel_rfl) (fun _ _ _ h => h) (Or.inl ⟨by kernel_rfl, ?_⟩) (by first | exact HXX.out _ kw2 | exact hS9) ?_
              rotate_left
              · (intro w hS; (try dsimp only at hS); go_simp <;> with_reducible rfl)
              try simp only [List.setIfInBounds_toArray, List.set_cons_zero, List.set_cons_succ]
              refine wpAnyH_ready (rs := [14]) (by kernel_rfl) (by simp) ?_
              refine AllReadyH.cons rfl (fun K hK => ?_) AllReadyH.nil
              have qg := HG.out
              have qf := (own_cell (j := p * 2 + 1) HO.out (by omega) (.int .i64 0)).2.2
              go_simp
              clear qg qf
              have hX9 := Blk.new (wr.setCell ⟨G, p * 2 + 1, none⟩ (.int .i64 (max t2 hi))) 37 #[.int .i64 lo, .int .i64 hi]
              rw [World.size_setCell] at hX9
              have hX9 : Blk (((wr.setCell ⟨G, p * 2 + 1, none⟩ (.int .i64 (max t2 hi))).alloc (.cells #[.int .i64 lo, .int .i64 hi] 37)).drew.drew) wr.heap.size 37 #[.int .i64 lo, .int .i64 hi] := hX9
              have hS9 := And.intro (hX9.cell 0) (hX9.cell 1)
              refine hK.out _ _ (by first | exact HXX.out _ kw2 | exact hS9) (fun hHeld => ?_)
              clear hK K
              refine wpAnyH_done (by kernel_rfl) ?_ _
              refine Nrm.out (hKK _ _ ?_)
              go_wp2
              go_roundw
              case rel =>
                have hoc := own_cell (j := p * 2 + 1) ho.out (by omega) (.int .i64 (max t2 hi))
                have ho5 := hoc.1.alloc (.cells #[.int .i64 lo, .int .i64 hi] 37)
                rw [HU.out, ← HUL.out, sv_set_last] at ho5
                refine ⟨j + 1, p + 1, c2, some ⟨G, 0, none⟩, by go_num, rfl, by omega, by omega, (((hb.setCell (p := ⟨G, p * 2 + 1, none⟩) HGB.out _).alloc (by simp; exact hbs) _).drew).drew, ?_, ?_⟩
                · rw [HT2.out, ← HUL.out]; exact ho5
                · show _ = _
                  rw [HT2.out, List.length_append, HUL.out]; rfl
              case measure => simp [intOf]; omega
            · have HT2 := Lib.hid (show Sn.put (cc.take (j + 1)) = Sn.put (cc.take j) ++ [(lo, hi)] by rw [HT.out, hu, Sn.putS_snoc, if_neg hc])
              clear hcell ho1 hu hul hpo hGb hG
              go_wp2
              refine region_nrm fun KK hKK => ?_
              refine wp_region_held_drew (S := (fun V => V.cell? ⟨wr.heap.size, 0, none⟩ = some (.int .i64 lo) ∧ V.cell? ⟨wr.heap.size, 1, none⟩ = some (.int .i64 hi) ∧ V.cell? ⟨G, p * 2 + 1, none⟩ = some (.int .i64 t2))) (by kernel_rfl) (by first | exact hS1) (fun hHeld => ?_)
              refine wpAnyH_putD (i := 0) (d := 44) (v := ?_) rfl rfl (by kernel_rfl) (by kernel_rfl) (by kernel_rfl) (fun _ _ _ h => h) (Or.inl ⟨by kernel_rfl, ?_⟩) (by first | exact hS1) ?_
              rotate_left
              · (intro w hS; (try dsimp only at hS); go_simp <;> with_reducible rfl)
              try simp only [List.setIfInBounds_toArray, List.set_cons_zero, List.set_cons_succ]
              refine wpAnyH_putD (i := 1) (d := 45) (v := (.bool true)) rfl rfl (by kernel_rfl) (by kernel_rfl) (by kernel_rfl) (fun _ _ _ h => h) (Or.inl ⟨by kernel_rfl, ?_⟩) (by first | exact hS1) ?_
              · (intro w hS; (try dsimp only at hS); go_simp <;> with_reducible rfl)
              try simp only [List.setIfInBounds_toArray, List.set_cons_zero, List.set_cons_succ]
              refine wpAnyH_putD (i := 2) (d := 46) (v := ?_) rfl rfl (by kernel_rfl) (by kernel_rfl) (by kernel_rfl) (fun _ _ _ h => h) (Or.inl ⟨by kernel_rfl, ?_⟩) (by first | exact hS1) ?_
              rotate_left
              · (intro w hS; (try dsimp only at hS); go_simp <;> with_reducible rfl)
              try simp only [List.setIfInBounds_toArray, List.set_cons_zero, List.set_cons_succ]
              refine wpAnyH_putD (i := 3) (d := 47) (v := ?_) rfl rfl (by kernel_rfl) (by kernel_rfl) (by kernel_rfl) (fun _ _ _ h => h) (Or.inl ⟨by kernel_rfl, ?_⟩) (by first | exact hS1) ?_
              rotate_left
              · (intro w hS; (try dsimp only at hS); go_simp <;> with_reducible rfl)
              try simp only [List.setIfInBounds_toArray, List.set_cons_zero, List.set_cons_succ]
              refine wpAnyH_putD (i := 4) (d := 48) (v := ?_) rfl rfl (by kernel_rfl) (by kernel_rfl) (by kernel_rfl) (fun _ _ _ h => h) (Or.inl ⟨by kernel_rfl, ?_⟩) (by first | exact hS1) ?_
              rotate_left
              · (intro w hS; (try dsimp only at hS); go_simp <;> with_reducible rfl)
              try simp only [List.setIfInBounds_toArray, List.set_cons_zero, List.set_cons_succ]
              refine wpAnyH_putD (i := 5) (d := 49) (v := ?_) rfl rfl (by kernel_rfl) (by kernel_rfl) (by kernel_rfl) (fun _ _ _ h => h) (Or.inl ⟨by kernel_rfl, ?_⟩) (by first | exact hS1) ?_
              rotate_left
              · (intro w hS; (try dsimp only at hS); go_simp <;> with_reducible rfl)
              try simp only [List.setIfInBounds_toArray, List.set_cons_zero, List.set_cons_succ]
              refine wpAnyH_putD (i := 6) (d := 50) (v := ?_) rfl rfl (by kernel_rfl) (by kernel_rfl) (by kernel_rfl) (fun _ _ _ h => h) (Or.inl ⟨by kernel_rfl, ?_⟩) (by first | exact hS1) ?_
              rotate_left
              · (intro w hS; (try dsimp only at hS); go_simp <;> with_reducible rfl)
              try simp only [List.setIfInBounds_toArray, List.set_cons_zero, List.set_cons_succ]
              refine wpAnyH_putD (i := 7) (d := 51) (v := ?_) rfl rfl (by kernel_rfl) (by kernel_rfl) (by kernel_rfl) (fun _ _ _ h => h) (Or.inl ⟨by kernel_rfl, ?_⟩) (by first | exact hS1) ?_
              rotate_left
              · (intro w hS; (try dsimp only at hS); go_simp <;> with_reducible rfl)
              try simp only [List.setIfInBounds_toArray, List.set_cons_zero, List.set_cons_succ]
              refine wpAnyH_putD (i := 8) (d := 52) (v := ?_) rfl rfl (by kernel_rfl) (by kernel_rfl) (by kernel_rfl) (fun _ _ _ h => h) (Or.inl ⟨by kernel_rfl, ?_⟩) (by first | exact hS1) ?_
              rotate_left
              · (intro w hS; (try dsimp only at hS); go_simp <;> with_reducible rfl)
              try simp only [List.setIfInBounds_toArray, List.set_cons_zero, List.set_cons_succ]
              refine wpAnyH_putD (i := 9) (d := 53) (v := ?_) rfl rfl (by kernel_rfl) (by kernel_rfl) (by kernel_rfl) (fun _ _ _ h => h) (Or.inl ⟨by kernel_rfl, ?_⟩) (by first | exact hS1) ?_
              rotate_left
              · (intro w hS; (try dsimp only at hS); go_simp <;> with_reducible rfl)
              try simp only [List.setIfInBounds_toArray, List.set_cons_zero, List.set_cons_succ]
              refine wpAnyH_putD (i := 10) (d := 54) (v := ?_) rfl rfl (by kernel_rfl) (by kernel_rfl) (by kernel_rfl) (fun _ _ _ h => h) (Or.inl ⟨by kernel_rfl, ?_⟩) (by first | exact hS1) ?_
              rotate_left
              · (intro w hS; (try dsimp only at hS); go_simp <;> with_reducible rfl)
              try simp only [List.setIfInBounds_toArray, List.set_cons_zero, List.set_cons_succ]
              refine wpAnyH_putD (i := 11) (d := 55) (v := ?_) rfl rfl (by kernel_rfl) (by kernel_rfl) (by kernel_rfl) (fun _ _ _ h => h) (Or.inl ⟨by kernel_rfl, ?_⟩) (by first | exact hS1) ?_
              rotate_left
              · (intro w hS; (try dsimp only at hS); go_simp <;> with_reducible rfl)
              try simp only [List.setIfInBounds_toArray, List.set_cons_zero, List.set_cons_succ]
              refine wpAnyH_putD (i := 12) (d := 56) (v := (.bool false)) rfl rfl (by kernel_rfl) (by kernel_rfl) (by kernel_rfl) (fun _ _ _ h => h) (Or.inl ⟨by kernel_rfl, ?_⟩) (by first | exact hS1) ?_
              · (intro w hS; (try dsimp only at hS); go_simp <;> with_reducible rfl)
              try simp only [List.setIfInBounds_toArray, List.set_cons_zero, List.set_cons_succ]
              refine wpAnyH_putD (i := 13) (d := 57) (v := ?_) rfl rfl (by kernel_rfl) (by kernel_rfl) (by kernel_rfl) (fun _ _ _ h => h) (Or.inl ⟨by kernel_rfl, ?_⟩) (by first | exact hS1) ?_
              rotate_left
              · (intro w hS; (try dsimp only at hS); go_simp <;> with_reducible rfl)
              try simp only [List.setIfInBounds_toArray, List.set_cons_zero, List.set_cons_succ]
              refine wpAnyH_done (by kernel_rfl) ?_ _
              refine Nrm.out (hKK _ _ ?_)
              go_wp2_with (at_builtin; go_must (refine wpList_append_rd _ rfl (.tmp 72) (.tmp 74) _ rfl w1.heap.size 37 i0 _ 2 16 Tryd.underlying23 hi0 hz0 hz1 hz2 rfl (by decide) (.slice (some ⟨G, 0, none⟩) (p + 1) c2) (p + 1) _ rfl (World.ownsRow.alloc (show (wr.alloc _).drew.ownsRow _ _ _ _ _ _ from ho.out.alloc _) _) _ (some ⟨_, 0, none⟩) 1 1 [.int .i64 lo, .int .i64 hi] rfl HRN.out (by intro u hu; simp at hu; rcases hu with rfl | rfl <;> rfl) h63 (by omega) (by simp; omega) ?_); intro A3 c3 w3 ho3 hg3 hat3)
              go_roundw
              case rel =>
                refine ⟨j + 1, (p + 1) + 1, c3, A3, by go_num, rfl, by omega, by omega, (((hb.alloc hbs _).drew).alloc (by simp; omega) _).trans (grown_below hg3 (by simp; omega) (fun j hj => own_lt ho.out j hj)), ?_, ?_⟩
                · rw [HT2.out, sv_app]; exact ho3
                · show _ = _
                  rw [HT2.out, List.length_append, hlen.out]; rfl
              case measure => simp [intOf]; omega
        · obtain rfl : j = m := by omega
          have he : Sn.put (cc.take j) = Sn.tidy l := by rw [List.take_of_length_le (by rw [HCL.out]; exact Nat.le_refl _), HP.out]
          have HO := Lib.hid ho.out
          rw [he] at HO hlen
          have HLN := Lib.hid hlen.out
          have HB := Lib.hid (below_then HB1.out (Nat.le_refl _) hb)
          clear he ho hlen hb
          go_wp2
          go_ret
          exact ⟨A2, c2, by rw [HLN.out] <;> rfl, by rw [HLN.out]; exact own_less HO.out hs1, HB.out⟩
end Go.Proofs.YtnibkniggiokkaaDoor

namespace Go.Proofs.YtnibkniggiokkaaDoor
open Go.RowKit
set_option maxRecDepth 100000

/-- What a call that hands out spans of its own says. -/
def SpOut (w w' : World) (e : Ending) (l : List Sn.Sp) : Prop :=
  ∃ A' c', e = .returned (.slice A' l.length c') ∧ w'.ownsRow w.heap.size 37 2 (.slice A' l.length c') l.length (sv l) ∧ Below w.heap.size w w'

end Go.Proofs.YtnibkniggiokkaaDoor

namespace Go.Proofs.YtnibkniggiokkaaDoor
open Go.RowKit
set_option maxRecDepth 100000

theorem own_drew_ {w : World} {base : Nat} {e : TypeId} {size n : Nat} {v : Value} {xs : List Value} (h : w.ownsRow base e size v n xs) : w.drew.ownsRow base e size v n xs := h
/-- How long a slice is. -/
def slLen : Value → Nat
  | .slice _ n _ => n
  | _ => 0
end Go.Proofs.YtnibkniggiokkaaDoor

namespace Go.Proofs.YtnibkniggiokkaaDoor
open Go.RowKit
set_option maxRecDepth 100000

theorem restL_len (l : List Sn.Sp) : (Sn.restL l).length ≤ 128 := Sn.fmS_128 (Sn.of_fm _)
end Go.Proofs.YtnibkniggiokkaaDoor

namespace Go.Proofs.YtnibkniggiokkaaDoor
open Go.RowKit
set_option maxRecDepth 100000

/-- Numbers as cells. -/
def zv (L : List Int) : List Value := L.map (Value.int .i64)
/-- Each number as a span of its own. -/
def ones (L : List Int) : List Sn.Sp := L.map fun o => (o, o)
set_option maxHeartbeats 4000000 in
theorem spanOf_any (A : Option Addr) (n c : Nat) (L : List Int) (w : World) (hl : L.length = n) (hR : Rd w w.heap.size 1 A n c (zv L)) (hn : n ≤ 8796093022208) :
    Calls Tryd.prog 28 #[.slice A n c] w fun e w' => SpOut w w' e (Sn.tidy (ones L)) := by
  obtain ⟨i0, hi0, hz0, hz1, hz2⟩ := info_parts spanE_info
  have h1max : 1 ≤ maxLen := by unfold maxLen; omega
  have hmx : n ≤ maxLen := by unfold maxLen; omega
  have HR := Lib.hid hR
  have HL := Lib.hid hl
  have HT := Lib.hid (fun (V : World) (A1 : Option Addr) (c1 : Nat) (h : Rd V V.heap.size 2 A1 n c1 (sv (ones L))) => tidy_any A1 n c1 (ones L) V (by unfold ones; rw [List.length_map]; exact hl) h hn)
  clear hR hl
  go_enter Tryd.func28, Tryd.ntmps28
  go_wp2
  go_loopw [3, 8] (fun v3 v8 wr => ∃ (k c' : Nat) (A' : Option Addr), v8 = .int .i64 k ∧ v3 = .slice A' k c' ∧ k ≤ n ∧ Below w.heap.size w wr ∧ Hid (wr.ownsRow w.heap.size 37 2 (.slice A' k c') k (sv (ones (L.take k))))) (fun _ v8 _ => n - (intOf v8).toNat)
  case atStart => exact ⟨0, 0, none, rfl, rfl, by omega, Below.refl _ _, World.ownsRow_nil _ _ _ _⟩
  case round =>
    obtain ⟨k, c', A', rfl, rfl, hk, hb, ho⟩ := hrel
    have hbs := hb.size
    by_cases hlt : k < n
    · obtain ⟨bb, o, rfl, hab, hc⟩ := (HR.out.below hb).plain (by omega) (by omega)
      have hkl : k < L.length := by rw [HL.out]; exact hlt
      have g0 := hc k (.int .i64 (L[k]'hkl)) (by unfold zv; rw [List.getElem?_map, List.getElem?_eq_getElem hkl]; rfl)
      have HT1 := Lib.hid (show ones (L.take (k + 1)) = ones (L.take k) ++ [((L[k]'hkl), (L[k]'hkl))] by rw [List.take_succ_eq_append_getElem hkl]; unfold ones; rw [List.map_append]; rfl)
      clear hc
      generalize (L[k]'hkl) = z at g0 HT1
      have h63 : k + 1 ≤ maxLen := by omega
      have HRN := Lib.hid (Rd.new wr 37 2 1 #[.int .i64 z, .int .i64 z] rfl h1max)
      clear hkl
      go_wp2_with (at_builtin; go_must (refine wpList_append_rd _ rfl (.tmp 12) (.tmp 16) _ rfl w.heap.size 37 i0 _ 2 16 Tryd.underlying23 hi0 hz0 hz1 hz2 rfl (by decide) (.slice A' k c') k _ rfl (ho.out.alloc _) _ (some ⟨_, 0, none⟩) 1 1 [.int .i64 z, .int .i64 z] rfl HRN.out (by intro u hu; simp at hu; subst hu; rfl) h63 (by omega) (by simp; omega) ?_); intro A3 c3 w3 ho3 hg3 hat3)
      have hb3 := (hb.alloc hbs _).trans (grown_below hg3 (by simp; omega) (fun j hj => own_lt ho.out j hj))
      go_roundw
      case rel => exact ⟨k + 1, c3, A3, by go_num, rfl, by omega, hb3, by rw [HT1.out, sv_app]; exact ho3⟩
      case measure => simp [intOf]; omega
    · obtain rfl : k = n := by omega
      have ho2 := ho.out
      rw [List.take_of_length_le (by rw [HL.out]; exact Nat.le_refl _)] at ho2
      go_wp2_with (go_at_call 70; go_must (refine (HT.out _ _ _ (Rd.of_own ho2)).mono ?_); rintro e w2 ⟨A2, c2, rfl, ho3, hb2⟩)
      go_ret
      exact ⟨A2, c2, rfl, own_less ho3 hbs, below_then hb (Nat.le_refl _) hb2⟩
end Go.Proofs.YtnibkniggiokkaaDoor

namespace Go.Proofs.YtnibkniggiokkaaDoor
open Go.RowKit
set_option maxRecDepth 100000

/-- How many of the first k objects are in a set. -/
def numTo (p : Nat → Bool) (k : Nat) : Nat := ((List.range k).filter p).length
theorem numTo_hit (p : Nat → Bool) (k : Nat) (h : p k = true) : numTo p (k + 1) = numTo p k + 1 := by unfold numTo; rw [List.range_succ, List.filter_append, List.length_append]; simp [h]
theorem numTo_miss (p : Nat → Bool) (k : Nat) (h : p k = false) : numTo p (k + 1) = numTo p k := by unfold numTo; rw [List.range_succ, List.filter_append, List.length_append]; simp [h]
theorem numTo_le (p : Nat → Bool) (k : Nat) : numTo p k ≤ k := by
  have := List.length_filter_le p (List.range k)
  rw [List.length_range] at this
  exact this
end Go.Proofs.YtnibkniggiokkaaDoor

namespace Go.Proofs.YtnibkniggiokkaaDoor
open Go.RowKit
set_option maxRecDepth 100000

/-- The first k places of one, the others of another. -/
def mixB (r p : Nat → Bool) (k : Nat) : Nat → Bool := fun o => if o < k then r o else p o
theorem mixB_next (r p : Nat → Bool) (k : Nat) : ∀ n, updB (mixB r p k) k (r k) n = mixB r p (k + 1) n := fun n => by
  unfold updB mixB
  by_cases h : n = k
  · subst h; simp
  · rw [if_neg h]
    by_cases h2 : n < k
    · rw [if_pos h2, if_pos (by omega)]
    · rw [if_neg h2, if_neg (by omega)]
theorem mixB_at (r p : Nat → Bool) (k : Nat) : mixB r p k k = p k := by unfold mixB; rw [if_neg (by omega)]
theorem mixB_start (r p : Nat → Bool) : ∀ n, mixB r p 0 n = p n := fun n => by unfold mixB; rw [if_neg (by omega)]
theorem mixB_end (r p : Nat → Bool) : ∀ n, n < 256 → mixB r p 256 n = r n := fun n h => by unfold mixB; rw [if_pos h]
set_option maxHeartbeats 4000000 in
theorem refMeetS_any (A : Option Addr) (n c : Nat) (l : List Sn.Sp) (B : Option Addr) (m d : Nat) (l2 : List Sn.Sp) (w : World) (hl : l.length = n) (hR : Rd w w.heap.size 2 A n c (sv l)) (hl2 : l2.length = m) (hR2 : Rd w w.heap.size 2 B m d (sv l2)) :
    Calls Tryd.prog 14 #[.slice A n c, .slice B m d] w fun e w' => SpOut w w' e (Sn.meetL l l2) := by
  obtain ⟨hz, hi⟩ := zero_of_info zero_marks
  have HI := Lib.hid hi
  have HT := Lib.hid (refSet_any A n c l w hl hR)
  have HT2 := Lib.hid (fun (V : World) (hb : Below w.heap.size w V) => refSet_any B m d l2 V hl2 (hR2.go hb))
  have HM := Lib.hid (show Sn.meetL l l2 = Sn.of fun o => Sn.setOf l o && Sn.setOf l2 o from rfl)
  clear hi hR hl hR2 hl2
  generalize Sn.setOf l = p at HT HM
  generalize Sn.setOf l2 = q at HT2 HM
  go_enter Tryd.func14, Tryd.ntmps14
  go_wp2_with (first
    | (go_at_call 29; have hbx := hb1; go_must (refine (HT2.out _ hbx).mono ?_); clear hbx; rintro e w2 ⟨rfl, hb2⟩; have hZ := Blk.new (w2.alloc (.cells (b256 fun _ => false) 57)) 57 (b256 fun _ => false); rw [World.size_alloc] at hZ; have HZ := Lib.hid hZ; clear hZ)
    | (go_at_call 29; go_must (refine HT.out.mono ?_); rintro e w1 ⟨rfl, hb1⟩)
    | (have hh := hk4; refine wpList_store_blk rfl 57 _ _ rfl (w2.heap.size + 1) 57 _ (b256 q) rfl rfl (HZ.out.grown hg4 (by simp)) (by rw [b256_size]; exact HI.out) rfl (b256_oneCell _) ?_; clear hh; intro w5 hk5 hg5)
    | (refine wpList_store_blk rfl 57 _ _ rfl w2.heap.size 57 _ (b256 p) rfl rfl ((Blk.new w2 57 (b256 fun _ => false)).alloc _) (by rw [b256_size]; exact HI.out) rfl (b256_oneCell _) ?_; intro w4 hk4 hg4))
  have hb6 := below_then hb1 (Nat.le_refl _) hb2
  have hw2 := hb6.size
  have hb5 := (((hb6.alloc hw2 (.cells (b256 fun _ => false) 57)).alloc (by simp; omega) (.cells (b256 fun _ => false) 57)).trans (grown_below hg4 (by simp; omega) (fun k hk => by cases hk; exact hw2))).trans (grown_below hg5 (by have := hg4.size; simp at this; omega) (fun k hk => by cases hk; omega))
  have HB := Lib.hid hb5
  have HS := Lib.hid (hk4.grown hg5 (by simp))
  have HQ := Lib.hid hk5
  clear hb5 hb6 hb1 hb2 hk4 hk5 hg4 hg5 HZ HT HT2
  go_loopw [7] (fun v7 wr => ∃ k : Nat, k ≤ 256 ∧ v7 = .int .i64 k ∧ Below w.heap.size w wr ∧ Blk wr w2.heap.size 57 (b256 (mixB (fun o => p o && q o) p k)) ∧ Blk wr (w2.heap.size + 1) 57 (b256 q)) (fun v7 _ => 256 - (intOf v7).toNat)
  case atStart => exact ⟨0, by omega, rfl, HB.out, by rw [b256_congr fun n _ => mixB_start _ p n]; exact HS.out, HQ.out⟩
  case round =>
    obtain ⟨k, hk, rfl, hb, hs, ht⟩ := hrel
    by_cases hlt : k < 256
    · have gp := hs.cell k
      rw [b256_at _ _ hlt, mixB_at] at gp
      have gq := ht.cell k
      rw [b256_at _ _ hlt] at gq
      have fk := hs.frozen k
      have hsz := hs.lt
      have H1 := Lib.hid hb
      have H2 := Lib.hid hs
      have H3 := Lib.hid ht
      have HN := Lib.hid (fun n (_ : n < 256) => mixB_next (fun o => p o && q o) p k n)
      clear hb hs ht
      generalize hpk : p k = x at gp
      generalize hqk : q k = y at gq
      have HPK := Lib.hid hpk
      have HQK := Lib.hid hqk
      clear hpk hqk
      rcases x with _ | _ <;> rcases y with _ | _
      all_goals
        go_wp2
        go_roundw
        case rel =>
          refine ⟨k + 1, by omega, by go_num, H1.out.setCell (p := ⟨w2.heap.size, k, none⟩) hw2 _, ?_, Blk.far H3.out (by simp) _⟩
          rw [← b256_congr HN.out, ← b256_set _ _ _ hlt, HPK.out, HQK.out]
          exact H2.out.set_ k _
        case measure => simp [intOf]; omega
    · obtain rfl : k = 256 := by omega
      rw [b256_congr (mixB_end _ p)] at hs
      have HSS := Lib.hid hs
      have hbs := hb.size
      go_wp2_with (first
        | (refine wpList_load_row rfl 57 _ rfl w2.heap.size rfl 57 _ _ _ HSS.out Tryd.underlying57 rfl (by rw [b256_size]; exact HI.out) ?_)
        | (go_at_call 30; go_must (refine (refOfS_any _ _).mono ?_); rintro e w6 ⟨A6, c6, rfl, ho6, hb6⟩))
      go_ret
      refine ⟨A6, c6, by rw [HM.out] <;> rfl, ?_, below_then hb (Nat.le_refl _) hb6⟩
      rw [HM.out]
      exact own_less ho6 hbs
end Go.Proofs.YtnibkniggiokkaaDoor

namespace Go.Proofs.YtnibkniggiokkaaDoor
open Go.RowKit
set_option maxRecDepth 100000

set_option maxHeartbeats 4000000 in
theorem refLessS_any (A : Option Addr) (n c : Nat) (l : List Sn.Sp) (B : Option Addr) (m d : Nat) (l2 : List Sn.Sp) (w : World) (hl : l.length = n) (hR : Rd w w.heap.size 2 A n c (sv l)) (hl2 : l2.length = m) (hR2 : Rd w w.heap.size 2 B m d (sv l2)) :
    Calls Tryd.prog 65 #[.slice A n c, .slice B m d] w fun e w' => SpOut w w' e (Sn.lessL l l2) := by
  obtain ⟨hz, hi⟩ := zero_of_info zero_marks
  have HI := Lib.hid hi
  have HT := Lib.hid (refSet_any A n c l w hl hR)
  have HT2 := Lib.hid (fun (V : World) (hb : Below w.heap.size w V) => refSet_any B m d l2 V hl2 (hR2.go hb))
  have HM := Lib.hid (show Sn.lessL l l2 = Sn.of fun o => Sn.setOf l o && !Sn.setOf l2 o from rfl)
  clear hi hR hl hR2 hl2
  generalize Sn.setOf l = p at HT HM
  generalize Sn.setOf l2 = q at HT2 HM
  go_enter Tryd.func65, Tryd.ntmps65
  go_wp2_with (first
    | (go_at_call 29; have hbx := hb1; go_must (refine (HT2.out _ hbx).mono ?_); clear hbx; rintro e w2 ⟨rfl, hb2⟩; have hZ := Blk.new (w2.alloc (.cells (b256 fun _ => false) 57)) 57 (b256 fun _ => false); rw [World.size_alloc] at hZ; have HZ := Lib.hid hZ; clear hZ)
    | (go_at_call 29; go_must (refine HT.out.mono ?_); rintro e w1 ⟨rfl, hb1⟩)
    | (have hh := hk4; refine wpList_store_blk rfl 57 _ _ rfl (w2.heap.size + 1) 57 _ (b256 q) rfl rfl (HZ.out.grown hg4 (by simp)) (by rw [b256_size]; exact HI.out) rfl (b256_oneCell _) ?_; clear hh; intro w5 hk5 hg5)
    | (refine wpList_store_blk rfl 57 _ _ rfl w2.heap.size 57 _ (b256 p) rfl rfl ((Blk.new w2 57 (b256 fun _ => false)).alloc _) (by rw [b256_size]; exact HI.out) rfl (b256_oneCell _) ?_; intro w4 hk4 hg4))
  have hb6 := below_then hb1 (Nat.le_refl _) hb2
  have hw2 := hb6.size
  have hb5 := (((hb6.alloc hw2 (.cells (b256 fun _ => false) 57)).alloc (by simp; omega) (.cells (b256 fun _ => false) 57)).trans (grown_below hg4 (by simp; omega) (fun k hk => by cases hk; exact hw2))).trans (grown_below hg5 (by have := hg4.size; simp at this; omega) (fun k hk => by cases hk; omega))
  have HB := Lib.hid hb5
  have HS := Lib.hid (hk4.grown hg5 (by simp))
  have HQ := Lib.hid hk5
  clear hb5 hb6 hb1 hb2 hk4 hk5 hg4 hg5 HZ HT HT2
  go_loopw [7] (fun v7 wr => ∃ k : Nat, k ≤ 256 ∧ v7 = .int .i64 k ∧ Below w.heap.size w wr ∧ Blk wr w2.heap.size 57 (b256 (mixB (fun o => p o && !q o) p k)) ∧ Blk wr (w2.heap.size + 1) 57 (b256 q)) (fun v7 _ => 256 - (intOf v7).toNat)
  case atStart => exact ⟨0, by omega, rfl, HB.out, by rw [b256_congr fun n _ => mixB_start _ p n]; exact HS.out, HQ.out⟩
  case round =>
    obtain ⟨k, hk, rfl, hb, hs, ht⟩ := hrel
    by_cases hlt : k < 256
    · have gp := hs.cell k
      rw [b256_at _ _ hlt, mixB_at] at gp
      have gq := ht.cell k
      rw [b256_at _ _ hlt] at gq
      have fk := hs.frozen k
      have hsz := hs.lt
      have H1 := Lib.hid hb
      have H2 := Lib.hid hs
      have H3 := Lib.hid ht
      have HN := Lib.hid (fun n (_ : n < 256) => mixB_next (fun o => p o && !q o) p k n)
      clear hb hs ht
      generalize hpk : p k = x at gp
      generalize hqk : q k = y at gq
      have HPK := Lib.hid hpk
      have HQK := Lib.hid hqk
      clear hpk hqk
      rcases x with _ | _ <;> rcases y with _ | _
      all_goals
        go_wp2
        go_roundw
        case rel =>
          refine ⟨k + 1, by omega, by go_num, H1.out.setCell (p := ⟨w2.heap.size, k, none⟩) hw2 _, ?_, Blk.far H3.out (by simp) _⟩
          rw [← b256_congr HN.out, ← b256_set _ _ _ hlt, HPK.out, HQK.out]
          exact H2.out.set_ k _
        case measure => simp [intOf]; omega
    · obtain rfl : k = 256 := by omega
      rw [b256_congr (mixB_end _ p)] at hs
      have HSS := Lib.hid hs
      have hbs := hb.size
      go_wp2_with (first
        | (refine wpList_load_row rfl 57 _ rfl w2.heap.size rfl 57 _ _ _ HSS.out Tryd.underlying57 rfl (by rw [b256_size]; exact HI.out) ?_)
        | (go_at_call 30; go_must (refine (refOfS_any _ _).mono ?_); rintro e w6 ⟨A6, c6, rfl, ho6, hb6⟩))
      go_ret
      refine ⟨A6, c6, by rw [HM.out] <;> rfl, ?_, below_then hb (Nat.le_refl _) hb6⟩
      rw [HM.out]
      exact own_less ho6 hbs
end Go.Proofs.YtnibkniggiokkaaDoor

namespace Go.Proofs.YtnibkniggiokkaaDoor
open Go.RowKit
set_option maxRecDepth 100000

theorem refCoversS_any (A : Option Addr) (n c : Nat) (l : List Sn.Sp) (B : Option Addr) (m d : Nat) (l2 : List Sn.Sp) (w : World) (hl : l.length = n) (hR : Rd w w.heap.size 2 A n c (sv l)) (hl2 : l2.length = m) (hR2 : Rd w w.heap.size 2 B m d (sv l2)) :
    Calls Tryd.prog 20 #[.slice A n c, .slice B m d] w fun e w' => e = .returned (.bool (decide (Sn.lessL l2 l = []))) ∧ Below w.heap.size w w' := by
  have HT := Lib.hid (refLessS_any B m d l2 A n c l w hl2 hR2 hl hR)
  have hmx : (Sn.lessL l2 l).length ≤ 128 := Sn.fmS_128 (Sn.of_fm _)
  clear hR hl hR2 hl2
  generalize Sn.lessL l2 l = T at HT hmx
  go_enter Tryd.func20, Tryd.ntmps20
  go_wp2_with (go_at_call 65; go_must (refine HT.out.mono ?_); rintro e w1 ⟨A1, c1, rfl, ho1, hb1⟩)
  go_ret
  refine ⟨?_, hb1⟩
  rcases T with _ | ⟨s, r⟩
  · rfl
  · simp
    omega
end Go.Proofs.YtnibkniggiokkaaDoor

namespace Go.Proofs.YtnibkniggiokkaaDoor
open Go.RowKit
set_option maxRecDepth 100000

theorem setOf_ones (L : List Int) (k : Nat) (h : k < L.length) (o : Nat) : Sn.setOf (ones (L.take (k + 1))) o = (Sn.setOf (ones (L.take k)) o || decide (L[k] = (o : Int))) := by
  rw [List.take_succ_eq_append_getElem h]
  unfold ones Sn.setOf
  rw [List.map_append, Sn.inB_app]
  simp only [List.map_cons, List.map_nil, Sn.inB, List.any_cons, List.any_nil, Bool.or_false]
  congr 1
  rw [Bool.eq_iff_iff]; simp; omega
theorem updB_hit (p q : Nat → Bool) (m : Nat) (h : ∀ o, q o = (p o || decide ((m : Int) = (o : Int)))) : ∀ n, updB p m true n = q n := fun n => by
  rw [h n]; unfold updB
  by_cases e : n = m
  · subst e; simp
  · rw [if_neg e, decide_eq_false (by omega), Bool.or_false]

theorem setOf_flat (vs : List (List Sn.Sp)) (k : Nat) (h : k < vs.length) (o : Nat) : Sn.setOf (vs.take (k + 1)).flatten o = (Sn.setOf (vs.take k).flatten o || Sn.setOf vs[k] o) := by
  rw [List.take_succ_eq_append_getElem h, List.flatten_append]
  unfold Sn.setOf
  rw [Sn.inB_app]
  simp

set_option maxHeartbeats 8000000 in
theorem refJoinS_any (A : Option Addr) (n c : Nat) (vs : List (List Sn.Sp)) (w : World) (hR : RdL w w.heap.size A n c vs) :
    Calls Tryd.prog 81 #[.slice A n c] w fun e w' => SpOut w w' e (Sn.tidy vs.flatten) := by
  obtain ⟨hz, hi⟩ := zero_of_info zero_marks
  have HI := Lib.hid hi
  have hmx : n ≤ 9223372036854775807 := by have h1 := hR.cap; have h2 := hR.max; unfold maxLen at h2; omega
  have HL := Lib.hid hR.len
  have HR := Lib.hid hR
  clear hi hR
  go_enter Tryd.func81, Tryd.ntmps81
  go_wp2
  go_loopw [4] (fun v4 wr => ∃ k : Nat, k ≤ n ∧ v4 = .int .i64 k ∧ Below w.heap.size w wr ∧ Blk wr w.heap.size 57 (b256 (Sn.setOf (vs.take k).flatten))) (fun v4 _ => n - (intOf v4).toNat)
  case atStart => exact ⟨0, by omega, rfl, (Below.refl _ _).alloc (Nat.le_refl _) _, Blk.new w 57 (b256 fun _ => false)⟩
  case round =>
    obtain ⟨k, hk, rfl, hb, hs⟩ := hrel
    have hbs := hb.size
    by_cases hlt : k < n
    · have hkv : k < vs.length := by rw [HL.out]; exact hlt
      obtain ⟨b, o, Ak, nk, ck, rfl, hbB, hcell, hvl, hRk⟩ := (HR.out.below hb).at_ k hkv
      have hsz := hs.lt
      have H1 := Lib.hid (refSet_any Ak nk ck vs[k] wr hvl (hRk.more hb.size))
      have HT := Lib.hid (setOf_flat vs k hkv)
      obtain ⟨q2, hq2⟩ : ∃ q2, q2 = Sn.setOf (vs.take (k + 1)).flatten := ⟨_, rfl⟩
      rw [← hq2] at HT
      have HQ2 := Lib.hid hq2
      clear hq2
      generalize Sn.setOf (vs.take k).flatten = q at HT hs
      generalize Sn.setOf vs[k] = t at HT H1
      have HK := Lib.hid hs
      have HB := Lib.hid hb
      clear hRk hs hb hvl hkv
      go_wp2_with (first
        | (go_at_call 29; go_must (refine H1.out.mono ?_); rintro e w1 ⟨rfl, hb1⟩; have hw1 := hb1.size; have HN := Lib.hid (Blk.new w1 57 (b256 fun _ => false)))
        | (refine wpList_store_blk rfl 57 _ _ rfl w1.heap.size 57 _ (b256 t) rfl rfl HN.out (by rw [b256_size]; exact HI.out) rfl (b256_oneCell _) ?_; intro w3 hk3 hg3))
      have hb3 : Below w.heap.size w w3 := (below_then HB.out (Nat.le_refl _) hb1 |>.alloc (by omega) _).trans (grown_below hg3 (by simp; omega) (fun k hk => by cases hk; omega))
      have hk4 : Blk w3 w.heap.size 57 (b256 q) := ((HK.out.go hb1).alloc _).grown hg3 (by simp; omega)
      have hlt1 : w.heap.size < w1.heap.size := by omega
      clear hg3 HN HK HB hb1 H1
      go_loopw [6] (fun v6 wr => ∃ j : Nat, j ≤ 256 ∧ v6 = .int .i64 j ∧ Below w.heap.size w wr ∧ Blk wr w1.heap.size 57 (b256 t) ∧ Blk wr w.heap.size 57 (b256 (mixB q2 q j))) (fun v6 _ => 256 - (intOf v6).toNat)
      case atStart => exact ⟨0, by omega, rfl, hb3, hk3, by rw [b256_congr fun n _ => mixB_start q2 q n]; exact hk4⟩
      case round =>
        obtain ⟨j, hj, rfl, hb5, p1, p2⟩ := hrel
        clear hb3 hk3 hk4
        by_cases hj6 : j < 256
        · have g1 := p1.cell j
          have g2 := p2.cell j
          have fj := p2.frozen j
          rw [b256_at _ _ hj6] at g1 g2
          rw [mixB_at] at g2
          have HM := Lib.hid (HT.out j)
          have HNX := Lib.hid (fun n (_ : n < 256) => mixB_next q2 q j n)
          generalize hx : q j = x at g2 HM
          generalize hy : t j = y at g1 HM
          have P1 := Lib.hid p1
          have P2 := Lib.hid p2
          have HB := Lib.hid hb5
          have hsz2 := p2.lt
          clear hx hy p1 p2 hb5
          rcases x with _ | _ <;> rcases y with _ | _
          all_goals
            go_wp2
            go_roundw
            case rel =>
              refine ⟨j + 1, by omega, by go_num, HB.out.setCell (p := ⟨w.heap.size, j, none⟩) (Nat.le_refl _) _, Blk.far P1.out (by simp; omega) _, ?_⟩
              have h5 := P2.out.set_ j (.bool (q2 j))
              rw [b256_set _ _ _ hj6, b256_congr HNX.out, HM.out] at h5
              exact h5
            case measure => simp [intOf]; omega
        · obtain rfl : j = 256 := by omega
          have P2 := Lib.hid p2
          have HB := Lib.hid hb5
          clear p1 p2 hb5
          go_wp2
          go_roundw
          case rel =>
            refine ⟨k + 1, by omega, by go_num, HB.out, ?_⟩
            rw [← HQ2.out, ← b256_congr (mixB_end q2 q)]
            exact P2.out
          case measure => simp [intOf]; omega
    · obtain rfl : k = n := by omega
      rw [List.take_of_length_le (by rw [HL.out]; exact Nat.le_refl _)] at hs
      have HS := Lib.hid hs
      have HM := Lib.hid (show Sn.tidy vs.flatten = Sn.of (Sn.setOf vs.flatten) from rfl)
      clear hs
      generalize Sn.setOf vs.flatten = p at HS HM
      go_wp2_with (first
        | (refine wpList_load_row rfl 57 _ rfl w.heap.size rfl 57 _ _ _ HS.out Tryd.underlying57 rfl (by rw [b256_size]; exact HI.out) ?_)
        | (go_at_call 30; go_must (refine (refOfS_any _ _).mono ?_); rintro e w6 ⟨A6, c6, rfl, ho6, hb6⟩))
      go_ret
      refine ⟨A6, c6, by rw [HM.out] <;> rfl, ?_, below_then hb (Nat.le_refl _) hb6⟩
      rw [HM.out]
      exact own_less ho6 hbs
end Go.Proofs.YtnibkniggiokkaaDoor

namespace Go.Proofs.YtnibkniggiokkaaDoor
open Go.RowKit
set_option maxRecDepth 100000

set_option maxHeartbeats 1000000 in
/-- slices.Grow at nil. -/
theorem growS_any (m : Nat) (hm : m ≤ 8796093022208) (w : World) :
    Calls Tryd.prog 87 #[.slice none 0 0, .int .i64 m] w fun e w' => ∃ A' c', e = .returned (.slice A' 0 c') ∧ w'.ownsRow w.heap.size 37 2 (.slice A' 0 c') 0 [] ∧ Below w.heap.size w w' := by
  by_cases h0 : m = 0
  · subst h0
    go_enter Tryd.func87, Tryd.ntmps87
    go_wp2
    go_ret
    exact ⟨none, 0, rfl, World.ownsRow_nil _ _ _ _, Below.refl _ _⟩
  · obtain ⟨i0, hi0, hz0, hz1, hz2⟩ := info_parts spanE_info
    have hk0 : 0 < m := by omega
    have hk1 : (0 : Int) < (m : Int) := by omega
    have hu : ∀ W, (Instr.slice 23 (.slice none 0 0) none (some (.int .i64 0)) none).run Tryd.prog W = .ok (.slice none 0 0) W :=
      fun W => run_upto W 23 37 2 Tryd.underlying23 (fun _ => by kernel_rfl) none 0 0 .i64 0 0 rfl (Nat.le_refl _)
    have hfit : Builtin.nextslicecap (0 + m) 0 * i0.bytes ≤ 281474976710656 := growslice_fits (by omega) (by rw [hz2]; omega)
    have hz := Lib.run_append_grow_zeros (P := Tryd.prog) w 23 3 23 37 i0 _ .i64 .i64 Tryd.underlying23 Tryd.underlying3 hi0 hz0 none 0 0 []
      (by simp [Builtin.firstCells]) m hk0 (by rw [hz1]; decide) (by omega) (by omega) (by rw [hz2]; omega) hfit
    have hge := grownCap_ge w (0 + m) 0 37
    have hgm := grownCap_le_maxLen w (0 + m) 0 37 (by unfold maxLen; omega)
    generalize grownCap w (0 + m) 0 37 = N at hz hge hgm
    rw [Nat.zero_add] at hz hge
    have Hz := Lib.hid hz
    have HM := Lib.hid hgm
    have hnn : 0 ≤ N := Nat.zero_le _
    clear hz hfit hgm
    go_enter Tryd.func87, Tryd.ntmps87
    go_wp2_with (at_builtin; go_must (refine Lib.wpList_append_run _ rfl _ _ _ _ rfl _ _ rfl rfl _ _ Hz.out ?_))
    go_ret
    refine ⟨_, _, rfl, ⟨rfl, .inr ⟨w.heap.size, N, _, rfl, Nat.le_refl _, heap_alloc_new w.drew _, by omega, HM.out, ?_, ?_⟩⟩, ((Below.refl _ _).drew).alloc (Nat.le_refl _) _⟩
    · simp only [Array.size_append, List.size_toArray, size_zeroCells]
      simp
      omega
    · simp

theorem flat_take_le (vs : List (List Sn.Sp)) (k : Nat) : (vs.take k).flatten.length ≤ vs.flatten.length := by
  have e : vs.flatten = (vs.take k).flatten ++ (vs.drop k).flatten := by rw [← List.flatten_append, List.take_append_drop]
  rw [e, List.length_append]
  omega
theorem flat_next (vs : List (List Sn.Sp)) (k : Nat) (h : k < vs.length) : (vs.take (k + 1)).flatten = (vs.take k).flatten ++ vs[k] := by
  rw [List.take_succ_eq_append_getElem h, List.flatten_append]; simp

set_option maxHeartbeats 4000000 in
theorem concatS_any (A : Option Addr) (n c : Nat) (vs : List (List Sn.Sp)) (w : World) (hR : RdL w w.heap.size A n c vs) (hsz : vs.flatten.length ≤ 8796093022208) :
    Calls Tryd.prog 71 #[.slice A n c] w fun e w' => SpOut w w' e vs.flatten := by
  obtain ⟨i0, hi0, hz0, hz1, hz2⟩ := info_parts spanE_info
  have hmx : n ≤ 9223372036854775807 := by have h1 := hR.cap; have h2 := hR.max; unfold maxLen at h2; omega
  have HL := Lib.hid hR.len
  have HR := Lib.hid hR
  have HZ := Lib.hid fun k => Nat.le_trans (flat_take_le vs k) hsz
  clear hR hsz
  go_enter Tryd.func71, Tryd.ntmps71
  go_wp2
  go_loopw [3, 11] (fun v3 v11 wr => ∃ k : Nat, k ≤ n ∧ v11 = .int .i64 k ∧ v3 = .int .i64 ((vs.take k).flatten.length : Nat) ∧ w = wr) (fun _ v11 _ => n - (intOf v11).toNat)
  case atStart => exact ⟨0, by omega, rfl, rfl, rfl⟩
  case round =>
    obtain ⟨k, hk, rfl, rfl, rfl⟩ := hrel
    have hq := HZ.out k
    have hq2 := HZ.out (k + 1)
    by_cases hlt : k < n
    · have hkv : k < vs.length := by rw [HL.out]; exact hlt
      obtain ⟨b, o, Ak, nk, ck, rfl, hbB, hcell, hvl, hRk⟩ := HR.out.at_ k hkv
      rw [flat_next vs k hkv, List.length_append, hvl] at hq2
      have HN := Lib.hid (show (vs.take (k + 1)).flatten.length = (vs.take k).flatten.length + nk by rw [flat_next vs k hkv, List.length_append, hvl])
      clear hRk hvl hkv
      generalize (vs.take k).flatten.length = q at hq hq2 HN
      go_wp2
      go_roundw
      case rel => exact ⟨k + 1, by omega, by go_num, by rw [HN.out]; go_num, by first | rfl | trivial⟩
      case measure => simp [intOf]; omega
    · obtain rfl : k = n := by omega
      generalize (vs.take k).flatten.length = q at hq
      go_wp2_with (go_at_call 87; go_must (refine (growS_any q hq _).mono ?_); rintro e w1 ⟨A1, c1, rfl, ho1, hb1⟩)
      have HO1 := Lib.hid ho1
      have hs1 := hb1.size
      clear ho1
      go_loopw [6, 27] (fun v6 v27 wx => ∃ (j q c' : Nat) (A' : Option Addr), j ≤ k ∧ v27 = .int .i64 j ∧ v6 = .slice A' q c' ∧ Below w.heap.size w wx ∧ Hid ((vs.take j).flatten.length = q) ∧ Hid (wx.ownsRow w.heap.size 37 2 (.slice A' q c') q (sv (vs.take j).flatten))) (fun _ v27 _ => k - (intOf v27).toNat)
      case atStart => exact ⟨0, 0, c1, A1, by omega, rfl, rfl, hb1, rfl, HO1.out⟩
      case round =>
        obtain ⟨j, q, c', A', hj, rfl, rfl, hb, hlen, ho⟩ := hrel
        have hbs := hb.size
        have hq2 := HZ.out (j + 1)
        by_cases hlt : j < k
        · have hkv : j < vs.length := by rw [HL.out]; exact hlt
          obtain ⟨b, o, Ak, nk, ck, rfl, hbB, hcell, hvl, hRk⟩ := (HR.out.below hb).at_ j hkv
          rw [flat_next vs j hkv, List.length_append, hvl, hlen.out] at hq2
          have HN := Lib.hid (flat_next vs j hkv)
          have HV := Lib.hid hvl
          have HRK := Lib.hid hRk
          have h63 : q + nk ≤ maxLen := by unfold maxLen; omega
          clear hRk hvl
          go_wp2_with (at_builtin; go_must (refine wpList_append_rd _ rfl (.tmp 31) (.tmp 32) _ rfl w.heap.size 37 i0 _ 2 16 Tryd.underlying23 hi0 hz0 hz1 hz2 rfl (by decide) (.slice A' q c') q _ rfl ho.out w.heap.size Ak nk ck (sv (vs[j]'hkv)) rfl HRK.out (sv_oneCell _) h63 (by omega) (by omega) ?_); intro A3 c3 w3 ho3 hg3 hat3)
          go_roundw
          case rel =>
            refine ⟨j + 1, q + nk, c3, A3, by omega, by go_num, rfl, hb.trans (grown_below hg3 hbs (fun j hj => own_lt ho.out j hj)), by show _ = _; rw [HN.out, List.length_append, HV.out, hlen.out], ?_⟩
            rw [HN.out, sv_app]
            exact ho3
          case measure => simp [intOf]; omega
        · obtain rfl : j = k := by omega
          have ho2 := ho.out
          have hl2 := hlen.out
          rw [List.take_of_length_le (by rw [HL.out]; exact Nat.le_refl _)] at ho2 hl2
          subst hl2
          go_wp2
          go_ret
          exact ⟨A', c', rfl, ho2, hb⟩

set_option maxHeartbeats 1000000 in
theorem joinS_any (A : Option Addr) (n c : Nat) (vs : List (List Sn.Sp)) (w : World) (hR : RdL w w.heap.size A n c vs) (hsz : vs.flatten.length ≤ 8796093022208) :
    Calls Tryd.prog 27 #[.slice A n c] w fun e w' => SpOut w w' e (Sn.tidy vs.flatten) := by
  have HC := Lib.hid (concatS_any A n c vs w hR hsz)
  have HT := Lib.hid (fun (V : World) (A1 : Option Addr) (c1 : Nat) h => tidy_any A1 vs.flatten.length c1 vs.flatten V rfl h hsz)
  clear hR
  generalize vs.flatten = L at HC HT hsz ⊢
  go_enter Tryd.func27, Tryd.ntmps27
  go_wp2_with (first
    | (go_at_call 71; go_must (refine HC.out.mono ?_); rintro e w1 ⟨A1, c1, rfl, ho1, hb1⟩)
    | (go_at_call 70; go_must (refine (HT.out _ _ _ (Rd.of_own ho1)).mono ?_); rintro e w2 ⟨A2, c2, rfl, ho2, hb2⟩))
  go_ret
  exact ⟨A2, c2, rfl, own_less ho2 hb1.size, below_then hb1 (Nat.le_refl _) hb2⟩
end Go.Proofs.YtnibkniggiokkaaDoor

