/- Walk over span.tidy (printed by wip/tools/genSpE.py). -/
import Derived.Test.YtepdcbhapjgijaaDoorSpD
import Derived.Test.YtepdcbhapjgijaaDoorReg
namespace Go.Proofs.YtepdcbhapjgijaaDoor
open Go.RowKit Go.Shelf
set_option maxRecDepth 100000

/-- A store into one cell of a row of the call's own. -/
theorem own_cell {w : World} {base G n c size j : Nat} {e : TypeId} {xs : List Value} (h : w.ownsRow base e size (.slice (some ⟨G, 0, none⟩) n c) n xs) (hj : j < n * size) (u : Value) :
    (w.setCell ⟨G, j, none⟩ u).ownsRow base e size (.slice (some ⟨G, 0, none⟩) n c) n (xs.set j u) ∧ w.grownBy (w.setCell ⟨G, j, none⟩ u) (some G) ∧ w.frozen? ⟨G, j, none⟩ = false := by
  obtain ⟨hl, h | ⟨g, cap, cur, hv, hb, hg, hnc, hcm, hcs, hx⟩⟩ := h
  · exact absurd h.1 (by simp)
  · injection hv with hv1 _ hv3
    injection hv1 with hv1
    injection hv1 with hv1
    subst hv1 hv3
    refine ⟨⟨by simpa using hl, .inr ⟨G, c, _, rfl, hb, heap_setCell_same w G j cur e u hg, hnc, hcm, by simpa using hcs, ?_⟩⟩, ⟨rfl, rfl, rfl, by simp, fun k _ hne => Below.heap_setCell w ⟨G, j, none⟩ u k (by rintro rfl; exact hne rfl)⟩, by simp [World.frozen?, hg]⟩
    rw [← hx]
    apply List.ext_getElem?
    intro t
    rw [List.getElem?_take, List.getElem?_set]
    by_cases ht : t < n * size
    · rw [if_pos ht]
      by_cases hjt : j = t
      · subst hjt
        have : j < cur.size := by have := Nat.mul_le_mul_right size hnc; omega
        simp [this]; omega
      · rw [if_neg hjt, List.getElem?_take, if_pos ht]
        simp [hjt]
    · rw [if_neg ht, if_neg (by omega), List.getElem?_take, if_neg ht]
theorem sv_set_last (u : List Sn.Sp) (t : Sn.Sp) (hi : Int) : (sv (u ++ [t])).set (u.length * 2 + 1) (.int .i64 hi) = sv (u ++ [(t.1, hi)]) := by
  have e : ∀ r : List Sn.Sp, (sv r).length = r.length * 2 := fun r => by rw [sv_encS, flat_len encS 2 _ (fun _ _ => rfl)]
  rw [sv_app, sv_app, List.set_append, if_neg (by rw [e]; omega), e]
  rw [show u.length * 2 + 1 - u.length * 2 = 1 by omega]; rfl
theorem put_okS (l : List Sn.Sp) (h : ∀ s ∈ l, Sn.okS s) : ∀ t ∈ Sn.put l, Sn.okS t := by
  induction hn : l.length generalizing l with
  | zero =>
    obtain rfl := List.eq_nil_of_length_eq_zero hn
    intro t ht; cases ht
  | succ n ih =>
    obtain ⟨r, s, rfl⟩ : ∃ r s, l = r ++ [s] := ⟨_, _, (List.dropLast_concat_getLast (by intro e; rw [e] at hn; cases hn)).symm⟩
    have ihr := ih r (fun s hs => h s (List.mem_append_left _ hs)) (by simpa using hn)
    obtain ⟨a1, a2, a3⟩ := h s (by simp)
    rw [Sn.put_snoc]
    rcases hp : Sn.put r with _ | ⟨x, q⟩
    · intro t ht
      rw [Sn.putS_nil, List.mem_singleton] at ht
      subst ht; exact ⟨a1, a2, a3⟩
    · obtain ⟨u, z, hu⟩ : ∃ u z, x :: q = u ++ [z] := ⟨_, _, (List.dropLast_concat_getLast (by simp)).symm⟩
      rw [hp, hu] at ihr
      rw [hu, Sn.putS_snoc]
      obtain ⟨b1, b2, b3⟩ := ihr z (by simp)
      split
      · intro t ht
        rcases List.mem_append.1 ht with ht | ht
        · exact ihr t (List.mem_append_left _ ht)
        · rw [List.mem_singleton] at ht; subst ht
          exact ⟨b1, by simp only; omega, by simp only; omega⟩
      · intro t ht
        rcases List.mem_append.1 ht with ht | ht
        · exact ihr t ht
        · rw [List.mem_singleton] at ht; subst ht; exact ⟨a1, a2, a3⟩

set_option maxHeartbeats 1000000 in
theorem insNil_any (f : Value) (w : World) : Calls Tryd.prog 82 #[.slice none 0 0, .int .i64 0, .int .i64 0, f] w fun e w' => e = .returned (.tuple #[]) ∧ w = w' := by
  go_enter Tryd.func82, Tryd.ntmps82
  go_wp2
  go_loop [8] (fun v8 => v8 = .int .i64 1) (fun _ => 0)
  case atStart => exact rfl
  case round =>
    obtain rfl := hrel
    go_wp2
    go_end0
    exact ⟨rfl, rfl⟩
set_option maxHeartbeats 1000000 in
theorem pdqNil_any (f : Value) (w : World) : Calls Tryd.prog 70 #[.slice none 0 0, .int .i64 0, .int .i64 0, .int .i64 0, f] w fun e w' => e = .returned (.tuple #[]) ∧ w = w' := by
  go_enter Tryd.func70, Tryd.ntmps70
  go_wp2
  go_loop [1, 2, 3, 10] (fun v1 v2 v3 v10 => v1 = .int .i64 0 ∧ v2 = .int .i64 0 ∧ v3 = .int .i64 0 ∧ v10 = .bool true) (fun _ _ _ _ => 0)
  case atStart => exact ⟨rfl, rfl, rfl, rfl⟩
  case round =>
    obtain ⟨rfl, rfl, rfl, rfl⟩ := hrel
    go_wp2_with (go_at_call 82; go_must (refine (insNil_any _ _).mono ?_); rintro e w' ⟨rfl, rfl⟩)
    refine bodyPost_ret (results_none rfl _ _ _) rfl ?_
    exact ⟨rfl, rfl⟩
set_option maxHeartbeats 1000000 in
theorem sortNil_any (f : Value) (w : World) : Calls Tryd.prog 61 #[.slice none 0 0, f] w fun e w' => e = .returned (.tuple #[]) ∧ w = w' := by
  have hl : ∀ W, Calls Tryd.prog 66 #[.int .u64 0] W fun e w' => e = .returned (.int .i64 0) ∧ W = w' := fun W =>
    (Any.bits_Len (SlLaysF0.n15.bits (P := Tryd.prog) (ρ := sortSp_ren) { sortSp with }) 0 W (by omega) (by omega)).mono fun _ _ ⟨he, hw⟩ => ⟨he, hw.symm⟩
  go_enter Tryd.func61, Tryd.ntmps61
  go_wp2_with (first
    | (go_at_call 66; go_must (refine (hl _).mono ?_); rintro e w' ⟨rfl, rfl⟩)
    | (go_at_call 70; go_must (refine (pdqNil_any _ _).mono ?_); rintro e w' ⟨rfl, rfl⟩))
  go_end0
  exact ⟨rfl, rfl⟩

set_option maxHeartbeats 8000000 in
theorem tidy_any (A : Option Addr) (n c : Nat) (l : List Sn.Sp) (w : World) (hl : l.length = n) (hR : Rd w w.heap.size 2 A n c (sv l)) (hn : n ≤ 8796093022208) :
    Calls Tryd.prog 51 #[.slice A n c] w fun e w' => ∃ A' c', e = .returned (.slice A' (Sn.tidy l).length c') ∧ w'.ownsRow w.heap.size 59 2 (.slice A' (Sn.tidy l).length c') (Sn.tidy l).length (sv (Sn.tidy l)) ∧ Below w.heap.size w w' := by
  obtain ⟨i0, hi0, hz0, hz1, hz2⟩ := info_parts spanE_info
  have h1max : 1 ≤ maxLen := by unfold maxLen; omega
  have HR := Lib.hid hR
  have HL := Lib.hid hl
  clear hR hl
  go_enter Tryd.func51, Tryd.ntmps51
  go_wp2
  go_loopw [3, 12] (fun v3 v12 wr => ∃ (k m c' : Nat) (A' : Option Addr), v12 = .int .i64 k ∧ v3 = .slice A' m c' ∧ k ≤ n ∧ m ≤ k ∧ Below w.heap.size w wr ∧ Hid (wr.ownsRow w.heap.size 59 2 (.slice A' m c') m (sv (Sn.cut (l.take k)))) ∧ Hid ((Sn.cut (l.take k)).length = m)) (fun _ v12 _ => n - (intOf v12).toNat)
  case atStart => exact ⟨0, 0, 0, none, rfl, rfl, by omega, by omega, Below.refl _ _, World.ownsRow_nil _ _ _ _, rfl⟩
  case round =>
    obtain ⟨k, m, c', A', rfl, rfl, hk, hm, hb, ho, hlen⟩ := hrel
    have hbs := hb.size
    by_cases hlt : k < n
    · obtain ⟨bb, o, rfl, hab, g0, g1⟩ := (HR.out.below hb).stamp HL.out hlt
      have hkl : k < l.length := by rw [HL.out]; exact hlt
      have HT := Lib.hid (show Sn.cut (l.take (k + 1)) = Sn.cut (l.take k) ++ (Sn.cutS (l[k]'hkl)).toList by rw [List.take_succ_eq_append_getElem hkl, Sn.cut_snoc])
      have hcs : Sn.cutS (l[k]'hkl) = if max (l[k]'hkl).1 0 ≤ min (l[k]'hkl).2 255 then some (max (l[k]'hkl).1 0, min (l[k]'hkl).2 255) else none := rfl
      generalize (l[k]'hkl) = s at g0 g1 HT hcs
      obtain ⟨lo, hi⟩ := s
      dsimp only at g0 g1 hcs
      have h63 : m + 1 ≤ maxLen := by unfold maxLen; omega
      by_cases hc : max lo 0 ≤ min hi 255
      · have HC := Lib.hid (show Sn.cut (l.take (k + 1)) = Sn.cut (l.take k) ++ [(max lo 0, min hi 255)] by rw [HT.out, hcs, if_pos hc]; rfl)
        have hRn : Rd ((wr.alloc (.cells #[.int .i64 (max lo 0), .int .i64 (min hi 255)] 59)).alloc (.cells #[.int .i64 (max lo 0), .int .i64 (min hi 255)] 59)) (wr.heap.size + 1 + 1) 2 (some ⟨wr.heap.size + 1, 0, none⟩) 1 1 [.int .i64 (max lo 0), .int .i64 (min hi 255)] := by
          have := Rd.new (wr.alloc (.cells #[.int .i64 (max lo 0), .int .i64 (min hi 255)] 59)) 59 2 1 #[.int .i64 (max lo 0), .int .i64 (min hi 255)] rfl h1max
          rwa [World.size_alloc] at this
        have HRN := Lib.hid hRn
        have HHC := Lib.hid hcs
        clear hcs hRn hkl
        go_wp2_with (at_builtin; go_must (refine wpList_append_rd _ rfl (.tmp 29) (.tmp 31) _ rfl w.heap.size 59 i0 _ 2 16 Tryd.underlying35 hi0 hz0 hz1 hz2 rfl (by decide) (.slice A' m c') m _ rfl ((ho.out.alloc _).alloc _) _ (some ⟨_, 0, none⟩) 1 1 [.int .i64 (max lo 0), .int .i64 (min hi 255)] rfl HRN.out (by intro u hu; simp at hu; rcases hu with rfl | rfl <;> rfl) h63 (by omega) (by simp; omega) ?_); intro A3 c3 w3 ho3 hg3 hat3)
        go_roundw
        case rel =>
          refine ⟨k + 1, m + 1, c3, A3, by go_num, rfl, by omega, by omega, ((hb.alloc hbs _).alloc (by simp; omega) _).trans (grown_below hg3 (by simp; omega) (fun j hj => own_lt ho.out j hj)), ?_, ?_⟩
          · rw [HC.out, sv_app]; exact ho3
          · show _ = _
            rw [HC.out, List.length_append, hlen.out]; rfl
        case measure => simp [intOf]; omega
      · have HC := Lib.hid (show Sn.cut (l.take (k + 1)) = Sn.cut (l.take k) by rw [HT.out, hcs, if_neg hc]; simp)
        clear hcs hkl
        go_wp2
        go_roundw
        case rel => exact ⟨k + 1, m, c', A', by go_num, rfl, by omega, by omega, hb.alloc hbs _, by rw [HC.out]; exact ho.out.alloc _, by show _ = _; rw [HC.out]; exact hlen.out⟩
        case measure => simp [intOf]; omega
    · obtain rfl : k = n := by omega
      have hcut : l.take k = l := List.take_of_length_le (by rw [HL.out]; exact Nat.le_refl _)
      rw [hcut] at ho hlen
      have hs : ∃ (Q : World → Prop), (∀ V, Q V → ∃ cc : List Sn.Sp, Sn.put cc = Sn.tidy l ∧ (∀ s ∈ cc, Sn.okS s) ∧ cc.length = m ∧ Rd V V.heap.size 2 A' m c' (sv cc) ∧ Below w.heap.size w V) ∧ Calls Tryd.prog 61 #[.slice A' m c', .func (.func 62) #[] #[]] wr fun e V => e = .returned (.tuple #[]) ∧ Q V := by
        rcases A' with _ | ad
        · obtain ⟨A'', c'', hv, h1, _⟩ := own_form ho.out
          have h2 := (Rd.of_own ho.out).nil rfl
          have h3 := (Rd.of_own ho.out).cap
          obtain rfl : m = 0 := by omega
          subst h2
          have hce : Sn.cut l = [] := List.eq_nil_of_length_eq_zero hlen.out
          refine ⟨fun V => wr = V, fun V hV => ⟨[], ?_, (fun s hs => by cases hs), rfl, Rd.none_, by rw [← hV]; exact hb⟩, sortNil_any _ wr⟩
          have := Sn.tidy_put (l := l) (c := []) (by rw [hce]) trivial
          exact this
        · obtain ⟨G, hG⟩ : ∃ G, ad = ⟨G, 0, none⟩ := by
            rcases ho.out.2 with h | ⟨g, cap, cur, hv, _⟩
            · exact absurd h.1 (by simp)
            · injection hv with hv1 _ _
              injection hv1 with hv1
              exact ⟨g, hv1⟩
          subst hG
          refine ⟨fun V => ∃ l', List.Perm (Sn.cut l) l' ∧ Sn.risS l' ∧ V.ownsRow w.heap.size 59 2 (.slice (some ⟨G, 0, none⟩) m c') m (sv l') ∧ wr.grownBy V (some G), fun V hV => ?_, sortS_own w.heap.size G m c' (Sn.cut l) wr ho.out hlen.out (by omega)⟩
          obtain ⟨l', hp, hr, ho', hg'⟩ := hV
          exact ⟨l', Sn.tidy_put hp hr, fun s hs => Sn.cut_ok (hp.mem_iff.2 hs), by rw [← hp.length_eq]; exact hlen.out, Rd.of_own ho', hb.trans (grown_below hg' hbs (fun j hj => by cases hj; exact (ho.out.lt G rfl).1))⟩
      obtain ⟨Q, hQ, hS⟩ := hs
      have HS := Lib.hid hS
      have HQ := Lib.hid hQ
      clear hS hQ ho hlen hcut hb hbs
      go_wp2_with (go_at_call 61; go_must (refine HS.out.mono ?_); rintro e w1 ⟨rfl, hq1⟩)
      obtain ⟨cc, hput, hok, hcl, hRc, hb1⟩ := HQ.out _ hq1
      have HP := Lib.hid hput
      have HOK := Lib.hid hok
      have HCL := Lib.hid hcl
      have HRC := Lib.hid hRc
      have HB1 := Lib.hid hb1
      have hs1 := hb1.size
      clear hput hok hcl hRc hb1 HS HQ hq1
      go_loopw [6, 38] (fun v6 v38 wr => ∃ (j q c2 : Nat) (A2 : Option Addr), v38 = .int .i64 j ∧ v6 = .slice A2 q c2 ∧ j ≤ m ∧ q ≤ j ∧ Below w1.heap.size w1 wr ∧ Hid (wr.ownsRow w1.heap.size 59 2 (.slice A2 q c2) q (sv (Sn.put (cc.take j)))) ∧ Hid ((Sn.put (cc.take j)).length = q)) (fun _ v38 _ => m - (intOf v38).toNat)
      case atStart => exact ⟨0, 0, 0, none, rfl, rfl, by omega, by omega, Below.refl _ _, World.ownsRow_nil _ _ _ _, rfl⟩
      case round =>
        obtain ⟨j, q, c2, A2, rfl, rfl, hj, hq, hb, ho, hlen⟩ := hrel
        have hbs := hb.size
        by_cases hlt : j < m
        · obtain ⟨bb, o, rfl, hab, g0, g1⟩ := (HRC.out.below hb).stamp HCL.out hlt
          have hkl : j < cc.length := by rw [HCL.out]; exact hlt
          have HT := Lib.hid (show Sn.put (cc.take (j + 1)) = Sn.putS (Sn.put (cc.take j)) (cc[j]'hkl) by rw [List.take_succ_eq_append_getElem hkl, Sn.put_snoc])
          obtain ⟨a1, a2, a3⟩ := HOK.out _ (List.getElem_mem hkl)
          have hpo := put_okS (cc.take j) (fun s hs => HOK.out s (List.mem_of_mem_take hs))
          generalize (cc[j]'hkl) = s at g0 g1 HT a1 a2 a3
          obtain ⟨lo, hi⟩ := s
          dsimp only at g0 g1 a1 a2 a3
          have h63 : q + 1 ≤ maxLen := by unfold maxLen; omega
          have hbA : Below wr.heap.size wr (wr.alloc (.cells #[.int .i64 lo, .int .i64 hi] 59)) := (Below.refl _ _).alloc (Nat.le_refl _) _
          have hX := Blk.new wr 59 #[.int .i64 lo, .int .i64 hi]
          have hRn : Rd ((wr.alloc (.cells #[.int .i64 lo, .int .i64 hi] 59)).drew.alloc (.cells #[.int .i64 lo, .int .i64 hi] 59)) (wr.heap.size + 1 + 1) 2 (some ⟨wr.heap.size + 1, 0, none⟩) 1 1 [.int .i64 lo, .int .i64 hi] := by
            have := Rd.new (wr.alloc (.cells #[.int .i64 lo, .int .i64 hi] 59)).drew 59 2 1 #[.int .i64 lo, .int .i64 hi] rfl h1max
            rwa [show (wr.alloc (.cells #[.int .i64 lo, .int .i64 hi] 59)).drew.heap.size = wr.heap.size + 1 from World.size_alloc _ _] at this
          have HRN := Lib.hid hRn
          have hXX := fun (V : World) (hv : Below (wr.alloc (.cells #[.int .i64 lo, .int .i64 hi] 59)).heap.size (wr.alloc (.cells #[.int .i64 lo, .int .i64 hi] 59)) V) => (show V.cell? ⟨wr.heap.size, 0, none⟩ = some (.int .i64 lo) ∧ V.cell? ⟨wr.heap.size, 1, none⟩ = some (.int .i64 hi) from ⟨(hX.go hv).cell 0, (hX.go hv).cell 1⟩)
          have HXX := Lib.hid hXX
          have kw := (Below.refl (wr.alloc (.cells #[.int .i64 lo, .int .i64 hi] 59)).heap.size (wr.alloc (.cells #[.int .i64 lo, .int .i64 hi] 59))).drew
          have HBX := Lib.hid hX
          clear hRn hX hXX hkl
          by_cases hq0 : q = 0
          · subst hq0
            have hpe : Sn.put (cc.take j) = [] := List.eq_nil_of_length_eq_zero hlen.out
            have HT2 := Lib.hid (show Sn.put (cc.take (j + 1)) = Sn.put (cc.take j) ++ [(lo, hi)] by rw [HT.out, hpe]; rfl)
            clear hpe hpo
            go_wp2
            refine region_nrm fun KK hKK => ?_
            refine wp_region_held_drew (S := (fun V => V.cell? ⟨wr.heap.size, 0, none⟩ = some (.int .i64 lo) ∧ V.cell? ⟨wr.heap.size, 1, none⟩ = some (.int .i64 hi))) (by kernel_rfl) (by first | exact HXX.out _ kw) (fun hHeld => ?_)
            refine wpAnyH_putD (i := 0) (d := 44) (v := ?_) rfl rfl (by kernel_rfl) (by kernel_rfl) (by kernel_rfl) (fun _ _ _ h => h) (Or.inl ⟨by kernel_rfl, ?_⟩) (by first | exact HXX.out _ kw) ?_
            rotate_left
            · (intro w hS; (try dsimp only at hS); go_simp <;> with_reducible rfl)
            try simp only [List.setIfInBounds_toArray, List.set_cons_zero, List.set_cons_succ]
            refine wpAnyH_putD (i := 1) (d := 45) (v := (.bool false)) rfl rfl (by kernel_rfl) (by kernel_rfl) (by kernel_rfl) (fun _ _ _ h => h) (Or.inl ⟨by kernel_rfl, ?_⟩) (by first | exact HXX.out _ kw) ?_
            · (intro w hS; (try dsimp only at hS); go_simp <;> with_reducible rfl)
            try simp only [List.setIfInBounds_toArray, List.set_cons_zero, List.set_cons_succ]
            refine wpAnyH_putD (i := 2) (d := 46) (v := ?_) rfl rfl (by kernel_rfl) (by kernel_rfl) (by kernel_rfl) (fun _ _ _ h => h) (Or.inl ⟨by kernel_rfl, ?_⟩) (by first | exact HXX.out _ kw) ?_
            rotate_left
            · (intro w hS; (try dsimp only at hS); go_simp <;> with_reducible rfl)
            try simp only [List.setIfInBounds_toArray, List.set_cons_zero, List.set_cons_succ]
            refine wpAnyH_putD (i := 3) (d := 47) (v := undef) rfl rfl (by kernel_rfl) (by kernel_rfl) (by kernel_rfl) (fun _ _ _ h => h) (Or.inr ⟨by kernel_rfl, rfl⟩) (by first | exact HXX.out _ kw) ?_
            try simp only [List.setIfInBounds_toArray, List.set_cons_zero, List.set_cons_succ]
            refine wpAnyH_putD (i := 4) (d := 48) (v := undef) rfl rfl (by kernel_rfl) (by kernel_rfl) (by kernel_rfl) (fun _ _ _ h => h) (Or.inr ⟨by kernel_rfl, rfl⟩) (by first | exact HXX.out _ kw) ?_
            try simp only [List.setIfInBounds_toArray, List.set_cons_zero, List.set_cons_succ]
            refine wpAnyH_putD (i := 5) (d := 49) (v := undef) rfl rfl (by kernel_rfl) (by kernel_rfl) (by kernel_rfl) (fun _ _ _ h => h) (Or.inr ⟨by kernel_rfl, rfl⟩) (by first | exact HXX.out _ kw) ?_
            try simp only [List.setIfInBounds_toArray, List.set_cons_zero, List.set_cons_succ]
            refine wpAnyH_putD (i := 6) (d := 50) (v := undef) rfl rfl (by kernel_rfl) (by kernel_rfl) (by kernel_rfl) (fun _ _ _ h => h) (Or.inr ⟨by kernel_rfl, rfl⟩) (by first | exact HXX.out _ kw) ?_
            try simp only [List.setIfInBounds_toArray, List.set_cons_zero, List.set_cons_succ]
            refine wpAnyH_putD (i := 7) (d := 51) (v := undef) rfl rfl (by kernel_rfl) (by kernel_rfl) (by kernel_rfl) (fun _ _ _ h => h) (Or.inr ⟨by kernel_rfl, rfl⟩) (by first | exact HXX.out _ kw) ?_
            try simp only [List.setIfInBounds_toArray, List.set_cons_zero, List.set_cons_succ]
            refine wpAnyH_putD (i := 8) (d := 52) (v := undef) rfl rfl (by kernel_rfl) (by kernel_rfl) (by kernel_rfl) (fun _ _ _ h => h) (Or.inr ⟨by kernel_rfl, rfl⟩) (by first | exact HXX.out _ kw) ?_
            try simp only [List.setIfInBounds_toArray, List.set_cons_zero, List.set_cons_succ]
            refine wpAnyH_putD (i := 9) (d := 53) (v := undef) rfl rfl (by kernel_rfl) (by kernel_rfl) (by kernel_rfl) (fun _ _ _ h => h) (Or.inr ⟨by kernel_rfl, rfl⟩) (by first | exact HXX.out _ kw) ?_
            try simp only [List.setIfInBounds_toArray, List.set_cons_zero, List.set_cons_succ]
            refine wpAnyH_putD (i := 10) (d := 54) (v := undef) rfl rfl (by kernel_rfl) (by kernel_rfl) (by kernel_rfl) (fun _ _ _ h => h) (Or.inr ⟨by kernel_rfl, rfl⟩) (by first | exact HXX.out _ kw) ?_
            try simp only [List.setIfInBounds_toArray, List.set_cons_zero, List.set_cons_succ]
            refine wpAnyH_putD (i := 11) (d := 55) (v := undef) rfl rfl (by kernel_rfl) (by kernel_rfl) (by kernel_rfl) (fun _ _ _ h => h) (Or.inr ⟨by kernel_rfl, rfl⟩) (by first | exact HXX.out _ kw) ?_
            try simp only [List.setIfInBounds_toArray, List.set_cons_zero, List.set_cons_succ]
            refine wpAnyH_putD (i := 12) (d := 56) (v := undef) rfl rfl (by kernel_rfl) (by kernel_rfl) (by kernel_rfl) (fun _ _ _ h => h) (Or.inr ⟨by kernel_rfl, rfl⟩) (by first | exact HXX.out _ kw) ?_
            try simp only [List.setIfInBounds_toArray, List.set_cons_zero, List.set_cons_succ]
            refine wpAnyH_putD (i := 13) (d := 57) (v := ?_) rfl rfl (by kernel_rfl) (by kernel_rfl) (by kernel_rfl) (fun _ _ _ h => h) (Or.inl ⟨by kernel_rfl, ?_⟩) (by first | exact HXX.out _ kw) ?_
            rotate_left
            · (intro w hS; (try dsimp only at hS); go_simp <;> with_reducible rfl)
            try simp only [List.setIfInBounds_toArray, List.set_cons_zero, List.set_cons_succ]
            refine wpAnyH_done (by kernel_rfl) ?_ _
            refine Nrm.out (hKK _ _ ?_)
            go_wp2_with (at_builtin; go_must (refine wpList_append_rd _ rfl (.tmp 72) (.tmp 74) _ rfl w1.heap.size 59 i0 _ 2 16 Tryd.underlying35 hi0 hz0 hz1 hz2 rfl (by decide) (.slice A2 0 c2) 0 _ rfl (World.ownsRow.alloc (show (wr.alloc _).drew.ownsRow _ _ _ _ _ _ from ho.out.alloc _) _) _ (some ⟨_, 0, none⟩) 1 1 [.int .i64 lo, .int .i64 hi] rfl HRN.out (by intro u hu; simp at hu; rcases hu with rfl | rfl <;> rfl) h63 (by omega) (by simp; omega) ?_); intro A3 c3 w3 ho3 hg3 hat3)
            go_roundw
            case rel =>
              refine ⟨j + 1, 0 + 1, c3, A3, by go_num, rfl, by omega, by omega, (((hb.alloc hbs _).drew).alloc (by simp; omega) _).trans (grown_below hg3 (by simp; omega) (fun j hj => own_lt ho.out j hj)), ?_, ?_⟩
              · rw [HT2.out, sv_app]; exact ho3
              · show _ = _
                rw [HT2.out, List.length_append, hlen.out]; rfl
            case measure => simp [intOf]; omega
          · obtain ⟨p, rfl⟩ : ∃ p, q = p + 1 := ⟨q - 1, by omega⟩
            obtain ⟨u, t, hu⟩ : ∃ u t, Sn.put (cc.take j) = u ++ [t] := ⟨_, _, (List.dropLast_concat_getLast (by intro e; have := hlen.out; rw [e] at this; cases this)).symm⟩
            obtain ⟨b1, b2, b3⟩ := hpo t (by rw [hu]; simp)
            have hul : u.length = p := by have := hlen.out; rw [hu, List.length_append] at this; simpa using this
            obtain ⟨G, cap, hv, hGb, hGs⟩ := ho.out.form (by omega)
            injection hv with hv1 _ hv3
            subst hv1 hv3
            have hcell : ∀ V : World, V.ownsRow w1.heap.size 59 2 (.slice (some ⟨G, 0, none⟩) (p + 1) c2) (p + 1) (sv (Sn.put (cc.take j))) → V.cell? ⟨G, p * 2 + 1, none⟩ = some (.int .i64 t.2) := fun V hV => by
              obtain ⟨b', o', hA', _, hc0, hc1⟩ := (Rd.of_own hV).stamp (k := p) hlen.out (by omega)
              injection hA' with hA'
              injection hA' with e1 e2
              subst e1 e2
              rw [Nat.zero_add] at hc1
              rw [hc1]
              have : (Sn.put (cc.take j))[p]'(by rw [hlen.out]; omega) = t := by
                rw [List.getElem_of_eq hu, List.getElem_append_right (by omega)]; simp [hul]
              rw [this]
            have ho1 : ((wr.alloc (.cells #[.int .i64 lo, .int .i64 hi] 59)).drew).ownsRow w1.heap.size 59 2 (.slice (some ⟨G, 0, none⟩) (p + 1) c2) (p + 1) (sv (Sn.put (cc.take j))) := ho.out.alloc _
            have hG := hcell _ ho1
            have hS1 := And.intro (HXX.out _ kw).1 (And.intro (HXX.out _ kw).2 hG)
            have HO := Lib.hid ho1
            have HUL := Lib.hid hul
            have HGB := Lib.hid hGb
            have HG := Lib.hid hG
            have hGne : G ≠ wr.heap.size := by omega
            have hzw : IntKind.i64.wrap (t.2 + 1) = t.2 + 1 := IntWalk.i64_in _ (by omega)
            have hzp : IntKind.i64.wrap (p : Int) = (p : Int) := IntWalk.i64_in _ (by omega)
            have hpa : (0 : Int) ≤ (p : Int) := by omega
            have hpb : (p : Int) < (p : Int) + 1 := by omega
            have hpc : ((p : Int)).toNat = p := by omega
            obtain ⟨t1, t2⟩ := t
            dsimp only at b1 b2 b3 hG hzw hS1 HG
            by_cases hc : lo ≤ t2 + 1
            · have HT2 := Lib.hid (show Sn.put (cc.take (j + 1)) = u ++ [(t1, max t2 hi)] by rw [HT.out, hu, Sn.putS_snoc, if_pos hc])
              have HU := Lib.hid hu
              have HPP := Lib.hid hpo
              clear hcell ho1 hu hul hpo hGb hG
              go_wp2
              refine region_nrm fun KK hKK => ?_
              refine wp_region_held_drew (S := (fun V => V.cell? ⟨wr.heap.size, 0, none⟩ = some (.int .i64 lo) ∧ V.cell? ⟨wr.heap.size, 1, none⟩ = some (.int .i64 hi) ∧ V.cell? ⟨G, p * 2 + 1, none⟩ = some (.int .i64 t2))) (by kernel_rfl) (by first | exact hS1) (fun hHeld => ?_)
              refine wpAnyH_putD (i := 0) (d := 44) (v := ?_) rfl rfl (by kernel_rfl) (by kernel_rfl) (by kernel_rfl) (fun _ _ _ h => h) (Or.inl ⟨by kernel_rfl, ?_⟩) (by first | exact hS1) ?_
              rotate_left
              · (intro w hS; (try dsimp only at hS); go_simp <;> with_reducible rfl)
              try simp only [List.setIfInBounds_toArray, List.set_cons_zero, List.set_cons_succ]
              refine wpAnyH_putD (i := 1) (d := 45) (v := (.bool true)) rfl rfl (by kernel_rfl) (by kernel_rfl) (by kernel_rfl) (fun _ _ _ h => h) (Or.inl ⟨by kernel_rfl, ?_⟩) (by first | exact hS1) ?_
              · (intro w hS; (try dsimp only at hS); go_simp <;> with_reducible rfl)
              try simp only [List.setIfInBounds_toArray, List.set_cons_zero, List.set_cons_succ]
              refine wpAnyH_putD (i := 2) (d := 46) (v := ?_) rfl rfl (by kernel_rfl) (by kernel_rfl) (by kernel_rfl) (fun _ _ _ h => h) (Or.inl ⟨by kernel_rfl, ?_⟩) (by first | exact hS1) ?_
              rotate_left
              · (intro w hS; (try dsimp only at hS); go_simp <;> with_reducible rfl)
              try simp only [List.setIfInBounds_toArray, List.set_cons_zero, List.set_cons_succ]
              refine wpAnyH_putD (i := 3) (d := 47) (v := ?_) rfl rfl (by kernel_rfl) (by kernel_rfl) (by kernel_rfl) (fun _ _ _ h => h) (Or.inl ⟨by kernel_rfl, ?_⟩) (by first | exact hS1) ?_
              rotate_left
              · (intro w hS; (try dsimp only at hS); go_simp <;> with_reducible rfl)
              try simp only [List.setIfInBounds_toArray, List.set_cons_zero, List.set_cons_succ]
              refine wpAnyH_putD (i := 4) (d := 48) (v := ?_) rfl rfl (by kernel_rfl) (by kernel_rfl) (by kernel_rfl) (fun _ _ _ h => h) (Or.inl ⟨by kernel_rfl, ?_⟩) (by first | exact hS1) ?_
              rotate_left
              · (intro w hS; (try dsimp only at hS); go_simp <;> with_reducible rfl)
              try simp only [List.setIfInBounds_toArray, List.set_cons_zero, List.set_cons_succ]
              refine wpAnyH_putD (i := 5) (d := 49) (v := ?_) rfl rfl (by kernel_rfl) (by kernel_rfl) (by kernel_rfl) (fun _ _ _ h => h) (Or.inl ⟨by kernel_rfl, ?_⟩) (by first | exact hS1) ?_
              rotate_left
              · (intro w hS; (try dsimp only at hS); go_simp <;> with_reducible rfl)
              try simp only [List.setIfInBounds_toArray, List.set_cons_zero, List.set_cons_succ]
              refine wpAnyH_putD (i := 6) (d := 50) (v := ?_) rfl rfl (by kernel_rfl) (by kernel_rfl) (by kernel_rfl) (fun _ _ _ h => h) (Or.inl ⟨by kernel_rfl, ?_⟩) (by first | exact hS1) ?_
              rotate_left
              · (intro w hS; (try dsimp only at hS); go_simp <;> with_reducible rfl)
              try simp only [List.setIfInBounds_toArray, List.set_cons_zero, List.set_cons_succ]
              refine wpAnyH_putD (i := 7) (d := 51) (v := ?_) rfl rfl (by kernel_rfl) (by kernel_rfl) (by kernel_rfl) (fun _ _ _ h => h) (Or.inl ⟨by kernel_rfl, ?_⟩) (by first | exact hS1) ?_
              rotate_left
              · (intro w hS; (try dsimp only at hS); go_simp <;> with_reducible rfl)
              try simp only [List.setIfInBounds_toArray, List.set_cons_zero, List.set_cons_succ]
              refine wpAnyH_putD (i := 8) (d := 52) (v := ?_) rfl rfl (by kernel_rfl) (by kernel_rfl) (by kernel_rfl) (fun _ _ _ h => h) (Or.inl ⟨by kernel_rfl, ?_⟩) (by first | exact hS1) ?_
              rotate_left
              · (intro w hS; (try dsimp only at hS); go_simp <;> with_reducible rfl)
              try simp only [List.setIfInBounds_toArray, List.set_cons_zero, List.set_cons_succ]
              refine wpAnyH_putD (i := 9) (d := 53) (v := ?_) rfl rfl (by kernel_rfl) (by kernel_rfl) (by kernel_rfl) (fun _ _ _ h => h) (Or.inl ⟨by kernel_rfl, ?_⟩) (by first | exact hS1) ?_
              rotate_left
              · (intro w hS; (try dsimp only at hS); go_simp <;> with_reducible rfl)
              try simp only [List.setIfInBounds_toArray, List.set_cons_zero, List.set_cons_succ]
              refine wpAnyH_putD (i := 10) (d := 54) (v := ?_) rfl rfl (by kernel_rfl) (by kernel_rfl) (by kernel_rfl) (fun _ _ _ h => h) (Or.inl ⟨by kernel_rfl, ?_⟩) (by first | exact hS1) ?_
              rotate_left
              · (intro w hS; (try dsimp only at hS); go_simp <;> with_reducible rfl)
              try simp only [List.setIfInBounds_toArray, List.set_cons_zero, List.set_cons_succ]
              refine wpAnyH_putD (i := 11) (d := 55) (v := ?_) rfl rfl (by kernel_rfl) (by kernel_rfl) (by kernel_rfl) (fun _ _ _ h => h) (Or.inl ⟨by kernel_rfl, ?_⟩) (by first | exact hS1) ?_
              rotate_left
              · (intro w hS; (try dsimp only at hS); go_simp <;> with_reducible rfl)
              try simp only [List.setIfInBounds_toArray, List.set_cons_zero, List.set_cons_succ]
              refine wpAnyH_putD (i := 12) (d := 56) (v := (.bool true)) rfl rfl (by kernel_rfl) (by kernel_rfl) (by kernel_rfl) (fun _ _ _ h => h) (Or.inl ⟨by kernel_rfl, ?_⟩) (by first | exact hS1) ?_
              · (intro w hS; (try dsimp only at hS); go_simp <;> with_reducible rfl)
              try simp only [List.setIfInBounds_toArray, List.set_cons_zero, List.set_cons_succ]
              refine wpAnyH_putD (i := 13) (d := 57) (v := ?_) rfl rfl (by kernel_rfl) (by kernel_rfl) (by kernel_rfl) (fun _ _ _ h => h) (Or.inl ⟨by kernel_rfl, ?_⟩) (by first | exact hS1) ?_
              rotate_left
              · (intro w hS; (try dsimp only at hS); go_simp <;> with_reducible rfl)
              try simp only [List.setIfInBounds_toArray, List.set_cons_zero, List.set_cons_succ]
              refine wpAnyH_done (by kernel_rfl) ?_ _
              refine Nrm.out (hKK _ _ ?_)
              clear hS1
              go_wp2_with fail
              have kw2 := kw.drew
              refine region_nrm fun KK hKK => ?_
              refine wp_region_held_drew (S := (fun V => V.cell? ⟨wr.heap.size, 0, none⟩ = some (.int .i64 lo) ∧ V.cell? ⟨wr.heap.size, 1, none⟩ = some (.int .i64 hi))) (by kernel_rfl) (by first | exact HXX.out _ kw2 | exact hS9) (fun hHeld => ?_)
              refine wpAnyH_putD (i := 0) (d := 58) (v := ?_) rfl rfl (by kernel_rfl) (by kernel_rfl) (by kernel_rfl) (fun _ _ _ h => h) (Or.inl ⟨by kernel_rfl, ?_⟩) (by first | exact HXX.out _ kw2 | exact hS9) ?_
              rotate_left
              · (intro w hS; (try dsimp only at hS); go_simp <;> with_reducible rfl)
              try simp only [List.setIfInBounds_toArray, List.set_cons_zero, List.set_cons_succ]
              refine wpAnyH_putD (i := 1) (d := 59) (v := ?_) rfl rfl (by kernel_rfl) (by kernel_rfl) (by kernel_rfl) (fun _ _ _ h => h) (Or.inl ⟨by kernel_rfl, ?_⟩) (by first | exact HXX.out _ kw2 | exact hS9) ?_
              rotate_left
              · (intro w hS; (try dsimp only at hS); go_simp <;> with_reducible rfl)
              try simp only [List.setIfInBounds_toArray, List.set_cons_zero, List.set_cons_succ]
              refine wpAnyH_putD (i := 2) (d := 60) (v := ?_) rfl rfl (by kernel_rfl) (by kernel_rfl) (by kernel_rfl) (fun _ _ _ h => h) (Or.inl ⟨by kernel_rfl, ?_⟩) (by first | exact HXX.out _ kw2 | exact hS9) ?_
              rotate_left
              · (intro w hS; (try dsimp only at hS); go_simp <;> with_reducible rfl)
              try simp only [List.setIfInBounds_toArray, List.set_cons_zero, List.set_cons_succ]
              refine wpAnyH_putD (i := 3) (d := 61) (v := ?_) rfl rfl (by kernel_rfl) (by kernel_rfl) (by kernel_rfl) (fun _ _ _ h => h) (Or.inl ⟨by kernel_rfl, ?_⟩) (by first | exact HXX.out _ kw2 | exact hS9) ?_
              rotate_left
              · (intro w hS; (try dsimp only at hS); go_simp <;> with_reducible rfl)
              try simp only [List.setIfInBounds_toArray, List.set_cons_zero, List.set_cons_succ]
              refine wpAnyH_putD (i := 4) (d := 62) (v := ?_) rfl rfl (by kernel_rfl) (by kernel_rfl) (by kernel_rfl) (fun _ _ _ h => h) (Or.inl ⟨by kernel_rfl, ?_⟩) (by first | exact HXX.out _ kw2 | exact hS9) ?_
              rotate_left
              · (intro w hS; (try dsimp only at hS); go_simp <;> with_reducible rfl)
              try simp only [List.setIfInBounds_toArray, List.set_cons_zero, List.set_cons_succ]
              refine wpAnyH_putD (i := 5) (d := 63) (v := ?_) rfl rfl (by kernel_rfl) (by kernel_rfl) (by kernel_rfl) (fun _ _ _ h => h) (Or.inl ⟨by kernel_rfl, ?_⟩) (by first | exact HXX.out _ kw2 | exact hS9) ?_
              rotate_left
              · (intro w hS; (try dsimp only at hS); go_simp <;> with_reducible rfl)
              try simp only [List.setIfInBounds_toArray, List.set_cons_zero, List.set_cons_succ]
              refine wpAnyH_putD (i := 6) (d := 64) (v := ?_) rfl rfl (by kernel_rfl) (by kernel_rfl) (by kernel_rfl) (fun _ _ _ h => h) (Or.inl ⟨by kernel_rfl, ?_⟩) (by first | exact HXX.out _ kw2 | exact hS9) ?_
              rotate_left
              · (intro w hS; (try dsimp only at hS); go_simp <;> with_reducible rfl)
              try simp only [List.setIfInBounds_toArray, List.set_cons_zero, List.set_cons_succ]
              refine wpAnyH_putD (i := 7) (d := 65) (v := ?_) rfl rfl (by kernel_rfl) (by kernel_rfl) (by kernel_rfl) (fun _ _ _ h => h) (Or.inl ⟨by kernel_rfl, ?_⟩) (by first | exact HXX.out _ kw2 | exact hS9) ?_
              rotate_left
              · (intro w hS; (try dsimp only at hS); go_simp <;> with_reducible rfl)
              try simp only [List.setIfInBounds_toArray, List.set_cons_zero, List.set_cons_succ]
              refine wpAnyH_putD (i := 9) (d := 67) (v := ?_) rfl rfl (by kernel_rfl) (by kernel_rfl) (by kernel_rfl) (fun _ _ _ h => h) (Or.inl ⟨by kernel_rfl, ?_⟩) (by first | exact HXX.out _ kw2 | exact hS9) ?_
              rotate_left
              · (intro w hS; (try dsimp only at hS); go_simp <;> with_reducible rfl)
              try simp only [List.setIfInBounds_toArray, List.set_cons_zero, List.set_cons_succ]
              refine wpAnyH_putD (i := 10) (d := 68) (v := ?_) rfl rfl (by kernel_rfl) (by kernel_rfl) (by kernel_rfl) (fun _ _ _ h => h) (Or.inl ⟨by kernel_rfl, ?_⟩) (by first | exact HXX.out _ kw2 | exact hS9) ?_
              rotate_left
              · (intro w hS; (try dsimp only at hS); go_simp <;> with_reducible rfl)
              try simp only [List.setIfInBounds_toArray, List.set_cons_zero, List.set_cons_succ]
              refine wpAnyH_ready (rs := [8]) (by kernel_rfl) (by simp) ?_
              refine AllReadyH.cons rfl (fun K hK => ?_) AllReadyH.nil
              have qg := HG.out
              go_simp
              clear qg
              refine hK.out _ _ (by first | exact HXX.out _ kw2 | exact hS9) (fun hHeld => ?_)
              clear hK K
              refine wpAnyH_putD (i := 11) (d := 69) (v := ?_) rfl rfl (by kernel_rfl) (by kernel_rfl) (by kernel_rfl) (fun _ _ _ h => h) (Or.inl ⟨by kernel_rfl, ?_⟩) (by first | exact HXX.out _ kw2 | exact hS9) ?_
              rotate_left
              · (intro w hS; (try dsimp only at hS); go_simp <;> with_reducible rfl)
              try simp only [List.setIfInBounds_toArray, List.set_cons_zero, List.set_cons_succ]
              refine wpAnyH_putD (i := 12) (d := 70) (v := ?_) rfl rfl (by kernel_rfl) (by kernel_rfl) (by kernel_rfl) (fun _ _ _ h => h) (Or.inl ⟨by kernel_rfl, ?_⟩) (by first | exact HXX.out _ kw2 | exact hS9) ?_
              rotate_left
              · (intro w hS; (try dsimp only at hS); go_simp <;> with_reducible rfl)
              try simp only [List.setIfInBounds_toArray, List.set_cons_zero, List.set_cons_succ]
              refine wpAnyH_putD (i := 13) (d := 71) (v := ?_) rfl rfl (by kernel_rfl) (by kernel_rfl) (by kernel_rfl) (fun _ _ _ h => h) (Or.inl ⟨by kernel_rfl, ?_⟩) (by first | exact HXX.out _ kw2 | exact hS9) ?_
              rotate_left
              · (intro w hS; (try dsimp only at hS); go_simp <;> with_reducible rfl)
              try simp only [List.setIfInBounds_toArray, List.set_cons_zero, List.set_cons_succ]
              refine wpAnyH_ready (rs := [14]) (by kernel_rfl) (by simp) ?_
              refine AllReadyH.cons rfl (fun K hK => ?_) AllReadyH.nil
              have qg := HG.out
              have qf := (own_cell (j := p * 2 + 1) HO.out (by omega) (.int .i64 0)).2.2
              go_simp
              clear qg qf
              have hX9 := Blk.new (wr.setCell ⟨G, p * 2 + 1, none⟩ (.int .i64 (max t2 hi))) 59 #[.int .i64 lo, .int .i64 hi]
              rw [World.size_setCell] at hX9
              have hX9 : Blk (((wr.setCell ⟨G, p * 2 + 1, none⟩ (.int .i64 (max t2 hi))).alloc (.cells #[.int .i64 lo, .int .i64 hi] 59)).drew.drew) wr.heap.size 59 #[.int .i64 lo, .int .i64 hi] := hX9
              have hS9 := And.intro (hX9.cell 0) (hX9.cell 1)
              refine hK.out _ _ (by first | exact HXX.out _ kw2 | exact hS9) (fun hHeld => ?_)
              clear hK K
              refine wpAnyH_done (by kernel_rfl) ?_ _
              refine Nrm.out (hKK _ _ ?_)
              go_wp2
              go_roundw
              case rel =>
                have hoc := own_cell (j := p * 2 + 1) ho.out (by omega) (.int .i64 (max t2 hi))
                have ho5 := hoc.1.alloc (.cells #[.int .i64 lo, .int .i64 hi] 59)
                rw [HU.out, ← HUL.out, sv_set_last] at ho5
                refine ⟨j + 1, p + 1, c2, some ⟨G, 0, none⟩, by go_num, rfl, by omega, by omega, (((hb.setCell (p := ⟨G, p * 2 + 1, none⟩) HGB.out _).alloc (by simp; exact hbs) _).drew).drew, ?_, ?_⟩
                · rw [HT2.out, ← HUL.out]; exact ho5
                · show _ = _
                  rw [HT2.out, List.length_append, HUL.out]; rfl
              case measure => simp [intOf]; omega
            · have HT2 := Lib.hid (show Sn.put (cc.take (j + 1)) = Sn.put (cc.take j) ++ [(lo, hi)] by rw [HT.out, hu, Sn.putS_snoc, if_neg hc])
              clear hcell ho1 hu hul hpo hGb hG
              go_wp2
              refine region_nrm fun KK hKK => ?_
              refine wp_region_held_drew (S := (fun V => V.cell? ⟨wr.heap.size, 0, none⟩ = some (.int .i64 lo) ∧ V.cell? ⟨wr.heap.size, 1, none⟩ = some (.int .i64 hi) ∧ V.cell? ⟨G, p * 2 + 1, none⟩ = some (.int .i64 t2))) (by kernel_rfl) (by first | exact hS1) (fun hHeld => ?_)
              refine wpAnyH_putD (i := 0) (d := 44) (v := ?_) rfl rfl (by kernel_rfl) (by kernel_rfl) (by kernel_rfl) (fun _ _ _ h => h) (Or.inl ⟨by kernel_rfl, ?_⟩) (by first | exact hS1) ?_
              rotate_left
              · (intro w hS; (try dsimp only at hS); go_simp <;> with_reducible rfl)
              try simp only [List.setIfInBounds_toArray, List.set_cons_zero, List.set_cons_succ]
              refine wpAnyH_putD (i := 1) (d := 45) (v := (.bool true)) rfl rfl (by kernel_rfl) (by kernel_rfl) (by kernel_rfl) (fun _ _ _ h => h) (Or.inl ⟨by kernel_rfl, ?_⟩) (by first | exact hS1) ?_
              · (intro w hS; (try dsimp only at hS); go_simp <;> with_reducible rfl)
              try simp only [List.setIfInBounds_toArray, List.set_cons_zero, List.set_cons_succ]
              refine wpAnyH_putD (i := 2) (d := 46) (v := ?_) rfl rfl (by kernel_rfl) (by kernel_rfl) (by kernel_rfl) (fun _ _ _ h => h) (Or.inl ⟨by kernel_rfl, ?_⟩) (by first | exact hS1) ?_
              rotate_left
              · (intro w hS; (try dsimp only at hS); go_simp <;> with_reducible rfl)
              try simp only [List.setIfInBounds_toArray, List.set_cons_zero, List.set_cons_succ]
              refine wpAnyH_putD (i := 3) (d := 47) (v := ?_) rfl rfl (by kernel_rfl) (by kernel_rfl) (by kernel_rfl) (fun _ _ _ h => h) (Or.inl ⟨by kernel_rfl, ?_⟩) (by first | exact hS1) ?_
              rotate_left
              · (intro w hS; (try dsimp only at hS); go_simp <;> with_reducible rfl)
              try simp only [List.setIfInBounds_toArray, List.set_cons_zero, List.set_cons_succ]
              refine wpAnyH_putD (i := 4) (d := 48) (v := ?_) rfl rfl (by kernel_rfl) (by kernel_rfl) (by kernel_rfl) (fun _ _ _ h => h) (Or.inl ⟨by kernel_rfl, ?_⟩) (by first | exact hS1) ?_
              rotate_left
              · (intro w hS; (try dsimp only at hS); go_simp <;> with_reducible rfl)
              try simp only [List.setIfInBounds_toArray, List.set_cons_zero, List.set_cons_succ]
              refine wpAnyH_putD (i := 5) (d := 49) (v := ?_) rfl rfl (by kernel_rfl) (by kernel_rfl) (by kernel_rfl) (fun _ _ _ h => h) (Or.inl ⟨by kernel_rfl, ?_⟩) (by first | exact hS1) ?_
              rotate_left
              · (intro w hS; (try dsimp only at hS); go_simp <;> with_reducible rfl)
              try simp only [List.setIfInBounds_toArray, List.set_cons_zero, List.set_cons_succ]
              refine wpAnyH_putD (i := 6) (d := 50) (v := ?_) rfl rfl (by kernel_rfl) (by kernel_rfl) (by kernel_rfl) (fun _ _ _ h => h) (Or.inl ⟨by kernel_rfl, ?_⟩) (by first | exact hS1) ?_
              rotate_left
              · (intro w hS; (try dsimp only at hS); go_simp <;> with_reducible rfl)
              try simp only [List.setIfInBounds_toArray, List.set_cons_zero, List.set_cons_succ]
              refine wpAnyH_putD (i := 7) (d := 51) (v := ?_) rfl rfl (by kernel_rfl) (by kernel_rfl) (by kernel_rfl) (fun _ _ _ h => h) (Or.inl ⟨by kernel_rfl, ?_⟩) (by first | exact hS1) ?_
              rotate_left
              · (intro w hS; (try dsimp only at hS); go_simp <;> with_reducible rfl)
              try simp only [List.setIfInBounds_toArray, List.set_cons_zero, List.set_cons_succ]
              refine wpAnyH_putD (i := 8) (d := 52) (v := ?_) rfl rfl (by kernel_rfl) (by kernel_rfl) (by kernel_rfl) (fun _ _ _ h => h) (Or.inl ⟨by kernel_rfl, ?_⟩) (by first | exact hS1) ?_
              rotate_left
              · (intro w hS; (try dsimp only at hS); go_simp <;> with_reducible rfl)
              try simp only [List.setIfInBounds_toArray, List.set_cons_zero, List.set_cons_succ]
              refine wpAnyH_putD (i := 9) (d := 53) (v := ?_) rfl rfl (by kernel_rfl) (by kernel_rfl) (by kernel_rfl) (fun _ _ _ h => h) (Or.inl ⟨by kernel_rfl, ?_⟩) (by first | exact hS1) ?_
              rotate_left
              · (intro w hS; (try dsimp only at hS); go_simp <;> with_reducible rfl)
              try simp only [List.setIfInBounds_toArray, List.set_cons_zero, List.set_cons_succ]
              refine wpAnyH_putD (i := 10) (d := 54) (v := ?_) rfl rfl (by kernel_rfl) (by kernel_rfl) (by kernel_rfl) (fun _ _ _ h => h) (Or.inl ⟨by kernel_rfl, ?_⟩) (by first | exact hS1) ?_
              rotate_left
              · (intro w hS; (try dsimp only at hS); go_simp <;> with_reducible rfl)
              try simp only [List.setIfInBounds_toArray, List.set_cons_zero, List.set_cons_succ]
              refine wpAnyH_putD (i := 11) (d := 55) (v := ?_) rfl rfl (by kernel_rfl) (by kernel_rfl) (by kernel_rfl) (fun _ _ _ h => h) (Or.inl ⟨by kernel_rfl, ?_⟩) (by first | exact hS1) ?_
              rotate_left
              · (intro w hS; (try dsimp only at hS); go_simp <;> with_reducible rfl)
              try simp only [List.setIfInBounds_toArray, List.set_cons_zero, List.set_cons_succ]
              refine wpAnyH_putD (i := 12) (d := 56) (v := (.bool false)) rfl rfl (by kernel_rfl) (by kernel_rfl) (by kernel_rfl) (fun _ _ _ h => h) (Or.inl ⟨by kernel_rfl, ?_⟩) (by first | exact hS1) ?_
              · (intro w hS; (try dsimp only at hS); go_simp <;> with_reducible rfl)
              try simp only [List.setIfInBounds_toArray, List.set_cons_zero, List.set_cons_succ]
              refine wpAnyH_putD (i := 13) (d := 57) (v := ?_) rfl rfl (by kernel_rfl) (by kernel_rfl) (by kernel_rfl) (fun _ _ _ h => h) (Or.inl ⟨by kernel_rfl, ?_⟩) (by first | exact hS1) ?_
              rotate_left
              · (intro w hS; (try dsimp only at hS); go_simp <;> with_reducible rfl)
              try simp only [List.setIfInBounds_toArray, List.set_cons_zero, List.set_cons_succ]
              refine wpAnyH_done (by kernel_rfl) ?_ _
              refine Nrm.out (hKK _ _ ?_)
              go_wp2_with (at_builtin; go_must (refine wpList_append_rd _ rfl (.tmp 72) (.tmp 74) _ rfl w1.heap.size 59 i0 _ 2 16 Tryd.underlying35 hi0 hz0 hz1 hz2 rfl (by decide) (.slice (some ⟨G, 0, none⟩) (p + 1) c2) (p + 1) _ rfl (World.ownsRow.alloc (show (wr.alloc _).drew.ownsRow _ _ _ _ _ _ from ho.out.alloc _) _) _ (some ⟨_, 0, none⟩) 1 1 [.int .i64 lo, .int .i64 hi] rfl HRN.out (by intro u hu; simp at hu; rcases hu with rfl | rfl <;> rfl) h63 (by omega) (by simp; omega) ?_); intro A3 c3 w3 ho3 hg3 hat3)
              go_roundw
              case rel =>
                refine ⟨j + 1, (p + 1) + 1, c3, A3, by go_num, rfl, by omega, by omega, (((hb.alloc hbs _).drew).alloc (by simp; omega) _).trans (grown_below hg3 (by simp; omega) (fun j hj => own_lt ho.out j hj)), ?_, ?_⟩
                · rw [HT2.out, sv_app]; exact ho3
                · show _ = _
                  rw [HT2.out, List.length_append, hlen.out]; rfl
              case measure => simp [intOf]; omega
        · obtain rfl : j = m := by omega
          have he : Sn.put (cc.take j) = Sn.tidy l := by rw [List.take_of_length_le (by rw [HCL.out]; exact Nat.le_refl _), HP.out]
          have HO := Lib.hid ho.out
          rw [he] at HO hlen
          have HLN := Lib.hid hlen.out
          have HB := Lib.hid (below_then HB1.out (Nat.le_refl _) hb)
          clear he ho hlen hb
          go_wp2
          go_ret
          exact ⟨A2, c2, by rw [HLN.out] <;> rfl, by rw [HLN.out]; exact own_less HO.out hs1, HB.out⟩
end Go.Proofs.YtepdcbhapjgijaaDoor
