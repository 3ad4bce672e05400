/- Walk over span.Meet (printed by wip/tools/genSpG.py). -/
import Derived.Test.YtepdcbhapjgijaaDoorSpF
import Derived.BigQuiet
namespace Go.Proofs.YtepdcbhapjgijaaDoor
open Go.RowKit
set_option maxRecDepth 100000

theorem own_drew_ {w : World} {base : Nat} {e : TypeId} {size n : Nat} {v : Value} {xs : List Value} (h : w.ownsRow base e size v n xs) : w.drew.ownsRow base e size v n xs := h
/-- How long a slice is. -/
def slLen : Value → Nat
  | .slice _ n _ => n
  | _ => 0
set_option maxHeartbeats 8000000 in
theorem meet_any (A : Option Addr) (n c : Nat) (l : List Sn.Sp) (B : Option Addr) (m d : Nat) (r : List Sn.Sp) (w : World) (hl : l.length = n) (hR : Rd w w.heap.size 2 A n c (sv l)) (hn : n ≤ 8796093022208) (hr : r.length = m) (hR2 : Rd w w.heap.size 2 B m d (sv r)) (hm : m ≤ 8796093022208) :
    Calls Tryd.prog 31 #[.slice A n c, .slice B m d] w fun e w' => SpOut w w' e (Sn.meetL l r) := by
  obtain ⟨i0, hi0, hz0, hz1, hz2⟩ := info_parts spanE_info
  have h1max : 1 ≤ maxLen := by unfold maxLen; omega
  have hx1 := Sn.tidy_len l
  have hy1 := Sn.tidy_len r
  have HTX := Lib.hid (tidy_any A n c l w hl hR hn)
  have HTY := Lib.hid (fun (V : World) (hb : Below w.heap.size w V) => tidy_any B m d r V hr (hR2.go hb) hm)
  have HMM := Lib.hid (Sn.mtg_meet l r)
  clear hR hl hR2 hr
  generalize Sn.tidy l = X0 at hx1 HTX HMM
  generalize Sn.tidy r = Y0 at hy1 HTY HMM
  go_enter Tryd.func31, Tryd.ntmps31
  have k0 := Below.refl w.heap.size w
  go_wp2_with (first
    | (go_at_call 51; have hbx := hb1; go_must (refine (HTY.out _ hbx).mono ?_); clear hbx; rintro e w2 ⟨A2, c2, rfl, ho2, hb2⟩)
    | (go_at_call 51; go_must (refine HTX.out.mono ?_); rintro e w1 ⟨A1, c1, rfl, ho1, hb1⟩))
  have HX0 := Lib.hid ((Rd.of_own ho1).go hb2)
  have HY0 := Lib.hid (Rd.of_own ho2)
  have HB := Lib.hid (below_then hb1 (Nat.le_refl _) hb2)
  have hs2 := HB.out.size
  clear ho1 hb1 ho2 hb2 k0 HTX HTY
  have hsl : ∀ (A : Option Addr) (n c : Nat), 1 ≤ n → ∀ W, (Instr.slice 35 (.slice A n c) (some (.int .i64 1)) none none).run Tryd.prog W = .ok (.slice (cutAt 2 A c 1) (n - 1) (c - 1)) W := fun A n c h W => run_from W 35 59 2 Tryd.underlying35 (fun _ => by kernel_rfl) A n c .i64 1 1 rfl h
  have HSL := Lib.hid hsl
  clear hsl
  go_loopw [5, 6, 7] (fun v5 v6 v7 wr => ∃ (n5 c5 n6 c6 q c' : Nat) (A5 A6 A' : Option Addr) (X Y u : List Sn.Sp), v5 = .slice A5 n5 c5 ∧ v6 = .slice A6 n6 c6 ∧ v7 = .slice A' q c' ∧ q + n5 + n6 ≤ 256 ∧ Below w2.heap.size w2 wr ∧ Hid (Rd wr w2.heap.size 2 A5 n5 c5 (sv X)) ∧ Hid (Rd wr w2.heap.size 2 A6 n6 c6 (sv Y)) ∧ Hid (X.length = n5) ∧ Hid (Y.length = n6) ∧ Hid (wr.ownsRow w2.heap.size 59 2 (.slice A' q c') q (sv u)) ∧ Hid (u.length = q) ∧ Hid (Sn.meetL l r = u ++ Sn.mtg X Y)) (fun v5 v6 _ _ => slLen v5 + slLen v6)
  case atStart => exact ⟨_, _, _, _, 0, 0, _, _, none, X0, Y0, [], rfl, rfl, rfl, by omega, Below.refl _ _, HX0, HY0, rfl, rfl, World.ownsRow_nil _ _ _ _, rfl, by rw [← HMM.out]; rfl⟩
  case round =>
    obtain ⟨n5, c5, n6, c6, q, c', A5, A6, A', X, Y, u, rfl, rfl, rfl, hq, hb, HX, HY, HXL, HYL, ho, hlen, hr⟩ := hrel
    have hbs := hb.size
    have done : (n5 = 0 ∨ n6 = 0) → Sn.meetL l r = u := fun h => by
      rw [hr.out]
      rcases h with h | h
      · rw [List.eq_nil_of_length_eq_zero (HXL.out.trans h), Sn.mtg_nil, List.append_nil]
      · rw [List.eq_nil_of_length_eq_zero (HYL.out.trans h), Sn.mtg_nil2, List.append_nil]
    by_cases h5 : n5 = 0
    · have HD := Lib.hid (done (.inl h5))
      clear done
      subst h5
      go_wp2
      go_ret
      refine ⟨A', c', by rw [HD.out, hlen.out] <;> rfl, ?_, below_then HB.out (Nat.le_refl _) hb⟩
      rw [HD.out, hlen.out]
      exact own_less ho.out hs2
    · by_cases h6 : n6 = 0
      · have HD := Lib.hid (done (.inr h6))
        clear done
        subst h6
        have h50 : 0 < n5 := by omega
        go_wp2
        go_ret
        refine ⟨A', c', by rw [HD.out, hlen.out] <;> rfl, ?_, below_then HB.out (Nat.le_refl _) hb⟩
        rw [HD.out, hlen.out]
        exact own_less ho.out hs2
      · clear done
        have h50 : 0 < n5 := by omega
        have h60 : 0 < n6 := by omega
        obtain ⟨bx, ox, rfl, hbx, gx0, gx1⟩ := HX.out.stamp HXL.out h50
        obtain ⟨bz, oz, rfl, hbz, gz0, gz1⟩ := HY.out.stamp HYL.out h60
        obtain ⟨⟨s1, s2⟩, X, rfl⟩ : ∃ s X', X = s :: X' := by
          rcases X with _ | ⟨s, X⟩
          · exact absurd HXL.out.symm h5
          · exact ⟨s, X, rfl⟩
        obtain ⟨⟨t1, t2⟩, Y, rfl⟩ : ∃ s X', Y = s :: X' := by
          rcases Y with _ | ⟨s, X⟩
          · exact absurd HYL.out.symm h6
          · exact ⟨s, X, rfl⟩
        simp only [List.getElem_cons_zero, Nat.zero_mul, Nat.add_zero] at gx0 gx1 gz0 gz1
        have hX := fun (V : World) (hv : Below w2.heap.size wr V) => (show V.cell? ⟨bx, ox, none⟩ = some (.int .i64 s1) ∧ V.cell? ⟨bx, ox + 1, none⟩ = some (.int .i64 s2) ∧ V.cell? ⟨bz, oz, none⟩ = some (.int .i64 t1) ∧ V.cell? ⟨bz, oz + 1, none⟩ = some (.int .i64 t2) from
          ⟨(hv.cell (p := ⟨bx, ox, none⟩) hbx).trans gx0, (hv.cell (p := ⟨bx, ox + 1, none⟩) hbx).trans gx1, (hv.cell (p := ⟨bz, oz, none⟩) hbz).trans gz0, (hv.cell (p := ⟨bz, oz + 1, none⟩) hbz).trans gz1⟩)
        have HC := Lib.hid hX
        clear hX gx0 gx1 gz0 gz1
        have k0 := (Below.refl w2.heap.size wr).drew
        have k1 := ((Below.refl w2.heap.size wr).drew).alloc hbs (.cells #[.int .i64 0, .int .i64 0] 59)
        have k2 := (((Below.refl w2.heap.size wr).drew).alloc hbs (.cells #[.int .i64 (max s1 t1), .int .i64 (min s2 t2)] 59))
        go_wp2_with fail
        refine region_nrm fun KK hKK => ?_
        refine wp_region_held_drew (S := (fun V => V.cell? ⟨bx, ox, none⟩ = some (.int .i64 s1) ∧ V.cell? ⟨bx, ox + 1, none⟩ = some (.int .i64 s2) ∧ V.cell? ⟨bz, oz, none⟩ = some (.int .i64 t1) ∧ V.cell? ⟨bz, oz + 1, none⟩ = some (.int .i64 t2))) (by kernel_rfl) (by first | exact HC.out _ k0 | exact HC.out _ k1 | exact HC.out _ k2) (fun hHeld => ?_)
        refine wpAnyH_putD (i := 0) (d := 21) (v := ?_) rfl rfl (by kernel_rfl) (by kernel_rfl) (by kernel_rfl) (fun _ _ _ h => h) (Or.inl ⟨by kernel_rfl, ?_⟩) (by first | exact HC.out _ k0 | exact HC.out _ k1 | exact HC.out _ k2) ?_
        rotate_left
        · (intro w hS; (try dsimp only at hS); go_simp <;> with_reducible rfl)
        try simp only [List.setIfInBounds_toArray, List.set_cons_zero, List.set_cons_succ]
        refine wpAnyH_putD (i := 1) (d := 22) (v := ?_) rfl rfl (by kernel_rfl) (by kernel_rfl) (by kernel_rfl) (fun _ _ _ h => h) (Or.inl ⟨by kernel_rfl, ?_⟩) (by first | exact HC.out _ k0 | exact HC.out _ k1 | exact HC.out _ k2) ?_
        rotate_left
        · (intro w hS; (try dsimp only at hS); go_simp <;> with_reducible rfl)
        try simp only [List.setIfInBounds_toArray, List.set_cons_zero, List.set_cons_succ]
        refine wpAnyH_putD (i := 2) (d := 23) (v := ?_) rfl rfl (by kernel_rfl) (by kernel_rfl) (by kernel_rfl) (fun _ _ _ h => h) (Or.inl ⟨by kernel_rfl, ?_⟩) (by first | exact HC.out _ k0 | exact HC.out _ k1 | exact HC.out _ k2) ?_
        rotate_left
        · (intro w hS; (try dsimp only at hS); go_simp <;> with_reducible rfl)
        try simp only [List.setIfInBounds_toArray, List.set_cons_zero, List.set_cons_succ]
        refine wpAnyH_putD (i := 3) (d := 24) (v := ?_) rfl rfl (by kernel_rfl) (by kernel_rfl) (by kernel_rfl) (fun _ _ _ h => h) (Or.inl ⟨by kernel_rfl, ?_⟩) (by first | exact HC.out _ k0 | exact HC.out _ k1 | exact HC.out _ k2) ?_
        rotate_left
        · (intro w hS; (try dsimp only at hS); go_simp <;> with_reducible rfl)
        try simp only [List.setIfInBounds_toArray, List.set_cons_zero, List.set_cons_succ]
        refine wpAnyH_putD (i := 4) (d := 25) (v := ?_) rfl rfl (by kernel_rfl) (by kernel_rfl) (by kernel_rfl) (fun _ _ _ h => h) (Or.inl ⟨by kernel_rfl, ?_⟩) (by first | exact HC.out _ k0 | exact HC.out _ k1 | exact HC.out _ k2) ?_
        rotate_left
        · (intro w hS; (try dsimp only at hS); go_simp <;> with_reducible rfl)
        try simp only [List.setIfInBounds_toArray, List.set_cons_zero, List.set_cons_succ]
        refine wpAnyH_putD (i := 5) (d := 26) (v := ?_) rfl rfl (by kernel_rfl) (by kernel_rfl) (by kernel_rfl) (fun _ _ _ h => h) (Or.inl ⟨by kernel_rfl, ?_⟩) (by first | exact HC.out _ k0 | exact HC.out _ k1 | exact HC.out _ k2) ?_
        rotate_left
        · (intro w hS; (try dsimp only at hS); go_simp <;> with_reducible rfl)
        try simp only [List.setIfInBounds_toArray, List.set_cons_zero, List.set_cons_succ]
        refine wpAnyH_putD (i := 6) (d := 27) (v := ?_) rfl rfl (by kernel_rfl) (by kernel_rfl) (by kernel_rfl) (fun _ _ _ h => h) (Or.inl ⟨by kernel_rfl, ?_⟩) (by first | exact HC.out _ k0 | exact HC.out _ k1 | exact HC.out _ k2) ?_
        rotate_left
        · (intro w hS; (try dsimp only at hS); go_simp <;> with_reducible rfl)
        try simp only [List.setIfInBounds_toArray, List.set_cons_zero, List.set_cons_succ]
        refine wpAnyH_putD (i := 7) (d := 28) (v := ?_) rfl rfl (by kernel_rfl) (by kernel_rfl) (by kernel_rfl) (fun _ _ _ h => h) (Or.inl ⟨by kernel_rfl, ?_⟩) (by first | exact HC.out _ k0 | exact HC.out _ k1 | exact HC.out _ k2) ?_
        rotate_left
        · (intro w hS; (try dsimp only at hS); go_simp <;> with_reducible rfl)
        try simp only [List.setIfInBounds_toArray, List.set_cons_zero, List.set_cons_succ]
        refine wpAnyH_putD (i := 8) (d := 29) (v := ?_) rfl rfl (by kernel_rfl) (by kernel_rfl) (by kernel_rfl) (fun _ _ _ h => h) (Or.inl ⟨by kernel_rfl, ?_⟩) (by first | exact HC.out _ k0 | exact HC.out _ k1 | exact HC.out _ k2) ?_
        rotate_left
        · (intro w hS; (try dsimp only at hS); go_simp <;> with_reducible rfl)
        try simp only [List.setIfInBounds_toArray, List.set_cons_zero, List.set_cons_succ]
        refine wpAnyH_putD (i := 9) (d := 30) (v := ?_) rfl rfl (by kernel_rfl) (by kernel_rfl) (by kernel_rfl) (fun _ _ _ h => h) (Or.inl ⟨by kernel_rfl, ?_⟩) (by first | exact HC.out _ k0 | exact HC.out _ k1 | exact HC.out _ k2) ?_
        rotate_left
        · (intro w hS; (try dsimp only at hS); go_simp <;> with_reducible rfl)
        try simp only [List.setIfInBounds_toArray, List.set_cons_zero, List.set_cons_succ]
        refine wpAnyH_putD (i := 10) (d := 31) (v := ?_) rfl rfl (by kernel_rfl) (by kernel_rfl) (by kernel_rfl) (fun _ _ _ h => h) (Or.inl ⟨by kernel_rfl, ?_⟩) (by first | exact HC.out _ k0 | exact HC.out _ k1 | exact HC.out _ k2) ?_
        rotate_left
        · (intro w hS; (try dsimp only at hS); go_simp <;> with_reducible rfl)
        try simp only [List.setIfInBounds_toArray, List.set_cons_zero, List.set_cons_succ]
        refine wpAnyH_putD (i := 11) (d := 32) (v := ?_) rfl rfl (by kernel_rfl) (by kernel_rfl) (by kernel_rfl) (fun _ _ _ h => h) (Or.inl ⟨by kernel_rfl, ?_⟩) (by first | exact HC.out _ k0 | exact HC.out _ k1 | exact HC.out _ k2) ?_
        rotate_left
        · (intro w hS; (try dsimp only at hS); go_simp <;> with_reducible rfl)
        try simp only [List.setIfInBounds_toArray, List.set_cons_zero, List.set_cons_succ]
        refine wpAnyH_putD (i := 12) (d := 33) (v := ?_) rfl rfl (by kernel_rfl) (by kernel_rfl) (by kernel_rfl) (fun _ _ _ h => h) (Or.inl ⟨by kernel_rfl, ?_⟩) (by first | exact HC.out _ k0 | exact HC.out _ k1 | exact HC.out _ k2) ?_
        rotate_left
        · (intro w hS; (try dsimp only at hS); go_simp <;> with_reducible rfl)
        try simp only [List.setIfInBounds_toArray, List.set_cons_zero, List.set_cons_succ]
        refine wpAnyH_putD (i := 13) (d := 34) (v := ?_) rfl rfl (by kernel_rfl) (by kernel_rfl) (by kernel_rfl) (fun _ _ _ h => h) (Or.inl ⟨by kernel_rfl, ?_⟩) (by first | exact HC.out _ k0 | exact HC.out _ k1 | exact HC.out _ k2) ?_
        rotate_left
        · (intro w hS; (try dsimp only at hS); go_simp <;> with_reducible rfl)
        try simp only [List.setIfInBounds_toArray, List.set_cons_zero, List.set_cons_succ]
        refine wpAnyH_putD (i := 14) (d := 35) (v := ?_) rfl rfl (by kernel_rfl) (by kernel_rfl) (by kernel_rfl) (fun _ _ _ h => h) (Or.inl ⟨by kernel_rfl, ?_⟩) (by first | exact HC.out _ k0 | exact HC.out _ k1 | exact HC.out _ k2) ?_
        rotate_left
        · (intro w hS; (try dsimp only at hS); go_simp <;> with_reducible rfl)
        try simp only [List.setIfInBounds_toArray, List.set_cons_zero, List.set_cons_succ]
        refine wpAnyH_putD (i := 15) (d := 36) (v := ?_) rfl rfl (by kernel_rfl) (by kernel_rfl) (by kernel_rfl) (fun _ _ _ h => h) (Or.inl ⟨by kernel_rfl, ?_⟩) (by first | exact HC.out _ k0 | exact HC.out _ k1 | exact HC.out _ k2) ?_
        rotate_left
        · (intro w hS; (try dsimp only at hS); go_simp <;> with_reducible rfl)
        try simp only [List.setIfInBounds_toArray, List.set_cons_zero, List.set_cons_succ]
        refine wpAnyH_putD (i := 16) (d := 37) (v := ?_) rfl rfl (by kernel_rfl) (by kernel_rfl) (by kernel_rfl) (fun _ _ _ h => h) (Or.inl ⟨by kernel_rfl, ?_⟩) (by first | exact HC.out _ k0 | exact HC.out _ k1 | exact HC.out _ k2) ?_
        rotate_left
        · (intro w hS; (try dsimp only at hS); go_simp <;> with_reducible rfl)
        try simp only [List.setIfInBounds_toArray, List.set_cons_zero, List.set_cons_succ]
        refine wpAnyH_putD (i := 17) (d := 38) (v := ?_) rfl rfl (by kernel_rfl) (by kernel_rfl) (by kernel_rfl) (fun _ _ _ h => h) (Or.inl ⟨by kernel_rfl, ?_⟩) (by first | exact HC.out _ k0 | exact HC.out _ k1 | exact HC.out _ k2) ?_
        rotate_left
        · (intro w hS; (try dsimp only at hS); go_simp <;> with_reducible rfl)
        try simp only [List.setIfInBounds_toArray, List.set_cons_zero, List.set_cons_succ]
        refine wpAnyH_putD (i := 18) (d := 39) (v := ?_) rfl rfl (by kernel_rfl) (by kernel_rfl) (by kernel_rfl) (fun _ _ _ h => h) (Or.inl ⟨by kernel_rfl, ?_⟩) (by first | exact HC.out _ k0 | exact HC.out _ k1 | exact HC.out _ k2) ?_
        rotate_left
        · (intro w hS; (try dsimp only at hS); go_simp <;> with_reducible rfl)
        try simp only [List.setIfInBounds_toArray, List.set_cons_zero, List.set_cons_succ]
        refine wpAnyH_ready (rs := [19]) (by kernel_rfl) (by simp) ?_
        refine AllReadyH.cons rfl (fun K hK => ?_) AllReadyH.nil
        go_simp
        refine hK.out _ _ (by first | exact HC.out _ k0 | exact HC.out _ k1 | exact HC.out _ k2) (fun hHeld => ?_)
        clear hK K
        refine wpAnyH_ready (rs := [20]) (by kernel_rfl) (by simp) ?_
        refine AllReadyH.cons rfl (fun K hK => ?_) AllReadyH.nil
        go_simp
        refine hK.out _ _ (by first | exact HC.out _ k0 | exact HC.out _ k1 | exact HC.out _ k2) (fun hHeld => ?_)
        clear hK K
        refine wpAnyH_done (by kernel_rfl) ?_ _
        refine Nrm.out (hKK _ _ ?_)
        have q5 := HSL.out (some ⟨bx, ox, none⟩) n5 c5 h50
        have q6 := HSL.out (some ⟨bz, oz, none⟩) n6 c6 h60
        have k3 := (((Below.refl w2.heap.size wr).alloc hbs (.cells #[.int .i64 (max s1 t1), .int .i64 (min s2 t2)] 59)).drew)
        have h63 : q + 1 ≤ maxLen := by unfold maxLen; omega
        clear k0 k1 k2
        by_cases hc : max s1 t1 ≤ min s2 t2
        · have HBO := Lib.hid (show Sn.bothS (s1, s2) (t1, t2) = [(max s1 t1, min s2 t2)] by unfold Sn.bothS; exact if_pos hc)
          have hRn : Rd ((wr.alloc (.cells #[.int .i64 (max s1 t1), .int .i64 (min s2 t2)] 59)).drew.alloc (.cells #[.int .i64 (max s1 t1), .int .i64 (min s2 t2)] 59)) (wr.heap.size + 1 + 1) 2 (some ⟨wr.heap.size + 1, 0, none⟩) 1 1 [.int .i64 (max s1 t1), .int .i64 (min s2 t2)] := by
            have := Rd.new (wr.alloc (.cells #[.int .i64 (max s1 t1), .int .i64 (min s2 t2)] 59)).drew 59 2 1 #[.int .i64 (max s1 t1), .int .i64 (min s2 t2)] rfl h1max
            rwa [show (wr.alloc (.cells #[.int .i64 (max s1 t1), .int .i64 (min s2 t2)] 59)).drew.heap.size = wr.heap.size + 1 from World.size_alloc _ _] at this
          have HRN := Lib.hid hRn
          have k4 := k3.alloc (by show w2.heap.size ≤ (wr.alloc _).heap.size; simp; omega) (.cells #[.int .i64 (max s1 t1), .int .i64 (min s2 t2)] 59)
          clear hRn
          go_wp2_with (at_builtin; go_must (refine wpList_append_rd _ rfl (.tmp 45) (.tmp 47) _ rfl w2.heap.size 59 i0 _ 2 16 Tryd.underlying35 hi0 hz0 hz1 hz2 rfl (by decide) (.slice A' q c') q _ rfl (World.ownsRow.alloc (show (wr.alloc _).drew.ownsRow _ _ _ _ _ _ from ho.out.alloc _) _) _ (some ⟨_, 0, none⟩) 1 1 [.int .i64 (max s1 t1), .int .i64 (min s2 t2)] rfl HRN.out (by intro u hu; simp at hu; rcases hu with rfl | rfl <;> rfl) h63 (by omega) (by simp; omega) ?_); intro A3 c3 w3 ho3 hg3 hat3)
          have kb3 := k4.trans (grown_below hg3 (by simp; omega) (fun j hj => own_lt ho.out j hj))
          obtain ⟨g0, g1, g2, g3⟩ := HC.out _ kb3
          replace ho3 : w3.ownsRow w2.heap.size 59 2 (.slice A3 (q + 1) c3) (q + 1) (sv (u ++ [(max s1 t1, min s2 t2)])) := by rw [sv_app]; exact ho3
          clear hg3 hat3 k4 k3
          go_quiet (fail)
          by_cases hd : s2 < t2
          · have HM := Lib.hid (show Sn.mtg ((s1, s2) :: X) ((t1, t2) :: Y) = Sn.bothS (s1, s2) (t1, t2) ++ Sn.mtg X ((t1, t2) :: Y) by rw [Sn.mtg_step, if_pos hd])
            go_wp2_with fail
            go_roundw
            case rel =>
              refine ⟨n5 - 1, c5 - 1, n6, c6, q + 1, c3, cutAt 2 (some ⟨bx, ox, none⟩) c5 1, some ⟨bz, oz, none⟩, A3, X, ((t1, t2) :: Y), (u ++ [(max s1 t1, min s2 t2)]), rfl, rfl, rfl, by omega, below_drewN (hb.trans (kb3)) _, ?_, ?_, ?_, ?_, ?_, ?_, ?_⟩
              · exact Rd.drewN ((HX.out.from_ (k := 1) h50).below (kb3)) _
              · exact Rd.drewN (HY.out.below (kb3)) _
              · show _ = _; rw [← HXL.out]; rfl
              · exact HYL.out
              · exact own_drewN ho3 _
              · show _ = _
                rw [List.length_append, hlen.out]; rfl
              · show _ = _
                rw [hr.out, HM.out, HBO.out, List.append_assoc]
            case measure => simp [slLen]; omega
          · have HM := Lib.hid (show Sn.mtg ((s1, s2) :: X) ((t1, t2) :: Y) = Sn.bothS (s1, s2) (t1, t2) ++ Sn.mtg ((s1, s2) :: X) Y by rw [Sn.mtg_step, if_neg hd])
            go_wp2_with fail
            go_roundw
            case rel =>
              refine ⟨n5, c5, n6 - 1, c6 - 1, q + 1, c3, some ⟨bx, ox, none⟩, cutAt 2 (some ⟨bz, oz, none⟩) c6 1, A3, ((s1, s2) :: X), Y, (u ++ [(max s1 t1, min s2 t2)]), rfl, rfl, rfl, by omega, below_drewN (hb.trans (kb3)) _, ?_, ?_, ?_, ?_, ?_, ?_, ?_⟩
              · exact Rd.drewN (HX.out.below (kb3)) _
              · exact Rd.drewN ((HY.out.from_ (k := 1) h60).below (kb3)) _
              · exact HXL.out
              · show _ = _; rw [← HYL.out]; rfl
              · exact own_drewN ho3 _
              · show _ = _
                rw [List.length_append, hlen.out]; rfl
              · show _ = _
                rw [hr.out, HM.out, HBO.out, List.append_assoc]
            case measure => simp [slLen]; omega
        · have HBO := Lib.hid (show Sn.bothS (s1, s2) (t1, t2) = [] by unfold Sn.bothS; exact if_neg hc)
          have ho4 := own_drew_ (ho.out.alloc (.cells #[.int .i64 (max s1 t1), .int .i64 (min s2 t2)] 59))
          go_wp2
          obtain ⟨w3, hw3⟩ : ∃ w3, w3 = (wr.alloc (.cells #[.int .i64 (max s1 t1), .int .i64 (min s2 t2)] 59)).drew := ⟨_, rfl⟩
          rw [← hw3] at k3 ho4 ⊢
          clear hw3
          obtain ⟨g0, g1, g2, g3⟩ := HC.out _ k3
          go_quiet (fail)
          by_cases hd : s2 < t2
          · have HM := Lib.hid (show Sn.mtg ((s1, s2) :: X) ((t1, t2) :: Y) = Sn.bothS (s1, s2) (t1, t2) ++ Sn.mtg X ((t1, t2) :: Y) by rw [Sn.mtg_step, if_pos hd])
            go_wp2_with fail
            go_roundw
            case rel =>
              refine ⟨n5 - 1, c5 - 1, n6, c6, q, c', cutAt 2 (some ⟨bx, ox, none⟩) c5 1, some ⟨bz, oz, none⟩, A', X, ((t1, t2) :: Y), u, rfl, rfl, rfl, by omega, below_drewN (hb.trans (k3)) _, ?_, ?_, ?_, ?_, ?_, ?_, ?_⟩
              · exact Rd.drewN ((HX.out.from_ (k := 1) h50).below (k3)) _
              · exact Rd.drewN (HY.out.below (k3)) _
              · show _ = _; rw [← HXL.out]; rfl
              · exact HYL.out
              · exact own_drewN ho4 _
              · show _ = _
                exact hlen.out
              · show _ = _
                rw [hr.out, HM.out, HBO.out, List.nil_append]
            case measure => simp [slLen]; omega
          · have HM := Lib.hid (show Sn.mtg ((s1, s2) :: X) ((t1, t2) :: Y) = Sn.bothS (s1, s2) (t1, t2) ++ Sn.mtg ((s1, s2) :: X) Y by rw [Sn.mtg_step, if_neg hd])
            go_wp2_with fail
            go_roundw
            case rel =>
              refine ⟨n5, c5, n6 - 1, c6 - 1, q, c', some ⟨bx, ox, none⟩, cutAt 2 (some ⟨bz, oz, none⟩) c6 1, A', ((s1, s2) :: X), Y, u, rfl, rfl, rfl, by omega, below_drewN (hb.trans (k3)) _, ?_, ?_, ?_, ?_, ?_, ?_, ?_⟩
              · exact Rd.drewN (HX.out.below (k3)) _
              · exact Rd.drewN ((HY.out.from_ (k := 1) h60).below (k3)) _
              · exact HXL.out
              · show _ = _; rw [← HYL.out]; rfl
              · exact own_drewN ho4 _
              · show _ = _
                exact hlen.out
              · show _ = _
                rw [hr.out, HM.out, HBO.out, List.nil_append]
            case measure => simp [slLen]; omega
end Go.Proofs.YtepdcbhapjgijaaDoor
