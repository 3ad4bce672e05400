/- Walk over the document's Set as bytes (printed by wip/tools/genWrF.py). -/
import Derived.Test.YtndlcimckfndiaaDoorWrE
namespace Go.Proofs.YtndlcimckfndiaaDoor
open Go.RowKit
set_option maxRecDepth 100000

/-- Two rows of the call's own, the one made behind the other. -/
theorem own_apart {w : World} {base size n : Nat} {e : TypeId} {v v' : Value} {xs : List Value} (h : w.ownsRow base e size v n xs) (hlt : ∀ k, v'.ownBlock = some k → k < base) : v.ownBlock = none ∨ v.ownBlock ≠ v'.ownBlock := by
  rcases hv : v.ownBlock with _ | k
  · exact .inl rfl
  · refine .inr fun e => ?_
    have h1 := (h.lt k hv).1
    have h2 := hlt k e.symm
    omega

set_option maxHeartbeats 8000000 in
theorem refSetBytes_any (D : Option Addr) (m d : Nat) (sp : List Sn.Sp) (w : World) (hl2 : sp.length = m) (hR2 : Rd w w.heap.size 2 D m d (sv sp)) (hf : Sn.fmS (-2) sp = true) :
    Calls Tryd.prog 20 #[.slice D m d] w fun e w' => ∃ v, e = .returned v ∧ BytesAre w.heap.size w (Wq.lS sp) v w' := by
  obtain ⟨i0, hi0, hz0, hz1, hz2⟩ := info_parts u8_info
  have hm := Sn.fmS_128 hf
  rw [hl2] at hm
  have HU := Lib.hid (Wq.fmS_u63 hf)
  have HL2 := Lib.hid hl2
  have G1 := Lib.hid (refBytes_any m w (by omega))
  obtain ⟨n2, hn2⟩ : ∃ n2, n2 = (Pk.lay m).length := ⟨_, rfl⟩
  have hn9 : n2 ≤ 9 := by rw [hn2]; exact Pk.lay_len9 (by omega)
  rw [← hn2] at G1
  have HN2 := Lib.hid hn2
  clear hl2 hf hn2
  go_enter Tryd.func20, Tryd.ntmps20
  go_wp2_with fail
  refine G1.out.mono ?_
  rintro e w1 ⟨A2, c2, rfl, ho2, hb1⟩
  clear G1
  go_wp2_with fail
  go_loopw [3, 4] (fun v6 v19 wr => ∃ (k N c' : Nat) (A' : Option Addr), v19 = .int .i64 k ∧ v6 = .slice A' N c' ∧ k ≤ m ∧ N ≤ n2 + 18 * k ∧ wr.ownsRow w.heap.size 5 1 (.slice A' N c') N (bv (Pk.lay m ++ Wq.lP (sp.take k))) ∧ Below w.heap.size w wr ∧
    Hid ((Pk.lay m ++ Wq.lP (sp.take k)).length = N)) (fun _ v19 _ => m - (intOf v19).toNat)
  case atStart => exact ⟨0, n2, c2, A2, rfl, rfl, by omega, by omega, by simpa [Wq.lP] using ho2, hb1, by show _ = _; simp [Wq.lP, HN2.out]⟩
  case round =>
    obtain ⟨k, N, c', A', rfl, rfl, hk, hN, ho, hb, hq⟩ := hrel
    by_cases hlt : k < m
    · have hks : k < sp.length := by rw [HL2.out]; exact hlt
      obtain ⟨b, o, rfl, hab, g0, g1⟩ := hR2.stamp HL2.out hlt
      have HT := Lib.hid (lS_take sp k hks)
      have HUk := Lib.hid (HU.out _ (List.getElem_mem hks))
      generalize (sp[k]'hks).1 = lo at g0 HT HUk
      generalize (sp[k]'hks).2 = hi at g1 HT HUk
      obtain ⟨x, hx⟩ : ∃ x : Nat, lo = (x : Int) := ⟨lo.toNat, by have := HUk.out.1.1; omega⟩
      obtain ⟨y, hy⟩ : ∃ y : Nat, hi = (y : Int) := ⟨hi.toNat, by have := HUk.out.2.1; omega⟩
      subst hx hy
      have hx9 := u63_len HUk.out.1
      have hy9 := u63_len HUk.out.2
      rw [Int.toNat_natCast] at hx9 hy9
      have G2 := Lib.hid fun W => refBytes_any x W (by have := HUk.out.1.2; omega)
      have G3 := Lib.hid fun W => refBytes_any y W (by have := HUk.out.2.2; omega)
      obtain ⟨lx, hlx⟩ : ∃ lx, lx = (Pk.lay x).length := ⟨_, rfl⟩
      obtain ⟨ly, hly⟩ : ∃ ly, ly = (Pk.lay y).length := ⟨_, rfl⟩
      rw [← hlx] at G2 hx9
      rw [← hly] at G3 hy9
      have HLX := Lib.hid hlx
      have HLY := Lib.hid hly
      have HS := Lib.hid fun W (hb : Below w.heap.size w W) => (show (W.cell? ⟨b, o + k * 2, none⟩ = some (.int .i64 (x : Int)) ∧ W.cell? ⟨b, o + k * 2 + 1, none⟩ = some (.int .i64 (y : Int))) from
        ⟨(hb.cell (p := ⟨b, o + k * 2, none⟩) hab).trans g0, (hb.cell (p := ⟨b, o + k * 2 + 1, none⟩) hab).trans g1⟩)
      obtain ⟨l2, hl2⟩ : ∃ l2, l2 = Pk.lay m ++ Wq.lP (sp.take k) := ⟨_, rfl⟩
      rw [← hl2] at ho hq
      have HL := Lib.hid hl2
      have E := Lib.hid (show wr.drew.ownsRow w.heap.size 5 1 (.slice A' N c') N (bv l2) from ho)
      have kw : Below w.heap.size w wr.drew := hb.drew
      have h63 : N + lx ≤ maxLen := by unfold maxLen; omega
      have h63b : N + lx + ly ≤ maxLen := by unfold maxLen; omega
      clear ho hb hlx hly hks g0 g1 hl2 hR2
      go_wp2_with fail
      refine region_nrm fun KK hKK => ?_
      refine wp_region_held_drew (S := (fun W => W.cell? ⟨b, o + k * 2, none⟩ = some (.int .i64 (x : Int)) ∧ W.cell? ⟨b, o + k * 2 + 1, none⟩ = some (.int .i64 (y : Int)))) (by kernel_rfl) (by first | exact HS.out _ kw) (fun hHeld => ?_)
      refine wpAnyH_putD (i := 0) (d := 14) (v := ?_) rfl rfl (by kernel_rfl) (by kernel_rfl) (by kernel_rfl) (fun _ _ _ h => h) (Or.inl ⟨by kernel_rfl, ?_⟩) (by first | exact HS.out _ kw) ?_
      rotate_left
      · (intro w hS; (try dsimp only at hS); go_simp <;> with_reducible rfl)
      try simp only [List.setIfInBounds_toArray, List.set_cons_zero, List.set_cons_succ]
      refine wpAnyH_putD (i := 1) (d := 15) (v := ?_) rfl rfl (by kernel_rfl) (by kernel_rfl) (by kernel_rfl) (fun _ _ _ h => h) (Or.inl ⟨by kernel_rfl, ?_⟩) (by first | exact HS.out _ kw) ?_
      rotate_left
      · (intro w hS; (try dsimp only at hS); go_simp <;> with_reducible rfl)
      try simp only [List.setIfInBounds_toArray, List.set_cons_zero, List.set_cons_succ]
      refine wpAnyH_putD (i := 2) (d := 16) (v := ?_) rfl rfl (by kernel_rfl) (by kernel_rfl) (by kernel_rfl) (fun _ _ _ h => h) (Or.inl ⟨by kernel_rfl, ?_⟩) (by first | exact HS.out _ kw) ?_
      rotate_left
      · (intro w hS; (try dsimp only at hS); go_simp <;> with_reducible rfl)
      try simp only [List.setIfInBounds_toArray, List.set_cons_zero, List.set_cons_succ]
      refine wpAnyH_putD (i := 3) (d := 17) (v := ?_) rfl rfl (by kernel_rfl) (by kernel_rfl) (by kernel_rfl) (fun _ _ _ h => h) (Or.inl ⟨by kernel_rfl, ?_⟩) (by first | exact HS.out _ kw) ?_
      rotate_left
      · (intro w hS; (try dsimp only at hS); go_simp <;> with_reducible rfl)
      try simp only [List.setIfInBounds_toArray, List.set_cons_zero, List.set_cons_succ]
      refine wpAnyH_putD (i := 4) (d := 18) (v := ?_) rfl rfl (by kernel_rfl) (by kernel_rfl) (by kernel_rfl) (fun _ _ _ h => h) (Or.inl ⟨by kernel_rfl, ?_⟩) (by first | exact HS.out _ kw) ?_
      rotate_left
      · (intro w hS; (try dsimp only at hS); go_simp <;> with_reducible rfl)
      try simp only [List.setIfInBounds_toArray, List.set_cons_zero, List.set_cons_succ]
      refine wpAnyH_putD (i := 5) (d := 19) (v := ?_) rfl rfl (by kernel_rfl) (by kernel_rfl) (by kernel_rfl) (fun _ _ _ h => h) (Or.inl ⟨by kernel_rfl, ?_⟩) (by first | exact HS.out _ kw) ?_
      rotate_left
      · (intro w hS; (try dsimp only at hS); go_simp <;> with_reducible rfl)
      try simp only [List.setIfInBounds_toArray, List.set_cons_zero, List.set_cons_succ]
      refine wpAnyH_putD (i := 8) (d := 22) (v := ?_) rfl rfl (by kernel_rfl) (by kernel_rfl) (by kernel_rfl) (fun _ _ _ h => h) (Or.inl ⟨by kernel_rfl, ?_⟩) (by first | exact HS.out _ kw) ?_
      rotate_left
      · (intro w hS; (try dsimp only at hS); go_simp <;> with_reducible rfl)
      try simp only [List.setIfInBounds_toArray, List.set_cons_zero, List.set_cons_succ]
      refine wpAnyH_putD (i := 9) (d := 23) (v := ?_) rfl rfl (by kernel_rfl) (by kernel_rfl) (by kernel_rfl) (fun _ _ _ h => h) (Or.inl ⟨by kernel_rfl, ?_⟩) (by first | exact HS.out _ kw) ?_
      rotate_left
      · (intro w hS; (try dsimp only at hS); go_simp <;> with_reducible rfl)
      try simp only [List.setIfInBounds_toArray, List.set_cons_zero, List.set_cons_succ]
      refine wpAnyH_putD (i := 10) (d := 24) (v := ?_) rfl rfl (by kernel_rfl) (by kernel_rfl) (by kernel_rfl) (fun _ _ _ h => h) (Or.inl ⟨by kernel_rfl, ?_⟩) (by first | exact HS.out _ kw) ?_
      rotate_left
      · (intro w hS; (try dsimp only at hS); go_simp <;> with_reducible rfl)
      try simp only [List.setIfInBounds_toArray, List.set_cons_zero, List.set_cons_succ]
      refine wpAnyH_putD (i := 11) (d := 25) (v := ?_) rfl rfl (by kernel_rfl) (by kernel_rfl) (by kernel_rfl) (fun _ _ _ h => h) (Or.inl ⟨by kernel_rfl, ?_⟩) (by first | exact HS.out _ kw) ?_
      rotate_left
      · (intro w hS; (try dsimp only at hS); go_simp <;> with_reducible rfl)
      try simp only [List.setIfInBounds_toArray, List.set_cons_zero, List.set_cons_succ]
      refine wpAnyH_putD (i := 12) (d := 26) (v := ?_) rfl rfl (by kernel_rfl) (by kernel_rfl) (by kernel_rfl) (fun _ _ _ h => h) (Or.inl ⟨by kernel_rfl, ?_⟩) (by first | exact HS.out _ kw) ?_
      rotate_left
      · (intro w hS; (try dsimp only at hS); go_simp <;> with_reducible rfl)
      try simp only [List.setIfInBounds_toArray, List.set_cons_zero, List.set_cons_succ]
      refine wpAnyH_ready (rs := [6]) (by kernel_rfl) (by simp) ?_
      refine AllReadyH.cons rfl (fun K hK => ?_) AllReadyH.nil
      go_simp
      refine (G2.out _).mono ?_
      rintro e W1 ⟨D1, d1, rfl, ho1, hb'⟩
      have C := Lib.hid ho1
      have E := Lib.hid (own_below E.out hb' (Nat.le_refl _))
      have kw := below_then kw (Nat.le_refl _) hb'
      clear ho1 hb'
      refine hK.out _ _ (by first | exact HS.out _ kw) (fun hHeld => ?_)
      clear hK K
      refine wpAnyH_ready (rs := [7]) (by kernel_rfl) (by simp) ?_
      refine AllReadyH.cons rfl (fun K hK => ?_) AllReadyH.nil
      rw [if_pos (by kernel_rfl)]
      refine wp_append_rd _ (.tmp 14) (.tmp 20) _ rfl w.heap.size 5 i0 _ 1 1 Tryd.underlying23 hi0 hz0 hz1 hz2 rfl (by decide) _ N (bv l2) rfl E.out _ D1 lx d1 (bv (Pk.lay x)) rfl (Rd.of_own C.out) (bv_oneCell _) h63 (by omega) kw.size ?_
      intro A14 c14 V14 ho hg hat
      have kw := kw.trans (grown_below hg kw.size (fun g hg' => (E.out.lt g hg').1))
      have E := Lib.hid ho
      clear ho hg hat C
      refine hK.out _ _ (by first | exact HS.out _ kw) (fun hHeld => ?_)
      clear hK K
      refine wpAnyH_ready (rs := [13]) (by kernel_rfl) (by simp) ?_
      refine AllReadyH.cons rfl (fun K hK => ?_) AllReadyH.nil
      go_simp
      refine (G3.out _).mono ?_
      rintro e W2 ⟨D2, d2, rfl, ho1, hb'⟩
      have C := Lib.hid ho1
      have E := Lib.hid (own_below E.out hb' (Nat.le_refl _))
      have kw := below_then kw (Nat.le_refl _) hb'
      clear ho1 hb'
      refine hK.out _ _ (by first | exact HS.out _ kw) (fun hHeld => ?_)
      clear hK K
      refine wpAnyH_ready (rs := [14]) (by kernel_rfl) (by simp) ?_
      refine AllReadyH.cons rfl (fun K hK => ?_) AllReadyH.nil
      rw [if_pos (by kernel_rfl)]
      refine wp_append_rd _ (.tmp 21) (.tmp 27) _ rfl w.heap.size 5 i0 _ 1 1 Tryd.underlying23 hi0 hz0 hz1 hz2 rfl (by decide) _ (N + lx) (bv l2 ++ bv (Pk.lay x)) rfl E.out _ D2 ly d2 (bv (Pk.lay y)) rfl (Rd.of_own C.out) (bv_oneCell _) h63b (by omega) kw.size ?_
      intro A21 c21 V21 ho hg hat
      have kw := kw.trans (grown_below hg kw.size (fun g hg' => (E.out.lt g hg').1))
      have E := Lib.hid ho
      clear ho hg hat C
      refine hK.out _ _ (by first | exact HS.out _ kw) (fun hHeld => ?_)
      clear hK K
      refine wpAnyH_putD (i := 15) (d := 3) (v := ?_) rfl rfl (by kernel_rfl) (by kernel_rfl) (by kernel_rfl) (fun _ _ _ h => h) (Or.inl ⟨by kernel_rfl, ?_⟩) (by first | exact HS.out _ kw) ?_
      rotate_left
      · (intro w hS; (try dsimp only at hS); go_simp <;> with_reducible rfl)
      try simp only [List.setIfInBounds_toArray, List.set_cons_zero, List.set_cons_succ]
      refine wpAnyH_done (by kernel_rfl) ?_ _
      refine Nrm.out (hKK _ _ ?_)
      go_wp2
      go_roundw
      case rel =>
        have e3 : Pk.lay m ++ Wq.lP (sp.take (k + 1)) = l2 ++ Pk.lay x ++ Pk.lay y := by rw [HT.out, HL.out]; simp [layAll]
        refine ⟨k + 1, N + lx + ly, c21, A21, by go_num, rfl, by omega, by omega, ?_, kw, ?_⟩
        · rw [e3, bv_app, bv_app]; exact E.out
        · show _ = _
          rw [e3, List.length_append, List.length_append, hq.out, HLX.out, HLY.out]
      case measure => simp [intOf]; omega
    · obtain rfl : k = m := by omega
      have HO := Lib.hid ho
      clear hR2 ho
      go_wp2
      go_ret
      have e0 : sp.take k = sp := List.take_of_length_le (by rw [HL2.out]; exact Nat.le_refl _)
      have q1 := hq.out
      have q3 := HO.out
      rw [e0] at q1 q3
      have e2 : Pk.lay k ++ Wq.lP sp = Wq.lS sp := by unfold Wq.lS; rw [HL2.out]
      rw [e2] at q1 q3
      exact ⟨_, rfl, A', c', by rw [q1]; rfl, by rw [q1]; exact q3, hb⟩
end Go.Proofs.YtndlcimckfndiaaDoor