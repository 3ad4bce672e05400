/- Zones of a call's own; walk over the document's Copy of zones (printed by wip/tools/genTwD.py). -/
import Derived.Test.YticnfjfdeagmaaaGreatDoorTwC
import Derived.Test.YticnfjfdeagmaaaGreatDoorNtD
namespace Go.Proofs.YticnfjfdeagmaaaGreatDoor
open Go.RowKit
set_option maxRecDepth 100000

theorem zone_info : (Tryz.prog.info? 44).map (fun i => (i.zero, i.size, i.bytes)) = some (some (.agg #[.int .i64 0, .int .i64 0, .slice none 0 0]), 3, 40) := by kernel_rfl
/-- Zones of the call's own, each with stamps of the call's own. -/
structure OwnZ (w : World) (base : Nat) (A : Option Addr) (k c : Nat) (L : List (ZV × Zn)) : Prop where
  row : w.ownsRow base 44 3 (.slice A k c) k (zvv L)
  el : ∀ p ∈ L, p.2.2.length = p.1.n ∧ w.ownsRow base 40 2 (.slice p.1.A p.1.n p.1.c) p.1.n (sv p.2.2)
theorem OwnZ.nil (w : World) (base : Nat) : OwnZ w base none 0 0 [] := ⟨World.ownsRow_nil _ _ _ _, by simp⟩
theorem OwnZ.below {w w' : World} {base : Nat} {A : Option Addr} {k c : Nat} {L : List (ZV × Zn)} (h : OwnZ w base A k c L) (hb : Below w.heap.size w w') : OwnZ w' base A k c L :=
  ⟨own_below h.row hb (Nat.le_refl _), fun p hp => ⟨(h.el p hp).1, own_below (h.el p hp).2 hb (Nat.le_refl _)⟩⟩
theorem OwnZ.less {w : World} {base base' : Nat} {A : Option Addr} {k c : Nat} {L : List (ZV × Zn)} (h : OwnZ w base A k c L) (hb : base' ≤ base) : OwnZ w base' A k c L :=
  ⟨own_less h.row hb, fun p hp => ⟨(h.el p hp).1, own_less (h.el p hp).2 hb⟩⟩
theorem OwnZ.push {w w' : World} {base : Nat} {A A' : Option Addr} {k c c' : Nat} {L : List (ZV × Zn)} {p : ZV × Zn} (h : OwnZ w base A k c L) (hp : p.2.2.length = p.1.n ∧ w.ownsRow base 40 2 (.slice p.1.A p.1.n p.1.c) p.1.n (sv p.2.2))
    (hg : w.grownBy w' (Value.slice A k c).ownBlock) (ho : w'.ownsRow base 44 3 (.slice A' (k + 1) c') (k + 1) (zvv L ++ zvl p)) : OwnZ w' base A' (k + 1) c' (L ++ [p]) := by
  refine ⟨by rw [zvv_app]; simpa [zvv] using ho, fun z hz => ?_⟩
  rcases List.mem_append.1 hz with hz | hz
  · exact ⟨(h.el z hz).1, (h.el z hz).2.kept hg (own_two (h.el z hz).2 h.row (by decide))⟩
  · obtain rfl : z = p := by simpa using hz
    exact ⟨hp.1, hp.2.kept hg (own_two hp.2 h.row (by decide))⟩
theorem OwnZ.len {w : World} {base : Nat} {A : Option Addr} {k c : Nat} {L : List (ZV × Zn)} (h : OwnZ w base A k c L) : L.length = k := by
  have := h.row.1
  rw [zvv_len] at this
  omega
theorem OwnZ.rd {w : World} {base : Nat} {A : Option Addr} {k c : Nat} {L : List (ZV × Zn)} (h : OwnZ w base A k c L) : RdZ w w.heap.size A k c L :=
  ⟨h.len, Rd.of_own h.row, fun p hp => ⟨(h.el p hp).1, Rd.of_own (h.el p hp).2⟩⟩
/-- Sizes that a copy bears. -/
structure ZnSz (n : Nat) (L : List (ZV × Zn)) : Prop where
  n : n ≤ 3518437208883
  each : ∀ p ∈ L, p.1.n ≤ 8796093022208

set_option maxHeartbeats 8000000 in
theorem refZonesCopy_any (A : Option Addr) (n c : Nat) (L : List (ZV × Zn)) (w : World) (hR : RdZ w w.heap.size A n c L) (hz : ZnSz n L) :
    Calls Tryz.prog 5 #[.slice A n c] w fun e w' => ∃ A' c' M, e = .returned (.slice A' n c') ∧ OwnZ w' w.heap.size A' n c' M ∧ zns M = zns L ∧ Below w.heap.size w w' := by
  obtain ⟨i0, hi0, hz0, hz1, hz2⟩ := info_parts zone_info
  have hn := hz.n
  have h1max : 1 ≤ maxLen := by unfold maxLen; omega
  have hln := hR.len
  have HL := Lib.hid hln
  have HR := Lib.hid hR
  have HZ := Lib.hid hz.each
  clear hR hln hz
  go_enter Tryz.func5, Tryz.ntmps5
  go_wp2
  go_loopw [3, 4] (fun v3 v4 wr => ∃ (k c' : Nat) (A' : Option Addr), v4 = .int .i64 k ∧ v3 = .slice A' k c' ∧ k ≤ n ∧ Below w.heap.size w wr ∧ Hid (∃ M, OwnZ wr w.heap.size A' k c' M ∧ zns M = (zns L).take k)) (fun _ v4 _ => n - (intOf v4).toNat)
  case atStart => exact ⟨0, 0, none, rfl, rfl, by omega, Below.refl _ _, [], OwnZ.nil _ _, rfl⟩
  case round =>
    obtain ⟨k, c', A', rfl, rfl, hk, hb, hq⟩ := hrel
    obtain ⟨M, hM, hMz⟩ := hq.out
    clear hq
    by_cases hlt : k < n
    · have hkL : k < L.length := by rw [HL.out]; exact hlt
      have hkZ : k < (zns L).length := by rw [zns_len]; exact hkL
      obtain ⟨b, oo, rfl, hab, g0, g1, g2⟩ := HR.out.zone hkL
      obtain ⟨hvl, hRv⟩ := HR.out.each _ (List.getElem_mem hkL)
      have hvz := HZ.out _ (List.getElem_mem hkL)
      have hnx := List.take_succ_eq_append_getElem hkZ
      rw [zns_at L k hkL] at hnx
      generalize L[k] = q at g0 g1 g2 hvl hRv hvz hnx
      obtain ⟨⟨Av, nv, cv⟩, ⟨lo, hi⟩, u⟩ := q
      dsimp only at g0 g1 g2 hvl hRv hvz hnx
      have G := Lib.hid fun (V : World) (hv : Below w.heap.size w V) => vcopy_any Av nv cv (sv u) V (hRv.go hv) (sv_oneCell _) hvz
      have HQ := Lib.hid fun V (hv : Below w.heap.size w V) => (show V.cell? ⟨b, oo + k * 3, none⟩ = some (.int .i64 lo) ∧ V.cell? ⟨b, oo + k * 3 + 1, none⟩ = some (.int .i64 hi) ∧ V.cell? ⟨b, oo + k * 3 + 2, none⟩ = some (.slice Av nv cv) from ⟨(hv.cell (p := ⟨b, oo + k * 3, none⟩) hab).trans g0, (hv.cell (p := ⟨b, oo + k * 3 + 1, none⟩) hab).trans g1, (hv.cell (p := ⟨b, oo + k * 3 + 2, none⟩) hab).trans g2⟩)
      have HNX := Lib.hid hnx
      have HVL := Lib.hid hvl
      have HMZ := Lib.hid hMz
      have HB := Lib.hid hb
      have hbs := hb.size
      have kk : Below w.heap.size w wr.drew := hb.drew
      have CZ := Lib.hid (hM.below ((Below.refl _ wr).drew))
      have h63 : k + 1 ≤ maxLen := by unfold maxLen; omega
      clear hvl hRv hvz hnx hMz hb hab g0 g1 g2 hM hkL hkZ
      go_wp2_with fail
      refine region_nrm fun KK hKK => ?_
      refine wp_region_held_drew (S := (fun V => V.cell? ⟨b, oo + k * 3, none⟩ = some (.int .i64 lo) ∧ V.cell? ⟨b, oo + k * 3 + 1, none⟩ = some (.int .i64 hi) ∧ V.cell? ⟨b, oo + k * 3 + 2, none⟩ = some (.slice Av nv cv))) (by kernel_rfl) (by first | exact HQ.out _ kk) (fun hHeld => ?_)
      refine wpAnyH_putD (i := 0) (d := 11) (v := ?_) rfl rfl (by kernel_rfl) (by kernel_rfl) (by kernel_rfl) (fun _ _ _ h => h) (Or.inl ⟨by kernel_rfl, ?_⟩) (by first | exact HQ.out _ kk) ?_
      rotate_left
      · (intro w hS; (try dsimp only at hS); go_simp <;> with_reducible rfl)
      try simp only [List.setIfInBounds_toArray, List.set_cons_zero, List.set_cons_succ]
      refine wpAnyH_putD (i := 1) (d := 12) (v := ?_) rfl rfl (by kernel_rfl) (by kernel_rfl) (by kernel_rfl) (fun _ _ _ h => h) (Or.inl ⟨by kernel_rfl, ?_⟩) (by first | exact HQ.out _ kk) ?_
      rotate_left
      · (intro w hS; (try dsimp only at hS); go_simp <;> with_reducible rfl)
      try simp only [List.setIfInBounds_toArray, List.set_cons_zero, List.set_cons_succ]
      refine wpAnyH_putD (i := 2) (d := 13) (v := ?_) rfl rfl (by kernel_rfl) (by kernel_rfl) (by kernel_rfl) (fun _ _ _ h => h) (Or.inl ⟨by kernel_rfl, ?_⟩) (by first | exact HQ.out _ kk) ?_
      rotate_left
      · (intro w hS; (try dsimp only at hS); go_simp <;> with_reducible rfl)
      try simp only [List.setIfInBounds_toArray, List.set_cons_zero, List.set_cons_succ]
      refine wpAnyH_putD (i := 3) (d := 14) (v := ?_) rfl rfl (by kernel_rfl) (by kernel_rfl) (by kernel_rfl) (fun _ _ _ h => h) (Or.inl ⟨by kernel_rfl, ?_⟩) (by first | exact HQ.out _ kk) ?_
      rotate_left
      · (intro w hS; (try dsimp only at hS); go_simp <;> with_reducible rfl)
      try simp only [List.setIfInBounds_toArray, List.set_cons_zero, List.set_cons_succ]
      refine wpAnyH_putD (i := 4) (d := 15) (v := ?_) rfl rfl (by kernel_rfl) (by kernel_rfl) (by kernel_rfl) (fun _ _ _ h => h) (Or.inl ⟨by kernel_rfl, ?_⟩) (by first | exact HQ.out _ kk) ?_
      rotate_left
      · (intro w hS; (try dsimp only at hS); go_simp <;> with_reducible rfl)
      try simp only [List.setIfInBounds_toArray, List.set_cons_zero, List.set_cons_succ]
      refine wpAnyH_putD (i := 5) (d := 16) (v := ?_) rfl rfl (by kernel_rfl) (by kernel_rfl) (by kernel_rfl) (fun _ _ _ h => h) (Or.inl ⟨by kernel_rfl, ?_⟩) (by first | exact HQ.out _ kk) ?_
      rotate_left
      · (intro w hS; (try dsimp only at hS); go_simp <;> with_reducible rfl)
      try simp only [List.setIfInBounds_toArray, List.set_cons_zero, List.set_cons_succ]
      refine wpAnyH_putD (i := 6) (d := 17) (v := ?_) rfl rfl (by kernel_rfl) (by kernel_rfl) (by kernel_rfl) (fun _ _ _ h => h) (Or.inl ⟨by kernel_rfl, ?_⟩) (by first | exact HQ.out _ kk) ?_
      rotate_left
      · (intro w hS; (try dsimp only at hS); go_simp <;> with_reducible rfl)
      try simp only [List.setIfInBounds_toArray, List.set_cons_zero, List.set_cons_succ]
      refine wpAnyH_putD (i := 7) (d := 18) (v := ?_) rfl rfl (by kernel_rfl) (by kernel_rfl) (by kernel_rfl) (fun _ _ _ h => h) (Or.inl ⟨by kernel_rfl, ?_⟩) (by first | exact HQ.out _ kk) ?_
      rotate_left
      · (intro w hS; (try dsimp only at hS); go_simp <;> with_reducible rfl)
      try simp only [List.setIfInBounds_toArray, List.set_cons_zero, List.set_cons_succ]
      refine wpAnyH_putD (i := 8) (d := 19) (v := ?_) rfl rfl (by kernel_rfl) (by kernel_rfl) (by kernel_rfl) (fun _ _ _ h => h) (Or.inl ⟨by kernel_rfl, ?_⟩) (by first | exact HQ.out _ kk) ?_
      rotate_left
      · (intro w hS; (try dsimp only at hS); go_simp <;> with_reducible rfl)
      try simp only [List.setIfInBounds_toArray, List.set_cons_zero, List.set_cons_succ]
      refine wpAnyH_putD (i := 9) (d := 20) (v := ?_) rfl rfl (by kernel_rfl) (by kernel_rfl) (by kernel_rfl) (fun _ _ _ h => h) (Or.inl ⟨by kernel_rfl, ?_⟩) (by first | exact HQ.out _ kk) ?_
      rotate_left
      · (intro w hS; (try dsimp only at hS); go_simp <;> with_reducible rfl)
      try simp only [List.setIfInBounds_toArray, List.set_cons_zero, List.set_cons_succ]
      refine wpAnyH_putD (i := 10) (d := 21) (v := ?_) rfl rfl (by kernel_rfl) (by kernel_rfl) (by kernel_rfl) (fun _ _ _ h => h) (Or.inl ⟨by kernel_rfl, ?_⟩) (by first | exact HQ.out _ kk) ?_
      rotate_left
      · (intro w hS; (try dsimp only at hS); go_simp <;> with_reducible rfl)
      try simp only [List.setIfInBounds_toArray, List.set_cons_zero, List.set_cons_succ]
      refine wpAnyH_ready (rs := [11]) (by kernel_rfl) (by simp) ?_
      refine AllReadyH.cons rfl (fun K hK => ?_) AllReadyH.nil
      go_simp
      refine (G.out _ kk).mono ?_
      rintro e W1 ⟨Ac, cc, rfl, ho, hb'⟩
      have CV := Lib.hid (own_less ho (show w.heap.size ≤ _ from by have := kk.size; omega))
      have CZ := Lib.hid (CZ.out.below hb')
      have kk := below_then kk (Nat.le_refl _) hb'
      clear ho hb'
      refine hK.out _ _ (by first | exact HQ.out _ kk) (fun hHeld => ?_)
      clear hK K
      refine wpAnyH_putD (i := 12) (d := 23) (v := ?_) rfl rfl (by kernel_rfl) (by kernel_rfl) (by kernel_rfl) (fun _ _ _ h => h) (Or.inl ⟨by kernel_rfl, ?_⟩) (by first | exact HQ.out _ kk) ?_
      rotate_left
      · (intro w hS; (try dsimp only at hS); go_simp <;> with_reducible rfl)
      try simp only [List.setIfInBounds_toArray, List.set_cons_zero, List.set_cons_succ]
      refine wpAnyH_ready (rs := [13]) (by kernel_rfl) (by simp) ?_
      refine AllReadyH.cons rfl (fun K hK => ?_) AllReadyH.nil
      go_simp
      have hb' := then_alloc kk (.cells #[.int .i64 lo, .int .i64 hi, .slice Ac nv cc] 44)
      have CV := Lib.hid (own_below CV.out hb' (Nat.le_refl _))
      have CZ := Lib.hid (CZ.out.below hb')
      have HRN := Lib.hid (Rd.new W1 44 3 1 #[.int .i64 lo, .int .i64 hi, .slice Ac nv cc] rfl h1max)
      have kk := below_then kk (Nat.le_refl _) hb'
      clear hb'
      refine hK.out _ _ (by first | exact HQ.out _ kk) (fun hHeld => ?_)
      clear hK K
      refine wpAnyH_ready (rs := [14]) (by kernel_rfl) (by simp) ?_
      refine AllReadyH.cons rfl (fun K hK => ?_) AllReadyH.nil
      rw [if_pos (by kernel_rfl)]
      have CZ0 := CZ
      refine wp_append_rd _ (.tmp 11) (.tmp 24) _ rfl w.heap.size 44 i0 _ 3 40 Tryz.underlying22 hi0 hz0 hz1 hz2 rfl (by decide) (.slice A' k c') k _ rfl CZ.out.row _ (some ⟨_, 0, none⟩) 1 1 _ rfl HRN.out (zvl_oneCell (⟨Ac, nv, cc⟩, (lo, hi), u)) h63 (by omega) (by have := kk.size; omega) ?_
      intro A3 c3 W3 ho3 hg3 hat3
      have CZ := Lib.hid (OwnZ.push (p := (⟨Ac, nv, cc⟩, (lo, hi), u)) CZ.out ⟨HVL.out, CV.out⟩ hg3 ho3)
      have kk := kk.trans (grown_below hg3 kk.size (fun g hg' => own_lt CZ0.out.row g hg'))
      refine hK.out _ _ (by first | exact HQ.out _ kk) (fun hHeld => ?_)
      clear hK K
      refine wpAnyH_putD (i := 15) (d := 3) (v := ?_) rfl rfl (by kernel_rfl) (by kernel_rfl) (by kernel_rfl) (fun _ _ _ h => h) (Or.inl ⟨by kernel_rfl, ?_⟩) (by first | exact HQ.out _ kk) ?_
      rotate_left
      · (intro w hS; (try dsimp only at hS); go_simp <;> with_reducible rfl)
      try simp only [List.setIfInBounds_toArray, List.set_cons_zero, List.set_cons_succ]
      refine wpAnyH_done (by kernel_rfl) ?_ _
      refine Nrm.out (hKK _ _ ?_)
      go_wp2
      go_roundw
      case rel => exact ⟨k + 1, c3, A3, by go_num, rfl, by omega, kk, _, CZ.out, by rw [zns_app, HMZ.out, HNX.out]; rfl⟩
      case measure => simp [intOf]; omega
    · obtain rfl : k = n := by omega
      have HN := Lib.hid (show zns M = zns L by rw [hMz, List.take_of_length_le (by rw [zns_len, HL.out]; exact Nat.le_refl _)])
      clear hMz
      go_wp2
      go_ret
      exact ⟨A', c', M, rfl, hM, HN.out, hb⟩
end Go.Proofs.YticnfjfdeagmaaaGreatDoor
