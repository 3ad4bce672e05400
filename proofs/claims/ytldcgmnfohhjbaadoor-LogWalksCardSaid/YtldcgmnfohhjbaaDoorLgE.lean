/- Walks over slices.Clone at notes, spans, writes; invlog.ownNote; the document's All of notes, Same of logs (printed by wip/tools/genLgE.py). -/
import Derived.Test.YtldcgmnfohhjbaaDoorLgD
namespace Go.Proofs.YtldcgmnfohhjbaaDoor
open Go.RowKit
set_option maxRecDepth 100000

theorem noteE_info : (Tryd.prog.info? 32).map (fun i => (i.zero, i.size, i.bytes)) = some (some (.agg #[.slice none 0 0, .slice none 0 0, .slice none 0 0, .slice none 0 0]), 4, 96) := by kernel_rfl
theorem spanE_info : (Tryd.prog.info? 85).map (fun i => (i.zero, i.size, i.bytes)) = some (some (.agg #[.int .i64 0, .int .i64 0]), 2, 16) := by kernel_rfl
theorem nvv_oneCell (L : List (NV × Nt)) : ∀ u ∈ nvv L, u.oneCell' = true := by
  intro u hu
  simp only [nvv, List.mem_flatMap] at hu
  obtain ⟨p, _, hp⟩ := hu
  simp only [List.mem_cons, List.not_mem_nil, or_false] at hp
  rcases hp with h | h | h | h <;> subst h <;> rfl

/-- slices.Clone. -/
theorem cloneSp_any (A : Option Addr) (n c : Nat) (xs : List Value) (w : World) (hR : Rd w w.heap.size 2 A n c xs) (h1 : ∀ u ∈ xs, u.oneCell' = true) (hn : n ≤ 8796093022208) :
    Calls Tryd.prog 83 #[.slice A n c] w fun e w' => ∃ A' c', e = .returned (.slice A' n c') ∧ w'.ownsRow w.heap.size 85 2 (.slice A' n c') n xs ∧ Below w.heap.size w w' := by
  have hmax := hR.max
  have hcap := hR.cap
  rcases A with _ | ad
  · have hc0 := hR.nil rfl
    obtain rfl : n = 0 := by omega
    subst hc0
    have hx : xs = [] := List.eq_nil_of_length_eq_zero (by simpa using hR.len)
    subst hx
    have ht := fun W => Lib.run_eql_slice_nil (P := Tryd.prog) W 29 85 none 0 0 0 0 Tryd.underlying29
    clear hR h1
    go_enter Tryd.func83, Tryd.ntmps83
    go_wp2
    go_ret
    exact ⟨none, 0, rfl, World.ownsRow_nil _ _ _ _, Below.refl _ _⟩
  · have ht := fun W => Lib.run_eql_slice_nil (P := Tryd.prog) W 29 85 (some ad) n c 0 0 Tryd.underlying29
    obtain ⟨i0, hi0, hz0, hz1, hz2⟩ := info_parts spanE_info
    have h63 : 0 + n ≤ maxLen := by omega
    go_enter Tryd.func83, Tryd.ntmps83
    go_wp2_with (at_builtin; go_must (refine wpList_append_rd _ rfl (.tmp 5) (.tmp 6) _ rfl w.heap.size 85 i0 _ 2 16 Tryd.underlying29 hi0 hz0 hz1 hz2 rfl (by decide) (.slice (some ⟨w.heap.size, 0, none⟩) 0 0) 0 [] rfl (own_empty w _ _) w.heap.size (some ad) n c xs rfl (hR.alloc (Nat.le_refl _) _) h1 h63 (by omega) (by simp) ?_); intro A' c' w1 hown hg hat)
    go_ret
    exact ⟨A', c', rfl, by simpa using hown, ((Below.refl _ _).alloc (Nat.le_refl _) _).trans (grown_below hg (by simp) (by simp [Value.ownBlock]))⟩

/-- slices.Clone. -/
theorem cloneWr_any (A : Option Addr) (n c : Nat) (xs : List Value) (w : World) (hR : Rd w w.heap.size 4 A n c xs) (h1 : ∀ u ∈ xs, u.oneCell' = true) (hn : n ≤ 4398046511104) :
    Calls Tryd.prog 84 #[.slice A n c] w fun e w' => ∃ A' c', e = .returned (.slice A' n c') ∧ w'.ownsRow w.heap.size 26 4 (.slice A' n c') n xs ∧ Below w.heap.size w w' := by
  have hmax := hR.max
  have hcap := hR.cap
  rcases A with _ | ad
  · have hc0 := hR.nil rfl
    obtain rfl : n = 0 := by omega
    subst hc0
    have hx : xs = [] := List.eq_nil_of_length_eq_zero (by simpa using hR.len)
    subst hx
    have ht := fun W => Lib.run_eql_slice_nil (P := Tryd.prog) W 30 26 none 0 0 0 0 Tryd.underlying30
    clear hR h1
    go_enter Tryd.func84, Tryd.ntmps84
    go_wp2
    go_ret
    exact ⟨none, 0, rfl, World.ownsRow_nil _ _ _ _, Below.refl _ _⟩
  · have ht := fun W => Lib.run_eql_slice_nil (P := Tryd.prog) W 30 26 (some ad) n c 0 0 Tryd.underlying30
    obtain ⟨i0, hi0, hz0, hz1, hz2⟩ := info_parts writes_info
    have h63 : 0 + n ≤ maxLen := by omega
    go_enter Tryd.func84, Tryd.ntmps84
    go_wp2_with (at_builtin; go_must (refine wpList_append_rd _ rfl (.tmp 5) (.tmp 6) _ rfl w.heap.size 26 i0 _ 4 32 Tryd.underlying30 hi0 hz0 hz1 hz2 rfl (by decide) (.slice (some ⟨w.heap.size, 0, none⟩) 0 0) 0 [] rfl (own_empty w _ _) w.heap.size (some ad) n c xs rfl (hR.alloc (Nat.le_refl _) _) h1 h63 (by omega) (by simp) ?_); intro A' c' w1 hown hg hat)
    go_ret
    exact ⟨A', c', rfl, by simpa using hown, ((Below.refl _ _).alloc (Nat.le_refl _) _).trans (grown_below hg (by simp) (by simp [Value.ownBlock]))⟩

/-- slices.Clone. -/
theorem cloneNt_any (A : Option Addr) (n c : Nat) (xs : List Value) (w : World) (hR : Rd w w.heap.size 4 A n c xs) (h1 : ∀ u ∈ xs, u.oneCell' = true) (hn : n ≤ 1466015503701) :
    Calls Tryd.prog 82 #[.slice A n c] w fun e w' => ∃ A' c', e = .returned (.slice A' n c') ∧ w'.ownsRow w.heap.size 32 4 (.slice A' n c') n xs ∧ Below w.heap.size w w' := by
  have hmax := hR.max
  have hcap := hR.cap
  rcases A with _ | ad
  · have hc0 := hR.nil rfl
    obtain rfl : n = 0 := by omega
    subst hc0
    have hx : xs = [] := List.eq_nil_of_length_eq_zero (by simpa using hR.len)
    subst hx
    have ht := fun W => Lib.run_eql_slice_nil (P := Tryd.prog) W 45 32 none 0 0 0 0 Tryd.underlying45
    clear hR h1
    go_enter Tryd.func82, Tryd.ntmps82
    go_wp2
    go_ret
    exact ⟨none, 0, rfl, World.ownsRow_nil _ _ _ _, Below.refl _ _⟩
  · have ht := fun W => Lib.run_eql_slice_nil (P := Tryd.prog) W 45 32 (some ad) n c 0 0 Tryd.underlying45
    obtain ⟨i0, hi0, hz0, hz1, hz2⟩ := info_parts noteE_info
    have h63 : 0 + n ≤ maxLen := by omega
    go_enter Tryd.func82, Tryd.ntmps82
    go_wp2_with (at_builtin; go_must (refine wpList_append_rd _ rfl (.tmp 5) (.tmp 6) _ rfl w.heap.size 32 i0 _ 4 96 Tryd.underlying45 hi0 hz0 hz1 hz2 rfl (by decide) (.slice (some ⟨w.heap.size, 0, none⟩) 0 0) 0 [] rfl (own_empty w _ _) w.heap.size (some ad) n c xs rfl (hR.alloc (Nat.le_refl _) _) h1 h63 (by omega) (by simp) ?_); intro A' c' w1 hown hg hat)
    go_ret
    exact ⟨A', c', rfl, by simpa using hown, ((Below.refl _ _).alloc (Nat.le_refl _) _).trans (grown_below hg (by simp) (by simp [Value.ownBlock]))⟩

set_option maxHeartbeats 8000000 in
theorem ownNote_own (v : NV) (x : Nt) (w : World) (hN : NtRd w w.heap.size v x) (hs : NtSz v) :
    Calls Tryd.prog 66 #[.agg v.val] w fun e w' => ∃ v' : NV, e = .returned (.agg v'.val) ∧ NtOwn w' w.heap.size v' x ∧ Below w.heap.size w w' := by
  obtain ⟨hzz, hi⟩ := zero_of_info notes_zero
  have HI := Lib.hid hi
  obtain ⟨A1, n1, c1, A2, n2, c2, A3, n3, c3, A4, n4, c4⟩ := v
  obtain ⟨s1, s2, s3, s4⟩ := hs
  dsimp only at s1 s2 s3 s4
  have hb1 : Below w.heap.size w (w.alloc (.cells #[.slice A1 n1 c1, .slice A2 n2 c2, .slice A3 n3 c3, .slice A4 n4 c4] 32)) := (Below.refl _ _).alloc (Nat.le_refl _) _
  have hb0 : Below w.heap.size w ((w.alloc (.cells #[.slice A1 n1 c1, .slice A2 n2 c2, .slice A3 n3 c3, .slice A4 n4 c4] 32)).alloc (.cells #[.slice none 0 0, .slice none 0 0, .slice none 0 0, .slice none 0 0] 32)) := hb1.alloc hb1.size _
  have hB1 := (Blk.new w 32 #[.slice A1 n1 c1, .slice A2 n2 c2, .slice A3 n3 c3, .slice A4 n4 c4]).alloc (.cells #[.slice none 0 0, .slice none 0 0, .slice none 0 0, .slice none 0 0] 32)
  have hB2 := Blk.new (w.alloc (.cells #[.slice A1 n1 c1, .slice A2 n2 c2, .slice A3 n3 c3, .slice A4 n4 c4] 32)) 32 #[.slice none 0 0, .slice none 0 0, .slice none 0 0, .slice none 0 0]
  rw [World.size_alloc] at hB2
  obtain ⟨w0, hw0⟩ : ∃ w0, w0 = (w.alloc (.cells #[.slice A1 n1 c1, .slice A2 n2 c2, .slice A3 n3 c3, .slice A4 n4 c4] 32)).alloc (.cells #[.slice none 0 0, .slice none 0 0, .slice none 0 0, .slice none 0 0] 32) := ⟨_, rfl⟩
  rw [← hw0] at hb0 hB1 hB2
  obtain ⟨l1, m1, l2, m2, l3, m3, l4, m4⟩ := hN.go hb0
  dsimp only at l1 m1 l2 m2 l3 m3 l4 m4
  have hsz : w.heap.size + 1 < w0.heap.size := hB2.lt
  have HS := Lib.hid fun W (hb : Below w0.heap.size w0 W) => (show (W.cell? ⟨w.heap.size, 0, none⟩ = some (.slice A1 n1 c1) ∧ W.cell? ⟨w.heap.size, 1, none⟩ = some (.slice A2 n2 c2) ∧ W.cell? ⟨w.heap.size, 2, none⟩ = some (.slice A3 n3 c3) ∧ W.cell? ⟨w.heap.size, 3, none⟩ = some (.slice A4 n4 c4)) from
    ⟨(hB1.go hb).cell 0, (hB1.go hb).cell 1, (hB1.go hb).cell 2, (hB1.go hb).cell 3⟩)
  have HS9 := Lib.hid fun W (hb : Below w0.heap.size w0 W) W' (hg : W.grownBy W' (some (w.heap.size + 1))) => (show (W'.cell? ⟨w.heap.size, 0, none⟩ = some (.slice A1 n1 c1) ∧ W'.cell? ⟨w.heap.size, 1, none⟩ = some (.slice A2 n2 c2) ∧ W'.cell? ⟨w.heap.size, 2, none⟩ = some (.slice A3 n3 c3) ∧ W'.cell? ⟨w.heap.size, 3, none⟩ = some (.slice A4 n4 c4)) from
    ⟨((hB1.go hb).grown hg (by simp)).cell 0, ((hB1.go hb).grown hg (by simp)).cell 1, ((hB1.go hb).grown hg (by simp)).cell 2, ((hB1.go hb).grown hg (by simp)).cell 3⟩)
  have HB2 := Lib.hid fun W (hb : Below w0.heap.size w0 W) => hB2.go hb
  have H1 := Lib.hid fun (W : World) (hb : Below w0.heap.size w0 W) => cloneSt_any A1 n1 c1 (sv x.s) W (m1.go hb) (sv_oneCell _) s1
  have H2 := Lib.hid fun (W : World) (hb : Below w0.heap.size w0 W) => cloneSt_any A2 n2 c2 (sv x.e) W (m2.go hb) (sv_oneCell _) s2
  have H3 := Lib.hid fun (W : World) (hb : Below w0.heap.size w0 W) => cloneSp_any A3 n3 c3 (sv x.b) W (m3.go hb) (sv_oneCell _) s3
  have H4 := Lib.hid fun (W : World) (hb : Below w0.heap.size w0 W) => cloneWr_any A4 n4 c4 (wv x.w) W (m4.go hb) (wv_oneCell _) s4
  have L1 := Lib.hid l1
  have L2 := Lib.hid l2
  have L3 := Lib.hid l3
  have L4 := Lib.hid l4
  have HW := Lib.hid hw0.symm
  have HB0 := Lib.hid hb0
  have k : Below w0.heap.size w0 w0.drew := (Below.refl _ w0).drew
  clear hN l1 m1 l2 m2 l3 m3 l4 m4 hB1 hB2 hw0 hb1 hb0 hi
  go_enter Tryd.func66, Tryd.ntmps66
  go_wp2_with fail
  rw [HW.out]
  refine region_nrm fun KK hKK => ?_
  refine wp_region_held_drew (S := (fun W => W.cell? ⟨w.heap.size, 0, none⟩ = some (.slice A1 n1 c1) ∧ W.cell? ⟨w.heap.size, 1, none⟩ = some (.slice A2 n2 c2) ∧ W.cell? ⟨w.heap.size, 2, none⟩ = some (.slice A3 n3 c3) ∧ W.cell? ⟨w.heap.size, 3, none⟩ = some (.slice A4 n4 c4))) (by kernel_rfl) (by first | exact HS.out _ k | exact hS9) (fun hHeld => ?_)
  refine wpAnyH_putD (i := 0) (d := 3) (v := ?_) rfl rfl (by kernel_rfl) (by kernel_rfl) (by kernel_rfl) (fun _ _ _ h => h) (Or.inl ⟨by kernel_rfl, ?_⟩) (by first | exact HS.out _ k | exact hS9) ?_
  rotate_left
  · (intro w hS; (try dsimp only at hS); go_simp <;> with_reducible rfl)
  try simp only [List.setIfInBounds_toArray, List.set_cons_zero, List.set_cons_succ]
  refine wpAnyH_putD (i := 1) (d := 4) (v := ?_) rfl rfl (by kernel_rfl) (by kernel_rfl) (by kernel_rfl) (fun _ _ _ h => h) (Or.inl ⟨by kernel_rfl, ?_⟩) (by first | exact HS.out _ k | exact hS9) ?_
  rotate_left
  · (intro w hS; (try dsimp only at hS); go_simp <;> with_reducible rfl)
  try simp only [List.setIfInBounds_toArray, List.set_cons_zero, List.set_cons_succ]
  refine wpAnyH_putD (i := 3) (d := 6) (v := ?_) rfl rfl (by kernel_rfl) (by kernel_rfl) (by kernel_rfl) (fun _ _ _ h => h) (Or.inl ⟨by kernel_rfl, ?_⟩) (by first | exact HS.out _ k | exact hS9) ?_
  rotate_left
  · (intro w hS; (try dsimp only at hS); go_simp <;> with_reducible rfl)
  try simp only [List.setIfInBounds_toArray, List.set_cons_zero, List.set_cons_succ]
  refine wpAnyH_putD (i := 4) (d := 7) (v := ?_) rfl rfl (by kernel_rfl) (by kernel_rfl) (by kernel_rfl) (fun _ _ _ h => h) (Or.inl ⟨by kernel_rfl, ?_⟩) (by first | exact HS.out _ k | exact hS9) ?_
  rotate_left
  · (intro w hS; (try dsimp only at hS); go_simp <;> with_reducible rfl)
  try simp only [List.setIfInBounds_toArray, List.set_cons_zero, List.set_cons_succ]
  refine wpAnyH_putD (i := 6) (d := 9) (v := ?_) rfl rfl (by kernel_rfl) (by kernel_rfl) (by kernel_rfl) (fun _ _ _ h => h) (Or.inl ⟨by kernel_rfl, ?_⟩) (by first | exact HS.out _ k | exact hS9) ?_
  rotate_left
  · (intro w hS; (try dsimp only at hS); go_simp <;> with_reducible rfl)
  try simp only [List.setIfInBounds_toArray, List.set_cons_zero, List.set_cons_succ]
  refine wpAnyH_putD (i := 7) (d := 10) (v := ?_) rfl rfl (by kernel_rfl) (by kernel_rfl) (by kernel_rfl) (fun _ _ _ h => h) (Or.inl ⟨by kernel_rfl, ?_⟩) (by first | exact HS.out _ k | exact hS9) ?_
  rotate_left
  · (intro w hS; (try dsimp only at hS); go_simp <;> with_reducible rfl)
  try simp only [List.setIfInBounds_toArray, List.set_cons_zero, List.set_cons_succ]
  refine wpAnyH_putD (i := 9) (d := 12) (v := ?_) rfl rfl (by kernel_rfl) (by kernel_rfl) (by kernel_rfl) (fun _ _ _ h => h) (Or.inl ⟨by kernel_rfl, ?_⟩) (by first | exact HS.out _ k | exact hS9) ?_
  rotate_left
  · (intro w hS; (try dsimp only at hS); go_simp <;> with_reducible rfl)
  try simp only [List.setIfInBounds_toArray, List.set_cons_zero, List.set_cons_succ]
  refine wpAnyH_putD (i := 10) (d := 13) (v := ?_) rfl rfl (by kernel_rfl) (by kernel_rfl) (by kernel_rfl) (fun _ _ _ h => h) (Or.inl ⟨by kernel_rfl, ?_⟩) (by first | exact HS.out _ k | exact hS9) ?_
  rotate_left
  · (intro w hS; (try dsimp only at hS); go_simp <;> with_reducible rfl)
  try simp only [List.setIfInBounds_toArray, List.set_cons_zero, List.set_cons_succ]
  refine wpAnyH_ready (rs := [2]) (by kernel_rfl) (by simp) ?_
  refine AllReadyH.cons rfl (fun K hK => ?_) AllReadyH.nil
  go_simp
  refine (H1.out _ k).mono ?_
  rintro e W ⟨D1, d1, rfl, ho, hb'⟩
  have C1 := Lib.hid (own_less ho k.size)
  have k := below_then k (Nat.le_refl _) hb'
  clear ho hb'
  refine hK.out _ _ (by first | exact HS.out _ k | exact hS9) (fun hHeld => ?_)
  clear hK K
  refine wpAnyH_ready (rs := [5]) (by kernel_rfl) (by simp) ?_
  refine AllReadyH.cons rfl (fun K hK => ?_) AllReadyH.nil
  go_simp
  refine (H2.out _ k).mono ?_
  rintro e W ⟨D2, d2, rfl, ho, hb'⟩
  have C2 := Lib.hid (own_less ho k.size)
  have k := below_then k (Nat.le_refl _) hb'
  have C1 := Lib.hid (own_below C1.out hb' (Nat.le_refl _))
  clear ho hb'
  refine hK.out _ _ (by first | exact HS.out _ k | exact hS9) (fun hHeld => ?_)
  clear hK K
  refine wpAnyH_ready (rs := [8]) (by kernel_rfl) (by simp) ?_
  refine AllReadyH.cons rfl (fun K hK => ?_) AllReadyH.nil
  go_simp
  refine (H3.out _ k).mono ?_
  rintro e W ⟨D3, d3, rfl, ho, hb'⟩
  have C3 := Lib.hid (own_less ho k.size)
  have k := below_then k (Nat.le_refl _) hb'
  have C1 := Lib.hid (own_below C1.out hb' (Nat.le_refl _))
  have C2 := Lib.hid (own_below C2.out hb' (Nat.le_refl _))
  clear ho hb'
  refine hK.out _ _ (by first | exact HS.out _ k | exact hS9) (fun hHeld => ?_)
  clear hK K
  refine wpAnyH_ready (rs := [11]) (by kernel_rfl) (by simp) ?_
  refine AllReadyH.cons rfl (fun K hK => ?_) AllReadyH.nil
  go_simp
  refine (H4.out _ k).mono ?_
  rintro e W ⟨D4, d4, rfl, ho, hb'⟩
  have C4 := Lib.hid (own_less ho k.size)
  have k := below_then k (Nat.le_refl _) hb'
  have C1 := Lib.hid (own_below C1.out hb' (Nat.le_refl _))
  have C2 := Lib.hid (own_below C2.out hb' (Nat.le_refl _))
  have C3 := Lib.hid (own_below C3.out hb' (Nat.le_refl _))
  clear ho hb'
  refine hK.out _ _ (by first | exact HS.out _ k | exact hS9) (fun hHeld => ?_)
  clear hK K
  refine wpAnyH_putD (i := 12) (d := 15) (v := ?_) rfl rfl (by kernel_rfl) (by kernel_rfl) (by kernel_rfl) (fun _ _ _ h => h) (Or.inl ⟨by kernel_rfl, ?_⟩) (by first | exact HS.out _ k | exact hS9) ?_
  rotate_left
  · (intro w hS; (try dsimp only at hS); go_simp <;> with_reducible rfl)
  try simp only [List.setIfInBounds_toArray, List.set_cons_zero, List.set_cons_succ]
  refine wpAnyH_ready (rs := [13]) (by kernel_rfl) (by simp) ?_
  refine AllReadyH.cons rfl (fun K hK => ?_) AllReadyH.nil
  rw [if_pos (by kernel_rfl)]
  refine wp_store_blk 32 (.tmp 2) (.tmp 15) rfl (w.heap.size + 1) 32 _ #[.slice D1 n1 d1, .slice D2 n2 d2, .slice D3 n3 d3, .slice D4 n4 d4] rfl rfl (HB2.out _ k) HI.out rfl (by simp [Value.oneCell']) ?_
  intro W hblk hg
  have hS9 := HS9.out _ k _ hg
  have kw := (HB0.out.trans (k.mono HB0.out.size)).trans (grown_below hg (Nat.le_trans HB0.out.size k.size) (fun g hg' => by cases hg'; exact Nat.le_succ _))
  have C1 := Lib.hid (C1.out.kept hg (own_ne C1.out hsz))
  have C2 := Lib.hid (C2.out.kept hg (own_ne C2.out hsz))
  have C3 := Lib.hid (C3.out.kept hg (own_ne C3.out hsz))
  have C4 := Lib.hid (C4.out.kept hg (own_ne C4.out hsz))
  clear hg k
  refine hK.out _ _ (by first | exact HS.out _ k | exact hS9) (fun hHeld => ?_)
  clear hK K
  refine wpAnyH_done (by kernel_rfl) ?_ _
  refine Nrm.out (hKK _ _ ?_)
  go_wp2
  refine bodyPost_ret (results_cell_row rfl _ _ (w.heap.size + 1) 32 _ _ _ rfl hblk Tryd.underlying32 rfl HI.out) rfl ⟨⟨D1, n1, d1, D2, n2, d2, D3, n3, d3, D4, n4, d4⟩, rfl, ⟨L1.out, own_less C1.out HB0.out.size, L2.out, own_less C2.out HB0.out.size, L3.out, own_less C3.out HB0.out.size, L4.out, own_less C4.out HB0.out.size⟩, kw⟩

theorem nts_at (L : List (NV × Nt)) (i : Nat) (h : i < L.length) : (nts L)[i]'(by simpa [nts] using h) = L[i].2 := by simp [nts]
theorem nts_len (L : List (NV × Nt)) : (nts L).length = L.length := by simp [nts]
def allSame (L M : List Nt) : Bool := decide (L.length = M.length) && (L.zip M).all fun p => ntSame p.1 p.2
def allFrom (L M : List Nt) (k : Nat) : Bool := ((L.drop k).zip (M.drop k)).all fun p => ntSame p.1 p.2
theorem allFrom_next {L M : List Nt} {k : Nat} (h1 : k < L.length) (h2 : k < M.length) : allFrom L M k = (ntSame L[k] M[k] && allFrom L M (k + 1)) := by
  unfold allFrom
  rw [List.drop_eq_getElem_cons h1, List.drop_eq_getElem_cons h2]; rfl
theorem allFrom_end {L M : List Nt} {k : Nat} (h1 : L.length ≤ k) : allFrom L M k = true := by
  unfold allFrom
  rw [List.drop_of_length_le h1]; rfl
theorem allSame_self (L : List Nt) : allSame L L = true := by
  unfold allSame
  rw [decide_eq_true rfl, Bool.true_and, List.all_eq_true]
  intro p hp
  obtain ⟨i, hi, e⟩ := List.getElem_of_mem hp
  rw [← e, List.getElem_zip]
  exact ntSame_self _

set_option maxHeartbeats 8000000 in
theorem refAllNt_any (A D : Option Addr) (n c m d : Nat) (L M : List (NV × Nt)) (w : World) (hR : RdNs w w.heap.size A n c L) (hR2 : RdNs w w.heap.size D m d M) :
    Calls Tryd.prog 64 #[.slice A n c, .slice D m d] w fun e w' => e = .returned (.bool (allSame (nts L) (nts M))) ∧ Below w.heap.size w w' := by
  have hmax : n ≤ 9223372036854775807 := by have h1 := hR.rd.cap; have h2 := hR.rd.max; unfold maxLen at h2; omega
  have hl : L.length = n := hR.len
  have hl2 : M.length = m := hR2.len
  by_cases hnm : n = m
  · subst hnm
    have HE := Lib.hid (show allSame (nts L) (nts M) = allFrom (nts L) (nts M) 0 by unfold allSame; rw [nts_len, nts_len, hl, hl2, decide_eq_true rfl]; rfl)
    have HL := Lib.hid hl
    have HL2 := Lib.hid hl2
    have HR := Lib.hid hR
    have HR2 := Lib.hid hR2
    clear hl hl2 hR hR2
    go_enter Tryd.func64, Tryd.ntmps64
    go_wp2
    go_loopw [5] (fun i wr => ∃ (k : Nat), k ≤ n ∧ i = .int .i64 k ∧ Hid (allSame (nts L) (nts M) = allFrom (nts L) (nts M) k) ∧ Below w.heap.size w wr) (fun i _ => n - (intOf i).toNat)
    case atStart => exact ⟨0, by omega, rfl, HE.out, Below.refl _ _⟩
    case round =>
      obtain ⟨i, hi, rfl, hq, hb⟩ := hrel
      by_cases hlt : i < n
      · have hkL : i < L.length := by rw [HL.out]; exact hlt
        have hkM : i < M.length := by rw [HL2.out]; exact hlt
        obtain ⟨bb, o, rfl, hab, g0, g1, g2, g3⟩ := (HR.out.go hb).note hkL
        obtain ⟨bb2, o2, rfl, hab2, p0, p1, p2, p3⟩ := (HR2.out.go hb).note hkM
        have hrd := (HR.out.go hb).each _ (List.getElem_mem hkL)
        have hrd2 := (HR2.out.go hb).each _ (List.getElem_mem hkM)
        have hnx := allFrom_next (L := nts L) (M := nts M) (k := i) (by rw [nts_len]; exact hkL) (by rw [nts_len]; exact hkM)
        rw [nts_at L i hkL, nts_at M i hkM, ← hq.out] at hnx
        generalize L[i] = p at g0 g1 g2 g3 hrd hnx
        generalize M[i] = q at p0 p1 p2 p3 hrd2 hnx
        obtain ⟨⟨A1, n1, c1, A2, n2, c2, A3, n3, c3, A4, n4, c4⟩, x⟩ := p
        obtain ⟨⟨D1, m1, d1, D2, m2, d2, D3, m3, d3, D4, m4, d4⟩, y⟩ := q
        dsimp only at g0 g1 g2 g3 hrd hnx p0 p1 p2 p3 hrd2
        have HQ := Lib.hid fun V (hv : Below wr.heap.size wr V) => (show (V.cell? ⟨bb, o + i * 4, none⟩ = some (.slice A1 n1 c1) ∧ V.cell? ⟨bb, o + i * 4 + 1, none⟩ = some (.slice A2 n2 c2) ∧ V.cell? ⟨bb, o + i * 4 + 2, none⟩ = some (.slice A3 n3 c3) ∧ V.cell? ⟨bb, o + i * 4 + 3, none⟩ = some (.slice A4 n4 c4)) ∧ (V.cell? ⟨bb2, o2 + i * 4, none⟩ = some (.slice D1 m1 d1) ∧ V.cell? ⟨bb2, o2 + i * 4 + 1, none⟩ = some (.slice D2 m2 d2) ∧ V.cell? ⟨bb2, o2 + i * 4 + 2, none⟩ = some (.slice D3 m3 d3) ∧ V.cell? ⟨bb2, o2 + i * 4 + 3, none⟩ = some (.slice D4 m4 d4)) from
          ⟨⟨(hv.cell (p := ⟨bb, o + i * 4, none⟩) hab).trans g0, (hv.cell (p := ⟨bb, o + i * 4 + 1, none⟩) hab).trans g1, (hv.cell (p := ⟨bb, o + i * 4 + 2, none⟩) hab).trans g2, (hv.cell (p := ⟨bb, o + i * 4 + 3, none⟩) hab).trans g3⟩, ⟨(hv.cell (p := ⟨bb2, o2 + i * 4, none⟩) hab2).trans p0, (hv.cell (p := ⟨bb2, o2 + i * 4 + 1, none⟩) hab2).trans p1, (hv.cell (p := ⟨bb2, o2 + i * 4 + 2, none⟩) hab2).trans p2, (hv.cell (p := ⟨bb2, o2 + i * 4 + 3, none⟩) hab2).trans p3⟩⟩)
        have F := Lib.hid fun V (hv : Below wr.heap.size wr V) => refNtSame_any ⟨A1, n1, c1, A2, n2, c2, A3, n3, c3, A4, n4, c4⟩ ⟨D1, m1, d1, D2, m2, d2, D3, m3, d3, D4, m4, d4⟩ x y V (hrd.go hv) (hrd2.go hv)
        have HNX := Lib.hid hnx
        have HB := Lib.hid hb
        have k : Below wr.heap.size wr wr.drew := (Below.refl _ wr).drew
        clear hrd hrd2 hnx g0 g1 g2 g3 p0 p1 p2 p3 hkL hkM hb
        go_wp2_with fail
        refine region_nrm fun KK hKK => ?_
        refine wp_region_held_drew (S := (fun V => (V.cell? ⟨bb, o + i * 4, none⟩ = some (.slice A1 n1 c1) ∧ V.cell? ⟨bb, o + i * 4 + 1, none⟩ = some (.slice A2 n2 c2) ∧ V.cell? ⟨bb, o + i * 4 + 2, none⟩ = some (.slice A3 n3 c3) ∧ V.cell? ⟨bb, o + i * 4 + 3, none⟩ = some (.slice A4 n4 c4)) ∧ (V.cell? ⟨bb2, o2 + i * 4, none⟩ = some (.slice D1 m1 d1) ∧ V.cell? ⟨bb2, o2 + i * 4 + 1, none⟩ = some (.slice D2 m2 d2) ∧ V.cell? ⟨bb2, o2 + i * 4 + 2, none⟩ = some (.slice D3 m3 d3) ∧ V.cell? ⟨bb2, o2 + i * 4 + 3, none⟩ = some (.slice D4 m4 d4)))) (by kernel_rfl) (by first | exact HQ.out _ k) (fun hHeld => ?_)
        refine wpAnyH_putD (i := 0) (d := 17) (v := ?_) rfl rfl (by kernel_rfl) (by kernel_rfl) (by kernel_rfl) (fun _ _ _ h => h) (Or.inl ⟨by kernel_rfl, ?_⟩) (by first | exact HQ.out _ k) ?_
        rotate_left
        · (intro w hS; (try dsimp only at hS); go_simp <;> with_reducible rfl)
        try simp only [List.setIfInBounds_toArray, List.set_cons_zero, List.set_cons_succ]
        refine wpAnyH_putD (i := 1) (d := 18) (v := ?_) rfl rfl (by kernel_rfl) (by kernel_rfl) (by kernel_rfl) (fun _ _ _ h => h) (Or.inl ⟨by kernel_rfl, ?_⟩) (by first | exact HQ.out _ k) ?_
        rotate_left
        · (intro w hS; (try dsimp only at hS); go_simp <;> with_reducible rfl)
        try simp only [List.setIfInBounds_toArray, List.set_cons_zero, List.set_cons_succ]
        refine wpAnyH_putD (i := 2) (d := 19) (v := ?_) rfl rfl (by kernel_rfl) (by kernel_rfl) (by kernel_rfl) (fun _ _ _ h => h) (Or.inl ⟨by kernel_rfl, ?_⟩) (by first | exact HQ.out _ k) ?_
        rotate_left
        · (intro w hS; (try dsimp only at hS); go_simp <;> with_reducible rfl)
        try simp only [List.setIfInBounds_toArray, List.set_cons_zero, List.set_cons_succ]
        refine wpAnyH_putD (i := 3) (d := 20) (v := ?_) rfl rfl (by kernel_rfl) (by kernel_rfl) (by kernel_rfl) (fun _ _ _ h => h) (Or.inl ⟨by kernel_rfl, ?_⟩) (by first | exact HQ.out _ k) ?_
        rotate_left
        · (intro w hS; (try dsimp only at hS); go_simp <;> with_reducible rfl)
        try simp only [List.setIfInBounds_toArray, List.set_cons_zero, List.set_cons_succ]
        refine wpAnyH_putD (i := 4) (d := 21) (v := ?_) rfl rfl (by kernel_rfl) (by kernel_rfl) (by kernel_rfl) (fun _ _ _ h => h) (Or.inl ⟨by kernel_rfl, ?_⟩) (by first | exact HQ.out _ k) ?_
        rotate_left
        · (intro w hS; (try dsimp only at hS); go_simp <;> with_reducible rfl)
        try simp only [List.setIfInBounds_toArray, List.set_cons_zero, List.set_cons_succ]
        refine wpAnyH_putD (i := 5) (d := 22) (v := ?_) rfl rfl (by kernel_rfl) (by kernel_rfl) (by kernel_rfl) (fun _ _ _ h => h) (Or.inl ⟨by kernel_rfl, ?_⟩) (by first | exact HQ.out _ k) ?_
        rotate_left
        · (intro w hS; (try dsimp only at hS); go_simp <;> with_reducible rfl)
        try simp only [List.setIfInBounds_toArray, List.set_cons_zero, List.set_cons_succ]
        refine wpAnyH_putD (i := 6) (d := 23) (v := ?_) rfl rfl (by kernel_rfl) (by kernel_rfl) (by kernel_rfl) (fun _ _ _ h => h) (Or.inl ⟨by kernel_rfl, ?_⟩) (by first | exact HQ.out _ k) ?_
        rotate_left
        · (intro w hS; (try dsimp only at hS); go_simp <;> with_reducible rfl)
        try simp only [List.setIfInBounds_toArray, List.set_cons_zero, List.set_cons_succ]
        refine wpAnyH_putD (i := 7) (d := 24) (v := ?_) rfl rfl (by kernel_rfl) (by kernel_rfl) (by kernel_rfl) (fun _ _ _ h => h) (Or.inl ⟨by kernel_rfl, ?_⟩) (by first | exact HQ.out _ k) ?_
        rotate_left
        · (intro w hS; (try dsimp only at hS); go_simp <;> with_reducible rfl)
        try simp only [List.setIfInBounds_toArray, List.set_cons_zero, List.set_cons_succ]
        refine wpAnyH_ready (rs := [8]) (by kernel_rfl) (by simp) ?_
        refine AllReadyH.cons rfl (fun K hK => ?_) AllReadyH.nil
        go_simp
        refine (F.out _ k).mono ?_
        rintro e W ⟨rfl, hb'⟩
        have k := below_then k (Nat.le_refl _) hb'
        clear hb'
        refine hK.out _ _ (by first | exact HQ.out _ k) (fun hHeld => ?_)
        clear hK K
        refine wpAnyH_putD (i := 9) (d := 26) (v := ?_) rfl rfl (by kernel_rfl) (by kernel_rfl) (by kernel_rfl) (fun _ _ _ h => h) (Or.inl ⟨by kernel_rfl, ?_⟩) (by first | exact HQ.out _ k) ?_
        rotate_left
        · (intro w hS; (try dsimp only at hS); go_simp <;> with_reducible rfl)
        try simp only [List.setIfInBounds_toArray, List.set_cons_zero, List.set_cons_succ]
        refine wpAnyH_done (by kernel_rfl) ?_ _
        refine Nrm.out (hKK _ _ ?_)
        rcases hz : ntSame x y with _ | _
        · have HN := Lib.hid (show allSame (nts L) (nts M) = false by rw [HNX.out, hz]; rfl)
          clear hz
          go_wp2
          go_ret
          exact ⟨by rw [HN.out]; rfl, below_then HB.out (Nat.le_refl _) k⟩
        · have HN := Lib.hid (show allSame (nts L) (nts M) = allFrom (nts L) (nts M) (i + 1) by rw [HNX.out, hz]; rfl)
          clear hz
          go_wp2
          go_roundw
          case rel => exact ⟨i + 1, by omega, by go_num, HN.out, below_then HB.out (Nat.le_refl _) k⟩
          case measure => simp [intOf]; omega
      · obtain rfl : i = n := by omega
        have HX := Lib.hid (show allSame (nts L) (nts M) = true by rw [hq.out, allFrom_end (by rw [nts_len, HL.out]; exact Nat.le_refl _)])
        clear hq
        go_wp2
        go_ret
        exact ⟨by rw [HX.out]; rfl, hb⟩
  · have HN := Lib.hid (show allSame (nts L) (nts M) = false by unfold allSame; rw [nts_len, nts_len, hl, hl2, decide_eq_false hnm]; rfl)
    have hne : ¬ ((n : Int) = (m : Int)) := by omega
    clear hl hl2 hR hR2
    go_enter Tryd.func64, Tryd.ntmps64
    go_wp2
    all_goals first
      | (exfalso; omega)
      | (go_ret; exact ⟨by rw [HN.out]; rfl, Below.refl _ _⟩)

def lgSame (b b' : List Vc.St) (su su' : Int) (L L' : List Nt) : Bool := decide (b = b') && (decide (su = su') && allSame L L')
theorem lgSame_self (b : List Vc.St) (su : Int) (L : List Nt) : lgSame b b su su L L = true := by unfold lgSame; rw [decide_eq_true rfl, decide_eq_true rfl, allSame_self]; rfl

set_option maxHeartbeats 8000000 in
theorem refLgSame_any (v v' : LV) (b b' : List Vc.St) (L L' : List (NV × Nt)) (su su' : Int) (w : World) (h : LgRd w v b L) (h' : LgRd w v' b' L') :
    Calls Tryd.prog 33 #[.agg (v.val su), .agg (v'.val su')] w fun e w' => e = .returned (.bool (lgSame b b' su su' (nts L) (nts L'))) ∧ Below w.heap.size w w' := by
  obtain ⟨A, n, c, D, m, d⟩ := v
  obtain ⟨A', n', c', D', m', d'⟩ := v'
  have hb1 : Below w.heap.size w (w.alloc (.cells (LV.val ⟨A, n, c, D, m, d⟩ su) 47)) := (Below.refl _ _).alloc (Nat.le_refl _) _
  have hb0 : Below w.heap.size w ((w.alloc (.cells (LV.val ⟨A, n, c, D, m, d⟩ su) 47)).alloc (.cells (LV.val ⟨A', n', c', D', m', d'⟩ su') 47)) := hb1.alloc hb1.size _
  have hB1 := (Blk.new w 47 (LV.val ⟨A, n, c, D, m, d⟩ su)).alloc (.cells (LV.val ⟨A', n', c', D', m', d'⟩ su') 47)
  have hB2 := Blk.new (w.alloc (.cells (LV.val ⟨A, n, c, D, m, d⟩ su) 47)) 47 (LV.val ⟨A', n', c', D', m', d'⟩ su')
  rw [World.size_alloc] at hB2
  obtain ⟨w0, hw0⟩ : ∃ w0, w0 = (w.alloc (.cells (LV.val ⟨A, n, c, D, m, d⟩ su) 47)).alloc (.cells (LV.val ⟨A', n', c', D', m', d'⟩ su') 47) := ⟨_, rfl⟩
  rw [← hw0] at hb0 hB1 hB2
  have H0 := h.go hb0
  have H0' := h'.go hb0
  have HQ := Lib.hid fun W (hb : Below w0.heap.size w0 W) => (show W.cell? ⟨w.heap.size, 0, none⟩ = some (.slice A n c) ∧ W.cell? ⟨w.heap.size, 1, none⟩ = some (.slice D m d) ∧ W.cell? ⟨w.heap.size, 2, none⟩ = some (.int .i64 su) ∧ W.cell? ⟨w.heap.size + 1, 0, none⟩ = some (.slice A' n' c') ∧ W.cell? ⟨w.heap.size + 1, 1, none⟩ = some (.slice D' m' d') ∧ W.cell? ⟨w.heap.size + 1, 2, none⟩ = some (.int .i64 su') from
    ⟨(hB1.go hb).cell 0, (hB1.go hb).cell 1, (hB1.go hb).cell 2, (hB2.go hb).cell 0, (hB2.go hb).cell 1, (hB2.go hb).cell 2⟩)
  have H1 := Lib.hid fun (W : World) (hb : Below w0.heap.size w0 W) => same_any A A' n c n' c' b b' W H0.l1 H0'.l1 (H0.go hb).r1 (H0'.go hb).r1
  have H2 := Lib.hid fun (W : World) (hb : Below w0.heap.size w0 W) => refAllNt_any D D' m d m' d' L L' W (H0.go hb).ns (H0'.go hb).ns
  have hf0 : lgSame b b' su su' (nts L) (nts L') = (decide (b = b') && (decide (su = su') && allSame (nts L) (nts L'))) := rfl
  generalize decide (b = b') = f1 at H1 hf0
  generalize allSame (nts L) (nts L') = f2 at H2 hf0
  have HF := Lib.hid hf0
  have HW := Lib.hid hw0.symm
  have k := Below.refl w0.heap.size w0
  obtain ⟨q0, q1, q2, q3, q4, q5⟩ := HQ.out w0 k
  clear h h' hB1 hB2 hf0 hw0 hb1 H0 H0'
  go_enter Tryd.func33, Tryd.ntmps33
  go_wp2_with fail
  rw [HW.out]
  by_cases hsu : su = su'
  · have hd : decide (su = su') = true := decide_eq_true hsu
    have HF2 := Lib.hid (HF.out.trans (by rw [hd]))
    have HF := HF2
    subst hsu
    clear hd HF2
    cases f1 <;> cases f2
    all_goals
      go_wp2_with (first
        | (go_at_call 15; go_must (with_reducible refine (H1.out _ k).mono ?_); rintro e w' ⟨rfl, hb'⟩; have k := below_then k (Nat.le_refl _) hb'; clear hb'; obtain ⟨q0, q1, q2, q3, q4, q5⟩ := HQ.out _ k)
        | (go_at_call 64; go_must (with_reducible refine (H2.out _ k).mono ?_); rintro e w' ⟨rfl, hb'⟩; have k := below_then k (Nat.le_refl _) hb'; clear hb'; obtain ⟨q0, q1, q2, q3, q4, q5⟩ := HQ.out _ k))
      go_ret
      exact ⟨by rw [HF.out]; rfl, below_then hb0 (Nat.le_refl _) k⟩
  · have hd : decide (su = su') = false := decide_eq_false hsu
    have HF2 := Lib.hid (HF.out.trans (by rw [hd]))
    have HF := HF2
    clear HF2
    cases f1
    all_goals
      go_wp2_with (first
        | (go_at_call 15; go_must (with_reducible refine (H1.out _ k).mono ?_); rintro e w' ⟨rfl, hb'⟩; have k := below_then k (Nat.le_refl _) hb'; clear hb'; obtain ⟨q0, q1, q2, q3, q4, q5⟩ := HQ.out _ k))
      go_ret
      exact ⟨by rw [HF.out]; rfl, below_then hb0 (Nat.le_refl _) k⟩
end Go.Proofs.YtldcgmnfohhjbaaDoor
