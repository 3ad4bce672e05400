/- Logs of the call's own; walks over the document's Copy of logs, invlog.own (printed by wip/tools/genLgF.py). -/
import Derived.Test.YtldcgmnfohhjbaaDoorLgE
import Derived.Deep.DeepCutAuto
namespace Go.Proofs.YtldcgmnfohhjbaaDoor
open Go.RowKit
set_option maxRecDepth 100000

/-- A log whose lists are of the call's own. -/
structure LgOwn (w : World) (base : Nat) (v : LV) (b : List Vc.St) (L : List (NV × Nt)) : Prop where
  l1 : b.length = v.n
  o1 : w.ownsRow base 24 2 (.slice v.A v.n v.c) v.n (sv b)
  len : L.length = v.m
  o2 : w.ownsRow base 32 4 (.slice v.D v.m v.d) v.m (nvv L)
  each : ∀ p ∈ L, NtOwn w base p.1 p.2
theorem LgOwn.rd {w : World} {base : Nat} {v : LV} {b : List Vc.St} {L : List (NV × Nt)} (h : LgOwn w base v b L) : LgRd w v b L := ⟨h.l1, Rd.of_own h.o1, ⟨h.len, Rd.of_own h.o2, fun p hp => (h.each p hp).rd⟩⟩
theorem LgOwn.below {w w' : World} {base : Nat} {v : LV} {b : List Vc.St} {L : List (NV × Nt)} (h : LgOwn w base v b L) (hb : Below w.heap.size w w') : LgOwn w' base v b L :=
  ⟨h.l1, own_below h.o1 hb (Nat.le_refl _), h.len, own_below h.o2 hb (Nat.le_refl _), fun p hp => (h.each p hp).below hb⟩
theorem LgOwn.less {w : World} {base base' : Nat} {v : LV} {b : List Vc.St} {L : List (NV × Nt)} (h : LgOwn w base v b L) (hb : base' ≤ base) : LgOwn w base' v b L :=
  ⟨h.l1, own_less h.o1 hb, h.len, own_less h.o2 hb, fun p hp => (h.each p hp).less hb⟩
theorem LgOwn.far {w w' : World} {base g : Nat} {v : LV} {b : List Vc.St} {L : List (NV × Nt)} (h : LgOwn w base v b L) (hg : w.grownBy w' (some g)) (hlt : g < base) : LgOwn w' base v b L :=
  ⟨h.l1, h.o1.kept hg (own_ne h.o1 hlt), h.len, h.o2.kept hg (own_ne h.o2 hlt), fun p hp => ⟨(h.each p hp).l1, (h.each p hp).o1.kept hg (own_ne (h.each p hp).o1 hlt), (h.each p hp).l2, (h.each p hp).o2.kept hg (own_ne (h.each p hp).o2 hlt), (h.each p hp).l3, (h.each p hp).o3.kept hg (own_ne (h.each p hp).o3 hlt), (h.each p hp).l4, (h.each p hp).o4.kept hg (own_ne (h.each p hp).o4 hlt)⟩⟩
/-- How long a log's lists may be for its copies to fit. -/
structure LgSz (v : LV) (L : List (NV × Nt)) : Prop where
  n1 : v.n ≤ 8796093022208
  m1 : v.m ≤ 1466015503659
  each : ∀ p ∈ L, NtSz p.1
theorem NtSz.of_rd {w w' : World} {B B' : Nat} {v v' : NV} {x : Nt} (h : NtSz v) (h1 : NtRd w B v x) (h2 : NtRd w' B' v' x) : NtSz v' :=
  ⟨by rw [← h2.l1, h1.l1]; exact h.s1, by rw [← h2.l2, h1.l2]; exact h.s2, by rw [← h2.l3, h1.l3]; exact h.s3, by rw [← h2.l4, h1.l4]; exact h.s4⟩
theorem LgSz.of_rd {w w' : World} {v v' : LV} {b : List Vc.St} {L L' : List (NV × Nt)} (h : LgSz v L) (h1 : LgRd w v b L) (h2 : LgRd w' v' b L') (he : nts L' = nts L) : LgSz v' L' := by
  have hlen : L'.length = L.length := by rw [← nts_len, he, nts_len]
  refine ⟨by rw [← h2.l1, h1.l1]; exact h.n1, by rw [← h2.ns.len, hlen, h1.ns.len]; exact h.m1, fun p hp => ?_⟩
  obtain ⟨i, hi, rfl⟩ := List.getElem_of_mem hp
  have hi' : i < L.length := by omega
  have hx : L'[i].2 = L[i].2 := by
    rw [← nts_at L' i hi, ← nts_at L i hi']
    exact List.getElem_of_eq he _
  have r1 := h1.ns.each _ (List.getElem_mem hi')
  have r2 := h2.ns.each _ (List.getElem_mem hi)
  rw [hx] at r2
  exact (h.each _ (List.getElem_mem hi')).of_rd r1 r2

theorem blk_ne {w : World} {g : Nat} {t : TypeId} {cs : Array Value} {base : Nat} {e : TypeId} {size n : Nat} {v : Value} {xs : List Value} (hg : Blk w g t cs) (h : w.ownsRow base e size v n xs) (he : e ≠ t) : some g ≠ v.ownBlock := by
  rcases own_blk h hg he with h | h
  · rw [h]; simp
  · exact fun e => h e.symm
theorem set_grown (w : World) (g i : Nat) (u : Value) : w.grownBy (w.setCell ⟨g, i, none⟩ u) (some g) :=
  ⟨rfl, rfl, rfl, by simp, fun k _ hne => Below.heap_setCell w ⟨g, i, none⟩ u k (by rintro rfl; exact hne rfl)⟩
theorem blkOf {W : World} {t : TypeId} {cs : Array Value} (_ : Below W.heap.size W (W.alloc (.cells cs t))) : Blk (W.alloc (.cells cs t)) W.heap.size t cs := Blk.new W t cs
theorem newRow {W : World} {t : TypeId} {cs : Array Value} (size n : Nat) (_ : Below W.heap.size W (W.alloc (.cells cs t))) (hn : cs.size = n * size) (hm : n ≤ maxLen) : Rd (W.alloc (.cells cs t)) (W.alloc (.cells cs t)).heap.size size (some ⟨W.heap.size, 0, none⟩) n n cs.toList := by
  have := Rd.new W t size n cs hn hm
  rw [World.size_alloc]; exact this
theorem ntv_oneCell (v : NV) : ∀ u ∈ v.val.toList, u.oneCell' = true := by
  intro u hu
  simp only [List.mem_cons, List.not_mem_nil, or_false] at hu
  rcases hu with h | h | h | h <;> subst h <;> rfl
theorem nvv_snoc (M : List (NV × Nt)) (v : NV) (x : Nt) : nvv (M ++ [(v, x)]) = nvv M ++ v.val.toList := by simp [nvv]

/-- Half way through a copy. -/
structure CpS (w0 W : World) (g : Nat) (D1 : Option Addr) (n d1 : Nat) (su : Int) (b : List Vc.St) (D' : Option Addr) (i d' : Nat) (M : List (NV × Nt)) : Prop where
  bl : Below w0.heap.size w0 W
  ge : w0.heap.size ≤ g
  blk : Blk W g 47 #[.slice D1 n d1, .slice D' i d', .int .i64 su]
  o1 : W.ownsRow w0.heap.size 24 2 (.slice D1 n d1) n (sv b)
  o2 : W.ownsRow w0.heap.size 32 4 (.slice D' i d') i (nvv M)
  each : ∀ p ∈ M, NtOwn W w0.heap.size p.1 p.2
theorem CpS.below {w0 W W' : World} {g n d1 i d' : Nat} {D1 D' : Option Addr} {su : Int} {b : List Vc.St} {M : List (NV × Nt)} (h : CpS w0 W g D1 n d1 su b D' i d' M) (hb : Below W.heap.size W W') : CpS w0 W' g D1 n d1 su b D' i d' M :=
  ⟨below_then h.bl (Nat.le_refl _) hb, h.ge, h.blk.go hb, own_below h.o1 hb (Nat.le_refl _), own_below h.o2 hb (Nat.le_refl _), fun p hp => (h.each p hp).below hb⟩
theorem CpS.app {w0 W W' : World} {g n d1 i d' : Nat} {D1 D' : Option Addr} {su : Int} {b : List Vc.St} {M : List (NV × Nt)} (h : CpS w0 W g D1 n d1 su b D' i d' M) {v : NV} {x : Nt} (hn : NtOwn W w0.heap.size v x) {D : Option Addr} {d : Nat}
    (ho : W'.ownsRow w0.heap.size 32 4 (.slice D (i + 1) d) (i + 1) (nvv M ++ v.val.toList)) (hg : W.grownBy W' (Value.slice D' i d').ownBlock) : CpS w0 (W'.setCell ⟨g, 1, none⟩ (.slice D (i + 1) d)) g D1 n d1 su b D (i + 1) d (M ++ [(v, x)]) := by
  have hB := h.blk.grown hg (blk_ne h.blk h.o2 (by decide))
  have hs := set_grown W' g 1 (.slice D (i + 1) d)
  have hr : ∀ p : NV × Nt, NtOwn W w0.heap.size p.1 p.2 → NtOwn W' w0.heap.size p.1 p.2 := fun p hp => NtOwn.row hp h.o2 (by decide) (by decide) (by decide) hg
  have hr2 : ∀ p : NV × Nt, NtOwn W' w0.heap.size p.1 p.2 → NtOwn (W'.setCell ⟨g, 1, none⟩ (.slice D (i + 1) d)) w0.heap.size p.1 p.2 := fun p hp => NtOwn.blk hp hB (by decide) (by decide) (by decide) hs
  refine ⟨(h.bl.trans (grown_below hg h.bl.size (fun k hk => own_lt h.o2 k hk))).trans (grown_below hs (Nat.le_trans h.bl.size hg.size) (fun k hk => by cases hk; exact h.ge)), h.ge, hB.set_ 1 _, ?_, ?_, fun p hp => ?_⟩
  · exact (h.o1.kept hg (own_two h.o1 h.o2 (by decide))).kept hs (own_blk (h.o1.kept hg (own_two h.o1 h.o2 (by decide))) hB (by decide))
  · rw [nvv_snoc]; exact ho.kept hs (own_blk ho hB (by decide))
  · rcases List.mem_append.1 hp with hp | hp
    · exact hr2 _ (hr _ (h.each p hp))
    · rw [List.mem_singleton] at hp
      subst hp; exact hr2 (v, x) (hr (v, x) hn)
theorem log_zero : (Tryd.prog.info? 47).map (fun i => (i.zero, i.size)) = some (some (.agg #[.slice none 0 0, .slice none 0 0, .int .i64 0]), 3) := by kernel_rfl

set_option maxHeartbeats 8000000 in
theorem refLgCopy_own (v : LV) (b : List Vc.St) (L : List (NV × Nt)) (su : Int) (w : World) (h : LgRd w v b L) (hsz : LgSz v L) :
    Calls Tryd.prog 26 #[.agg (v.val su)] w fun e w' => ∃ v' L', e = .returned (.agg (v'.val su)) ∧ LgOwn w' w.heap.size v' b L' ∧ nts L' = nts L ∧ Below w.heap.size w w' := by
  obtain ⟨hzz, hi⟩ := zero_of_info log_zero
  have HI := Lib.hid hi
  obtain ⟨i0, hi0, hz0, hz1, hz2⟩ := info_parts noteE_info
  obtain ⟨A, n, c, D, m, d⟩ := v
  obtain ⟨sz1, sz2, sz3⟩ := hsz
  dsimp only at sz1 sz2
  have HSZ := Lib.hid sz3
  have hb1 : Below w.heap.size w (w.alloc (.cells (LV.val ⟨A, n, c, D, m, d⟩ su) 47)) := (Below.refl _ _).alloc (Nat.le_refl _) _
  have hb0 : Below w.heap.size w ((w.alloc (.cells (LV.val ⟨A, n, c, D, m, d⟩ su) 47)).alloc (.cells #[.slice none 0 0, .slice none 0 0, .int .i64 0] 47)) := hb1.alloc hb1.size _
  have hB1 := (Blk.new w 47 (LV.val ⟨A, n, c, D, m, d⟩ su)).alloc (.cells #[.slice none 0 0, .slice none 0 0, .int .i64 0] 47)
  have hB2 := Blk.new (w.alloc (.cells (LV.val ⟨A, n, c, D, m, d⟩ su) 47)) 47 #[.slice none 0 0, .slice none 0 0, .int .i64 0]
  rw [World.size_alloc] at hB2
  obtain ⟨w0, hw0⟩ : ∃ w0, w0 = (w.alloc (.cells (LV.val ⟨A, n, c, D, m, d⟩ su) 47)).alloc (.cells #[.slice none 0 0, .slice none 0 0, .int .i64 0] 47) := ⟨_, rfl⟩
  rw [← hw0] at hb0 hB1 hB2
  have HH := Lib.hid (h.go hb0)
  have hln : L.length = m := h.ns.len
  have HL1 := Lib.hid (show b.length = n from h.l1)
  have HLN := Lib.hid hln
  have hsz : w.heap.size + 1 < w0.heap.size := hB2.lt
  have HB2 := Lib.hid fun W (hb : Below w0.heap.size w0 W) => hB2.go hb
  have HS := Lib.hid fun W (hb : Below w0.heap.size w0 W) => (show W.cell? ⟨w.heap.size, 0, none⟩ = some (.slice A n c) ∧ W.cell? ⟨w.heap.size, 1, none⟩ = some (.slice D m d) ∧ W.cell? ⟨w.heap.size, 2, none⟩ = some (.int .i64 su) from
    ⟨(hB1.go hb).cell 0, (hB1.go hb).cell 1, (hB1.go hb).cell 2⟩)
  have HB0 := Lib.hid hb0
  have HW := Lib.hid hw0.symm
  have H1 := Lib.hid fun (W : World) (hb : Below w0.heap.size w0 W) => vcopy_any A n c (sv b) W (HH.out.go hb).r1 (sv_oneCell _) sz1
  clear h hb0 hb1 hB1 hB2 hw0 hln hi sz3
  go_enter Tryd.func26, Tryd.ntmps26
  go_upto_region 1 with fail
  rw [HW.out]
  go_cut [3] (fun v3 wx => ∃ (g d1 : Nat) (D1 : Option Addr), v3 = .pointer (some ⟨g, 0, none⟩) ∧ Hid (CpS w0 wx g D1 n d1 su b none 0 0 []))
  case first =>
    have k : Below w0.heap.size w0 w0.drew := (Below.refl _ w0).drew
    refine region_nrm fun KK hKK => ?_
    refine wp_region_held_drew (S := (fun W => W.cell? ⟨w.heap.size, 0, none⟩ = some (.slice A n c) ∧ W.cell? ⟨w.heap.size, 1, none⟩ = some (.slice D m d) ∧ W.cell? ⟨w.heap.size, 2, none⟩ = some (.int .i64 su))) (by kernel_rfl) (by first | exact HS.out _ k) (fun hHeld => ?_)
    refine wpAnyH_putD (i := 0) (d := 5) (v := ?_) rfl rfl (by kernel_rfl) (by kernel_rfl) (by kernel_rfl) (fun _ _ _ h => h) (Or.inl ⟨by kernel_rfl, ?_⟩) (by first | exact HS.out _ k) ?_
    rotate_left
    · (intro w hS; (try dsimp only at hS); go_simp <;> with_reducible rfl)
    try simp only [List.setIfInBounds_toArray, List.set_cons_zero, List.set_cons_succ]
    refine wpAnyH_putD (i := 1) (d := 6) (v := ?_) rfl rfl (by kernel_rfl) (by kernel_rfl) (by kernel_rfl) (fun _ _ _ h => h) (Or.inl ⟨by kernel_rfl, ?_⟩) (by first | exact HS.out _ k) ?_
    rotate_left
    · (intro w hS; (try dsimp only at hS); go_simp <;> with_reducible rfl)
    try simp only [List.setIfInBounds_toArray, List.set_cons_zero, List.set_cons_succ]
    refine wpAnyH_putD (i := 3) (d := 8) (v := ?_) rfl rfl (by kernel_rfl) (by kernel_rfl) (by kernel_rfl) (fun _ _ _ h => h) (Or.inl ⟨by kernel_rfl, ?_⟩) (by first | exact HS.out _ k) ?_
    rotate_left
    · (intro w hS; (try dsimp only at hS); go_simp <;> with_reducible rfl)
    try simp only [List.setIfInBounds_toArray, List.set_cons_zero, List.set_cons_succ]
    refine wpAnyH_putD (i := 4) (d := 9) (v := ?_) rfl rfl (by kernel_rfl) (by kernel_rfl) (by kernel_rfl) (fun _ _ _ h => h) (Or.inl ⟨by kernel_rfl, ?_⟩) (by first | exact HS.out _ k) ?_
    rotate_left
    · (intro w hS; (try dsimp only at hS); go_simp <;> with_reducible rfl)
    try simp only [List.setIfInBounds_toArray, List.set_cons_zero, List.set_cons_succ]
    refine wpAnyH_ready (rs := [2, 6]) (by kernel_rfl) (by simp) ?_
    refine AllReadyH.cons rfl (fun K hK => ?_) (AllReadyH.cons rfl (fun K hK => ?_) AllReadyH.nil)
    · go_simp
      refine (H1.out _ k).mono ?_
      rintro e W1 ⟨D1, d1, rfl, ho, hb'⟩
      have C1 := Lib.hid (own_less ho k.size)
      have k := below_then k (Nat.le_refl _) hb'
      try (have G := Lib.hid (G.out.go hb'))
      clear ho hb'
      refine hK.out _ _ (by first | exact HS.out _ k) (fun hHeld => ?_)
      clear hK K
      refine wpAnyH_putD (i := 5) (d := 10) (v := ?_) rfl rfl (by kernel_rfl) (by kernel_rfl) (by kernel_rfl) (fun _ _ _ h => h) (Or.inl ⟨by kernel_rfl, ?_⟩) (by first | exact HS.out _ k) ?_
      rotate_left
      · (intro w hS; (try dsimp only at hS); go_simp <;> with_reducible rfl)
      try simp only [List.setIfInBounds_toArray, List.set_cons_zero, List.set_cons_succ]
      refine wpAnyH_ready (rs := [6]) (by kernel_rfl) (by simp) ?_
      refine AllReadyH.cons rfl (fun K hK => ?_) AllReadyH.nil
      go_simp
      have hb' := then_alloc k (.cells #[.slice none 0 0, .slice none 0 0, .int .i64 0] 47)
      have G := Lib.hid (blkOf hb')
      have hge := Lib.hid k.size
      try (have C1 := Lib.hid (own_below C1.out hb' (Nat.le_refl _)))
      have k := below_then k (Nat.le_refl _) hb'
      clear hb'
      refine hK.out _ _ (by first | exact HS.out _ k) (fun hHeld => ?_)
      clear hK K
      refine wpAnyH_ready (rs := [7]) (by kernel_rfl) (by simp) ?_
      refine AllReadyH.cons rfl (fun K hK => ?_) AllReadyH.nil
      rw [if_pos (by kernel_rfl)]
      refine wp_store_blk 47 (.tmp 3) (.tmp 10) rfl _ 47 _ #[.slice D1 n d1, .slice none 0 0, .int .i64 su] rfl rfl G.out HI.out rfl (by simp [Value.oneCell']) ?_
      intro W hblk hg
      have C1 := Lib.hid (C1.out.kept hg (own_blk C1.out G.out (by decide)))
      have k := k.trans (grown_below hg k.size (fun j hj => by cases hj; exact hge.out))
      clear hg G
      refine hK.out _ _ (by first | exact HS.out _ k) (fun hHeld => ?_)
      clear hK K
      refine wpAnyH_done (by kernel_rfl) ?_ _
      refine Nrm.out (hKK _ _ ?_)
      go_wp2_with fail
      go_meet
      exact ⟨_, d1, D1, rfl, ⟨k, hge.out, hblk, C1.out, World.ownsRow_nil _ _ _ _, fun p hp => by cases hp⟩⟩
    · go_simp
      have hb' := then_alloc k (.cells #[.slice none 0 0, .slice none 0 0, .int .i64 0] 47)
      have G := Lib.hid (blkOf hb')
      have hge := Lib.hid k.size
      try (have C1 := Lib.hid (own_below C1.out hb' (Nat.le_refl _)))
      have k := below_then k (Nat.le_refl _) hb'
      clear hb'
      refine hK.out _ _ (by first | exact HS.out _ k) (fun hHeld => ?_)
      clear hK K
      refine wpAnyH_ready (rs := [2]) (by kernel_rfl) (by simp) ?_
      refine AllReadyH.cons rfl (fun K hK => ?_) AllReadyH.nil
      go_simp
      refine (H1.out _ k).mono ?_
      rintro e W1 ⟨D1, d1, rfl, ho, hb'⟩
      have C1 := Lib.hid (own_less ho k.size)
      have k := below_then k (Nat.le_refl _) hb'
      try (have G := Lib.hid (G.out.go hb'))
      clear ho hb'
      refine hK.out _ _ (by first | exact HS.out _ k) (fun hHeld => ?_)
      clear hK K
      refine wpAnyH_putD (i := 5) (d := 10) (v := ?_) rfl rfl (by kernel_rfl) (by kernel_rfl) (by kernel_rfl) (fun _ _ _ h => h) (Or.inl ⟨by kernel_rfl, ?_⟩) (by first | exact HS.out _ k) ?_
      rotate_left
      · (intro w hS; (try dsimp only at hS); go_simp <;> with_reducible rfl)
      try simp only [List.setIfInBounds_toArray, List.set_cons_zero, List.set_cons_succ]
      refine wpAnyH_ready (rs := [7]) (by kernel_rfl) (by simp) ?_
      refine AllReadyH.cons rfl (fun K hK => ?_) AllReadyH.nil
      rw [if_pos (by kernel_rfl)]
      refine wp_store_blk 47 (.tmp 3) (.tmp 10) rfl _ 47 _ #[.slice D1 n d1, .slice none 0 0, .int .i64 su] rfl rfl G.out HI.out rfl (by simp [Value.oneCell']) ?_
      intro W hblk hg
      have C1 := Lib.hid (C1.out.kept hg (own_blk C1.out G.out (by decide)))
      have k := k.trans (grown_below hg k.size (fun j hj => by cases hj; exact hge.out))
      clear hg G
      refine hK.out _ _ (by first | exact HS.out _ k) (fun hHeld => ?_)
      clear hK K
      refine wpAnyH_done (by kernel_rfl) ?_ _
      refine Nrm.out (hKK _ _ ?_)
      go_wp2_with fail
      go_meet
      exact ⟨_, d1, D1, rfl, ⟨k, hge.out, hblk, C1.out, World.ownsRow_nil _ _ _ _, fun p hp => by cases hp⟩⟩
  case rest =>
    obtain ⟨g, d1, D1, rfl, hcp⟩ := hcut
    have hm0 := hcp.out.bl
    obtain ⟨q0, q1, q2⟩ := HS.out _ hm0
    go_wp2
    clear q0 q1 q2 hm0
    go_loopw [4] (fun v4 wr => ∃ (i d' : Nat) (D' : Option Addr), v4 = .int .i64 i ∧ i ≤ m ∧ Hid (∃ M, CpS w0 wr g D1 n d1 su b D' i d' M ∧ M.length = i ∧ nts M = (nts L).take i)) (fun v4 _ => m - (intOf v4).toNat)
    case atStart => exact ⟨0, 0, none, rfl, Nat.zero_le _, [], hcp.out, rfl, rfl⟩
    case round =>
      obtain ⟨i, d', D', rfl, hi, hq⟩ := hrel
      obtain ⟨M, hM, hMl, hMn⟩ := hq.out
      have hb := hM.bl
      have HMN := Lib.hid hMn
      have HML := Lib.hid hMl
      clear hMn hMl hq
      by_cases hlt : i < m
      · have hkL : i < L.length := by rw [HLN.out]; exact hlt
        obtain ⟨bb, o, hDe, hab, g0, g1, g2, g3⟩ := HH.out.ns.note hkL
        have hDe : D = some ⟨bb, o, none⟩ := hDe
        subst hDe
        have hrd := HH.out.ns.each _ (List.getElem_mem hkL)
        have hz := HSZ.out _ (List.getElem_mem hkL)
        have hnx : ∀ v, nts (M ++ [(v, L[i].2)]) = (nts L).take (i + 1) := fun v => by
          rw [List.take_succ_eq_append_getElem (by rw [nts_len]; exact hkL), nts_at L i hkL, ← HMN.out]; simp [nts]
        generalize L[i] = p at g0 g1 g2 g3 hrd hnx hz
        obtain ⟨⟨A1, n1, c1, A2, n2, c2, A3, n3, c3, A4, n4, c4⟩, x⟩ := p
        dsimp only at g0 g1 g2 g3 hrd hnx hz
        have HQ := Lib.hid fun V (hv : Below w0.heap.size w0 V) => (show V.cell? ⟨w.heap.size, 1, none⟩ = some (.slice (some ⟨bb, o, none⟩) m d) ∧ V.cell? ⟨bb, o + i * 4, none⟩ = some (.slice A1 n1 c1) ∧ V.cell? ⟨bb, o + i * 4 + 1, none⟩ = some (.slice A2 n2 c2) ∧ V.cell? ⟨bb, o + i * 4 + 2, none⟩ = some (.slice A3 n3 c3) ∧ V.cell? ⟨bb, o + i * 4 + 3, none⟩ = some (.slice A4 n4 c4) from
          ⟨(HS.out V hv).2.1, (hv.cell (p := ⟨bb, o + i * 4, none⟩) hab).trans g0, (hv.cell (p := ⟨bb, o + i * 4 + 1, none⟩) hab).trans g1, (hv.cell (p := ⟨bb, o + i * 4 + 2, none⟩) hab).trans g2, (hv.cell (p := ⟨bb, o + i * 4 + 3, none⟩) hab).trans g3⟩)
        have F := Lib.hid fun V (hv : Below w0.heap.size w0 V) => refNtCopy_own ⟨A1, n1, c1, A2, n2, c2, A3, n3, c3, A4, n4, c4⟩ x V (hrd.go hv) hz
        have HNX := Lib.hid hnx
        have k : Below w0.heap.size w0 wr.drew := hb.drew
        have CP := Lib.hid (hM.below (Below.refl _ wr).drew)
        have h63 : i + 1 ≤ maxLen := by unfold maxLen; omega
        obtain ⟨q1, _⟩ := HQ.out _ hb
        clear hrd hnx hz g0 g1 g2 g3 hkL hM hb
        go_wp2_with fail
        clear q1
        refine region_nrm fun KK hKK => ?_
        refine wp_region_held_drew (S := (fun V => V.cell? ⟨w.heap.size, 1, none⟩ = some (.slice (some ⟨bb, o, none⟩) m d) ∧ V.cell? ⟨bb, o + i * 4, none⟩ = some (.slice A1 n1 c1) ∧ V.cell? ⟨bb, o + i * 4 + 1, none⟩ = some (.slice A2 n2 c2) ∧ V.cell? ⟨bb, o + i * 4 + 2, none⟩ = some (.slice A3 n3 c3) ∧ V.cell? ⟨bb, o + i * 4 + 3, none⟩ = some (.slice A4 n4 c4))) (by kernel_rfl) (by first | exact HQ.out _ k) (fun hHeld => ?_)
        refine wpAnyH_putD (i := 0) (d := 18) (v := ?_) rfl rfl (by kernel_rfl) (by kernel_rfl) (by kernel_rfl) (fun _ _ _ h => h) (Or.inl ⟨by kernel_rfl, ?_⟩) (by first | exact HQ.out _ k) ?_
        rotate_left
        · (intro w hS; (try dsimp only at hS); go_simp <;> with_reducible rfl)
        try simp only [List.setIfInBounds_toArray, List.set_cons_zero, List.set_cons_succ]
        refine wpAnyH_putD (i := 2) (d := 20) (v := ?_) rfl rfl (by kernel_rfl) (by kernel_rfl) (by kernel_rfl) (fun _ _ _ h => h) (Or.inl ⟨by kernel_rfl, ?_⟩) (by first | exact HQ.out _ k) ?_
        rotate_left
        · (intro w hS; (try dsimp only at hS); go_simp <;> with_reducible rfl)
        try simp only [List.setIfInBounds_toArray, List.set_cons_zero, List.set_cons_succ]
        refine wpAnyH_putD (i := 3) (d := 21) (v := ?_) rfl rfl (by kernel_rfl) (by kernel_rfl) (by kernel_rfl) (fun _ _ _ h => h) (Or.inl ⟨by kernel_rfl, ?_⟩) (by first | exact HQ.out _ k) ?_
        rotate_left
        · (intro w hS; (try dsimp only at hS); go_simp <;> with_reducible rfl)
        try simp only [List.setIfInBounds_toArray, List.set_cons_zero, List.set_cons_succ]
        refine wpAnyH_putD (i := 4) (d := 22) (v := ?_) rfl rfl (by kernel_rfl) (by kernel_rfl) (by kernel_rfl) (fun _ _ _ h => h) (Or.inl ⟨by kernel_rfl, ?_⟩) (by first | exact HQ.out _ k) ?_
        rotate_left
        · (intro w hS; (try dsimp only at hS); go_simp <;> with_reducible rfl)
        try simp only [List.setIfInBounds_toArray, List.set_cons_zero, List.set_cons_succ]
        refine wpAnyH_putD (i := 5) (d := 23) (v := ?_) rfl rfl (by kernel_rfl) (by kernel_rfl) (by kernel_rfl) (fun _ _ _ h => h) (Or.inl ⟨by kernel_rfl, ?_⟩) (by first | exact HQ.out _ k) ?_
        rotate_left
        · (intro w hS; (try dsimp only at hS); go_simp <;> with_reducible rfl)
        try simp only [List.setIfInBounds_toArray, List.set_cons_zero, List.set_cons_succ]
        refine wpAnyH_putD (i := 6) (d := 24) (v := ?_) rfl rfl (by kernel_rfl) (by kernel_rfl) (by kernel_rfl) (fun _ _ _ h => h) (Or.inl ⟨by kernel_rfl, ?_⟩) (by first | exact HQ.out _ k) ?_
        rotate_left
        · (intro w hS; (try dsimp only at hS); go_simp <;> with_reducible rfl)
        try simp only [List.setIfInBounds_toArray, List.set_cons_zero, List.set_cons_succ]
        refine wpAnyH_ready (rs := [1, 7]) (by kernel_rfl) (by simp) ?_
        refine AllReadyH.cons rfl (fun K hK => ?_) (AllReadyH.cons rfl (fun K hK => ?_) AllReadyH.nil)
        · have qg := CP.out.blk.cell 1
          go_simp
          clear qg
          refine hK.out _ _ (by first | exact HQ.out _ k) (fun hHeld => ?_)
          clear hK K
          refine wpAnyH_ready (rs := [7]) (by kernel_rfl) (by simp) ?_
          refine AllReadyH.cons rfl (fun K hK => ?_) AllReadyH.nil
          go_simp
          refine (F.out _ k).mono ?_
          rintro e W1 ⟨⟨E1, e1, f1, E2, e2, f2, E3, e3, f3, E4, e4, f4⟩, rfl, hno, hb'⟩
          have NO := Lib.hid (hno.less k.size)
          have CP := Lib.hid (CP.out.below hb')
          have k := below_then k (Nat.le_refl _) hb'
          clear hno hb'
          refine hK.out _ _ (by first | exact HQ.out _ k) (fun hHeld => ?_)
          clear hK K
          refine wpAnyH_ready (rs := [8]) (by kernel_rfl) (by simp) ?_
          refine AllReadyH.cons rfl (fun K hK => ?_) AllReadyH.nil
          go_simp
          have hb' := then_alloc k (.cells #[.slice E1 e1 f1, .slice E2 e2 f2, .slice E3 e3 f3, .slice E4 e4 f4] 32)
          have RN := Lib.hid (newRow 4 1 hb' rfl (by unfold maxLen; omega))
          have NO := Lib.hid (NO.out.below hb')
          have CP := Lib.hid (CP.out.below hb')
          have k := below_then k (Nat.le_refl _) hb'
          clear hb'
          refine hK.out _ _ (by first | exact HQ.out _ k) (fun hHeld => ?_)
          clear hK K
          refine wpAnyH_ready (rs := [9]) (by kernel_rfl) (by simp) ?_
          refine AllReadyH.cons rfl (fun K hK => ?_) AllReadyH.nil
          rw [if_pos (by kernel_rfl)]
          refine wp_append_rd _ (.tmp 19) (.tmp 26) _ rfl w0.heap.size 32 i0 _ 4 96 Tryd.underlying45 hi0 hz0 hz1 hz2 rfl (by decide) (.slice D' i d') i _ rfl CP.out.o2 _ _ 1 1 _ rfl RN.out (ntv_oneCell ⟨E1, e1, f1, E2, e2, f2, E3, e3, f3, E4, e4, f4⟩) h63 (by omega) k.size ?_
          intro D2 d2 W ho hg hat
          have CP2 := Lib.hid (CpS.app CP.out NO.out ho hg)
          have HB := Lib.hid (CP.out.blk.grown hg (blk_ne CP.out.blk CP.out.o2 (by decide)))
          have k := k.trans (grown_below hg k.size (fun j hj => own_lt CP.out.o2 j hj))
          clear ho hg hat CP NO RN
          refine hK.out _ _ (by first | exact HQ.out _ k) (fun hHeld => ?_)
          clear hK K
          refine wpAnyH_putD (i := 10) (d := 28) (v := ?_) rfl rfl (by kernel_rfl) (by kernel_rfl) (by kernel_rfl) (fun _ _ _ h => h) (Or.inl ⟨by kernel_rfl, ?_⟩) (by first | exact HQ.out _ k) ?_
          rotate_left
          · (intro w hS; (try dsimp only at hS); go_simp <;> with_reducible rfl)
          try simp only [List.setIfInBounds_toArray, List.set_cons_zero, List.set_cons_succ]
          refine wpAnyH_ready (rs := [11]) (by kernel_rfl) (by simp) ?_
          refine AllReadyH.cons rfl (fun K hK => ?_) AllReadyH.nil
          have qg := HB.out.cell 1
          have qf := HB.out.frozen 1
          go_simp
          clear qg qf
          have k := CP2.out.bl
          refine hK.out _ _ (by first | exact HQ.out _ k) (fun hHeld => ?_)
          clear hK K
          refine wpAnyH_done (by kernel_rfl) ?_ _
          refine Nrm.out (hKK _ _ ?_)
          go_wp2
          go_roundw
          case rel => exact ⟨i + 1, d2, D2, by go_num, by omega, _, CP2.out, by rw [List.length_append, HML.out]; rfl, HNX.out _⟩
          case measure => simp [intOf]; omega
        · go_simp
          refine (F.out _ k).mono ?_
          rintro e W1 ⟨⟨E1, e1, f1, E2, e2, f2, E3, e3, f3, E4, e4, f4⟩, rfl, hno, hb'⟩
          have NO := Lib.hid (hno.less k.size)
          have CP := Lib.hid (CP.out.below hb')
          have k := below_then k (Nat.le_refl _) hb'
          clear hno hb'
          refine hK.out _ _ (by first | exact HQ.out _ k) (fun hHeld => ?_)
          clear hK K
          refine wpAnyH_ready (rs := [1, 8]) (by kernel_rfl) (by simp) ?_
          refine AllReadyH.cons rfl (fun K hK => ?_) (AllReadyH.cons rfl (fun K hK => ?_) AllReadyH.nil)
          · have qg := CP.out.blk.cell 1
            go_simp
            clear qg
            refine hK.out _ _ (by first | exact HQ.out _ k) (fun hHeld => ?_)
            clear hK K
            refine wpAnyH_ready (rs := [8]) (by kernel_rfl) (by simp) ?_
            refine AllReadyH.cons rfl (fun K hK => ?_) AllReadyH.nil
            go_simp
            have hb' := then_alloc k (.cells #[.slice E1 e1 f1, .slice E2 e2 f2, .slice E3 e3 f3, .slice E4 e4 f4] 32)
            have RN := Lib.hid (newRow 4 1 hb' rfl (by unfold maxLen; omega))
            have NO := Lib.hid (NO.out.below hb')
            have CP := Lib.hid (CP.out.below hb')
            have k := below_then k (Nat.le_refl _) hb'
            clear hb'
            refine hK.out _ _ (by first | exact HQ.out _ k) (fun hHeld => ?_)
            clear hK K
            refine wpAnyH_ready (rs := [9]) (by kernel_rfl) (by simp) ?_
            refine AllReadyH.cons rfl (fun K hK => ?_) AllReadyH.nil
            rw [if_pos (by kernel_rfl)]
            refine wp_append_rd _ (.tmp 19) (.tmp 26) _ rfl w0.heap.size 32 i0 _ 4 96 Tryd.underlying45 hi0 hz0 hz1 hz2 rfl (by decide) (.slice D' i d') i _ rfl CP.out.o2 _ _ 1 1 _ rfl RN.out (ntv_oneCell ⟨E1, e1, f1, E2, e2, f2, E3, e3, f3, E4, e4, f4⟩) h63 (by omega) k.size ?_
            intro D2 d2 W ho hg hat
            have CP2 := Lib.hid (CpS.app CP.out NO.out ho hg)
            have HB := Lib.hid (CP.out.blk.grown hg (blk_ne CP.out.blk CP.out.o2 (by decide)))
            have k := k.trans (grown_below hg k.size (fun j hj => own_lt CP.out.o2 j hj))
            clear ho hg hat CP NO RN
            refine hK.out _ _ (by first | exact HQ.out _ k) (fun hHeld => ?_)
            clear hK K
            refine wpAnyH_putD (i := 10) (d := 28) (v := ?_) rfl rfl (by kernel_rfl) (by kernel_rfl) (by kernel_rfl) (fun _ _ _ h => h) (Or.inl ⟨by kernel_rfl, ?_⟩) (by first | exact HQ.out _ k) ?_
            rotate_left
            · (intro w hS; (try dsimp only at hS); go_simp <;> with_reducible rfl)
            try simp only [List.setIfInBounds_toArray, List.set_cons_zero, List.set_cons_succ]
            refine wpAnyH_ready (rs := [11]) (by kernel_rfl) (by simp) ?_
            refine AllReadyH.cons rfl (fun K hK => ?_) AllReadyH.nil
            have qg := HB.out.cell 1
            have qf := HB.out.frozen 1
            go_simp
            clear qg qf
            have k := CP2.out.bl
            refine hK.out _ _ (by first | exact HQ.out _ k) (fun hHeld => ?_)
            clear hK K
            refine wpAnyH_done (by kernel_rfl) ?_ _
            refine Nrm.out (hKK _ _ ?_)
            go_wp2
            go_roundw
            case rel => exact ⟨i + 1, d2, D2, by go_num, by omega, _, CP2.out, by rw [List.length_append, HML.out]; rfl, HNX.out _⟩
            case measure => simp [intOf]; omega
          · go_simp
            have hb' := then_alloc k (.cells #[.slice E1 e1 f1, .slice E2 e2 f2, .slice E3 e3 f3, .slice E4 e4 f4] 32)
            have RN := Lib.hid (newRow 4 1 hb' rfl (by unfold maxLen; omega))
            have NO := Lib.hid (NO.out.below hb')
            have CP := Lib.hid (CP.out.below hb')
            have k := below_then k (Nat.le_refl _) hb'
            clear hb'
            refine hK.out _ _ (by first | exact HQ.out _ k) (fun hHeld => ?_)
            clear hK K
            refine wpAnyH_ready (rs := [1]) (by kernel_rfl) (by simp) ?_
            refine AllReadyH.cons rfl (fun K hK => ?_) AllReadyH.nil
            have qg := CP.out.blk.cell 1
            go_simp
            clear qg
            refine hK.out _ _ (by first | exact HQ.out _ k) (fun hHeld => ?_)
            clear hK K
            refine wpAnyH_ready (rs := [9]) (by kernel_rfl) (by simp) ?_
            refine AllReadyH.cons rfl (fun K hK => ?_) AllReadyH.nil
            rw [if_pos (by kernel_rfl)]
            refine wp_append_rd _ (.tmp 19) (.tmp 26) _ rfl w0.heap.size 32 i0 _ 4 96 Tryd.underlying45 hi0 hz0 hz1 hz2 rfl (by decide) (.slice D' i d') i _ rfl CP.out.o2 _ _ 1 1 _ rfl RN.out (ntv_oneCell ⟨E1, e1, f1, E2, e2, f2, E3, e3, f3, E4, e4, f4⟩) h63 (by omega) k.size ?_
            intro D2 d2 W ho hg hat
            have CP2 := Lib.hid (CpS.app CP.out NO.out ho hg)
            have HB := Lib.hid (CP.out.blk.grown hg (blk_ne CP.out.blk CP.out.o2 (by decide)))
            have k := k.trans (grown_below hg k.size (fun j hj => own_lt CP.out.o2 j hj))
            clear ho hg hat CP NO RN
            refine hK.out _ _ (by first | exact HQ.out _ k) (fun hHeld => ?_)
            clear hK K
            refine wpAnyH_putD (i := 10) (d := 28) (v := ?_) rfl rfl (by kernel_rfl) (by kernel_rfl) (by kernel_rfl) (fun _ _ _ h => h) (Or.inl ⟨by kernel_rfl, ?_⟩) (by first | exact HQ.out _ k) ?_
            rotate_left
            · (intro w hS; (try dsimp only at hS); go_simp <;> with_reducible rfl)
            try simp only [List.setIfInBounds_toArray, List.set_cons_zero, List.set_cons_succ]
            refine wpAnyH_ready (rs := [11]) (by kernel_rfl) (by simp) ?_
            refine AllReadyH.cons rfl (fun K hK => ?_) AllReadyH.nil
            have qg := HB.out.cell 1
            have qf := HB.out.frozen 1
            go_simp
            clear qg qf
            have k := CP2.out.bl
            refine hK.out _ _ (by first | exact HQ.out _ k) (fun hHeld => ?_)
            clear hK K
            refine wpAnyH_done (by kernel_rfl) ?_ _
            refine Nrm.out (hKK _ _ ?_)
            go_wp2
            go_roundw
            case rel => exact ⟨i + 1, d2, D2, by go_num, by omega, _, CP2.out, by rw [List.length_append, HML.out]; rfl, HNX.out _⟩
            case measure => simp [intOf]; omega
      · obtain rfl : i = m := by omega
        have HN := Lib.hid (show nts M = nts L by rw [HMN.out]; exact List.take_of_length_le (by rw [nts_len, HLN.out]; exact Nat.le_refl _))
        have r0 := hM.blk.cell 0
        have r1 := hM.blk.cell 1
        have r2 := hM.blk.cell 2
        obtain ⟨q0, q1, q2⟩ := HS.out _ hb
        have CP := Lib.hid hM
        have HB := Lib.hid hb
        clear hM hb
        go_wp2_with (refine wpList_store_blk rfl 47 _ _ rfl (w.heap.size + 1) 47 _ #[.slice D1 n d1, .slice D' i d', .int .i64 su] rfl rfl (HB2.out _ HB.out) HI.out rfl (by simp [Value.oneCell']) ?_; intro W hblk hg)
        have o1 := CP.out.o1
        have o2 := CP.out.o2
        refine bodyPost_ret (results_cell_row rfl _ _ (w.heap.size + 1) 47 _ _ _ rfl hblk Tryd.underlying47 rfl HI.out) rfl ⟨⟨D1, n, d1, D', i, d'⟩, M, rfl, LgOwn.less (LgOwn.far ⟨HL1.out, o1, HML.out, o2, CP.out.each⟩ hg hsz) HB0.out.size, HN.out, ?_⟩
        exact (below_then HB0.out (Nat.le_refl _) HB.out).trans (grown_below hg (Nat.le_trans HB0.out.size HB.out.size) (fun j hj => by cases hj; exact Nat.le_succ _))
end Go.Proofs.YtldcgmnfohhjbaaDoor
