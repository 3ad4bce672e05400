/- A store of a whole value into a row of the call's own; walk over invlog.own (printed by wip/tools/genLgG.py). -/
import Derived.Test.YtldcgmnfohhjbaaDoorLgF
namespace Go.Proofs.YtldcgmnfohhjbaaDoor
open Go.RowKit
set_option maxRecDepth 100000

theorem take_mid {α : Type} (cur vs : List α) (o N : Nat) (h : o + vs.length ≤ N) (hN : N ≤ cur.length) :
    (cur.take o ++ vs ++ cur.drop (o + vs.length)).take N = (cur.take N).take o ++ vs ++ (cur.take N).drop (o + vs.length) := by
  have h1 : (cur.take o ++ vs).length = o + vs.length := by rw [List.length_append, List.length_take]; omega
  rw [List.take_append, h1, List.take_of_length_le (by rw [h1]; exact h), List.take_take, List.drop_take]
  congr 3
  omega
/-- A store of a whole value at place i of a row of the call's own. -/
theorem own_set {P : Program} {w : World} {base : Nat} {e : TypeId} {size G n c : Nat} {xs : List Value} (h : w.ownsRow base e size (.slice (some ⟨G, 0, none⟩) n c) n xs) (ty : TypeId) (cells : Array Value) (off i : Nat) (hoff : off = i * size) (hin : i < n)
    (hc : cells.size = size) (hi : (P.info? ty).map (·.size) = some cells.size) (h1 : cells.all (·.oneCell') = true) :
    ∃ w', (Instr.storeAt ty (.pointer (some ⟨G, off, none⟩)) (.agg cells)).run P w = .ok () w' ∧ w'.ownsRow base e size (.slice (some ⟨G, 0, none⟩) n c) n (xs.take off ++ cells.toList ++ xs.drop (off + cells.toList.length)) ∧ w.grownBy w' (some G) := by
  obtain ⟨hl, h | ⟨g, cap, cur, hv, hb, hg, hnc, hcm, hcs, hx⟩⟩ := h
  · exact absurd h.1 (by simp)
  · injection hv with hv1 hv2 hv3
    injection hv1 with hv1
    injection hv1 with hv1
    subst hv1 hv3
    have hle : off + size ≤ n * size := by
      rw [hoff, ← Nat.succ_mul]; exact Nat.mul_le_mul_right _ hin
    have hnc' : n * size ≤ c * size := Nat.mul_le_mul_right _ hnc
    have hlen : cells.toList.length = size := by simpa using hc
    have hst := run_storeCells_at (P := P) G off e cells.toList 0 cur w hg (by rw [hlen]; omega) (fun v hv => (Array.all_eq_true_iff_forall_mem.1 h1) v (by simpa using hv))
    simp only [Nat.add_zero] at hst
    refine ⟨w.setRow G (cur.toList.take off ++ cells.toList ++ cur.toList.drop (off + cells.toList.length)).toArray, ?_, ⟨?_, .inr ⟨G, c, (cur.toList.take off ++ cells.toList ++ cur.toList.drop (off + cells.toList.length)).toArray, rfl, hb, setRow_heap w G cur _ e _ hg, hnc, hcm, ?_, ?_⟩⟩, ⟨rfl, rfl, rfl, by simp, fun k _ hk => setRow_other w G k _ (fun e => hk (by rw [e]))⟩⟩
    · cases hq : P.info? ty with
      | none => simp [hq] at hi
      | some j =>
        have hs : cells.size = j.size := by simp [hq] at hi; omega
        simp only [Instr.storeAt, Instr.sureAddr, Sem.run_bind, Sem.run_pure, Result.andThen_ok]
        simp [storeVar, sizeOf, typeInfo, hq, Value.cells, hs, hst]
    · rw [List.length_append, List.length_append, List.length_take, List.length_drop, hl, hlen]; omega
    · have : cur.toList.length = c * size := by simpa using hcs
      simp only [List.size_toArray, List.length_append, List.length_take, List.length_drop]; omega
    · have hcl : cur.toList.length = c * size := by simpa using hcs
      rw [← hx]
      exact take_mid cur.toList cells.toList off (n * size) (by rw [hlen]; exact hle) (by rw [hcl]; exact hnc')
theorem wp_store_own {P : Program} {op : Oper} {a : Act} {w : World} {K : Act → World → Prop} {Q : Exit → Act → World → Prop} (ty : TypeId) (x y : Operand) (ho : op.op = .store ty x y)
    {base : Nat} {e : TypeId} {size G n c : Nat} {xs : List Value} (h : w.ownsRow base e size (.slice (some ⟨G, 0, none⟩) n c) n xs) (cells : Array Value) (off i : Nat) (hx : a.eval x = .pointer (some ⟨G, off, none⟩)) (hy : a.eval y = .agg cells) (hoff : off = i * size) (hin : i < n)
    (hc : cells.size = size) (hi : (P.info? ty).map (·.size) = some cells.size) (h1 : cells.all (·.oneCell') = true)
    (hK : ∀ w', w'.ownsRow base e size (.slice (some ⟨G, 0, none⟩) n c) n (xs.take off ++ cells.toList ++ xs.drop (off + cells.toList.length)) → w.grownBy w' (some G) → K (a.put op.dst undef) w') : op.wp P a w K Q := by
  obtain ⟨w', hr, h2, h3⟩ := own_set (P := P) h ty cells off i hoff hin hc hi h1
  unfold Oper.wp execOp
  simp only [ho, hx, hy, Sem.run_bind, hr, Result.andThen_ok]
  exact hK w' h2 h3

theorem nvv_len (L : List (NV × Nt)) : (nvv L).length = L.length * 4 := flat_len (fun p : NV × Nt => p.1.val.toList) 4 L fun _ _ => rfl
theorem nvv_set (M R : List (NV × Nt)) (p : NV × Nt) (v : NV) (x : Nt) : (nvv (M ++ p :: R)).take (M.length * 4) ++ v.val.toList ++ (nvv (M ++ p :: R)).drop (M.length * 4 + v.val.toList.length) = nvv ((M ++ [(v, x)]) ++ R) := by
  have e : nvv (M ++ p :: R) = nvv M ++ (p.1.val.toList ++ nvv R) := by simp [nvv]
  rw [e, List.take_left' (nvv_len M), ← List.drop_drop, List.drop_left' (nvv_len M)]
  simp [nvv]

/-- Half way through a copy in place. -/
structure OwS (w0 W : World) (g : Nat) (D1 : Option Addr) (n d1 : Nat) (su : Int) (b : List Vc.St) (D2 : Option Addr) (m d2 : Nat) (M R : List (NV × Nt)) : Prop where
  bl : Below w0.heap.size w0 W
  ge : w0.heap.size ≤ g
  blk : Blk W g 47 #[.slice D1 n d1, .slice D2 m d2, .int .i64 su]
  o1 : W.ownsRow w0.heap.size 24 2 (.slice D1 n d1) n (sv b)
  o2 : W.ownsRow w0.heap.size 32 4 (.slice D2 m d2) m (nvv (M ++ R))
  each : ∀ p ∈ M, NtOwn W w0.heap.size p.1 p.2
theorem OwS.below {w0 W W' : World} {g n d1 m d2 : Nat} {D1 D2 : Option Addr} {su : Int} {b : List Vc.St} {M R : List (NV × Nt)} (h : OwS w0 W g D1 n d1 su b D2 m d2 M R) (hb : Below W.heap.size W W') : OwS w0 W' g D1 n d1 su b D2 m d2 M R :=
  ⟨below_then h.bl (Nat.le_refl _) hb, h.ge, h.blk.go hb, own_below h.o1 hb (Nat.le_refl _), own_below h.o2 hb (Nat.le_refl _), fun p hp => (h.each p hp).below hb⟩
theorem OwS.set_ {w0 W W' : World} {g n d1 m d2 G : Nat} {D1 : Option Addr} {su : Int} {b : List Vc.St} {M R : List (NV × Nt)} {p : NV × Nt} (h : OwS w0 W g D1 n d1 su b (some ⟨G, 0, none⟩) m d2 M (p :: R)) {v : NV} {x : Nt} (hn : NtOwn W w0.heap.size v x)
    (ho : W'.ownsRow w0.heap.size 32 4 (.slice (some ⟨G, 0, none⟩) m d2) m ((nvv (M ++ p :: R)).take (M.length * 4) ++ v.val.toList ++ (nvv (M ++ p :: R)).drop (M.length * 4 + v.val.toList.length))) (hg : W.grownBy W' (some G)) : OwS w0 W' g D1 n d1 su b (some ⟨G, 0, none⟩) m d2 (M ++ [(v, x)]) R := by
  rw [nvv_set] at ho
  have hr : ∀ q : NV × Nt, NtOwn W w0.heap.size q.1 q.2 → NtOwn W' w0.heap.size q.1 q.2 := fun q hq => NtOwn.row hq h.o2 (by decide) (by decide) (by decide) hg
  refine ⟨h.bl.trans (grown_below hg h.bl.size (fun k hk => own_lt h.o2 k hk)), h.ge, h.blk.grown hg (blk_ne h.blk h.o2 (by decide)), h.o1.kept hg (own_two h.o1 h.o2 (by decide)), ho, fun q hq => ?_⟩
  rcases List.mem_append.1 hq with hq | hq
  · exact hr _ (h.each q hq)
  · rw [List.mem_singleton] at hq
    subst hq; exact hr (v, x) hn

set_option maxHeartbeats 8000000 in
theorem lgOwn_own (v : LV) (b : List Vc.St) (L : List (NV × Nt)) (su : Int) (w : World) (h : LgRd w v b L) (hsz : LgSz v L) :
    Calls Tryd.prog 65 #[.agg (v.val su)] w fun e w' => ∃ v' L', e = .returned (.agg (v'.val su)) ∧ LgOwn w' w.heap.size v' b L' ∧ nts L' = nts L ∧ Below w.heap.size w w' := by
  obtain ⟨hzz, hi⟩ := zero_of_info log_zero
  have HI := Lib.hid hi
  obtain ⟨_, hiN⟩ := zero_of_info notes_zero
  have HIN := Lib.hid hiN
  obtain ⟨A, n, c, D, m, d⟩ := v
  obtain ⟨sz1, sz2, sz3⟩ := hsz
  dsimp only at sz1 sz2
  have HSZ := Lib.hid sz3
  have hb1 : Below w.heap.size w (w.alloc (.cells (LV.val ⟨A, n, c, D, m, d⟩ su) 47)) := (Below.refl _ _).alloc (Nat.le_refl _) _
  have hb0 : Below w.heap.size w ((w.alloc (.cells (LV.val ⟨A, n, c, D, m, d⟩ su) 47)).alloc (.cells #[.slice none 0 0, .slice none 0 0, .int .i64 0] 47)) := hb1.alloc hb1.size _
  have hB1 := (Blk.new w 47 (LV.val ⟨A, n, c, D, m, d⟩ su)).alloc (.cells #[.slice none 0 0, .slice none 0 0, .int .i64 0] 47)
  have hB2 := Blk.new (w.alloc (.cells (LV.val ⟨A, n, c, D, m, d⟩ su) 47)) 47 #[.slice none 0 0, .slice none 0 0, .int .i64 0]
  rw [World.size_alloc] at hB2
  obtain ⟨w0, hw0⟩ : ∃ w0, w0 = (w.alloc (.cells (LV.val ⟨A, n, c, D, m, d⟩ su) 47)).alloc (.cells #[.slice none 0 0, .slice none 0 0, .int .i64 0] 47) := ⟨_, rfl⟩
  rw [← hw0] at hb0 hB1 hB2
  have HH := Lib.hid (h.go hb0)
  have hln : L.length = m := h.ns.len
  have HL1 := Lib.hid (show b.length = n from h.l1)
  have HLN := Lib.hid hln
  have hsz : w.heap.size + 1 < w0.heap.size := hB2.lt
  have HB2 := Lib.hid fun W (hb : Below w0.heap.size w0 W) => hB2.go hb
  have HS := Lib.hid fun W (hb : Below w0.heap.size w0 W) => (show W.cell? ⟨w.heap.size, 0, none⟩ = some (.slice A n c) ∧ W.cell? ⟨w.heap.size, 1, none⟩ = some (.slice D m d) ∧ W.cell? ⟨w.heap.size, 2, none⟩ = some (.int .i64 su) from
    ⟨(hB1.go hb).cell 0, (hB1.go hb).cell 1, (hB1.go hb).cell 2⟩)
  have HB0 := Lib.hid hb0
  have HW := Lib.hid hw0.symm
  have H1 := Lib.hid fun (W : World) (hb : Below w0.heap.size w0 W) => cloneSt_any A n c (sv b) W (HH.out.go hb).r1 (sv_oneCell _) sz1
  have H2 := Lib.hid fun (W : World) (hb : Below w0.heap.size w0 W) => cloneNt_any D m d (nvv L) W (HH.out.go hb).ns.rd (nvv_oneCell _) (by omega)
  clear h hb0 hb1 hB1 hB2 hw0 hln hi sz3 hiN
  go_enter Tryd.func65, Tryd.ntmps65
  go_upto_region 1 with fail
  rw [HW.out]
  go_cut [3] (fun v3 wx => ∃ (g d1 d2 : Nat) (D1 D2 : Option Addr), v3 = .pointer (some ⟨g, 0, none⟩) ∧ Hid (OwS w0 wx g D1 n d1 su b D2 m d2 [] L))
  case first =>
    have k : Below w0.heap.size w0 w0.drew := (Below.refl _ w0).drew
    refine region_nrm fun KK hKK => ?_
    refine wp_region_held_drew (S := (fun W => W.cell? ⟨w.heap.size, 0, none⟩ = some (.slice A n c) ∧ W.cell? ⟨w.heap.size, 1, none⟩ = some (.slice D m d) ∧ W.cell? ⟨w.heap.size, 2, none⟩ = some (.int .i64 su))) (by kernel_rfl) (by first | exact HS.out _ k) (fun hHeld => ?_)
    refine wpAnyH_putD (i := 0) (d := 6) (v := ?_) rfl rfl (by kernel_rfl) (by kernel_rfl) (by kernel_rfl) (fun _ _ _ h => h) (Or.inl ⟨by kernel_rfl, ?_⟩) (by first | exact HS.out _ k) ?_
    rotate_left
    · (intro w hS; (try dsimp only at hS); go_simp <;> with_reducible rfl)
    try simp only [List.setIfInBounds_toArray, List.set_cons_zero, List.set_cons_succ]
    refine wpAnyH_putD (i := 1) (d := 7) (v := ?_) rfl rfl (by kernel_rfl) (by kernel_rfl) (by kernel_rfl) (fun _ _ _ h => h) (Or.inl ⟨by kernel_rfl, ?_⟩) (by first | exact HS.out _ k) ?_
    rotate_left
    · (intro w hS; (try dsimp only at hS); go_simp <;> with_reducible rfl)
    try simp only [List.setIfInBounds_toArray, List.set_cons_zero, List.set_cons_succ]
    refine wpAnyH_putD (i := 3) (d := 9) (v := ?_) rfl rfl (by kernel_rfl) (by kernel_rfl) (by kernel_rfl) (fun _ _ _ h => h) (Or.inl ⟨by kernel_rfl, ?_⟩) (by first | exact HS.out _ k) ?_
    rotate_left
    · (intro w hS; (try dsimp only at hS); go_simp <;> with_reducible rfl)
    try simp only [List.setIfInBounds_toArray, List.set_cons_zero, List.set_cons_succ]
    refine wpAnyH_putD (i := 4) (d := 10) (v := ?_) rfl rfl (by kernel_rfl) (by kernel_rfl) (by kernel_rfl) (fun _ _ _ h => h) (Or.inl ⟨by kernel_rfl, ?_⟩) (by first | exact HS.out _ k) ?_
    rotate_left
    · (intro w hS; (try dsimp only at hS); go_simp <;> with_reducible rfl)
    try simp only [List.setIfInBounds_toArray, List.set_cons_zero, List.set_cons_succ]
    refine wpAnyH_putD (i := 6) (d := 12) (v := ?_) rfl rfl (by kernel_rfl) (by kernel_rfl) (by kernel_rfl) (fun _ _ _ h => h) (Or.inl ⟨by kernel_rfl, ?_⟩) (by first | exact HS.out _ k) ?_
    rotate_left
    · (intro w hS; (try dsimp only at hS); go_simp <;> with_reducible rfl)
    try simp only [List.setIfInBounds_toArray, List.set_cons_zero, List.set_cons_succ]
    refine wpAnyH_putD (i := 7) (d := 13) (v := ?_) rfl rfl (by kernel_rfl) (by kernel_rfl) (by kernel_rfl) (fun _ _ _ h => h) (Or.inl ⟨by kernel_rfl, ?_⟩) (by first | exact HS.out _ k) ?_
    rotate_left
    · (intro w hS; (try dsimp only at hS); go_simp <;> with_reducible rfl)
    try simp only [List.setIfInBounds_toArray, List.set_cons_zero, List.set_cons_succ]
    refine wpAnyH_ready (rs := [2, 9]) (by kernel_rfl) (by simp) ?_
    refine AllReadyH.cons rfl (fun K hK => ?_) (AllReadyH.cons rfl (fun K hK => ?_) AllReadyH.nil)
    · go_simp
      refine (H1.out _ k).mono ?_
      rintro e W1 ⟨D1, d1, rfl, ho, hb'⟩
      have C1 := Lib.hid (own_less ho k.size)
      have k := below_then k (Nat.le_refl _) hb'
      try (have G := Lib.hid (G.out.go hb'))
      clear ho hb'
      refine hK.out _ _ (by first | exact HS.out _ k) (fun hHeld => ?_)
      clear hK K
      refine wpAnyH_ready (rs := [5, 9]) (by kernel_rfl) (by simp) ?_
      refine AllReadyH.cons rfl (fun K hK => ?_) (AllReadyH.cons rfl (fun K hK => ?_) AllReadyH.nil)
      · go_simp
        refine (H2.out _ k).mono ?_
        rintro e W2 ⟨D2, d2, rfl, ho, hb'⟩
        have C2 := Lib.hid (own_less ho k.size)
        have C1 := Lib.hid (own_below C1.out hb' (Nat.le_refl _))
        have k := below_then k (Nat.le_refl _) hb'
        try (have G := Lib.hid (G.out.go hb'))
        clear ho hb'
        refine hK.out _ _ (by first | exact HS.out _ k) (fun hHeld => ?_)
        clear hK K
        refine wpAnyH_putD (i := 8) (d := 14) (v := ?_) rfl rfl (by kernel_rfl) (by kernel_rfl) (by kernel_rfl) (fun _ _ _ h => h) (Or.inl ⟨by kernel_rfl, ?_⟩) (by first | exact HS.out _ k) ?_
        rotate_left
        · (intro w hS; (try dsimp only at hS); go_simp <;> with_reducible rfl)
        try simp only [List.setIfInBounds_toArray, List.set_cons_zero, List.set_cons_succ]
        refine wpAnyH_ready (rs := [9]) (by kernel_rfl) (by simp) ?_
        refine AllReadyH.cons rfl (fun K hK => ?_) AllReadyH.nil
        go_simp
        have hb' := then_alloc k (.cells #[.slice none 0 0, .slice none 0 0, .int .i64 0] 47)
        have G := Lib.hid (blkOf hb')
        have hge := Lib.hid k.size
        try (have C1 := Lib.hid (own_below C1.out hb' (Nat.le_refl _)))
        try (have C2 := Lib.hid (own_below C2.out hb' (Nat.le_refl _)))
        have k := below_then k (Nat.le_refl _) hb'
        clear hb'
        refine hK.out _ _ (by first | exact HS.out _ k) (fun hHeld => ?_)
        clear hK K
        refine wpAnyH_ready (rs := [10]) (by kernel_rfl) (by simp) ?_
        refine AllReadyH.cons rfl (fun K hK => ?_) AllReadyH.nil
        rw [if_pos (by kernel_rfl)]
        refine wp_store_blk 47 (.tmp 3) (.tmp 14) rfl _ 47 _ #[.slice D1 n d1, .slice D2 m d2, .int .i64 su] rfl rfl G.out HI.out rfl (by simp [Value.oneCell']) ?_
        intro W hblk hg
        have C1 := Lib.hid (C1.out.kept hg (own_blk C1.out G.out (by decide)))
        have C2 := Lib.hid (C2.out.kept hg (own_blk C2.out G.out (by decide)))
        have k := k.trans (grown_below hg k.size (fun j hj => by cases hj; exact hge.out))
        clear hg G
        refine hK.out _ _ (by first | exact HS.out _ k) (fun hHeld => ?_)
        clear hK K
        refine wpAnyH_done (by kernel_rfl) ?_ _
        refine Nrm.out (hKK _ _ ?_)
        go_wp2_with fail
        go_meet
        exact ⟨_, d1, d2, D1, D2, rfl, ⟨k, hge.out, hblk, C1.out, C2.out, fun p hp => by cases hp⟩⟩
      · go_simp
        have hb' := then_alloc k (.cells #[.slice none 0 0, .slice none 0 0, .int .i64 0] 47)
        have G := Lib.hid (blkOf hb')
        have hge := Lib.hid k.size
        try (have C1 := Lib.hid (own_below C1.out hb' (Nat.le_refl _)))
        try (have C2 := Lib.hid (own_below C2.out hb' (Nat.le_refl _)))
        have k := below_then k (Nat.le_refl _) hb'
        clear hb'
        refine hK.out _ _ (by first | exact HS.out _ k) (fun hHeld => ?_)
        clear hK K
        refine wpAnyH_ready (rs := [5]) (by kernel_rfl) (by simp) ?_
        refine AllReadyH.cons rfl (fun K hK => ?_) AllReadyH.nil
        go_simp
        refine (H2.out _ k).mono ?_
        rintro e W2 ⟨D2, d2, rfl, ho, hb'⟩
        have C2 := Lib.hid (own_less ho k.size)
        have C1 := Lib.hid (own_below C1.out hb' (Nat.le_refl _))
        have k := below_then k (Nat.le_refl _) hb'
        try (have G := Lib.hid (G.out.go hb'))
        clear ho hb'
        refine hK.out _ _ (by first | exact HS.out _ k) (fun hHeld => ?_)
        clear hK K
        refine wpAnyH_putD (i := 8) (d := 14) (v := ?_) rfl rfl (by kernel_rfl) (by kernel_rfl) (by kernel_rfl) (fun _ _ _ h => h) (Or.inl ⟨by kernel_rfl, ?_⟩) (by first | exact HS.out _ k) ?_
        rotate_left
        · (intro w hS; (try dsimp only at hS); go_simp <;> with_reducible rfl)
        try simp only [List.setIfInBounds_toArray, List.set_cons_zero, List.set_cons_succ]
        refine wpAnyH_ready (rs := [10]) (by kernel_rfl) (by simp) ?_
        refine AllReadyH.cons rfl (fun K hK => ?_) AllReadyH.nil
        rw [if_pos (by kernel_rfl)]
        refine wp_store_blk 47 (.tmp 3) (.tmp 14) rfl _ 47 _ #[.slice D1 n d1, .slice D2 m d2, .int .i64 su] rfl rfl G.out HI.out rfl (by simp [Value.oneCell']) ?_
        intro W hblk hg
        have C1 := Lib.hid (C1.out.kept hg (own_blk C1.out G.out (by decide)))
        have C2 := Lib.hid (C2.out.kept hg (own_blk C2.out G.out (by decide)))
        have k := k.trans (grown_below hg k.size (fun j hj => by cases hj; exact hge.out))
        clear hg G
        refine hK.out _ _ (by first | exact HS.out _ k) (fun hHeld => ?_)
        clear hK K
        refine wpAnyH_done (by kernel_rfl) ?_ _
        refine Nrm.out (hKK _ _ ?_)
        go_wp2_with fail
        go_meet
        exact ⟨_, d1, d2, D1, D2, rfl, ⟨k, hge.out, hblk, C1.out, C2.out, fun p hp => by cases hp⟩⟩
    · go_simp
      have hb' := then_alloc k (.cells #[.slice none 0 0, .slice none 0 0, .int .i64 0] 47)
      have G := Lib.hid (blkOf hb')
      have hge := Lib.hid k.size
      try (have C1 := Lib.hid (own_below C1.out hb' (Nat.le_refl _)))
      try (have C2 := Lib.hid (own_below C2.out hb' (Nat.le_refl _)))
      have k := below_then k (Nat.le_refl _) hb'
      clear hb'
      refine hK.out _ _ (by first | exact HS.out _ k) (fun hHeld => ?_)
      clear hK K
      refine wpAnyH_ready (rs := [2]) (by kernel_rfl) (by simp) ?_
      refine AllReadyH.cons rfl (fun K hK => ?_) AllReadyH.nil
      go_simp
      refine (H1.out _ k).mono ?_
      rintro e W1 ⟨D1, d1, rfl, ho, hb'⟩
      have C1 := Lib.hid (own_less ho k.size)
      have k := below_then k (Nat.le_refl _) hb'
      try (have G := Lib.hid (G.out.go hb'))
      clear ho hb'
      refine hK.out _ _ (by first | exact HS.out _ k) (fun hHeld => ?_)
      clear hK K
      refine wpAnyH_ready (rs := [5]) (by kernel_rfl) (by simp) ?_
      refine AllReadyH.cons rfl (fun K hK => ?_) AllReadyH.nil
      go_simp
      refine (H2.out _ k).mono ?_
      rintro e W2 ⟨D2, d2, rfl, ho, hb'⟩
      have C2 := Lib.hid (own_less ho k.size)
      have C1 := Lib.hid (own_below C1.out hb' (Nat.le_refl _))
      have k := below_then k (Nat.le_refl _) hb'
      try (have G := Lib.hid (G.out.go hb'))
      clear ho hb'
      refine hK.out _ _ (by first | exact HS.out _ k) (fun hHeld => ?_)
      clear hK K
      refine wpAnyH_putD (i := 8) (d := 14) (v := ?_) rfl rfl (by kernel_rfl) (by kernel_rfl) (by kernel_rfl) (fun _ _ _ h => h) (Or.inl ⟨by kernel_rfl, ?_⟩) (by first | exact HS.out _ k) ?_
      rotate_left
      · (intro w hS; (try dsimp only at hS); go_simp <;> with_reducible rfl)
      try simp only [List.setIfInBounds_toArray, List.set_cons_zero, List.set_cons_succ]
      refine wpAnyH_ready (rs := [10]) (by kernel_rfl) (by simp) ?_
      refine AllReadyH.cons rfl (fun K hK => ?_) AllReadyH.nil
      rw [if_pos (by kernel_rfl)]
      refine wp_store_blk 47 (.tmp 3) (.tmp 14) rfl _ 47 _ #[.slice D1 n d1, .slice D2 m d2, .int .i64 su] rfl rfl G.out HI.out rfl (by simp [Value.oneCell']) ?_
      intro W hblk hg
      have C1 := Lib.hid (C1.out.kept hg (own_blk C1.out G.out (by decide)))
      have C2 := Lib.hid (C2.out.kept hg (own_blk C2.out G.out (by decide)))
      have k := k.trans (grown_below hg k.size (fun j hj => by cases hj; exact hge.out))
      clear hg G
      refine hK.out _ _ (by first | exact HS.out _ k) (fun hHeld => ?_)
      clear hK K
      refine wpAnyH_done (by kernel_rfl) ?_ _
      refine Nrm.out (hKK _ _ ?_)
      go_wp2_with fail
      go_meet
      exact ⟨_, d1, d2, D1, D2, rfl, ⟨k, hge.out, hblk, C1.out, C2.out, fun p hp => by cases hp⟩⟩
  case rest =>
    obtain ⟨g, d1, d2, D1, D2, rfl, hcp⟩ := hcut
    have hm0 := hcp.out.bl
    obtain ⟨q0, q1, q2⟩ := HS.out _ hm0
    go_wp2
    clear q0 q1 q2 hm0
    go_loopw [18] (fun v18 wr => ∃ (i : Nat), v18 = .int .i64 i ∧ i ≤ m ∧ Hid (∃ M, OwS w0 wr g D1 n d1 su b D2 m d2 M (L.drop i) ∧ M.length = i ∧ nts M = (nts L).take i)) (fun v18 _ => m - (intOf v18).toNat)
    case atStart => exact ⟨0, rfl, Nat.zero_le _, [], hcp.out, rfl, rfl⟩
    case round =>
      obtain ⟨i, rfl, hi, hq⟩ := hrel
      obtain ⟨M, hM, hMl, hMn⟩ := hq.out
      have hb := hM.bl
      have HMN := Lib.hid hMn
      have HML := Lib.hid hMl
      clear hMn hMl hq
      by_cases hlt : i < m
      · have hkL : i < L.length := by rw [HLN.out]; exact hlt
        obtain ⟨bb, o, hDe, hab, g0, g1, g2, g3⟩ := HH.out.ns.note hkL
        have hDe : D = some ⟨bb, o, none⟩ := hDe
        subst hDe
        have hrd := HH.out.ns.each _ (List.getElem_mem hkL)
        have hz := HSZ.out _ (List.getElem_mem hkL)
        have hnx : ∀ v, nts (M ++ [(v, L[i].2)]) = (nts L).take (i + 1) := fun v => by
          rw [List.take_succ_eq_append_getElem (by rw [nts_len]; exact hkL), nts_at L i hkL, ← HMN.out]; simp [nts]
        rw [List.drop_eq_getElem_cons hkL] at hM
        generalize L[i] = p at g0 g1 g2 g3 hrd hnx hz hM
        obtain ⟨⟨A1, n1, c1, A2, n2, c2, A3, n3, c3, A4, n4, c4⟩, x⟩ := p
        dsimp only at g0 g1 g2 g3 hrd hnx hz
        obtain ⟨G, cap, hv, hGb, hGs⟩ := hM.o2.form (by omega)
        injection hv with hv1 _ hv3
        subst hv1 hv3
        have F := Lib.hid fun V (hv : Below w0.heap.size w0 V) => ownNote_own ⟨A1, n1, c1, A2, n2, c2, A3, n3, c3, A4, n4, c4⟩ x V (hrd.go hv) hz
        have HNX := Lib.hid hnx
        have g0' := (hb.cell (p := ⟨bb, o + i * 4, none⟩) hab).trans g0
        have g1' := (hb.cell (p := ⟨bb, o + i * 4 + 1, none⟩) hab).trans g1
        have g2' := (hb.cell (p := ⟨bb, o + i * 4 + 2, none⟩) hab).trans g2
        have g3' := (hb.cell (p := ⟨bb, o + i * 4 + 3, none⟩) hab).trans g3
        obtain ⟨q0, q1, q2⟩ := HS.out _ hb
        have hk1 := then_alloc hb (.cells #[.slice A1 n1 c1, .slice A2 n2 c2, .slice A3 n3 c3, .slice A4 n4 c4] 32)
        have hX := blkOf hk1
        obtain ⟨W, hW⟩ : ∃ W, W = wr.alloc (.cells #[.slice A1 n1 c1, .slice A2 n2 c2, .slice A3 n3 c3, .slice A4 n4 c4] 32) := ⟨_, rfl⟩
        rw [← hW] at hX hk1
        have CP := Lib.hid (hM.below (hk1.trans ((Below.refl _ W).drew.mono (Nat.le_of_lt hX.lt))))
        have HX := Lib.hid hX
        have HWW := Lib.hid hW.symm
        have k : Below w0.heap.size w0 W.drew := CP.out.bl
        have HG := Lib.hid hGs
        clear hrd hnx hz g0 g1 g2 g3 hkL hM hb hk1 hX hW
        go_wp2_with fail
        clear g0' g1' g2' g3' q0 q1 q2
        rw [HWW.out]
        have kW := Lib.hid (fun V (hv : Below W.heap.size W V) => (show V.cell? ⟨wr.heap.size, 0, none⟩ = some (.slice A1 n1 c1) ∧ V.cell? ⟨wr.heap.size, 1, none⟩ = some (.slice A2 n2 c2) ∧ V.cell? ⟨wr.heap.size, 2, none⟩ = some (.slice A3 n3 c3) ∧ V.cell? ⟨wr.heap.size, 3, none⟩ = some (.slice A4 n4 c4) from ⟨(HX.out.go hv).cell 0, (HX.out.go hv).cell 1, (HX.out.go hv).cell 2, (HX.out.go hv).cell 3⟩))
        have kk : Below W.heap.size W W.drew := (Below.refl _ W).drew
        refine region_nrm fun KK hKK => ?_
        refine wp_region_held_drew (S := (fun V => (V.cell? ⟨wr.heap.size, 0, none⟩ = some (.slice A1 n1 c1) ∧ V.cell? ⟨wr.heap.size, 1, none⟩ = some (.slice A2 n2 c2) ∧ V.cell? ⟨wr.heap.size, 2, none⟩ = some (.slice A3 n3 c3) ∧ V.cell? ⟨wr.heap.size, 3, none⟩ = some (.slice A4 n4 c4)) ∧ V.cell? ⟨g, 1, none⟩ = some (.slice (some ⟨G, 0, none⟩) m d2))) (by kernel_rfl) (by first | exact ⟨kW.out _ kk, CP.out.blk.cell 1⟩ | exact hS9) (fun hHeld => ?_)
        refine wpAnyH_putD (i := 0) (d := 23) (v := ?_) rfl rfl (by kernel_rfl) (by kernel_rfl) (by kernel_rfl) (fun _ _ _ h => h) (Or.inl ⟨by kernel_rfl, ?_⟩) (by first | exact ⟨kW.out _ kk, CP.out.blk.cell 1⟩ | exact hS9) ?_
        rotate_left
        · (intro w hS; (try dsimp only at hS); go_simp <;> with_reducible rfl)
        try simp only [List.setIfInBounds_toArray, List.set_cons_zero, List.set_cons_succ]
        refine wpAnyH_putD (i := 1) (d := 24) (v := ?_) rfl rfl (by kernel_rfl) (by kernel_rfl) (by kernel_rfl) (fun _ _ _ h => h) (Or.inl ⟨by kernel_rfl, ?_⟩) (by first | exact ⟨kW.out _ kk, CP.out.blk.cell 1⟩ | exact hS9) ?_
        rotate_left
        · (intro w hS; (try dsimp only at hS); go_simp <;> with_reducible rfl)
        try simp only [List.setIfInBounds_toArray, List.set_cons_zero, List.set_cons_succ]
        refine wpAnyH_putD (i := 2) (d := 25) (v := ?_) rfl rfl (by kernel_rfl) (by kernel_rfl) (by kernel_rfl) (fun _ _ _ h => h) (Or.inl ⟨by kernel_rfl, ?_⟩) (by first | exact ⟨kW.out _ kk, CP.out.blk.cell 1⟩ | exact hS9) ?_
        rotate_left
        · (intro w hS; (try dsimp only at hS); go_simp <;> with_reducible rfl)
        try simp only [List.setIfInBounds_toArray, List.set_cons_zero, List.set_cons_succ]
        refine wpAnyH_putD (i := 3) (d := 26) (v := ?_) rfl rfl (by kernel_rfl) (by kernel_rfl) (by kernel_rfl) (fun _ _ _ h => h) (Or.inl ⟨by kernel_rfl, ?_⟩) (by first | exact ⟨kW.out _ kk, CP.out.blk.cell 1⟩ | exact hS9) ?_
        rotate_left
        · (intro w hS; (try dsimp only at hS); go_simp <;> with_reducible rfl)
        try simp only [List.setIfInBounds_toArray, List.set_cons_zero, List.set_cons_succ]
        refine wpAnyH_ready (rs := [4]) (by kernel_rfl) (by simp) ?_
        refine AllReadyH.cons rfl (fun K hK => ?_) AllReadyH.nil
        go_simp
        refine (F.out _ k).mono ?_
        rintro e W1 ⟨⟨E1, e1, f1, E2, e2, f2, E3, e3, f3, E4, e4, f4⟩, rfl, hno, hb'⟩
        have NO := Lib.hid (hno.less k.size)
        have CP := Lib.hid (CP.out.below hb')
        have k := below_then k (Nat.le_refl _) hb'
        have kk := below_then kk (Nat.le_refl _) hb'
        clear hno hb'
        refine hK.out _ _ (by first | exact ⟨kW.out _ kk, CP.out.blk.cell 1⟩ | exact hS9) (fun hHeld => ?_)
        clear hK K
        refine wpAnyH_putD (i := 5) (d := 28) (v := ?_) rfl rfl (by kernel_rfl) (by kernel_rfl) (by kernel_rfl) (fun _ _ _ h => h) (Or.inl ⟨by kernel_rfl, ?_⟩) (by first | exact ⟨kW.out _ kk, CP.out.blk.cell 1⟩ | exact hS9) ?_
        rotate_left
        · (intro w hS; (try dsimp only at hS); go_simp <;> with_reducible rfl)
        try simp only [List.setIfInBounds_toArray, List.set_cons_zero, List.set_cons_succ]
        refine wpAnyH_ready (rs := [6]) (by kernel_rfl) (by simp) ?_
        refine AllReadyH.cons rfl (fun K hK => ?_) AllReadyH.nil
        rw [if_pos (by kernel_rfl)]
        refine wp_store_own 32 (.tmp 28) (.tmp 27) rfl CP.out.o2 #[.slice E1 e1 f1, .slice E2 e2 f2, .slice E3 e3 f3, .slice E4 e4 f4] _ i rfl rfl (by omega) hlt rfl HIN.out (by simp [Value.oneCell']) ?_
        intro W3 ho hg
        have hX3 := (HX.out.go kk).grown hg (by intro h; injection h with h; have := HG.out; omega)
        have hS9 : (W3.cell? ⟨wr.heap.size, 0, none⟩ = some (.slice A1 n1 c1) ∧ W3.cell? ⟨wr.heap.size, 1, none⟩ = some (.slice A2 n2 c2) ∧ W3.cell? ⟨wr.heap.size, 2, none⟩ = some (.slice A3 n3 c3) ∧ W3.cell? ⟨wr.heap.size, 3, none⟩ = some (.slice A4 n4 c4)) ∧ W3.cell? ⟨g, 1, none⟩ = some (.slice (some ⟨G, 0, none⟩) m d2) := ⟨⟨hX3.cell 0, hX3.cell 1, hX3.cell 2, hX3.cell 3⟩, (CP.out.blk.grown hg (blk_ne CP.out.blk CP.out.o2 (by decide))).cell 1⟩
        have CP2 := Lib.hid (OwS.set_ (v := ⟨E1, e1, f1, E2, e2, f2, E3, e3, f3, E4, e4, f4⟩) (x := x) CP.out NO.out (by rw [HML.out]; exact ho) hg)
        clear ho hg CP NO k kk hX3
        refine hK.out _ _ (by first | exact ⟨kW.out _ kk, CP.out.blk.cell 1⟩ | exact hS9) (fun hHeld => ?_)
        clear hK K
        refine wpAnyH_done (by kernel_rfl) ?_ _
        refine Nrm.out (hKK _ _ ?_)
        clear hS9
        go_wp2
        go_roundw
        case rel => exact ⟨i + 1, by go_num, by omega, _, CP2.out, by rw [List.length_append, HML.out]; rfl, HNX.out _⟩
        case measure => simp [intOf]; omega
      · obtain rfl : i = m := by omega
        have HN := Lib.hid (show nts M = nts L by rw [HMN.out]; exact List.take_of_length_le (by rw [nts_len, HLN.out]; exact Nat.le_refl _))
        rw [List.drop_of_length_le (by rw [HLN.out]; exact Nat.le_refl _)] at hM
        have r0 := hM.blk.cell 0
        have r1 := hM.blk.cell 1
        have r2 := hM.blk.cell 2
        have CP := Lib.hid hM
        have HB := Lib.hid hb
        clear hM hb
        go_wp2_with (refine wpList_store_blk rfl 47 _ _ rfl (w.heap.size + 1) 47 _ #[.slice D1 n d1, .slice D2 i d2, .int .i64 su] rfl rfl (HB2.out _ HB.out) HI.out rfl (by simp [Value.oneCell']) ?_; intro W hblk hg)
        have o1 := CP.out.o1
        have o2 := CP.out.o2
        rw [List.append_nil] at o2
        refine bodyPost_ret (results_cell_row rfl _ _ (w.heap.size + 1) 47 _ _ _ rfl hblk Tryd.underlying47 rfl HI.out) rfl ⟨⟨D1, n, d1, D2, i, d2⟩, M, rfl, LgOwn.less (LgOwn.far ⟨HL1.out, o1, HML.out, o2, CP.out.each⟩ hg hsz) HB0.out.size, HN.out, ?_⟩
        exact (below_then HB0.out (Nat.le_refl _) HB.out).trans (grown_below hg (Nat.le_trans HB0.out.size HB.out.size) (fun j hj => by cases hj; exact Nat.le_succ _))
end Go.Proofs.YtldcgmnfohhjbaaDoor
