/- Walks over the document's Copy of notes, note.Of and the document's Of (printed by wip/tools/genNtD.py). -/
import Derived.Test.YtnibkniggiokkaaDoorNtC
import Derived.Test.YtnibkniggiokkaaDoorMVec
namespace Go.Proofs.YtnibkniggiokkaaDoor
open Go.RowKit
set_option maxRecDepth 100000

theorem notes_zero : (Tryd.prog.info? 26).map (fun i => (i.zero, i.size)) = some (some (.agg #[.slice none 0 0, .slice none 0 0, .slice none 0 0, .slice none 0 0]), 4) := by kernel_rfl
/-- A result that lies in a cell, and one in a slot. -/
theorem results_cell_tmp {P : Program} {fn : Func} {p q : Tmp} {ty : TypeId} (h : fn.results = #[.cell p ty, .tmp q]) (tmps : Array Value) (w : World) (g : Nat) (t : TypeId) (cs : Array Value) (fr : Nat × Nat) (d : TypeDesc)
    (hp : tmps.getD p undef = .pointer (some ⟨g, 0, none⟩)) (hg : w.heap[g]? = some (.cells cs t fr))
    (hu : P.underlying ty = some d) (hd : (match d with | .struct _ | .array _ _ => true | _ => false) = true) (hi : (P.info? ty).map (·.size) = some cs.size) :
    (results fn tmps).run P w = .ok (.tuple #[.agg cs, tmps.getD q undef]) w := by
  have hp' : tmps[p]?.getD undef = .pointer (some ⟨g, 0, none⟩) := by simpa using hp
  simp [results, h, hp', asAddr, run_loadVar_row w g t ty cs fr d hg hu hd hi]

/-- How long a note's lists may be for its copies to fit. -/
structure NtSz (v : NV) : Prop where
  s1 : v.n1 ≤ 8796093022208
  s2 : v.n2 ≤ 8796093022208
  s3 : v.n3 ≤ 8796093022208
  s4 : v.n4 ≤ 4398046511104

/-- A note whose lists are of the call's own. -/
structure NtOwn (w : World) (base : Nat) (v : NV) (x : Nt) : Prop where
  l1 : x.s.length = v.n1
  o1 : w.ownsRow base 44 2 (.slice v.A1 v.n1 v.c1) v.n1 (sv x.s)
  l2 : x.e.length = v.n2
  o2 : w.ownsRow base 44 2 (.slice v.A2 v.n2 v.c2) v.n2 (sv x.e)
  l3 : x.b.length = v.n3
  o3 : w.ownsRow base 37 2 (.slice v.A3 v.n3 v.c3) v.n3 (sv x.b)
  l4 : x.w.length = v.n4
  o4 : w.ownsRow base 46 4 (.slice v.A4 v.n4 v.c4) v.n4 (wv x.w)
theorem NtOwn.rd {w : World} {base : Nat} {v : NV} {x : Nt} (h : NtOwn w base v x) : NtRd w w.heap.size v x := ⟨h.l1, Rd.of_own h.o1, h.l2, Rd.of_own h.o2, h.l3, Rd.of_own h.o3, h.l4, Rd.of_own h.o4⟩
theorem NtOwn.below {w w' : World} {base : Nat} {v : NV} {x : Nt} (h : NtOwn w base v x) (hb : Below w.heap.size w w') : NtOwn w' base v x :=
  ⟨h.l1, own_below h.o1 hb (Nat.le_refl _), h.l2, own_below h.o2 hb (Nat.le_refl _), h.l3, own_below h.o3 hb (Nat.le_refl _), h.l4, own_below h.o4 hb (Nat.le_refl _)⟩
theorem NtOwn.less {w : World} {base base' : Nat} {v : NV} {x : Nt} (h : NtOwn w base v x) (hb : base' ≤ base) : NtOwn w base' v x := ⟨h.l1, own_less h.o1 hb, h.l2, own_less h.o2 hb, h.l3, own_less h.o3 hb, h.l4, own_less h.o4 hb⟩
theorem NtOwn.row {w w' : World} {base b size n : Nat} {e : TypeId} {u : Value} {xs : List Value} {v : NV} {x : Nt} (h : NtOwn w base v x) (ho : w.ownsRow b e size u n xs) (h1 : 44 ≠ e) (h2 : 37 ≠ e) (h3 : 46 ≠ e) (hg : w.grownBy w' u.ownBlock) : NtOwn w' base v x :=
  ⟨h.l1, h.o1.kept hg (own_two h.o1 ho h1), h.l2, h.o2.kept hg (own_two h.o2 ho h1), h.l3, h.o3.kept hg (own_two h.o3 ho h2), h.l4, h.o4.kept hg (own_two h.o4 ho h3)⟩
/-- A row and a known block of another type lie apart. -/
theorem own_blk {w : World} {base g : Nat} {e t : TypeId} {size n : Nat} {v : Value} {xs : List Value} {cs : Array Value} (h : w.ownsRow base e size v n xs) (hg : Blk w g t cs) (he : e ≠ t) : v.ownBlock = none ∨ v.ownBlock ≠ some g := by
  rcases h.2 with ⟨rfl, _⟩ | ⟨g', cap, cur, rfl, _, hh, _⟩
  · exact .inl rfl
  · refine .inr fun e' => ?_
    obtain rfl : g' = g := by simpa [Value.ownBlock] using e'
    unfold Blk at hg
    rw [hh] at hg
    injection hg with hg
    injection hg with _ h2
    exact he h2
theorem NtOwn.blk {w w' : World} {base g : Nat} {t : TypeId} {cs : Array Value} {v : NV} {x : Nt} (h : NtOwn w base v x) (ho : Blk w g t cs) (h1 : 44 ≠ t) (h2 : 37 ≠ t) (h3 : 46 ≠ t) (hg : w.grownBy w' (some g)) : NtOwn w' base v x :=
  ⟨h.l1, h.o1.kept hg (own_blk h.o1 ho h1), h.l2, h.o2.kept hg (own_blk h.o2 ho h1), h.l3, h.o3.kept hg (own_blk h.o3 ho h2), h.l4, h.o4.kept hg (own_blk h.o4 ho h3)⟩

set_option maxHeartbeats 8000000 in
theorem refNtCopy_own (v : NV) (x : Nt) (w : World) (hN : NtRd w w.heap.size v x) (hs : NtSz v) :
    Calls Tryd.prog 8 #[.agg v.val] w fun e w' => ∃ v' : NV, e = .returned (.agg v'.val) ∧ NtOwn w' w.heap.size v' x ∧ Below w.heap.size w w' := by
  obtain ⟨hzz, hi⟩ := zero_of_info notes_zero
  have HI := Lib.hid hi
  obtain ⟨i0, hi0, hz0, hz1, hz2⟩ := info_parts writes_info
  obtain ⟨A1, n1, c1, A2, n2, c2, A3, n3, c3, A4, n4, c4⟩ := v
  obtain ⟨s1, s2, s3, s4⟩ := hs
  dsimp only at s1 s2 s3 s4
  have hb1 : Below w.heap.size w (w.alloc (.cells #[.slice A1 n1 c1, .slice A2 n2 c2, .slice A3 n3 c3, .slice A4 n4 c4] 26)) := (Below.refl _ _).alloc (Nat.le_refl _) _
  have hb0 : Below w.heap.size w ((w.alloc (.cells #[.slice A1 n1 c1, .slice A2 n2 c2, .slice A3 n3 c3, .slice A4 n4 c4] 26)).alloc (.cells #[.slice none 0 0, .slice none 0 0, .slice none 0 0, .slice none 0 0] 26)) := hb1.alloc hb1.size _
  have hB1 := (Blk.new w 26 #[.slice A1 n1 c1, .slice A2 n2 c2, .slice A3 n3 c3, .slice A4 n4 c4]).alloc (.cells #[.slice none 0 0, .slice none 0 0, .slice none 0 0, .slice none 0 0] 26)
  have hB2 := Blk.new (w.alloc (.cells #[.slice A1 n1 c1, .slice A2 n2 c2, .slice A3 n3 c3, .slice A4 n4 c4] 26)) 26 #[.slice none 0 0, .slice none 0 0, .slice none 0 0, .slice none 0 0]
  rw [World.size_alloc] at hB2
  obtain ⟨w0, hw0⟩ : ∃ w0, w0 = (w.alloc (.cells #[.slice A1 n1 c1, .slice A2 n2 c2, .slice A3 n3 c3, .slice A4 n4 c4] 26)).alloc (.cells #[.slice none 0 0, .slice none 0 0, .slice none 0 0, .slice none 0 0] 26) := ⟨_, rfl⟩
  rw [← hw0] at hb0 hB1 hB2
  obtain ⟨l1, m1, l2, m2, l3, m3, l4, m4⟩ := hN.go hb0
  dsimp only at l1 m1 l2 m2 l3 m3 l4 m4
  have h63 : 0 + n4 ≤ maxLen := by have h1 := m4.cap; have h2 := m4.max; omega
  have hsz : w.heap.size + 1 < w0.heap.size := hB2.lt
  have HS := Lib.hid fun W (hb : Below w0.heap.size w0 W) => (show (W.cell? ⟨w.heap.size, 0, none⟩ = some (.slice A1 n1 c1) ∧ W.cell? ⟨w.heap.size, 1, none⟩ = some (.slice A2 n2 c2) ∧ W.cell? ⟨w.heap.size, 2, none⟩ = some (.slice A3 n3 c3) ∧ W.cell? ⟨w.heap.size, 3, none⟩ = some (.slice A4 n4 c4)) from
    ⟨(hB1.go hb).cell 0, (hB1.go hb).cell 1, (hB1.go hb).cell 2, (hB1.go hb).cell 3⟩)
  have HS9 := Lib.hid fun W (hb : Below w0.heap.size w0 W) W' (hg : W.grownBy W' (some (w.heap.size + 1))) => (show (W'.cell? ⟨w.heap.size, 0, none⟩ = some (.slice A1 n1 c1) ∧ W'.cell? ⟨w.heap.size, 1, none⟩ = some (.slice A2 n2 c2) ∧ W'.cell? ⟨w.heap.size, 2, none⟩ = some (.slice A3 n3 c3) ∧ W'.cell? ⟨w.heap.size, 3, none⟩ = some (.slice A4 n4 c4)) from
    ⟨((hB1.go hb).grown hg (by simp)).cell 0, ((hB1.go hb).grown hg (by simp)).cell 1, ((hB1.go hb).grown hg (by simp)).cell 2, ((hB1.go hb).grown hg (by simp)).cell 3⟩)
  have HB2 := Lib.hid fun W (hb : Below w0.heap.size w0 W) => hB2.go hb
  have H1 := Lib.hid fun (W : World) (hb : Below w0.heap.size w0 W) => vcopy_any A1 n1 c1 (sv x.s) W (m1.go hb) (sv_oneCell _) s1
  have H2 := Lib.hid fun (W : World) (hb : Below w0.heap.size w0 W) => vcopy_any A2 n2 c2 (sv x.e) W (m2.go hb) (sv_oneCell _) s2
  have H3 := Lib.hid fun (W : World) (hb : Below w0.heap.size w0 W) => copyS_any A3 n3 c3 (sv x.b) W (m3.go hb) (sv_oneCell _) s3
  have H4 := Lib.hid fun (W : World) (hb : Below w0.heap.size w0 W) => m4.go hb
  have L1 := Lib.hid l1
  have L2 := Lib.hid l2
  have L3 := Lib.hid l3
  have L4 := Lib.hid l4
  have HW := Lib.hid hw0.symm
  have HB0 := Lib.hid hb0
  have k : Below w0.heap.size w0 w0.drew := (Below.refl _ w0).drew
  clear hN l1 m1 l2 m2 l3 m3 l4 m4 hB1 hB2 hw0 hb1 hb0 hi
  go_enter Tryd.func8, Tryd.ntmps8
  go_wp2_with fail
  rw [HW.out]
  refine region_nrm fun KK hKK => ?_
  refine wp_region_held_drew (S := (fun W => W.cell? ⟨w.heap.size, 0, none⟩ = some (.slice A1 n1 c1) ∧ W.cell? ⟨w.heap.size, 1, none⟩ = some (.slice A2 n2 c2) ∧ W.cell? ⟨w.heap.size, 2, none⟩ = some (.slice A3 n3 c3) ∧ W.cell? ⟨w.heap.size, 3, none⟩ = some (.slice A4 n4 c4))) (by kernel_rfl) (by first | exact HS.out _ k | exact hS9) (fun hHeld => ?_)
  refine wpAnyH_putD (i := 0) (d := 3) (v := ?_) rfl rfl (by kernel_rfl) (by kernel_rfl) (by kernel_rfl) (fun _ _ _ h => h) (Or.inl ⟨by kernel_rfl, ?_⟩) (by first | exact HS.out _ k | exact hS9) ?_
  rotate_left
  · (intro w hS; (try dsimp only at hS); go_simp <;> with_reducible rfl)
  try simp only [List.setIfInBounds_toArray, List.set_cons_zero, List.set_cons_succ]
  refine wpAnyH_putD (i := 1) (d := 4) (v := ?_) rfl rfl (by kernel_rfl) (by kernel_rfl) (by kernel_rfl) (fun _ _ _ h => h) (Or.inl ⟨by kernel_rfl, ?_⟩) (by first | exact HS.out _ k | exact hS9) ?_
  rotate_left
  · (intro w hS; (try dsimp only at hS); go_simp <;> with_reducible rfl)
  try simp only [List.setIfInBounds_toArray, List.set_cons_zero, List.set_cons_succ]
  refine wpAnyH_putD (i := 3) (d := 6) (v := ?_) rfl rfl (by kernel_rfl) (by kernel_rfl) (by kernel_rfl) (fun _ _ _ h => h) (Or.inl ⟨by kernel_rfl, ?_⟩) (by first | exact HS.out _ k | exact hS9) ?_
  rotate_left
  · (intro w hS; (try dsimp only at hS); go_simp <;> with_reducible rfl)
  try simp only [List.setIfInBounds_toArray, List.set_cons_zero, List.set_cons_succ]
  refine wpAnyH_putD (i := 4) (d := 7) (v := ?_) rfl rfl (by kernel_rfl) (by kernel_rfl) (by kernel_rfl) (fun _ _ _ h => h) (Or.inl ⟨by kernel_rfl, ?_⟩) (by first | exact HS.out _ k | exact hS9) ?_
  rotate_left
  · (intro w hS; (try dsimp only at hS); go_simp <;> with_reducible rfl)
  try simp only [List.setIfInBounds_toArray, List.set_cons_zero, List.set_cons_succ]
  refine wpAnyH_putD (i := 6) (d := 9) (v := ?_) rfl rfl (by kernel_rfl) (by kernel_rfl) (by kernel_rfl) (fun _ _ _ h => h) (Or.inl ⟨by kernel_rfl, ?_⟩) (by first | exact HS.out _ k | exact hS9) ?_
  rotate_left
  · (intro w hS; (try dsimp only at hS); go_simp <;> with_reducible rfl)
  try simp only [List.setIfInBounds_toArray, List.set_cons_zero, List.set_cons_succ]
  refine wpAnyH_putD (i := 7) (d := 10) (v := ?_) rfl rfl (by kernel_rfl) (by kernel_rfl) (by kernel_rfl) (fun _ _ _ h => h) (Or.inl ⟨by kernel_rfl, ?_⟩) (by first | exact HS.out _ k | exact hS9) ?_
  rotate_left
  · (intro w hS; (try dsimp only at hS); go_simp <;> with_reducible rfl)
  try simp only [List.setIfInBounds_toArray, List.set_cons_zero, List.set_cons_succ]
  refine wpAnyH_putD (i := 10) (d := 13) (v := ?_) rfl rfl (by kernel_rfl) (by kernel_rfl) (by kernel_rfl) (fun _ _ _ h => h) (Or.inl ⟨by kernel_rfl, ?_⟩) (by first | exact HS.out _ k | exact hS9) ?_
  rotate_left
  · (intro w hS; (try dsimp only at hS); go_simp <;> with_reducible rfl)
  try simp only [List.setIfInBounds_toArray, List.set_cons_zero, List.set_cons_succ]
  refine wpAnyH_putD (i := 11) (d := 14) (v := ?_) rfl rfl (by kernel_rfl) (by kernel_rfl) (by kernel_rfl) (fun _ _ _ h => h) (Or.inl ⟨by kernel_rfl, ?_⟩) (by first | exact HS.out _ k | exact hS9) ?_
  rotate_left
  · (intro w hS; (try dsimp only at hS); go_simp <;> with_reducible rfl)
  try simp only [List.setIfInBounds_toArray, List.set_cons_zero, List.set_cons_succ]
  refine wpAnyH_ready (rs := [2, 9]) (by kernel_rfl) (by simp) ?_
  refine AllReadyH.cons rfl (fun K hK => ?_) (AllReadyH.cons rfl (fun K hK => ?_) AllReadyH.nil)
  · go_simp
    refine (H1.out _ k).mono ?_
    rintro e W ⟨D1, d1, rfl, ho, hb'⟩
    have C1 := Lib.hid (own_less ho k.size)
    have k := below_then k (Nat.le_refl _) hb'
    try (have C2 := Lib.hid (own_below C2.out hb' (Nat.le_refl _)))
    try (have C3 := Lib.hid (own_below C3.out hb' (Nat.le_refl _)))
    try (have E := Lib.hid (own_below E.out hb' (Nat.le_refl _)))
    clear ho hb'
    refine hK.out _ _ (by first | exact HS.out _ k | exact hS9) (fun hHeld => ?_)
    clear hK K
    refine wpAnyH_ready (rs := [5, 9]) (by kernel_rfl) (by simp) ?_
    refine AllReadyH.cons rfl (fun K hK => ?_) (AllReadyH.cons rfl (fun K hK => ?_) AllReadyH.nil)
    · go_simp
      refine (H2.out _ k).mono ?_
      rintro e W ⟨D2, d2, rfl, ho, hb'⟩
      have C2 := Lib.hid (own_less ho k.size)
      have k := below_then k (Nat.le_refl _) hb'
      try (have C1 := Lib.hid (own_below C1.out hb' (Nat.le_refl _)))
      try (have C3 := Lib.hid (own_below C3.out hb' (Nat.le_refl _)))
      try (have E := Lib.hid (own_below E.out hb' (Nat.le_refl _)))
      clear ho hb'
      refine hK.out _ _ (by first | exact HS.out _ k | exact hS9) (fun hHeld => ?_)
      clear hK K
      refine wpAnyH_ready (rs := [8, 9]) (by kernel_rfl) (by simp) ?_
      refine AllReadyH.cons rfl (fun K hK => ?_) (AllReadyH.cons rfl (fun K hK => ?_) AllReadyH.nil)
      · go_simp
        refine (H3.out _ k).mono ?_
        rintro e W ⟨D3, d3, rfl, ho, hb'⟩
        have C3 := Lib.hid (own_less ho k.size)
        have k := below_then k (Nat.le_refl _) hb'
        try (have C1 := Lib.hid (own_below C1.out hb' (Nat.le_refl _)))
        try (have C2 := Lib.hid (own_below C2.out hb' (Nat.le_refl _)))
        try (have E := Lib.hid (own_below E.out hb' (Nat.le_refl _)))
        clear ho hb'
        refine hK.out _ _ (by first | exact HS.out _ k | exact hS9) (fun hHeld => ?_)
        clear hK K
        refine wpAnyH_ready (rs := [9]) (by kernel_rfl) (by simp) ?_
        refine AllReadyH.cons rfl (fun K hK => ?_) AllReadyH.nil
        go_simp
        have hb' := then_alloc k (.cells #[] 46)
        have E := Lib.hid (own_less (emptyOf hb' 4) k.size)
        have k := below_then k (Nat.le_refl _) hb'
        try (have C1 := Lib.hid (own_below C1.out hb' (Nat.le_refl _)))
        try (have C2 := Lib.hid (own_below C2.out hb' (Nat.le_refl _)))
        try (have C3 := Lib.hid (own_below C3.out hb' (Nat.le_refl _)))
        clear hb'
        refine hK.out _ _ (by first | exact HS.out _ k | exact hS9) (fun hHeld => ?_)
        clear hK K
        refine wpAnyH_ready (rs := [12]) (by kernel_rfl) (by simp) ?_
        refine AllReadyH.cons rfl (fun K hK => ?_) AllReadyH.nil
        rw [if_pos (by kernel_rfl)]
        refine wp_append_rd _ (.tmp 12) (.tmp 14) _ rfl w0.heap.size 46 i0 _ 4 32 Tryd.underlying24 hi0 hz0 hz1 hz2 rfl (by decide) _ 0 [] rfl E.out _ A4 n4 c4 (wv x.w) rfl (H4.out _ k) (wv_oneCell _) h63 (by omega) k.size ?_
        intro D4 d4 W ho hg hat
        simp only [Nat.zero_add, List.nil_append] at ho ⊢
        have C1 := Lib.hid (C1.out.kept hg (own_two C1.out E.out (by decide)))
        have C2 := Lib.hid (C2.out.kept hg (own_two C2.out E.out (by decide)))
        have C3 := Lib.hid (C3.out.kept hg (own_two C3.out E.out (by decide)))
        have k := k.trans (grown_below hg k.size (fun g hg' => (E.out.lt g hg').1))
        have C4 := Lib.hid ho
        clear ho hg hat E
        refine hK.out _ _ (by first | exact HS.out _ k | exact hS9) (fun hHeld => ?_)
        clear hK K
        refine wpAnyH_putD (i := 13) (d := 16) (v := ?_) rfl rfl (by kernel_rfl) (by kernel_rfl) (by kernel_rfl) (fun _ _ _ h => h) (Or.inl ⟨by kernel_rfl, ?_⟩) (by first | exact HS.out _ k | exact hS9) ?_
        rotate_left
        · (intro w hS; (try dsimp only at hS); go_simp <;> with_reducible rfl)
        try simp only [List.setIfInBounds_toArray, List.set_cons_zero, List.set_cons_succ]
        refine wpAnyH_ready (rs := [14]) (by kernel_rfl) (by simp) ?_
        refine AllReadyH.cons rfl (fun K hK => ?_) AllReadyH.nil
        rw [if_pos (by kernel_rfl)]
        refine wp_store_blk 26 (.tmp 2) (.tmp 16) rfl (w.heap.size + 1) 26 _ #[.slice D1 n1 d1, .slice D2 n2 d2, .slice D3 n3 d3, .slice D4 n4 d4] rfl rfl (HB2.out _ k) HI.out rfl (by simp [Value.oneCell']) ?_
        intro W hblk hg
        have hS9 := HS9.out _ k _ hg
        have kw := (HB0.out.trans (k.mono HB0.out.size)).trans (grown_below hg (Nat.le_trans HB0.out.size k.size) (fun g hg' => by cases hg'; exact Nat.le_succ _))
        have C1 := Lib.hid (C1.out.kept hg (own_ne C1.out hsz))
        have C2 := Lib.hid (C2.out.kept hg (own_ne C2.out hsz))
        have C3 := Lib.hid (C3.out.kept hg (own_ne C3.out hsz))
        have C4 := Lib.hid (C4.out.kept hg (own_ne C4.out hsz))
        clear hg k
        refine hK.out _ _ (by first | exact HS.out _ k | exact hS9) (fun hHeld => ?_)
        clear hK K
        refine wpAnyH_done (by kernel_rfl) ?_ _
        refine Nrm.out (hKK _ _ ?_)
        go_wp2
        refine bodyPost_ret (results_cell_row rfl _ _ (w.heap.size + 1) 26 _ _ _ rfl hblk Tryd.underlying26 rfl HI.out) rfl ⟨⟨D1, n1, d1, D2, n2, d2, D3, n3, d3, D4, n4, d4⟩, rfl, ⟨L1.out, own_less C1.out HB0.out.size, L2.out, own_less C2.out HB0.out.size, L3.out, own_less C3.out HB0.out.size, L4.out, own_less C4.out HB0.out.size⟩, kw⟩
      · go_simp
        have hb' := then_alloc k (.cells #[] 46)
        have E := Lib.hid (own_less (emptyOf hb' 4) k.size)
        have k := below_then k (Nat.le_refl _) hb'
        try (have C1 := Lib.hid (own_below C1.out hb' (Nat.le_refl _)))
        try (have C2 := Lib.hid (own_below C2.out hb' (Nat.le_refl _)))
        try (have C3 := Lib.hid (own_below C3.out hb' (Nat.le_refl _)))
        clear hb'
        refine hK.out _ _ (by first | exact HS.out _ k | exact hS9) (fun hHeld => ?_)
        clear hK K
        refine wpAnyH_ready (rs := [8]) (by kernel_rfl) (by simp) ?_
        refine AllReadyH.cons rfl (fun K hK => ?_) AllReadyH.nil
        go_simp
        refine (H3.out _ k).mono ?_
        rintro e W ⟨D3, d3, rfl, ho, hb'⟩
        have C3 := Lib.hid (own_less ho k.size)
        have k := below_then k (Nat.le_refl _) hb'
        try (have C1 := Lib.hid (own_below C1.out hb' (Nat.le_refl _)))
        try (have C2 := Lib.hid (own_below C2.out hb' (Nat.le_refl _)))
        try (have E := Lib.hid (own_below E.out hb' (Nat.le_refl _)))
        clear ho hb'
        refine hK.out _ _ (by first | exact HS.out _ k | exact hS9) (fun hHeld => ?_)
        clear hK K
        refine wpAnyH_ready (rs := [12]) (by kernel_rfl) (by simp) ?_
        refine AllReadyH.cons rfl (fun K hK => ?_) AllReadyH.nil
        rw [if_pos (by kernel_rfl)]
        refine wp_append_rd _ (.tmp 12) (.tmp 14) _ rfl w0.heap.size 46 i0 _ 4 32 Tryd.underlying24 hi0 hz0 hz1 hz2 rfl (by decide) _ 0 [] rfl E.out _ A4 n4 c4 (wv x.w) rfl (H4.out _ k) (wv_oneCell _) h63 (by omega) k.size ?_
        intro D4 d4 W ho hg hat
        simp only [Nat.zero_add, List.nil_append] at ho ⊢
        have C1 := Lib.hid (C1.out.kept hg (own_two C1.out E.out (by decide)))
        have C2 := Lib.hid (C2.out.kept hg (own_two C2.out E.out (by decide)))
        have C3 := Lib.hid (C3.out.kept hg (own_two C3.out E.out (by decide)))
        have k := k.trans (grown_below hg k.size (fun g hg' => (E.out.lt g hg').1))
        have C4 := Lib.hid ho
        clear ho hg hat E
        refine hK.out _ _ (by first | exact HS.out _ k | exact hS9) (fun hHeld => ?_)
        clear hK K
        refine wpAnyH_putD (i := 13) (d := 16) (v := ?_) rfl rfl (by kernel_rfl) (by kernel_rfl) (by kernel_rfl) (fun _ _ _ h => h) (Or.inl ⟨by kernel_rfl, ?_⟩) (by first | exact HS.out _ k | exact hS9) ?_
        rotate_left
        · (intro w hS; (try dsimp only at hS); go_simp <;> with_reducible rfl)
        try simp only [List.setIfInBounds_toArray, List.set_cons_zero, List.set_cons_succ]
        refine wpAnyH_ready (rs := [14]) (by kernel_rfl) (by simp) ?_
        refine AllReadyH.cons rfl (fun K hK => ?_) AllReadyH.nil
        rw [if_pos (by kernel_rfl)]
        refine wp_store_blk 26 (.tmp 2) (.tmp 16) rfl (w.heap.size + 1) 26 _ #[.slice D1 n1 d1, .slice D2 n2 d2, .slice D3 n3 d3, .slice D4 n4 d4] rfl rfl (HB2.out _ k) HI.out rfl (by simp [Value.oneCell']) ?_
        intro W hblk hg
        have hS9 := HS9.out _ k _ hg
        have kw := (HB0.out.trans (k.mono HB0.out.size)).trans (grown_below hg (Nat.le_trans HB0.out.size k.size) (fun g hg' => by cases hg'; exact Nat.le_succ _))
        have C1 := Lib.hid (C1.out.kept hg (own_ne C1.out hsz))
        have C2 := Lib.hid (C2.out.kept hg (own_ne C2.out hsz))
        have C3 := Lib.hid (C3.out.kept hg (own_ne C3.out hsz))
        have C4 := Lib.hid (C4.out.kept hg (own_ne C4.out hsz))
        clear hg k
        refine hK.out _ _ (by first | exact HS.out _ k | exact hS9) (fun hHeld => ?_)
        clear hK K
        refine wpAnyH_done (by kernel_rfl) ?_ _
        refine Nrm.out (hKK _ _ ?_)
        go_wp2
        refine bodyPost_ret (results_cell_row rfl _ _ (w.heap.size + 1) 26 _ _ _ rfl hblk Tryd.underlying26 rfl HI.out) rfl ⟨⟨D1, n1, d1, D2, n2, d2, D3, n3, d3, D4, n4, d4⟩, rfl, ⟨L1.out, own_less C1.out HB0.out.size, L2.out, own_less C2.out HB0.out.size, L3.out, own_less C3.out HB0.out.size, L4.out, own_less C4.out HB0.out.size⟩, kw⟩
    · go_simp
      have hb' := then_alloc k (.cells #[] 46)
      have E := Lib.hid (own_less (emptyOf hb' 4) k.size)
      have k := below_then k (Nat.le_refl _) hb'
      try (have C1 := Lib.hid (own_below C1.out hb' (Nat.le_refl _)))
      try (have C2 := Lib.hid (own_below C2.out hb' (Nat.le_refl _)))
      try (have C3 := Lib.hid (own_below C3.out hb' (Nat.le_refl _)))
      clear hb'
      refine hK.out _ _ (by first | exact HS.out _ k | exact hS9) (fun hHeld => ?_)
      clear hK K
      refine wpAnyH_ready (rs := [5]) (by kernel_rfl) (by simp) ?_
      refine AllReadyH.cons rfl (fun K hK => ?_) AllReadyH.nil
      go_simp
      refine (H2.out _ k).mono ?_
      rintro e W ⟨D2, d2, rfl, ho, hb'⟩
      have C2 := Lib.hid (own_less ho k.size)
      have k := below_then k (Nat.le_refl _) hb'
      try (have C1 := Lib.hid (own_below C1.out hb' (Nat.le_refl _)))
      try (have C3 := Lib.hid (own_below C3.out hb' (Nat.le_refl _)))
      try (have E := Lib.hid (own_below E.out hb' (Nat.le_refl _)))
      clear ho hb'
      refine hK.out _ _ (by first | exact HS.out _ k | exact hS9) (fun hHeld => ?_)
      clear hK K
      refine wpAnyH_ready (rs := [8]) (by kernel_rfl) (by simp) ?_
      refine AllReadyH.cons rfl (fun K hK => ?_) AllReadyH.nil
      go_simp
      refine (H3.out _ k).mono ?_
      rintro e W ⟨D3, d3, rfl, ho, hb'⟩
      have C3 := Lib.hid (own_less ho k.size)
      have k := below_then k (Nat.le_refl _) hb'
      try (have C1 := Lib.hid (own_below C1.out hb' (Nat.le_refl _)))
      try (have C2 := Lib.hid (own_below C2.out hb' (Nat.le_refl _)))
      try (have E := Lib.hid (own_below E.out hb' (Nat.le_refl _)))
      clear ho hb'
      refine hK.out _ _ (by first | exact HS.out _ k | exact hS9) (fun hHeld => ?_)
      clear hK K
      refine wpAnyH_ready (rs := [12]) (by kernel_rfl) (by simp) ?_
      refine AllReadyH.cons rfl (fun K hK => ?_) AllReadyH.nil
      rw [if_pos (by kernel_rfl)]
      refine wp_append_rd _ (.tmp 12) (.tmp 14) _ rfl w0.heap.size 46 i0 _ 4 32 Tryd.underlying24 hi0 hz0 hz1 hz2 rfl (by decide) _ 0 [] rfl E.out _ A4 n4 c4 (wv x.w) rfl (H4.out _ k) (wv_oneCell _) h63 (by omega) k.size ?_
      intro D4 d4 W ho hg hat
      simp only [Nat.zero_add, List.nil_append] at ho ⊢
      have C1 := Lib.hid (C1.out.kept hg (own_two C1.out E.out (by decide)))
      have C2 := Lib.hid (C2.out.kept hg (own_two C2.out E.out (by decide)))
      have C3 := Lib.hid (C3.out.kept hg (own_two C3.out E.out (by decide)))
      have k := k.trans (grown_below hg k.size (fun g hg' => (E.out.lt g hg').1))
      have C4 := Lib.hid ho
      clear ho hg hat E
      refine hK.out _ _ (by first | exact HS.out _ k | exact hS9) (fun hHeld => ?_)
      clear hK K
      refine wpAnyH_putD (i := 13) (d := 16) (v := ?_) rfl rfl (by kernel_rfl) (by kernel_rfl) (by kernel_rfl) (fun _ _ _ h => h) (Or.inl ⟨by kernel_rfl, ?_⟩) (by first | exact HS.out _ k | exact hS9) ?_
      rotate_left
      · (intro w hS; (try dsimp only at hS); go_simp <;> with_reducible rfl)
      try simp only [List.setIfInBounds_toArray, List.set_cons_zero, List.set_cons_succ]
      refine wpAnyH_ready (rs := [14]) (by kernel_rfl) (by simp) ?_
      refine AllReadyH.cons rfl (fun K hK => ?_) AllReadyH.nil
      rw [if_pos (by kernel_rfl)]
      refine wp_store_blk 26 (.tmp 2) (.tmp 16) rfl (w.heap.size + 1) 26 _ #[.slice D1 n1 d1, .slice D2 n2 d2, .slice D3 n3 d3, .slice D4 n4 d4] rfl rfl (HB2.out _ k) HI.out rfl (by simp [Value.oneCell']) ?_
      intro W hblk hg
      have hS9 := HS9.out _ k _ hg
      have kw := (HB0.out.trans (k.mono HB0.out.size)).trans (grown_below hg (Nat.le_trans HB0.out.size k.size) (fun g hg' => by cases hg'; exact Nat.le_succ _))
      have C1 := Lib.hid (C1.out.kept hg (own_ne C1.out hsz))
      have C2 := Lib.hid (C2.out.kept hg (own_ne C2.out hsz))
      have C3 := Lib.hid (C3.out.kept hg (own_ne C3.out hsz))
      have C4 := Lib.hid (C4.out.kept hg (own_ne C4.out hsz))
      clear hg k
      refine hK.out _ _ (by first | exact HS.out _ k | exact hS9) (fun hHeld => ?_)
      clear hK K
      refine wpAnyH_done (by kernel_rfl) ?_ _
      refine Nrm.out (hKK _ _ ?_)
      go_wp2
      refine bodyPost_ret (results_cell_row rfl _ _ (w.heap.size + 1) 26 _ _ _ rfl hblk Tryd.underlying26 rfl HI.out) rfl ⟨⟨D1, n1, d1, D2, n2, d2, D3, n3, d3, D4, n4, d4⟩, rfl, ⟨L1.out, own_less C1.out HB0.out.size, L2.out, own_less C2.out HB0.out.size, L3.out, own_less C3.out HB0.out.size, L4.out, own_less C4.out HB0.out.size⟩, kw⟩
  · go_simp
    have hb' := then_alloc k (.cells #[] 46)
    have E := Lib.hid (own_less (emptyOf hb' 4) k.size)
    have k := below_then k (Nat.le_refl _) hb'
    try (have C1 := Lib.hid (own_below C1.out hb' (Nat.le_refl _)))
    try (have C2 := Lib.hid (own_below C2.out hb' (Nat.le_refl _)))
    try (have C3 := Lib.hid (own_below C3.out hb' (Nat.le_refl _)))
    clear hb'
    refine hK.out _ _ (by first | exact HS.out _ k | exact hS9) (fun hHeld => ?_)
    clear hK K
    refine wpAnyH_ready (rs := [2]) (by kernel_rfl) (by simp) ?_
    refine AllReadyH.cons rfl (fun K hK => ?_) AllReadyH.nil
    go_simp
    refine (H1.out _ k).mono ?_
    rintro e W ⟨D1, d1, rfl, ho, hb'⟩
    have C1 := Lib.hid (own_less ho k.size)
    have k := below_then k (Nat.le_refl _) hb'
    try (have C2 := Lib.hid (own_below C2.out hb' (Nat.le_refl _)))
    try (have C3 := Lib.hid (own_below C3.out hb' (Nat.le_refl _)))
    try (have E := Lib.hid (own_below E.out hb' (Nat.le_refl _)))
    clear ho hb'
    refine hK.out _ _ (by first | exact HS.out _ k | exact hS9) (fun hHeld => ?_)
    clear hK K
    refine wpAnyH_ready (rs := [5]) (by kernel_rfl) (by simp) ?_
    refine AllReadyH.cons rfl (fun K hK => ?_) AllReadyH.nil
    go_simp
    refine (H2.out _ k).mono ?_
    rintro e W ⟨D2, d2, rfl, ho, hb'⟩
    have C2 := Lib.hid (own_less ho k.size)
    have k := below_then k (Nat.le_refl _) hb'
    try (have C1 := Lib.hid (own_below C1.out hb' (Nat.le_refl _)))
    try (have C3 := Lib.hid (own_below C3.out hb' (Nat.le_refl _)))
    try (have E := Lib.hid (own_below E.out hb' (Nat.le_refl _)))
    clear ho hb'
    refine hK.out _ _ (by first | exact HS.out _ k | exact hS9) (fun hHeld => ?_)
    clear hK K
    refine wpAnyH_ready (rs := [8]) (by kernel_rfl) (by simp) ?_
    refine AllReadyH.cons rfl (fun K hK => ?_) AllReadyH.nil
    go_simp
    refine (H3.out _ k).mono ?_
    rintro e W ⟨D3, d3, rfl, ho, hb'⟩
    have C3 := Lib.hid (own_less ho k.size)
    have k := below_then k (Nat.le_refl _) hb'
    try (have C1 := Lib.hid (own_below C1.out hb' (Nat.le_refl _)))
    try (have C2 := Lib.hid (own_below C2.out hb' (Nat.le_refl _)))
    try (have E := Lib.hid (own_below E.out hb' (Nat.le_refl _)))
    clear ho hb'
    refine hK.out _ _ (by first | exact HS.out _ k | exact hS9) (fun hHeld => ?_)
    clear hK K
    refine wpAnyH_ready (rs := [12]) (by kernel_rfl) (by simp) ?_
    refine AllReadyH.cons rfl (fun K hK => ?_) AllReadyH.nil
    rw [if_pos (by kernel_rfl)]
    refine wp_append_rd _ (.tmp 12) (.tmp 14) _ rfl w0.heap.size 46 i0 _ 4 32 Tryd.underlying24 hi0 hz0 hz1 hz2 rfl (by decide) _ 0 [] rfl E.out _ A4 n4 c4 (wv x.w) rfl (H4.out _ k) (wv_oneCell _) h63 (by omega) k.size ?_
    intro D4 d4 W ho hg hat
    simp only [Nat.zero_add, List.nil_append] at ho ⊢
    have C1 := Lib.hid (C1.out.kept hg (own_two C1.out E.out (by decide)))
    have C2 := Lib.hid (C2.out.kept hg (own_two C2.out E.out (by decide)))
    have C3 := Lib.hid (C3.out.kept hg (own_two C3.out E.out (by decide)))
    have k := k.trans (grown_below hg k.size (fun g hg' => (E.out.lt g hg').1))
    have C4 := Lib.hid ho
    clear ho hg hat E
    refine hK.out _ _ (by first | exact HS.out _ k | exact hS9) (fun hHeld => ?_)
    clear hK K
    refine wpAnyH_putD (i := 13) (d := 16) (v := ?_) rfl rfl (by kernel_rfl) (by kernel_rfl) (by kernel_rfl) (fun _ _ _ h => h) (Or.inl ⟨by kernel_rfl, ?_⟩) (by first | exact HS.out _ k | exact hS9) ?_
    rotate_left
    · (intro w hS; (try dsimp only at hS); go_simp <;> with_reducible rfl)
    try simp only [List.setIfInBounds_toArray, List.set_cons_zero, List.set_cons_succ]
    refine wpAnyH_ready (rs := [14]) (by kernel_rfl) (by simp) ?_
    refine AllReadyH.cons rfl (fun K hK => ?_) AllReadyH.nil
    rw [if_pos (by kernel_rfl)]
    refine wp_store_blk 26 (.tmp 2) (.tmp 16) rfl (w.heap.size + 1) 26 _ #[.slice D1 n1 d1, .slice D2 n2 d2, .slice D3 n3 d3, .slice D4 n4 d4] rfl rfl (HB2.out _ k) HI.out rfl (by simp [Value.oneCell']) ?_
    intro W hblk hg
    have hS9 := HS9.out _ k _ hg
    have kw := (HB0.out.trans (k.mono HB0.out.size)).trans (grown_below hg (Nat.le_trans HB0.out.size k.size) (fun g hg' => by cases hg'; exact Nat.le_succ _))
    have C1 := Lib.hid (C1.out.kept hg (own_ne C1.out hsz))
    have C2 := Lib.hid (C2.out.kept hg (own_ne C2.out hsz))
    have C3 := Lib.hid (C3.out.kept hg (own_ne C3.out hsz))
    have C4 := Lib.hid (C4.out.kept hg (own_ne C4.out hsz))
    clear hg k
    refine hK.out _ _ (by first | exact HS.out _ k | exact hS9) (fun hHeld => ?_)
    clear hK K
    refine wpAnyH_done (by kernel_rfl) ?_ _
    refine Nrm.out (hKK _ _ ?_)
    go_wp2
    refine bodyPost_ret (results_cell_row rfl _ _ (w.heap.size + 1) 26 _ _ _ rfl hblk Tryd.underlying26 rfl HI.out) rfl ⟨⟨D1, n1, d1, D2, n2, d2, D3, n3, d3, D4, n4, d4⟩, rfl, ⟨L1.out, own_less C1.out HB0.out.size, L2.out, own_less C2.out HB0.out.size, L3.out, own_less C3.out HB0.out.size, L4.out, own_less C4.out HB0.out.size⟩, kw⟩
theorem refNtCopy_any (v : NV) (x : Nt) (w : World) (hN : NtRd w w.heap.size v x) (hs : NtSz v) :
    Calls Tryd.prog 8 #[.agg v.val] w fun e w' => ∃ v' : NV, e = .returned (.agg v'.val) ∧ NtRd w' w'.heap.size v' x ∧ Below w.heap.size w w' :=
  (refNtCopy_own v x w hN hs).mono fun _ _ ⟨v', he, ho, hb⟩ => ⟨v', he, ho.rd, hb⟩

/-- May a write be told behind a vector? -/
def ofOk (u : List Vc.St) (q : Wr) : Bool := fm (-1) u && (Vc.right q.1 && ((decide (0 ≤ q.2.1) && decide (q.2.1 ≤ 255)) && !hasB u q.1))
def ofNt (u : List Vc.St) (q : Wr) : Nt := if ofOk u q = true then ⟨u, vec (jn [u, [q.1]]), [], [q]⟩ else ⟨[], [], [], []⟩
def NV0 : NV := ⟨none, 0, 0, none, 0, 0, none, 0, 0, none, 0, 0⟩
/-- A note and an error, whether it may be told or not. -/
def OfP (w : World) (z : Bool) (nt : Nt) (e : Ending) (w' : World) : Prop := ∃ v : NV, e = .returned (.tuple #[.agg v.val, .int .i64 (if z = true then 0 else 1)]) ∧ NtRd w' w'.heap.size v nt ∧ Below w.heap.size w w'
theorem OfP.mk {w w' : World} {z : Bool} {nt : Nt} {e : Ending} (v : NV) (h1 : e = .returned (.tuple #[.agg v.val, .int .i64 (if z = true then 0 else 1)])) (h2 : NtRd w' w'.heap.size v nt) (h3 : Below w.heap.size w w') : OfP w z nt e w' := ⟨v, h1, h2, h3⟩
theorem NtRd.zero (w : World) (B : Nat) : NtRd w B NV0 ⟨[], [], [], []⟩ := ⟨rfl, Rd.none_, rfl, Rd.none_, rfl, Rd.none_, rfl, Rd.none_⟩

theorem newOne {W : World} {sc sn ob : Int} {gn : Bool} (_ : Below W.heap.size W (W.alloc (.cells #[.int .i64 sc, .int .i64 sn, .int .i64 ob, .bool gn] 46))) :
    Rd (W.alloc (.cells #[.int .i64 sc, .int .i64 sn, .int .i64 ob, .bool gn] 46)) (W.alloc (.cells #[.int .i64 sc, .int .i64 sn, .int .i64 ob, .bool gn] 46)).heap.size 4 (some ⟨W.heap.size, 0, none⟩) 1 1 (wv [((sc, sn), ob, gn)]) := by
  have := Rd.new W 46 4 1 #[.int .i64 sc, .int .i64 sn, .int .i64 ob, .bool gn] rfl (by unfold maxLen; omega)
  rw [World.size_alloc]
  exact this
theorem Rd.keptAt {w w' : World} {size n c g g0 : Nat} {xs : List Value} (h : Rd w w.heap.size size (some ⟨g0, 0, none⟩) n c xs) (hg : w.grownBy w' (some g)) (hne : g0 ≠ g) : Rd w' w'.heap.size size (some ⟨g0, 0, none⟩) n c xs :=
  ⟨h.len, h.cap, h.max, h.nil, fun hn => by
    obtain ⟨ad, e, hb, hc⟩ := h.at0 hn
    injection e with e
    subst e
    exact ⟨_, rfl, Nat.lt_of_lt_of_le hb hg.size, fun j u hu => hg.cell (hc j u hu) (by rw [block_of_add]; simpa using hne)⟩⟩

set_option maxHeartbeats 8000000 in
theorem noteOf_any (A : Option Addr) (n c : Nat) (u : List Vc.St) (q : Wr) (w : World) (hT : Tab w) (hl : u.length = n) (hR : Rd w w.heap.size 2 A n c (sv u)) (hn : n ≤ 8796093022208) :
    Calls Tryd.prog 22 #[.slice A n c, .agg #[.int .i64 q.1.1, .int .i64 q.1.2, .int .i64 q.2.1, .bool q.2.2]] w (OfP w (ofOk u q) (ofNt u q)) := by
  obtain ⟨⟨sc, sn⟩, ob, gn⟩ := q
  obtain ⟨hzz, hi⟩ := zero_of_info notes_zero
  have HI := Lib.hid hi
  have hb1 : Below w.heap.size w (w.alloc (.cells #[.int .i64 sc, .int .i64 sn, .int .i64 ob, .bool gn] 46)) := (Below.refl _ _).alloc (Nat.le_refl _) _
  have hb0 : Below w.heap.size w ((w.alloc (.cells #[.int .i64 sc, .int .i64 sn, .int .i64 ob, .bool gn] 46)).alloc (.cells #[.slice none 0 0, .slice none 0 0, .slice none 0 0, .slice none 0 0] 26)) := hb1.alloc hb1.size _
  have hB1 := (Blk.new w 46 #[.int .i64 sc, .int .i64 sn, .int .i64 ob, .bool gn]).alloc (.cells #[.slice none 0 0, .slice none 0 0, .slice none 0 0, .slice none 0 0] 26)
  have hB2 := Blk.new (w.alloc (.cells #[.int .i64 sc, .int .i64 sn, .int .i64 ob, .bool gn] 46)) 26 #[.slice none 0 0, .slice none 0 0, .slice none 0 0, .slice none 0 0]
  rw [World.size_alloc] at hB2
  obtain ⟨w0, hw0⟩ : ∃ w0, w0 = (w.alloc (.cells #[.int .i64 sc, .int .i64 sn, .int .i64 ob, .bool gn] 46)).alloc (.cells #[.slice none 0 0, .slice none 0 0, .slice none 0 0, .slice none 0 0] 26) := ⟨_, rfl⟩
  rw [← hw0] at hb0 hB1 hB2
  have hR0 := hR.go hb0
  have hsz : w.heap.size + 1 < w0.heap.size := hB2.lt
  have HQ := Lib.hid fun W (hb : Below w0.heap.size w0 W) => (show (W.cell? ⟨w.heap.size, 0, none⟩ = some (.int .i64 sc) ∧ W.cell? ⟨w.heap.size, 1, none⟩ = some (.int .i64 sn) ∧ W.cell? ⟨w.heap.size, 2, none⟩ = some (.int .i64 ob) ∧ W.cell? ⟨w.heap.size, 3, none⟩ = some (.bool gn)) from
    ⟨(hB1.go hb).cell 0, (hB1.go hb).cell 1, (hB1.go hb).cell 2, (hB1.go hb).cell 3⟩)
  have HS9 := Lib.hid fun W (hb : Below w0.heap.size w0 W) W' (hg : W.grownBy W' (some (w.heap.size + 1))) => (show (W'.cell? ⟨w.heap.size, 0, none⟩ = some (.int .i64 sc) ∧ W'.cell? ⟨w.heap.size, 1, none⟩ = some (.int .i64 sn) ∧ W'.cell? ⟨w.heap.size, 2, none⟩ = some (.int .i64 ob) ∧ W'.cell? ⟨w.heap.size, 3, none⟩ = some (.bool gn)) from
    ⟨((hB1.go hb).grown hg (by simp)).cell 0, ((hB1.go hb).grown hg (by simp)).cell 1, ((hB1.go hb).grown hg (by simp)).cell 2, ((hB1.go hb).grown hg (by simp)).cell 3⟩)
  have HB2 := Lib.hid fun W (hb : Below w0.heap.size w0 W) => hB2.go hb
  have hT0 := hT.below hb0
  have H1 := Lib.hid fun (W : World) (hb : Below w0.heap.size w0 W) => formed_any A n c u W hl (hR0.go hb)
  have H4 := Lib.hid fun (W : World) (hb : Below w0.heap.size w0 W) => has_any A n c u (sc, sn) W hl (hR0.go hb)
  have H5 := Lib.hid fun (W : World) (hb : Below w0.heap.size w0 W) => cloneSt_any A n c (sv u) W (hR0.go hb) (sv_oneCell _) hn
  have H6 := fun (W : World) (hb : Below w0.heap.size w0 W) => with_any A n c u (sc, sn) W (hT0.below hb) hl (hR0.go hb)
  have H2 := right_any sc sn
  have H3 := object_any ob
  obtain ⟨r, hr⟩ : ∃ r, vec (jn [u, [(sc, sn)]]) = r := ⟨_, rfl⟩
  obtain ⟨m, hm⟩ : ∃ m, r.length = m := ⟨_, rfl⟩
  rw [hr, hm] at H6
  have hof : ofOk u ((sc, sn), ob, gn) = (fm (-1) u && (Vc.right (sc, sn) && ((decide (0 ≤ ob) && decide (ob ≤ 255)) && !hasB u (sc, sn)))) := rfl
  have hnt : ofNt u ((sc, sn), ob, gn) = if ofOk u ((sc, sn), ob, gn) = true then ⟨u, r, [], [((sc, sn), ob, gn)]⟩ else ⟨[], [], [], []⟩ := by rw [← hr]; rfl
  generalize ofNt u ((sc, sn), ob, gn) = nt at hnt ⊢
  generalize ofOk u ((sc, sn), ob, gn) = z at hof hnt ⊢
  generalize fm (-1) u = z1 at H1 hof
  generalize Vc.right (sc, sn) = z2 at H2 hof
  generalize hasB u (sc, sn) = z4 at H4 hof
  have HOF := Lib.hid hof
  have HNT := Lib.hid hnt
  have G2 := Lib.hid H2
  have G6 := Lib.hid H6
  have HL := Lib.hid hl
  have HM := Lib.hid hm
  have HW := Lib.hid hw0.symm
  have HB0 := Lib.hid hb0
  have k : Below w0.heap.size w0 w0 := Below.refl _ w0
  obtain ⟨q0, q1, q2, q3⟩ := HQ.out _ k
  clear hR hR0 hB1 hB2 hw0 hb1 hb0 hi hl hn hm hr hof hnt H2 H6 hT hT0
  go_enter Tryd.func22, Tryd.ntmps22
  go_wp2_with fail
  rw [HW.out]
  cases z1
  · have HZ := Lib.hid (show z = false by rw [HOF.out]; rfl)
    go_wp2_with (first
      | (go_at_call 34; go_must (with_reducible refine (H1.out _ k).mono ?_); rintro e w' ⟨rfl, hb'⟩; have k := below_then k (Nat.le_refl _) hb'; clear hb'; obtain ⟨q0, q1, q2, q3⟩ := HQ.out _ k)
      | (go_at_call 67; go_must (with_reducible refine (G2.out _).mono ?_); rintro e w' ⟨rfl, hb'⟩; have k := below_then k (Nat.le_refl _) hb'; clear hb'; obtain ⟨q0, q1, q2, q3⟩ := HQ.out _ k)
      | (go_at_call 38; go_must (with_reducible refine (H4.out _ k).mono ?_); rintro e w' ⟨rfl, hb'⟩; have k := below_then k (Nat.le_refl _) hb'; clear hb'; obtain ⟨q0, q1, q2, q3⟩ := HQ.out _ k)
      | (go_at_call 37; go_must (with_reducible refine (G3.out _).mono ?_); rintro e w' ⟨rfl, rfl⟩)
      | (refine wpList_store_blk rfl 26 _ _ rfl (w.heap.size + 1) 26 _ #[.slice none 0 0, .slice none 0 0, .slice none 0 0, .slice none 0 0] rfl rfl (HB2.out _ k) HI.out rfl (by simp [Value.oneCell']) ?_; intro W hblk hg))
    refine bodyPost_ret (results_cell_tmp rfl _ _ (w.heap.size + 1) 26 _ _ _ rfl hblk Tryd.underlying26 rfl HI.out) rfl (OfP.mk NV0 ?_ ?_ ((HB0.out.trans (k.mono HB0.out.size)).trans (grown_below hg (Nat.le_trans HB0.out.size k.size) (fun g hg' => by cases hg'; exact Nat.le_succ _))))
    · rw [HZ.out]; rfl
    · rw [HNT.out, HZ.out]; exact NtRd.zero _ _
  cases z2
  · have HZ := Lib.hid (show z = false by rw [HOF.out]; rfl)
    go_wp2_with (first
      | (go_at_call 34; go_must (with_reducible refine (H1.out _ k).mono ?_); rintro e w' ⟨rfl, hb'⟩; have k := below_then k (Nat.le_refl _) hb'; clear hb'; obtain ⟨q0, q1, q2, q3⟩ := HQ.out _ k)
      | (go_at_call 67; go_must (with_reducible refine (G2.out _).mono ?_); rintro e w' ⟨rfl, hb'⟩; have k := below_then k (Nat.le_refl _) hb'; clear hb'; obtain ⟨q0, q1, q2, q3⟩ := HQ.out _ k)
      | (go_at_call 38; go_must (with_reducible refine (H4.out _ k).mono ?_); rintro e w' ⟨rfl, hb'⟩; have k := below_then k (Nat.le_refl _) hb'; clear hb'; obtain ⟨q0, q1, q2, q3⟩ := HQ.out _ k)
      | (go_at_call 37; go_must (with_reducible refine (G3.out _).mono ?_); rintro e w' ⟨rfl, rfl⟩)
      | (refine wpList_store_blk rfl 26 _ _ rfl (w.heap.size + 1) 26 _ #[.slice none 0 0, .slice none 0 0, .slice none 0 0, .slice none 0 0] rfl rfl (HB2.out _ k) HI.out rfl (by simp [Value.oneCell']) ?_; intro W hblk hg))
    refine bodyPost_ret (results_cell_tmp rfl _ _ (w.heap.size + 1) 26 _ _ _ rfl hblk Tryd.underlying26 rfl HI.out) rfl (OfP.mk NV0 ?_ ?_ ((HB0.out.trans (k.mono HB0.out.size)).trans (grown_below hg (Nat.le_trans HB0.out.size k.size) (fun g hg' => by cases hg'; exact Nat.le_succ _))))
    · rw [HZ.out]; rfl
    · rw [HNT.out, HZ.out]; exact NtRd.zero _ _
  by_cases u1 : 0 ≤ ob ∧ ob ≤ 255
  rotate_left
  · have hob : (decide (0 ≤ ob) && decide (ob ≤ 255)) = false := by simp; omega
    rw [hob] at H3
    have HZ := Lib.hid (show z = false by rw [HOF.out, hob]; rfl)
    have G3 := Lib.hid H3
    clear hob H3 u1
    go_wp2_with (first
      | (go_at_call 34; go_must (with_reducible refine (H1.out _ k).mono ?_); rintro e w' ⟨rfl, hb'⟩; have k := below_then k (Nat.le_refl _) hb'; clear hb'; obtain ⟨q0, q1, q2, q3⟩ := HQ.out _ k)
      | (go_at_call 67; go_must (with_reducible refine (G2.out _).mono ?_); rintro e w' ⟨rfl, hb'⟩; have k := below_then k (Nat.le_refl _) hb'; clear hb'; obtain ⟨q0, q1, q2, q3⟩ := HQ.out _ k)
      | (go_at_call 38; go_must (with_reducible refine (H4.out _ k).mono ?_); rintro e w' ⟨rfl, hb'⟩; have k := below_then k (Nat.le_refl _) hb'; clear hb'; obtain ⟨q0, q1, q2, q3⟩ := HQ.out _ k)
      | (go_at_call 37; go_must (with_reducible refine (G3.out _).mono ?_); rintro e w' ⟨rfl, rfl⟩)
      | (refine wpList_store_blk rfl 26 _ _ rfl (w.heap.size + 1) 26 _ #[.slice none 0 0, .slice none 0 0, .slice none 0 0, .slice none 0 0] rfl rfl (HB2.out _ k) HI.out rfl (by simp [Value.oneCell']) ?_; intro W hblk hg))
    refine bodyPost_ret (results_cell_tmp rfl _ _ (w.heap.size + 1) 26 _ _ _ rfl hblk Tryd.underlying26 rfl HI.out) rfl (OfP.mk NV0 ?_ ?_ ((HB0.out.trans (k.mono HB0.out.size)).trans (grown_below hg (Nat.le_trans HB0.out.size k.size) (fun g hg' => by cases hg'; exact Nat.le_succ _))))
    · rw [HZ.out]; rfl
    · rw [HNT.out, HZ.out]; exact NtRd.zero _ _
  have hob : (decide (0 ≤ ob) && decide (ob ≤ 255)) = true := by simp; omega
  rw [hob] at H3
  have HOB := Lib.hid hob
  have G3 := Lib.hid H3
  clear hob H3 u1
  cases z4
  rotate_left
  · have HZ := Lib.hid (show z = false by rw [HOF.out]; rw [HOB.out]; rfl)
    go_wp2_with (first
      | (go_at_call 34; go_must (with_reducible refine (H1.out _ k).mono ?_); rintro e w' ⟨rfl, hb'⟩; have k := below_then k (Nat.le_refl _) hb'; clear hb'; obtain ⟨q0, q1, q2, q3⟩ := HQ.out _ k)
      | (go_at_call 67; go_must (with_reducible refine (G2.out _).mono ?_); rintro e w' ⟨rfl, hb'⟩; have k := below_then k (Nat.le_refl _) hb'; clear hb'; obtain ⟨q0, q1, q2, q3⟩ := HQ.out _ k)
      | (go_at_call 38; go_must (with_reducible refine (H4.out _ k).mono ?_); rintro e w' ⟨rfl, hb'⟩; have k := below_then k (Nat.le_refl _) hb'; clear hb'; obtain ⟨q0, q1, q2, q3⟩ := HQ.out _ k)
      | (go_at_call 37; go_must (with_reducible refine (G3.out _).mono ?_); rintro e w' ⟨rfl, rfl⟩)
      | (refine wpList_store_blk rfl 26 _ _ rfl (w.heap.size + 1) 26 _ #[.slice none 0 0, .slice none 0 0, .slice none 0 0, .slice none 0 0] rfl rfl (HB2.out _ k) HI.out rfl (by simp [Value.oneCell']) ?_; intro W hblk hg))
    refine bodyPost_ret (results_cell_tmp rfl _ _ (w.heap.size + 1) 26 _ _ _ rfl hblk Tryd.underlying26 rfl HI.out) rfl (OfP.mk NV0 ?_ ?_ ((HB0.out.trans (k.mono HB0.out.size)).trans (grown_below hg (Nat.le_trans HB0.out.size k.size) (fun g hg' => by cases hg'; exact Nat.le_succ _))))
    · rw [HZ.out]; rfl
    · rw [HNT.out, HZ.out]; exact NtRd.zero _ _
  have HZ := Lib.hid (show z = true by rw [HOF.out, HOB.out]; rfl)
  go_wp2_with (first
      | (go_at_call 34; go_must (with_reducible refine (H1.out _ k).mono ?_); rintro e w' ⟨rfl, hb'⟩; have k := below_then k (Nat.le_refl _) hb'; clear hb'; obtain ⟨q0, q1, q2, q3⟩ := HQ.out _ k)
      | (go_at_call 67; go_must (with_reducible refine (G2.out _).mono ?_); rintro e w' ⟨rfl, hb'⟩; have k := below_then k (Nat.le_refl _) hb'; clear hb'; obtain ⟨q0, q1, q2, q3⟩ := HQ.out _ k)
      | (go_at_call 38; go_must (with_reducible refine (H4.out _ k).mono ?_); rintro e w' ⟨rfl, hb'⟩; have k := below_then k (Nat.le_refl _) hb'; clear hb'; obtain ⟨q0, q1, q2, q3⟩ := HQ.out _ k)
      | (go_at_call 37; go_must (with_reducible refine (G3.out _).mono ?_); rintro e w' ⟨rfl, rfl⟩)
      | (refine wpList_store_blk rfl 26 _ _ rfl (w.heap.size + 1) 26 _ #[.slice none 0 0, .slice none 0 0, .slice none 0 0, .slice none 0 0] rfl rfl (HB2.out _ k) HI.out rfl (by simp [Value.oneCell']) ?_; intro W hblk hg))
  have k := k.drew
  refine region_nrm fun KK hKK => ?_
  refine wp_region_held_drew (S := (fun W => W.cell? ⟨w.heap.size, 0, none⟩ = some (.int .i64 sc) ∧ W.cell? ⟨w.heap.size, 1, none⟩ = some (.int .i64 sn) ∧ W.cell? ⟨w.heap.size, 2, none⟩ = some (.int .i64 ob) ∧ W.cell? ⟨w.heap.size, 3, none⟩ = some (.bool gn))) (by kernel_rfl) (by first | exact HQ.out _ k | exact hS9) (fun hHeld => ?_)
  refine wpAnyH_putD (i := 0) (d := 28) (v := ?_) rfl rfl (by kernel_rfl) (by kernel_rfl) (by kernel_rfl) (fun _ _ _ h => h) (Or.inl ⟨by kernel_rfl, ?_⟩) (by first | exact HQ.out _ k | exact hS9) ?_
  rotate_left
  · (intro w hS; (try dsimp only at hS); go_simp <;> with_reducible rfl)
  try simp only [List.setIfInBounds_toArray, List.set_cons_zero, List.set_cons_succ]
  refine wpAnyH_putD (i := 2) (d := 30) (v := ?_) rfl rfl (by kernel_rfl) (by kernel_rfl) (by kernel_rfl) (fun _ _ _ h => h) (Or.inl ⟨by kernel_rfl, ?_⟩) (by first | exact HQ.out _ k | exact hS9) ?_
  rotate_left
  · (intro w hS; (try dsimp only at hS); go_simp <;> with_reducible rfl)
  try simp only [List.setIfInBounds_toArray, List.set_cons_zero, List.set_cons_succ]
  refine wpAnyH_putD (i := 3) (d := 31) (v := ?_) rfl rfl (by kernel_rfl) (by kernel_rfl) (by kernel_rfl) (fun _ _ _ h => h) (Or.inl ⟨by kernel_rfl, ?_⟩) (by first | exact HQ.out _ k | exact hS9) ?_
  rotate_left
  · (intro w hS; (try dsimp only at hS); go_simp <;> with_reducible rfl)
  try simp only [List.setIfInBounds_toArray, List.set_cons_zero, List.set_cons_succ]
  refine wpAnyH_putD (i := 4) (d := 32) (v := ?_) rfl rfl (by kernel_rfl) (by kernel_rfl) (by kernel_rfl) (fun _ _ _ h => h) (Or.inl ⟨by kernel_rfl, ?_⟩) (by first | exact HQ.out _ k | exact hS9) ?_
  rotate_left
  · (intro w hS; (try dsimp only at hS); go_simp <;> with_reducible rfl)
  try simp only [List.setIfInBounds_toArray, List.set_cons_zero, List.set_cons_succ]
  refine wpAnyH_putD (i := 6) (d := 34) (v := ?_) rfl rfl (by kernel_rfl) (by kernel_rfl) (by kernel_rfl) (fun _ _ _ h => h) (Or.inl ⟨by kernel_rfl, ?_⟩) (by first | exact HQ.out _ k | exact hS9) ?_
  rotate_left
  · (intro w hS; (try dsimp only at hS); go_simp <;> with_reducible rfl)
  try simp only [List.setIfInBounds_toArray, List.set_cons_zero, List.set_cons_succ]
  refine wpAnyH_ready (rs := [1, 7]) (by kernel_rfl) (by simp) ?_
  refine AllReadyH.cons rfl (fun K hK => ?_) (AllReadyH.cons rfl (fun K hK => ?_) AllReadyH.nil)
  · go_simp
    refine (H5.out _ k).mono ?_
    rintro e W ⟨D1, d1, rfl, ho, hb'⟩
    have C1 := Lib.hid (own_less ho k.size)
    have k := below_then k (Nat.le_refl _) hb'
    try (have C2 := Lib.hid (own_below C2.out hb' (Nat.le_refl _)))
    try (have C4 := Lib.hid (Rd.go C4.out hb'))
    clear ho hb'
    refine hK.out _ _ (by first | exact HQ.out _ k | exact hS9) (fun hHeld => ?_)
    clear hK K
    refine wpAnyH_ready (rs := [5, 7]) (by kernel_rfl) (by simp) ?_
    refine AllReadyH.cons rfl (fun K hK => ?_) (AllReadyH.cons rfl (fun K hK => ?_) AllReadyH.nil)
    · go_simp
      refine (G6.out _ k).mono ?_
      rintro e W ⟨D2, d2, rfl, ho, hb'⟩
      have C2 := Lib.hid (own_less ho k.size)
      have k := below_then k (Nat.le_refl _) hb'
      try (have C1 := Lib.hid (own_below C1.out hb' (Nat.le_refl _)))
      try (have C4 := Lib.hid (Rd.go C4.out hb'))
      clear ho hb'
      refine hK.out _ _ (by first | exact HQ.out _ k | exact hS9) (fun hHeld => ?_)
      clear hK K
      refine wpAnyH_ready (rs := [7]) (by kernel_rfl) (by simp) ?_
      refine AllReadyH.cons rfl (fun K hK => ?_) AllReadyH.nil
      go_simp
      have hb' := then_alloc k (.cells #[.int .i64 sc, .int .i64 sn, .int .i64 ob, .bool gn] 46)
      have C4 := Lib.hid (newOne hb')
      have kD := k.size
      have k := below_then k (Nat.le_refl _) hb'
      try (have C1 := Lib.hid (own_below C1.out hb' (Nat.le_refl _)))
      try (have C2 := Lib.hid (own_below C2.out hb' (Nat.le_refl _)))
      try (have C4 := Lib.hid (Rd.go C4.out hb'))
      clear hb'
      refine hK.out _ _ (by first | exact HQ.out _ k | exact hS9) (fun hHeld => ?_)
      clear hK K
      refine wpAnyH_putD (i := 8) (d := 36) (v := ?_) rfl rfl (by kernel_rfl) (by kernel_rfl) (by kernel_rfl) (fun _ _ _ h => h) (Or.inl ⟨by kernel_rfl, ?_⟩) (by first | exact HQ.out _ k | exact hS9) ?_
      rotate_left
      · (intro w hS; (try dsimp only at hS); go_simp <;> with_reducible rfl)
      try simp only [List.setIfInBounds_toArray, List.set_cons_zero, List.set_cons_succ]
      refine wpAnyH_ready (rs := [9]) (by kernel_rfl) (by simp) ?_
      refine AllReadyH.cons rfl (fun K hK => ?_) AllReadyH.nil
      rw [if_pos (by kernel_rfl)]
      refine wp_store_blk 26 (.tmp 4) (.tmp 36) rfl (w.heap.size + 1) 26 _ _ rfl rfl (HB2.out _ k) HI.out rfl ?_ ?_
      · simp [Value.oneCell']
      intro W hblk hg
      have hS9 := HS9.out _ k _ hg
      have kw := (HB0.out.trans (k.mono HB0.out.size)).trans (grown_below hg (Nat.le_trans HB0.out.size k.size) (fun g hg' => by cases hg'; exact Nat.le_succ _))
      have C1 := Lib.hid (C1.out.kept hg (own_ne C1.out hsz))
      have C2 := Lib.hid (C2.out.kept hg (own_ne C2.out hsz))
      have C4 := Lib.hid (Rd.keptAt C4.out hg (Nat.ne_of_gt (Nat.lt_of_lt_of_le hsz kD)))
      clear hg k
      refine hK.out _ _ (by first | exact HQ.out _ k | exact hS9) (fun hHeld => ?_)
      clear hK K
      refine wpAnyH_putD (i := 10) (d := 5) (v := ?_) rfl rfl (by kernel_rfl) (by kernel_rfl) (by kernel_rfl) (fun _ _ _ h => h) (Or.inl ⟨by kernel_rfl, ?_⟩) (by first | exact HQ.out _ k | exact hS9) ?_
      rotate_left
      · (intro w hS; (try dsimp only at hS); go_simp <;> with_reducible rfl)
      try simp only [List.setIfInBounds_toArray, List.set_cons_zero, List.set_cons_succ]
      refine wpAnyH_done (by kernel_rfl) ?_ _
      refine Nrm.out (hKK _ _ ?_)
      go_wp2
      refine bodyPost_ret (results_cell_tmp rfl _ _ (w.heap.size + 1) 26 _ _ _ rfl hblk Tryd.underlying26 rfl HI.out) rfl (OfP.mk ⟨D1, n, d1, D2, m, d2, none, 0, 0, some ⟨?b4n1, 0, none⟩, 1, 1⟩ ?h1n1 ?h2n1 kw)
      case h1n1 => rw [HZ.out]; rfl
      case h2n1 => rw [HNT.out, HZ.out]; exact ⟨HL.out, Rd.of_own C1.out, HM.out, Rd.of_own C2.out, rfl, Rd.none_, rfl, C4.out⟩
    · go_simp
      have hb' := then_alloc k (.cells #[.int .i64 sc, .int .i64 sn, .int .i64 ob, .bool gn] 46)
      have C4 := Lib.hid (newOne hb')
      have kD := k.size
      have k := below_then k (Nat.le_refl _) hb'
      try (have C1 := Lib.hid (own_below C1.out hb' (Nat.le_refl _)))
      try (have C2 := Lib.hid (own_below C2.out hb' (Nat.le_refl _)))
      try (have C4 := Lib.hid (Rd.go C4.out hb'))
      clear hb'
      refine hK.out _ _ (by first | exact HQ.out _ k | exact hS9) (fun hHeld => ?_)
      clear hK K
      refine wpAnyH_ready (rs := [5]) (by kernel_rfl) (by simp) ?_
      refine AllReadyH.cons rfl (fun K hK => ?_) AllReadyH.nil
      go_simp
      refine (G6.out _ k).mono ?_
      rintro e W ⟨D2, d2, rfl, ho, hb'⟩
      have C2 := Lib.hid (own_less ho k.size)
      have k := below_then k (Nat.le_refl _) hb'
      try (have C1 := Lib.hid (own_below C1.out hb' (Nat.le_refl _)))
      try (have C4 := Lib.hid (Rd.go C4.out hb'))
      clear ho hb'
      refine hK.out _ _ (by first | exact HQ.out _ k | exact hS9) (fun hHeld => ?_)
      clear hK K
      refine wpAnyH_putD (i := 8) (d := 36) (v := ?_) rfl rfl (by kernel_rfl) (by kernel_rfl) (by kernel_rfl) (fun _ _ _ h => h) (Or.inl ⟨by kernel_rfl, ?_⟩) (by first | exact HQ.out _ k | exact hS9) ?_
      rotate_left
      · (intro w hS; (try dsimp only at hS); go_simp <;> with_reducible rfl)
      try simp only [List.setIfInBounds_toArray, List.set_cons_zero, List.set_cons_succ]
      refine wpAnyH_ready (rs := [9]) (by kernel_rfl) (by simp) ?_
      refine AllReadyH.cons rfl (fun K hK => ?_) AllReadyH.nil
      rw [if_pos (by kernel_rfl)]
      refine wp_store_blk 26 (.tmp 4) (.tmp 36) rfl (w.heap.size + 1) 26 _ _ rfl rfl (HB2.out _ k) HI.out rfl ?_ ?_
      · simp [Value.oneCell']
      intro W hblk hg
      have hS9 := HS9.out _ k _ hg
      have kw := (HB0.out.trans (k.mono HB0.out.size)).trans (grown_below hg (Nat.le_trans HB0.out.size k.size) (fun g hg' => by cases hg'; exact Nat.le_succ _))
      have C1 := Lib.hid (C1.out.kept hg (own_ne C1.out hsz))
      have C2 := Lib.hid (C2.out.kept hg (own_ne C2.out hsz))
      have C4 := Lib.hid (Rd.keptAt C4.out hg (Nat.ne_of_gt (Nat.lt_of_lt_of_le hsz kD)))
      clear hg k
      refine hK.out _ _ (by first | exact HQ.out _ k | exact hS9) (fun hHeld => ?_)
      clear hK K
      refine wpAnyH_putD (i := 10) (d := 5) (v := ?_) rfl rfl (by kernel_rfl) (by kernel_rfl) (by kernel_rfl) (fun _ _ _ h => h) (Or.inl ⟨by kernel_rfl, ?_⟩) (by first | exact HQ.out _ k | exact hS9) ?_
      rotate_left
      · (intro w hS; (try dsimp only at hS); go_simp <;> with_reducible rfl)
      try simp only [List.setIfInBounds_toArray, List.set_cons_zero, List.set_cons_succ]
      refine wpAnyH_done (by kernel_rfl) ?_ _
      refine Nrm.out (hKK _ _ ?_)
      go_wp2
      refine bodyPost_ret (results_cell_tmp rfl _ _ (w.heap.size + 1) 26 _ _ _ rfl hblk Tryd.underlying26 rfl HI.out) rfl (OfP.mk ⟨D1, n, d1, D2, m, d2, none, 0, 0, some ⟨?b4n2, 0, none⟩, 1, 1⟩ ?h1n2 ?h2n2 kw)
      case h1n2 => rw [HZ.out]; rfl
      case h2n2 => rw [HNT.out, HZ.out]; exact ⟨HL.out, Rd.of_own C1.out, HM.out, Rd.of_own C2.out, rfl, Rd.none_, rfl, C4.out⟩
  · go_simp
    have hb' := then_alloc k (.cells #[.int .i64 sc, .int .i64 sn, .int .i64 ob, .bool gn] 46)
    have C4 := Lib.hid (newOne hb')
    have kD := k.size
    have k := below_then k (Nat.le_refl _) hb'
    try (have C1 := Lib.hid (own_below C1.out hb' (Nat.le_refl _)))
    try (have C2 := Lib.hid (own_below C2.out hb' (Nat.le_refl _)))
    try (have C4 := Lib.hid (Rd.go C4.out hb'))
    clear hb'
    refine hK.out _ _ (by first | exact HQ.out _ k | exact hS9) (fun hHeld => ?_)
    clear hK K
    refine wpAnyH_ready (rs := [1]) (by kernel_rfl) (by simp) ?_
    refine AllReadyH.cons rfl (fun K hK => ?_) AllReadyH.nil
    go_simp
    refine (H5.out _ k).mono ?_
    rintro e W ⟨D1, d1, rfl, ho, hb'⟩
    have C1 := Lib.hid (own_less ho k.size)
    have k := below_then k (Nat.le_refl _) hb'
    try (have C2 := Lib.hid (own_below C2.out hb' (Nat.le_refl _)))
    try (have C4 := Lib.hid (Rd.go C4.out hb'))
    clear ho hb'
    refine hK.out _ _ (by first | exact HQ.out _ k | exact hS9) (fun hHeld => ?_)
    clear hK K
    refine wpAnyH_ready (rs := [5]) (by kernel_rfl) (by simp) ?_
    refine AllReadyH.cons rfl (fun K hK => ?_) AllReadyH.nil
    go_simp
    refine (G6.out _ k).mono ?_
    rintro e W ⟨D2, d2, rfl, ho, hb'⟩
    have C2 := Lib.hid (own_less ho k.size)
    have k := below_then k (Nat.le_refl _) hb'
    try (have C1 := Lib.hid (own_below C1.out hb' (Nat.le_refl _)))
    try (have C4 := Lib.hid (Rd.go C4.out hb'))
    clear ho hb'
    refine hK.out _ _ (by first | exact HQ.out _ k | exact hS9) (fun hHeld => ?_)
    clear hK K
    refine wpAnyH_putD (i := 8) (d := 36) (v := ?_) rfl rfl (by kernel_rfl) (by kernel_rfl) (by kernel_rfl) (fun _ _ _ h => h) (Or.inl ⟨by kernel_rfl, ?_⟩) (by first | exact HQ.out _ k | exact hS9) ?_
    rotate_left
    · (intro w hS; (try dsimp only at hS); go_simp <;> with_reducible rfl)
    try simp only [List.setIfInBounds_toArray, List.set_cons_zero, List.set_cons_succ]
    refine wpAnyH_ready (rs := [9]) (by kernel_rfl) (by simp) ?_
    refine AllReadyH.cons rfl (fun K hK => ?_) AllReadyH.nil
    rw [if_pos (by kernel_rfl)]
    refine wp_store_blk 26 (.tmp 4) (.tmp 36) rfl (w.heap.size + 1) 26 _ _ rfl rfl (HB2.out _ k) HI.out rfl ?_ ?_
    · simp [Value.oneCell']
    intro W hblk hg
    have hS9 := HS9.out _ k _ hg
    have kw := (HB0.out.trans (k.mono HB0.out.size)).trans (grown_below hg (Nat.le_trans HB0.out.size k.size) (fun g hg' => by cases hg'; exact Nat.le_succ _))
    have C1 := Lib.hid (C1.out.kept hg (own_ne C1.out hsz))
    have C2 := Lib.hid (C2.out.kept hg (own_ne C2.out hsz))
    have C4 := Lib.hid (Rd.keptAt C4.out hg (Nat.ne_of_gt (Nat.lt_of_lt_of_le hsz kD)))
    clear hg k
    refine hK.out _ _ (by first | exact HQ.out _ k | exact hS9) (fun hHeld => ?_)
    clear hK K
    refine wpAnyH_putD (i := 10) (d := 5) (v := ?_) rfl rfl (by kernel_rfl) (by kernel_rfl) (by kernel_rfl) (fun _ _ _ h => h) (Or.inl ⟨by kernel_rfl, ?_⟩) (by first | exact HQ.out _ k | exact hS9) ?_
    rotate_left
    · (intro w hS; (try dsimp only at hS); go_simp <;> with_reducible rfl)
    try simp only [List.setIfInBounds_toArray, List.set_cons_zero, List.set_cons_succ]
    refine wpAnyH_done (by kernel_rfl) ?_ _
    refine Nrm.out (hKK _ _ ?_)
    go_wp2
    refine bodyPost_ret (results_cell_tmp rfl _ _ (w.heap.size + 1) 26 _ _ _ rfl hblk Tryd.underlying26 rfl HI.out) rfl (OfP.mk ⟨D1, n, d1, D2, m, d2, none, 0, 0, some ⟨?b4n3, 0, none⟩, 1, 1⟩ ?h1n3 ?h2n3 kw)
    case h1n3 => rw [HZ.out]; rfl
    case h2n3 => rw [HNT.out, HZ.out]; exact ⟨HL.out, Rd.of_own C1.out, HM.out, Rd.of_own C2.out, rfl, Rd.none_, rfl, C4.out⟩

end Go.Proofs.YtnibkniggiokkaaDoor
