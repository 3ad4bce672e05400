/- A row of writes of the call's own: an element stored, its end given up, cleared; a stable sort in words of our own. -/
import Derived.Test.YtnibkniggiokkaaDoorNmW
import Derived.Test.YtnibkniggiokkaaDoorNtC
namespace Go.Proofs.YtnibkniggiokkaaDoor
open Go.RowKit Go.Shelf Go.Sort
set_option maxRecDepth 100000

theorem wv_set (l : List Wr) (i : Nat) (h : i < l.length) (x : Wr) : ((((wv l).set (i * 4) (.int .i64 x.1.1)).set (i * 4 + 1) (.int .i64 x.1.2)).set (i * 4 + 2) (.int .i64 x.2.1)).set (i * 4 + 3) (.bool x.2.2) = wv (l.set i x) := by
  have e : l = l.take i ++ l[i] :: l.drop (i + 1) := by rw [← List.drop_eq_getElem_cons h, List.take_append_drop]
  have hP : (l.take i).length = i := by rw [List.length_take]; omega
  generalize l.take i = P at *
  generalize l.drop (i + 1) = Q at *
  generalize l[i] = y at *
  subst e
  have e2 : (P ++ y :: Q).set i x = P ++ x :: Q := by rw [List.set_append_right _ _ (by omega), hP, Nat.sub_self]; rfl
  have e3 : ∀ z : Wr, wv (P ++ z :: Q) = wv P ++ (wc z ++ wv Q) := fun z => by simp [wv]
  have hl : (wv P).length = i * 4 := by rw [wv_len, hP]
  rw [e2, e3, e3]
  rw [List.set_append_right _ _ (by omega), List.set_append_right _ _ (by omega), List.set_append_right _ _ (by omega), List.set_append_right _ _ (by omega), hl, Nat.sub_self, Nat.add_sub_cancel_left, Nat.add_sub_cancel_left, Nat.add_sub_cancel_left]
  rfl
theorem own_put {w : World} {base G n c : Nat} {l : List Wr} (h : w.ownsRow base 46 4 (.slice (some ⟨G, 0, none⟩) n c) n (wv l)) (hl : l.length = n) (i : Nat) (hi : i < n) (x : Wr) :
    ((((w.setCell ⟨G, i * 4, none⟩ (.int .i64 x.1.1)).setCell ⟨G, i * 4 + 1, none⟩ (.int .i64 x.1.2)).setCell ⟨G, i * 4 + 2, none⟩ (.int .i64 x.2.1)).setCell ⟨G, i * 4 + 3, none⟩ (.bool x.2.2)).ownsRow base 46 4 (.slice (some ⟨G, 0, none⟩) n c) n (wv (l.set i x)) ∧
      w.grownBy ((((w.setCell ⟨G, i * 4, none⟩ (.int .i64 x.1.1)).setCell ⟨G, i * 4 + 1, none⟩ (.int .i64 x.1.2)).setCell ⟨G, i * 4 + 2, none⟩ (.int .i64 x.2.1)).setCell ⟨G, i * 4 + 3, none⟩ (.bool x.2.2)) (some G) := by
  have s1 := h.stored (i * 4) (.int .i64 x.1.1)
  have s2 := s1.1.stored (i * 4 + 1) (.int .i64 x.1.2)
  have s3 := s2.1.stored (i * 4 + 2) (.int .i64 x.2.1)
  have s4 := s3.1.stored (i * 4 + 3) (.bool x.2.2)
  refine ⟨?_, ((s1.2.trans s2.2).trans s3.2).trans s4.2⟩
  have := s4.1
  rw [wv_set l i (by omega) x] at this
  exact this
theorem own_pre {w : World} {base G n c : Nat} {F X : List Wr} (h : w.ownsRow base 46 4 (.slice (some ⟨G, 0, none⟩) n c) n (wv (F ++ X))) : w.ownsRow base 46 4 (.slice (some ⟨G, 0, none⟩) F.length c) F.length (wv F) := by
  obtain ⟨hlen, h | ⟨g, cap, cur, hv, hb, hg, hnc, hcm, hcs, hx⟩⟩ := h
  · exact absurd h.1 (by simp)
  · injection hv with hv1 _ hv3
    injection hv1 with hv1
    injection hv1 with hv1
    subst hv1 hv3
    rw [wv_len, List.length_append] at hlen
    refine ⟨wv_len F, .inr ⟨G, c, cur, rfl, hb, hg, by omega, hcm, hcs, ?_⟩⟩
    have h1 := congrArg (List.take (F.length * 4)) hx
    rw [List.take_take, Nat.min_eq_left (by omega), wv_app, List.take_append_of_le_length (by rw [wv_len]; exact Nat.le_refl _)] at h1
    rw [h1, List.take_of_length_le (by rw [wv_len]; exact Nat.le_refl _)]
theorem own_tail {base G n c : Nat} {F : List Wr} (hn : F.length = n) : ∀ (vs : List Value) (o : Nat) (w : World), n * 4 ≤ o → w.ownsRow base 46 4 (.slice (some ⟨G, 0, none⟩) n c) n (wv F) →
    (w.setCells G o vs).ownsRow base 46 4 (.slice (some ⟨G, 0, none⟩) n c) n (wv F) ∧ w.grownBy (w.setCells G o vs) (some G)
  | [], _, w, _, h => ⟨h, World.grownBy.refl _ _⟩
  | v :: vs, o, w, ho, h => by
    have s := h.stored o v
    rw [List.set_eq_of_length_le (by rw [wv_len]; omega)] at s
    obtain ⟨h1, h2⟩ := own_tail hn vs (o + 1) _ (by omega) s.1
    exact ⟨h1, s.2.trans h2⟩
theorem own_cells {w : World} {base G n c : Nat} {l : List Wr} (h : w.ownsRow base 46 4 (.slice (some ⟨G, 0, none⟩) n c) n (wv l)) (hl : l.length = n) (i : Nat) (hi : i < l.length) :
    w.cell? ⟨G, i * 4, none⟩ = some (.int .i64 l[i].1.1) ∧ w.cell? ⟨G, i * 4 + 1, none⟩ = some (.int .i64 l[i].1.2) ∧ w.cell? ⟨G, i * 4 + 2, none⟩ = some (.int .i64 l[i].2.1) ∧ w.cell? ⟨G, i * 4 + 3, none⟩ = some (.bool l[i].2.2) := by
  have e : ∀ j, j < 4 → ∀ u, (wc l[i])[j]? = some u → w.cell? ⟨G, i * 4 + j, none⟩ = some u := fun j hj u hu => by
    rw [h.cellAt (i * 4 + j) (by omega), wv_at l i hi j hj]; exact hu
  exact ⟨e 0 (by decide) _ rfl, e 1 (by decide) _ rfl, e 2 (by decide) _ rfl, e 3 (by decide) _ rfl⟩
/-- The built-in clear of a row's end. -/
theorem run_clearW (w : World) (G n c i : Nat) (hin : i < n) (hc : ∀ j, j < n * 4 → (w.cell? ⟨G, j, none⟩).isSome = true) (hf : ∀ j, w.frozen? ⟨G, j, none⟩ = false) :
    ∃ vs, ∀ ty, (Builtin.clear_ #[24] ty #[.slice (some ⟨G, i * 4, none⟩) (n - i) c]).run Tryd.prog w = .ok (.tuple #[]) (w.setCells G (i * 4) vs) := by
  have hz : ∀ w, (zeroValue 46).run Tryd.prog w = .ok (.agg #[.int .i64 0, .int .i64 0, .int .i64 0, .bool false]) w := fun _ => by kernel_rfl
  obtain ⟨vs, hvs⟩ : ∃ vs, vs = (Builtin.zeroCells (Value.agg #[.int .i64 0, .int .i64 0, .int .i64 0, .bool false]).cells (n - i)).toList := ⟨_, rfl⟩
  have hlen : vs.length = (n - i) * 4 := by rw [hvs]; simp [Builtin.zeroCells, Value.cells]
  have hone : ∀ v ∈ vs, v.oneCell' = true := fun v hv => by
    obtain ⟨j, hj, rfl⟩ := List.getElem_of_mem hv
    have : ∀ k, k < 4 → (#[Value.int .i64 0, .int .i64 0, .int .i64 0, .bool false][k]!).oneCell' = true := by
      intro k hk
      match k, hk with
      | 0, _ => rfl
      | 1, _ => rfl
      | 2, _ => rfl
      | 3, _ => rfl
    have h4 := this (j % 4) (Nat.mod_lt _ (by decide))
    simp only [hvs, Builtin.zeroCells, Value.cells]
    simp at h4 ⊢
    simpa using h4
  have hst := run_storeCells_cells (P := Tryd.prog) G (i * 4) vs 0 w (by rw [hlen]; intro j hj; exact hc (i * 4 + j) (by omega)) (fun j _ => hf _) hone
  simp only [Nat.add_zero] at hst
  refine ⟨vs, fun ty => ?_⟩
  obtain ⟨m, hm⟩ : ∃ m, n - i = m + 1 := ⟨n - i - 1, by omega⟩
  rw [hm] at hvs ⊢
  simp [Builtin.clear_, run_underlying Tryd.underlying24, hz, ← hvs, hst]

/-! ### The sort -/
theorem wv_get (l : List Wr) (t : Nat) (h : t < l.length * 4) : (wv l)[t]? = (wc (l[t / 4]'(by omega)))[t % 4]? := by
  have := wv_at l (t / 4) (by omega) (t % 4) (by omega)
  rw [show t / 4 * 4 + t % 4 = t by omega] at this
  exact this
theorem flatW_get (l : List Wr) (t : Nat) (h : t < l.length * 4) : (wv l)[t]? = some ((flatK wc 4 l.toArray)[t]!) := by
  rw [wv_get l t h]
  have e1 : (flatK wc 4 l.toArray)[t]! = (wc l.toArray[t / 4]!)[t % 4]! := by
    rw [getElem!_pos _ t (by simp [flatK]; omega)]
    simp [flatK]
  rw [e1, show l.toArray[t / 4]! = l[t / 4]'(by omega) by rw [getElem!_pos _ _ (by simp; omega)]; simp]
  have h4 := Nat.mod_lt t (show 0 < 4 by decide)
  generalize t % 4 = q at h4 ⊢
  match q, h4 with
  | 0, _ => rfl
  | 1, _ => rfl
  | 2, _ => rfl
  | 3, _ => rfl
theorem holdsW_own {w : World} {base G n c : Nat} {l : List Wr} (h : w.ownsRow base 46 4 (.slice (some ⟨G, 0, none⟩) n c) n (wv l)) (hl : l.length = n) : HoldsK wc 4 w G 0 l.toArray := by
  intro j hj
  have hj' : j < l.length * 4 := by simpa [flatK] using hj
  refine ⟨?_, h.frozenAt _⟩
  rw [Nat.zero_add, h.cellAt j (by omega), flatW_get l j hj']; rfl
theorem sortW_own {w : World} {base G n c : Nat} {l : List Wr} (h : w.ownsRow base 46 4 (.slice (some ⟨G, 0, none⟩) n c) n (wv l)) (d : Array Wr) (hd : d.size = n) (m : Nat) (os : Array Obj) :
    (sortWorldK wc 4 w G 0 m d os).ownsRow base 46 4 (.slice (some ⟨G, 0, none⟩) n c) n (wv d.toList) ∧ w.grownBy (sortWorldK wc 4 w G 0 m d os) (some G) := by
  obtain ⟨hl, h | ⟨g, cap, cur, hv, hb, hg, hnc, hcm, hcs, hx⟩⟩ := h
  · exact absurd h.1 (by simp)
  · injection hv with hv1 _ hv3
    injection hv1 with hv1
    injection hv1 with hv1
    subst hv1 hv3
    have hlt : G < w.heap.size := (Array.getElem?_eq_some_iff.1 hg).1
    have hat : (sortWorldK wc 4 w G 0 m d os).heap[G]? = some (.cells (putCells id 0 (flatK wc 4 d) cur) 46 (0, 0)) := by
      unfold sortWorldK grow putRowK putRow mapBlock «Sort».ahead
      rw [Array.getElem?_append_left (by simpa using hlt)]
      simp [Array.getElem?_modify, hg, onCells]
    have hother : ∀ k, k < w.heap.size → k ≠ G → (sortWorldK wc 4 w G 0 m d os).heap[k]? = w.heap[k]? := fun k hk hne => by
      unfold sortWorldK grow putRowK putRow mapBlock «Sort».ahead
      rw [Array.getElem?_append_left (by simpa using hk)]
      simp [Array.getElem?_modify, Ne.symm hne]
    have hfl : (flatK wc 4 d).size = n * 4 := by simp [flatK, hd]
    have hnc' : n * 4 ≤ c * 4 := Nat.mul_le_mul_right _ hnc
    refine ⟨⟨by rw [wv_len]; simp [hd], .inr ⟨G, c, _, rfl, hb, hat, hnc, hcm, by simp [putCells, hcs], ?_⟩⟩, ⟨rfl, rfl, rfl, size_sortWorldK_c wc 4 w G 0 m d os, fun k hk hne => hother k hk (fun e => hne (by rw [e]))⟩⟩
    apply List.ext_getElem?
    intro t
    by_cases ht : t < n * 4
    · rw [List.getElem?_take, if_pos ht]
      have h1 := flatW_get d.toList t (by simp [hd]; exact ht)
      rw [h1]
      have hc : t < cur.size := by omega
      simp only [putCells, Array.toList_mapIdx, List.getElem?_mapIdx, Array.getElem?_toList, Array.getElem?_eq_getElem hc, Option.map_some, hfl]
      rw [if_pos ⟨Nat.zero_le _, by omega⟩]; simp
    · rw [List.getElem?_take, if_neg ht, List.getElem?_eq_none (by rw [wv_len]; simp [hd]; omega)]
/-- slices.SortStableFunc over a row of the call's own: the stable sort by object, the newer first. -/
theorem sortW_any (base G n c : Nat) (l : List Wr) (w : World) (ho : w.ownsRow base 46 4 (.slice (some ⟨G, 0, none⟩) n c) n (wv l)) (hl : l.length = n) (hn : n ≤ 1000000000) :
    Calls Tryd.prog 51 #[.slice (some ⟨G, 0, none⟩) n c, .func (.func 52) #[] #[]] w fun e w' => e = .returned (.tuple #[]) ∧
      ∃ s, St.Stab wLt l s ∧ w'.ownsRow base 46 4 (.slice (some ⟨G, 0, none⟩) n c) n (wv s) ∧ w.grownBy w' (some G) := by
  have hsz : l.toArray.size = n := by simpa using hl
  have hH := holdsW_own ho hl
  have K : SortW 4 l.toArray w G 0 52 #[] wCf := {
    four := rfl
    row := ⟨fun _ => rfl, fun x v hv => by simp [wc] at hv; rcases hv with rfl | rfl | rfl | rfl <;> rfl, hH, (ho.lt G rfl).2⟩
    cmp := fun _ _ _ _ x y => mergeCmp_any x y _
    fn := enters_of Tryd.func52 (by kernel_rfl) rfl
    sz := by omega
    swo := by rw [wCf_lt]; exact wLt_swo }
  have hc := sortStable_any K c l (by simp) w (SWK.start hH)
  rw [hsz] at hc
  refine hc.mono ?_
  rintro e w' ⟨rfl, s, hs, m, os, rfl⟩
  rw [wCf_lt] at hs
  exact ⟨rfl, s, hs, sortW_own ho s.toArray (by simp [hs.len, hl]) m os⟩
end Go.Proofs.YtnibkniggiokkaaDoor
