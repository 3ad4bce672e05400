/- Walks over vector.Join: a range over an iterator in a plain loop. -/
import Derived.Test.YtldcgmnfohhjbacVecM
namespace Go.Proofs.Ytldcgmnfohhjbac
open Go.RowKit Go.Shelf
set_option maxRecDepth 100000
attribute [local go_sem] Oper.semAt_some

theorem blk_own {β : Type} (g : Nat) (t : TypeId) (f : β → Array Value) : Own (fun s W => Blk W g t (f s)) := fun _ _ _ _ hs hg hr => Blk.kept_ hs hg hr

/-- The marks that the loops so far have left. -/
def Marks (n₀ : Nat) (w : World) : List Deferred → Prop
  | [] => True
  | d :: ds => (∃ D, d = { target := .collected D, args := #[] } ∧ n₀ ≤ D ∧ w.heap[D]? = some (.deferred (some [])) ∧ ∀ d' ∈ ds, d' ≠ { target := .collected D, args := #[] }) ∧ Marks n₀ w ds
theorem Marks.lt {n₀ : Nat} {w : World} : ∀ {ds : List Deferred}, Marks n₀ w ds → ∀ D, ({ target := .collected D, args := #[] } : Deferred) ∈ ds → D < w.heap.size ∧ w.heap[D]? = some (.deferred (some []))
  | _ :: _, ⟨⟨D', hd, _, hk, _⟩, hm⟩, D, h => by
    rcases List.mem_cons.1 h with e | h
    · rw [hd] at e
      injection e with e _
      injection e with e
      subst e
      exact ⟨(Array.getElem?_eq_some_iff.1 hk).1, hk⟩
    · exact hm.lt D h
theorem Marks.keep {n₀ : Nat} {w w' : World} (hk : ∀ D : Nat, w.heap[D]? = some (.deferred (some [])) → n₀ ≤ D → w'.heap[D]? = some (.deferred (some []))) : ∀ {ds : List Deferred}, Marks n₀ w ds → Marks n₀ w' ds
  | [], _ => trivial
  | _ :: _, ⟨⟨D, hd, hn, h1, h2⟩, hm⟩ => ⟨⟨D, hd, hn, hk D h1 hn, h2⟩, hm.keep hk⟩
theorem Marks.grown {n₀ : Nat} {w w' : World} {ds : List Deferred} {row : Option Nat} (h : Marks n₀ w ds) (hg : w.grownBy w' row) (hr : ∀ r, row = some r → w.heap[r]? ≠ some (.deferred (some []))) : Marks n₀ w' ds :=
  h.keep fun D hD _ => (hg.block D (Array.getElem?_eq_some_iff.1 hD).1 (fun e => hr D e.symm hD)).trans hD
theorem Marks.below {n₀ : Nat} {w w' : World} {ds : List Deferred} (h : Marks n₀ w ds) (hb : Below w.heap.size w w') : Marks n₀ w' ds :=
  h.keep fun D hD _ => (hb.block D (Array.getElem?_eq_some_iff.1 hD).1).trans hD
theorem Marks.set_ {n₀ : Nat} {w : World} {ds : List Deferred} (h : Marks n₀ w ds) {g : Nat} {t : TypeId} {cs : Array Value} (hg : Blk w g t cs) (i : Nat) (u : Value) : Marks n₀ (w.setCell ⟨g, i, none⟩ u) ds :=
  h.keep fun D hD _ => (Below.heap_setCell w ⟨g, i, none⟩ u D (fun e => by
    subst e
    rw [show w.heap[D]? = _ from hg] at hD
    cases hD)).trans hD
theorem Marks.push {n₀ : Nat} {w w' : World} {ds : List Deferred} (h : Marks n₀ w ds) {D : Nat} (hD : w'.heap[D]? = some (.deferred (some []))) (hn : n₀ ≤ D) (hw : w.heap.size ≤ D) (h' : Marks n₀ w' ds) : Marks n₀ w' ({ target := .collected D, args := #[] } :: ds) :=
  ⟨⟨D, rfl, hn, hD, fun d' hd' e => by subst e; have := (h.lt D hd').1; omega⟩, h'⟩
theorem marks_ownFrom {β : Type} {n₀ B : Nat} {w₀ : World} {ds : List Deferred} (h : Marks n₀ w₀ ds) (hB : w₀.heap.size ≤ B) : OwnFrom B (fun (_ : β) W => Marks n₀ W ds) :=
  fun s W W' row hs hg hr => by
    have hm : ∀ {ds : List Deferred}, (∀ D, ({ target := .collected D, args := #[] } : Deferred) ∈ ds → D < B) → Marks n₀ W ds → Marks n₀ W' ds := by
      intro ds
      induction ds with
      | nil => intro _ _; trivial
      | cons d ds ih =>
        rintro hlt ⟨⟨D, hd, hn, h1, h2⟩, hm⟩
        have hDB := hlt D (by rw [hd]; exact List.mem_cons_self ..)
        exact ⟨⟨D, hd, hn, (hg.block D (Array.getElem?_eq_some_iff.1 h1).1 (fun e => by have := (hr D e.symm).1; omega)).trans h1, h2⟩, ih (fun D' h' => hlt D' (List.mem_cons_of_mem _ h')) hm⟩
    exact hm (fun D hD => by have := (h.lt D hD).1; omega) hs

/-- A function whose loops have left marks is left. -/
theorem leaves_marks {n : Nat} {P : Program} {fn : Func} {tmps : Array Value} {R : Ending → World → Prop} {n₀ : Nat} (Φ : World → Prop)
    (hΦ : ∀ w D, Φ w → n₀ ≤ D → w.heap[D]? = some (.deferred (some [])) → Φ (w.putObj D (.deferred none)))
    (hend : ∀ w, Φ w → LeavesInM Fence.wide n P fn tmps R [] .returning w) : ∀ (ds : List Deferred) (w : World), Marks n₀ w ds → Φ w → LeavesInM Fence.wide n P fn tmps R ds .returning w
  | [], w, _, h => hend w h
  | d :: ds, w, ⟨⟨D, hd, hn, hk, hne⟩, hm⟩, h => by
    refine ⟨by simp, .inl ⟨D, _, by rw [hd], run_takeDeferred hk, ?_⟩⟩
    refine leaves_marks Φ hΦ hend ds _ ?_ (hΦ w D h hn hk)
    have hgo : ∀ {ds : List Deferred}, (∀ d' ∈ ds, d' ≠ ({ target := .collected D, args := #[] } : Deferred)) → Marks n₀ w ds → Marks n₀ (w.putObj D (.deferred none)) ds := by
      intro ds
      induction ds with
      | nil => intro _ _; trivial
      | cons d ds ih =>
        rintro hne ⟨⟨D', hd', hn', h1, h2⟩, hm⟩
        refine ⟨⟨D', hd', hn', ?_, h2⟩, ih (fun d' h' => hne d' (List.mem_cons_of_mem _ h')) hm⟩
        have : D' ≠ D := fun e => hne d (List.mem_cons_self ..) (by rw [hd', e])
        rw [World.putObj_heap_other (fun e => this (by first | exact e | exact e.symm))]
        exact h1
    exact hgo hne hm

/-- The greater counts of the nodes that have come. -/
def jl (f g : Nat → Int) (l : List Nat) : Nat → Int := fun j => if j ∈ l then max (f j) (g j) else f j
theorem jl_nil (f g : Nat → Int) : jl f g [] = f := by funext j; simp [jl]
theorem jl_snoc (f g : Nat → Int) (l : List Nat) (m : Nat) (x : Int) (hx : x = max (jl f g l m) (g m)) : ∀ j, upd (jl f g l) m x j = jl f g (l ++ [m]) j := fun j => by
  subst hx
  unfold upd jl
  by_cases e : j = m
  · subst e
    simp only [if_true, List.mem_append, List.mem_singleton, or_true]
    split <;> omega
  · simp [e]
theorem jl_has (f g : Nat → Int) (l : List Nat) (m : Nat) (hm : m < 64) (hg : 0 < g m) : Vc.msk (pos (jl f g l)) ||| 2 ^ m = Vc.msk (pos (jl f g (l ++ [m]))) := by
  rw [Vc.msk_add _ _ hm]
  refine Vc.msk_congr fun j _ => ?_
  unfold pos jl
  by_cases e : j = m
  · subst e
    simp only [List.mem_append, List.mem_singleton, or_true, if_true, decide_true, Bool.or_true]
    have : 0 < max (f j) (g j) := by omega
    simp [this]
  · simp [e]
theorem jl_all (f g : Nat → Int) (hf : ∀ n, 0 ≤ f n) (hg : ∀ n, 0 ≤ g n) : ∀ j, j < 64 → jl f g (Vc.upto (pos g) 64) j = max (f j) (g j) := fun j hj => by
  unfold jl
  have h1 := hf j
  have h2 := hg j
  by_cases h : 0 < g j
  · rw [if_pos (by simp [Vc.upto, pos, hj, h])]
  · rw [if_neg (by simp [Vc.upto, pos, h])]
    omega
theorem jn_nonneg (vs : List (List Vc.St)) (n : Nat) : 0 ≤ jn vs n := by
  have : ∀ a : Int, 0 ≤ a → 0 ≤ vs.foldl (fun a v => max a (Vc.cnt v n)) a := by
    induction vs with
    | nil => exact fun a h => h
    | cons x l ih => exact fun a h => ih (max a (Vc.cnt x n)) (by omega)
  exact this 0 (by omega)

theorem jl_blk {W : World} {B : Nat} {t : TypeId} {fp f g : Nat → Int} {hp m : Nat} {l l' : List Nat} {z : Int} (hC : Blk W B t (cc fp hp)) (hf : fp = jl f g l) (hm : m < 64) (hz : z = max (jl f g l m) (g m))
    (hh : hp ||| 2 ^ m = Vc.msk (pos (jl f g l'))) (hl : l' = l ++ [m]) :
    Blk ((W.setCell ⟨B, m, none⟩ (.int .i64 z)).setCell ⟨B, 64, none⟩ (.int .u64 ((hp ||| 2 ^ m : Nat) : Int))) B t (cc (jl f g l') (Vc.msk (pos (jl f g l')))) := by
  have h5 := (hC.set_ m (.int .i64 z)).set_ 64 (.int .u64 ((hp ||| 2 ^ m : Nat) : Int))
  rw [cc_set _ _ _ _ hm, cc_sethas, hh, hf, cc_congr (fun j _ => jl_snoc f g l m z hz j), ← hl] at h5
  rw [hh]
  exact h5

end Go.Proofs.Ytldcgmnfohhjbac
