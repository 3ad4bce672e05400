/- Walks over vector.Meet: a range over an iterator in a plain loop; its body writes what the iterator reads. -/
import Derived.Test.YtldcgmnfohhjbaaDoorVecN
import Derived.Shelf.RegionOpen
namespace Go.Proofs.YtldcgmnfohhjbaaDoor
open Go.RowKit Go.Shelf
set_option maxRecDepth 100000
attribute [local go_sem] Oper.semAt_some

theorem RdL.from_one {w : World} {B n c : Nat} {A : Option Addr} {vs : List (List Vc.St)} (h : RdL w B A n c vs) (hn : 0 < n) : RdL w B (cutAt 1 A c 1) (n - 1) (c - 1) (vs.drop 1) := by
  have h1 := h.len
  have h2 := h.cap
  refine ⟨by rw [List.length_drop]; omega, by omega, by have := h.max; omega, fun hA => ?_, fun k hk => ?_⟩
  · unfold cutAt at hA
    split at hA
    · omega
    · have := h.nil (by simpa using hA); omega
  · rw [List.length_drop] at hk
    obtain ⟨b, o, Ak, nk, ck, e, hb, hc, hl, hr⟩ := h.at_ (k + 1) (by omega)
    refine ⟨b, o + 1, Ak, nk, ck, ?_, hb, ?_, ?_, ?_⟩
    · unfold cutAt
      rw [if_neg (by omega), e]
      rfl
    · rw [show o + 1 + k = o + (k + 1) by omega]; exact hc
    · rw [List.getElem_drop]; simp only [Nat.add_comm 1 k]; exact hl
    · rw [List.getElem_drop]; simp only [Nat.add_comm 1 k]; exact hr

theorem Marks.drew {n₀ : Nat} {w : World} {ds : List Deferred} (h : Marks n₀ w ds) : Marks n₀ w.drew ds := Marks.keep (w := w) (w' := w.drew) (fun _ hD _ => hD) h
theorem Good.drew {G Bx : Nat} {val : Nat → Int → Prop} {W : World} (h : Good G Bx val W) : Good G Bx val W.drew := ⟨h.tab, h.box, h.cnts⟩
theorem Good.setG {G Bx : Nat} {W : World} (h : Good G Bx (fun _ _ => True) W) {m : Nat} {z : Int} (hm : m < 64) (hB : Bx ≠ G) (h0 : 0 ≠ G) : Good G Bx (fun _ _ => True) (W.setCell ⟨G, m, none⟩ (.int .i64 z)) := by
  obtain ⟨f, c, hf, _⟩ := h.cnts
  refine ⟨fun j hj => ?_, h.box.far (p := ⟨G, m, none⟩) hB _, upd f m z, c, ?_, fun _ _ => trivial⟩
  · rw [World.cell?_setCell_other W ⟨G, m, none⟩ _ _ (fun e => h0 (by injection e with e; exact e.symm))]
    exact h.tab j hj
  · have := hf.set_ m (.int .i64 z)
    rwa [cc_set _ _ _ _ hm] at this

/-- In a round an operation that defers nothing is carried out as anywhere. -/
theorem wpAnyIn_round {F : Fence} {n : Nat} {P : Program} {ops : Array Oper} {Q : Exit → Act → World → Prop} {md : Region.Mode} {l : Nat} (hro : F.round = none) (hd : ops.all (fun o => match o.op with | .defer _ => false | _ => true) = true) :
    ∀ (fuel : Nat) (listed : Array Bool) (a : Act) (w : World), wpAnyIn F n P md ops Q fuel listed a w → wpAnyIn (F.inRound l) n P md ops Q fuel listed a w
  | 0, _, _, _, h => h
  | fuel + 1, listed, a, w, h => by
    refine ⟨h.1, fun i hi => ?_⟩
    have h2 := wpOpIn_mono (fun a w => wpAnyIn_round (l := l) hro hd fuel (listed.setIfInBounds i true) a w) (h.2 i hi)
    unfold wpOpIn at h2 ⊢
    split
    · rename_i e
      rw [e] at h2
      exact h2
    · rename_i o e
      rw [e] at h2
      simp only at h2 ⊢
      have hdo : ∀ c, o.op ≠ .defer c := fun c hc => by
        have := Array.all_eq_true'.1 hd o (Array.mem_of_getElem? e)
        rw [hc] at this
        cases this
      split
      · rename_i hw
        rw [if_pos hw] at h2
        refine ⟨h2.1, ?_⟩
        have h3 := h2.2
        rw [hro, Oper.semAt_none] at h3
        rw [Fence.inRound_round, Oper.semAt_some _ _ _ hdo]
        exact h3
      · rename_i hw
        rw [if_neg hw] at h2
        exact h2

/-- The lesser counts of the nodes that have come. -/
def ml (f g : Nat → Int) (l : List Nat) : Nat → Int := fun j => if j ∈ l then min (f j) (g j) else f j
theorem ml_nil (f g : Nat → Int) : ml f g [] = f := by funext j; simp [ml]
theorem ml_snoc (f g : Nat → Int) (l : List Nat) (m : Nat) (x : Int) (hx : x = min (ml f g l m) (g m)) : ∀ j, upd (ml f g l) m x j = ml f g (l ++ [m]) j := fun j => by
  subst hx
  unfold upd ml
  by_cases e : j = m
  · subst e
    simp only [if_true, List.mem_append, List.mem_singleton, or_true]
    split <;> omega
  · simp [e]

end Go.Proofs.YtldcgmnfohhjbaaDoor
