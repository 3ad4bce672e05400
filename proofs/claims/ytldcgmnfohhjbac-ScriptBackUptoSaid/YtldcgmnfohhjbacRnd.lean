/- A region that draws its order within a round of a range over a function: walked as outside. No program is named. -/
import Derived.OrdersHeld
import Derived.OrdersIn
import Derived.Deep.RegionHeld
import Derived.RangeFuncCalls
import Derived.Test.YtldcgmnfohhjbacWords
namespace Go.Proofs.Ytldcgmnfohhjbac
open Go.RowKit

theorem rowsIn_wide {n : Nat} {P : Program} {row : String} {args : Array Value} {w : World} {R : Value → World → Prop} (h : Rows P row args w R) : RowsIn Fence.wide n P row args w R := by
  intro c cs hr
  obtain ⟨v, w', h1, h2⟩ := h c cs
  exact ⟨v, w', h1, stepsIn_wide.2 h2⟩
theorem nrm_lets {K : Act → World → Prop} (h : LetsOut (Nrm K)) : False := by
  obtain ⟨a, w, h⟩ := h
  exact h
theorem oper_round {n l : Nat} {P : Program} {o : Oper} {a : Act} {w : World} {K N : Act → World → Prop} (hd : ∀ c, o.op ≠ .defer c) (h : o.wp P a w N (Nrm K)) : o.wpIn (Fence.wide.inRound l) n P a w N (Nrm K) := by
  refine ⟨fun f _ => trivial, ?_⟩
  rw [Oper.semAt_eq _ _ _ hd]
  unfold Oper.wp at h
  generalize (execOp a.eval o).run P w = r at *
  cases r with
  | ok x w' =>
    cases x with
    | enter f args => exact ⟨fun hh => by simp [Fence.wide, Fence.inRound] at hh, CallsIn.inRound l (callsIn_wide.2 h)⟩
    | row row args => exact ⟨fun hh => by simp [Fence.wide, Fence.inRound] at hh, rowsIn_wide h⟩
    | _ => first | exact h | exact False.elim h
  | halt x w' => cases x <;> first | exact h | exact False.elim h
theorem any_round {n l : Nat} {P : Program} {ops : Array Oper} {K : Act → World → Prop} {md : Region.Mode} (hd : ops.all (fun o => match o.op with | .defer _ => false | _ => true) = true) :
    ∀ (fuel : Nat) (listed : Array Bool) (a : Act) (w : World), wpAny P md ops (Nrm K) fuel listed a w → wpAnyIn (Fence.wide.inRound l) n P md ops (Nrm K) fuel listed a w
  | 0, _, _, _, h => h
  | fuel + 1, listed, a, w, h => by
    refine ⟨h.1, fun i hi => ?_⟩
    have h2 := wpOp_mono (fun a w => any_round (n := n) (l := l) hd fuel (listed.setIfInBounds i true) a w) (h.2 i hi)
    unfold wpOp at h2
    unfold wpOpIn
    split
    · rename_i e
      rw [e] at h2
      exact h2
    · rename_i o e
      rw [e] at h2
      simp only at h2 ⊢
      have hdo : ∀ c, o.op ≠ .defer c := fun c hc => by
        have := Array.all_eq_true'.1 hd o (Array.mem_of_getElem? e)
        rw [hc] at this
        cases this
      split
      · rename_i hw
        rw [if_pos hw] at h2
        rcases h2 with h2 | ⟨_, h2⟩
        · exact oper_round hdo h2
        · exact (nrm_lets h2).elim
      · rename_i hw
        rw [if_neg hw] at h2
        exact ⟨fun f _ => trivial, h2⟩

/-- The head of such a walk. -/
theorem region_round {n l : Nat} {P : Program} {id : Nat} {ops : Array Oper} {Q : Exit → Act → World → Prop} {a : Act} {w : World} {S : World → Prop} (hm : P.follows .mixedOrders = true) (hd : ops.all (fun o => match o.op with | .defer _ => false | _ => true) = true)
    (hS : S w.drew) (h : ∀ K : Act → World → Prop, (∀ a w, Q .normal a w → K a w) → S w.drew → wpAnyH P .any ops (Nrm K) S ops.size (Array.replicate ops.size false) a w.drew) : (Code.region id ops true).wpIn (Fence.wide.inRound l) n P Q a w := by
  refine wpIn_mono (Q := Nrm fun a w => Q .normal a w) (wpIn_region_any hm (any_round hd _ _ _ _ (wpAny_of_held _ _ _ _ (h (fun a w => Q .normal a w) (fun _ _ hh => hh) hS)))) fun e a w hh => ?_
  cases e with
  | normal => exact hh
  | _ => exact False.elim hh
end Go.Proofs.Ytldcgmnfohhjbac
