/- Blocks that lie between two numbers, kept. No program is named. -/
import Derived.Test.YtnibkniggiokkaaDoorTold
import Derived.Test.YtnibkniggiokkaaDoorBut
namespace Go.Proofs.YtnibkniggiokkaaDoor
open Go.RowKit

/-- The cells that lay from block lo on and below hi in W0 lie so in W. -/
def Mid (lo hi : Nat) (W0 W : World) : Prop := ∀ k o, lo ≤ k → k < hi → W0.heap[k]? = some o → o.isCells = true → W.heap[k]? = some o
theorem Mid.refl (lo hi : Nat) (W : World) : Mid lo hi W W := fun _ _ _ _ h _ => h
theorem Mid.own {β : Type} (lo hi B : Nat) (W0 : World) : OwnFrom B (fun (_ : β) W => Mid lo hi W0 W) := fun _ W W' row hs hg hr k o h1 h2 h3 h4 => by
  have h5 := hs k o h1 h2 h3 h4
  rw [hg.block k (Array.getElem?_eq_some_iff.1 h5).1 (fun e => by
    obtain ⟨_, o', ho', hc⟩ := hr k e.symm
    rw [h5] at ho'
    injection ho' with ho'
    rw [ho'] at h4
    rw [hc] at h4; cases h4)]
  exact h5
theorem Mid.setCell {lo hi : Nat} {W0 W : World} (h : Mid lo hi W0 W) {p : Addr} (hp : p.block < lo ∨ hi ≤ p.block) (u : Value) : Mid lo hi W0 (W.setCell p u) := fun k o h1 h2 h3 h4 => by
  rw [Below.heap_setCell W p u k (by rcases hp with hp | hp <;> omega)]
  exact h k o h1 h2 h3 h4
theorem Mid.below {lo hi B : Nat} {W0 W V : World} (h : Mid lo hi W0 W) (hb : Below B W V) (hB : hi ≤ B) : Mid lo hi W0 V := fun k o h1 h2 h3 h4 => by
  rw [hb.block k (by omega)]; exact h k o h1 h2 h3 h4
theorem own_mid {lo hi base size n : Nat} {e : TypeId} {v : Value} {xs : List Value} {W0 W : World} (h : W0.ownsRow base e size v n xs) (k : Mid lo hi W0 W) (h1 : lo ≤ base) (h2 : W0.heap.size ≤ hi) : W.ownsRow base e size v n xs := by
  refine ⟨h.1, ?_⟩
  rcases h.2 with h3 | ⟨g, cap, cur, rfl, hbg, hh, rest⟩
  · exact .inl h3
  · exact .inr ⟨g, cap, cur, rfl, hbg, k g _ (by omega) (by have := (Array.getElem?_eq_some_iff.1 hh).1; omega) hh rfl, rest⟩
theorem rd_kept {W W' : World} {row : Option Nat} {B size n c : Nat} {A : Option Addr} {xs : List Value} (h : Rd W B size A n c xs) (hg : W.grownBy W' row) (hr : ∀ r, row = some r → ∃ o : Obj, W.heap[r]? = some o ∧ o.isCells = false) : Rd W' B size A n c xs :=
  ⟨h.len, h.cap, h.max, h.nil, fun hn => by
    obtain ⟨ad, e, hb, hc⟩ := h.at0 hn
    exact ⟨ad, e, hb, fun j u hu => cell_kept (hc j u hu) hg hr⟩⟩
end Go.Proofs.YtnibkniggiokkaaDoor
