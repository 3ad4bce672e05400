/- Walk over the document's Meet at spans. -/
import Derived.Test.YtepdcbhapjgijaaDoorSpJ
namespace Go.Proofs.YtepdcbhapjgijaaDoor
open Go.RowKit
set_option maxRecDepth 100000

/-- The first k places of one, the others of another. -/
def mixB (r p : Nat → Bool) (k : Nat) : Nat → Bool := fun o => if o < k then r o else p o
theorem mixB_next (r p : Nat → Bool) (k : Nat) : ∀ n, updB (mixB r p k) k (r k) n = mixB r p (k + 1) n := fun n => by
  unfold updB mixB
  by_cases h : n = k
  · subst h; simp
  · rw [if_neg h]
    by_cases h2 : n < k
    · rw [if_pos h2, if_pos (by omega)]
    · rw [if_neg h2, if_neg (by omega)]
theorem mixB_at (r p : Nat → Bool) (k : Nat) : mixB r p k k = p k := by unfold mixB; rw [if_neg (by omega)]
theorem mixB_start (r p : Nat → Bool) : ∀ n, mixB r p 0 n = p n := fun n => by unfold mixB; rw [if_neg (by omega)]
theorem mixB_end (r p : Nat → Bool) : ∀ n, n < 256 → mixB r p 256 n = r n := fun n h => by unfold mixB; rw [if_pos h]
end Go.Proofs.YtepdcbhapjgijaaDoor
