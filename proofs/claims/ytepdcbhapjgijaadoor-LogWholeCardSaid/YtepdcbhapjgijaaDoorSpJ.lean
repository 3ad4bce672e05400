/- Walk over the document's Size at spans. -/
import Derived.Test.YtepdcbhapjgijaaDoorSpI
namespace Go.Proofs.YtepdcbhapjgijaaDoor
open Go.RowKit
set_option maxRecDepth 100000

/-- How many of the first k objects are in a set. -/
def numTo (p : Nat → Bool) (k : Nat) : Nat := ((List.range k).filter p).length
theorem numTo_hit (p : Nat → Bool) (k : Nat) (h : p k = true) : numTo p (k + 1) = numTo p k + 1 := by unfold numTo; rw [List.range_succ, List.filter_append, List.length_append]; simp [h]
theorem numTo_miss (p : Nat → Bool) (k : Nat) (h : p k = false) : numTo p (k + 1) = numTo p k := by unfold numTo; rw [List.range_succ, List.filter_append, List.length_append]; simp [h]
theorem numTo_le (p : Nat → Bool) (k : Nat) : numTo p k ≤ k := by
  have := List.length_filter_le p (List.range k)
  rw [List.length_range] at this
  exact this
end Go.Proofs.YtepdcbhapjgijaaDoor
