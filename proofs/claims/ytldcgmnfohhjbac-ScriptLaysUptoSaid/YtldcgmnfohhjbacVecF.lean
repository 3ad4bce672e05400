/- Walks over the document's Copy, Covers, Compare. -/
import Derived.Test.YtldcgmnfohhjbacVecE
namespace Go.Proofs.Ytldcgmnfohhjbac
open Go.RowKit
set_option maxRecDepth 100000

/-- No count of the second is greater. -/
def covB (f g : Nat → Int) : Bool := (List.range 64).all fun n => decide (g n ≤ f n)
theorem covB_iff (f g : Nat → Int) : covB f g = true ↔ ∀ n, n < 64 → g n ≤ f n := by simp [covB]
theorem covB_false {f g : Nat → Int} {n : Nat} (hn : n < 64) (h : f n < g n) : covB f g = false := by
  rcases hc : covB f g with _ | _
  · rfl
  · have := (covB_iff f g).1 hc n hn; omega

end Go.Proofs.Ytldcgmnfohhjbac
