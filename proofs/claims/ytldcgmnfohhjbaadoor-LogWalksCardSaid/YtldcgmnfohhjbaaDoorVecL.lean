/- Walks over vector.Greatest and vector.Covers. -/
import Derived.Test.YtldcgmnfohhjbaaDoorVecK
namespace Go.Proofs.YtldcgmnfohhjbaaDoor
open Go.RowKit Go.Shelf
set_option maxRecDepth 100000
attribute [local go_sem] Oper.semAt_some

/-- The greatest of what has come. -/
def mxl (f : Nat → Int) (l : List Nat) : Int := l.foldl (fun a n => max a (f n)) 0
theorem mxl_snoc (f : Nat → Int) (l : List Nat) (n : Nat) : mxl f (l ++ [n]) = max (mxl f l) (f n) := by simp [mxl]
theorem mxl_nonneg (f : Nat → Int) (l : List Nat) : 0 ≤ mxl f l := by
  have : ∀ a : Int, 0 ≤ a → 0 ≤ l.foldl (fun a n => max a (f n)) a := by
    induction l with
    | nil => exact fun a h => h
    | cons x l ih => exact fun a h => ih (max a (f x)) (by omega)
  exact this 0 (by omega)
theorem mxl_all (f : Nat → Int) (k : Nat) (hf : ∀ n, 0 ≤ f n) : mxl f (Vc.upto (pos f) k) = grTo f k := by
  induction k with
  | zero => rfl
  | succ k ih =>
    have h0 : 0 ≤ grTo f k := by rw [← ih]; exact mxl_nonneg _ _
    rw [gr_next, ← ih]
    by_cases h : 0 < f k
    · rw [Vc.upto_hit (pos f) k k (Nat.le_refl _) (fun j h1 h2 => by omega) (by simpa [pos] using h), mxl_snoc]
    · rw [Vc.upto_skip (pos f) k (k + 1) (by omega) (fun j h1 h2 => by obtain rfl : j = k := by omega
                                                                       simpa [pos] using h)]
      have := hf k
      have : f k = 0 := by omega
      rw [this]
      omega
theorem has_pos (f : Nat → Int) : has_ f = Vc.msk (pos f) := rfl

end Go.Proofs.YtldcgmnfohhjbaaDoor
