/- Walks over the laws VectorCounts, VectorCovers, VectorWiths. -/
import Derived.Test.YtldcgmnfohhjbaaDoorVecS
namespace Go.Proofs.YtldcgmnfohhjbaaDoor
open Go.RowKit
set_option maxRecDepth 100000

/-- What is made of counts is formed. -/
def lastN : Int → List Vc.St → Int
  | l, [] => l
  | _, t :: r => lastN t.2 r
theorem lastN_snoc (last : Int) (v : List Vc.St) (s : Vc.St) : lastN last (v ++ [s]) = s.2 := by
  induction v generalizing last with
  | nil => rfl
  | cons t r ih => rw [List.cons_append, lastN, ih]
theorem fm_snoc (last : Int) (v : List Vc.St) (s : Vc.St) : fm last (v ++ [s]) = (fm last v && (Vc.right s && decide (lastN last v < s.2))) := by
  induction v generalizing last with
  | nil => rw [List.nil_append, fm, fm, fm, lastN, Bool.and_true, Bool.true_and]
  | cons t r ih => rw [List.cons_append, fm, fm, ih, lastN, Bool.and_assoc, Bool.and_assoc]
theorem vec_formed (f : Nat → Int) : ∀ k, k ≤ 64 → fm (-1) (vecTo f (pos f) k) = true ∧ lastN (-1) (vecTo f (pos f) k) < k := by
  intro k
  induction k with
  | zero => intro _; exact ⟨rfl, by show lastN (-1) [] < ((0 : Nat) : Int); decide⟩
  | succ k ih =>
    intro hk
    obtain ⟨h1, h2⟩ := ih (by omega)
    by_cases hp : pos f k = true
    · rw [vecTo_hit f _ k hp, fm_snoc, h1, lastN_snoc]
      have h0 : 0 < f k := by simpa [pos] using hp
      have hr : Vc.right (f k, (k : Int)) = true := (Vc.right_iff _).2 ⟨h0, by simp, by simp; omega⟩
      rw [hr]
      exact ⟨by simpa using h2, by simp only; omega⟩
    · rw [vecTo_miss f _ k (by simpa using hp)]
      exact ⟨h1, by omega⟩

end Go.Proofs.YtldcgmnfohhjbaaDoor
