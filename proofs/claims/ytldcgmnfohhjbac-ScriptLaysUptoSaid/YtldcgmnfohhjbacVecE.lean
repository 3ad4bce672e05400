/- Walks over the document's Of, Copy and Covers, and vector.list's plain side. -/
import Derived.Test.YtldcgmnfohhjbacVecD
namespace Go.Proofs.Ytldcgmnfohhjbac
open Go.RowKit
set_option maxRecDepth 100000

/-- The vector of counts. -/
def vecTo (f : Nat → Int) (p : Nat → Bool) (k : Nat) : List Vc.St := (Vc.upto p k).map fun n => (f n, (n : Int))
def pos (f : Nat → Int) : Nat → Bool := fun n => decide (0 < f n)
def vec (f : Nat → Int) : List Vc.St := vecTo f (pos f) 64
theorem vecTo_hit (f : Nat → Int) (p : Nat → Bool) (k : Nat) (h : p k = true) : vecTo f p (k + 1) = vecTo f p k ++ [(f k, (k : Int))] := by
  rw [vecTo, Vc.upto_hit p k k (Nat.le_refl _) (fun j h1 h2 => by omega) h, List.map_append]; rfl
theorem vecTo_miss (f : Nat → Int) (p : Nat → Bool) (k : Nat) (h : p k = false) : vecTo f p (k + 1) = vecTo f p k := by
  rw [vecTo, Vc.upto_skip p k (k + 1) (by omega) (fun j h1 h2 => by obtain rfl : j = k := by omega
                                                                    exact h)]; rfl
theorem vecTo_len (f : Nat → Int) (p : Nat → Bool) (k : Nat) : (vecTo f p k).length ≤ k := by rw [vecTo, List.length_map]; exact Vc.upto_len p k
theorem sv_one (s : Vc.St) : sv [s] = [.int .i64 s.1, .int .i64 s.2] := rfl
theorem sv_oneCell (v : List Vc.St) : ∀ u ∈ sv v, u.oneCell' = true := by
  intro u hu
  simp only [sv, List.mem_flatMap, List.mem_cons, List.not_mem_nil, or_false] at hu
  obtain ⟨s, _, h | h⟩ := hu <;> subst h <;> rfl
end Go.Proofs.Ytldcgmnfohhjbac
