/- Walks over the document's Two, With, Greatest, Compare, Count. -/
import Derived.Test.YtldcgmnfohhjbacVecH
namespace Go.Proofs.Ytldcgmnfohhjbac
open Go.RowKit
set_option maxRecDepth 100000

theorem RdL.two {w : World} {A D : Option Addr} {n c m d : Nat} {u v : List Vc.St} (hl : u.length = n) (hl2 : v.length = m) (hR : Rd w w.heap.size 2 A n c (sv u)) (hR2 : Rd w w.heap.size 2 D m d (sv v)) (t : TypeId) :
    RdL (w.alloc (.cells #[.slice A n c, .slice D m d] t)) (w.alloc (.cells #[.slice A n c, .slice D m d] t)).heap.size (some ⟨w.heap.size, 0, none⟩) 2 2 [u, v] := by
  have hb : Below w.heap.size w (w.alloc (.cells #[.slice A n c, .slice D m d] t)) := (Below.refl _ _).alloc (Nat.le_refl _) _
  have hB := Blk.new w t #[.slice A n c, .slice D m d]
  refine ⟨rfl, Nat.le_refl _, by simp [maxLen], (fun h => by cases h), fun k hk => ?_⟩
  rcases k with _ | _ | k
  · exact ⟨w.heap.size, 0, A, n, c, rfl, by simp, hB.cell 0, hl, hR.go hb⟩
  · exact ⟨w.heap.size, 0, D, m, d, rfl, by simp, hB.cell 1, hl2, hR2.go hb⟩
  · simp only [List.length_cons, List.length_nil] at hk; omega

/-- The greatest count. -/
def grTo (f : Nat → Int) (k : Nat) : Int := (List.range k).foldl (fun a n => max a (f n)) 0
theorem gr_next (f : Nat → Int) (k : Nat) : grTo f (k + 1) = max (grTo f k) (f k) := by simp [grTo, List.range_succ]

/-- How two stand: 0 same, 1 before, 2 behind, 3 apart. -/
def standB (x y : Bool) : Int := if x && y then 0 else if y then 1 else if x then 2 else 3
/-- The count of a node that is any number. -/
def cntZ (v : List Vc.St) (n : Int) : Int := if 0 ≤ n ∧ n < 64 then Vc.cnt v n.toNat else 0
end Go.Proofs.Ytldcgmnfohhjbac
