/- Walks over the document's Some and Join at spans. -/
import Derived.Test.YtepdcbhapjgijaaDoorSpM
namespace Go.Proofs.YtepdcbhapjgijaaDoor
open Go.RowKit
set_option maxRecDepth 100000

theorem setOf_ones (L : List Int) (k : Nat) (h : k < L.length) (o : Nat) : Sn.setOf (ones (L.take (k + 1))) o = (Sn.setOf (ones (L.take k)) o || decide (L[k] = (o : Int))) := by
  rw [List.take_succ_eq_append_getElem h]
  unfold ones Sn.setOf
  rw [List.map_append, Sn.inB_app]
  simp only [List.map_cons, List.map_nil, Sn.inB, List.any_cons, List.any_nil, Bool.or_false]
  congr 1
  rw [Bool.eq_iff_iff]; simp; omega
theorem updB_hit (p q : Nat → Bool) (m : Nat) (h : ∀ o, q o = (p o || decide ((m : Int) = (o : Int)))) : ∀ n, updB p m true n = q n := fun n => by
  rw [h n]; unfold updB
  by_cases e : n = m
  · subst e; simp
  · rw [if_neg e, decide_eq_false (by omega), Bool.or_false]

theorem setOf_flat (vs : List (List Sn.Sp)) (k : Nat) (h : k < vs.length) (o : Nat) : Sn.setOf (vs.take (k + 1)).flatten o = (Sn.setOf (vs.take k).flatten o || Sn.setOf vs[k] o) := by
  rw [List.take_succ_eq_append_getElem h, List.flatten_append]
  unfold Sn.setOf
  rw [Sn.inB_app]
  simp

end Go.Proofs.YtepdcbhapjgijaaDoor
