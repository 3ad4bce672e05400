/- Walks over vector.With, Formed, Count, Has. -/
import Derived.Test.YtldcgmnfohhjbacVecO
namespace Go.Proofs.Ytldcgmnfohhjbac
open Go.RowKit
set_option maxRecDepth 100000

/-- Is it a vector? -/
def fm : Int → List Vc.St → Bool
  | _, [] => true
  | last, s :: r => Vc.right s && (decide (last < s.2) && fm s.2 r)
theorem fm_drop (last : Int) (v : List Vc.St) (k : Nat) (h : k < v.length) : fm last (v.drop k) = (Vc.right v[k] && (decide (last < v[k].2) && fm v[k].2 (v.drop (k + 1)))) := by
  rw [List.drop_eq_getElem_cons h]; rfl

theorem cntZ_cons (s : Vc.St) (r : List Vc.St) (x : Int) : cntZ (s :: r) x = if s.2 = x ∧ Vc.right s = true then s.1 else cntZ r x := by
  unfold cntZ
  by_cases h : 0 ≤ x ∧ x < 64
  · rw [if_pos h, if_pos h]
    simp only [Vc.cnt]
    obtain ⟨k, rfl⟩ := Int.eq_ofNat_of_zero_le h.1
    by_cases h2 : s.2 = (k : Int) <;> by_cases h3 : Vc.right s = true <;> simp [h2, h3]
  · rw [if_neg h, if_neg h, if_neg]
    rintro ⟨h1, h2⟩
    have := (Vc.right_iff s).1 h2
    omega
theorem cntZ_drop (v : List Vc.St) (x : Int) (k : Nat) (h : k < v.length) : cntZ (v.drop k) x = if v[k].2 = x ∧ Vc.right v[k] = true then v[k].1 else cntZ (v.drop (k + 1)) x := by
  rw [List.drop_eq_getElem_cons h, cntZ_cons]
theorem cntZ_nil (x : Int) : cntZ [] x = 0 := by unfold cntZ; split <;> rfl

end Go.Proofs.Ytldcgmnfohhjbac
