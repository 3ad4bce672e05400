/- The document's Meet. -/
import Derived.Test.YtldcgmnfohhjbaaDoorVecG
namespace Go.Proofs.YtldcgmnfohhjbaaDoor
open Go.RowKit
set_option maxRecDepth 100000

/-- The least counts. -/
def mt : List (List Vc.St) → Nat → Int
  | [], _ => 0
  | v :: r, n => r.foldl (fun a u => min a (Vc.cnt u n)) (Vc.cnt v n)
theorem mt_snoc (vs : List (List Vc.St)) (v : List Vc.St) (n : Nat) (h : vs ≠ []) : mt (vs ++ [v]) n = min (mt vs n) (Vc.cnt v n) := by
  cases vs with
  | nil => exact absurd rfl h
  | cons u r => simp [mt]
theorem vec_zero : vec (fun _ => 0) = [] := by
  have : Vc.upto (pos fun _ => 0) 64 = [] := by
    rw [Vc.upto, List.filter_eq_nil_iff]; intro a _; simp [pos]
  rw [vec, vecTo, this]; rfl
theorem mt_nil : vec (mt []) = [] := by rw [show mt [] = fun _ => 0 from rfl, vec_zero]

end Go.Proofs.YtldcgmnfohhjbaaDoor
