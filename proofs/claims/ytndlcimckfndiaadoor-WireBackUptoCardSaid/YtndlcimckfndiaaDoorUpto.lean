/- What every law of a plain seat asks of the program, once; the bulk of what is read. -/
import Derived.Test.YtndlcimckfndiaaDoorRows
import Derived.Test.YtndlcimckfndiaaDoorChecked
import Derived.Test.YtndlcimckfndiaaDoorOpen
namespace Go.Proofs.YtndlcimckfndiaaDoor
open Go.RowKit
set_option maxRecDepth 100000
theorem own : ownKnob Tryd.prog.godebug = none := by kernel_rfl
theorem laidOut : laidOutB Tryd.prog = true := by kernel_rfl
section
variable {H : Type}
theorem one_le (d : DataW H) : 1 ≤ Rows.uptoBulk d := by
  cases d with
  | lit l => cases l <;> simp [Rows.uptoBulk]
  | _ => simp [Rows.uptoBulk]
theorem part_le {d : DataW H} {l : List (DataW H)} (h : d ∈ l) : Rows.uptoBulk d ≤ Rows.uptoBulkAll l := by
  induction l with
  | nil => cases h
  | cons x r ih =>
    simp only [Rows.uptoBulkAll]
    cases List.mem_cons.1 h with
    | inl e => subst e; omega
    | inr e => have := ih e; omega
theorem length_le (l : List (DataW H)) : l.length ≤ Rows.uptoBulkAll l := by
  induction l with
  | nil => simp [Rows.uptoBulkAll]
  | cons x r ih => have := one_le x; simp only [Rows.uptoBulkAll, List.length_cons]; omega
theorem cap_le (d : DataW H) : capOf d ≤ Rows.uptoBulk d := by
  cases d with
  | slice elems spare =>
    have h1 := length_le elems
    have h2 := length_le spare
    simp only [capOf, Rows.uptoBulk]
    omega
  | _ => simp [capOf]
theorem elem_le {d d' : DataW H} (h : d' ∈ elemsOf d) : Rows.uptoBulk d' ≤ Rows.uptoBulk d := by
  cases d with
  | slice elems spare =>
    have := part_le (l := elems) h
    simp only [Rows.uptoBulk]; omega
  | _ => simp [elemsOf] at h
theorem uptoBound {l : List (DataW H)} (hk : Rows.uptoSmall H l = true) : Rows.uptoBulkAll l ≤ 1048576 := of_decide_eq_true hk
end
end Go.Proofs.YtndlcimckfndiaaDoor
