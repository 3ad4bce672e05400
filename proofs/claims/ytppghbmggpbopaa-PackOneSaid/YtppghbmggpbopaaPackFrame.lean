/- What every law of this seat asks of the program, once. -/
import Derived.Test.YtppghbmggpbopaaPackF
import Derived.Test.YtppghbmggpbopaaShut
namespace Go.Proofs.Ytppghbmggpbopaa
set_option maxRecDepth 100000
theorem own : ownKnob Try.prog.godebug = none := by kernel_rfl
theorem laidOut : laidOutB Try.prog = true := by kernel_rfl

open Go.RowKit in
/-- A slice within another one, read off a row of the call's own: its first bytes, and those behind. -/
theorem own_split {w : World} {base : Nat} {n m c : Nat} {A : Option Addr} {l r : List UInt8} (h : w.ownsRow base 5 1 (.slice A (n + m) c) (n + m) (bv (l ++ r))) (hl : l.length = n) :
    n + m ≤ c ∧ Rd w w.heap.size 1 A n c (bv l) ∧ Rd w w.heap.size 1 (cutAt 1 A c n) m (c - n) (bv r) := by
  have hR := Rd.of_own h
  have h1 := hR.upto (m := n) (by omega)
  have h2 := hR.from_ (k := n) (by omega)
  rw [Nat.mul_one, ← bv_take, List.take_left' hl] at h1
  rw [Nat.mul_one, ← bv_drop, List.drop_left' hl, Nat.add_sub_cancel_left] at h2
  exact ⟨hR.cap, h1, h2⟩

section
variable {H : Type}
theorem one_le (d : DataW H) : 1 ≤ Rows.uptoBulk d := by
  cases d with
  | lit l => cases l <;> simp [Rows.uptoBulk]
  | _ => simp [Rows.uptoBulk]
theorem part_le {d : DataW H} {l : List (DataW H)} (h : d ∈ l) : Rows.uptoBulk d ≤ Rows.uptoBulkAll l := by
  induction l with
  | nil => cases h
  | cons x r ih =>
    simp only [Rows.uptoBulkAll]
    cases List.mem_cons.1 h with
    | inl e => subst e; omega
    | inr e => have := ih e; omega
theorem length_le (l : List (DataW H)) : l.length ≤ Rows.uptoBulkAll l := by
  induction l with
  | nil => simp [Rows.uptoBulkAll]
  | cons x r ih => have := one_le x; simp only [Rows.uptoBulkAll, List.length_cons]; omega
theorem cap_le (d : DataW H) : capOf d ≤ Rows.uptoBulk d := by
  cases d with
  | slice elems spare =>
    have h1 := length_le elems
    have h2 := length_le spare
    simp only [capOf, Rows.uptoBulk]
    omega
  | _ => simp [capOf]
theorem uptoBound {l : List (DataW H)} (hk : Rows.uptoSmall H l = true) : Rows.uptoBulkAll l ≤ 1048576 := of_decide_eq_true hk
end
end Go.Proofs.Ytppghbmggpbopaa
