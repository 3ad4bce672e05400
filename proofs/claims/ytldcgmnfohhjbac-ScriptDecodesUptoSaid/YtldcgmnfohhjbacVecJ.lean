/- The iterator: each, its closure each$1, All: their contracts. -/
import Derived.RangeFuncBox
import Derived.RangeFuncNested
import Derived.RangeFuncLeaves
import Derived.Shelf.Abstract
import Derived.WalkKit
import Derived.OwnWalkIn
import Derived.TacticsInMore
import Derived.LoopNIn
import Derived.LoopIn
import Derived.Maps.AppendAt
import Derived.Test.YtldcgmnfohhjbacVecI
namespace Go.Proofs.Ytldcgmnfohhjbac
open Go.RowKit Go.Shelf
set_option maxRecDepth 100000
attribute [local go_sem] Oper.semAt_some

/-- What a round is handed: a node that is in, and its count. -/
abbrev Ev (p : Nat → Bool) (val : Nat → Int → Prop) := { x : Nat × Int // x.1 < 64 ∧ p x.1 = true ∧ val x.1 x.2 }
def evs {p : Nat → Bool} {val : Nat → Int → Prop} (x : Ev p val) : Array Value := #[.int .i64 (x.1.1 : Int), .int .i64 x.1.2]
def nds {p : Nat → Bool} {val : Nat → Int → Prop} (l : List (Ev p val)) : List Nat := l.map (·.1.1)
theorem nds_snoc {p : Nat → Bool} {val : Nat → Int → Prop} (l : List (Ev p val)) (x : Ev p val) : nds (l ++ [x]) = nds l ++ [x.1.1] := by simp [nds]
theorem nds_len {p : Nat → Bool} {val : Nat → Int → Prop} (l : List (Ev p val)) : (nds l).length = l.length := by simp [nds]

theorem low_next (r : Nat) (h : r ≠ 0) : r &&& (r - 1) < r := by
  have : r &&& (r - 1) ≤ r - 1 := Nat.and_le_right
  omega
theorem and_bit (r : Nat) (hr : r < 18446744073709551616) (h : r ≠ 0) : bits BinOp.and .u64 (r : Int) (IntKind.u64.wrap ((r : Int) - 1)) = ((r &&& (r - 1) : Nat) : Int) := by
  have e : IntKind.u64.wrap ((r : Int) - 1) = ((r - 1 : Nat) : Int) := by rw [IntKind.wrap_u64]; omega
  rw [e, bits_and_u64_nat r _ hr (by omega)]

end Go.Proofs.Ytldcgmnfohhjbac
