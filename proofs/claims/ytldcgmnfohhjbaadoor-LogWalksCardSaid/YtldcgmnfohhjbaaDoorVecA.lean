/- Walks: stamp.Right and the document's, math/bits.TrailingZeros64 over the table, vector.read. -/
import Derived.Test.YtldcgmnfohhjbaaDoorRows
import Derived.Test.YtldcgmnfohhjbaaDoorWords
import Derived.Test.YtldcgmnfohhjbaaDoorVec1
import Derived.Laws.Bits64b
import Derived.Deep.QuietTactic
import Derived.BigQuiet
import Derived.Laws.BitsAllLaws
namespace Go.Proofs.YtldcgmnfohhjbaaDoor
open Go.RowKit
set_option maxRecDepth 100000

theorem ret_bool {a b : Bool} (h : a = b) : Ending.returned (.bool a) = .returned (.bool b) := by rw [h]

/-- Right answers whether a stamp is right; its parameter lies in a block of its own. -/
theorem right_any (c n : Int) (w : World) : Calls Tryd.prog 42 #[.agg #[.int .i64 c, .int .i64 n]] w fun e w' => e = .returned (.bool (Vc.right (c, n))) ∧ Below w.heap.size w w' := by
  have hb : ∀ cs, Below w.heap.size w (w.alloc (.cells cs 24)) := fun _ => (Below.refl _ _).alloc (Nat.le_refl _) _
  by_cases h : 0 < c ∧ 0 ≤ n ∧ n < 64
  · have HR := Lib.hid ((Vc.right_iff (c, n)).2 h)
    obtain ⟨h1, h2, h3⟩ := h
    go_enter Tryd.func42, Tryd.ntmps42
    go_wp2
    go_ret
    exact ⟨by rw [HR.out]; rfl, hb _⟩
  · have hr : Vc.right (c, n) = false := by
      rcases hh : Vc.right (c, n) with _ | _
      · rfl
      · exact absurd ((Vc.right_iff (c, n)).1 hh) h
    have HR := Lib.hid hr
    by_cases h1 : 0 < c
    · by_cases h2 : 0 ≤ n
      · have h3 : 64 ≤ n := by omega
        clear h hr
        go_enter Tryd.func42, Tryd.ntmps42
        go_wp2
        go_ret
        exact ⟨ret_bool (by rw [HR.out]; simp; omega), hb _⟩
      · clear h hr
        go_enter Tryd.func42, Tryd.ntmps42
        go_wp2
        go_ret
        exact ⟨by rw [HR.out]; rfl, hb _⟩
    · clear h hr
      go_enter Tryd.func42, Tryd.ntmps42
      go_wp2
      go_ret
      exact ⟨by rw [HR.out]; rfl, hb _⟩

/-- The document's Right. -/
theorem refRight_any (c n : Int) (w : World) : Calls Tryd.prog 48 #[.agg #[.int .i64 c, .int .i64 n]] w fun e w' => e = .returned (.bool (Vc.right (c, n))) ∧ Below w.heap.size w w' := by
  have hb : ∀ cs, Below w.heap.size w (w.alloc (.cells cs 24)) := fun _ => (Below.refl _ _).alloc (Nat.le_refl _) _
  by_cases h : 0 < c ∧ 0 ≤ n ∧ n < 64
  · have HR := Lib.hid ((Vc.right_iff (c, n)).2 h)
    obtain ⟨h1, h2, h3⟩ := h
    go_enter Tryd.func48, Tryd.ntmps48
    go_wp2
    go_ret
    exact ⟨ret_bool (by rw [HR.out]; simp; omega), hb _⟩
  · have hr : Vc.right (c, n) = false := by
      rcases hh : Vc.right (c, n) with _ | _
      · rfl
      · exact absurd ((Vc.right_iff (c, n)).1 hh) h
    have HR := Lib.hid hr
    by_cases h1 : 0 < c
    · by_cases h2 : 0 ≤ n
      · have h3 : 64 ≤ n := by omega
        clear h hr
        go_enter Tryd.func48, Tryd.ntmps48
        go_wp2
        go_ret
        exact ⟨ret_bool (by rw [HR.out]; simp; omega), hb _⟩
      · clear h hr
        go_enter Tryd.func48, Tryd.ntmps48
        go_wp2
        go_ret
        exact ⟨by rw [HR.out]; rfl, hb _⟩
    · clear h hr
      go_enter Tryd.func48, Tryd.ntmps48
      go_wp2
      go_ret
      exact ⟨by rw [HR.out]; rfl, hb _⟩

/-- The table of math/bits lies as its text lays it. -/
def Tab (w : World) : Prop := ∀ j, j < Lib.deBruijn64tab.length → w.cell? ⟨0, j, none⟩ = some (.int .u8 (Lib.deBruijn64tab.getD j 0))
theorem Tab.below {w w' : World} (h : Tab w) (hb : Below w.heap.size w w') : Tab w' := fun j hj => by
  have := h j hj
  rw [hb.cell (World.block_lt_of_cell? _ _ this)]
  exact this

theorem tz64_key (x a : Nat) (hx : x < 18446744073709551616) (hx0 : x ≠ 0) (hlow : x &&& (18446744073709551616 - x) = a) :
    IntKind.u64.wrap (bits BinOp.and IntKind.u64 (x : Int) (IntKind.u64.wrap (-(x : Int))) * 285870213051353865) / 288230376151711744 = ((a * 285870213051353865 % 18446744073709551616 / 288230376151711744 : Nat) : Int) := by
  have e1 : IntKind.u64.wrap (-(x : Int)) = ((18446744073709551616 - x : Nat) : Int) := by rw [IntKind.wrap_u64]; omega
  rw [e1, bits_and_u64_nat x _ hx (by omega), hlow, IntKind.wrap_u64]
  omega
set_option maxHeartbeats 1000000 in
theorem tz64_core (x k idx : Nat) (w : World) (hx0 : ((x : Int) == 0) = false)
    (key : IntKind.u64.wrap (bits BinOp.and IntKind.u64 (x : Int) (IntKind.u64.wrap (-(x : Int))) * 285870213051353865) / 288230376151711744 = (idx : Int))
    (hi : idx < 64) (_hk : k < 64) (hcell : w.cell? ⟨0, idx, none⟩ = some (.int .u8 k)) :
    Calls Tryd.prog 91 #[.int .u64 x] w fun e w' => e = .returned (.int .i64 k) ∧ w = w' := by
  go_enter Tryd.func91, Tryd.ntmps91
  go_wp2_with (simp only [key])
  go_ret
  exact ⟨rfl, rfl⟩
/-- math/bits.TrailingZeros64 at a number that isn't 0. -/
theorem tz64_any (x k : Nat) (hx : x < 18446744073709551616) (h0 : x ≠ 0) (hk : Lib.ctz 64 x = k) (w : World) (hT : Tab w) :
    Calls Tryd.prog 91 #[.int .u64 x] w fun e w' => e = .returned (.int .i64 k) ∧ w = w' := by
  obtain ⟨hlow, hk'⟩ := Lib.lowest_bit 64 x h0 hx
  obtain ⟨hi, htab⟩ := Lib.deBruijn64_at _ hk'
  have hcell := hT _ hi
  rw [htab, hk] at hcell
  rw [hk] at hk' hi
  rw [hk] at hlow
  exact tz64_core x k _ w (beq_eq_false_iff_ne.2 (by omega)) (tz64_key x _ hx h0 hlow) hi hk' hcell
end Go.Proofs.YtldcgmnfohhjbaaDoor
