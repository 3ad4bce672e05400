/- Walk over vector.read: a list's counts. -/
import Derived.Test.YtldcgmnfohhjbacVecB
namespace Go.Proofs.Ytldcgmnfohhjbac
open Go.RowKit
set_option maxRecDepth 100000

/-- A counts' block, so far as a list was read. -/
def has_ (f : Nat → Int) : Nat := Vc.msk fun n => decide (0 < f n)

theorem has_none : has_ (Vc.cnt []) = 0 := by
  unfold has_
  rw [← Vc.msk_none]
  exact Vc.msk_congr fun n _ => by simp [Vc.cnt]
theorem ask_bit (H m : Nat) (hH : H < 18446744073709551616) : bits BinOp.and .u64 ((H : Int) / 2 ^ m) 1 = ((H / 2 ^ m % 2 : Nat) : Int) := by
  have e : ((H : Int) / 2 ^ m) = ((H / 2 ^ m : Nat) : Int) := by simp
  have hlt : H / 2 ^ m < 18446744073709551616 := Nat.lt_of_le_of_lt (Nat.div_le_self _ _) hH
  rw [e]
  have := bits_and_u64_nat (H / 2 ^ m) 1 hlt (by omega)
  rw [Nat.and_one_is_mod] at this
  exact this

theorem or_bit (H m : Nat) (hH : H < 18446744073709551616) (hm : m < 64) : bits BinOp.or .u64 (H : Int) (IntKind.u64.wrap (2 ^ m)) = ((H ||| 2 ^ m : Nat) : Int) := by
  have h2 : 2 ^ m < 18446744073709551616 := Nat.pow_lt_pow_right (n := 64) (by omega) hm
  have e : IntKind.u64.wrap ((2 : Int) ^ m) = ((2 ^ m : Nat) : Int) := by
    rw [show ((2 : Int) ^ m) = ((2 ^ m : Nat) : Int) by simp]
    generalize 2 ^ m = q at h2 ⊢
    rw [IntKind.wrap_u64]; omega
  rw [e]
  exact bits_or_u64_nat H (2 ^ m) hH h2

theorem take_next (v : List Vc.St) (k : Nat) (h : k < v.length) : v.take (k + 1) = v.take k ++ [v[k]] := by
  rw [List.take_succ_eq_append_getElem h]
theorem cnt_skip (v : List Vc.St) (k : Nat) (sc sn : Int) (h : k < v.length) (h1 : v[k].1 = sc) (h2 : v[k].2 = sn) (hr : Vc.right (sc, sn) = false) : Vc.cnt (v.take (k + 1)) = Vc.cnt (v.take k) := by
  funext n
  have e : v[k] = (sc, sn) := by rw [← h1, ← h2]
  rw [take_next v k h, Vc.cnt_snoc, e, if_neg (by rw [hr]; simp)]
theorem cnt_keep (v : List Vc.St) (k : Nat) (m : Nat) (h : k < v.length) (h2 : v[k].2 = (m : Int)) (hx : Vc.cnt (v.take k) m ≠ 0) : Vc.cnt (v.take (k + 1)) = Vc.cnt (v.take k) := by
  funext n
  rw [take_next v k h, Vc.cnt_snoc, if_neg]
  rintro ⟨c1, _, c3⟩
  rw [h2] at c3
  obtain rfl : m = n := by omega
  exact hx c1
theorem cnt_next (v : List Vc.St) (k : Nat) (sc : Int) (m : Nat) (h : k < v.length) (h1 : v[k].1 = sc) (h2 : v[k].2 = (m : Int)) (r1 : 0 < sc) (hm : m < 64) (hx : Vc.cnt (v.take k) m = 0) :
    (∀ n, n < 64 → upd (Vc.cnt (v.take k)) m sc n = Vc.cnt (v.take (k + 1)) n) ∧ has_ (Vc.cnt (v.take (k + 1))) = has_ (Vc.cnt (v.take k)) ||| 2 ^ m := by
  have e : v[k] = (sc, (m : Int)) := by rw [← h1, ← h2]
  have hr : Vc.right (sc, (m : Int)) = true := (Vc.right_iff _).2 ⟨r1, by simp, by simp; omega⟩
  have h3 : ∀ n, upd (Vc.cnt (v.take k)) m sc n = Vc.cnt (v.take (k + 1)) n := fun n => by
    rw [take_next v k h, Vc.cnt_snoc, e, upd]
    by_cases hn : n = m
    · subst hn; rw [if_pos rfl, if_pos ⟨hx, hr, rfl⟩]
    · rw [if_neg hn, if_neg]
      rintro ⟨_, _, c3⟩
      simp only at c3
      omega
  refine ⟨fun n _ => h3 n, ?_⟩
  unfold has_
  rw [Vc.msk_add _ _ hm]
  refine Vc.msk_congr fun n _ => ?_
  rw [← h3 n, upd]
  by_cases hn : n = m
  · simp [hn, r1]
  · simp [hn]

end Go.Proofs.Ytldcgmnfohhjbac
