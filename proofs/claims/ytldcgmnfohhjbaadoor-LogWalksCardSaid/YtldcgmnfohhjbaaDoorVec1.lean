/- Plain laws: the lowest node of a set, by the count of trailing noughts. -/
import Derived.Test.YtldcgmnfohhjbaaDoorVec0
import Derived.Lib.TrailingZeros
namespace Go.Proofs.YtldcgmnfohhjbaaDoor.Vc

theorem low_step (p : Nat → Bool) (k : Nat) (h : msk (from_ p k) ≠ 0) :
    ∃ n, Lib.ctz 64 (msk (from_ p k)) = n ∧ n < 64 ∧ p n = true ∧ k ≤ n ∧ (∀ j, k ≤ j → j < n → p j = false) ∧ msk (from_ p k) &&& (msk (from_ p k) - 1) = msk (from_ p (n + 1)) := by
  have hlt := msk_lt (from_ p k)
  obtain ⟨y, hy, hn⟩ := Lib.ctzFrom_spec 64 (msk (from_ p k)) (by omega) hlt
  have e : Lib.ctz 64 (msk (from_ p k)) = Lib.ctzFrom 64 (msk (from_ p k)) := by rw [Lib.ctz, if_neg h]
  have hbit := fun j => msk_bit (from_ p k) j
  rw [e]
  generalize Lib.ctzFrom 64 (msk (from_ p k)) = n at hy hn
  have hb2 : ∀ j, (2 ^ n * (2 * y + 1)).testBit j = (if j < n then false else (2 * y + 1).testBit (j - n)) := fun j => by
    have := Nat.testBit_two_pow_mul_add (2 * y + 1) (Nat.pow_pos (by omega) : 0 < 2 ^ n) j
    rw [Nat.add_zero, Nat.zero_testBit] at this
    exact this
  have hbn : from_ p k n = true := by
    have h1 := hbit n
    rw [hy, hb2, if_neg (by omega), Nat.sub_self] at h1
    have h2 : (2 * y + 1).testBit 0 = true := by simp [Nat.testBit_zero]
    rw [h2] at h1
    simpa [hn] using h1.symm
  have hlow : ∀ j, j < n → from_ p k j = false := fun j hj => by
    have h1 := hbit j
    rw [hy, hb2, if_pos hj] at h1
    have : j < 64 := by omega
    simpa [this] using h1.symm
  simp only [from_, Bool.and_eq_true, decide_eq_true_eq] at hbn
  refine ⟨n, rfl, hn, hbn.1, hbn.2, fun j hkj hj => ?_, ?_⟩
  · have := hlow j hj
    simpa [from_, hkj] using this
  · rw [hy, and_pred]
    refine msk_eq ?_ fun j hj => ?_
    · have h1 : 2 ^ (n + 1) * y ≤ 2 ^ n * (2 * y + 1) := by
        rw [Nat.pow_succ, Nat.mul_assoc]; exact Nat.mul_le_mul_left _ (by omega)
      rw [← hy] at h1
      exact Nat.lt_of_le_of_lt h1 hlt
    · have h3 := Nat.testBit_two_pow_mul_add y (Nat.pow_pos (by omega) : 0 < 2 ^ (n + 1)) j
      rw [Nat.add_zero, Nat.zero_testBit] at h3
      rw [h3]
      have h1 := hbit j
      rw [hy, hb2] at h1
      simp only [from_, hj, decide_true, Bool.true_and] at h1 ⊢
      by_cases hjn : j < n + 1
      · rw [if_pos hjn]
        have : decide (n + 1 ≤ j) = false := by simp; omega
        rw [this, Bool.and_false]
      · rw [if_neg hjn]
        rw [if_neg (by omega)] at h1
        have e2 : decide (n + 1 ≤ j) = true := by simp; omega
        have e3 : decide (k ≤ j) = true := by simp; omega
        rw [e2, Bool.and_true]
        rw [e3, Bool.and_true] at h1
        rw [← h1, show j - n = (j - (n + 1)) + 1 by omega, Nat.testBit_succ]
        congr 1
        omega

theorem none_left (p : Nat → Bool) (k : Nat) (h : msk (from_ p k) = 0) : ∀ j, k ≤ j → j < 64 → p j = false := fun j hk hj => by
  have := msk_bit (from_ p k) j
  rw [h, Nat.zero_testBit] at this
  simp only [from_, hj, decide_true, Bool.true_and] at this
  have e : decide (k ≤ j) = true := by simpa using hk
  rw [e, Bool.and_true] at this
  exact this.symm

/-- The nodes below a number. -/
def upto (p : Nat → Bool) (k : Nat) : List Nat := (List.range k).filter p
theorem upto_skip (p : Nat → Bool) (k n : Nat) (hk : k ≤ n) (h : ∀ j, k ≤ j → j < n → p j = false) : upto p n = upto p k := by
  induction n with
  | zero => obtain rfl : k = 0 := by omega
            rfl
  | succ n ih =>
    by_cases e : k = n + 1
    · rw [e]
    · rw [upto, List.range_succ, List.filter_append, List.filter_cons, h n (by omega) (by omega)]
      have := ih (by omega) fun j h1 h2 => h j h1 (by omega)
      simpa [upto] using this
theorem upto_hit (p : Nat → Bool) (k n : Nat) (hk : k ≤ n) (h : ∀ j, k ≤ j → j < n → p j = false) (hn : p n = true) : upto p (n + 1) = upto p k ++ [n] := by
  rw [upto, List.range_succ, List.filter_append, List.filter_cons, hn, ← upto_skip p k n hk h]
  rfl
theorem upto_len (p : Nat → Bool) (k : Nat) : (upto p k).length ≤ k := by
  have := List.length_filter_le p (List.range k)
  rwa [List.length_range] at this
theorem upto_le {p : Nat → Bool} {k m : Nat} (h : k ≤ m) : upto p k <+: upto p m := by
  induction m with
  | zero => obtain rfl : k = 0 := by omega
            exact List.prefix_refl _
  | succ m ih =>
    by_cases e : k = m + 1
    · rw [e]; exact List.prefix_refl _
    · refine (ih (by omega)).trans ?_
      rw [upto, upto, List.range_succ, List.filter_append]
      exact List.prefix_append _ _
theorem upto_lt {p : Nat → Bool} {k n : Nat} (h : n ∈ upto p k) : n < k ∧ p n = true := by
  simpa [upto] using h
end Go.Proofs.YtldcgmnfohhjbaaDoor.Vc
