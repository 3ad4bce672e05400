/- Plain laws of version vectors, with no program in sight: counts of a list of stamps, sets of nodes as bits, vectors. -/
namespace Go.Proofs.YtldcgmnfohhjbaaDoor.Vc

/-- A stamp: its count, its node. -/
abbrev St := Int × Int
def right (s : St) : Bool := decide (0 < s.1) && (decide (0 ≤ s.2) && decide (s.2 < 64))
theorem right_iff (s : St) : right s = true ↔ 0 < s.1 ∧ 0 ≤ s.2 ∧ s.2 < 64 := by simp [right]

/-- The count of a node: that of its first right stamp. -/
def cnt : List St → Nat → Int
  | [], _ => 0
  | s :: r, n => if right s = true ∧ s.2 = n then s.1 else cnt r n
theorem cnt_nonneg (v : List St) (n : Nat) : 0 ≤ cnt v n := by
  induction v with
  | nil => exact Int.le_refl _
  | cons s r ih =>
    rw [cnt]
    split
    · rename_i h; have := (right_iff s).1 h.1; omega
    · exact ih
theorem cnt_snoc (v : List St) (s : St) (n : Nat) : cnt (v ++ [s]) n = if cnt v n = 0 ∧ right s = true ∧ s.2 = n then s.1 else cnt v n := by
  induction v with
  | nil => simp [cnt]
  | cons t r ih =>
    rw [List.cons_append, cnt, cnt]
    by_cases h : right t = true ∧ t.2 = n
    · have := (right_iff t).1 h.1
      rw [if_pos h, if_pos h, if_neg (by omega)]
    · rw [if_neg h, if_neg h, ih]
theorem cnt_far (v : List St) (n : Nat) (h : 64 ≤ n) : cnt v n = 0 := by
  induction v with
  | nil => rfl
  | cons s r ih =>
    rw [cnt, if_neg, ih]
    intro hh
    have := (right_iff s).1 hh.1
    omega

/-- A set of nodes as bits. -/
def mskTo (p : Nat → Bool) : Nat → Nat
  | 0 => 0
  | k + 1 => mskTo p k ||| (if p k then 2 ^ k else 0)
def msk (p : Nat → Bool) : Nat := mskTo p 64
theorem mskTo_bit (p : Nat → Bool) (k n : Nat) : (mskTo p k).testBit n = (decide (n < k) && p n) := by
  induction k with
  | zero => simp [mskTo]
  | succ k ih =>
    rw [mskTo, Nat.testBit_or, ih]
    by_cases hk : p k = true
    · rw [if_pos hk, Nat.testBit_two_pow]
      by_cases hn : n = k
      · subst hn; simp [hk]
      · have h1 : decide (n < k + 1) = decide (n < k) := by simp; omega
        have h2 : decide (k = n) = false := by simp; omega
        rw [h1, h2, Bool.or_false]
    · rw [if_neg hk, Nat.zero_testBit, Bool.or_false]
      by_cases hn : n = k
      · subst hn; simp [hk]
      · have h1 : decide (n < k + 1) = decide (n < k) := by simp; omega
        rw [h1]
theorem msk_bit (p : Nat → Bool) (n : Nat) : (msk p).testBit n = (decide (n < 64) && p n) := mskTo_bit p 64 n
theorem mskTo_lt (p : Nat → Bool) (k : Nat) : mskTo p k < 2 ^ k := by
  refine Nat.lt_pow_two_of_testBit _ fun i hi => ?_
  rw [mskTo_bit]
  simp; omega
theorem msk_lt (p : Nat → Bool) : msk p < 18446744073709551616 := mskTo_lt p 64
theorem msk_eq {p : Nat → Bool} {x : Nat} (hx : x < 2 ^ 64) (h : ∀ n, n < 64 → x.testBit n = p n) : x = msk p := by
  refine Nat.eq_of_testBit_eq fun n => ?_
  rw [msk_bit]
  by_cases hn : n < 64
  · simp [hn, h n hn]
  · rw [Nat.testBit_lt_two_pow (Nat.lt_of_lt_of_le hx (Nat.pow_le_pow_right (by omega) (by omega)))]
    simp [hn]
theorem msk_none : msk (fun _ => false) = 0 := (msk_eq (by decide) (by simp)).symm
theorem msk_add (p : Nat → Bool) (k : Nat) (hk : k < 64) : msk p ||| 2 ^ k = msk fun n => p n || decide (n = k) := by
  refine msk_eq ?_ fun n hn => ?_
  · exact Nat.or_lt_two_pow (msk_lt p) (Nat.pow_lt_pow_right (by omega) hk)
  · rw [Nat.testBit_or, msk_bit, Nat.testBit_two_pow]
    simp [hn, eq_comm]
theorem msk_and (p q : Nat → Bool) : msk p &&& msk q = msk fun n => p n && q n := by
  refine msk_eq (Nat.and_lt_two_pow _ (msk_lt q)) fun n hn => ?_
  rw [Nat.testBit_and, msk_bit, msk_bit]
  simp [hn]
theorem msk_congr {p q : Nat → Bool} (h : ∀ n, n < 64 → p n = q n) : msk p = msk q := msk_eq (msk_lt p) fun n hn => by rw [msk_bit, h n hn]; simp [hn]
/-- Is a node in the set? -/
theorem msk_ask (p : Nat → Bool) (n : Nat) (hn : n < 64) : msk p / 2 ^ n % 2 = if p n then 1 else 0 := by
  have h := msk_bit p n
  rw [Nat.testBit_eq_decide_div_mod_eq] at h
  by_cases hp : p n = true
  · rw [if_pos hp]
    simpa [hn, hp] using h
  · rw [if_neg hp]
    have : ¬ msk p / 2 ^ n % 2 = 1 := by simpa [hn, hp] using h
    omega

/-- The nodes of a set, rising. -/
def nodes (p : Nat → Bool) : List Nat := (List.range 64).filter p

/-- What is left of a set from a node on. -/
def from_ (p : Nat → Bool) (k : Nat) : Nat → Bool := fun n => p n && decide (k ≤ n)
theorem from_zero (p : Nat → Bool) : msk (from_ p 0) = msk p := msk_congr fun n _ => by simp [from_]

theorem and_pred (y n : Nat) : (2 ^ n * (2 * y + 1)) &&& (2 ^ n * (2 * y + 1) - 1) = 2 ^ (n + 1) * y := by
  have e1 : 2 ^ n * (2 * y + 1) = 2 ^ (n + 1) * y + 2 ^ n := by rw [Nat.pow_succ, Nat.mul_add, Nat.mul_one, Nat.mul_assoc]
  have hp : 0 < 2 ^ n := Nat.pow_pos (by omega)
  have e2 : 2 ^ n * (2 * y + 1) - 1 = 2 ^ (n + 1) * y + (2 ^ n - 1) := by omega
  have hlt : 2 ^ n < 2 ^ (n + 1) := Nat.pow_lt_pow_right (by omega) (by omega)
  rw [e2, e1]
  refine Nat.eq_of_testBit_eq fun j => ?_
  rw [Nat.testBit_and, Nat.testBit_two_pow_mul_add _ hlt, Nat.testBit_two_pow_mul_add _ (by omega : 2 ^ n - 1 < 2 ^ (n + 1))]
  have e3 := Nat.testBit_two_pow_mul_add y (Nat.pow_pos (by omega) : 0 < 2 ^ (n + 1)) j
  rw [Nat.add_zero] at e3
  rw [e3]
  by_cases hj : j < n + 1
  · rw [if_pos hj, if_pos hj, if_pos hj, Nat.testBit_two_pow, Nat.testBit_two_pow_sub_one, Nat.zero_testBit]
    by_cases hjn : n = j
    · subst hjn; simp
    · simp [hjn]
  · rw [if_neg hj, if_neg hj, if_neg hj, Bool.and_self]
end Go.Proofs.YtldcgmnfohhjbaaDoor.Vc
