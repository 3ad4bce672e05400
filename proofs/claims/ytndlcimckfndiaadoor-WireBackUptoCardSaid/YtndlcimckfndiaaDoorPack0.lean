/- Plain laws of packed numbers, with no program in sight: what is laid is read, and what is read is laid. -/
namespace Go.Proofs.YtndlcimckfndiaaDoor.Pk

/-- The bytes of a number. -/
def lay (n : Nat) : List UInt8 := if n < 128 then [UInt8.ofNat n] else UInt8.ofNat (n % 128 + 128) :: lay (n / 128)
termination_by n
decreasing_by omega

/-- The value of the first m bytes, seven bits each. -/
def val : List UInt8 → Nat → Nat
  | _, 0 => 0
  | [], _ => 0
  | c :: l, m + 1 => c.toNat % 128 + 128 * val l m

/-- The number that bytes begin with: the number, its size, the error (4: form, 5: short). -/
def num (L : List UInt8) : Nat → List UInt8 → Nat × Nat × Nat
  | i, [] => if i < 9 then (0, 0, 5) else (0, 0, 4)
  | i, c :: r => if 9 ≤ i then (0, 0, 4) else if 128 ≤ c.toNat then num L (i + 1) r else if c.toNat = 0 ∧ 0 < i then (0, 0, 4) else (val L (i + 1), i + 1, 0)

theorem lay_small {n : Nat} (h : n < 128) : lay n = [UInt8.ofNat n] := by rw [lay, if_pos h]
theorem lay_more {n : Nat} (h : 128 ≤ n) : lay n = UInt8.ofNat (n % 128 + 128) :: lay (n / 128) := by rw [lay, if_neg (by omega)]
theorem lay_pos (n : Nat) : 0 < (lay n).length := by
  rw [lay]; split <;> simp

theorem val_zero (l : List UInt8) : val l 0 = 0 := by cases l <;> rfl
theorem val_nil (m : Nat) : val [] m = 0 := by cases m <;> rfl
theorem val_cons (c : UInt8) (l : List UInt8) (m : Nat) : val (c :: l) (m + 1) = c.toNat % 128 + 128 * val l m := rfl
theorem val_lt (l : List UInt8) (m : Nat) : val l m < 128 ^ m := by
  induction l generalizing m with
  | nil => rw [val_nil]; exact Nat.pow_pos (by omega)
  | cons c l ih =>
    cases m with
    | zero => simp [val_zero]
    | succ m => rw [val_cons, Nat.pow_succ]; have := ih m; omega
/-- One byte more. -/
theorem val_snoc (l : List UInt8) (k : Nat) (h : k < l.length) : val l (k + 1) = val l k + l[k].toNat % 128 * 128 ^ k := by
  induction l generalizing k with
  | nil => simp at h
  | cons c l ih =>
    cases k with
    | zero => simp [val_cons, val_zero]
    | succ k =>
      have h' : k < l.length := by simpa using h
      rw [val_cons, val_cons, ih k h', Nat.pow_succ]
      simp only [List.getElem_cons_succ]
      rw [Nat.mul_add, Nat.add_assoc, Nat.mul_comm (128 ^ k) 128, Nat.mul_left_comm]
theorem val_drop (l : List UInt8) (k m : Nat) (h : k < l.length) : val (l.drop k) (m + 1) = l[k].toNat % 128 + 128 * val (l.drop (k + 1)) m := by
  rw [List.drop_eq_getElem_cons h, val_cons]
theorem val_append (l r : List UInt8) (m : Nat) (h : m ≤ l.length) : val (l ++ r) m = val l m := by
  induction l generalizing m with
  | nil => obtain rfl : m = 0 := by simpa using h
           simp [val_zero]
  | cons c l ih =>
    cases m with
    | zero => simp [val_zero]
    | succ m => rw [List.cons_append, val_cons, val_cons, ih m (by simpa using h)]

theorem toNat_ofNat {n : Nat} (h : n < 256) : (UInt8.ofNat n).toNat = n := by
  rw [UInt8.toNat_ofNat']; omega

/-- The form of a laid number. -/
theorem lay_form (n : Nat) : ∃ pre c, lay n = pre ++ [c] ∧ (∀ b ∈ pre, 128 ≤ b.toNat) ∧ c.toNat < 128 ∧ (pre ≠ [] → 0 < c.toNat) ∧ val (lay n) (lay n).length = n := by
  induction n using Nat.strongRecOn with
  | _ n ih =>
    rcases Nat.lt_or_ge n 128 with h | h
    · have e := toNat_ofNat (n := n) (by omega)
      refine ⟨[], UInt8.ofNat n, by rw [lay_small h]; rfl, (fun b hb => by cases hb), by omega, (fun hne => absurd rfl hne), ?_⟩
      rw [lay_small h]
      show val [UInt8.ofNat n] 1 = n
      rw [val_cons, val_zero, e]; omega
    · obtain ⟨pre, c, h1, h2, h3, h4, h5⟩ := ih (n / 128) (by omega)
      have e := toNat_ofNat (n := n % 128 + 128) (by omega)
      refine ⟨UInt8.ofNat (n % 128 + 128) :: pre, c, by rw [lay_more h, h1]; rfl, ?_, h3, fun _ => ?_, ?_⟩
      · intro b hb
        rcases List.mem_cons.1 hb with rfl | hb
        · omega
        · exact h2 b hb
      · by_cases hp : pre = []
        · subst hp
          have hl : (lay (n / 128)).length = 1 := by rw [h1]; rfl
          rw [hl, h1] at h5
          simp only [List.nil_append] at h5
          rw [val_cons, val_zero] at h5
          omega
        · exact h4 hp
      · rw [lay_more h]
        simp only [List.length_cons]
        rw [val_cons, h5, e]; omega

theorem lay_len_le (n m : Nat) (h : n < 128 ^ (m + 1)) : (lay n).length ≤ m + 1 := by
  induction m generalizing n with
  | zero => rw [lay_small (by simpa using h)]; simp
  | succ m ih =>
    rcases Nat.lt_or_ge n 128 with h1 | h1
    · rw [lay_small h1]; simp
    · rw [lay_more h1, List.length_cons]
      have := ih (n / 128) (by rw [Nat.pow_succ] at h; omega)
      omega
theorem lay_len9 {n : Nat} (h : n < 9223372036854775808) : (lay n).length ≤ 9 := lay_len_le n 8 (by simpa using h)

theorem num_pre (L pre : List UInt8) (c : UInt8) (r : List UInt8) (i : Nat) (hp : ∀ b ∈ pre, 128 ≤ b.toNat) (hi : i + pre.length < 9) (hc : c.toNat < 128) (h0 : 0 < i + pre.length → 0 < c.toNat) :
    num L i (pre ++ c :: r) = (val L (i + pre.length + 1), i + pre.length + 1, 0) := by
  induction pre generalizing i with
  | nil =>
    simp only [List.nil_append, List.length_nil, Nat.add_zero] at hi h0 ⊢
    rw [num, if_neg (by omega), if_neg (by omega), if_neg (by omega)]
  | cons b pre ih =>
    have hb := hp b (by simp)
    simp only [List.cons_append, List.length_cons] at hi h0 ⊢
    rw [num, if_neg (by omega), if_pos hb, ih (i + 1) (fun x hx => hp x (by simp [hx])) (by omega) (fun _ => h0 (by omega))]
    rw [show i + 1 + pre.length = i + (pre.length + 1) by omega]

/-- What is laid is read, whatever stands behind. -/
theorem num_lay {n : Nat} (h : n < 9223372036854775808) (r : List UInt8) : num (lay n ++ r) 0 (lay n ++ r) = (n, (lay n).length, 0) := by
  obtain ⟨pre, c, h1, h2, h3, h4, h5⟩ := lay_form n
  have hl : (lay n).length = pre.length + 1 := by rw [h1]; simp
  have h9 := lay_len9 h
  have hv : val (lay n ++ r) (pre.length + 1) = n := by rw [val_append _ _ _ (by omega), ← hl, h5]
  have e := num_pre (lay n ++ r) pre c r 0 h2 (by omega) h3 (fun hp => h4 (by intro e; subst e; simp at hp))
  rw [Nat.zero_add, hv] at e
  rw [← hl] at e
  rw [← e]
  congr 1
  rw [h1]; simp

theorem num_ok (L : List UInt8) : ∀ (r : List UInt8) (i x k : Nat), num L i r = (x, k, 0) →
    ∃ pre c r', r = pre ++ c :: r' ∧ (∀ b ∈ pre, 128 ≤ b.toNat) ∧ c.toNat < 128 ∧ (0 < i + pre.length → 0 < c.toNat) ∧ k = i + pre.length + 1 ∧ k ≤ 9 ∧ x = val L k
  | [], i, x, k, h => by
    rw [num] at h
    split at h <;> simp at h
  | c :: r, i, x, k, h => by
    rw [num] at h
    split at h
    · simp at h
    · split at h
      · obtain ⟨pre, d, r', h1, h2, h3, h4, h5, h6, h7⟩ := num_ok L r (i + 1) x k h
        refine ⟨c :: pre, d, r', by rw [h1]; rfl, ?_, h3, fun hh => h4 (by simp only [List.length_cons] at hh; omega), by simp only [List.length_cons]; omega, h6, h7⟩
        intro b hb
        rcases List.mem_cons.1 hb with rfl | hb
        · assumption
        · exact h2 b hb
      · split at h
        · simp at h
        · simp only [Prod.mk.injEq, and_true] at h
          refine ⟨[], c, r, rfl, (fun b hb => by cases hb), by omega, ?_, by simp; omega, by omega, by rw [← h.2, ← h.1]⟩
          intro h0
          simp only [List.length_nil, Nat.add_zero] at h0
          omega

theorem lay_val (pre : List UInt8) (c : UInt8) (h2 : ∀ b ∈ pre, 128 ≤ b.toNat) (h3 : c.toNat < 128) (h4 : 0 < pre.length → 0 < c.toNat) : lay (val (pre ++ [c]) (pre.length + 1)) = pre ++ [c] ∧ (0 < c.toNat → 0 < val (pre ++ [c]) (pre.length + 1)) := by
  induction pre with
  | nil =>
    have e : val ([] ++ [c]) (([] : List UInt8).length + 1) = c.toNat := by
      show val [c] 1 = _
      rw [val_cons, val_zero]; omega
    rw [e, lay_small h3]
    refine ⟨?_, id⟩
    simp [UInt8.ofNat_toNat]
  | cons b pre ih =>
    have hc := h4 (by simp)
    obtain ⟨i1, i2⟩ := ih (fun x hx => h2 x (by simp [hx])) (fun _ => hc)
    have hb := h2 b (by simp)
    have hb2 : b.toNat < 256 := UInt8.toNat_lt b
    have e : val (b :: pre ++ [c]) ((b :: pre).length + 1) = b.toNat % 128 + 128 * val (pre ++ [c]) (pre.length + 1) := rfl
    have hp := i2 hc
    rw [e]
    refine ⟨?_, fun _ => by omega⟩
    rw [lay_more (by omega)]
    have e1 : (b.toNat % 128 + 128 * val (pre ++ [c]) (pre.length + 1)) % 128 + 128 = b.toNat := by omega
    have e2 : (b.toNat % 128 + 128 * val (pre ++ [c]) (pre.length + 1)) / 128 = val (pre ++ [c]) (pre.length + 1) := by omega
    rw [e1, e2, i1, UInt8.ofNat_toNat]; rfl

/-- What is read, laid again, are the same bytes. -/
theorem num_back {l : List UInt8} {x k : Nat} (h : num l 0 l = (x, k, 0)) : 1 ≤ k ∧ k ≤ 9 ∧ k ≤ l.length ∧ lay x = l.take k ∧ x < 9223372036854775808 := by
  obtain ⟨pre, c, r, h1, h2, h3, h4, h5, h6, h7⟩ := num_ok l l 0 x k h
  rw [Nat.zero_add] at h4 h5
  have hl : l.length = pre.length + 1 + r.length := by rw [h1]; simp; omega
  have ht : l.take k = pre ++ [c] := by
    rw [h1, h5, show pre ++ c :: r = (pre ++ [c]) ++ r by simp, List.take_left' (by simp)]
  have hv : val l k = val (pre ++ [c]) (pre.length + 1) := by
    rw [← ht, ← h5]
    have := val_append (l.take k) (l.drop k) k (by simp; omega)
    rwa [List.take_append_drop] at this
  refine ⟨by omega, h6, by omega, ?_, ?_⟩
  · rw [ht, h7, hv]; exact (lay_val pre c h2 h3 h4).1
  · rw [h7]
    have := val_lt l k
    have : 128 ^ k ≤ 128 ^ 9 := Nat.pow_le_pow_right (by omega) h6
    have e9 : 128 ^ 9 = 9223372036854775808 := by decide
    omega

/-- The three ways in which a read ends. -/
theorem num_err (l : List UInt8) : ∀ (r : List UInt8) (i : Nat), (num l i r).2.2 = 0 ∨ num l i r = (0, 0, 4) ∨ num l i r = (0, 0, 5)
  | [], i => by rw [num]; split <;> simp
  | c :: r, i => by
    rw [num]
    split
    · simp
    · split
      · exact num_err l r (i + 1)
      · split <;> simp
end Go.Proofs.YtndlcimckfndiaaDoor.Pk
