/- Plain law and walk of the law SpanSets. -/
import Derived.Test.YtafbaagjokomcaaSpS
import Derived.Test.YtafbaagjokomcaaSpW
namespace Go.Proofs.Ytafbaagjokomcaa.Sn

theorem setOf_tidy (l : List Sp) (o : Nat) (h : o < 256) : setOf (tidy l) o = setOf l o := setOf_of _ o h
theorem setOf_meet (a b : List Sp) (o : Nat) (h : o < 256) : setOf (meetL a b) o = (setOf a o && setOf b o) := setOf_of _ o h
theorem setOf_less (a b : List Sp) (o : Nat) (h : o < 256) : setOf (lessL a b) o = (setOf a o && !setOf b o) := setOf_of _ o h
theorem setOf_two (a b : List Sp) (o : Nat) : setOf [a, b].flatten o = (setOf a o || setOf b o) := by
  unfold setOf
  simp [inB_app]
theorem setOf_one (a : List Sp) : [a].flatten = a := by simp
def all_ : List Sp := [(0, 255)]
theorem setOf_all (o : Nat) (h : o < 256) : setOf all_ o = true := by
  unfold setOf all_ inB
  simp; omega
/-- What both have and what the first has alone do not touch. -/
theorem sets_touch (a b : List Sp) : meetL (meetL a b) (lessL a b) = [] := (of_nil_iff _).2 fun o ho => by
  rw [setOf_meet a b o ho, setOf_less a b o ho]
  cases setOf a o <;> cases setOf b o <;> rfl
theorem sets_join (a b : List Sp) : tidy [meetL a b, lessL a b].flatten = tidy [a].flatten := of_congr fun o ho => by
  rw [setOf_two, setOf_meet a b o ho, setOf_less a b o ho, setOf_one]
  cases setOf a o <;> cases setOf b o <;> rfl
theorem sets_less (a b : List Sp) : lessL (tidy [a, b].flatten) b = lessL a b := of_congr fun o ho => by
  rw [setOf_tidy _ o ho, setOf_two]
  cases setOf a o <;> cases setOf b o <;> rfl
theorem sets_rest (a : List Sp) : meetL (lessL all_ a) a = [] := (of_nil_iff _).2 fun o ho => by
  rw [setOf_less _ a o ho]
  cases setOf a o <;> cases setOf all_ o <;> rfl
theorem setOf_full (a : List Sp) (o : Nat) (h : o < 256) : setOf (tidy [lessL all_ a, a].flatten) o = true := by
  rw [setOf_tidy _ o h, setOf_two, setOf_less _ a o h, setOf_all o h]
  cases setOf a o <;> rfl
end Go.Proofs.Ytafbaagjokomcaa.Sn
namespace Go.Proofs.Ytafbaagjokomcaa
open Go.RowKit
set_option maxRecDepth 100000

theorem numTo_congr {p q : Nat → Bool} : ∀ k, (∀ o, o < k → p o = q o) → numTo p k = numTo q k := by
  intro k h
  unfold numTo
  congr 1
  exact List.filter_congr fun o ho => h o (List.mem_range.1 ho)
theorem numTo_add (p q : Nat → Bool) : ∀ k, numTo (fun o => p o && q o) k + numTo (fun o => p o && !q o) k = numTo p k := by
  intro k
  induction k with
  | zero => rfl
  | succ k ih =>
    rcases hp : p k with _ | _
    · rw [numTo_miss _ k (by simp [hp]), numTo_miss _ k (by simp [hp]), numTo_miss p k hp, ih]
    · rcases hq : q k with _ | _
      · rw [numTo_miss _ k (by simp [hq]), numTo_hit _ k (by simp [hp, hq]), numTo_hit p k hp]; omega
      · rw [numTo_hit _ k (by simp [hp, hq]), numTo_miss _ k (by simp [hq]), numTo_hit p k hp]; omega
theorem numTo_all (p : Nat → Bool) : ∀ k, (∀ o, o < k → p o = true) → numTo p k = k := by
  intro k
  induction k with
  | zero => intro _; rfl
  | succ k ih => intro h; rw [numTo_hit p k (h k (by omega)), ih fun o ho => h o (by omega)]
theorem numTo_none (p : Nat → Bool) : ∀ k, (numTo p k = 0 ↔ ∀ o, o < k → p o = false) := by
  intro k
  induction k with
  | zero => exact ⟨fun _ o ho => absurd ho (by omega), fun _ => rfl⟩
  | succ k ih =>
    rcases hp : p k with _ | _
    · rw [numTo_miss p k hp, ih]
      exact ⟨fun h o ho => by
        rcases Nat.lt_succ_iff_lt_or_eq.1 ho with h' | rfl
        · exact h o h'
        · exact hp, fun h o ho => h o (by omega)⟩
    · rw [numTo_hit p k hp]
      exact ⟨fun h => by omega, fun h => by have := h k (by omega); rw [hp] at this; cases this⟩
theorem sets_size (a b : List Sn.Sp) : numTo (Sn.setOf (Sn.meetL a b)) 256 + numTo (Sn.setOf (Sn.lessL a b)) 256 = numTo (Sn.setOf a) 256 := by
  rw [numTo_congr 256 (Sn.setOf_meet a b), numTo_congr 256 (Sn.setOf_less a b), numTo_add]
theorem sets_full (a : List Sn.Sp) : numTo (Sn.setOf (Sn.tidy [Sn.lessL Sn.all_ a, a].flatten)) 256 = 256 := numTo_all _ 256 (Sn.setOf_full a)
theorem sets_covers (a b : List Sn.Sp) : decide (Sn.lessL b a = []) = decide (numTo (Sn.setOf (Sn.meetL a b)) 256 = numTo (Sn.setOf b) 256) := by
  have h := sets_size b a
  have e : numTo (Sn.setOf (Sn.meetL a b)) 256 = numTo (Sn.setOf (Sn.meetL b a)) 256 := numTo_congr 256 fun o ho => by rw [Sn.setOf_meet a b o ho, Sn.setOf_meet b a o ho, Bool.and_comm]
  rw [e]
  have h0 : Sn.lessL b a = [] ↔ numTo (Sn.setOf (Sn.lessL b a)) 256 = 0 := by
    rw [numTo_none]
    constructor
    · intro h o _; rw [h]; rfl
    · intro h; exact (Sn.of_nil_iff _).2 fun o ho => by rw [← Sn.setOf_less b a o ho]; exact h o ho
  rw [Bool.eq_iff_iff, decide_eq_true_eq, decide_eq_true_eq, h0]
  omega
theorem hasO_in (l : List Sn.Sp) (o : Nat) : hasO l (o : Int) = (decide (o < 256) && Sn.setOf l o) := by
  unfold hasO Sn.setOf
  rw [decide_eq_true (p := (0 : Int) ≤ (o : Int)) (by omega)]
  have : decide ((o : Int) ≤ 255) = decide (o < 256) := by rw [Bool.eq_iff_iff]; simp; omega
  rw [this]; simp
theorem hasO_neg (l : List Sn.Sp) (o : Int) (h : o < 0) : hasO l o = false := by
  unfold hasO
  rw [decide_eq_false (p := (0 : Int) ≤ o) (by omega)]; simp
theorem sets_hasJ (a b : List Sn.Sp) (o : Int) : hasO (Sn.tidy [a, b].flatten) o = (hasO a o || hasO b o) := by
  rcases Int.lt_or_le o 0 with h | h
  · rw [hasO_neg _ _ h, hasO_neg _ _ h, hasO_neg _ _ h]; rfl
  · obtain ⟨k, rfl⟩ := Int.eq_ofNat_of_zero_le h
    rw [hasO_in, hasO_in, hasO_in]
    by_cases hk : k < 256
    · rw [Sn.setOf_tidy _ k hk, Sn.setOf_two, decide_eq_true hk]; simp
    · rw [decide_eq_false hk]; simp
theorem sets_hasM (a b : List Sn.Sp) (o : Int) : hasO (Sn.meetL a b) o = (hasO a o && hasO b o) := by
  rcases Int.lt_or_le o 0 with h | h
  · rw [hasO_neg _ _ h, hasO_neg _ _ h, hasO_neg _ _ h]; rfl
  · obtain ⟨k, rfl⟩ := Int.eq_ofNat_of_zero_le h
    rw [hasO_in, hasO_in, hasO_in]
    by_cases hk : k < 256
    · rw [Sn.setOf_meet _ _ k hk, decide_eq_true hk]; simp
    · rw [decide_eq_false hk]; simp
end Go.Proofs.Ytafbaagjokomcaa
