/- Plain laws: the objects of a set in order, and how many. No program is named. -/
import Derived.Test.YtafbaagjokomcaaSp2
namespace Go.Proofs.Ytafbaagjokomcaa.Sn

/-- The objects of one span. -/
def seg (s : Sp) : List Nat := List.range' s.1.toNat (s.2 + 1 - s.1).toNat
/-- The objects of a list, span by span. -/
def segs (l : List Sp) : List Nat := l.flatMap seg
theorem segs_cons (s : Sp) (l : List Sp) : segs (s :: l) = seg s ++ segs l := by simp [segs]
/-- The first k objects of a set, in order. -/
def listTo (p : Nat → Bool) (k : Nat) : List Nat := (List.range k).filter p
theorem listTo_zero (p : Nat → Bool) : listTo p 0 = [] := rfl
theorem listTo_next (p : Nat → Bool) (k : Nat) : listTo p (k + 1) = listTo p k ++ (if p k then [k] else []) := by
  unfold listTo
  rw [List.range_succ, List.filter_append]
  cases h : p k <;> simp [h]
theorem listTo_len (p : Nat → Bool) (k : Nat) : (listTo p k).length ≤ k := by
  have := List.length_filter_le p (List.range k)
  rw [List.length_range] at this
  exact this
theorem listTo_app (p : Nat → Bool) (a b : Nat) : listTo p (a + b) = listTo p a ++ (List.range' a b).filter p := by
  unfold listTo
  rw [← List.filter_append]
  congr 1
  rw [List.range_eq_range', List.range_eq_range']
  have := List.range'_append_1 (s := 0) (m := a) (n := b)
  rw [Nat.zero_add] at this
  exact this.symm
theorem listTo_skip (p : Nat → Bool) (a b : Nat) (h : ∀ o, a ≤ o → o < b → p o = false) (hab : a ≤ b) : listTo p b = listTo p a := by
  obtain ⟨d, rfl⟩ := Nat.exists_eq_add_of_le hab
  rw [listTo_app, List.filter_eq_nil_iff.2, List.append_nil]
  intro o ho
  rw [List.mem_range'_1] at ho
  rw [h o ho.1 ho.2]
  simp
theorem segs_tail : ∀ (l : List Sp) (e : Int), fmS e l = true → ∀ a : Nat, (a : Int) ≤ e + 2 → a ≤ 256 → segs l = (List.range' a (256 - a)).filter fun o : Nat => inB l (o : Int) := by
  intro l
  induction l with
  | nil =>
    intro e _ a _ _
    rw [List.filter_eq_nil_iff.2]
    · rfl
    · intro o _; simp [inB]
  | cons s r ih =>
    intro e h a ha h256
    obtain ⟨h1, h2, h3, h4, h5⟩ := fmS_cons.1 h
    have hs1 : ((s.1.toNat : Nat) : Int) = s.1 := Int.toNat_of_nonneg h3
    obtain ⟨m, hm⟩ : ∃ m : Nat, (s.2 + 1 - s.1).toNat = m := ⟨_, rfl⟩
    obtain ⟨b, hb⟩ : ∃ b : Nat, s.1.toNat = b := ⟨_, rfl⟩
    rw [hb] at hs1
    have hab : a ≤ b := by omega
    have hbm : b + m ≤ 256 := by omega
    have he : (List.range' a (256 - a)) = List.range' a (b - a) ++ (List.range' b m ++ List.range' (b + m) (256 - (b + m))) := by
      rw [List.range'_append_1]
      rw [show b = a + (b - a) by omega, show (a + (b - a) - a) = b - a by omega, List.range'_append_1]
      congr 1; omega
    rw [segs_cons, he, List.filter_append, List.filter_append]
    have e1 : (List.range' a (b - a)).filter (fun o : Nat => inB (s :: r) (o : Int)) = [] := by
      rw [List.filter_eq_nil_iff]
      intro o ho
      rw [List.mem_range'_1] at ho
      rw [inB_cons]
      have hr : inB r (o : Int) = false := by
        rcases hz : inB r (o : Int) with _ | _
        · rfl
        · have := fmS_in h5 _ hz; omega
      rw [hr, decide_eq_false (p := s.1 ≤ (o : Int)) (by omega)]
      simp
    have e2 : (List.range' b m).filter (fun o : Nat => inB (s :: r) (o : Int)) = List.range' b m := by
      rw [List.filter_eq_self]
      intro o ho
      rw [List.mem_range'_1] at ho
      rw [inB_cons, decide_eq_true (p := s.1 ≤ (o : Int)) (by omega), decide_eq_true (p := (o : Int) ≤ s.2) (by omega)]
      rfl
    have e3 : (List.range' (b + m) (256 - (b + m))).filter (fun o : Nat => inB (s :: r) (o : Int)) = segs r := by
      rw [ih s.2 h5 (b + m) (by omega) hbm]
      refine List.filter_congr fun o ho => ?_
      rw [List.mem_range'_1] at ho
      rw [inB_cons, decide_eq_false (p := (o : Int) ≤ s.2) (by omega)]
      simp
    rw [e1, e2, e3, List.nil_append]
    unfold seg
    rw [hm, hb]
/-- A set's objects, span by span, are all its objects. -/
theorem segs_list (l : List Sp) : segs (tidy l) = listTo (setOf l) 256 := by
  rw [segs_tail (tidy l) (-2) (tidy_fm l) 0 (by omega) (by omega)]
  unfold listTo
  rw [List.range_eq_range']
  refine List.filter_congr fun o ho => ?_
  rw [List.mem_range'_1] at ho
  rw [tidy_in l _ (by omega) (by omega)]; rfl
/-- The object that comes next. -/
theorem listTo_at {p : Nat → Bool} {pre : List Nat} {x : Nat} (k : Nat) (h : (pre ++ [x]) <+: listTo p 256) (hk : k ≤ 256) (hp : pre = listTo p k) : k ≤ x ∧ x < 256 ∧ p x = true ∧ (∀ o, k ≤ o → o < x → p o = false) ∧ pre ++ [x] = listTo p (x + 1) := by
  subst hp
  obtain ⟨d, hd⟩ := Nat.exists_eq_add_of_le hk
  have h2 : [x] <+: (List.range' k d).filter p := by
    have := h
    rw [hd, listTo_app] at this
    exact (List.prefix_append_right_inj _).1 this
  obtain ⟨t, ht⟩ := h2
  have hx : x ∈ (List.range' k d).filter p := by rw [← ht]; simp
  rw [List.mem_filter, List.mem_range'_1] at hx
  obtain ⟨⟨a1, a2⟩, a3⟩ := hx
  have hno : ∀ o, k ≤ o → o < x → p o = false := by
    intro o ho hox
    rcases hz : p o with _ | _
    · rfl
    · exfalso
      obtain ⟨q, hq⟩ := Nat.exists_eq_add_of_le a1
      subst hq
      have e : List.range' k d = List.range' k q ++ List.range' (k + q) (d - q) := by rw [List.range'_append_1]; congr 1; omega
      rw [e, List.filter_append] at ht
      have hm : o ∈ (List.range' k q).filter p := by
        rw [List.mem_filter, List.mem_range'_1]
        exact ⟨⟨ho, hox⟩, hz⟩
      rcases hy : (List.range' k q).filter p with _ | ⟨y, ys⟩
      · rw [hy] at hm; cases hm
      · rw [hy] at ht
        have hy1 : k + q = y := by simpa using congrArg List.head? ht
        have : y ∈ (List.range' k q).filter p := by rw [hy]; simp
        rw [List.mem_filter, List.mem_range'_1] at this
        omega
  refine ⟨a1, by omega, a3, hno, ?_⟩
  rw [listTo_next, a3, if_pos rfl, listTo_skip p k x hno a1]
theorem setOf_hit {l : List Sp} {o : Nat} : setOf l o = inB l (o : Int) := rfl
end Go.Proofs.Ytafbaagjokomcaa.Sn
