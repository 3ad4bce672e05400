/- Plain laws of sets of objects: what two have together, all the rest, whether they touch. No program is named. -/
import Derived.Test.YtnibkniggiokkaaDoorSp1
namespace Go.Proofs.YtnibkniggiokkaaDoor.Sn

theorem fmS_weak {e f : Int} {l : List Sp} (h : fmS f l = true) (he : e ≤ f) : fmS e l = true := by
  cases l with
  | nil => rfl
  | cons s r =>
    obtain ⟨h1, h2, h3, h4, h5⟩ := fmS_cons.1 h
    exact fmS_cons.2 ⟨h1, h2, h3, by omega, h5⟩
/-- What two spans have together. -/
def bothS (s t : Sp) : List Sp := if max s.1 t.1 ≤ min s.2 t.2 then [(max s.1 t.1, min s.2 t.2)] else []
/-- What two sets have together. -/
def mtg : List Sp → List Sp → List Sp
  | [], _ => []
  | _ :: _, [] => []
  | s :: p, t :: q => bothS s t ++ (if s.2 < t.2 then mtg p (t :: q) else mtg (s :: p) q)
termination_by x y => x.length + y.length
theorem mtg_nil (y : List Sp) : mtg [] y = [] := by rw [mtg]
theorem mtg_nil2 (x : List Sp) : mtg x [] = [] := by cases x <;> rw [mtg]
theorem mtg_step (s t : Sp) (p q : List Sp) : mtg (s :: p) (t :: q) = bothS s t ++ (if s.2 < t.2 then mtg p (t :: q) else mtg (s :: p) q) := by rw [mtg]
theorem in_both (s t : Sp) (o : Int) : inB (bothS s t) o = ((decide (s.1 ≤ o) && decide (o ≤ s.2)) && (decide (t.1 ≤ o) && decide (o ≤ t.2))) := by
  unfold bothS
  split
  · simp only [inB, List.any_cons, List.any_nil, Bool.or_false]
    rw [Bool.eq_iff_iff]; simp; omega
  · simp only [inB, List.any_nil]
    rw [Bool.eq_iff_iff]; simp; omega
theorem mtg_ok : ∀ (n : Nat) (x y : List Sp), x.length + y.length = n → ∀ (e f : Int), fmS e x = true → fmS f y = true → fmS (max e f) (mtg x y) = true ∧ ∀ o, inB (mtg x y) o = (inB x o && inB y o) := by
  intro n
  induction n with
  | zero =>
    intro x y hn e f _ _
    obtain rfl := List.eq_nil_of_length_eq_zero (show x.length = 0 by omega)
    rw [mtg_nil]
    exact ⟨rfl, fun o => by simp [inB]⟩
  | succ n ih =>
    intro x y hn e f hx hy
    rcases x with _ | ⟨s, p⟩
    · rw [mtg_nil]; exact ⟨rfl, fun o => by simp [inB]⟩
    · rcases y with _ | ⟨t, q⟩
      · rw [mtg_nil2]; exact ⟨rfl, fun o => by simp [inB]⟩
      · obtain ⟨a1, a2, a3, a4, a5⟩ := fmS_cons.1 hx
        obtain ⟨b1, b2, b3, b4, b5⟩ := fmS_cons.1 hy
        rw [mtg_step]
        by_cases hc : s.2 < t.2
        · rw [if_pos hc]
          obtain ⟨h1, h2⟩ := ih p (t :: q) (by simp only [List.length_cons] at hn ⊢; omega) s.2 f a5 hy
          refine ⟨?_, fun o => ?_⟩
          · unfold bothS
            split
            · exact fmS_cons.2 ⟨by simp only; omega, by simp only; omega, by simp only; omega, by simp only; omega, fmS_weak h1 (by simp only; omega)⟩
            · exact fmS_weak h1 (by omega)
          · rw [inB_app, h2, in_both, inB_cons s, inB_cons t]
            have hq := fun h => fmS_in b5 o h
            rw [Bool.eq_iff_iff]
            simp only [Bool.or_eq_true, Bool.and_eq_true, decide_eq_true_eq]
            constructor
            · rintro (⟨h3, h4⟩ | ⟨h3, h4⟩)
              · exact ⟨.inl h3, .inl h4⟩
              · exact ⟨.inr h3, h4⟩
            · rintro ⟨h3 | h3, h4 | h4⟩
              · exact .inl ⟨h3, h4⟩
              · have := hq h4; omega
              · exact .inr ⟨h3, .inl h4⟩
              · exact .inr ⟨h3, .inr h4⟩
        · rw [if_neg hc]
          obtain ⟨h1, h2⟩ := ih (s :: p) q (by simp only [List.length_cons] at hn ⊢; omega) e t.2 hx b5
          refine ⟨?_, fun o => ?_⟩
          · unfold bothS
            split
            · exact fmS_cons.2 ⟨by simp only; omega, by simp only; omega, by simp only; omega, by simp only; omega, fmS_weak h1 (by simp only; omega)⟩
            · exact fmS_weak h1 (by omega)
          · rw [inB_app, h2, in_both, inB_cons s, inB_cons t]
            have hp := fun h => fmS_in a5 o h
            rw [Bool.eq_iff_iff]
            simp only [Bool.or_eq_true, Bool.and_eq_true, decide_eq_true_eq]
            constructor
            · rintro (⟨h3, h4⟩ | ⟨h3, h4⟩)
              · exact ⟨.inl h3, .inl h4⟩
              · exact ⟨h3, .inr h4⟩
            · rintro ⟨h3 | h3, h4 | h4⟩
              · exact .inl ⟨h3, h4⟩
              · exact .inr ⟨.inl h3, h4⟩
              · have := hp h3; omega
              · exact .inr ⟨.inr h3, h4⟩
/-- What two lists have together. -/
def meetL (a b : List Sp) : List Sp := of fun o => setOf a o && setOf b o
theorem mtg_meet (a b : List Sp) : mtg (tidy a) (tidy b) = meetL a b := by
  obtain ⟨h1, h2⟩ := mtg_ok _ _ _ rfl _ _ (tidy_fm a) (tidy_fm b)
  refine fmS_one (fmS_weak h1 (by omega)) (of_fm _) fun o h0 h255 => ?_
  obtain ⟨k, rfl⟩ := Int.eq_ofNat_of_zero_le h0
  rw [h2, tidy_in a _ h0 h255, tidy_in b _ h0 h255, meetL, of_in _ k (by omega)]; rfl
theorem mtg_len : ∀ (n : Nat) (x y : List Sp), x.length + y.length = n → (mtg x y).length ≤ n := by
  intro n
  induction n with
  | zero =>
    intro x y hn
    obtain rfl := List.eq_nil_of_length_eq_zero (show x.length = 0 by omega)
    rw [mtg_nil]; simp
  | succ n ih =>
    intro x y hn
    rcases x with _ | ⟨s, p⟩
    · rw [mtg_nil]; simp
    · rcases y with _ | ⟨t, q⟩
      · rw [mtg_nil2]; simp
      · rw [mtg_step, List.length_append]
        have hb : (bothS s t).length ≤ 1 := by unfold bothS; split <;> simp
        split
        · have := ih p (t :: q) (by simp only [List.length_cons] at hn ⊢; omega); omega
        · have := ih (s :: p) q (by simp only [List.length_cons] at hn ⊢; omega); omega

/-- All that isn't in a set, from a place on. -/
def rst : Int → List Sp → List Sp
  | from_, [] => if from_ ≤ 255 then [(from_, 255)] else []
  | from_, s :: r => (if from_ < s.1 then [(from_, s.1 - 1)] else []) ++ rst (s.2 + 1) r
theorem rst_ok : ∀ (l : List Sp) (e f : Int), fmS e l = true → f ≤ e + 2 → 0 ≤ f → fmS (f - 2) (rst f l) = true ∧ ∀ o, 0 ≤ o → o ≤ 255 → inB (rst f l) o = (decide (f ≤ o) && !inB l o) := by
  intro l
  induction l with
  | nil =>
    intro e f _ _ h0
    rw [rst]
    split
    · exact ⟨by simp [fmS]; omega, fun o _ h => by simp [inB, h]⟩
    · exact ⟨rfl, fun o _ h => by simp [inB]; omega⟩
  | cons s r ih =>
    intro e f h hf h0
    obtain ⟨a1, a2, a3, a4, a5⟩ := fmS_cons.1 h
    obtain ⟨h1, h2⟩ := ih s.2 (s.2 + 1) a5 (by omega) (by omega)
    rw [rst]
    refine ⟨?_, fun o ho h255 => ?_⟩
    · split
      · exact fmS_cons.2 ⟨by simp only; omega, by simp only; omega, by simp only; omega, by simp only; omega, fmS_weak h1 (by simp only; omega)⟩
      · exact fmS_weak h1 (by omega)
    · rw [inB_app, h2 o ho h255, inB_cons]
      have hr := fun h => fmS_in a5 o h
      rcases hb : inB r o with _ | _
      · split
        · simp only [inB, List.any_cons, List.any_nil, Bool.or_false]
          rw [Bool.eq_iff_iff]; simp; omega
        · simp only [inB, List.any_nil]
          rw [Bool.eq_iff_iff]; simp; omega
      · have := hr hb
        split
        · simp only [inB, List.any_cons, List.any_nil, Bool.or_false]
          rw [Bool.eq_iff_iff]; simp; omega
        · simp [inB]
theorem rst_len : ∀ (l : List Sp) (f : Int), (rst f l).length ≤ l.length + 1
  | [], f => by rw [rst]; split <;> simp
  | s :: r, f => by
    rw [rst, List.length_append]
    have := rst_len r (s.2 + 1)
    split <;> simp <;> omega
/-- All objects that are not in a list. -/
def restL (l : List Sp) : List Sp := of fun o => !setOf l o
theorem rst_rest (l : List Sp) : rst 0 (tidy l) = restL l := by
  obtain ⟨h1, h2⟩ := rst_ok (tidy l) (-2) 0 (tidy_fm l) (by omega) (by omega)
  refine fmS_one h1 (of_fm _) fun o h0 h255 => ?_
  obtain ⟨k, rfl⟩ := Int.eq_ofNat_of_zero_le h0
  rw [h2 _ h0 h255, tidy_in l _ h0 h255, restL, of_in _ k (by omega), decide_eq_true h0, Bool.true_and]; rfl
theorem setOf_of (p : Nat → Bool) (o : Nat) (h : o < 256) : setOf (of p) o = p o := of_in p o h
/-- What the first has alone. -/
def lessL (a b : List Sp) : List Sp := of fun o => setOf a o && !setOf b o
theorem meet_rest (a b : List Sp) : meetL a (restL b) = lessL a b := of_congr fun o ho => by rw [restL, setOf_of _ o ho]

/-- Do two lists touch? -/
def tch (x y : List Sp) : Bool := x.any fun s => y.any fun t => decide (s.1 ≤ t.2) && decide (t.1 ≤ s.2)
theorem of_nil_iff (p : Nat → Bool) : of p = [] ↔ ∀ o, o < 256 → p o = false := by
  constructor
  · intro h o ho
    have := of_in p o ho
    rw [h] at this
    exact this.symm
  · intro h
    refine fmS_one (of_fm p) (show fmS (-2) [] = true from rfl) fun o h0 h255 => ?_
    obtain ⟨k, rfl⟩ := Int.eq_ofNat_of_zero_le h0
    rw [of_in p k (by omega), h k (by omega)]; rfl
theorem fmS_ok {e : Int} {l : List Sp} (h : fmS e l = true) : ∀ s ∈ l, okS s := by
  induction l generalizing e with
  | nil => intro s hs; cases hs
  | cons t r ih =>
    obtain ⟨a1, a2, a3, a4, a5⟩ := fmS_cons.1 h
    intro s hs
    rcases List.mem_cons.1 hs with rfl | hs
    · exact ⟨a3, a1, a2⟩
    · exact ih a5 s hs
theorem tch_meet (a b : List Sp) : tch (tidy a) (tidy b) = decide (meetL a b ≠ []) := by
  rw [Bool.eq_iff_iff, decide_eq_true_eq]
  constructor
  · intro h hn
    obtain ⟨s, hs, h⟩ := List.any_eq_true.1 h
    obtain ⟨t, ht, h⟩ := List.any_eq_true.1 h
    simp only [Bool.and_eq_true, decide_eq_true_eq] at h
    obtain ⟨a1, a2, a3⟩ := fmS_ok (tidy_fm a) s hs
    obtain ⟨b1, b2, b3⟩ := fmS_ok (tidy_fm b) t ht
    obtain ⟨k, hk⟩ := Int.eq_ofNat_of_zero_le (show 0 ≤ max s.1 t.1 by omega)
    have h1 : inB (tidy a) (k : Int) = true := List.any_eq_true.2 ⟨s, hs, by simp; omega⟩
    have h2 : inB (tidy b) (k : Int) = true := List.any_eq_true.2 ⟨t, ht, by simp; omega⟩
    rw [tidy_in a _ (by omega) (by omega)] at h1
    rw [tidy_in b _ (by omega) (by omega)] at h2
    have := (of_nil_iff _).1 hn k (by omega)
    simp only [setOf, h1, h2] at this
    cases this
  · intro h
    rcases hz : tch (tidy a) (tidy b) with _ | _
    · refine absurd ((of_nil_iff _).2 fun o ho => ?_) h
      rcases h1 : inB a (o : Int) with _ | _
      · simp [setOf, h1]
      · rcases h2 : inB b (o : Int) with _ | _
        · simp [setOf, h2]
        · rw [← tidy_in a _ (by omega) (by omega)] at h1
          rw [← tidy_in b _ (by omega) (by omega)] at h2
          obtain ⟨s, hs, h1⟩ := List.any_eq_true.1 h1
          obtain ⟨t, ht, h2⟩ := List.any_eq_true.1 h2
          simp only [Bool.and_eq_true, decide_eq_true_eq] at h1 h2
          have : tch (tidy a) (tidy b) = true := List.any_eq_true.2 ⟨s, hs, List.any_eq_true.2 ⟨t, ht, by simp; omega⟩⟩
          rw [hz] at this; cases this
    · rfl
end Go.Proofs.YtnibkniggiokkaaDoor.Sn
