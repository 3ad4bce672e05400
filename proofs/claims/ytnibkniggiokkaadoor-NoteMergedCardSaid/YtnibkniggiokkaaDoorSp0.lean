/- Plain laws of sets of objects as spans, with no program in sight. -/
namespace Go.Proofs.YtnibkniggiokkaaDoor.Sn

/-- A span: from, to. -/
abbrev Sp := Int × Int
/-- Is an object in a list? -/
def inB (l : List Sp) (o : Int) : Bool := l.any fun s => decide (s.1 ≤ o) && decide (o ≤ s.2)
theorem inB_nil (o : Int) : inB [] o = false := rfl
theorem inB_cons (s : Sp) (r : List Sp) (o : Int) : inB (s :: r) o = (decide (s.1 ≤ o) && decide (o ≤ s.2) || inB r o) := rfl
theorem inB_app (u v : List Sp) (o : Int) : inB (u ++ v) o = (inB u o || inB v o) := by simp [inB]

/-- Is a list a set, behind an end? -/
def fmS : Int → List Sp → Bool
  | _, [] => true
  | e, s :: r => decide (s.1 ≤ s.2) && (decide (s.2 ≤ 255) && (decide (0 ≤ s.1) && (decide (e + 1 < s.1) && fmS s.2 r)))
theorem fmS_cons {e : Int} {s : Sp} {r : List Sp} : fmS e (s :: r) = true ↔ s.1 ≤ s.2 ∧ s.2 ≤ 255 ∧ 0 ≤ s.1 ∧ e + 1 < s.1 ∧ fmS s.2 r = true := by simp [fmS]
theorem fmS_in {e : Int} {l : List Sp} (h : fmS e l = true) (o : Int) (ho : inB l o = true) : e + 1 < o ∧ 0 ≤ o ∧ o ≤ 255 := by
  induction l generalizing e with
  | nil => simp [inB] at ho
  | cons s r ih =>
    obtain ⟨h1, h2, h3, h4, h5⟩ := fmS_cons.1 h
    rw [inB_cons, Bool.or_eq_true, Bool.and_eq_true, decide_eq_true_eq, decide_eq_true_eq] at ho
    rcases ho with ⟨a, b⟩ | ho
    · omega
    · have := ih h5 ho; omega
theorem fmS_len {e : Int} {l : List Sp} (h : fmS e l = true) : 2 * (l.length : Int) ≤ 255 - e ∨ l = [] := by
  induction l generalizing e with
  | nil => exact .inr rfl
  | cons s r ih =>
    obtain ⟨h1, h2, h3, h4, h5⟩ := fmS_cons.1 h
    left
    rcases ih h5 with h6 | rfl
    · rw [List.length_cons]; omega
    · simp; omega
theorem fmS_128 {l : List Sp} (h : fmS (-2) l = true) : l.length ≤ 128 := by
  rcases fmS_len h with h | rfl
  · omega
  · simp
/-- Two sets with the same objects are one. -/
theorem fmS_one {e : Int} {l m : List Sp} (hl : fmS e l = true) (hm : fmS e m = true) (h : ∀ o, 0 ≤ o → o ≤ 255 → inB l o = inB m o) : l = m := by
  induction l generalizing e m with
  | nil =>
    cases m with
    | nil => rfl
    | cons t r =>
      obtain ⟨h1, h2, h3, h4, h5⟩ := fmS_cons.1 hm
      have := h t.1 h3 (by omega)
      rw [inB_nil, inB_cons] at this
      simp [h1] at this
  | cons s q ih =>
    cases m with
    | nil =>
      obtain ⟨h1, h2, h3, h4, h5⟩ := fmS_cons.1 hl
      have := h s.1 h3 (by omega)
      rw [inB_nil, inB_cons] at this
      simp [h1] at this
    | cons t r =>
      obtain ⟨h1, h2, h3, h4, h5⟩ := fmS_cons.1 hl
      obtain ⟨k1, k2, k3, k4, k5⟩ := fmS_cons.1 hm
      have nq : ∀ o, o ≤ s.2 + 1 → inB q o = false := fun o ho => by
        rcases hb : inB q o with _ | _
        · rfl
        · have := fmS_in h5 o hb; omega
      have nr : ∀ o, o ≤ t.2 + 1 → inB r o = false := fun o ho => by
        rcases hb : inB r o with _ | _
        · rfl
        · have := fmS_in k5 o hb; omega
      have e1 : s.1 = t.1 := by
        rcases Int.lt_trichotomy s.1 t.1 with hlt | he | hgt
        · have := h s.1 h3 (by omega)
          rw [inB_cons, inB_cons, nr s.1 (by omega)] at this
          simp [h1] at this; omega
        · exact he
        · have := h t.1 k3 (by omega)
          rw [inB_cons, inB_cons, nq t.1 (by omega)] at this
          simp [k1] at this; omega
      have e2 : s.2 = t.2 := by
        rcases Int.lt_trichotomy s.2 t.2 with hlt | he | hgt
        · have := h (s.2 + 1) (by omega) (by omega)
          rw [inB_cons, inB_cons, nq (s.2 + 1) (by omega), nr (s.2 + 1) (by omega), show (decide (s.1 ≤ s.2 + 1) && decide (s.2 + 1 ≤ s.2)) = false by simp; omega, show (decide (t.1 ≤ s.2 + 1) && decide (s.2 + 1 ≤ t.2)) = true by simp; omega] at this
          cases this
        · exact he
        · have := h (t.2 + 1) (by omega) (by omega)
          rw [inB_cons, inB_cons, nq (t.2 + 1) (by omega), nr (t.2 + 1) (by omega), show (decide (s.1 ≤ t.2 + 1) && decide (t.2 + 1 ≤ s.2)) = true by simp; omega, show (decide (t.1 ≤ t.2 + 1) && decide (t.2 + 1 ≤ t.2)) = false by simp; omega] at this
          cases this
      have es : s = t := Prod.ext e1 e2
      subst es
      rw [ih h5 k5 fun o h0 h255 => ?_]
      have := h o h0 h255
      rw [inB_cons, inB_cons] at this
      by_cases ho : o ≤ s.2
      · rw [nq o (by omega), nr o (by omega)]
      · have hn : (decide (s.1 ≤ o) && decide (o ≤ s.2)) = false := by simp; omega
        rw [hn, Bool.false_or, Bool.false_or] at this
        exact this

/-- The last span's end is moved on. -/
def ext (l : List Sp) (hi : Int) : List Sp := l.dropLast ++ (match l.getLast? with | some s => [(s.1, hi)] | none => [])
theorem ext_snoc (l : List Sp) (s : Sp) (hi : Int) : ext (l ++ [s]) hi = l ++ [(s.1, hi)] := by simp [ext]
/-- The list of the objects of p below k. -/
def ofTo (p : Nat → Bool) : Nat → List Sp
  | 0 => []
  | k + 1 => if p k then (if k ≠ 0 ∧ p (k - 1) = true then ext (ofTo p k) k else ofTo p k ++ [((k : Int), (k : Int))]) else ofTo p k
theorem fmS_snoc {e : Int} {l : List Sp} {s : Sp} : fmS e (l ++ [s]) = true ↔ fmS e l = true ∧ s.1 ≤ s.2 ∧ s.2 ≤ 255 ∧ 0 ≤ s.1 ∧ (∀ t, l.getLast? = some t → t.2 + 1 < s.1) ∧ (l = [] → e + 1 < s.1) := by
  induction l generalizing e with
  | nil => simp [fmS]
  | cons t r ih =>
    rw [List.cons_append, fmS_cons, fmS_cons, ih]
    cases r with
    | nil =>
      constructor
      · rintro ⟨a1, a2, a3, a4, _, a6, a7, a8, _, a10⟩
        exact ⟨⟨a1, a2, a3, a4, rfl⟩, a6, a7, a8, (fun t' ht => by simp at ht; subst ht; exact a10 rfl), (fun h => by cases h)⟩
      · rintro ⟨⟨a1, a2, a3, a4, _⟩, a6, a7, a8, a9, _⟩
        exact ⟨a1, a2, a3, a4, rfl, a6, a7, a8, (fun t' ht => by simp at ht), fun _ => a9 t rfl⟩
    | cons t' r' =>
      simp only [List.getLast?_cons_cons]
      constructor
      · rintro ⟨a1, a2, a3, a4, a5, a6, a7, a8, a9, a10⟩
        exact ⟨⟨a1, a2, a3, a4, a5⟩, a6, a7, a8, a9, fun h => by cases h⟩
      · rintro ⟨⟨a1, a2, a3, a4, a5⟩, a6, a7, a8, a9, _⟩
        exact ⟨a1, a2, a3, a4, a5, a6, a7, a8, a9, fun h => by cases h⟩
/-- What ofTo makes is a set of just those objects; its last span ends at the last one. -/
theorem ofTo_ok (p : Nat → Bool) : ∀ k, k ≤ 256 → fmS (-2) (ofTo p k) = true ∧ (∀ o : Nat, inB (ofTo p k) (o : Int) = (decide (o < k) && p o)) ∧
    (∀ t, (ofTo p k).getLast? = some t → t.2 < k ∧ ((k ≠ 0 ∧ p (k - 1) = true) → t.2 = (k : Int) - 1) ∧ ((k ≠ 0 ∧ p (k - 1) = false) → t.2 < (k : Int) - 1)) ∧ ((k ≠ 0 ∧ p (k - 1) = true) → ofTo p k ≠ []) := by
  intro k
  induction k with
  | zero => intro _; exact ⟨rfl, fun o => by simp [ofTo, inB], fun t h => by simp [ofTo] at h, fun h => absurd rfl h.1⟩
  | succ k ih =>
    intro hk
    obtain ⟨h1, h2, h3, h4⟩ := ih (by omega)
    by_cases hp : p k = true
    · by_cases hq : k ≠ 0 ∧ p (k - 1) = true
      · have e : ofTo p (k + 1) = ext (ofTo p k) k := by rw [ofTo, if_pos hp, if_pos hq]
        have hne := h4 hq
        obtain ⟨l, s, hl⟩ : ∃ l s, ofTo p k = l ++ [s] := ⟨_, _, (List.dropLast_concat_getLast hne).symm⟩
        have hs : s.2 = (k : Int) - 1 := (h3 s (by rw [hl]; simp)).2.1 hq
        rw [e, hl, ext_snoc]
        rw [hl] at h1 h2
        obtain ⟨a1, a2, a3, a4, a5, a6⟩ := fmS_snoc.1 h1
        refine ⟨fmS_snoc.2 ⟨a1, by simp only; omega, by simp only; omega, a4, a5, a6⟩, fun o => ?_, fun t ht => ?_, fun _ => by simp⟩
        · have := h2 o
          rw [inB_app] at this ⊢
          by_cases ho : o = k
          · subst ho
            simp [inB, hp]; right; omega
          · have e1 : inB [(s.1, (k : Int))] (o : Int) = inB [s] (o : Int) := by
              simp only [inB, List.any_cons, List.any_nil, Bool.or_false]
              rw [Bool.eq_iff_iff]; simp; omega
            have e2 : decide (o < k + 1) = decide (o < k) := by simp; omega
            rw [e1, this, e2]
        · rw [List.getLast?_append] at ht
          obtain rfl : (s.1, (k : Int)) = t := by simpa using ht
          exact ⟨by simp only; omega, fun _ => by simp only; omega, (fun h => by rw [Nat.add_sub_cancel] at h; rw [hp] at h; cases h.2)⟩
      · have e : ofTo p (k + 1) = ofTo p k ++ [((k : Int), (k : Int))] := by rw [ofTo, if_pos hp, if_neg hq]
        rw [e]
        refine ⟨fmS_snoc.2 ⟨h1, by simp, by simp only; omega, by simp, fun t ht => ?_, fun hn => by simp only; omega⟩, fun o => ?_, fun t ht => ?_, fun _ => by simp⟩
        · obtain ⟨b1, _, b3⟩ := h3 t ht
          by_cases h0 : k = 0
          · subst h0; simp [ofTo] at ht
          · have hq' : p (k - 1) = false := by
              rcases hh : p (k - 1) with _ | _
              · rfl
              · exact absurd ⟨h0, hh⟩ hq
            have := b3 ⟨h0, hq'⟩
            simp only; omega
        · rw [inB_app, h2 o]
          by_cases ho : o = k
          · subst ho; simp [inB, hp]
          · have e1 : inB [((k : Int), (k : Int))] (o : Int) = false := by
              simp [inB]; omega
            have e2 : decide (o < k + 1) = decide (o < k) := by simp; omega
            rw [e1, e2, Bool.or_false]
        · rw [List.getLast?_append] at ht
          obtain rfl : ((k : Int), (k : Int)) = t := by simpa using ht
          exact ⟨by simp only; omega, fun _ => by simp only; omega, (fun h => by rw [Nat.add_sub_cancel] at h; rw [hp] at h; cases h.2)⟩
    · have hp' : p k = false := by simpa using hp
      have e : ofTo p (k + 1) = ofTo p k := by rw [ofTo, if_neg hp]
      rw [e]
      refine ⟨h1, fun o => ?_, fun t ht => ?_, (fun h => by rw [Nat.add_sub_cancel] at h; rw [hp'] at h; cases h.2)⟩
      · rw [h2 o]
        by_cases ho : o = k
        · subst ho; simp [hp']
        · have e2 : decide (o < k + 1) = decide (o < k) := by simp; omega
          rw [e2]
      · obtain ⟨b1, _, _⟩ := h3 t ht
        exact ⟨by omega, (fun h => by rw [Nat.add_sub_cancel] at h; rw [hp'] at h; cases h.2), fun _ => by omega⟩
def setOf (l : List Sp) : Nat → Bool := fun o => inB l (o : Int)
/-- The list of a set. -/
def of (p : Nat → Bool) : List Sp := ofTo p 256
theorem of_fm (p : Nat → Bool) : fmS (-2) (of p) = true := (ofTo_ok p 256 (Nat.le_refl _)).1
theorem of_in (p : Nat → Bool) (o : Nat) (h : o < 256) : inB (of p) (o : Int) = p o := by
  have := (ofTo_ok p 256 (Nat.le_refl _)).2.1 o
  rw [show decide (o < 256) = true by simpa using h, Bool.true_and] at this
  exact this
theorem of_set {l : List Sp} (h : fmS (-2) l = true) : of (setOf l) = l := fmS_one (of_fm _) h fun o h0 h1 => by
  obtain ⟨k, rfl⟩ := Int.eq_ofNat_of_zero_le h0
  rw [of_in _ k (by omega)]; rfl
theorem ofTo_congr {p q : Nat → Bool} : ∀ k, (∀ o, o < k → p o = q o) → ofTo p k = ofTo q k := by
  intro k
  induction k with
  | zero => exact fun _ => rfl
  | succ k ih =>
    intro h
    have e := ih fun o ho => h o (by omega)
    have hk := h k (by omega)
    have hk1 := h (k - 1) (by omega)
    rw [ofTo, ofTo, e, hk, hk1]
theorem of_congr {p q : Nat → Bool} (h : ∀ o, o < 256 → p o = q o) : of p = of q := ofTo_congr 256 h
/-- The document's Formed says the same. -/
theorem formed_both (l : List Sp) : fmS (-2) l = (decide (l.length ≤ 128) && decide (l = of (setOf l))) := by
  rw [Bool.eq_iff_iff, Bool.and_eq_true, decide_eq_true_eq, decide_eq_true_eq]
  constructor
  · exact fun h => ⟨fmS_128 h, (of_set h).symm⟩
  · rintro ⟨_, h⟩
    rw [h]; exact of_fm _
end Go.Proofs.YtnibkniggiokkaaDoor.Sn
