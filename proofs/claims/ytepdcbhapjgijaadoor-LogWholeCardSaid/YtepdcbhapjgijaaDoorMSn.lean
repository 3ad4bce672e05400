/- Texts of one layer in one file: Sp0, Sp1, Sp2, SpN. -/

namespace Go.Proofs.YtepdcbhapjgijaaDoor.Sn

/-- A span: from, to. -/
abbrev Sp := Int × Int
/-- Is an object in a list? -/
def inB (l : List Sp) (o : Int) : Bool := l.any fun s => decide (s.1 ≤ o) && decide (o ≤ s.2)
theorem inB_nil (o : Int) : inB [] o = false := rfl
theorem inB_cons (s : Sp) (r : List Sp) (o : Int) : inB (s :: r) o = (decide (s.1 ≤ o) && decide (o ≤ s.2) || inB r o) := rfl
theorem inB_app (u v : List Sp) (o : Int) : inB (u ++ v) o = (inB u o || inB v o) := by simp [inB]

/-- Is a list a set, behind an end? -/
def fmS : Int → List Sp → Bool
  | _, [] => true
  | e, s :: r => decide (s.1 ≤ s.2) && (decide (s.2 ≤ 255) && (decide (0 ≤ s.1) && (decide (e + 1 < s.1) && fmS s.2 r)))
theorem fmS_cons {e : Int} {s : Sp} {r : List Sp} : fmS e (s :: r) = true ↔ s.1 ≤ s.2 ∧ s.2 ≤ 255 ∧ 0 ≤ s.1 ∧ e + 1 < s.1 ∧ fmS s.2 r = true := by simp [fmS]
theorem fmS_in {e : Int} {l : List Sp} (h : fmS e l = true) (o : Int) (ho : inB l o = true) : e + 1 < o ∧ 0 ≤ o ∧ o ≤ 255 := by
  induction l generalizing e with
  | nil => simp [inB] at ho
  | cons s r ih =>
    obtain ⟨h1, h2, h3, h4, h5⟩ := fmS_cons.1 h
    rw [inB_cons, Bool.or_eq_true, Bool.and_eq_true, decide_eq_true_eq, decide_eq_true_eq] at ho
    rcases ho with ⟨a, b⟩ | ho
    · omega
    · have := ih h5 ho; omega
theorem fmS_len {e : Int} {l : List Sp} (h : fmS e l = true) : 2 * (l.length : Int) ≤ 255 - e ∨ l = [] := by
  induction l generalizing e with
  | nil => exact .inr rfl
  | cons s r ih =>
    obtain ⟨h1, h2, h3, h4, h5⟩ := fmS_cons.1 h
    left
    rcases ih h5 with h6 | rfl
    · rw [List.length_cons]; omega
    · simp; omega
theorem fmS_128 {l : List Sp} (h : fmS (-2) l = true) : l.length ≤ 128 := by
  rcases fmS_len h with h | rfl
  · omega
  · simp
/-- Two sets with the same objects are one. -/
theorem fmS_one {e : Int} {l m : List Sp} (hl : fmS e l = true) (hm : fmS e m = true) (h : ∀ o, 0 ≤ o → o ≤ 255 → inB l o = inB m o) : l = m := by
  induction l generalizing e m with
  | nil =>
    cases m with
    | nil => rfl
    | cons t r =>
      obtain ⟨h1, h2, h3, h4, h5⟩ := fmS_cons.1 hm
      have := h t.1 h3 (by omega)
      rw [inB_nil, inB_cons] at this
      simp [h1] at this
  | cons s q ih =>
    cases m with
    | nil =>
      obtain ⟨h1, h2, h3, h4, h5⟩ := fmS_cons.1 hl
      have := h s.1 h3 (by omega)
      rw [inB_nil, inB_cons] at this
      simp [h1] at this
    | cons t r =>
      obtain ⟨h1, h2, h3, h4, h5⟩ := fmS_cons.1 hl
      obtain ⟨k1, k2, k3, k4, k5⟩ := fmS_cons.1 hm
      have nq : ∀ o, o ≤ s.2 + 1 → inB q o = false := fun o ho => by
        rcases hb : inB q o with _ | _
        · rfl
        · have := fmS_in h5 o hb; omega
      have nr : ∀ o, o ≤ t.2 + 1 → inB r o = false := fun o ho => by
        rcases hb : inB r o with _ | _
        · rfl
        · have := fmS_in k5 o hb; omega
      have e1 : s.1 = t.1 := by
        rcases Int.lt_trichotomy s.1 t.1 with hlt | he | hgt
        · have := h s.1 h3 (by omega)
          rw [inB_cons, inB_cons, nr s.1 (by omega)] at this
          simp [h1] at this; omega
        · exact he
        · have := h t.1 k3 (by omega)
          rw [inB_cons, inB_cons, nq t.1 (by omega)] at this
          simp [k1] at this; omega
      have e2 : s.2 = t.2 := by
        rcases Int.lt_trichotomy s.2 t.2 with hlt | he | hgt
        · have := h (s.2 + 1) (by omega) (by omega)
          rw [inB_cons, inB_cons, nq (s.2 + 1) (by omega), nr (s.2 + 1) (by omega), show (decide (s.1 ≤ s.2 + 1) && decide (s.2 + 1 ≤ s.2)) = false by simp; omega, show (decide (t.1 ≤ s.2 + 1) && decide (s.2 + 1 ≤ t.2)) = true by simp; omega] at this
          cases this
        · exact he
        · have := h (t.2 + 1) (by omega) (by omega)
          rw [inB_cons, inB_cons, nq (t.2 + 1) (by omega), nr (t.2 + 1) (by omega), show (decide (s.1 ≤ t.2 + 1) && decide (t.2 + 1 ≤ s.2)) = true by simp; omega, show (decide (t.1 ≤ t.2 + 1) && decide (t.2 + 1 ≤ t.2)) = false by simp; omega] at this
          cases this
      have es : s = t := Prod.ext e1 e2
      subst es
      rw [ih h5 k5 fun o h0 h255 => ?_]
      have := h o h0 h255
      rw [inB_cons, inB_cons] at this
      by_cases ho : o ≤ s.2
      · rw [nq o (by omega), nr o (by omega)]
      · have hn : (decide (s.1 ≤ o) && decide (o ≤ s.2)) = false := by simp; omega
        rw [hn, Bool.false_or, Bool.false_or] at this
        exact this

/-- The last span's end is moved on. -/
def ext (l : List Sp) (hi : Int) : List Sp := l.dropLast ++ (match l.getLast? with | some s => [(s.1, hi)] | none => [])
theorem ext_snoc (l : List Sp) (s : Sp) (hi : Int) : ext (l ++ [s]) hi = l ++ [(s.1, hi)] := by simp [ext]
/-- The list of the objects of p below k. -/
def ofTo (p : Nat → Bool) : Nat → List Sp
  | 0 => []
  | k + 1 => if p k then (if k ≠ 0 ∧ p (k - 1) = true then ext (ofTo p k) k else ofTo p k ++ [((k : Int), (k : Int))]) else ofTo p k
theorem fmS_snoc {e : Int} {l : List Sp} {s : Sp} : fmS e (l ++ [s]) = true ↔ fmS e l = true ∧ s.1 ≤ s.2 ∧ s.2 ≤ 255 ∧ 0 ≤ s.1 ∧ (∀ t, l.getLast? = some t → t.2 + 1 < s.1) ∧ (l = [] → e + 1 < s.1) := by
  induction l generalizing e with
  | nil => simp [fmS]
  | cons t r ih =>
    rw [List.cons_append, fmS_cons, fmS_cons, ih]
    cases r with
    | nil =>
      constructor
      · rintro ⟨a1, a2, a3, a4, _, a6, a7, a8, _, a10⟩
        exact ⟨⟨a1, a2, a3, a4, rfl⟩, a6, a7, a8, (fun t' ht => by simp at ht; subst ht; exact a10 rfl), (fun h => by cases h)⟩
      · rintro ⟨⟨a1, a2, a3, a4, _⟩, a6, a7, a8, a9, _⟩
        exact ⟨a1, a2, a3, a4, rfl, a6, a7, a8, (fun t' ht => by simp at ht), fun _ => a9 t rfl⟩
    | cons t' r' =>
      simp only [List.getLast?_cons_cons]
      constructor
      · rintro ⟨a1, a2, a3, a4, a5, a6, a7, a8, a9, a10⟩
        exact ⟨⟨a1, a2, a3, a4, a5⟩, a6, a7, a8, a9, fun h => by cases h⟩
      · rintro ⟨⟨a1, a2, a3, a4, a5⟩, a6, a7, a8, a9, _⟩
        exact ⟨a1, a2, a3, a4, a5, a6, a7, a8, a9, fun h => by cases h⟩
/-- What ofTo makes is a set of just those objects; its last span ends at the last one. -/
theorem ofTo_ok (p : Nat → Bool) : ∀ k, k ≤ 256 → fmS (-2) (ofTo p k) = true ∧ (∀ o : Nat, inB (ofTo p k) (o : Int) = (decide (o < k) && p o)) ∧
    (∀ t, (ofTo p k).getLast? = some t → t.2 < k ∧ ((k ≠ 0 ∧ p (k - 1) = true) → t.2 = (k : Int) - 1) ∧ ((k ≠ 0 ∧ p (k - 1) = false) → t.2 < (k : Int) - 1)) ∧ ((k ≠ 0 ∧ p (k - 1) = true) → ofTo p k ≠ []) := by
  intro k
  induction k with
  | zero => intro _; exact ⟨rfl, fun o => by simp [ofTo, inB], fun t h => by simp [ofTo] at h, fun h => absurd rfl h.1⟩
  | succ k ih =>
    intro hk
    obtain ⟨h1, h2, h3, h4⟩ := ih (by omega)
    by_cases hp : p k = true
    · by_cases hq : k ≠ 0 ∧ p (k - 1) = true
      · have e : ofTo p (k + 1) = ext (ofTo p k) k := by rw [ofTo, if_pos hp, if_pos hq]
        have hne := h4 hq
        obtain ⟨l, s, hl⟩ : ∃ l s, ofTo p k = l ++ [s] := ⟨_, _, (List.dropLast_concat_getLast hne).symm⟩
        have hs : s.2 = (k : Int) - 1 := (h3 s (by rw [hl]; simp)).2.1 hq
        rw [e, hl, ext_snoc]
        rw [hl] at h1 h2
        obtain ⟨a1, a2, a3, a4, a5, a6⟩ := fmS_snoc.1 h1
        refine ⟨fmS_snoc.2 ⟨a1, by simp only; omega, by simp only; omega, a4, a5, a6⟩, fun o => ?_, fun t ht => ?_, fun _ => by simp⟩
        · have := h2 o
          rw [inB_app] at this ⊢
          by_cases ho : o = k
          · subst ho
            simp [inB, hp]; right; omega
          · have e1 : inB [(s.1, (k : Int))] (o : Int) = inB [s] (o : Int) := by
              simp only [inB, List.any_cons, List.any_nil, Bool.or_false]
              rw [Bool.eq_iff_iff]; simp; omega
            have e2 : decide (o < k + 1) = decide (o < k) := by simp; omega
            rw [e1, this, e2]
        · rw [List.getLast?_append] at ht
          obtain rfl : (s.1, (k : Int)) = t := by simpa using ht
          exact ⟨by simp only; omega, fun _ => by simp only; omega, (fun h => by rw [Nat.add_sub_cancel] at h; rw [hp] at h; cases h.2)⟩
      · have e : ofTo p (k + 1) = ofTo p k ++ [((k : Int), (k : Int))] := by rw [ofTo, if_pos hp, if_neg hq]
        rw [e]
        refine ⟨fmS_snoc.2 ⟨h1, by simp, by simp only; omega, by simp, fun t ht => ?_, fun hn => by simp only; omega⟩, fun o => ?_, fun t ht => ?_, fun _ => by simp⟩
        · obtain ⟨b1, _, b3⟩ := h3 t ht
          by_cases h0 : k = 0
          · subst h0; simp [ofTo] at ht
          · have hq' : p (k - 1) = false := by
              rcases hh : p (k - 1) with _ | _
              · rfl
              · exact absurd ⟨h0, hh⟩ hq
            have := b3 ⟨h0, hq'⟩
            simp only; omega
        · rw [inB_app, h2 o]
          by_cases ho : o = k
          · subst ho; simp [inB, hp]
          · have e1 : inB [((k : Int), (k : Int))] (o : Int) = false := by
              simp [inB]; omega
            have e2 : decide (o < k + 1) = decide (o < k) := by simp; omega
            rw [e1, e2, Bool.or_false]
        · rw [List.getLast?_append] at ht
          obtain rfl : ((k : Int), (k : Int)) = t := by simpa using ht
          exact ⟨by simp only; omega, fun _ => by simp only; omega, (fun h => by rw [Nat.add_sub_cancel] at h; rw [hp] at h; cases h.2)⟩
    · have hp' : p k = false := by simpa using hp
      have e : ofTo p (k + 1) = ofTo p k := by rw [ofTo, if_neg hp]
      rw [e]
      refine ⟨h1, fun o => ?_, fun t ht => ?_, (fun h => by rw [Nat.add_sub_cancel] at h; rw [hp'] at h; cases h.2)⟩
      · rw [h2 o]
        by_cases ho : o = k
        · subst ho; simp [hp']
        · have e2 : decide (o < k + 1) = decide (o < k) := by simp; omega
          rw [e2]
      · obtain ⟨b1, _, _⟩ := h3 t ht
        exact ⟨by omega, (fun h => by rw [Nat.add_sub_cancel] at h; rw [hp'] at h; cases h.2), fun _ => by omega⟩
def setOf (l : List Sp) : Nat → Bool := fun o => inB l (o : Int)
/-- The list of a set. -/
def of (p : Nat → Bool) : List Sp := ofTo p 256
theorem of_fm (p : Nat → Bool) : fmS (-2) (of p) = true := (ofTo_ok p 256 (Nat.le_refl _)).1
theorem of_in (p : Nat → Bool) (o : Nat) (h : o < 256) : inB (of p) (o : Int) = p o := by
  have := (ofTo_ok p 256 (Nat.le_refl _)).2.1 o
  rw [show decide (o < 256) = true by simpa using h, Bool.true_and] at this
  exact this
theorem of_set {l : List Sp} (h : fmS (-2) l = true) : of (setOf l) = l := fmS_one (of_fm _) h fun o h0 h1 => by
  obtain ⟨k, rfl⟩ := Int.eq_ofNat_of_zero_le h0
  rw [of_in _ k (by omega)]; rfl
theorem ofTo_congr {p q : Nat → Bool} : ∀ k, (∀ o, o < k → p o = q o) → ofTo p k = ofTo q k := by
  intro k
  induction k with
  | zero => exact fun _ => rfl
  | succ k ih =>
    intro h
    have e := ih fun o ho => h o (by omega)
    have hk := h k (by omega)
    have hk1 := h (k - 1) (by omega)
    rw [ofTo, ofTo, e, hk, hk1]
theorem of_congr {p q : Nat → Bool} (h : ∀ o, o < 256 → p o = q o) : of p = of q := ofTo_congr 256 h
/-- The document's Formed says the same. -/
theorem formed_both (l : List Sp) : fmS (-2) l = (decide (l.length ≤ 128) && decide (l = of (setOf l))) := by
  rw [Bool.eq_iff_iff, Bool.and_eq_true, decide_eq_true_eq, decide_eq_true_eq]
  constructor
  · exact fun h => ⟨fmS_128 h, (of_set h).symm⟩
  · rintro ⟨_, h⟩
    rw [h]; exact of_fm _
end Go.Proofs.YtepdcbhapjgijaaDoor.Sn

namespace Go.Proofs.YtepdcbhapjgijaaDoor.Sn

/-- A span cut to objects. -/
def cutS (s : Sp) : Option Sp := if max s.1 0 ≤ min s.2 255 then some (max s.1 0, min s.2 255) else none
def cut (l : List Sp) : List Sp := l.filterMap cutS
theorem cut_snoc (l : List Sp) (s : Sp) : cut (l ++ [s]) = cut l ++ (cutS s).toList := by
  unfold cut
  rw [List.filterMap_append]
  cases h : cutS s <;> simp [h]
theorem cut_len (l : List Sp) : (cut l).length ≤ l.length := List.length_filterMap_le _ _
/-- Whole spans: between 0 and 255, not empty. -/
def okS (s : Sp) : Prop := 0 ≤ s.1 ∧ s.1 ≤ s.2 ∧ s.2 ≤ 255
theorem cut_ok {l : List Sp} {s : Sp} (h : s ∈ cut l) : okS s := by
  unfold cut at h
  obtain ⟨t, _, ht⟩ := List.mem_filterMap.1 h
  unfold cutS at ht
  split at ht
  · rename_i hc
    injection ht with ht
    subst ht
    refine ⟨?_, ?_, ?_⟩ <;> simp only <;> omega
  · cases ht
theorem in_cutS (s : Sp) (o : Int) (h0 : 0 ≤ o) (h1 : o ≤ 255) : inB (cutS s).toList o = (decide (s.1 ≤ o) && decide (o ≤ s.2)) := by
  unfold cutS
  split
  · simp only [Option.toList_some, inB, List.any_cons, List.any_nil, Bool.or_false]
    rw [Bool.eq_iff_iff]; simp; omega
  · simp only [Option.toList_none, inB, List.any_nil]
    rw [Bool.eq_iff_iff]; simp; omega
theorem in_cut (l : List Sp) (o : Int) (h0 : 0 ≤ o) (h1 : o ≤ 255) : inB (cut l) o = inB l o := by
  induction l with
  | nil => rfl
  | cons s r ih =>
    have e : cut (s :: r) = (cutS s).toList ++ cut r := by
      unfold cut
      cases h : cutS s <;> simp [h]
    rw [e, inB_app, inB_cons, ih, in_cutS s o h0 h1]

/-- A span is put behind others. -/
def putS (out : List Sp) (s : Sp) : List Sp :=
  match out.getLast? with
  | some t => if s.1 ≤ t.2 + 1 then out.dropLast ++ [(t.1, max t.2 s.2)] else out ++ [s]
  | none => [s]
theorem putS_nil (s : Sp) : putS [] s = [s] := rfl
theorem putS_snoc (u : List Sp) (t s : Sp) : putS (u ++ [t]) s = if s.1 ≤ t.2 + 1 then u ++ [(t.1, max t.2 s.2)] else u ++ [t] ++ [s] := by
  unfold putS
  simp
def put (l : List Sp) : List Sp := l.foldl putS []
theorem put_snoc (l : List Sp) (s : Sp) : put (l ++ [s]) = putS (put l) s := by simp [put]
/-- Do the beginnings rise? -/
def risS : List Sp → Prop
  | [] => True
  | s :: r => (∀ t ∈ r, s.1 ≤ t.1) ∧ risS r
theorem risS_snoc {l : List Sp} {s : Sp} (h : risS (l ++ [s])) : risS l ∧ ∀ t ∈ l, t.1 ≤ s.1 := by
  induction l with
  | nil => exact ⟨trivial, fun t ht => by cases ht⟩
  | cons x r ih =>
    obtain ⟨h1, h2⟩ := h
    obtain ⟨h3, h4⟩ := ih h2
    exact ⟨⟨fun t ht => h1 t (List.mem_append_left _ ht), h3⟩, fun t ht => by
      rcases List.mem_cons.1 ht with rfl | ht
      · exact h1 s (by simp)
      · exact h4 t ht⟩
/-- What is put together is a set of just those objects; its last span begins where a span began, and reaches as far as any. -/
theorem put_ok : ∀ (l : List Sp), (∀ s ∈ l, okS s) → risS l → fmS (-2) (put l) = true ∧ (∀ o, inB (put l) o = inB l o) ∧ (∀ t, (put l).getLast? = some t → (∃ s ∈ l, t.1 = s.1) ∧ ∀ s ∈ l, s.2 ≤ t.2) ∧ (put l = [] → l = []) := by
  intro l
  induction h : l.length generalizing l with
  | zero =>
    intro _ _
    obtain rfl := List.eq_nil_of_length_eq_zero h
    exact ⟨rfl, fun o => rfl, (fun t ht => by cases ht), fun _ => rfl⟩
  | succ n ih =>
    intro hok hris
    obtain ⟨r, s, rfl⟩ : ∃ r s, l = r ++ [s] := ⟨_, _, (List.dropLast_concat_getLast (by intro e; rw [e] at h; cases h)).symm⟩
    have hr : r.length = n := by simpa using h
    obtain ⟨hris', hle⟩ := risS_snoc hris
    obtain ⟨h1, h2, h3, h4⟩ := ih r hr (fun s hs => hok s (List.mem_append_left _ hs)) hris'
    obtain ⟨a1, a2, a3⟩ := hok s (by simp)
    rw [put_snoc]
    rcases hp : (put r).getLast? with _ | t
    · have hn : put r = [] := by simpa using hp
      obtain rfl := h4 hn
      rw [hn, putS_nil]
      refine ⟨by simp [fmS]; omega, fun o => by simp, fun t ht => ?_, fun h => by cases h⟩
      obtain rfl : s = t := by simpa using ht
      exact ⟨⟨s, by simp, rfl⟩, fun u hu => by simp at hu; subst hu; exact Int.le_refl _⟩
    · obtain ⟨u, hu⟩ : ∃ u, put r = u ++ [t] := by
        have hne : put r ≠ [] := by intro e; rw [e] at hp; cases hp
        refine ⟨(put r).dropLast, ?_⟩
        have := List.getLast?_eq_some_getLast hne
        rw [hp] at this
        injection this with this
        rw [this]; exact (List.dropLast_concat_getLast hne).symm
      obtain ⟨⟨s0, hs0, e0⟩, hmx⟩ := h3 t hp
      have hts : t.1 ≤ s.1 := by rw [e0]; exact hle s0 hs0
      rw [hu] at h1 h2 ⊢
      obtain ⟨b1, b2, b3, b4, b5, b6⟩ := fmS_snoc.1 h1
      rw [putS_snoc]
      split
      · rename_i hc
        refine ⟨fmS_snoc.2 ⟨b1, by simp only; omega, by simp only; omega, b4, b5, b6⟩, fun o => ?_, fun t' ht => ?_, fun h => by simp at h⟩
        · rw [inB_app, inB_app, ← h2 o, inB_app]
          simp only [inB, List.any_cons, List.any_nil, Bool.or_false]
          rw [Bool.eq_iff_iff]; simp
          constructor
          · rintro (h | ⟨h, k⟩)
            · exact .inl (.inl h)
            · omega
          · rintro ((h | ⟨h, k⟩) | ⟨h, k⟩)
            · exact .inl h
            · right; omega
            · right; omega
        · obtain rfl : (t.1, max t.2 s.2) = t' := by simpa using ht
          refine ⟨⟨s0, List.mem_append_left _ hs0, e0⟩, fun v hv => ?_⟩
          rcases List.mem_append.1 hv with hv | hv
          · have := hmx v hv; simp only; omega
          · simp at hv; subst hv; simp only; omega
      · rename_i hc
        refine ⟨fmS_snoc.2 ⟨h1, a2, a3, a1, fun t' ht => ?_, fun h => by simp at h⟩, fun o => ?_, fun t' ht => ?_, fun h => by simp at h⟩
        · obtain rfl : t = t' := by simpa using ht
          omega
        · rw [inB_app, h2 o, inB_app]
        · obtain rfl : s = t' := by simpa using ht
          refine ⟨⟨s, by simp, rfl⟩, fun v hv => ?_⟩
          rcases List.mem_append.1 hv with hv | hv
          · have := hmx v hv; omega
          · simp at hv; subst hv; exact Int.le_refl _
/-- Any spans as a set. -/
def tidy (l : List Sp) : List Sp := of (setOf l)
theorem tidy_fm (l : List Sp) : fmS (-2) (tidy l) = true := of_fm _
theorem tidy_in (l : List Sp) (o : Int) (h0 : 0 ≤ o) (h1 : o ≤ 255) : inB (tidy l) o = inB l o := by
  obtain ⟨k, rfl⟩ := Int.eq_ofNat_of_zero_le h0
  unfold tidy
  rw [of_in _ k (by omega)]; rfl
theorem tidy_len (l : List Sp) : (tidy l).length ≤ 128 := fmS_128 (tidy_fm l)
theorem in_perm {l m : List Sp} (h : List.Perm l m) (o : Int) : inB l o = inB m o := by
  unfold inB
  rw [Bool.eq_iff_iff, List.any_eq_true, List.any_eq_true]
  exact ⟨fun ⟨x, hx, hh⟩ => ⟨x, h.mem_iff.1 hx, hh⟩, fun ⟨x, hx, hh⟩ => ⟨x, h.mem_iff.2 hx, hh⟩⟩
/-- Cut, sorted, put together: the set. -/
theorem tidy_put {l c : List Sp} (hp : List.Perm (cut l) c) (hr : risS c) : put c = tidy l := by
  obtain ⟨h1, h2, _, _⟩ := put_ok c (fun s hs => cut_ok (hp.mem_iff.2 hs)) hr
  refine fmS_one h1 (tidy_fm l) fun o h0 h255 => ?_
  rw [h2, ← in_perm hp, in_cut l o h0 h255, tidy_in l o h0 h255]
theorem tidy_congr {l m : List Sp} (h : ∀ o, 0 ≤ o → o ≤ 255 → inB l o = inB m o) : tidy l = tidy m :=
  of_congr fun o ho => h o (by omega) (by omega)
theorem tidy_set {l : List Sp} (h : fmS (-2) l = true) : tidy l = l := of_set h
end Go.Proofs.YtepdcbhapjgijaaDoor.Sn

namespace Go.Proofs.YtepdcbhapjgijaaDoor.Sn

theorem fmS_weak {e f : Int} {l : List Sp} (h : fmS f l = true) (he : e ≤ f) : fmS e l = true := by
  cases l with
  | nil => rfl
  | cons s r =>
    obtain ⟨h1, h2, h3, h4, h5⟩ := fmS_cons.1 h
    exact fmS_cons.2 ⟨h1, h2, h3, by omega, h5⟩
/-- What two spans have together. -/
def bothS (s t : Sp) : List Sp := if max s.1 t.1 ≤ min s.2 t.2 then [(max s.1 t.1, min s.2 t.2)] else []
/-- What two sets have together. -/
def mtg : List Sp → List Sp → List Sp
  | [], _ => []
  | _ :: _, [] => []
  | s :: p, t :: q => bothS s t ++ (if s.2 < t.2 then mtg p (t :: q) else mtg (s :: p) q)
termination_by x y => x.length + y.length
theorem mtg_nil (y : List Sp) : mtg [] y = [] := by rw [mtg]
theorem mtg_nil2 (x : List Sp) : mtg x [] = [] := by cases x <;> rw [mtg]
theorem mtg_step (s t : Sp) (p q : List Sp) : mtg (s :: p) (t :: q) = bothS s t ++ (if s.2 < t.2 then mtg p (t :: q) else mtg (s :: p) q) := by rw [mtg]
theorem in_both (s t : Sp) (o : Int) : inB (bothS s t) o = ((decide (s.1 ≤ o) && decide (o ≤ s.2)) && (decide (t.1 ≤ o) && decide (o ≤ t.2))) := by
  unfold bothS
  split
  · simp only [inB, List.any_cons, List.any_nil, Bool.or_false]
    rw [Bool.eq_iff_iff]; simp; omega
  · simp only [inB, List.any_nil]
    rw [Bool.eq_iff_iff]; simp; omega
theorem mtg_ok : ∀ (n : Nat) (x y : List Sp), x.length + y.length = n → ∀ (e f : Int), fmS e x = true → fmS f y = true → fmS (max e f) (mtg x y) = true ∧ ∀ o, inB (mtg x y) o = (inB x o && inB y o) := by
  intro n
  induction n with
  | zero =>
    intro x y hn e f _ _
    obtain rfl := List.eq_nil_of_length_eq_zero (show x.length = 0 by omega)
    rw [mtg_nil]
    exact ⟨rfl, fun o => by simp [inB]⟩
  | succ n ih =>
    intro x y hn e f hx hy
    rcases x with _ | ⟨s, p⟩
    · rw [mtg_nil]; exact ⟨rfl, fun o => by simp [inB]⟩
    · rcases y with _ | ⟨t, q⟩
      · rw [mtg_nil2]; exact ⟨rfl, fun o => by simp [inB]⟩
      · obtain ⟨a1, a2, a3, a4, a5⟩ := fmS_cons.1 hx
        obtain ⟨b1, b2, b3, b4, b5⟩ := fmS_cons.1 hy
        rw [mtg_step]
        by_cases hc : s.2 < t.2
        · rw [if_pos hc]
          obtain ⟨h1, h2⟩ := ih p (t :: q) (by simp only [List.length_cons] at hn ⊢; omega) s.2 f a5 hy
          refine ⟨?_, fun o => ?_⟩
          · unfold bothS
            split
            · exact fmS_cons.2 ⟨by simp only; omega, by simp only; omega, by simp only; omega, by simp only; omega, fmS_weak h1 (by simp only; omega)⟩
            · exact fmS_weak h1 (by omega)
          · rw [inB_app, h2, in_both, inB_cons s, inB_cons t]
            have hq := fun h => fmS_in b5 o h
            rw [Bool.eq_iff_iff]
            simp only [Bool.or_eq_true, Bool.and_eq_true, decide_eq_true_eq]
            constructor
            · rintro (⟨h3, h4⟩ | ⟨h3, h4⟩)
              · exact ⟨.inl h3, .inl h4⟩
              · exact ⟨.inr h3, h4⟩
            · rintro ⟨h3 | h3, h4 | h4⟩
              · exact .inl ⟨h3, h4⟩
              · have := hq h4; omega
              · exact .inr ⟨h3, .inl h4⟩
              · exact .inr ⟨h3, .inr h4⟩
        · rw [if_neg hc]
          obtain ⟨h1, h2⟩ := ih (s :: p) q (by simp only [List.length_cons] at hn ⊢; omega) e t.2 hx b5
          refine ⟨?_, fun o => ?_⟩
          · unfold bothS
            split
            · exact fmS_cons.2 ⟨by simp only; omega, by simp only; omega, by simp only; omega, by simp only; omega, fmS_weak h1 (by simp only; omega)⟩
            · exact fmS_weak h1 (by omega)
          · rw [inB_app, h2, in_both, inB_cons s, inB_cons t]
            have hp := fun h => fmS_in a5 o h
            rw [Bool.eq_iff_iff]
            simp only [Bool.or_eq_true, Bool.and_eq_true, decide_eq_true_eq]
            constructor
            · rintro (⟨h3, h4⟩ | ⟨h3, h4⟩)
              · exact ⟨.inl h3, .inl h4⟩
              · exact ⟨h3, .inr h4⟩
            · rintro ⟨h3 | h3, h4 | h4⟩
              · exact .inl ⟨h3, h4⟩
              · exact .inr ⟨.inl h3, h4⟩
              · have := hp h3; omega
              · exact .inr ⟨.inr h3, h4⟩
/-- What two lists have together. -/
def meetL (a b : List Sp) : List Sp := of fun o => setOf a o && setOf b o
theorem mtg_meet (a b : List Sp) : mtg (tidy a) (tidy b) = meetL a b := by
  obtain ⟨h1, h2⟩ := mtg_ok _ _ _ rfl _ _ (tidy_fm a) (tidy_fm b)
  refine fmS_one (fmS_weak h1 (by omega)) (of_fm _) fun o h0 h255 => ?_
  obtain ⟨k, rfl⟩ := Int.eq_ofNat_of_zero_le h0
  rw [h2, tidy_in a _ h0 h255, tidy_in b _ h0 h255, meetL, of_in _ k (by omega)]; rfl
theorem mtg_len : ∀ (n : Nat) (x y : List Sp), x.length + y.length = n → (mtg x y).length ≤ n := by
  intro n
  induction n with
  | zero =>
    intro x y hn
    obtain rfl := List.eq_nil_of_length_eq_zero (show x.length = 0 by omega)
    rw [mtg_nil]; simp
  | succ n ih =>
    intro x y hn
    rcases x with _ | ⟨s, p⟩
    · rw [mtg_nil]; simp
    · rcases y with _ | ⟨t, q⟩
      · rw [mtg_nil2]; simp
      · rw [mtg_step, List.length_append]
        have hb : (bothS s t).length ≤ 1 := by unfold bothS; split <;> simp
        split
        · have := ih p (t :: q) (by simp only [List.length_cons] at hn ⊢; omega); omega
        · have := ih (s :: p) q (by simp only [List.length_cons] at hn ⊢; omega); omega

/-- All that isn't in a set, from a place on. -/
def rst : Int → List Sp → List Sp
  | from_, [] => if from_ ≤ 255 then [(from_, 255)] else []
  | from_, s :: r => (if from_ < s.1 then [(from_, s.1 - 1)] else []) ++ rst (s.2 + 1) r
theorem rst_ok : ∀ (l : List Sp) (e f : Int), fmS e l = true → f ≤ e + 2 → 0 ≤ f → fmS (f - 2) (rst f l) = true ∧ ∀ o, 0 ≤ o → o ≤ 255 → inB (rst f l) o = (decide (f ≤ o) && !inB l o) := by
  intro l
  induction l with
  | nil =>
    intro e f _ _ h0
    rw [rst]
    split
    · exact ⟨by simp [fmS]; omega, fun o _ h => by simp [inB, h]⟩
    · exact ⟨rfl, fun o _ h => by simp [inB]; omega⟩
  | cons s r ih =>
    intro e f h hf h0
    obtain ⟨a1, a2, a3, a4, a5⟩ := fmS_cons.1 h
    obtain ⟨h1, h2⟩ := ih s.2 (s.2 + 1) a5 (by omega) (by omega)
    rw [rst]
    refine ⟨?_, fun o ho h255 => ?_⟩
    · split
      · exact fmS_cons.2 ⟨by simp only; omega, by simp only; omega, by simp only; omega, by simp only; omega, fmS_weak h1 (by simp only; omega)⟩
      · exact fmS_weak h1 (by omega)
    · rw [inB_app, h2 o ho h255, inB_cons]
      have hr := fun h => fmS_in a5 o h
      rcases hb : inB r o with _ | _
      · split
        · simp only [inB, List.any_cons, List.any_nil, Bool.or_false]
          rw [Bool.eq_iff_iff]; simp; omega
        · simp only [inB, List.any_nil]
          rw [Bool.eq_iff_iff]; simp; omega
      · have := hr hb
        split
        · simp only [inB, List.any_cons, List.any_nil, Bool.or_false]
          rw [Bool.eq_iff_iff]; simp; omega
        · simp [inB]
theorem rst_len : ∀ (l : List Sp) (f : Int), (rst f l).length ≤ l.length + 1
  | [], f => by rw [rst]; split <;> simp
  | s :: r, f => by
    rw [rst, List.length_append]
    have := rst_len r (s.2 + 1)
    split <;> simp <;> omega
/-- All objects that are not in a list. -/
def restL (l : List Sp) : List Sp := of fun o => !setOf l o
theorem rst_rest (l : List Sp) : rst 0 (tidy l) = restL l := by
  obtain ⟨h1, h2⟩ := rst_ok (tidy l) (-2) 0 (tidy_fm l) (by omega) (by omega)
  refine fmS_one h1 (of_fm _) fun o h0 h255 => ?_
  obtain ⟨k, rfl⟩ := Int.eq_ofNat_of_zero_le h0
  rw [h2 _ h0 h255, tidy_in l _ h0 h255, restL, of_in _ k (by omega), decide_eq_true h0, Bool.true_and]; rfl
theorem setOf_of (p : Nat → Bool) (o : Nat) (h : o < 256) : setOf (of p) o = p o := of_in p o h
/-- What the first has alone. -/
def lessL (a b : List Sp) : List Sp := of fun o => setOf a o && !setOf b o
theorem meet_rest (a b : List Sp) : meetL a (restL b) = lessL a b := of_congr fun o ho => by rw [restL, setOf_of _ o ho]

/-- Do two lists touch? -/
def tch (x y : List Sp) : Bool := x.any fun s => y.any fun t => decide (s.1 ≤ t.2) && decide (t.1 ≤ s.2)
theorem of_nil_iff (p : Nat → Bool) : of p = [] ↔ ∀ o, o < 256 → p o = false := by
  constructor
  · intro h o ho
    have := of_in p o ho
    rw [h] at this
    exact this.symm
  · intro h
    refine fmS_one (of_fm p) (show fmS (-2) [] = true from rfl) fun o h0 h255 => ?_
    obtain ⟨k, rfl⟩ := Int.eq_ofNat_of_zero_le h0
    rw [of_in p k (by omega), h k (by omega)]; rfl
theorem fmS_ok {e : Int} {l : List Sp} (h : fmS e l = true) : ∀ s ∈ l, okS s := by
  induction l generalizing e with
  | nil => intro s hs; cases hs
  | cons t r ih =>
    obtain ⟨a1, a2, a3, a4, a5⟩ := fmS_cons.1 h
    intro s hs
    rcases List.mem_cons.1 hs with rfl | hs
    · exact ⟨a3, a1, a2⟩
    · exact ih a5 s hs
theorem tch_meet (a b : List Sp) : tch (tidy a) (tidy b) = decide (meetL a b ≠ []) := by
  rw [Bool.eq_iff_iff, decide_eq_true_eq]
  constructor
  · intro h hn
    obtain ⟨s, hs, h⟩ := List.any_eq_true.1 h
    obtain ⟨t, ht, h⟩ := List.any_eq_true.1 h
    simp only [Bool.and_eq_true, decide_eq_true_eq] at h
    obtain ⟨a1, a2, a3⟩ := fmS_ok (tidy_fm a) s hs
    obtain ⟨b1, b2, b3⟩ := fmS_ok (tidy_fm b) t ht
    obtain ⟨k, hk⟩ := Int.eq_ofNat_of_zero_le (show 0 ≤ max s.1 t.1 by omega)
    have h1 : inB (tidy a) (k : Int) = true := List.any_eq_true.2 ⟨s, hs, by simp; omega⟩
    have h2 : inB (tidy b) (k : Int) = true := List.any_eq_true.2 ⟨t, ht, by simp; omega⟩
    rw [tidy_in a _ (by omega) (by omega)] at h1
    rw [tidy_in b _ (by omega) (by omega)] at h2
    have := (of_nil_iff _).1 hn k (by omega)
    simp only [setOf, h1, h2] at this
    cases this
  · intro h
    rcases hz : tch (tidy a) (tidy b) with _ | _
    · refine absurd ((of_nil_iff _).2 fun o ho => ?_) h
      rcases h1 : inB a (o : Int) with _ | _
      · simp [setOf, h1]
      · rcases h2 : inB b (o : Int) with _ | _
        · simp [setOf, h2]
        · rw [← tidy_in a _ (by omega) (by omega)] at h1
          rw [← tidy_in b _ (by omega) (by omega)] at h2
          obtain ⟨s, hs, h1⟩ := List.any_eq_true.1 h1
          obtain ⟨t, ht, h2⟩ := List.any_eq_true.1 h2
          simp only [Bool.and_eq_true, decide_eq_true_eq] at h1 h2
          have : tch (tidy a) (tidy b) = true := List.any_eq_true.2 ⟨s, hs, List.any_eq_true.2 ⟨t, ht, by simp; omega⟩⟩
          rw [hz] at this; cases this
    · rfl
end Go.Proofs.YtepdcbhapjgijaaDoor.Sn

namespace Go.Proofs.YtepdcbhapjgijaaDoor.Sn

/-- Does a span touch one of a list? -/
def hits (s : Sp) (y : List Sp) : Bool := y.any fun t => decide (s.1 ≤ t.2) && decide (t.1 ≤ s.2)
theorem hits_cons (s t : Sp) (y : List Sp) : hits s (t :: y) = (decide (s.1 ≤ t.2) && decide (t.1 ≤ s.2) || hits s y) := by simp [hits]
theorem tch_cons (s : Sp) (x y : List Sp) : tch (s :: x) y = (hits s y || tch x y) := by simp [tch, hits]
theorem hits_far (s : Sp) : ∀ (y : List Sp) (f : Int), fmS f y = true → s.2 ≤ f + 1 → hits s y = false
  | [], _, _, _ => rfl
  | t :: r, f, h, hs => by
    obtain ⟨h1, h2, h3, h4, h5⟩ := fmS_cons.1 h
    rw [hits_cons, hits_far s r t.2 h5 (by omega), decide_eq_false (p := t.1 ≤ s.2) (by omega)]
    simp
theorem hits_late (s t : Sp) (r : List Sp) {f : Int} (h : fmS f (t :: r) = true) (hs : s.2 < t.1) : hits s (t :: r) = false := by
  obtain ⟨h1, h2, h3, h4, h5⟩ := fmS_cons.1 h
  rw [hits_cons, hits_far s r t.2 h5 (by omega), decide_eq_false (p := t.1 ≤ s.2) (by omega)]
  simp
end Go.Proofs.YtepdcbhapjgijaaDoor.Sn

