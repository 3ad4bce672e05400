/- Plain laws of sets of objects: any spans as a set (tidy), what two have together, all the rest. No program is named. -/
import Derived.Test.YtnibkniggiokkaaDoorSp0
namespace Go.Proofs.YtnibkniggiokkaaDoor.Sn

/-- A span cut to objects. -/
def cutS (s : Sp) : Option Sp := if max s.1 0 ≤ min s.2 255 then some (max s.1 0, min s.2 255) else none
def cut (l : List Sp) : List Sp := l.filterMap cutS
theorem cut_snoc (l : List Sp) (s : Sp) : cut (l ++ [s]) = cut l ++ (cutS s).toList := by
  unfold cut
  rw [List.filterMap_append]
  cases h : cutS s <;> simp [h]
theorem cut_len (l : List Sp) : (cut l).length ≤ l.length := List.length_filterMap_le _ _
/-- Whole spans: between 0 and 255, not empty. -/
def okS (s : Sp) : Prop := 0 ≤ s.1 ∧ s.1 ≤ s.2 ∧ s.2 ≤ 255
theorem cut_ok {l : List Sp} {s : Sp} (h : s ∈ cut l) : okS s := by
  unfold cut at h
  obtain ⟨t, _, ht⟩ := List.mem_filterMap.1 h
  unfold cutS at ht
  split at ht
  · rename_i hc
    injection ht with ht
    subst ht
    refine ⟨?_, ?_, ?_⟩ <;> simp only <;> omega
  · cases ht
theorem in_cutS (s : Sp) (o : Int) (h0 : 0 ≤ o) (h1 : o ≤ 255) : inB (cutS s).toList o = (decide (s.1 ≤ o) && decide (o ≤ s.2)) := by
  unfold cutS
  split
  · simp only [Option.toList_some, inB, List.any_cons, List.any_nil, Bool.or_false]
    rw [Bool.eq_iff_iff]; simp; omega
  · simp only [Option.toList_none, inB, List.any_nil]
    rw [Bool.eq_iff_iff]; simp; omega
theorem in_cut (l : List Sp) (o : Int) (h0 : 0 ≤ o) (h1 : o ≤ 255) : inB (cut l) o = inB l o := by
  induction l with
  | nil => rfl
  | cons s r ih =>
    have e : cut (s :: r) = (cutS s).toList ++ cut r := by
      unfold cut
      cases h : cutS s <;> simp [h]
    rw [e, inB_app, inB_cons, ih, in_cutS s o h0 h1]

/-- A span is put behind others. -/
def putS (out : List Sp) (s : Sp) : List Sp :=
  match out.getLast? with
  | some t => if s.1 ≤ t.2 + 1 then out.dropLast ++ [(t.1, max t.2 s.2)] else out ++ [s]
  | none => [s]
theorem putS_nil (s : Sp) : putS [] s = [s] := rfl
theorem putS_snoc (u : List Sp) (t s : Sp) : putS (u ++ [t]) s = if s.1 ≤ t.2 + 1 then u ++ [(t.1, max t.2 s.2)] else u ++ [t] ++ [s] := by
  unfold putS
  simp
def put (l : List Sp) : List Sp := l.foldl putS []
theorem put_snoc (l : List Sp) (s : Sp) : put (l ++ [s]) = putS (put l) s := by simp [put]
/-- Do the beginnings rise? -/
def risS : List Sp → Prop
  | [] => True
  | s :: r => (∀ t ∈ r, s.1 ≤ t.1) ∧ risS r
theorem risS_snoc {l : List Sp} {s : Sp} (h : risS (l ++ [s])) : risS l ∧ ∀ t ∈ l, t.1 ≤ s.1 := by
  induction l with
  | nil => exact ⟨trivial, fun t ht => by cases ht⟩
  | cons x r ih =>
    obtain ⟨h1, h2⟩ := h
    obtain ⟨h3, h4⟩ := ih h2
    exact ⟨⟨fun t ht => h1 t (List.mem_append_left _ ht), h3⟩, fun t ht => by
      rcases List.mem_cons.1 ht with rfl | ht
      · exact h1 s (by simp)
      · exact h4 t ht⟩
/-- What is put together is a set of just those objects; its last span begins where a span began, and reaches as far as any. -/
theorem put_ok : ∀ (l : List Sp), (∀ s ∈ l, okS s) → risS l → fmS (-2) (put l) = true ∧ (∀ o, inB (put l) o = inB l o) ∧ (∀ t, (put l).getLast? = some t → (∃ s ∈ l, t.1 = s.1) ∧ ∀ s ∈ l, s.2 ≤ t.2) ∧ (put l = [] → l = []) := by
  intro l
  induction h : l.length generalizing l with
  | zero =>
    intro _ _
    obtain rfl := List.eq_nil_of_length_eq_zero h
    exact ⟨rfl, fun o => rfl, (fun t ht => by cases ht), fun _ => rfl⟩
  | succ n ih =>
    intro hok hris
    obtain ⟨r, s, rfl⟩ : ∃ r s, l = r ++ [s] := ⟨_, _, (List.dropLast_concat_getLast (by intro e; rw [e] at h; cases h)).symm⟩
    have hr : r.length = n := by simpa using h
    obtain ⟨hris', hle⟩ := risS_snoc hris
    obtain ⟨h1, h2, h3, h4⟩ := ih r hr (fun s hs => hok s (List.mem_append_left _ hs)) hris'
    obtain ⟨a1, a2, a3⟩ := hok s (by simp)
    rw [put_snoc]
    rcases hp : (put r).getLast? with _ | t
    · have hn : put r = [] := by simpa using hp
      obtain rfl := h4 hn
      rw [hn, putS_nil]
      refine ⟨by simp [fmS]; omega, fun o => by simp, fun t ht => ?_, fun h => by cases h⟩
      obtain rfl : s = t := by simpa using ht
      exact ⟨⟨s, by simp, rfl⟩, fun u hu => by simp at hu; subst hu; exact Int.le_refl _⟩
    · obtain ⟨u, hu⟩ : ∃ u, put r = u ++ [t] := by
        have hne : put r ≠ [] := by intro e; rw [e] at hp; cases hp
        refine ⟨(put r).dropLast, ?_⟩
        have := List.getLast?_eq_some_getLast hne
        rw [hp] at this
        injection this with this
        rw [this]; exact (List.dropLast_concat_getLast hne).symm
      obtain ⟨⟨s0, hs0, e0⟩, hmx⟩ := h3 t hp
      have hts : t.1 ≤ s.1 := by rw [e0]; exact hle s0 hs0
      rw [hu] at h1 h2 ⊢
      obtain ⟨b1, b2, b3, b4, b5, b6⟩ := fmS_snoc.1 h1
      rw [putS_snoc]
      split
      · rename_i hc
        refine ⟨fmS_snoc.2 ⟨b1, by simp only; omega, by simp only; omega, b4, b5, b6⟩, fun o => ?_, fun t' ht => ?_, fun h => by simp at h⟩
        · rw [inB_app, inB_app, ← h2 o, inB_app]
          simp only [inB, List.any_cons, List.any_nil, Bool.or_false]
          rw [Bool.eq_iff_iff]; simp
          constructor
          · rintro (h | ⟨h, k⟩)
            · exact .inl (.inl h)
            · omega
          · rintro ((h | ⟨h, k⟩) | ⟨h, k⟩)
            · exact .inl h
            · right; omega
            · right; omega
        · obtain rfl : (t.1, max t.2 s.2) = t' := by simpa using ht
          refine ⟨⟨s0, List.mem_append_left _ hs0, e0⟩, fun v hv => ?_⟩
          rcases List.mem_append.1 hv with hv | hv
          · have := hmx v hv; simp only; omega
          · simp at hv; subst hv; simp only; omega
      · rename_i hc
        refine ⟨fmS_snoc.2 ⟨h1, a2, a3, a1, fun t' ht => ?_, fun h => by simp at h⟩, fun o => ?_, fun t' ht => ?_, fun h => by simp at h⟩
        · obtain rfl : t = t' := by simpa using ht
          omega
        · rw [inB_app, h2 o, inB_app]
        · obtain rfl : s = t' := by simpa using ht
          refine ⟨⟨s, by simp, rfl⟩, fun v hv => ?_⟩
          rcases List.mem_append.1 hv with hv | hv
          · have := hmx v hv; omega
          · simp at hv; subst hv; exact Int.le_refl _
/-- Any spans as a set. -/
def tidy (l : List Sp) : List Sp := of (setOf l)
theorem tidy_fm (l : List Sp) : fmS (-2) (tidy l) = true := of_fm _
theorem tidy_in (l : List Sp) (o : Int) (h0 : 0 ≤ o) (h1 : o ≤ 255) : inB (tidy l) o = inB l o := by
  obtain ⟨k, rfl⟩ := Int.eq_ofNat_of_zero_le h0
  unfold tidy
  rw [of_in _ k (by omega)]; rfl
theorem tidy_len (l : List Sp) : (tidy l).length ≤ 128 := fmS_128 (tidy_fm l)
theorem in_perm {l m : List Sp} (h : List.Perm l m) (o : Int) : inB l o = inB m o := by
  unfold inB
  rw [Bool.eq_iff_iff, List.any_eq_true, List.any_eq_true]
  exact ⟨fun ⟨x, hx, hh⟩ => ⟨x, h.mem_iff.1 hx, hh⟩, fun ⟨x, hx, hh⟩ => ⟨x, h.mem_iff.2 hx, hh⟩⟩
/-- Cut, sorted, put together: the set. -/
theorem tidy_put {l c : List Sp} (hp : List.Perm (cut l) c) (hr : risS c) : put c = tidy l := by
  obtain ⟨h1, h2, _, _⟩ := put_ok c (fun s hs => cut_ok (hp.mem_iff.2 hs)) hr
  refine fmS_one h1 (tidy_fm l) fun o h0 h255 => ?_
  rw [h2, ← in_perm hp, in_cut l o h0 h255, tidy_in l o h0 h255]
theorem tidy_congr {l m : List Sp} (h : ∀ o, 0 ≤ o → o ≤ 255 → inB l o = inB m o) : tidy l = tidy m :=
  of_congr fun o ho => h o (by omega) (by omega)
theorem tidy_set {l : List Sp} (h : fmS (-2) l = true) : tidy l = l := of_set h
end Go.Proofs.YtnibkniggiokkaaDoor.Sn
