/- Plain laws: a note as one sees it who has an interest. No program is named. -/
import Derived.Test.YtnibkniggiokkaaDoorNt0
import Derived.Test.YtnibkniggiokkaaDoorSp1
namespace Go.Proofs.YtnibkniggiokkaaDoor

theorem rise_iff : ∀ (last : Int) (l : List Wr), rise last l = true ↔ (∀ w ∈ l, last < w.2.1) ∧ l.Pairwise fun a b => a.2.1 < b.2.1
  | last, [] => by simp [rise]
  | last, x :: r => by
    rw [rise, Bool.and_eq_true, decide_eq_true_eq, rise_iff x.2.1 r, List.pairwise_cons]
    constructor
    · rintro ⟨h1, h2, h3⟩
      refine ⟨fun w hw => ?_, h2, h3⟩
      rcases List.mem_cons.1 hw with rfl | hw
      · exact h1
      · have := h2 w hw; omega
    · rintro ⟨h1, h2, h3⟩
      exact ⟨h1 x (by simp), h2, h3⟩
theorem ntW_iff (e : List Vc.St) (b : List Sn.Sp) : ∀ (last : Int) (l : List Wr), ntW e b last l = true ↔ rise last l = true ∧ ∀ w ∈ l, (0 ≤ w.2.1 ∧ w.2.1 ≤ 255) ∧ hasO b w.2.1 = false ∧ hasB e w.1 = true
  | last, [] => by simp [ntW, rise]
  | last, x :: r => by
    rw [ntW, rise, Bool.and_eq_true, Bool.and_eq_true, ntW_iff e b x.2.1 r]
    unfold wOk
    simp only [Bool.and_eq_true, decide_eq_true_eq, Bool.not_eq_true', List.mem_cons, forall_eq_or_imp]
    constructor
    · rintro ⟨⟨a1, a2, a3, a4⟩, a5, a6⟩
      exact ⟨⟨a1, a5⟩, ⟨a2, a3, a4⟩, a6⟩
    · rintro ⟨⟨a1, a5⟩, ⟨a2, a3, a4⟩, a6⟩
      exact ⟨⟨a1, a2, a3, a4⟩, a5, a6⟩
/-- The objects of writes, as spans. -/
def obs (l : List Wr) : List Sn.Sp := l.map fun w => (w.2.1, w.2.1)
theorem obs_in (l : List Wr) (o : Int) : Sn.inB (obs l) o = l.any fun w => decide (w.2.1 = o) := by
  unfold obs Sn.inB
  rw [List.any_map]
  congr 1
  funext w
  show (decide (w.2.1 ≤ o) && decide (o ≤ w.2.1)) = _
  rw [Bool.eq_iff_iff]; simp; omega
def seen (sp : List Sn.Sp) (l : List Wr) : List Wr := l.filter fun w => hasO sp w.2.1
def unseen (sp : List Sn.Sp) (l : List Wr) : List Wr := l.filter fun w => !hasO sp w.2.1
/-- A note through an interest. -/
def thru (x : Nt) (sp : List Sn.Sp) : Nt := ⟨x.s, x.e, Sn.tidy (x.b ++ obs (unseen sp x.w)), seen sp x.w⟩
theorem thru_in (x : Nt) (sp : List Sn.Sp) (o : Int) (h0 : 0 ≤ o) (h1 : o ≤ 255) : Sn.inB (thru x sp).b o = (Sn.inB x.b o || (unseen sp x.w).any fun w => decide (w.2.1 = o)) := by
  show Sn.inB (Sn.tidy _) o = _
  rw [Sn.tidy_in _ _ h0 h1, Sn.inB_app, obs_in]
theorem thru_fm {x : Nt} (sp : List Sn.Sp) (h : ntF x = true) : ntF (thru x sp) = true := by
  unfold ntF ntH at h ⊢
  simp only [Bool.and_eq_true] at h ⊢
  obtain ⟨⟨h1, h2, h3, h4⟩, h5⟩ := h
  refine ⟨⟨h1, h2, h3, Sn.tidy_fm _⟩, ?_⟩
  obtain ⟨a1, a2⟩ := (ntW_iff _ _ _ _).1 h5
  obtain ⟨b1, b2⟩ := (rise_iff _ _).1 a1
  refine (ntW_iff _ _ _ _).2 ⟨(rise_iff _ _).2 ⟨fun w hw => b1 w (List.mem_filter.1 hw).1, b2.filter _⟩, fun w hw => ?_⟩
  obtain ⟨hm, hs⟩ := List.mem_filter.1 hw
  obtain ⟨⟨c1, c2⟩, c3, c4⟩ := a2 w hm
  refine ⟨⟨c1, c2⟩, ?_, c4⟩
  unfold hasO at c3 ⊢
  rw [show (decide (0 ≤ w.2.1) && decide (w.2.1 ≤ 255)) = true by simp [c1, c2], Bool.true_and] at c3 ⊢
  rw [thru_in x sp _ c1 c2, c3, Bool.false_or, List.any_eq_false]
  intro u hu
  have hu2 := (List.mem_filter.1 hu).2
  simp only [decide_eq_true_eq]
  intro e
  rw [e, hs] at hu2
  cases hu2
theorem any_or' {α : Type} (l : List α) (p q : α → Bool) : (l.any p || l.any q) = l.any fun x => p x || q x := by
  induction l with
  | nil => rfl
  | cons x r ih =>
    simp only [List.any_cons, ← ih]
    cases p x <;> cases q x <;> simp
theorem thru_twice (x : Nt) (a b m : List Sn.Sp) (hm : ∀ o, hasO m o = (hasO a o && hasO b o)) : thru (thru x a) b = thru x m := by
  have e1 : seen b (seen a x.w) = seen m x.w := by
    unfold seen
    rw [List.filter_filter]
    congr 1
    funext w
    rw [hm, Bool.and_comm]
  have e2 : Sn.tidy ((thru x a).b ++ obs (unseen b (seen a x.w))) = Sn.tidy (x.b ++ obs (unseen m x.w)) := by
    refine Sn.tidy_congr fun o h0 h1 => ?_
    rw [Sn.inB_app, Sn.inB_app, thru_in x a o h0 h1, obs_in, obs_in, Bool.or_assoc]
    congr 1
    unfold unseen seen
    rw [List.filter_filter, List.any_filter, List.any_filter, List.any_filter, any_or']
    congr 1
    funext w
    rw [hm]
    cases hasO a w.2.1 <;> cases hasO b w.2.1 <;> cases decide (w.2.1 = o) <;> rfl
  show (⟨x.s, x.e, Sn.tidy ((thru x a).b ++ obs (unseen b (seen a x.w))), seen b (seen a x.w)⟩ : Nt) = _
  rw [e1, e2]
  rfl
theorem thru_all {x : Nt} (h : ntF x = true) (m : List Sn.Sp) (hm : ∀ o, 0 ≤ o → o ≤ 255 → hasO m o = true) : thru x m = x := by
  unfold ntF ntH at h
  simp only [Bool.and_eq_true] at h
  obtain ⟨⟨h1, h2, h3, h4⟩, h5⟩ := h
  obtain ⟨a1, a2⟩ := (ntW_iff _ _ _ _).1 h5
  have e1 : seen m x.w = x.w := List.filter_eq_self.2 fun w hw => hm _ (a2 w hw).1.1 (a2 w hw).1.2
  have e2 : unseen m x.w = [] := List.filter_eq_nil_iff.2 fun w hw => by rw [hm _ (a2 w hw).1.1 (a2 w hw).1.2]; simp
  unfold thru
  rw [e1, e2]
  show (⟨x.s, x.e, Sn.tidy (x.b ++ []), x.w⟩ : Nt) = x
  rw [List.append_nil, Sn.tidy_set h4]
theorem seen_take (sp : List Sn.Sp) (l : List Wr) (k : Nat) (h : k < l.length) : seen sp (l.take (k + 1)) = if hasO sp l[k].2.1 then seen sp (l.take k) ++ [l[k]] else seen sp (l.take k) := by
  unfold seen
  rw [List.take_succ_eq_append_getElem h, List.filter_append]
  rcases hz : hasO sp l[k].2.1 with _ | _ <;> simp [hz]
theorem unseen_take (sp : List Sn.Sp) (l : List Wr) (k : Nat) (h : k < l.length) : unseen sp (l.take (k + 1)) = if hasO sp l[k].2.1 then unseen sp (l.take k) else unseen sp (l.take k) ++ [l[k]] := by
  unfold unseen
  rw [List.take_succ_eq_append_getElem h, List.filter_append]
  rcases hz : hasO sp l[k].2.1 with _ | _ <;> simp [hz]
def objs (l : List Wr) : List Int := l.map fun w => w.2.1
theorem objs_app (l m : List Wr) : objs (l ++ m) = objs l ++ objs m := by simp [objs]
theorem stl_len {v : List Vc.St} (h : fm (-1) v = true) : v.length ≤ 64 := by
  have : ∀ (last : Int) (v : List Vc.St), fm last v = true → -1 ≤ last → (v.length : Int) ≤ 63 - last ∨ v = [] := by
    intro last v
    induction v generalizing last with
    | nil => exact fun _ _ => .inr rfl
    | cons s r ih =>
      intro h hl
      rw [fm, Bool.and_eq_true, Bool.and_eq_true, decide_eq_true_eq, Vc.right_iff] at h
      obtain ⟨⟨h1, h2, h3⟩, h4, h5⟩ := h
      refine .inl ?_
      rcases ih s.2 h5 (by omega) with h6 | rfl
      · rw [List.length_cons]; omega
      · simp; omega
  rcases this (-1) v h (by omega) with h | rfl
  · omega
  · simp
theorem wrl_len {e : List Vc.St} {b : List Sn.Sp} {l : List Wr} (h : ntW e b (-1) l = true) : l.length ≤ 256 := by
  have : ∀ (last : Int) (l : List Wr), ntW e b last l = true → -1 ≤ last → (l.length : Int) ≤ 255 - last ∨ l = [] := by
    intro last l
    induction l generalizing last with
    | nil => exact fun _ _ => .inr rfl
    | cons w r ih =>
      intro h hl
      rw [ntW, Bool.and_eq_true] at h
      obtain ⟨h1, h2⟩ := h
      unfold wOk at h1
      simp only [Bool.and_eq_true, decide_eq_true_eq] at h1
      refine .inl ?_
      rcases ih w.2.1 h2 (by omega) with h6 | rfl
      · rw [List.length_cons]; omega
      · simp; omega
  rcases this (-1) l h (by omega) with h | rfl
  · omega
  · simp
end Go.Proofs.YtnibkniggiokkaaDoor
