/- Texts of one layer in one file: Nm0, Nm1, Nm2. -/
import Derived.Sort.LotA
import Derived.Test.YtnibkniggiokkaaDoorNt1
namespace Go.Proofs.YtnibkniggiokkaaDoor
open Go.Sort
namespace St
variable {α : Type}

/-- Those of a list that stand with x. -/
def cls (lt : α → α → Bool) (x : α) (l : List α) : List α := l.filter fun y => !lt x y && !lt y x
/-- No later one is less than an earlier one. -/
def Ris (lt : α → α → Bool) (l : List α) : Prop := l.Pairwise fun x y => lt y x = false
/-- s is l, sorted; equals keep their order. -/
structure Stab (lt : α → α → Bool) (l s : List α) : Prop where
  len : s.length = l.length
  ris : Ris lt s
  cls : ∀ x, cls lt x s = cls lt x l
abbrev mrg (lt : α → α → Bool) (a b : List α) : List α := List.merge a b fun x y => !lt y x
theorem cls_app (lt : α → α → Bool) (x : α) (a b : List α) : cls lt x (a ++ b) = cls lt x a ++ cls lt x b := List.filter_append ..
theorem ris_merge {lt : α → α → Bool} (hS : SWO lt) {a b : List α} (ha : Ris lt a) (hb : Ris lt b) : Ris lt (mrg lt a b) := by
  have h := List.pairwise_merge (le := fun x y => !lt y x) (fun x y z h1 h2 => by
    simp only [Bool.not_eq_true'] at *
    exact hS.ntrans _ _ _ h2 h1) (fun x y => by
    rcases h : lt y x with _ | _
    · simp
    · have : lt x y = false := by
        rcases h2 : lt x y with _ | _
        · rfl
        · have h3 := hS.trans _ _ _ h h2
          rw [hS.irrefl] at h3; cases h3
      simp [this]) a b (ha.imp fun h => by simpa using h) (hb.imp fun h => by simpa using h)
  exact h.imp fun h => by simpa using h
theorem cls_merge {lt : α → α → Bool} (hS : SWO lt) (x : α) : ∀ (a b : List α), Ris lt a → cls lt x (mrg lt a b) = cls lt x a ++ cls lt x b
  | [], b, _ => by simp [mrg, cls]
  | a, [], _ => by simp [mrg, cls]
  | u :: a, v :: b, h => by
    have ha := List.pairwise_cons.1 h
    rw [mrg, List.cons_merge_cons]
    rcases hvu : lt v u with _ | _
    · rw [if_pos (by simp)]
      rw [show u :: List.merge a (v :: b) (fun x y => !lt y x) = [u] ++ mrg lt a (v :: b) from rfl, cls_app, cls_merge hS x a (v :: b) ha.2, show u :: a = [u] ++ a from rfl, cls_app, List.append_assoc]
    · rw [if_neg (by simp)]
      rw [show v :: List.merge (u :: a) b (fun x y => !lt y x) = [v] ++ mrg lt (u :: a) b from rfl, cls_app, cls_merge hS x (u :: a) b h, show v :: b = [v] ++ b from rfl, cls_app]
      by_cases hv : (!lt x v && !lt v x) = true
      · have hv2 : lt x v = false ∧ lt v x = false := by simpa using hv
        have hem : cls lt x (u :: a) = [] := by
          unfold cls
          rw [List.filter_eq_nil_iff]
          intro y hy hc
          have hc2 : lt x y = false ∧ lt y x = false := by simpa using hc
          have hyu : lt y u = false := by
            rcases List.mem_cons.1 hy with rfl | hy
            · exact hS.irrefl _
            · exact ha.1 y hy
          have := hS.ntrans _ _ _ (hS.ntrans _ _ _ hv2.2 hc2.1) hyu
          rw [hvu] at this; cases this
        rw [hem]; simp
      · have hem : cls lt x [v] = [] := by
          unfold cls; rw [List.filter_eq_nil_iff]
          intro y hy; rw [List.mem_singleton] at hy; rw [hy]; exact hv
        rw [hem]; simp
theorem Stab.merge {lt : α → α → Bool} (hS : SWO lt) {A B a b : List α} (ha : Stab lt A a) (hb : Stab lt B b) : Stab lt (A ++ B) (mrg lt a b) :=
  ⟨by rw [List.length_merge, List.length_append, ha.len, hb.len], ris_merge hS ha.ris hb.ris, fun x => by rw [cls_merge hS x a b ha.ris, cls_app, ha.cls, hb.cls]⟩
/-- There is one stable sort. -/
theorem stab_one {lt : α → α → Bool} (hS : SWO lt) : ∀ {s t : List α}, Ris lt s → Ris lt t → (∀ x, cls lt x s = cls lt x t) → s = t
  | [], [], _, _, _ => rfl
  | [], y :: t, _, _, h => by
    have := h y
    simp [cls, hS.irrefl] at this
  | x :: s, [], _, _, h => by
    have := h x
    simp [cls, hS.irrefl] at this
  | x :: s, y :: t, hs, ht, h => by
    have hs' := List.pairwise_cons.1 hs
    have ht' := List.pairwise_cons.1 ht
    have memof : ∀ {z : α} {l : List α} {u : α}, z ∈ cls lt u l → z ∈ l ∧ lt u z = false ∧ lt z u = false := fun {z l u} hz => by
      have := List.mem_filter.1 hz
      exact ⟨this.1, by simpa using this.2⟩
    have hx : x ∈ cls lt x (y :: t) := by rw [← h]; simp [cls, hS.irrefl]
    have hy : y ∈ cls lt y (x :: s) := by rw [h]; simp [cls, hS.irrefl]
    have hxy : lt x y = false := by
      rcases List.mem_cons.1 (memof hx).1 with rfl | hm
      · exact hS.irrefl _
      · exact ht'.1 x hm
    have hyx : lt y x = false := by
      rcases List.mem_cons.1 (memof hy).1 with rfl | hm
      · exact hS.irrefl _
      · exact hs'.1 y hm
    have e : x = y := by
      have := h x
      simp only [cls, List.filter_cons, hS.irrefl, hxy, hyx] at this
      simp at this
      exact this.1
    subst e
    congr 1
    refine stab_one hS hs'.2 ht'.2 fun z => ?_
    have := h z
    simp only [cls, List.filter_cons] at this
    unfold cls
    split at this
    · exact (List.cons.inj this).2
    · exact this
theorem merge_split {lt : α → α → Bool} : ∀ (L1 L2 R1 R2 : List α), (∀ l ∈ L2, ∀ r ∈ R1, lt r l = true) → (∀ l ∈ L1, ∀ r ∈ R2, lt r l = false) → mrg lt (L1 ++ L2) (R1 ++ R2) = mrg lt L1 R1 ++ mrg lt L2 R2
  | [], L2, [], R2, _, _ => by simp [mrg]
  | [], [], r :: R1, R2, _, _ => by simp [mrg]
  | [], l :: L2, r :: R1, R2, h1, h2 => by
    have ih := merge_split [] (l :: L2) R1 R2 (fun l hl r hr => h1 l hl r (List.mem_cons_of_mem _ hr)) (fun l hl => by cases hl)
    simp only [mrg, List.nil_append, List.nil_merge, List.cons_append] at ih ⊢
    rw [List.cons_merge_cons, if_neg (by rw [h1 l (List.mem_cons_self ..) r (List.mem_cons_self ..)]; simp), ih]
  | x :: L1, L2, [], [], _, _ => by simp [mrg]
  | x :: L1, L2, [], r :: R2, h1, h2 => by
    have ih := merge_split L1 L2 [] (r :: R2) (fun l hl r hr => by cases hr) (fun l hl => h2 l (List.mem_cons_of_mem _ hl))
    simp only [mrg, List.nil_append, List.merge_right, List.cons_append] at ih ⊢
    rw [List.cons_merge_cons, if_pos (by rw [h2 x (List.mem_cons_self ..) r (List.mem_cons_self ..)]; rfl), ih]
  | x :: L1, L2, r :: R1, R2, h1, h2 => by
    simp only [mrg, List.cons_append]
    rw [List.cons_merge_cons, List.cons_merge_cons]
    rcases hrx : lt r x with _ | _
    · rw [if_pos (by simp), if_pos (by simp)]
      have ih := merge_split L1 L2 (r :: R1) R2 h1 (fun l hl => h2 l (List.mem_cons_of_mem _ hl))
      simp only [mrg, List.cons_append] at ih
      rw [ih]; rfl
    · rw [if_neg (by simp), if_neg (by simp)]
      have ih := merge_split (x :: L1) L2 R1 R2 (fun l hl r' hr => h1 l hl r' (List.mem_cons_of_mem _ hr)) h2
      simp only [mrg, List.cons_append] at ih
      rw [ih]; rfl
theorem merge_left {lt : α → α → Bool} (x : α) (R1 R2 : List α) (h1 : ∀ r ∈ R1, lt r x = true) (h2 : ∀ r ∈ R2, lt r x = false) : mrg lt [x] (R1 ++ R2) = R1 ++ x :: R2 := by
  have e1 := merge_split (lt := lt) [] [x] R1 R2 (fun l hl r hr => by rw [List.mem_singleton] at hl; rw [hl]; exact h1 r hr) (fun l hl => by cases hl)
  have e2 := merge_split (lt := lt) [x] [] [] R2 (fun l hl => by cases hl) (fun l hl r hr => by rw [List.mem_singleton] at hl; rw [hl]; exact h2 r hr)
  simp only [List.nil_append, List.append_nil] at e1 e2
  rw [e1, e2]; simp [mrg]
theorem merge_right {lt : α → α → Bool} (y : α) (L1 L2 : List α) (h1 : ∀ l ∈ L1, lt y l = false) (h2 : ∀ l ∈ L2, lt y l = true) : mrg lt (L1 ++ L2) [y] = L1 ++ y :: L2 := by
  have e1 := merge_split (lt := lt) L1 L2 [] [y] (fun l hl r hr => by cases hr) (fun l hl r hr => by rw [List.mem_singleton] at hr; rw [hr]; exact h1 l hl)
  have e2 := merge_split (lt := lt) [] L2 [y] [] (fun l hl r hr => by rw [List.mem_singleton] at hr; rw [hr]; exact h2 l hl) (fun l hl => by cases hl)
  simp only [List.nil_append, List.append_nil] at e1 e2
  rw [e1, e2]; simp [mrg]

/-! ### Exchanges in lists -/
variable [Inhabited α]
/-- Two places exchanged. -/
def swl (l : List α) (i j : Nat) : List α := (l.set i l[j]!).set j l[i]!
theorem swp_list (l : List α) (i j : Nat) : swp l.toArray i j = (swl l i j).toArray := by simp [swp, swl]
theorem swl_len (l : List α) (i j : Nat) : (swl l i j).length = l.length := by simp [swl]
theorem get_in (X Z : List α) (x : α) : (X ++ x :: Z)[X.length]! = x := by simp [getElem!_pos]
theorem swl_at (X M Y : List α) (x y : α) (i j : Nat) (hi : i = X.length) (hj : j = X.length + (M.length + 1)) : swl (X ++ x :: (M ++ y :: Y)) i j = X ++ y :: (M ++ x :: Y) := by
  subst hi hj
  have e1 : (X ++ x :: (M ++ y :: Y))[X.length]! = x := get_in _ _ _
  have e2 : (X ++ x :: (M ++ y :: Y))[X.length + (M.length + 1)]! = y := by
    have := get_in (X ++ x :: M) Y y
    simp at this ⊢
  unfold swl
  rw [e1, e2]
  simp
theorem swl_back (X M Y : List α) (x y : α) (i j : Nat) (hi : i = X.length) (hj : j = X.length + (M.length + 1)) : swl (X ++ x :: (M ++ y :: Y)) j i = X ++ y :: (M ++ x :: Y) := by
  subst hi hj
  have e1 : (X ++ x :: (M ++ y :: Y))[X.length]! = x := get_in _ _ _
  have e2 : (X ++ x :: (M ++ y :: Y))[X.length + (M.length + 1)]! = y := by
    have := get_in (X ++ x :: M) Y y
    simp at this ⊢
  unfold swl
  rw [e1, e2]
  simp
/-- Two rows of one length being exchanged: t of them are. -/
def srl (X A M B Y : List α) (t : Nat) : List α := X ++ (B.take t ++ A.drop t) ++ M ++ (A.take t ++ B.drop t) ++ Y
omit [Inhabited α] in
theorem srl_zero (X A M B Y : List α) : srl X A M B Y 0 = X ++ A ++ M ++ B ++ Y := by simp [srl]
omit [Inhabited α] in
theorem srl_end (X A M B Y : List α) {t : Nat} (ha : A.length ≤ t) (hb : B.length ≤ t) : srl X A M B Y t = X ++ B ++ M ++ A ++ Y := by
  simp [srl, List.take_of_length_le, List.drop_of_length_le, ha, hb]
theorem srl_step (X A M B Y : List α) {n t a b : Nat} (ha : A.length = n) (hb : B.length = n) (ht : t < n) (ea : a = X.length + t) (eb : b = X.length + n + M.length + t) : swl (srl X A M B Y t) a b = srl X A M B Y (t + 1) := by
  unfold srl
  have hA : t < A.length := by omega
  have hB : t < B.length := by omega
  rw [List.drop_eq_getElem_cons hA, List.drop_eq_getElem_cons hB, List.take_succ_eq_append_getElem hA, List.take_succ_eq_append_getElem hB]
  have := swl_at (X ++ B.take t) (A.drop (t + 1) ++ M ++ A.take t) (B.drop (t + 1) ++ Y) A[t] B[t] a b (by simp; omega) (by simp; omega)
  simp only [List.append_assoc, List.cons_append, List.nil_append] at this ⊢
  exact this
/-- One element on its way up a row: t steps are done. -/
def mvl (P R : List α) (x : α) (Z : List α) (t : Nat) : List α := P ++ (R.take t ++ x :: R.drop t) ++ Z
theorem mvl_up (P R : List α) (x : α) (Z : List α) {t i j : Nat} (ht : t < R.length) (ei : i = P.length + t) (ej : j = P.length + t + 1) : swl (mvl P R x Z t) i j = mvl P R x Z (t + 1) := by
  unfold mvl
  rw [List.drop_eq_getElem_cons ht, List.take_succ_eq_append_getElem ht]
  have := swl_at (P ++ R.take t) [] (R.drop (t + 1) ++ Z) x R[t] i j (by simp; omega) (by simp; omega)
  simp only [List.append_assoc, List.cons_append, List.nil_append] at this ⊢
  exact this
theorem mvl_down (P R : List α) (x : α) (Z : List α) {t i j : Nat} (ht : t < R.length) (ei : i = P.length + t + 1) (ej : j = P.length + t) : swl (mvl P R x Z (t + 1)) i j = mvl P R x Z t := by
  unfold mvl
  rw [List.drop_eq_getElem_cons ht, List.take_succ_eq_append_getElem ht]
  have := swl_back (P ++ R.take t) [] (R.drop (t + 1) ++ Z) R[t] x j i (by simp; omega) (by simp; omega)
  simp only [List.append_assoc, List.cons_append, List.nil_append] at this ⊢
  exact this

/-! ### What the symmetric merge finds -/
theorem ris_get {lt : α → α → Bool} (hS : SWO lt) {l : List α} (h : Ris lt l) {i j : Nat} (hij : i ≤ j) (hj : j < l.length) : lt l[j]! l[i]! = false := by
  rw [getElem!_pos l j hj, getElem!_pos l i (by omega)]
  rcases Nat.lt_or_eq_of_le hij with h1 | rfl
  · exact List.pairwise_iff_getElem.1 h i j (by omega) hj h1
  · exact hS.irrefl _
theorem get_left (P L Z : List α) {i : Nat} (h : i < L.length) : (P ++ L ++ Z)[P.length + i]! = L[i]! := by
  rw [getElem!_pos (P ++ L ++ Z) _ (by simp; omega), getElem!_pos L _ h, List.getElem_append_left (by simp; omega), List.getElem_append_right (by omega)]
  simp
theorem get_right (P L R Z : List α) {i : Nat} (h : i < R.length) : (P ++ L ++ R ++ Z)[P.length + L.length + i]! = R[i]! := by
  have := get_left (P ++ L) R Z h
  rwa [List.length_append] at this
/-- The place where the two rows are cut. -/
structure Cut (lt : α → α → Bool) (L R : List α) (s e : Nat) : Prop where
  ls : s ≤ L.length
  le : e ≤ R.length
  up : ∀ i j, s ≤ i → i < L.length → j < e → lt R[j]! L[i]! = true
  lo : ∀ i j, i < s → e ≤ j → j < R.length → lt R[j]! L[i]! = false
theorem Cut.merge {lt : α → α → Bool} {L R : List α} {s e : Nat} (h : Cut lt L R s e) : mrg lt L R = mrg lt (L.take s) (R.take e) ++ mrg lt (L.drop s) (R.drop e) := by
  have := merge_split (lt := lt) (L.take s) (L.drop s) (R.take e) (R.drop e) (fun l hl r hr => by
    obtain ⟨i, hi, rfl⟩ := List.getElem_of_mem hl
    obtain ⟨j, hj, rfl⟩ := List.getElem_of_mem hr
    rw [List.getElem_drop, List.getElem_take]
    simp at hi hj
    have := h.up (s + i) j (by omega) (by omega) (by omega)
    rwa [getElem!_pos R _ (by omega), getElem!_pos L _ (by omega)] at this) (fun l hl r hr => by
    obtain ⟨i, hi, rfl⟩ := List.getElem_of_mem hl
    obtain ⟨j, hj, rfl⟩ := List.getElem_of_mem hr
    rw [List.getElem_drop, List.getElem_take]
    simp at hi hj
    have := h.lo i (e + j) (by omega) (by omega) (by omega)
    rwa [getElem!_pos R _ (by omega), getElem!_pos L _ (by omega)] at this)
  rwa [List.take_append_drop, List.take_append_drop] at this
/-- What the search of the symmetric merge comes to is a cut: s + e is K; the search ran over [s0, r0]. -/
theorem cut_of {lt : α → α → Bool} (hS : SWO lt) {L R : List α} (hL : Ris lt L) (hR : Ris lt R) {s e s0 r0 : Nat} (hs0 : s0 ≤ s) (hr0 : s ≤ r0) (hr : r0 ≤ L.length) (he : e ≤ R.length)
    (h0 : s = s0 → s0 = 0 ∨ e = R.length) (h1 : s = r0 → r0 = L.length ∨ e = 0)
    (hlo : s0 < s → lt R[e]! L[s - 1]! = false) (hup : s < r0 → 0 < e ∧ lt R[e - 1]! L[s]! = true) : Cut lt L R s e where
  ls := by omega
  le := he
  up i j h2 h3 h4 := by
    have hlt : s < r0 := by
      rcases Nat.lt_or_ge s r0 with h | h
      · exact h
      · rcases h1 (by omega) with h5 | h5 <;> omega
    obtain ⟨h5, h6⟩ := hup hlt
    have h7 := ris_get hS hL h2 h3
    have h8 := ris_get hS hR (show j ≤ e - 1 by omega) (by omega)
    rcases h9 : lt R[j]! L[i]! with _ | _
    · have h10 := hS.ntrans _ _ _ h8 (hS.ntrans _ _ _ h9 h7)
      rw [h6] at h10; cases h10
    · rfl
  lo i j h2 h3 h4 := by
    have hlt : s0 < s := by
      rcases Nat.lt_or_ge s0 s with h | h
      · exact h
      · rcases h0 (by omega) with h5 | h5 <;> omega
    have h6 := hlo hlt
    have h7 := ris_get hS hL (show i ≤ s - 1 by omega) (by omega)
    have h8 := ris_get hS hR h3 h4
    exact hS.ntrans _ _ _ h8 (hS.ntrans _ _ _ h6 h7)
omit [Inhabited α] in
theorem Ris.take {lt : α → α → Bool} {l : List α} (h : Ris lt l) (k : Nat) : Ris lt (l.take k) := List.Pairwise.sublist (List.take_sublist _ _) h
omit [Inhabited α] in
theorem Ris.drop {lt : α → α → Bool} {l : List α} (h : Ris lt l) (k : Nat) : Ris lt (l.drop k) := List.Pairwise.sublist (List.drop_sublist _ _) h
end St
end Go.Proofs.YtnibkniggiokkaaDoor

namespace Go.Proofs.YtnibkniggiokkaaDoor
open Go.Sort
namespace St
variable {α : Type}

theorem Stab.refl_ {lt : α → α → Bool} {l : List α} (h : Ris lt l) : Stab lt l l := ⟨rfl, h, fun _ => rfl⟩
theorem Stab.nil_ (lt : α → α → Bool) : Stab lt ([] : List α) [] := ⟨rfl, List.Pairwise.nil, fun _ => rfl⟩
theorem cls_two {lt : α → α → Bool} (hS : SWO lt) (z x y : α) (h : lt y x = true) (Y : List α) : cls lt z (x :: y :: Y) = cls lt z (y :: x :: Y) := by
  unfold cls
  simp only [List.filter_cons]
  by_cases hx : (!lt z x && !lt x z) = true <;> by_cases hy : (!lt z y && !lt y z) = true
  · exfalso
    have h1 : lt z x = false ∧ lt x z = false := by simpa using hx
    have h2 : lt z y = false ∧ lt y z = false := by simpa using hy
    have := hS.ntrans _ _ _ h2.2 h1.1
    rw [h] at this; cases this
  all_goals simp [hx, hy]

variable [Inhabited α]
theorem two_at (l : List α) (j : Nat) (h : j + 1 < l.length) : l = l.take j ++ l[j]! :: (l[j + 1]! :: l.drop (j + 2)) := by
  conv => lhs; rw [← List.take_append_drop j l, List.drop_eq_getElem_cons (show j < l.length by omega), List.drop_eq_getElem_cons h]
  rw [getElem!_pos l j (by omega), getElem!_pos l (j + 1) h]
theorem cls_swp {lt : α → α → Bool} (hS : SWO lt) (z : α) (d : Array α) (j : Nat) (h : j + 1 < d.size) (hlt : lt d[j + 1]! d[j]! = true) : cls lt z (swp d (j + 1) j).toList = cls lt z d.toList := by
  obtain ⟨l⟩ := d
  rw [swp_list]
  have h' : j + 1 < l.length := h
  have e1 : (Array.mk l)[j + 1]! = l[j + 1]! := by simp
  have e2 : (Array.mk l)[j]! = l[j]! := by simp
  rw [e1, e2] at hlt
  have e := two_at l j h'
  have e3 : swl l (j + 1) j = l.take j ++ l[j + 1]! :: ([] ++ l[j]! :: l.drop (j + 2)) := by
    conv => lhs; rw [e]
    exact swl_back (l.take j) [] (l.drop (j + 2)) l[j]! l[j + 1]! j (j + 1) (by simp; omega) (by simp; omega)
  show cls lt z (swl l (j + 1) j) = cls lt z l
  rw [e3]
  conv => rhs; rw [e]
  rw [cls_app, cls_app, List.nil_append, cls_two hS z _ _ hlt]
theorem insInner_size (lt : α → α → Bool) (a : Nat) : ∀ (j : Nat) (d : Array α), (insInner lt a j d).size = d.size
  | 0, d => rfl
  | j + 1, d => by
    rw [insInner]
    split
    · rw [insInner_size, swp_size]
    · rfl
theorem cls_insInner {lt : α → α → Bool} (hS : SWO lt) (z : α) (a : Nat) : ∀ (j : Nat) (d : Array α), j < d.size → cls lt z (insInner lt a j d).toList = cls lt z d.toList
  | 0, d, _ => rfl
  | j + 1, d, h => by
    rw [insInner]
    split
    · rename_i hc
      simp only [Bool.and_eq_true, decide_eq_true_eq] at hc
      rw [cls_insInner hS z a j _ (by rw [swp_size]; omega), cls_swp hS z d j h hc.2]
    · rfl
theorem cls_insOuter {lt : α → α → Bool} (hS : SWO lt) (z : α) (a b : Nat) : ∀ (n i : Nat) (d : Array α), b - i = n → b ≤ d.size → cls lt z (insOuter lt a b i d).toList = cls lt z d.toList
  | 0, i, d, hn, hb => by rw [insOuter, if_neg (by omega)]
  | n + 1, i, d, hn, hb => by
    rw [insOuter, if_pos (by omega), cls_insOuter hS z a b n (i + 1) _ (by omega) (by rw [insInner_size]; exact hb), cls_insInner hS z a i d (by omega)]
/-- Insertion, as the library does it. -/
theorem ins_stab {lt : α → α → Bool} (hS : SWO lt) (P S Q : List α) : ∃ S', insertionSort lt (P ++ S ++ Q).toArray P.length (P.length + S.length) = (P ++ S' ++ Q).toArray ∧ Stab lt S S' := by
  obtain ⟨d, hd⟩ : ∃ d, d = insertionSort lt (P ++ S ++ Q).toArray P.length (P.length + S.length) := ⟨_, rfl⟩
  have h := insertionSort_holds (lt := lt) hS (P ++ S ++ Q).toArray P.length (P.length + S.length) (by omega) (by simp)
  have hc := fun z => cls_insOuter hS z P.length (P.length + S.length) _ (P.length + 1) (P ++ S ++ Q).toArray rfl (by simp)
  have hc2 : ∀ z, cls lt z d.toList = cls lt z (P ++ S ++ Q) := fun z => by rw [hd]; exact hc z
  rw [← hd] at h ⊢
  obtain ⟨⟨hsz, hout, hperm⟩, hso⟩ := h
  obtain ⟨l⟩ := d
  have hsz' : l.length = P.length + S.length + Q.length := by simpa [Nat.add_assoc] using hsz
  have hg : ∀ i (hi : i < l.length), (Array.mk l)[i]! = l[i] := fun i hi => by simp [getElem!_pos, hi]
  have hg2 : ∀ i (hi : i < (P ++ S ++ Q).length), (P ++ S ++ Q).toArray[i]! = (P ++ S ++ Q)[i] := fun i hi => by
    rw [getElem!_pos _ i (by simpa using hi)]; simp
  have hP : l.take P.length = P := by
    refine List.ext_getElem (by simp; omega) fun i h1 h2 => ?_
    have h3 := hout i (Or.inl h2)
    rw [hg i (by omega), hg2 i (by simp; omega)] at h3
    rw [List.getElem_take, h3, List.getElem_append_left (by simp; omega), List.getElem_append_left h2]
  have hQ : l.drop (P.length + S.length) = Q := by
    refine List.ext_getElem (by simp; omega) fun i h1 h2 => ?_
    have h3 := hout (P.length + S.length + i) (Or.inr (by omega))
    rw [hg _ (by omega), hg2 _ (by simp; omega)] at h3
    rw [List.getElem_drop, h3, List.getElem_append_right (by simp)]
    simp
  obtain ⟨S', hS'⟩ : ∃ S', S' = (l.drop P.length).take S.length := ⟨_, rfl⟩
  have hlen : S'.length = S.length := by rw [hS']; simp; omega
  have hl : l = P ++ S' ++ Q := by
    rw [hS']
    conv => lhs; rw [← List.take_append_drop P.length l, hP, ← List.take_append_drop S.length (l.drop P.length), List.drop_drop, hQ]
    rw [List.append_assoc]
  refine ⟨S', by rw [hl], hlen, ?_, fun x => ?_⟩
  · rw [Ris, List.pairwise_iff_getElem]
    intro i j hi hj hij
    have h3 := hso (P.length + i) (P.length + j) (by omega) (by omega) (by omega)
    rw [hg _ (by omega), hg _ (by omega)] at h3
    have key : ∀ k (hk : k < S'.length), l[P.length + k]'(by omega) = S'[k] := fun k hk => by
      simp only [hl]
      rw [List.getElem_append_left (by simp; omega), List.getElem_append_right (by omega)]
      simp
    rwa [key _ hj, key _ hi] at h3
  · have h4 := hc2 x
    rw [show (Array.mk l).toList = P ++ S' ++ Q from hl, cls_app, cls_app, cls_app, cls_app] at h4
    exact List.append_cancel_left (List.append_cancel_right h4)

/-! ### Blocks -/
def chunk (s q : Nat) (l : List α) : List α := (l.drop (s * q)).take s
omit [Inhabited α] in
theorem chunk_out {s q : Nat} {l : List α} (h : l.length ≤ s * q) : chunk s q l = [] := by unfold chunk; rw [List.drop_of_length_le h, List.take_nil]
omit [Inhabited α] in
theorem chunk_two (s q : Nat) (l : List α) : chunk (2 * s) q l = chunk s (2 * q) l ++ chunk s (2 * q + 1) l := by
  unfold chunk
  have e1 : 2 * s * q = s * (2 * q) := by rw [Nat.mul_comm 2 s, Nat.mul_assoc]
  have e2 : s * (2 * q + 1) = s * (2 * q) + s := by rw [Nat.mul_add, Nat.mul_one]
  rw [e1, e2, Nat.two_mul s, List.take_add, List.drop_drop]
omit [Inhabited α] in
/-- A part in the middle is put into another's place: blocks ahead of it, and behind it, stay. -/
theorem chunk_ahead (s t : Nat) (P S S' Q : List α) (h : s * t + s ≤ P.length) : chunk s t (P ++ S' ++ Q) = chunk s t (P ++ S ++ Q) := by
  unfold chunk
  rw [List.append_assoc, List.append_assoc, List.drop_append_of_le_length (by omega), List.drop_append_of_le_length (by omega), List.take_append_of_le_length (by rw [List.length_drop]; omega), List.take_append_of_le_length (by rw [List.length_drop]; omega)]
omit [Inhabited α] in
theorem chunk_behind (s t : Nat) (P S S' Q : List α) (hl : S'.length = S.length) (h : P.length + S.length ≤ s * t) : chunk s t (P ++ S' ++ Q) = chunk s t (P ++ S ++ Q) := by
  unfold chunk
  have e : ∀ Z : List α, Z.length = S.length → (P ++ Z ++ Q).drop (s * t) = Q.drop (s * t - (P.length + S.length)) := fun Z hz => by
    rw [List.drop_append, List.drop_of_length_le (by simp; omega), List.nil_append, List.length_append, hz]
  rw [e S' hl, e S rfl]
omit [Inhabited α] in
theorem chunk_at (s t : Nat) (P S Q : List α) (hP : P.length = s * t) (hS : S.length = s ∨ S.length ≤ s ∧ Q = []) : chunk s t (P ++ S ++ Q) = S := by
  unfold chunk
  rw [List.append_assoc, ← hP, List.drop_left]
  rcases hS with h | ⟨h, rfl⟩
  · rw [← h, List.take_left]
  · rw [List.append_nil, List.take_of_length_le h]
/-- q blocks are sorted, the rest is as it came. -/
structure Blk1 (lt : α → α → Bool) (s q : Nat) (l d : List α) : Prop where
  len : d.length = l.length
  done : ∀ t, t < q → Stab lt (chunk s t l) (chunk s t d)
  rest : d.drop (s * q) = l.drop (s * q)
omit [Inhabited α] in
theorem Blk1.start (lt : α → α → Bool) (s : Nat) (l : List α) : Blk1 lt s 0 l l := ⟨rfl, fun t h => by omega, rfl⟩
omit [Inhabited α] in
theorem Blk1.step {lt : α → α → Bool} {s q : Nat} {l P S S' Q : List α} (h : Blk1 lt s q l (P ++ S ++ Q)) (hP : P.length = s * q) (hS : S.length = s ∨ S.length ≤ s ∧ Q = []) (h1 : Stab lt S S') : Blk1 lt s (q + 1) l (P ++ S' ++ Q) := by
  have hlen := h.len
  have hk := h1.len
  have hS' : S'.length = s ∨ S'.length ≤ s ∧ Q = [] := by rw [hk]; exact hS
  have hrest := h.rest
  refine ⟨by rw [← hlen]; simp [hk], fun t ht => ?_, ?_⟩
  · rcases Nat.lt_or_eq_of_le (Nat.lt_succ_iff.1 ht) with h2 | rfl
    · have h3 : s * t + s ≤ s * q := by rw [← Nat.mul_succ]; exact Nat.mul_le_mul_left _ h2
      rw [chunk_ahead s t P S S' Q (by omega)]
      exact h.done t h2
    · rw [chunk_at s t P S' Q hP hS']
      have h4 : chunk s t l = S := by
        have := chunk_at s t P S Q hP hS
        unfold chunk at this ⊢
        rwa [hrest] at this
      rw [h4]; exact h1
  · have e : s * (q + 1) = s * q + s := Nat.mul_succ ..
    rw [e]
    have h5 : l.drop (s * q + s) = (l.drop (s * q)).drop s := by rw [List.drop_drop]
    rw [h5, ← hrest, ← hP, List.append_assoc, List.append_assoc, List.drop_left, ← List.drop_drop, List.drop_left]
    rcases hS with h6 | ⟨h6, rfl⟩
    · rw [show s = S'.length by omega, List.drop_left, show S'.length = S.length by omega, List.drop_left]
    · rw [List.append_nil, List.append_nil, List.drop_of_length_le (by omega), List.drop_of_length_le (by omega)]
/-- q pairs of blocks are merged. -/
structure Blk2 (lt : α → α → Bool) (s q : Nat) (l d : List α) : Prop where
  len : d.length = l.length
  done : ∀ t, t < q → Stab lt (chunk (2 * s) t l) (chunk (2 * s) t d)
  rest : ∀ t, 2 * q ≤ t → Stab lt (chunk s t l) (chunk s t d)
omit [Inhabited α] in
theorem Blk1.end_ {lt : α → α → Bool} {s q : Nat} {l d : List α} (h : Blk1 lt s q l d) (hn : l.length ≤ s * q) : Blk2 lt s 0 l d :=
  ⟨h.len, fun t ht => by omega, fun t _ => by
    rcases Nat.lt_or_ge t q with h1 | h1
    · exact h.done t h1
    · have h2 : s * q ≤ s * t := Nat.mul_le_mul_left _ h1
      rw [chunk_out (by omega), chunk_out (by rw [h.len]; omega)]
      exact Stab.nil_ lt⟩
omit [Inhabited α] in
theorem Blk2.rows {lt : α → α → Bool} {s q : Nat} {l P L R Q : List α} (h : Blk2 lt s q l (P ++ L ++ R ++ Q)) (hP : P.length = 2 * s * q) (hL : L.length = s) (hR : R.length = s ∨ R.length ≤ s ∧ Q = []) : Ris lt L ∧ Ris lt R := by
  have e1 : P.length = s * (2 * q) := by rw [hP, Nat.mul_comm 2 s, Nat.mul_assoc]
  have h1 := (h.rest (2 * q) (Nat.le_refl _)).ris
  have h2 := (h.rest (2 * q + 1) (by omega)).ris
  rw [show P ++ L ++ R ++ Q = P ++ L ++ (R ++ Q) by simp, chunk_at s (2 * q) P L (R ++ Q) e1 (Or.inl hL)] at h1
  rw [chunk_at s (2 * q + 1) (P ++ L) R Q (by rw [List.length_append, e1, hL, Nat.mul_succ]) hR] at h2
  exact ⟨h1, h2⟩
omit [Inhabited α] in
theorem Blk2.step {lt : α → α → Bool} (hS : SWO lt) {s q : Nat} {l P L R Q : List α} (h : Blk2 lt s q l (P ++ L ++ R ++ Q)) (hP : P.length = 2 * s * q) (hL : L.length = s) (hR : R.length = s ∨ R.length ≤ s ∧ Q = []) : Blk2 lt s (q + 1) l (P ++ mrg lt L R ++ Q) := by
  have e1 : P.length = s * (2 * q) := by rw [hP, Nat.mul_comm 2 s, Nat.mul_assoc]
  have hm : (mrg lt L R).length = (L ++ R).length := by rw [List.length_merge, List.length_append]
  have hlen := h.len
  have h1 := h.rest (2 * q) (Nat.le_refl _)
  have h2 := h.rest (2 * q + 1) (by omega)
  rw [show P ++ L ++ R ++ Q = P ++ L ++ (R ++ Q) by simp, chunk_at s (2 * q) P L (R ++ Q) e1 (Or.inl hL)] at h1
  rw [chunk_at s (2 * q + 1) (P ++ L) R Q (by rw [List.length_append, e1, hL, Nat.mul_succ]) hR] at h2
  have e4 : P ++ L ++ R ++ Q = P ++ (L ++ R) ++ Q := by simp
  rw [e4] at h hlen
  have hW : (mrg lt L R).length = 2 * s ∨ (mrg lt L R).length ≤ 2 * s ∧ Q = [] := by
    rw [hm, List.length_append]
    rcases hR with h3 | ⟨h3, h4⟩
    · left; omega
    · right; exact ⟨by omega, h4⟩
  refine ⟨by rw [← hlen, List.length_append, List.length_append, List.length_append, List.length_append, hm], fun t ht => ?_, fun t ht => ?_⟩
  · rcases Nat.lt_or_eq_of_le (Nat.lt_succ_iff.1 ht) with h3 | rfl
    · have h5 : 2 * s * t + 2 * s ≤ 2 * s * q := by rw [← Nat.mul_succ]; exact Nat.mul_le_mul_left _ h3
      rw [chunk_ahead (2 * s) t P (L ++ R) (mrg lt L R) Q (by omega)]
      exact h.done t h3
    · rw [chunk_at (2 * s) t P _ Q hP hW, chunk_two]
      exact h1.merge hS h2
  · have h5 : s * (2 * q) + 2 * s ≤ s * t := by
      have := Nat.mul_le_mul_left s ht
      rw [show 2 * (q + 1) = 2 * q + 2 by omega, Nat.mul_add] at this
      omega
    rcases hR with h3 | ⟨h3, rfl⟩
    · rw [chunk_behind s t P (L ++ R) (mrg lt L R) Q hm (by rw [List.length_append]; omega)]
      exact h.rest t (by omega)
    · have hlen' : P.length + (L ++ R).length = l.length := by rw [← hlen]; simp
      rw [List.length_append] at hlen'
      rw [chunk_out (by omega), chunk_out (by simp [hm]; omega)]
      exact Stab.nil_ lt
omit [Inhabited α] in
theorem Blk2.end_ {lt : α → α → Bool} {s q : Nat} {l d : List α} (h : Blk2 lt s q l d) (hn : l.length ≤ 2 * s * q + s) : Blk2 lt (2 * s) 0 l d :=
  ⟨h.len, fun t ht => by omega, fun t _ => by
    rcases Nat.lt_or_ge t q with h1 | h1
    · exact h.done t h1
    · have h2 : 2 * s * q ≤ 2 * s * t := Nat.mul_le_mul_left _ h1
      have e1 : 2 * s * t = s * (2 * t) := by rw [Nat.mul_comm 2 s, Nat.mul_assoc]
      have e2 : s * (2 * t + 1) = s * (2 * t) + s := Nat.mul_succ ..
      rw [chunk_two, chunk_two, chunk_out (q := 2 * t + 1) (by omega), chunk_out (q := 2 * t + 1) (l := d) (by rw [h.len]; omega), List.append_nil, List.append_nil]
      exact h.rest (2 * t) (by omega)⟩
omit [Inhabited α] in
theorem Blk2.whole {lt : α → α → Bool} {s : Nat} {l d : List α} (h : Blk2 lt s 0 l d) (hn : l.length ≤ s) : Stab lt l d := by
  have h1 := h.rest 0 (by omega)
  unfold chunk at h1
  rw [Nat.mul_zero, List.drop_zero, List.drop_zero, List.take_of_length_le hn, List.take_of_length_le (by rw [h.len]; exact hn)] at h1
  exact h1
end St
end Go.Proofs.YtnibkniggiokkaaDoor

namespace Go.Proofs.YtnibkniggiokkaaDoor
open Go.Sort

/-- Does a stamp stand ahead of another? -/
def stLt (a b : Vc.St) : Bool := decide (a.1 < b.1) || (decide (a.1 = b.1) && decide (a.2 < b.2))
theorem stLt_irrefl (a : Vc.St) : stLt a a = false := by simp [stLt]
theorem stLt_eq {a b : Vc.St} (h1 : stLt a b = false) (h2 : stLt b a = false) : a = b := by
  simp only [stLt, Bool.or_eq_false_iff, Bool.and_eq_false_iff, decide_eq_false_iff_not] at h1 h2
  obtain ⟨a1, a2⟩ := a
  obtain ⟨b1, b2⟩ := b
  simp only at h1 h2
  have e1 : a1 = b1 := by omega
  subst e1
  have e2 : a2 = b2 := by omega
  rw [e2]
/-- The order of the sort: by object, the newer first. -/
def wLt (a b : Wr) : Bool := decide (a.2.1 < b.2.1) || (decide (a.2.1 = b.2.1) && stLt b.1 a.1)
theorem wLt_swo : SWO wLt where
  irrefl x := by simp [wLt, stLt_irrefl]
  trans x y z h1 h2 := by
    simp only [wLt, stLt, Bool.or_eq_true, Bool.and_eq_true, decide_eq_true_eq] at *
    omega
  ntrans x y z h1 h2 := by
    simp only [wLt, stLt, Bool.or_eq_false_iff, Bool.and_eq_false_iff, decide_eq_false_iff_not] at *
    omega
theorem wLt_cls {z u : Wr} : (!wLt z u && !wLt u z) = (decide (u.2.1 = z.2.1) && decide (u.1 = z.1)) := by
  by_cases h : u.2.1 = z.2.1
  · by_cases h2 : u.1 = z.1
    · simp [wLt, h, h2, stLt_irrefl]
    · have : (stLt u.1 z.1 || stLt z.1 u.1) = true := by
        rcases h3 : stLt u.1 z.1 with _ | _
        · rcases h4 : stLt z.1 u.1 with _ | _
          · exact absurd (stLt_eq h3 h4) h2
          · rfl
        · rfl
      simp only [wLt, h, decide_true, Bool.true_and, Int.lt_irrefl, decide_false, Bool.false_or, h2, Bool.and_false]
      rw [Bool.eq_false_iff]
      intro hc
      simp only [Bool.and_eq_true, Bool.not_eq_true'] at hc
      rw [hc.1, hc.2] at this; cases this
  · simp only [wLt, h, show ¬ z.2.1 = u.2.1 from fun e => h e.symm, decide_false, Bool.false_and, Bool.or_false]
    rw [Bool.eq_false_iff]
    intro hc
    simp only [Bool.and_eq_true, Bool.not_eq_true', decide_eq_false_iff_not] at hc
    omega
/-- The writes of one object: the newer first; of two alike the first note's. -/
def grp (p q : Option Wr) : List Wr :=
  match p, q with
  | some v, some w => if stLt v.1 w.1 = true then [w, v] else [v, w]
  | some v, none => [v]
  | none, some w => [w]
  | none, none => []
theorem atO_obj {l : List Wr} {o : Int} {w : Wr} (h : atO l o = some w) : w ∈ l ∧ w.2.1 = o :=
  ⟨List.mem_of_find?_eq_some h, by have := List.find?_some h; simpa using this⟩
theorem grp_obj {a b : List Wr} {o : Int} {w : Wr} (h : w ∈ grp (atO a o) (atO b o)) : w.2.1 = o := by
  rcases ha : atO a o with _ | v <;> rcases hb : atO b o with _ | u <;> rw [ha, hb] at h <;> simp only [grp] at h
  · cases h
  · rw [List.mem_singleton] at h; rw [h]; exact (atO_obj hb).2
  · rw [List.mem_singleton] at h; rw [h]; exact (atO_obj ha).2
  · have h1 := (atO_obj ha).2
    have h2 := (atO_obj hb).2
    split at h <;> simp only [List.mem_cons, List.not_mem_nil, or_false] at h <;> rcases h with rfl | rfl <;> assumption
theorem grp_ris (a b : List Wr) (o : Int) : St.Ris wLt (grp (atO a o) (atO b o)) := by
  rcases ha : atO a o with _ | v <;> rcases hb : atO b o with _ | u <;> simp only [grp]
  · exact List.Pairwise.nil
  · simp [St.Ris]
  · simp [St.Ris]
  · have h1 := (atO_obj ha).2
    have h2 := (atO_obj hb).2
    split
    · rename_i h
      have : wLt v u = false := by
        rcases h3 : wLt v u with _ | _
        · rfl
        · have h4 : wLt u v = true := by unfold wLt; rw [h1, h2, h]; simp
          have := wLt_swo.trans _ _ _ h3 h4
          rw [wLt_swo.irrefl] at this; cases this
      simp [St.Ris, this]
    · rename_i h
      have : wLt u v = false := by unfold wLt; rw [h1, h2]; simpa using h
      simp [St.Ris, this]
/-- All writes that are kept, by objects. -/
def grps (k : Int → Bool) (a b : List Wr) (os : List Int) : List Wr := os.flatMap fun o => if k o = true then grp (atO a o) (atO b o) else []
theorem grps_obj {k : Int → Bool} {a b : List Wr} {os : List Int} {w : Wr} (h : w ∈ grps k a b os) : w.2.1 ∈ os ∧ k w.2.1 = true := by
  unfold grps at h
  obtain ⟨o, ho, hw⟩ := List.mem_flatMap.1 h
  split at hw
  · rename_i hk
    rw [grp_obj hw]; exact ⟨ho, hk⟩
  · cases hw
theorem grps_ris (k : Int → Bool) (a b : List Wr) : ∀ {os : List Int}, os.Pairwise (· < ·) → St.Ris wLt (grps k a b os)
  | [], _ => List.Pairwise.nil
  | o :: os, h => by
    have h' := List.pairwise_cons.1 h
    have e : grps k a b (o :: os) = (if k o = true then grp (atO a o) (atO b o) else []) ++ grps k a b os := rfl
    rw [e]
    refine List.pairwise_append.2 ⟨?_, grps_ris k a b h'.2, fun x hx y hy => ?_⟩
    · split
      · exact grp_ris a b o
      · exact List.Pairwise.nil
    · split at hx
      · have h1 := grp_obj hx
        have h2 := h'.1 _ (grps_obj hy).1
        unfold wLt
        simp only [Bool.or_eq_false_iff, Bool.and_eq_false_iff, decide_eq_false_iff_not]
        omega
      · cases hx
/-- Those of a class in a list of rising objects. -/
theorem cls_rise {last : Int} {l : List Wr} (h : rise last l = true) (z : Wr) : St.cls wLt z l = match atO l z.2.1 with
    | some w => if w.1 = z.1 then [w] else []
    | none => [] := by
  unfold St.cls atO
  simp only [wLt_cls]
  induction l generalizing last with
  | nil => rfl
  | cons x r ih =>
    rw [rise, Bool.and_eq_true] at h
    rw [List.filter_cons, List.find?_cons]
    by_cases hx : x.2.1 = z.2.1
    · have hr : r.filter (fun u => decide (u.2.1 = z.2.1) && decide (u.1 = z.1)) = [] := by
        rw [List.filter_eq_nil_iff]
        intro u hu hc
        simp only [Bool.and_eq_true, decide_eq_true_eq] at hc
        have := rise_gt _ r h.2 u hu
        omega
      rw [hr]
      by_cases h2 : x.1 = z.1 <;> simp [hx, h2]
    · simp only [hx, decide_false, Bool.false_and]
      exact ih h.2
theorem cls_grp {last last' : Int} {a b : List Wr} (ha : rise last a = true) (hb : rise last' b = true) (z : Wr) : St.cls wLt z (grp (atO a z.2.1) (atO b z.2.1)) = St.cls wLt z a ++ St.cls wLt z b := by
  rw [cls_rise ha, cls_rise hb]
  rcases h1 : atO a z.2.1 with _ | v <;> rcases h2 : atO b z.2.1 with _ | u
  · rfl
  · have hu := (atO_obj h2).2
    simp only [grp, St.cls, List.filter_cons, wLt_cls, hu, decide_true, Bool.true_and, List.filter_nil, List.nil_append]
    by_cases h : u.1 = z.1 <;> simp [h]
  · have hv := (atO_obj h1).2
    simp only [grp, St.cls, List.filter_cons, wLt_cls, hv, decide_true, Bool.true_and, List.filter_nil, List.append_nil]
    by_cases h : v.1 = z.1 <;> simp [h]
  · have hu := (atO_obj h2).2
    have hv := (atO_obj h1).2
    simp only [grp]
    split
    · rename_i hlt
      simp only [St.cls, List.filter_cons, wLt_cls, hu, hv, decide_true, Bool.true_and, List.filter_nil]
      by_cases h3 : u.1 = z.1
      · have h4 : ¬ v.1 = z.1 := fun e => by rw [h3, e, stLt_irrefl] at hlt; cases hlt
        simp [h3, h4]
      · by_cases h4 : v.1 = z.1 <;> simp [h3, h4]
    · simp only [St.cls, List.filter_cons, wLt_cls, hu, hv, decide_true, Bool.true_and, List.filter_nil]
      by_cases h3 : u.1 = z.1 <;> by_cases h4 : v.1 = z.1 <;> simp [h3, h4]
theorem cls_other {z : Wr} {l : List Wr} (h : ∀ w ∈ l, w.2.1 ≠ z.2.1) : St.cls wLt z l = [] := by
  unfold St.cls
  rw [List.filter_eq_nil_iff]
  intro u hu hc
  rw [wLt_cls] at hc
  simp only [Bool.and_eq_true, decide_eq_true_eq] at hc
  exact h u hu hc.1
theorem cls_grps {last last' : Int} {a b : List Wr} (ha : rise last a = true) (hb : rise last' b = true) (k : Int → Bool) (z : Wr) : ∀ {os : List Int}, os.Pairwise (· < ·) →
    St.cls wLt z (grps k a b os) = if z.2.1 ∈ os ∧ k z.2.1 = true then St.cls wLt z a ++ St.cls wLt z b else []
  | [], _ => by simp [grps, St.cls]
  | o :: os, h => by
    have h' := List.pairwise_cons.1 h
    have e : grps k a b (o :: os) = (if k o = true then grp (atO a o) (atO b o) else []) ++ grps k a b os := rfl
    rw [e, St.cls_app, cls_grps ha hb k z h'.2]
    by_cases ho : z.2.1 = o
    · subst ho
      have hn : ¬ z.2.1 ∈ os := fun hm => by have := h'.1 _ hm; omega
      rw [if_neg (show ¬ (z.2.1 ∈ os ∧ k z.2.1 = true) from fun hc => hn hc.1)]
      by_cases hk : k z.2.1 = true
      · rw [if_pos hk, if_pos ⟨List.mem_cons_self .., hk⟩, cls_grp ha hb, List.append_nil]
      · rw [if_neg hk, if_neg (show ¬ (z.2.1 ∈ z.2.1 :: os ∧ k z.2.1 = true) from fun hc => hk hc.2)]; rfl
    · have h1 : St.cls wLt z (if k o = true then grp (atO a o) (atO b o) else []) = [] := by
        refine cls_other fun w hw => ?_
        split at hw
        · rw [grp_obj hw]; exact fun e => ho e.symm
        · cases hw
      rw [h1, List.nil_append]
      simp only [List.mem_cons, ho, false_or]
/-- Objects 0 to 255. -/
def objs256 : List Int := List.map (fun n : Nat => (n : Int)) (List.range 256)
theorem objs256_mem (o : Int) : o ∈ objs256 ↔ 0 ≤ o ∧ o ≤ 255 := by
  unfold objs256
  simp only [List.mem_map, List.mem_range]
  constructor
  · rintro ⟨n, hn, rfl⟩; omega
  · rintro ⟨h1, h2⟩; exact ⟨o.toNat, by omega, by omega⟩
theorem objs256_lt : objs256.Pairwise (· < ·) := by
  unfold objs256
  rw [List.pairwise_map]
  exact List.pairwise_lt_range.imp fun h => by omega
theorem cls_kept (k : Int → Bool) (z : Wr) (l : List Wr) : St.cls wLt z (l.filter fun w => k w.2.1) = if k z.2.1 = true then St.cls wLt z l else [] := by
  unfold St.cls
  rw [List.filter_filter]
  simp only [wLt_cls]
  split
  · rename_i h
    congr 1; funext w
    by_cases hw : w.2.1 = z.2.1
    · rw [hw, h]; simp
    · simp [hw]
  · rename_i h
    rw [List.filter_eq_nil_iff]
    intro u _ hc
    simp only [Bool.and_eq_true, decide_eq_true_eq] at hc
    rw [hc.1.1] at hc; exact h hc.2
/-- The stable sort of what is kept is the list by objects. -/
theorem sorted_is {a b s : List Wr} (ha : rise (-1) a = true) (hb : rise (-1) b = true) (h255 : ∀ w ∈ a ++ b, w.2.1 ≤ 255) (k : Int → Bool) (h : St.Stab wLt ((a ++ b).filter fun w => k w.2.1) s) : s = grps k a b objs256 := by
  refine St.stab_one wLt_swo h.ris (grps_ris k a b objs256_lt) fun z => ?_
  rw [h.cls, cls_grps ha hb k z objs256_lt, cls_kept, St.cls_app]
  by_cases hk : k z.2.1 = true
  · rw [if_pos hk]
    by_cases hm : z.2.1 ∈ objs256
    · rw [if_pos ⟨hm, hk⟩]
    · rw [if_neg (fun hc => hm hc.1), ← St.cls_app]
      refine cls_other fun w hw e => hm ((objs256_mem _).2 ?_)
      have h1 := h255 w hw
      have h2 : -1 < w.2.1 := by
        rcases List.mem_append.1 hw with hw | hw
        · exact rise_gt _ _ ha w hw
        · exact rise_gt _ _ hb w hw
      omega
  · rw [if_neg hk, if_neg (fun hc => hk hc.2)]
/-- The first of each run of one object. -/
def runs1 : Int → List Wr → List Wr
  | _, [] => []
  | o, w :: r => if w.2.1 = o then runs1 w.2.1 r else w :: runs1 w.2.1 r
def firsts : List Wr → List Wr
  | [] => []
  | w :: r => w :: runs1 w.2.1 r
theorem runs1_all {o : Int} : ∀ {g r : List Wr}, (∀ w ∈ g, w.2.1 = o) → runs1 o (g ++ r) = runs1 o r
  | [], r, _ => rfl
  | w :: g, r, h => by
    rw [List.cons_append, runs1, if_pos (h w (List.mem_cons_self ..)), h w (List.mem_cons_self ..)]
    exact runs1_all fun u hu => h u (List.mem_cons_of_mem _ hu)
theorem runs1_new {o : Int} : ∀ {r : List Wr}, (∀ w ∈ r, w.2.1 ≠ o) → runs1 o r = firsts r
  | [], _ => rfl
  | w :: r, h => by rw [runs1, if_neg (h w (List.mem_cons_self ..)), firsts]
/-- The write that is told of an object. -/
def mrgAt (a b : List Wr) (o : Int) : Option Wr := (grp (atO a o) (atO b o)).head?
def mrgW (k : Int → Bool) (a b : List Wr) (os : List Int) : List Wr := os.filterMap fun o => if k o = true then mrgAt a b o else none
theorem firsts_grps (k : Int → Bool) (a b : List Wr) : ∀ {os : List Int}, os.Pairwise (· < ·) → firsts (grps k a b os) = mrgW k a b os
  | [], _ => rfl
  | o :: os, h => by
    have h' := List.pairwise_cons.1 h
    have e : grps k a b (o :: os) = (if k o = true then grp (atO a o) (atO b o) else []) ++ grps k a b os := rfl
    have ih := firsts_grps k a b h'.2
    have hnew : ∀ w ∈ grps k a b os, w.2.1 ≠ o := fun w hw e => by have := h'.1 _ (grps_obj hw).1; omega
    rw [e]
    unfold mrgW mrgAt
    rw [List.filterMap_cons]
    split
    · rename_i hk
      rcases hg : grp (atO a o) (atO b o) with _ | ⟨w, g⟩
      · simp only [List.head?_nil, List.nil_append]
        exact ih
      · have hgo : ∀ u ∈ w :: g, u.2.1 = o := fun u hu => grp_obj (by rw [hg]; exact hu)
        simp only [List.head?_cons, List.cons_append]
        rw [firsts, hgo w (List.mem_cons_self ..), runs1_all fun u hu => hgo u (List.mem_cons_of_mem _ hu), runs1_new hnew, ih]
        rfl
    · simp only [List.nil_append]
      exact ih
/-- The program's list of writes is the document's. -/
theorem merged_is {a b s : List Wr} (ha : rise (-1) a = true) (hb : rise (-1) b = true) (h255 : ∀ w ∈ a ++ b, w.2.1 ≤ 255) (k : Int → Bool) (h : St.Stab wLt ((a ++ b).filter fun w => k w.2.1) s) : firsts s = mrgW k a b objs256 := by
  rw [sorted_is ha hb h255 k h, firsts_grps k a b objs256_lt]
theorem mrgAt_is (a b : List Wr) (o : Int) : mrgAt a b o = match atO a o, atO b o with
    | some v, some w => if stLt v.1 w.1 = true then some w else some v
    | some v, none => some v
    | none, some w => some w
    | none, none => none := by
  unfold mrgAt
  rcases atO a o with _ | v <;> rcases atO b o with _ | w <;> simp only [grp, List.head?_nil, List.head?_cons]
  split <;> rfl
end Go.Proofs.YtnibkniggiokkaaDoor

