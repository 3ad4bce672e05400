/- Plain laws of notes, with no program in sight. -/
import Derived.Test.YtnibkniggiokkaaDoorMVec
import Derived.Test.YtnibkniggiokkaaDoorSp0
namespace Go.Proofs.YtnibkniggiokkaaDoor

/-- A write: its stamp, its object, whether it is gone. -/
abbrev Wr := Vc.St × Int × Bool
/-- A note. -/
structure Nt where
  s : List Vc.St
  e : List Vc.St
  b : List Sn.Sp
  w : List Wr

/-- Is an object in a set? -/
def hasO (l : List Sn.Sp) (o : Int) : Bool := (decide (0 ≤ o) && decide (o ≤ 255)) && Sn.inB l o
/-- One write, behind an object. -/
def wOk (e : List Vc.St) (b : List Sn.Sp) (last : Int) (w : Wr) : Bool := decide (last < w.2.1) && ((decide (0 ≤ w.2.1) && decide (w.2.1 ≤ 255)) && (!hasO b w.2.1 && hasB e w.1))
def ntW (e : List Vc.St) (b : List Sn.Sp) : Int → List Wr → Bool
  | _, [] => true
  | last, w :: r => wOk e b last w && ntW e b w.2.1 r
theorem ntW_drop (e : List Vc.St) (b : List Sn.Sp) (last : Int) (l : List Wr) (k : Nat) (h : k < l.length) : ntW e b last (l.drop k) = (wOk e b last l[k] && ntW e b l[k].2.1 (l.drop (k + 1))) := by
  rw [List.drop_eq_getElem_cons h, ntW]
def cov2 (u v : List Vc.St) : Bool := covB (Vc.cnt u) (Vc.cnt v)
def ntH (n : Nt) : Bool := fm (-1) n.s && (fm (-1) n.e && (cov2 n.e n.s && Sn.fmS (-2) n.b))
def ntF (n : Nt) : Bool := ntH n && ntW n.e n.b (-1) n.w
/-- The object ahead of a place. -/
def aheadW (l : List Wr) (k : Nat) : Int := if h : k ≠ 0 ∧ k - 1 < l.length then (l[k - 1]'h.2).2.1 else -1
theorem aheadW_next (l : List Wr) (k : Nat) (h : k < l.length) : aheadW l (k + 1) = l[k].2.1 := by
  unfold aheadW
  rw [dif_pos ⟨by omega, by simpa using h⟩]
  simp
theorem aheadW_zero (l : List Wr) : aheadW l 0 = -1 := by unfold aheadW; rw [dif_neg (by simp)]
/-- The document's test of one write is the same. -/
theorem wOk_ref (e : List Vc.St) (b : List Sn.Sp) (last : Int) (w : Wr) : wOk e b last w = (hasB e w.1 && ((decide (0 ≤ w.2.1) && decide (w.2.1 ≤ 255)) && (!hasO b w.2.1 && decide (last < w.2.1)))) := by
  unfold wOk
  cases hasB e w.1 <;> cases hasO b w.2.1 <;> cases decide (last < w.2.1) <;> simp

/-- The write of an object in a list. -/
def atO (l : List Wr) (o : Int) : Option Wr := l.find? fun w => decide (w.2.1 = o)
/-- Rising objects. -/
def rise : Int → List Wr → Bool
  | _, [] => true
  | last, w :: r => decide (last < w.2.1) && rise w.2.1 r
theorem rise_of (e : List Vc.St) (b : List Sn.Sp) : ∀ (last : Int) (l : List Wr), ntW e b last l = true → rise last l = true
  | _, [], _ => rfl
  | last, w :: r, h => by
    rw [ntW, Bool.and_eq_true] at h
    have h1 := h.1
    unfold wOk at h1
    rw [Bool.and_eq_true] at h1
    rw [rise, h1.1, rise_of e b _ r h.2]; rfl
theorem rise_gt : ∀ (last : Int) (l : List Wr), rise last l = true → ∀ w ∈ l, last < w.2.1
  | _, [], _, w, hw => by cases hw
  | last, x :: r, h, w, hw => by
    rw [rise, Bool.and_eq_true, decide_eq_true_eq] at h
    rcases List.mem_cons.1 hw with rfl | hw
    · exact h.1
    · have := rise_gt _ r h.2 w hw; omega
theorem rise_lt : ∀ (last : Int) (l : List Wr), rise last l = true → ∀ i j (hi : i < j) (hj : j < l.length), (l[i]'(by omega)).2.1 < l[j].2.1
  | _, [], _, i, j, _, hj => by simp at hj
  | last, x :: r, h, 0, j + 1, _, hj => by
    rw [rise, Bool.and_eq_true] at h
    exact rise_gt _ r h.2 _ (List.getElem_mem _)
  | last, x :: r, h, i + 1, j + 1, hi, hj => by
    rw [rise, Bool.and_eq_true] at h
    exact rise_lt _ r h.2 i j (by omega) (by simpa using hj)
/-- A place at which the object stands. -/
theorem atO_hit {last : Int} {l : List Wr} (h : rise last l = true) {o : Int} {k : Nat} (hk : k < l.length) (ho : l[k].2.1 = o) : atO l o = some l[k] := by
  unfold atO
  rw [List.find?_eq_some_iff_getElem]
  refine ⟨by simpa using ho, k, hk, rfl, fun j hj => ?_⟩
  have := rise_lt last l h j k hj hk
  simp; omega
theorem atO_miss {l : List Wr} {o : Int} {k : Nat} (h1 : ∀ i (hi : i < l.length), i < k → l[i].2.1 < o) (h2 : ∀ i (hi : i < l.length), k ≤ i → o < l[i].2.1) : atO l o = none := by
  unfold atO
  rw [List.find?_eq_none]
  intro w hw
  obtain ⟨i, hi, rfl⟩ := List.getElem_of_mem hw
  rcases Nat.lt_or_ge i k with hlt | hge
  · have := h1 i hi hlt; simp; omega
  · have := h2 i hi hge; simp; omega
theorem atO_drop (l : List Wr) (o : Int) (k : Nat) (h : k < l.length) : atO (l.drop k) o = if l[k].2.1 = o then some l[k] else atO (l.drop (k + 1)) o := by
  unfold atO
  rw [List.drop_eq_getElem_cons h, List.find?_cons]
  by_cases e : l[k].2.1 = o <;> simp [e]
end Go.Proofs.YtnibkniggiokkaaDoor
