/- Plain law: behind a span that begins too late, none touches. -/
import Derived.Test.YtafbaagjokomcaaSp2
namespace Go.Proofs.Ytafbaagjokomcaa.Sn

/-- Does a span touch one of a list? -/
def hits (s : Sp) (y : List Sp) : Bool := y.any fun t => decide (s.1 ≤ t.2) && decide (t.1 ≤ s.2)
theorem hits_cons (s t : Sp) (y : List Sp) : hits s (t :: y) = (decide (s.1 ≤ t.2) && decide (t.1 ≤ s.2) || hits s y) := by simp [hits]
theorem tch_cons (s : Sp) (x y : List Sp) : tch (s :: x) y = (hits s y || tch x y) := by simp [tch, hits]
theorem hits_far (s : Sp) : ∀ (y : List Sp) (f : Int), fmS f y = true → s.2 ≤ f + 1 → hits s y = false
  | [], _, _, _ => rfl
  | t :: r, f, h, hs => by
    obtain ⟨h1, h2, h3, h4, h5⟩ := fmS_cons.1 h
    rw [hits_cons, hits_far s r t.2 h5 (by omega), decide_eq_false (p := t.1 ≤ s.2) (by omega)]
    simp
theorem hits_late (s t : Sp) (r : List Sp) {f : Int} (h : fmS f (t :: r) = true) (hs : s.2 < t.1) : hits s (t :: r) = false := by
  obtain ⟨h1, h2, h3, h4, h5⟩ := fmS_cons.1 h
  rw [hits_cons, hits_far s r t.2 h5 (by omega), decide_eq_false (p := t.1 ≤ s.2) (by omega)]
  simp
end Go.Proofs.Ytafbaagjokomcaa.Sn
