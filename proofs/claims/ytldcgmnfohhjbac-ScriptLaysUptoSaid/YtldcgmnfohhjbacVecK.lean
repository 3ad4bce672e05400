/- Walks over vector.list: a range over the iterator that appends. -/
import Derived.Test.YtldcgmnfohhjbacVecJ
import Derived.Maps.OwnIn
namespace Go.Proofs.Ytldcgmnfohhjbac
open Go.RowKit Go.Shelf
set_option maxRecDepth 100000
attribute [local go_sem] Oper.semAt_some

theorem Blk.not_row {W : World} {B : Nat} {t e : TypeId} {cs : Array Value} (h : Blk W B t cs) (hte : t ≠ e) {base size k : Nat} {v : Value} {xs : List Value} (hr : W.ownsRow base e size v k xs) : some B ≠ v.ownBlock := by
  rcases hr.2 with ⟨rfl, _⟩ | ⟨g, cap, cur, rfl, _, hgb, _⟩
  · simp [Value.ownBlock]
  · intro e'
    obtain rfl : B = g := by simpa [Value.ownBlock] using e'
    rw [show W.heap[B]? = _ from h] at hgb
    injection hgb with hgb
    injection hgb with _ h2
    exact hte h2

/-- The stamps that have come. -/
def come (f : Nat → Int) {p : Nat → Bool} {val : Nat → Int → Prop} (l : List (Ev p val)) : List Vc.St := (nds l).map fun n => (f n, (n : Int))
theorem come_snoc (f : Nat → Int) {p : Nat → Bool} (l : List (Ev p fun m k => k = f m)) (x : Ev p fun m k => k = f m) : come f (l ++ [x]) = come f l ++ [(x.1.2, (x.1.1 : Int))] := by
  have := x.2.2.2
  simp [come, nds_snoc, ← this]
theorem come_all (f : Nat → Int) {p : Nat → Bool} {val : Nat → Int → Prop} (l : List (Ev p val)) (h : nds l = Vc.upto p 64) : come f l = vecTo f p 64 := by rw [come, h]; rfl
theorem come_len (f : Nat → Int) {p : Nat → Bool} {val : Nat → Int → Prop} (l : List (Ev p val)) : (come f l).length = l.length := by simp [come, nds]

theorem cells_new_at (w : World) (cs : Array Value) (t : TypeId) (j : Nat) : (w.alloc (.cells cs t)).cell? ((⟨w.heap.size, 0, none⟩ : Addr).add j) = cs[j]? := by
  have hadd : (⟨w.heap.size, 0, none⟩ : Addr).add j = ⟨w.heap.size, j, none⟩ := by unfold Addr.add; split <;> simp_all
  rw [hadd, cell_of_row _ w.heap.size j cs t (0, 0) (heap_alloc_new w _)]

end Go.Proofs.Ytldcgmnfohhjbac
