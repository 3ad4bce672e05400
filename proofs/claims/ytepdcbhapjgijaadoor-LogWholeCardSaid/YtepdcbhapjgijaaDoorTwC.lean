/- Walks over the document's Formed, at and Same of zones (printed by wip/tools/genTwC.py). -/
import Derived.Test.YtepdcbhapjgijaaDoorTwB
namespace Go.Proofs.YtepdcbhapjgijaaDoor
open Go.RowKit
set_option maxRecDepth 100000

theorem Blk.two2 {w : World} {g : Nat} {t : TypeId} {a b : Value} (h : Blk w g t #[a, b]) : w.cell? ⟨g, 0, none⟩ = some a ∧ w.cell? ⟨g, 1, none⟩ = some b := ⟨h.cell 0, h.cell 1⟩

/-- Where a zone of an object stands. -/
def AtZ (L : List (ZV × Zn)) (o : Int) (w : World) (e : Ending) (w' : World) : Prop :=
  w = w' ∧ ((∃ k, ∃ h : k < L.length, e = .returned (.int .i64 (k : Int)) ∧ (zns L).find? (inZ o) = some L[k].2) ∨ (e = .returned (.int .i64 (-1)) ∧ (zns L).find? (inZ o) = none))
theorem find_drop (o : Int) (z : List Zn) (k : Nat) (h : k < z.length) : (z.drop k).find? (inZ o) = if inZ o z[k] = true then some z[k] else (z.drop (k + 1)).find? (inZ o) := by
  rw [List.drop_eq_getElem_cons h, List.find?_cons]
  rcases inZ o z[k] with _ | _ <;> rfl
theorem inZ_no1 {o lo hi : Int} {u : List Vc.St} (h : ¬ lo ≤ o) : inZ o ((lo, hi), u) = false := by unfold inZ; simp; omega
theorem inZ_no2 {o lo hi : Int} {u : List Vc.St} (h : ¬ o ≤ hi) : inZ o ((lo, hi), u) = false := by unfold inZ; simp; omega
theorem inZ_yes {o lo hi : Int} {u : List Vc.St} (h : lo ≤ o) (h2 : o ≤ hi) : inZ o ((lo, hi), u) = true := by unfold inZ; simp; omega
theorem dec_dropZ {L M : List Zn} {k : Nat} (h1 : k < L.length) (h2 : k < M.length) (he : L[k] = M[k]) : decide (L.drop k = M.drop k) = decide (L.drop (k + 1) = M.drop (k + 1)) := by
  rw [List.drop_eq_getElem_cons h1, List.drop_eq_getElem_cons h2, he]
  exact decide_eq_decide.2 ⟨fun h => (List.cons.inj h).2, fun h => by rw [h]⟩
end Go.Proofs.YtepdcbhapjgijaaDoor
