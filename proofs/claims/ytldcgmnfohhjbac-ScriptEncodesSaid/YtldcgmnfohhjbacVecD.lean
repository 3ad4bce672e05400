/- Walk over the document's Counts. -/
import Derived.Test.YtldcgmnfohhjbacVecC
import Derived.BigRegion
import Derived.Deep.RegionHeld3
namespace Go.Proofs.Ytldcgmnfohhjbac
open Go.RowKit
set_option maxRecDepth 100000

/-- The 64 counts as an array. -/
def a64 (f : Nat → Int) : Array Value := (c64 f).toArray
theorem a64_size (f : Nat → Int) : (a64 f).size = 64 := by simp [a64, c64]
theorem a64_at (f : Nat → Int) (n : Nat) (hn : n < 64) : (a64 f)[n]? = some (.int .i64 (f n)) := by simp [a64, c64, hn]
theorem a64_set (f : Nat → Int) (m : Nat) (x : Int) (hm : m < 64) : (a64 f).setIfInBounds m (.int .i64 x) = a64 (upd f m x) := by
  apply Array.ext_getElem?
  intro i
  rw [Array.getElem?_setIfInBounds]
  by_cases hi : i < 64
  · rw [a64_at (upd f m x) i hi]
    by_cases he : m = i
    · subst he; simp [a64_size, upd]; omega
    · rw [if_neg he, a64_at f i hi, upd, if_neg (by omega)]
  · rw [if_neg (by omega), Array.getElem?_eq_none (by rw [a64_size]; omega), Array.getElem?_eq_none (by rw [a64_size]; omega)]
theorem a64_congr {f g : Nat → Int} (e : ∀ n, n < 64 → f n = g n) : a64 f = a64 g := by
  unfold a64 c64
  congr 1
  exact List.map_congr_left fun n hn => by rw [e n (by simpa using hn)]
theorem a64_oneCell (f : Nat → Int) : (a64 f).all (·.oneCell') = true := by
  rw [Array.all_eq_true']
  intro x hx
  simp only [a64, c64, List.mem_toArray, List.mem_map] at hx
  obtain ⟨n, _, rfl⟩ := hx
  rfl
theorem cnt_cons_hit (v : List Vc.St) (k : Nat) (sc : Int) (m : Nat) (h : k < v.length) (h1 : v[k].1 = sc) (h2 : v[k].2 = (m : Int)) (hr : Vc.right (sc, (m : Int)) = true) :
    ∀ n, upd (Vc.cnt (v.drop (k + 1))) m sc n = Vc.cnt (v.drop k) n := fun n => by
  have e : v[k] = (sc, (m : Int)) := by rw [← h1, ← h2]
  rw [List.drop_eq_getElem_cons h, Vc.cnt, e, upd]
  by_cases hn : n = m
  · subst hn; rw [if_pos rfl, if_pos ⟨hr, rfl⟩]
  · rw [if_neg hn, if_neg]
    rintro ⟨_, c⟩
    simp only at c
    omega
theorem cnt_cons_miss (v : List Vc.St) (k : Nat) (sc sn : Int) (h : k < v.length) (h1 : v[k].1 = sc) (h2 : v[k].2 = sn) (hr : Vc.right (sc, sn) = false) :
    Vc.cnt (v.drop (k + 1)) = Vc.cnt (v.drop k) := by
  funext n
  have e : v[k] = (sc, sn) := by rw [← h1, ← h2]
  rw [List.drop_eq_getElem_cons h, Vc.cnt, e, if_neg (by rw [hr]; simp)]

end Go.Proofs.Ytldcgmnfohhjbac
