/- Texts of one layer in one file: TwH, TwN, TwR. -/
import Derived.Test.YtepdcbhapjgijaaDoorTwE
import Derived.Test.YtepdcbhapjgijaaDoorMVec
import Derived.Test.YtepdcbhapjgijaaDoorTwM
import Derived.Test.YtepdcbhapjgijaaDoorSpB
namespace Go.Proofs.YtepdcbhapjgijaaDoor
open Go.RowKit
set_option maxRecDepth 100000

theorem stampsH_info : (Tryd.prog.info? 22).map (fun i => (i.zero, i.size, i.bytes)) = some (some (.slice none 0 0), 1, 24) := by kernel_rfl
def vsv (l : List (ZV × List Vc.St)) : List Value := l.map fun x => .slice x.1.A x.1.n x.1.c
theorem vsv_snoc (l : List (ZV × List Vc.St)) (x : ZV × List Vc.St) : vsv (l ++ [x]) = vsv l ++ [.slice x.1.A x.1.n x.1.c] := by simp [vsv]
/-- A list of vectors of the call's own. -/
structure OwnV (w : World) (base : Nat) (A : Option Addr) (k c : Nat) (ys : List (ZV × List Vc.St)) : Prop where
  row : w.ownsRow base 22 1 (.slice A k c) k (vsv ys)
  el : ∀ y ∈ ys, y.2.length = y.1.n ∧ w.ownsRow base 47 2 (.slice y.1.A y.1.n y.1.c) y.1.n (sv y.2)
theorem OwnV.nil (w : World) (base : Nat) : OwnV w base none 0 0 [] := ⟨World.ownsRow_nil _ _ _ _, by simp⟩
theorem OwnV.below {w w' : World} {base : Nat} {A : Option Addr} {k c : Nat} {ys : List (ZV × List Vc.St)} (h : OwnV w base A k c ys) (hb : Below w.heap.size w w') : OwnV w' base A k c ys :=
  ⟨own_below h.row hb (Nat.le_refl _), fun y hy => ⟨(h.el y hy).1, own_below (h.el y hy).2 hb (Nat.le_refl _)⟩⟩
theorem OwnV.push {w w' : World} {base : Nat} {A A' : Option Addr} {k c c' : Nat} {ys : List (ZV × List Vc.St)} {y : ZV × List Vc.St} (h : OwnV w base A k c ys) (hy : y.2.length = y.1.n ∧ w.ownsRow base 47 2 (.slice y.1.A y.1.n y.1.c) y.1.n (sv y.2))
    (hg : w.grownBy w' (Value.slice A k c).ownBlock) (ho : w'.ownsRow base 22 1 (.slice A' (k + 1) c') (k + 1) (vsv ys ++ [.slice y.1.A y.1.n y.1.c])) : OwnV w' base A' (k + 1) c' (ys ++ [y]) := by
  refine ⟨by rw [vsv_snoc]; exact ho, fun z hz => ?_⟩
  rcases List.mem_append.1 hz with hz | hz
  · exact ⟨(h.el z hz).1, (h.el z hz).2.kept hg (own_two (h.el z hz).2 h.row (by decide))⟩
  · obtain rfl : z = y := by simpa using hz
    exact ⟨hy.1, hy.2.kept hg (own_two hy.2 h.row (by decide))⟩
theorem OwnV.len {w : World} {base : Nat} {A : Option Addr} {k c : Nat} {ys : List (ZV × List Vc.St)} (h : OwnV w base A k c ys) : ys.length = k := by
  have := h.row.1
  unfold vsv at this
  rw [List.length_map] at this
  omega
theorem OwnV.rd {w : World} {base : Nat} {A : Option Addr} {k c : Nat} {ys : List (ZV × List Vc.St)} (h : OwnV w base A k c ys) : RdL w w.heap.size A k c (ys.map (·.2)) := by
  have hR := Rd.of_own h.row
  have hl := h.len
  refine ⟨by rw [List.length_map]; exact hl, hR.cap, hR.max, hR.nil, fun i hi => ?_⟩
  rw [List.length_map] at hi
  obtain ⟨b, o, hA, hb, hcell⟩ := hR.plain (by omega) (by decide)
  obtain ⟨h1, h2⟩ := h.el _ (List.getElem_mem hi)
  refine ⟨b, o, (ys[i]).1.A, (ys[i]).1.n, (ys[i]).1.c, hA, hb, hcell i _ ?_, by rw [List.getElem_map]; exact h1, by rw [List.getElem_map]; exact Rd.of_own h2⟩
  unfold vsv
  rw [List.getElem?_map, List.getElem?_eq_getElem hi]; rfl
def reachTo (z : List Zn) (known : List Vc.St) (i : List Sn.Sp) (k : Nat) : List (List Vc.St) := ((List.range k).filter (Sn.setOf i)).map fun o : Nat => reach z known (o : Int)
theorem reachTo_next (z : List Zn) (known : List Vc.St) (i : List Sn.Sp) (k : Nat) : reachTo z known i (k + 1) = if Sn.setOf i k = true then reachTo z known i k ++ [reach z known (k : Int)] else reachTo z known i k := by
  unfold reachTo
  rw [List.range_succ, List.filter_append, List.map_append]
  rcases hs : Sn.setOf i k with _ | _
  · simp [hs]
  · simp [hs]
def sinceG (z : List Zn) (known : List Vc.St) (i : List Sn.Sp) : List Vc.St := if (zF (-1) none z && fm (-1) known) = true then sinceZ z known i else []

end Go.Proofs.YtepdcbhapjgijaaDoor

namespace Go.Proofs.YtepdcbhapjgijaaDoor
open Go.RowKit
set_option maxRecDepth 100000

def ntAl : Nt := ⟨[], [(1, 0)], [(3, 5)], []⟩
theorem al_E : tkE [] [] ntAl = 0 := by decide +kernel
theorem al_Z : tkZ' [] [] ntAl = [((3, 5), [])] := by decide +kernel
theorem al_K : tkK [] [] ntAl = [(1, 0)] := by decide +kernel

end Go.Proofs.YtepdcbhapjgijaaDoor

namespace Go.Proofs.YtepdcbhapjgijaaDoor
open Go.RowKit

theorem tkE_zero {z : List Zn} {known : List Vc.St} {x : Nt} (h : tkE z known x = 0) : zF (-1) none z = true ∧ fm (-1) known = true ∧ ntF x = true ∧ ntFits x known = true := by
  unfold tkE at h
  split at h
  · rename_i h1
    simp only [Bool.and_eq_true] at h1
    split at h
    · rename_i h2; exact ⟨h1.1, h1.2.1, h1.2.2, h2⟩
    · cases h
  · cases h
theorem tkE_is {z : List Zn} {known : List Vc.St} {x : Nt} (h1 : zF (-1) none z = true) (h2 : fm (-1) known = true) (h3 : ntF x = true) (h4 : ntFits x known = true) : tkE z known x = 0 := by
  unfold tkE; simp [h1, h2, h3, h4]
theorem tkZ_zero {z : List Zn} {known : List Vc.St} {x : Nt} (h : tkE z known x = 0) : tkZ' z known x = tkZ z known x ∧ tkK z known x = nowOf known x := by
  unfold tkZ' tkK; rw [if_pos h, if_pos h]; exact ⟨rfl, rfl⟩
theorem tkZ_no {z : List Zn} {known : List Vc.St} {x : Nt} (h : tkE z known x ≠ 0) : tkZ' z known x = [] ∧ tkK z known x = [] := by
  unfold tkZ' tkK; rw [if_neg h, if_neg h]; exact ⟨rfl, rfl⟩

theorem blurF_yes {z : List Zn} (h : zF (-1) none z = true) : blurF z = blurZ z := by unfold blurF; rw [if_pos h]

end Go.Proofs.YtepdcbhapjgijaaDoor

