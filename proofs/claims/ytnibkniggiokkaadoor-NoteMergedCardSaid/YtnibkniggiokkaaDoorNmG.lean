/- Walks over the document's Compare of stamps, Two of sets; the document's list of merged writes, object by object. -/
import Derived.Test.YtnibkniggiokkaaDoorNm3
import Derived.Test.YtnibkniggiokkaaDoorNtI
import Derived.Test.YtnibkniggiokkaaDoorMSp
namespace Go.Proofs.YtnibkniggiokkaaDoor
open Go.RowKit
set_option maxRecDepth 100000

set_option maxHeartbeats 1000000 in
theorem refStamp_any (a1 a2 b1 b2 : Int) (w : World) : Calls Tryd.prog 63 #[.agg #[.int .i64 a1, .int .i64 a2], .agg #[.int .i64 b1, .int .i64 b2]] w fun e w' => ∃ z : Int, e = .returned (.int .i64 z) ∧ decide (z < 0) = stLt (a1, a2) (b1, b2) ∧ Below w.heap.size w w' := by
  have hb0 : Below w.heap.size w ((w.alloc (.cells #[.int .i64 a1, .int .i64 a2] 44)).alloc (.cells #[.int .i64 b1, .int .i64 b2] 44)) := ((Below.refl _ _).alloc (Nat.le_refl _) _).alloc (by simp) _
  have HB := Lib.hid hb0
  clear hb0
  by_cases h1 : a1 < b1
  · have HX := Lib.hid (show stLt (a1, a2) (b1, b2) = true by simp [stLt, h1])
    go_enter Tryd.func63, Tryd.ntmps63
    go_wp2
    go_ret
    exact ⟨-1, rfl, by rw [HX.out]; rfl, HB.out⟩
  · by_cases h2 : a1 = b1
    · subst h2
      have hq : (a1 == a1) = true := by simp
      by_cases h3 : a2 < b2
      · have HX := Lib.hid (show stLt (a1, a2) (a1, b2) = true by simp [stLt, h3])
        go_enter Tryd.func63, Tryd.ntmps63
        go_wp2
        go_ret
        exact ⟨-1, rfl, by rw [HX.out]; rfl, HB.out⟩
      · have HX := Lib.hid (show stLt (a1, a2) (a1, b2) = false by simp [stLt]; omega)
        by_cases h4 : a2 = b2
        · subst h4
          have hq2 : (a2 == a2) = true := by simp
          go_enter Tryd.func63, Tryd.ntmps63
          go_wp2
          go_ret
          exact ⟨0, rfl, by rw [HX.out]; rfl, HB.out⟩
        · have hq2 : (a2 == b2) = false := beq_eq_false_iff_ne.2 h4
          go_enter Tryd.func63, Tryd.ntmps63
          go_wp2
          go_ret
          exact ⟨1, rfl, by rw [HX.out]; rfl, HB.out⟩
    · have hq : (a1 == b1) = false := beq_eq_false_iff_ne.2 h2
      have HX := Lib.hid (show stLt (a1, a2) (b1, b2) = false by simp [stLt, h2]; omega)
      go_enter Tryd.func63, Tryd.ntmps63
      go_wp2
      go_ret
      exact ⟨1, rfl, by rw [HX.out]; rfl, HB.out⟩
theorem refTwoS_any (A D : Option Addr) (n c m d : Nat) (u v : List Sn.Sp) (w : World) (hl : u.length = n) (hl2 : v.length = m) (hR : Rd w w.heap.size 2 A n c (sv u)) (hR2 : Rd w w.heap.size 2 D m d (sv v)) :
    Calls Tryd.prog 61 #[.slice A n c, .slice D m d] w fun e w' => SpOut w w' e (Sn.tidy (u ++ v)) := by
  have hb : Below w.heap.size w (w.alloc (.cells #[.slice A n c, .slice D m d] 23)) := (Below.refl _ _).alloc (Nat.le_refl _) _
  have H1 := refJoinS_any _ 2 2 [u, v] _ (RdL.two hl hl2 hR hR2 23)
  rw [show [u, v].flatten = u ++ v by simp] at H1
  have H1 := Lib.hid H1
  generalize Sn.tidy (u ++ v) = L at H1 ⊢
  clear hl hl2 hR hR2
  go_enter Tryd.func61, Tryd.ntmps61
  go_wp2_with (go_at_call 81; go_must (refine H1.out.mono ?_); rintro e w1 ⟨A1, c1, rfl, ho, hb1⟩)
  go_ret
  exact ⟨A1, c1, rfl, own_less ho hb.size, below_then hb (Nat.le_refl _) hb1⟩

/-! ### The list, object by object -/
def mUp (k : Int → Bool) (a b : List Wr) (n : Nat) : List Wr := mrgW k a b ((List.range n).map fun m : Nat => (m : Int))
theorem mUp_zero (k : Int → Bool) (a b : List Wr) : mUp k a b 0 = [] := rfl
theorem mUp_end (k : Int → Bool) (a b : List Wr) : mUp k a b 256 = mrgW k a b objs256 := rfl
theorem mUp_next (k : Int → Bool) (a b : List Wr) (n : Nat) : mUp k a b (n + 1) = mUp k a b n ++ (if k (n : Int) = true then mrgAt a b (n : Int) else none).toList := by
  unfold mUp mrgW
  rw [List.range_succ, List.map_append, List.filterMap_append]
  congr 1
theorem mUp_len (k : Int → Bool) (a b : List Wr) : ∀ n, (mUp k a b n).length ≤ n
  | 0 => Nat.le_refl _
  | n + 1 => by
    have ih := mUp_len k a b n
    rw [mUp_next, List.length_append]
    have : (if k (n : Int) = true then mrgAt a b (n : Int) else none).toList.length ≤ 1 := by
      rcases (if k (n : Int) = true then mrgAt a b (n : Int) else none) with _ | w <;> simp
    omega
/-- What the document takes at an object. -/
theorem mrgAt_no {a b : List Wr} {o : Int} (h1 : atB a o = false) (h2 : atB b o = false) : mrgAt a b o = none := by
  rw [mrgAt_is]; unfold atB at h1 h2
  rcases ha : atO a o with _ | v <;> rcases hb : atO b o with _ | u <;> rw [ha] at h1 <;> rw [hb] at h2 <;> first | rfl | (simp at h1; done) | (simp at h2; done)
theorem mrgAt_l {a b : List Wr} {o : Int} (h1 : atB a o = true) (h2 : atB b o = false) : mrgAt a b o = some (atQ a o) := by
  rw [mrgAt_is]; unfold atB at h1 h2; unfold atQ
  rcases ha : atO a o with _ | v <;> rcases hb : atO b o with _ | u <;> rw [ha] at h1 <;> rw [hb] at h2 <;> first | rfl | (simp at h1; done) | (simp at h2; done)
theorem mrgAt_r {a b : List Wr} {o : Int} (h1 : atB a o = false) (h2 : atB b o = true) : mrgAt a b o = some (atQ b o) := by
  rw [mrgAt_is]; unfold atB at h1 h2; unfold atQ
  rcases ha : atO a o with _ | v <;> rcases hb : atO b o with _ | u <;> rw [ha] at h1 <;> rw [hb] at h2 <;> first | rfl | (simp at h1; done) | (simp at h2; done)
theorem mrgAt_2 {a b : List Wr} {o : Int} (h1 : atB a o = true) (h2 : atB b o = true) : mrgAt a b o = some (if stLt (atQ a o).1 (atQ b o).1 = true then atQ b o else atQ a o) := by
  rw [mrgAt_is]; unfold atB at h1 h2; unfold atQ
  rcases ha : atO a o with _ | v <;> rcases hb : atO b o with _ | u <;> rw [ha] at h1 <;> rw [hb] at h2 <;> first | (simp at h1; done) | (simp at h2; done) | skip
  show (if stLt v.1 u.1 = true then some u else some v) = some (if stLt v.1 u.1 = true then u else v)
  split <;> rfl
end Go.Proofs.YtnibkniggiokkaaDoor
