/- Walk over the document's Same of steps (printed by wip/tools/genScF.py). -/
import Derived.Test.YtldcgmnfohhjbacScE
namespace Go.Proofs.Ytldcgmnfohhjbac
open Go.RowKit
set_option maxRecDepth 100000

instance (x y : Sc.Stp) : Decidable (x = y) := decidable_of_iff _ (Sc.Stp.eq_iff x y).symm

set_option maxHeartbeats 8000000 in
theorem refScSame_any (v u : SV) (x y : Sc.Stp) (w : World) (h : StpRd w w.heap.size v x) (k : StpRd w w.heap.size u y) :
    Calls Try.prog 17 #[.agg (v.val x), .agg (u.val y)] w fun e w' => e = .returned (.bool (decide (x = y))) ∧ Below w.heap.size w w' := by
  obtain ⟨A1, n1, c1, A2, n2, c2⟩ := v
  obtain ⟨B1, m1, d1, B2, m2, d2⟩ := u
  have hb0 : Below w.heap.size w ((w.alloc (.cells (SV.val ⟨A1, n1, c1, A2, n2, c2⟩ x) 25)).alloc (.cells (SV.val ⟨B1, m1, d1, B2, m2, d2⟩ y) 25)) := ((Below.refl _ _).alloc (Nat.le_refl _) _).alloc (by simp) _
  have hX := (Blk.new w 25 (SV.val ⟨A1, n1, c1, A2, n2, c2⟩ x)).alloc (.cells (SV.val ⟨B1, m1, d1, B2, m2, d2⟩ y) 25)
  have hY := Blk.new (w.alloc (.cells (SV.val ⟨A1, n1, c1, A2, n2, c2⟩ x) 25)) 25 (SV.val ⟨B1, m1, d1, B2, m2, d2⟩ y)
  rw [World.size_alloc] at hY
  obtain ⟨l1, r1, l2, r2⟩ := h.go hb0
  obtain ⟨k1, s1, k2, s2⟩ := k.go hb0
  have G1 := Lib.hid (sameS_any A1 B1 n1 c1 m1 d1 x.s y.s _ l1 k1 r1 s1)
  have G2 := Lib.hid fun (W : World) (hb : Below _ _ W) => sameB_any A2 B2 n2 c2 m2 d2 _ _ x.v y.v W (r2.below hb) (s2.below hb)
  have HB := Lib.hid hb0
  have hres := Sc.Stp.eq_iff x y
  obtain ⟨res, hr⟩ : ∃ res, res = decide (x = y) := ⟨_, rfl⟩
  have hr2 : res = true ↔ x = y := by rw [hr]; exact decide_eq_true_iff
  rw [hres] at hr2
  rw [← hr]
  obtain ⟨xk, xa, xb, xo, xn, xs, xv⟩ := x
  obtain ⟨yk, ya, yb, yo, yn, ys, yv⟩ := y
  have HX := Lib.hid hX
  have HY := Lib.hid hY
  simp only [SV.val] at HB HX HY G1 G2
  simp only at hr2
  clear h k l1 r1 l2 r2 k1 s1 k2 s2 hb0 hX hY hr hres
  by_cases e0 : xk = yk
  rotate_left
  · have HR := Lib.hid (show res = false by cases res with | false => rfl | true => exact absurd (hr2.1 rfl).1 e0)
    have e0' : (xk == yk) = false := beq_eq_false_iff_ne.2 e0
    clear hr2
    go_enter Try.func17, Try.ntmps17
    go_wp2
    go_ret
    exact ⟨by rw [HR.out]; rfl, HB.out⟩
  obtain rfl := e0
  by_cases e1 : xa = ya
  rotate_left
  · have HR := Lib.hid (show res = false by cases res with | false => rfl | true => exact absurd (hr2.1 rfl).2.1 e1)
    have e1' : (xa == ya) = false := beq_eq_false_iff_ne.2 e1
    clear hr2
    go_enter Try.func17, Try.ntmps17
    go_wp2
    go_ret
    exact ⟨by rw [HR.out]; rfl, HB.out⟩
  obtain rfl := e1
  by_cases e2 : xb = yb
  rotate_left
  · have HR := Lib.hid (show res = false by cases res with | false => rfl | true => exact absurd (hr2.1 rfl).2.2.1 e2)
    have e2' : (xb == yb) = false := beq_eq_false_iff_ne.2 e2
    clear hr2
    go_enter Try.func17, Try.ntmps17
    go_wp2
    go_ret
    exact ⟨by rw [HR.out]; rfl, HB.out⟩
  obtain rfl := e2
  by_cases e3 : xo = yo
  rotate_left
  · have HR := Lib.hid (show res = false by cases res with | false => rfl | true => exact absurd (hr2.1 rfl).2.2.2.1 e3)
    have e3' : (xo == yo) = false := beq_eq_false_iff_ne.2 e3
    clear hr2
    go_enter Try.func17, Try.ntmps17
    go_wp2
    go_ret
    exact ⟨by rw [HR.out]; rfl, HB.out⟩
  obtain rfl := e3
  by_cases e4 : xn = yn
  rotate_left
  · have HR := Lib.hid (show res = false by cases res with | false => rfl | true => exact absurd (hr2.1 rfl).2.2.2.2.1 e4)
    have e4' : (xn == yn) = false := beq_eq_false_iff_ne.2 e4
    clear hr2
    go_enter Try.func17, Try.ntmps17
    go_wp2
    go_ret
    exact ⟨by rw [HR.out]; rfl, HB.out⟩
  obtain rfl := e4
  by_cases e5 : xs = ys
  rotate_left
  · have HR := Lib.hid (show res = false by cases res with | false => rfl | true => exact absurd (hr2.1 rfl).2.2.2.2.2.1 e5)
    rw [show decide (xs = ys) = false from decide_eq_false e5] at G1
    clear hr2 G2
    go_enter Try.func17, Try.ntmps17
    go_wp2_with fail
    refine G1.out.mono ?_
    rintro e w1 ⟨rfl, hb1⟩
    go_wp2
    go_ret
    exact ⟨by rw [HR.out]; rfl, below_then HB.out (Nat.le_refl _) hb1⟩
  rw [show decide (xs = ys) = true from decide_eq_true e5] at G1
  have HR := Lib.hid (show res = (xv == yv) by
    rw [Bool.eq_iff_iff, beq_iff_eq, hr2]
    exact ⟨fun h => h.2.2.2.2.2.2, fun h => ⟨rfl, rfl, rfl, rfl, rfl, e5, h⟩⟩)
  generalize (xv == yv) = q at HR G2
  clear hr2 e5
  go_enter Try.func17, Try.ntmps17
  go_wp2_with fail
  refine G1.out.mono ?_
  rintro e w1 ⟨rfl, hb1⟩
  have q6 := (HX.out.go hb1).cell 6
  have p6 := (HY.out.go hb1).cell 6
  go_wp2_with fail
  refine (G2.out _ hb1).mono ?_
  rintro e w2 ⟨rfl, rfl⟩
  go_wp2
  go_ret
  exact ⟨by rw [HR.out]; rfl, below_then HB.out (Nat.le_refl _) hb1⟩
end Go.Proofs.Ytldcgmnfohhjbac
