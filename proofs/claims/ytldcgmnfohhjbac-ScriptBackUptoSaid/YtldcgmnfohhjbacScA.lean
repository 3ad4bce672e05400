/- Walks over steps: script.Formed, the document's Formed. -/
import Derived.Test.YtldcgmnfohhjbacWrD
import Derived.Test.YtldcgmnfohhjbacSc0
import Derived.Outline
namespace Go.Proofs.Ytldcgmnfohhjbac
open Go.RowKit
set_option maxRecDepth 100000

/-- A step's slices. -/
structure SV where
  A1 : Option Addr
  n1 : Nat
  c1 : Nat
  A2 : Option Addr
  n2 : Nat
  c2 : Nat
abbrev SV.val (v : SV) (x : Sc.Stp) : Array Value := #[.int .i64 x.kind, .int .i64 x.a, .int .i64 x.b, .int .i64 x.obj, .int .i64 x.n, .slice v.A1 v.n1 v.c1, .slice v.A2 v.n2 v.c2]
/-- A value reads as a step. -/
structure StpRd (w : World) (B : Nat) (v : SV) (x : Sc.Stp) : Prop where
  l1 : x.s.length = v.n1
  r1 : Rd w B 2 v.A1 v.n1 v.c1 (sv x.s)
  l2 : x.v.length = v.n2
  r2 : Rd w B 1 v.A2 v.n2 v.c2 (bv x.v)
theorem StpRd.go {w w' : World} {v : SV} {x : Sc.Stp} (h : StpRd w w.heap.size v x) (hb : Below w.heap.size w w') : StpRd w' w'.heap.size v x := ⟨h.l1, h.r1.go hb, h.l2, h.r2.go hb⟩
theorem StpRd.more {w : World} {B B' : Nat} {v : SV} {x : Sc.Stp} (h : StpRd w B v x) (hB : B ≤ B') : StpRd w B' v x := ⟨h.l1, h.r1.more hB, h.l2, h.r2.more hB⟩
theorem StpRd.below {w w' : World} {B : Nat} {v : SV} {x : Sc.Stp} (h : StpRd w B v x) (hb : Below B w w') : StpRd w' B v x := ⟨h.l1, h.r1.below hb, h.l2, h.r2.below hb⟩
theorem fmB_all {x : Sc.Stp} (h1 : 1 ≤ x.kind) (h2 : x.kind ≤ 15) (h3 : x.v.length ≤ 256) (h4 : 0 ≤ x.a) (h5 : 0 ≤ x.b) (h6 : 0 ≤ x.obj) (h7 : 0 ≤ x.n) : Sc.fmB x = Sn.fmS (-2) x.s := by
  unfold Sc.fmB
  rw [Bool.eq_iff_iff, decide_eq_true_eq]
  exact ⟨fun h => h.2.2.2.2.2.2.1, fun h => ⟨h1, h2, h4, h5, h6, h7, h, h3⟩⟩
theorem fmB_no {x : Sc.Stp} (h : ¬ (1 ≤ x.kind ∧ x.kind ≤ 15 ∧ x.v.length ≤ 256 ∧ 0 ≤ x.a ∧ 0 ≤ x.b ∧ 0 ≤ x.obj ∧ 0 ≤ x.n)) : Sc.fmB x = false := by
  unfold Sc.fmB
  rw [decide_eq_false_iff_not]
  exact fun k => h ⟨k.1, k.2.1, k.2.2.2.2.2.2.2, k.2.2.1, k.2.2.2.1, k.2.2.2.2.1, k.2.2.2.2.2.1⟩

theorem run_min4 {P : Program} (ts : Array TypeId) (t : TypeId) (a b c d : Int) : ∃ m : Int, (∀ W, (Builtin.min_ ts t #[.int .i64 a, .int .i64 b, .int .i64 c, .int .i64 d]).run P W = .ok (.int .i64 m) W) ∧ (0 ≤ m ↔ 0 ≤ a ∧ 0 ≤ b ∧ 0 ≤ c ∧ 0 ≤ d) := by
  refine ⟨if d < (if c < (if b < a then b else a) then c else (if b < a then b else a)) then d else (if c < (if b < a then b else a) then c else (if b < a then b else a)), fun W => by simp [Builtin.min_, Builtin.min2], ?_⟩
  repeat' split
  all_goals omega

set_option maxHeartbeats 2000000 in
/-- script.Formed. -/
theorem scFormed_any (v : SV) (x : Sc.Stp) (w : World) (h : StpRd w w.heap.size v x) :
    Calls Try.prog 12 #[.agg (v.val x)] w fun e w' => e = .returned (.bool (Sc.fmB x)) ∧ Below w.heap.size w w' := by
  obtain ⟨A1, n1, c1, A2, n2, c2⟩ := v
  have hb0 : Below w.heap.size w (w.alloc (.cells (SV.val ⟨A1, n1, c1, A2, n2, c2⟩ x) 25)) := (Below.refl _ _).alloc (Nat.le_refl _) _
  have H1 := formedS_any A1 n1 c1 x.s _ h.l1 (h.go hb0).r1
  have hF1 := fun h1 h2 h3 => fmB_all (x := x) h1 h2 h3
  have hF2 := fmB_no (x := x)
  rw [h.l2] at hF1 hF2
  obtain ⟨kind, a, b, obj, n, s, v⟩ := x
  generalize Sc.fmB ⟨kind, a, b, obj, n, s, v⟩ = res at hF1 hF2 ⊢
  simp only at H1 hF1 hF2
  simp only [SV.val] at H1 hb0
  generalize Sn.fmS (-2) s = fs at H1 hF1
  obtain ⟨m, hmin, hm⟩ := run_min4 (P := Try.prog) #[3, 3, 3, 3] 3 a b obj n
  have G1 := Lib.hid H1
  have HB := Lib.hid hb0
  clear h H1 hb0
  by_cases h1 : 1 ≤ kind
  · by_cases h2 : kind ≤ 15
    · by_cases h3 : n2 ≤ 256
      · by_cases h4 : 0 ≤ m
        · obtain ⟨q1, q2, q3, q4⟩ := hm.1 h4
          have HX := Lib.hid (hF1 h1 h2 (by omega) q1 q2 q3 q4)
          clear hF1 hF2 hm q1 q2 q3 q4
          go_enter Try.func12, Try.ntmps12
          go_wp2_with fail
          refine G1.out.mono ?_
          rintro e w1 ⟨rfl, hb1⟩
          go_wp2
          go_ret
          exact ⟨by rw [HX.out]; rfl, below_then HB.out (Nat.le_refl _) hb1⟩
        · have HX := Lib.hid (hF2 fun k => h4 (hm.2 ⟨k.2.2.2.1, k.2.2.2.2.1, k.2.2.2.2.2.1, k.2.2.2.2.2.2⟩))
          have h4' : decide (0 ≤ m) = false := by simpa using h4
          clear hF1 hF2 hm
          go_enter Try.func12, Try.ntmps12
          go_wp2
          go_ret
          exact ⟨by rw [HX.out]; rfl, HB.out⟩
      · have HX := Lib.hid (hF2 fun k => h3 (by omega))
        clear hF1 hF2 hm hmin
        go_enter Try.func12, Try.ntmps12
        go_wp2
        go_ret
        exact ⟨by rw [HX.out]; rfl, HB.out⟩
    · have HX := Lib.hid (hF2 fun k => h2 (by omega))
      have h2' : decide (15 < kind) = true := by simp; omega
      clear hF1 hF2 hm hmin
      go_enter Try.func12, Try.ntmps12
      go_wp2
      go_ret
      exact ⟨by rw [HX.out]; rfl, HB.out⟩
  · have HX := Lib.hid (hF2 fun k => h1 (by omega))
    have h1' : decide (kind < 1) = true := by simp; omega
    clear hF1 hF2 hm hmin
    go_enter Try.func12, Try.ntmps12
    go_wp2
    go_ret
    exact ⟨by rw [HX.out]; rfl, HB.out⟩

set_option maxHeartbeats 4000000 in
/-- The document's Formed of steps. -/
theorem refScFormed_any (v : SV) (x : Sc.Stp) (w : World) (h : StpRd w w.heap.size v x) :
    Calls Try.prog 13 #[.agg (v.val x)] w fun e w' => e = .returned (.bool (Sc.fmB x)) ∧ Below w.heap.size w w' := by
  obtain ⟨A1, n1, c1, A2, n2, c2⟩ := v
  have hb0 : Below w.heap.size w (w.alloc (.cells (SV.val ⟨A1, n1, c1, A2, n2, c2⟩ x) 25)) := (Below.refl _ _).alloc (Nat.le_refl _) _
  have hx0 := Blk.new w 25 (SV.val ⟨A1, n1, c1, A2, n2, c2⟩ x)
  have H1 := refFormedS_any A1 n1 c1 x.s _ h.l1 (h.go hb0).r1
  have hF1 := fun h1 h2 h3 => fmB_all (x := x) h1 h2 h3
  have hF2 := fmB_no (x := x)
  have hF3 : Sn.fmS (-2) x.s = false → Sc.fmB x = false := fun h => by
    unfold Sc.fmB
    rw [decide_eq_false_iff_not]
    rintro ⟨_, _, _, _, _, _, h', _⟩
    rw [h] at h'; cases h'
  rw [h.l2] at hF1 hF2
  obtain ⟨kind, a, b, obj, n, s, v⟩ := x
  generalize Sc.fmB ⟨kind, a, b, obj, n, s, v⟩ = res at hF1 hF2 hF3 ⊢
  simp only at H1 hF1 hF2 hF3
  simp only [SV.val] at H1 hb0 hx0
  generalize Sn.fmS (-2) s = fs at H1 hF1 hF3
  have G1 := Lib.hid H1
  have HB := Lib.hid hb0
  have HX0 := Lib.hid hx0
  clear h H1 hb0 hx0
  by_cases h1 : 1 ≤ kind
  rotate_left
  · have HX := Lib.hid (hF2 fun k => h1 (by omega))
    have h1' : decide (1 ≤ kind) = false := by simp; omega
    clear hF1 hF2 hF3 HX0
    go_enter Try.func13, Try.ntmps13
    go_wp2
    go_ret
    exact ⟨by rw [HX.out]; rfl, HB.out⟩
  by_cases h2 : kind ≤ 15
  rotate_left
  · have HX := Lib.hid (hF2 fun k => h2 (by omega))
    have h2' : decide (kind ≤ 15) = false := by simp; omega
    clear hF1 hF2 hF3 HX0
    go_enter Try.func13, Try.ntmps13
    go_wp2
    go_ret
    exact ⟨by rw [HX.out]; rfl, HB.out⟩
  by_cases h3 : 0 ≤ a
  rotate_left
  · have HX := Lib.hid (hF2 fun k => h3 (by omega))
    have h3' : decide (0 ≤ a) = false := by simp; omega
    clear hF1 hF2 hF3 HX0
    go_enter Try.func13, Try.ntmps13
    go_wp2
    go_ret
    exact ⟨by rw [HX.out]; rfl, HB.out⟩
  by_cases h4 : 0 ≤ b
  rotate_left
  · have HX := Lib.hid (hF2 fun k => h4 (by omega))
    have h4' : decide (0 ≤ b) = false := by simp; omega
    clear hF1 hF2 hF3 HX0
    go_enter Try.func13, Try.ntmps13
    go_wp2
    go_ret
    exact ⟨by rw [HX.out]; rfl, HB.out⟩
  by_cases h5 : 0 ≤ obj
  rotate_left
  · have HX := Lib.hid (hF2 fun k => h5 (by omega))
    have h5' : decide (0 ≤ obj) = false := by simp; omega
    clear hF1 hF2 hF3 HX0
    go_enter Try.func13, Try.ntmps13
    go_wp2
    go_ret
    exact ⟨by rw [HX.out]; rfl, HB.out⟩
  by_cases h6 : 0 ≤ n
  rotate_left
  · have HX := Lib.hid (hF2 fun k => h6 (by omega))
    have h6' : decide (0 ≤ n) = false := by simp; omega
    clear hF1 hF2 hF3 HX0
    go_enter Try.func13, Try.ntmps13
    go_wp2
    go_ret
    exact ⟨by rw [HX.out]; rfl, HB.out⟩
  rcases fs with _ | _
  · have HX := Lib.hid (hF3 rfl)
    clear hF1 hF2 hF3
    go_enter Try.func13, Try.ntmps13
    go_wp2_with fail
    refine G1.out.mono ?_
    rintro e w1 ⟨rfl, hb1⟩
    go_wp2
    go_ret
    exact ⟨by rw [HX.out]; rfl, below_then HB.out (Nat.le_refl _) hb1⟩
  · by_cases h7 : n2 ≤ 256
    · have HX := Lib.hid (hF1 h1 h2 (by omega) h3 h4 h5 h6)
      clear hF1 hF2 hF3
      go_enter Try.func13, Try.ntmps13
      go_wp2_with fail
      refine G1.out.mono ?_
      rintro e w1 ⟨rfl, hb1⟩
      have q6 := (HX0.out.go hb1).cell 6
      go_wp2
      go_ret
      exact ⟨by rw [HX.out]; simp; omega, below_then HB.out (Nat.le_refl _) hb1⟩
    · have HX := Lib.hid (hF2 fun k => h7 (by omega))
      clear hF1 hF2 hF3
      go_enter Try.func13, Try.ntmps13
      go_wp2_with fail
      refine G1.out.mono ?_
      rintro e w1 ⟨rfl, hb1⟩
      have q6 := (HX0.out.go hb1).cell 6
      go_wp2
      go_ret
      exact ⟨by rw [HX.out]; simp; omega, below_then HB.out (Nat.le_refl _) hb1⟩
end Go.Proofs.Ytldcgmnfohhjbac
