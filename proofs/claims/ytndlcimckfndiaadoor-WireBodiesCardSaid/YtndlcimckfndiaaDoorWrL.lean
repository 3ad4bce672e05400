/- Walks: is a body formed? (wire.right, the document's Right). -/
import Derived.Test.YtndlcimckfndiaaDoorWrK
namespace Go.Proofs.YtndlcimckfndiaaDoor
open Go.RowKit
set_option maxRecDepth 100000

set_option maxHeartbeats 2000000 in
theorem bodyRight_any (x : Wq.Bd) (A : Option Addr) (c : Nat) (w : World) :
    Calls Tryd.prog 67 #[.agg (bval x A c)] w fun e w' => e = .returned (.bool (Wq.bdF x)) ∧ Below w.heap.size w w' := by
  obtain ⟨o, ⟨a, b⟩, v⟩ := x
  unfold bval Wq.bdF
  dsimp only
  generalize v.length = n
  have hX := Blk.new w 63 #[.int .i64 o, .int .i64 a, .int .i64 b, .slice A n c]
  have hb0 : Below w.heap.size w (w.alloc (.cells #[.int .i64 o, .int .i64 a, .int .i64 b, .slice A n c] 63)) := (Below.refl _ _).alloc (Nat.le_refl _) _
  have HX := Lib.hid hX
  have HB := Lib.hid hb0
  have HG := Lib.hid fun W => right_any a b W
  have e2 : decide (n ≤ 256) = decide ((n : Int) ≤ 256) := by rw [Bool.eq_iff_iff]; simp; omega
  rw [e2]
  clear hX hb0 e2
  generalize Vc.right (a, b) = z at HG
  by_cases h0 : 0 ≤ o
  · by_cases h1 : o < 256
    · have e1 : decide (o ≤ 255) = true := by simp; omega
      have h2 : o ≤ 255 := by omega
      rw [decide_eq_true h0, e1]
      simp only [Bool.true_and]
      rcases z with _ | _
      all_goals
        go_enter Tryd.func67, Tryd.ntmps67
        go_wp2_with (go_at_call 79; go_must (refine (HG.out _).mono ?_); rintro e w1 ⟨rfl, hb1⟩; have q2 := (HX.out.go hb1).cell 3)
        go_ret
        exact ⟨rfl, below_then HB.out (Nat.le_refl _) hb1⟩
    · have e1 : decide (o ≤ 255) = false := by simp; omega
      have h2 : ¬ o ≤ 255 := by omega
      rw [decide_eq_true h0, e1]
      simp only [Bool.true_and, Bool.false_and]
      go_enter Tryd.func67, Tryd.ntmps67
      go_wp2
      go_ret
      exact ⟨rfl, HB.out⟩
  · rw [decide_eq_false h0]
    simp only [Bool.false_and]
    go_enter Tryd.func67, Tryd.ntmps67
    go_wp2
    go_ret
    exact ⟨rfl, HB.out⟩

set_option maxHeartbeats 2000000 in
theorem refBodyRight_any (x : Wq.Bd) (A : Option Addr) (c : Nat) (w : World) :
    Calls Tryd.prog 31 #[.agg (bval x A c)] w fun e w' => e = .returned (.bool (Wq.bdF x)) ∧ Below w.heap.size w w' := by
  obtain ⟨o, ⟨a, b⟩, v⟩ := x
  unfold bval Wq.bdF
  dsimp only
  generalize v.length = n
  have hX := Blk.new w 63 #[.int .i64 o, .int .i64 a, .int .i64 b, .slice A n c]
  have hb0 : Below w.heap.size w (w.alloc (.cells #[.int .i64 o, .int .i64 a, .int .i64 b, .slice A n c] 63)) := (Below.refl _ _).alloc (Nat.le_refl _) _
  have HX := Lib.hid hX
  have HB := Lib.hid hb0
  have HG := Lib.hid fun W => refRight_any a b W
  have e2 : decide (n ≤ 256) = decide ((n : Int) ≤ 256) := by rw [Bool.eq_iff_iff]; simp; omega
  rw [e2]
  clear hX hb0 e2
  generalize Vc.right (a, b) = z at HG
  by_cases h0 : 0 ≤ o
  · by_cases h1 : o < 256
    · have e1 : decide (o ≤ 255) = true := by simp; omega
      have h2 : o ≤ 255 := by omega
      rw [decide_eq_true h0, e1]
      simp only [Bool.true_and]
      rcases z with _ | _
      all_goals
        go_enter Tryd.func31, Tryd.ntmps31
        go_wp2_with (go_at_call 46; go_must (refine (HG.out _).mono ?_); rintro e w1 ⟨rfl, hb1⟩; have q2 := (HX.out.go hb1).cell 3)
        go_ret
        exact ⟨rfl, below_then HB.out (Nat.le_refl _) hb1⟩
    · have e1 : decide (o ≤ 255) = false := by simp; omega
      have h2 : ¬ o ≤ 255 := by omega
      rw [decide_eq_true h0, e1]
      simp only [Bool.true_and, Bool.false_and]
      go_enter Tryd.func31, Tryd.ntmps31
      go_wp2
      go_ret
      exact ⟨rfl, HB.out⟩
  · rw [decide_eq_false h0]
    simp only [Bool.false_and]
    go_enter Tryd.func31, Tryd.ntmps31
    go_wp2
    go_ret
    exact ⟨rfl, HB.out⟩
end Go.Proofs.YtndlcimckfndiaaDoor
