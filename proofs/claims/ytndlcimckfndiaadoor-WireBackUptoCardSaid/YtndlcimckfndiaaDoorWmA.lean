/- Walk: the document's empty body. -/
import Derived.Test.YtndlcimckfndiaaDoorMWk
namespace Go.Proofs.YtndlcimckfndiaaDoor
open Go.RowKit
set_option maxRecDepth 100000

set_option maxHeartbeats 2000000 in
theorem refEmpty_any (x : Wq.Bd) (A : Option Addr) (c : Nat) (w : World) :
    Calls Tryd.prog 75 #[.agg (bval x A c)] w fun e w' => e = .returned (.bool (Wq.emB x)) ∧ Below w.heap.size w w' := by
  obtain ⟨o, ⟨a, b⟩, v⟩ := x
  unfold bval Wq.emB
  dsimp only
  generalize v.length = n
  obtain ⟨q0, q1, q2, q3⟩ := (Blk.new w 63 #[.int .i64 o, .int .i64 a, .int .i64 b, .slice A n c]).four
  have HB := Lib.hid (show Below w.heap.size w (w.alloc (.cells #[.int .i64 o, .int .i64 a, .int .i64 b, .slice A n c] 63)) from (Below.refl _ _).alloc (Nat.le_refl _) _)
  by_cases h1 : a = 0
  · by_cases h2 : b = 0
    · by_cases h3 : n = 0
      · subst h1 h2 h3
        go_enter Tryd.func75, Tryd.ntmps75
        go_wp2
        go_ret
        exact ⟨by simp, HB.out⟩
      · subst h1 h2
        go_enter Tryd.func75, Tryd.ntmps75
        go_wp2
        go_ret
        exact ⟨by simp [h3], HB.out⟩
    · subst h1
      go_enter Tryd.func75, Tryd.ntmps75
      go_wp2
      all_goals go_ret
      all_goals exact ⟨by simp [h2], HB.out⟩
  · go_enter Tryd.func75, Tryd.ntmps75
    go_wp2
    all_goals go_ret
    all_goals exact ⟨by simp [h1], HB.out⟩
end Go.Proofs.YtndlcimckfndiaaDoor
