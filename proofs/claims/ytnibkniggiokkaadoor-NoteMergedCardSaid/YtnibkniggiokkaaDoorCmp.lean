/- cmp.Compare at int. -/
import Derived.Test.YtnibkniggiokkaaDoorRows
import Derived.Test.YtnibkniggiokkaaDoorWords
import Derived.Deep.QuietTactic
import Derived.BigQuiet
namespace Go.Proofs.YtnibkniggiokkaaDoor
set_option maxRecDepth 100000

theorem isNaN_any (x : Int) (w : World) : Calls Tryd.prog 80 #[.int .i64 x] w fun e w' => e = .returned (.bool false) ∧ w = w' := by
  go_enter Tryd.func80, Tryd.ntmps80
  go_wp2
  go_ret
  exact ⟨rfl, rfl⟩
def cmpI (x y : Int) : Int := if x < y then -1 else if y < x then 1 else 0

theorem cmpI_any (x y : Int) (w : World) : Calls Tryd.prog 54 #[.int .i64 x, .int .i64 y] w fun e w' => e = .returned (.int .i64 (cmpI x y)) ∧ w = w' := by
  have H1 := Lib.hid isNaN_any
  by_cases h1 : x < y
  · have HX := Lib.hid (show cmpI x y = -1 by unfold cmpI; rw [if_pos h1])
    go_enter Tryd.func54, Tryd.ntmps54
    go_wp2_with (go_at_call 80; go_must (refine (H1.out _ _).mono ?_); rintro e w' ⟨rfl, rfl⟩)
    go_ret
    exact ⟨by rw [HX.out]; rfl, rfl⟩
  · by_cases h2 : y < x
    · have HX := Lib.hid (show cmpI x y = 1 by unfold cmpI; rw [if_neg h1, if_pos h2])
      go_enter Tryd.func54, Tryd.ntmps54
      go_wp2_with (go_at_call 80; go_must (refine (H1.out _ _).mono ?_); rintro e w' ⟨rfl, rfl⟩)
      go_ret
      exact ⟨by rw [HX.out]; rfl, rfl⟩
    · have HX := Lib.hid (show cmpI x y = 0 by unfold cmpI; rw [if_neg h1, if_neg h2])
      go_enter Tryd.func54, Tryd.ntmps54
      go_wp2_with (go_at_call 80; go_must (refine (H1.out _ _).mono ?_); rintro e w' ⟨rfl, rfl⟩)
      go_ret
      exact ⟨by rw [HX.out]; rfl, rfl⟩
end Go.Proofs.YtnibkniggiokkaaDoor
