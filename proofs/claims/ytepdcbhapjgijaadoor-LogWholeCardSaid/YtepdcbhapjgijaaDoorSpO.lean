/- Walks over span.Touch, span.Covers. -/
import Derived.Test.YtepdcbhapjgijaaDoorSpM
import Derived.Test.YtepdcbhapjgijaaDoorMSn
import Derived.Deep.LoopGhost
namespace Go.Proofs.YtepdcbhapjgijaaDoor
open Go.RowKit
set_option maxRecDepth 100000

theorem fmS_from {l : List Sn.Sp} {e : Int} (h : Sn.fmS e l = true) : ∀ j, ∃ f, Sn.fmS f (l.drop j) = true := by
  intro j
  induction j generalizing l e with
  | zero => exact ⟨e, h⟩
  | succ j ih =>
    cases l with
    | nil => exact ⟨e, by simpa using h⟩
    | cons s r =>
      obtain ⟨_, _, _, _, h5⟩ := Sn.fmS_cons.1 h
      exact ih h5

end Go.Proofs.YtepdcbhapjgijaaDoor
