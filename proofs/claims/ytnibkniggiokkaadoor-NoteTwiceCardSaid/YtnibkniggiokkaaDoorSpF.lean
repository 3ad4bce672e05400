/- Walks over span.rest (and what a call that hands out a row of its own says). -/
import Derived.Test.YtnibkniggiokkaaDoorSpE
namespace Go.Proofs.YtnibkniggiokkaaDoor
open Go.RowKit
set_option maxRecDepth 100000

/-- What a call that hands out spans of its own says. -/
def SpOut (w w' : World) (e : Ending) (l : List Sn.Sp) : Prop :=
  ∃ A' c', e = .returned (.slice A' l.length c') ∧ w'.ownsRow w.heap.size 37 2 (.slice A' l.length c') l.length (sv l) ∧ Below w.heap.size w w'

end Go.Proofs.YtnibkniggiokkaaDoor
