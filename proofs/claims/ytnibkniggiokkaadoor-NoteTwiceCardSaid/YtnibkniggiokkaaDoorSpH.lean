/- Walk over span.Less. -/
import Derived.Test.YtnibkniggiokkaaDoorSpG
namespace Go.Proofs.YtnibkniggiokkaaDoor
open Go.RowKit
set_option maxRecDepth 100000

theorem restL_len (l : List Sn.Sp) : (Sn.restL l).length ≤ 128 := Sn.fmS_128 (Sn.of_fm _)
end Go.Proofs.YtnibkniggiokkaaDoor
