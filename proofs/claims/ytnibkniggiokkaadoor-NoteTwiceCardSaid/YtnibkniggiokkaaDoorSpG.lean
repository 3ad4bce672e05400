/- Walk over span.Meet (printed by wip/tools/genSpG.py). -/
import Derived.Test.YtnibkniggiokkaaDoorSpF
import Derived.BigQuiet
namespace Go.Proofs.YtnibkniggiokkaaDoor
open Go.RowKit
set_option maxRecDepth 100000

theorem own_drew_ {w : World} {base : Nat} {e : TypeId} {size n : Nat} {v : Value} {xs : List Value} (h : w.ownsRow base e size v n xs) : w.drew.ownsRow base e size v n xs := h
/-- How long a slice is. -/
def slLen : Value → Nat
  | .slice _ n _ => n
  | _ => 0
end Go.Proofs.YtnibkniggiokkaaDoor
