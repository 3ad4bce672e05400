/- Lemmas, layer 7. -/
import Derived.Test.YtmbeahbgafkjfaaGreatDoorKp06
set_option linter.unusedSimpArgs false
set_option maxRecDepth 100000
namespace Go.Proofs.YtmbeahbgafkjfaaGreatDoor
open Go.RowKit
theorem Zd.but {w w':World} {g base:Nat} {v:NV} {x:Nt} (h:Zd w base v x) (k:JF g w w') (hg:g < base):Zd w' base v x:=
 ⟨h.l1,Qf h.o1 k hg,h.l2,Qf h.o2 k hg,h.l3,Qf h.o3 k hg,h.l4,Qf h.o4 k hg⟩
section
variable {w w':World} {base X:Nat} {v:NV} {x:Nt}
end
end Go.Proofs.YtmbeahbgafkjfaaGreatDoor
