/- Lemmas for the claim, layer 10. -/
import Derived.Test.YtmbeahbgafkjfaaGreatDoorKc09
set_option maxRecDepth 100000
namespace Go.Proofs.YtmbeahbgafkjfaaGreatDoor
open Go.RowKit
theorem NtOwn.but {w w':World} {g base:Nat} {v:NV} {x:Nt} (h:NtOwn w base v x) (k:But g w w') (hg:g < base):NtOwn w' base v x:=
 ⟨h.l1,own_but h.o1 k hg,h.l2,own_but h.o2 k hg,h.l3,own_but h.o3 k hg,h.l4,own_but h.o4 k hg⟩
section
variable {w w':World} {base X:Nat} {v:NV} {x:Nt}
end
end Go.Proofs.YtmbeahbgafkjfaaGreatDoor
