/- Lemmas for the claim, layer 24. -/
import Derived.Test.YtmbeahbgafkjfaaGreatDoorKc23
set_option maxRecDepth 100000
namespace Go.Proofs.YtmbeahbgafkjfaaGreatDoor
open Go.RowKit
theorem blkOfT {W:World} {t:TypeId} {cs:Array Value} (_:Below W.heap.size W (W.alloc (.cells cs t))):Blk (W.alloc (.cells cs t)) W.heap.size t cs:=Blk.new W t cs
end Go.Proofs.YtmbeahbgafkjfaaGreatDoor
