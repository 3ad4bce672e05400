/- Lemmas for the claim, layer 22. -/
import Derived.Test.YtmbeahbgafkjfaaGreatDoorKb15
set_option maxRecDepth 100000
namespace Go.Proofs.YtmbeahbgafkjfaaGreatDoor
open Go.RowKit
def w0_:Wr:=((0,0),0,false)
def wcA (q:Wr):Array Value:=#[.int .i64 q.1.1,.int .i64 q.1.2,.int .i64 q.2.1,.bool q.2.2]
theorem wcA_one (q:Wr):(wcA q).all (·.oneCell')=true:=by simp[wcA,Value.oneCell']
theorem write_zero:(Tryz.prog.info? 70).map (fun i=>(i.zero,i.size))=some (some (.agg (wcA w0_)),4):=by kernel_rfl
def atQ (l:List Wr) (o:Int):Wr:=(atO l o).getD w0_
def atB (l:List Wr) (o:Int):Bool:=(atO l o).isSome
end Go.Proofs.YtmbeahbgafkjfaaGreatDoor
