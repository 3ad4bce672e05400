/- Lemmas for the claim, layer 51. -/
import Derived.Test.YtmbeahbgafkjfaaGreatDoorCards
import Derived.Test.YtmbeahbgafkjfaaGreatDoorTie
import Derived.Deep.DeepHandedRow
import Derived.Lib.LaidTab
import Derived.Test.YtmbeahbgafkjfaaGreatDoorKd50
set_option maxRecDepth 100000
namespace Go.Proofs.YtmbeahbgafkjfaaGreatDoor
open Go.ChangeShapes Go.WideShapes Go.ChangeAt Go.RowKit
theorem gTab : Tryz.prog.globalNamed "math/bits.deBruijn64tab" = some 0 := by kernel_rfl
theorem gTabType:(Tryz.prog.globals[0]?).map (·.type)=some 256:=by kernel_rfl
theorem cellsTab:Tryz.prog.cellsOf 256=64:=by kernel_rfl
theorem cellsU8:Tryz.prog.cellsOf 5=1:=by kernel_rfl
theorem table {W:World} (h:laidMetH Tryz.prog Rows.entryEncodesRow.laid W):Tab W:=fun j hj=>by
 have ht : Lib.TabIs Tryz.prog W "math/bits.deBruijn64tab" .u8 (Lib.deBruijn64tab.map Int.ofNat) := Lib.tabIs_of_head (rest := []) gTab gTabType Tryz.underlying256 Tryz.underlying5 cellsU8 cellsTab h
 have:=ht.cell gTab j (by rw[List.length_map];exact hj)
 rw[this]
 simp[List.getD,List.getElem?_eq_getElem hj]
noncomputable def laidWorld (os:Os):World:=
 { World.holding Tryz.prog os ⟨#[],#[],[]⟩ with heap:=(World.holding Tryz.prog os ⟨#[],#[],[]⟩).heap.modify 0 fun
   | .cells _ t frozen=>.cells (Lib.deBruijn64tab.map fun n:Nat=>Value.int .u8 (Int.ofNat n)).toArray t frozen
   | o=>o }
section
variable {H:Type} {enc:TypeId×Value→H} {W:World}
end
theorem plain_of {nm:String} {k:FuncId} {fk:Func} (h1:Tryz.prog.funcNamed nm=some k) (h2:Tryz.prog.funcs[k]?=some fk) (h3:(fk.params.toList.all fun t=>!Tryz.prog.wantsStandIn t)=true) (h4:true=Tryz.pinned.checked.prog.looks [])
  (f:FuncId) (fn:Func) (hf:Tryz.pinned.checked.prog.funcNamed nm=some f) (hfn:Tryz.pinned.checked.prog.funcs[f]?=some fn):
  true=Tryz.pinned.checked.prog.looks []∧∀(j:Nat) t,fn.params[j]?=some t→Tryz.pinned.checked.prog.wantsStandIn t=false:=by
 obtain rfl:f=k:=(Option.some.inj (h1.symm.trans hf)).symm
 obtain rfl:fn=fk:=(Option.some.inj (h2.symm.trans hfn)).symm
 refine⟨h4,fun j t ht=>?_⟩
 have:=List.all_eq_true.1 h3 t (by simpa using Array.mem_of_getElem? ht)
 show Tryz.prog.wantsStandIn t=false
 simpa using this
end Go.Proofs.YtmbeahbgafkjfaaGreatDoor
