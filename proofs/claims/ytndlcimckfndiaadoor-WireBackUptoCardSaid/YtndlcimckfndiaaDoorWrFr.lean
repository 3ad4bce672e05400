/- What every law of this seat asks of the program, once: its types opened, its table. -/
import Derived.Test.YtndlcimckfndiaaDoorWrU
import Derived.Test.YtndlcimckfndiaaDoorUpto
import Derived.Test.YtndlcimckfndiaaDoorCards
import Derived.Test.YtndlcimckfndiaaDoorTie
import Derived.Deep.DeepHandedRow
import Derived.Lib.LaidTab
namespace Go.Proofs.YtndlcimckfndiaaDoor
open Go.ChangeShapes Go.WideShapes Go.ChangeAt Go.RowKit
set_option maxRecDepth 100000
theorem gTab : Tryd.prog.globalNamed "math/bits.deBruijn64tab" = some 0 := by kernel_rfl
theorem gTabType : (Tryd.prog.globals[0]?).map (·.type) = some 141 := by kernel_rfl
theorem cellsTab : Tryd.prog.cellsOf 141 = 64 := by kernel_rfl
theorem cellsU8 : Tryd.prog.cellsOf 5 = 1 := by kernel_rfl
theorem table {W : World} (h : laidMetH Tryd.prog Rows.wireVectorsRow.laid W) : Tab W := fun j hj => by
  have ht : Lib.TabIs Tryd.prog W "math/bits.deBruijn64tab" .u8 (Lib.deBruijn64tab.map Int.ofNat) := Lib.tabIs_of_head (rest := []) gTab gTabType Tryd.underlying141 Tryd.underlying5 cellsU8 cellsTab h
  have := ht.cell gTab j (by rw [List.length_map]; exact hj)
  rw [this]
  simp [List.getD, List.getElem?_eq_getElem hj]

/-- A world for the witness: the settled one, the table as its initialiser lays it. -/
noncomputable def laidWorld (os : Os) : World :=
  { World.holding Tryd.prog os ⟨#[], #[], []⟩ with heap := (World.holding Tryd.prog os ⟨#[], #[], []⟩).heap.modify 0 fun
      | .cells _ t frozen => .cells (Lib.deBruijn64tab.map fun n : Nat => Value.int .u8 (Int.ofNat n)).toArray t frozen
      | o => o }

section
variable {H : Type} {enc : TypeId × Value → H} {W : World}
def stWf (s : Vc.St) : Prop := (Lit.int .i64 s.1).wf = true ∧ (Lit.int .i64 s.2).wf = true
def stc (s : Vc.St) : List Value := [.int .i64 s.1, .int .i64 s.2]
theorem opens_int : Opens enc Tryd.prog W 3 (fun z : Int => [.int .i64 z]) (fun z _ => (Lit.int .i64 z).wf = true) := Opens.int Tryd.underlying3
theorem opens_stamp : Opens enc Tryd.prog W 61 stc (fun s _ => stWf s) :=
  (Opens.struct (tot := 2) Tryd.underlying61 (by kernel_rfl) (OpensFs.cons (s := 1) rfl (by kernel_rfl) opens_int (OpensFs.cons (s := 1) rfl (by kernel_rfl) opens_int OpensFs.nil))).map
    (fun x : Int × Int × Unit => ((x.1, x.2.1) : Vc.St)) stc (fun s _ => stWf s) (fun _ => rfl) (fun _ _ ⟨_, _, _, _, _, h1, _, _, _, h2, _⟩ => ⟨h1, h2⟩)
theorem opens_stamps : Opens enc Tryd.prog W 22 slv (SlOk W 2 stc (fun s _ => stWf s)) := Opens.slice Tryd.underlying22 (by kernel_rfl) (by decide) opens_stamp
theorem opens_span : Opens enc Tryd.prog W 97 stc (fun s _ => stWf s) :=
  (Opens.struct (tot := 2) Tryd.underlying97 (by kernel_rfl) (OpensFs.cons (s := 1) rfl (by kernel_rfl) opens_int (OpensFs.cons (s := 1) rfl (by kernel_rfl) opens_int OpensFs.nil))).map
    (fun x : Int × Int × Unit => ((x.1, x.2.1) : Sn.Sp)) stc (fun s _ => stWf s) (fun _ => rfl) (fun _ _ ⟨_, _, _, _, _, h1, _, _, _, h2, _⟩ => ⟨h1, h2⟩)
theorem opens_spans : Opens enc Tryd.prog W 40 slv (SlOk W 2 stc (fun s _ => stWf s)) := Opens.slice Tryd.underlying40 (by kernel_rfl) (by decide) opens_span
theorem open_stampsC {r : Reach} {b0 : Nat} {v : Value} {d : DataW H} {p : List MemPlace} (hv : Value.okWide Tryd.prog W r b0 22 v) (hT : DataW.Trod enc Tryd.prog W 0 (fun _ => true) true 22 v d p) :
    ∃ A n c, ∃ l : List Vc.St, v = .slice A n c ∧ l.length = n ∧ Rd W W.heap.size 2 A n c (sv l) ∧ Wq.cts l := by
  obtain ⟨s, rfl, ok⟩ := opens_stamps.arg_slice Tryd.underlying22 hv hT
  exact ⟨s.A, s.n, s.c, s.xs, rfl, ok.len, ok.rd, fun x hx => by obtain ⟨_, _, h1, _⟩ := ok.el x hx; have := i64_of_wf h1; omega⟩
theorem open_spansC {r : Reach} {b0 : Nat} {v : Value} {d : DataW H} {p : List MemPlace} (hv : Value.okWide Tryd.prog W r b0 40 v) (hT : DataW.Trod enc Tryd.prog W 0 (fun _ => true) true 40 v d p) :
    ∃ A n c, ∃ l : List Sn.Sp, v = .slice A n c ∧ l.length = n ∧ Rd W W.heap.size 2 A n c (sv l) ∧ True := by
  obtain ⟨s, rfl, ok⟩ := opens_spans.arg_slice Tryd.underlying40 hv hT
  exact ⟨s.A, s.n, s.c, s.xs, rfl, ok.len, ok.rd, trivial⟩
end

/-- No parameter wants a stand-in; the program's own looks are off. -/
theorem plain_of {nm : String} {k : FuncId} {fk : Func} (h1 : Tryd.prog.funcNamed nm = some k) (h2 : Tryd.prog.funcs[k]? = some fk) (h3 : (fk.params.toList.all fun t => !Tryd.prog.wantsStandIn t) = true) (h4 : false = Tryd.pinned.checked.prog.looks [])
    (f : FuncId) (fn : Func) (hf : Tryd.pinned.checked.prog.funcNamed nm = some f) (hfn : Tryd.pinned.checked.prog.funcs[f]? = some fn) :
    false = Tryd.pinned.checked.prog.looks [] ∧ ∀ (j : Nat) t, fn.params[j]? = some t → Tryd.pinned.checked.prog.wantsStandIn t = false := by
  obtain rfl : f = k := (Option.some.inj (h1.symm.trans hf)).symm
  obtain rfl : fn = fk := (Option.some.inj (h2.symm.trans hfn)).symm
  refine ⟨h4, fun j t ht => ?_⟩
  have := List.all_eq_true.1 h3 t (by simpa using Array.mem_of_getElem? ht)
  show Tryd.prog.wantsStandIn t = false
  simpa using this
end Go.Proofs.YtndlcimckfndiaaDoor
