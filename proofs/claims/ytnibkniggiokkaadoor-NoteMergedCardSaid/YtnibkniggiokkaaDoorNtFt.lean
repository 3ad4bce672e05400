/- What every law of seat F (notes, throughs) asks of the program, once: its types opened, its table. From XNtFr. -/
import Derived.Test.YtnibkniggiokkaaDoorNtE
import Derived.Test.YtnibkniggiokkaaDoorOpen
import Derived.Test.YtnibkniggiokkaaDoorCards
import Derived.Test.YtnibkniggiokkaaDoorTie
import Derived.Deep.DeepHandedRow
import Derived.Lib.LaidTab
namespace Go.Proofs.YtnibkniggiokkaaDoor
open Go.ChangeShapes Go.WideShapes Go.ChangeAt Go.RowKit
set_option maxRecDepth 100000
theorem own : ownKnob Tryd.prog.godebug = none := by kernel_rfl
theorem laidOut : laidOutB Tryd.prog = true := by kernel_rfl

theorem gTab : Tryd.prog.globalNamed "math/bits.deBruijn64tab" = some 0 := by kernel_rfl
theorem gTabType : (Tryd.prog.globals[0]?).map (·.type) = some 121 := by kernel_rfl
theorem cellsTab : Tryd.prog.cellsOf 121 = 64 := by kernel_rfl
theorem cellsU8 : Tryd.prog.cellsOf 5 = 1 := by kernel_rfl
theorem table {W : World} (h : laidMetH Tryd.prog Rows.noteThroughsRow.laid W) : Tab W := fun j hj => by
  have ht : Lib.TabIs Tryd.prog W "math/bits.deBruijn64tab" .u8 (Lib.deBruijn64tab.map Int.ofNat) := Lib.tabIs_of_head (rest := []) gTab gTabType Tryd.underlying121 Tryd.underlying5 cellsU8 cellsTab h
  have := ht.cell gTab j (by rw [List.length_map]; exact hj)
  rw [this]
  simp [List.getD, List.getElem?_eq_getElem hj]

/-- A world for the witness: the settled one, the table as its initialiser lays it. -/
noncomputable def laidWorld (os : Os) : World :=
  { World.holding Tryd.prog os ⟨#[], #[], []⟩ with heap := (World.holding Tryd.prog os ⟨#[], #[], []⟩).heap.modify 0 fun
      | .cells _ t frozen => .cells (Lib.deBruijn64tab.map fun n : Nat => Value.int .u8 (Int.ofNat n)).toArray t frozen
      | o => o }

section
variable {H : Type} {enc : TypeId × Value → H} {W : World}
def stWf (s : Vc.St) : Prop := (Lit.int .i64 s.1).wf = true ∧ (Lit.int .i64 s.2).wf = true
def stc (s : Vc.St) : List Value := [.int .i64 s.1, .int .i64 s.2]
theorem opens_int : Opens enc Tryd.prog W 3 (fun z : Int => [.int .i64 z]) (fun z _ => (Lit.int .i64 z).wf = true) := Opens.int Tryd.underlying3
theorem opens_stamp : Opens enc Tryd.prog W 44 stc (fun s _ => stWf s) :=
  (Opens.struct (tot := 2) Tryd.underlying44 (by kernel_rfl) (OpensFs.cons (s := 1) rfl (by kernel_rfl) opens_int (OpensFs.cons (s := 1) rfl (by kernel_rfl) opens_int OpensFs.nil))).map
    (fun x : Int × Int × Unit => ((x.1, x.2.1) : Vc.St)) stc (fun s _ => stWf s) (fun _ => rfl) (fun _ _ ⟨_, _, _, _, _, h1, _, _, _, h2, _⟩ => ⟨h1, h2⟩)
theorem opens_stamps : Opens enc Tryd.prog W 22 slv (SlOk W 2 stc (fun s _ => stWf s)) := Opens.slice Tryd.underlying22 (by kernel_rfl) (by decide) opens_stamp
theorem open_stamps {r : Reach} {b0 : Nat} {v : Value} {d : DataW H} {p : List MemPlace} (hv : Value.okWide Tryd.prog W r b0 22 v) (hT : DataW.Trod enc Tryd.prog W 0 (fun _ => true) true 22 v d p) (hf : Fit Tryd.prog 22 d) :
    ∃ A n c, ∃ l : List Vc.St, v = .slice A n c ∧ l.length = n ∧ Rd W W.heap.size 2 A n c (sv l) ∧ n ≤ 8796093022208 := by
  obtain ⟨s, rfl, ok⟩ := opens_stamps.arg_slice Tryd.underlying22 hv hT
  have h1 := (hf.slice Tryd.underlying22).1
  rw [show Tryd.prog.bytesOf 44 = 16 by kernel_rfl, ← ok.cap] at h1
  have h2 := ok.rd.cap
  exact ⟨s.A, s.n, s.c, s.xs, rfl, ok.len, ok.rd, by omega⟩
theorem open_stamp {r : Reach} {b0 : Nat} {v : Value} {d : DataW H} {p : List MemPlace} (hv : Value.okWide Tryd.prog W r b0 44 v) (hT : DataW.Trod enc Tryd.prog W 0 (fun _ => true) true 44 v d p) :
    ∃ x y, v = .agg #[.int .i64 x, .int .i64 y] := by
  obtain ⟨s, rfl, _⟩ := opens_stamp.arg_agg Tryd.underlying44 hv hT
  exact ⟨s.1, s.2, rfl⟩
theorem opens_span : Opens enc Tryd.prog W 37 stc (fun s _ => stWf s) :=
  (Opens.struct (tot := 2) Tryd.underlying37 (by kernel_rfl) (OpensFs.cons (s := 1) rfl (by kernel_rfl) opens_int (OpensFs.cons (s := 1) rfl (by kernel_rfl) opens_int OpensFs.nil))).map
    (fun x : Int × Int × Unit => ((x.1, x.2.1) : Sn.Sp)) stc (fun s _ => stWf s) (fun _ => rfl) (fun _ _ ⟨_, _, _, _, _, h1, _, _, _, h2, _⟩ => ⟨h1, h2⟩)
theorem opens_spans : Opens enc Tryd.prog W 23 slv (SlOk W 2 stc (fun s _ => stWf s)) := Opens.slice Tryd.underlying23 (by kernel_rfl) (by decide) opens_span
theorem open_spans {r : Reach} {b0 : Nat} {v : Value} {d : DataW H} {p : List MemPlace} (hv : Value.okWide Tryd.prog W r b0 23 v) (hT : DataW.Trod enc Tryd.prog W 0 (fun _ => true) true 23 v d p) (hf : Fit Tryd.prog 23 d) :
    ∃ A n c, ∃ l : List Sn.Sp, v = .slice A n c ∧ l.length = n ∧ Rd W W.heap.size 2 A n c (sv l) ∧ n ≤ 8796093022208 := by
  obtain ⟨s, rfl, ok⟩ := opens_spans.arg_slice Tryd.underlying23 hv hT
  have h1 := (hf.slice Tryd.underlying23).1
  rw [show Tryd.prog.bytesOf 37 = 16 by kernel_rfl, ← ok.cap] at h1
  have h2 := ok.rd.cap
  exact ⟨s.A, s.n, s.c, s.xs, rfl, ok.len, ok.rd, by omega⟩
theorem opens_write : Opens enc Tryd.prog W 46 wc (fun _ _ => True) :=
  (Opens.struct (tot := 4) Tryd.underlying46 (by kernel_rfl) (OpensFs.cons (s := 2) rfl (by kernel_rfl) opens_stamp (OpensFs.cons (s := 1) rfl (by kernel_rfl) opens_int (OpensFs.cons (s := 1) rfl (by kernel_rfl) (Opens.bool Tryd.underlying4) OpensFs.nil)))).map
    (fun x : Vc.St × Int × Bool × Unit => ((x.1, x.2.1, x.2.2.1) : Wr)) wc (fun _ _ => True) (fun _ => rfl) (fun _ _ _ => trivial)
theorem opens_writes : Opens enc Tryd.prog W 24 slv (SlOk W 4 wc (fun _ _ => True)) := Opens.slice Tryd.underlying24 (by kernel_rfl) (by decide) opens_write
theorem stamps_fit {d : DataW H} (hf : Fit Tryd.prog 22 d) : capOf d ≤ 8796093022208 := by
  have h1 := (hf.slice Tryd.underlying22).1
  rw [show Tryd.prog.bytesOf 44 = 16 by kernel_rfl] at h1
  omega
theorem spans_fit {d : DataW H} (hf : Fit Tryd.prog 23 d) : capOf d ≤ 8796093022208 := by
  have h1 := (hf.slice Tryd.underlying23).1
  rw [show Tryd.prog.bytesOf 37 = 16 by kernel_rfl] at h1
  omega
theorem writes_fit {d : DataW H} (hf : Fit Tryd.prog 24 d) : capOf d ≤ 4398046511104 := by
  have h1 := (hf.slice Tryd.underlying24).1
  rw [show Tryd.prog.bytesOf 46 = 32 by kernel_rfl] at h1
  omega
theorem open_write {r : Reach} {b0 : Nat} {v : Value} {d : DataW H} {p : List MemPlace} (hv : Value.okWide Tryd.prog W r b0 46 v) (hT : DataW.Trod enc Tryd.prog W 0 (fun _ => true) true 46 v d p) :
    ∃ q : Wr, v = .agg #[.int .i64 q.1.1, .int .i64 q.1.2, .int .i64 q.2.1, .bool q.2.2] := by
  obtain ⟨q, rfl, _⟩ := opens_write.arg_agg Tryd.underlying46 hv hT
  exact ⟨q, rfl⟩
theorem open_note {r : Reach} {b0 : Nat} {v : Value} {d : DataW H} {p : List MemPlace} (hv : Value.okWide Tryd.prog W r b0 26 v) (hT : DataW.Trod enc Tryd.prog W 0 (fun _ => true) true 26 v d p) (hf : Fit Tryd.prog 26 d) :
    ∃ (q : NV) (x : Nt), v = .agg q.val ∧ NtRd W W.heap.size q x ∧ NtSz q := by
  have ho := Opens.struct (enc := enc) (P := Tryd.prog) (W := W) (tot := 4) Tryd.underlying26 (by kernel_rfl) (OpensFs.cons (s := 1) rfl (by kernel_rfl) opens_stamps (OpensFs.cons (s := 1) rfl (by kernel_rfl) opens_stamps (OpensFs.cons (s := 1) rfl (by kernel_rfl) opens_spans (OpensFs.cons (s := 1) rfl (by kernel_rfl) opens_writes OpensFs.nil))))
  obtain ⟨x, rfl, ds, rfl, d1, _, rfl, o1, d2, _, rfl, o2, d3, _, rfl, o3, d4, _, rfl, o4, _⟩ := ho.arg_agg Tryd.underlying26 hv hT
  have f1 := stamps_fit (hf.agg Tryd.underlying26 (j := 0) rfl rfl)
  have f2 := stamps_fit (hf.agg Tryd.underlying26 (j := 1) rfl rfl)
  have f3 := spans_fit (hf.agg Tryd.underlying26 (j := 2) rfl rfl)
  have f4 := writes_fit (hf.agg Tryd.underlying26 (j := 3) rfl rfl)
  rw [← o1.cap] at f1
  rw [← o2.cap] at f2
  rw [← o3.cap] at f3
  rw [← o4.cap] at f4
  exact ⟨⟨x.1.A, x.1.n, x.1.c, x.2.1.A, x.2.1.n, x.2.1.c, x.2.2.1.A, x.2.2.1.n, x.2.2.1.c, x.2.2.2.1.A, x.2.2.2.1.n, x.2.2.2.1.c⟩, ⟨x.1.xs, x.2.1.xs, x.2.2.1.xs, x.2.2.2.1.xs⟩, rfl,
    ⟨o1.len, o1.rd, o2.len, o2.rd, o3.len, o3.rd, o4.len, o4.rd⟩, ⟨Nat.le_trans o1.rd.cap f1, Nat.le_trans o2.rd.cap f2, Nat.le_trans o3.rd.cap f3, Nat.le_trans o4.rd.cap f4⟩⟩
end

/-- No parameter wants a stand-in; the program's own looks are off. -/
theorem plain_of {nm : String} {k : FuncId} {fk : Func} (h1 : Tryd.prog.funcNamed nm = some k) (h2 : Tryd.prog.funcs[k]? = some fk) (h3 : (fk.params.toList.all fun t => !Tryd.prog.wantsStandIn t) = true) (h4 : false = Tryd.pinned.checked.prog.looks [])
    (f : FuncId) (fn : Func) (hf : Tryd.pinned.checked.prog.funcNamed nm = some f) (hfn : Tryd.pinned.checked.prog.funcs[f]? = some fn) :
    false = Tryd.pinned.checked.prog.looks [] ∧ ∀ (j : Nat) t, fn.params[j]? = some t → Tryd.pinned.checked.prog.wantsStandIn t = false := by
  obtain rfl : f = k := (Option.some.inj (h1.symm.trans hf)).symm
  obtain rfl : fn = fk := (Option.some.inj (h2.symm.trans hfn)).symm
  refine ⟨h4, fun j t ht => ?_⟩
  have := List.all_eq_true.1 h3 t (by simpa using Array.mem_of_getElem? ht)
  show Tryd.prog.wantsStandIn t = false
  simpa using this
end Go.Proofs.YtnibkniggiokkaaDoor
