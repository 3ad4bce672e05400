/- How a note opens, in this seat. -/
import Derived.Test.YtndlcimckfndiaaDoorWrFs
import Derived.Test.YtndlcimckfndiaaDoorWmE
namespace Go.Proofs.YtndlcimckfndiaaDoor
open Go.ChangeShapes Go.WideShapes Go.ChangeAt Go.RowKit
set_option maxRecDepth 100000
section
variable {H : Type} {enc : TypeId × Value → H} {W : World}
theorem opens_writeC : Opens enc Tryd.prog W 100 wc (fun q _ => stWf q.1) :=
  (Opens.struct (tot := 4) Tryd.underlying100 (by kernel_rfl) (OpensFs.cons (s := 2) rfl (by kernel_rfl) opens_stamp (OpensFs.cons (s := 1) rfl (by kernel_rfl) opens_int (OpensFs.cons (s := 1) rfl (by kernel_rfl) (Opens.bool Tryd.underlying4) OpensFs.nil)))).map
    (fun x : Vc.St × Int × Bool × Unit => ((x.1, x.2.1, x.2.2.1) : Wr)) wc (fun q _ => stWf q.1) (fun _ => rfl) (fun _ _ ⟨_, _, _, _, _, h1, _⟩ => h1)
theorem opens_writesC : Opens enc Tryd.prog W 49 slv (SlOk W 4 wc (fun q _ => stWf q.1)) := Opens.slice Tryd.underlying49 (by kernel_rfl) (by decide) opens_writeC
/-- A note as it opens: it reads, and its counts can be laid. -/
structure NtOk (W : World) (q : NV × Nt) : Prop where
  rd : NtRd W W.heap.size q.1 q.2
  cts : Wq.ntC q.2
theorem opens_noteC : Opens enc Tryd.prog W 51 (fun q : NV × Nt => q.1.val.toList) (fun q _ => NtOk W q) :=
  (Opens.struct (tot := 4) Tryd.underlying51 (by kernel_rfl) (OpensFs.cons (s := 1) rfl (by kernel_rfl) opens_stamps (OpensFs.cons (s := 1) rfl (by kernel_rfl) opens_stamps (OpensFs.cons (s := 1) rfl (by kernel_rfl) opens_spans (OpensFs.cons (s := 1) rfl (by kernel_rfl) opens_writesC OpensFs.nil))))).map
    (fun x : Sl Vc.St × Sl Vc.St × Sl Sn.Sp × Sl Wr × Unit => ((⟨x.1.A, x.1.n, x.1.c, x.2.1.A, x.2.1.n, x.2.1.c, x.2.2.1.A, x.2.2.1.n, x.2.2.1.c, x.2.2.2.1.A, x.2.2.2.1.n, x.2.2.2.1.c⟩, ⟨x.1.xs, x.2.1.xs, x.2.2.1.xs, x.2.2.2.1.xs⟩) : NV × Nt))
    (fun q : NV × Nt => q.1.val.toList) (fun q _ => NtOk W q) (fun _ => rfl) (fun x _ h => by
      obtain ⟨d1, _, _, _, rfl, o1, d2, _, rfl, o2, d3, _, rfl, o3, d4, _, rfl, o4, _⟩ := h
      have k : ∀ {s : Sl Vc.St} {d : DataW H}, SlOk W 2 stc (fun s _ => stWf s) s d → Wq.cts s.xs := fun ok t ht => by obtain ⟨_, _, h1, _⟩ := ok.el t ht; have := i64_of_wf h1; omega
      exact ⟨⟨o1.len, o1.rd, o2.len, o2.rd, o3.len, o3.rd, o4.len, o4.rd⟩, k o1, k o2, fun t ht => by obtain ⟨_, _, h1, _⟩ := o4.el t ht; have := i64_of_wf h1; omega⟩)
theorem open_noteC {r : Reach} {b0 : Nat} {v : Value} {d : DataW H} {p : List MemPlace} (hv : Value.okWide Tryd.prog W r b0 51 v) (hT : DataW.Trod enc Tryd.prog W 0 (fun _ => true) true 51 v d p) :
    ∃ (q : NV) (x : Nt), v = .agg q.val ∧ NtRd W W.heap.size q x ∧ Wq.ntC x := by
  obtain ⟨q, rfl, ok⟩ := opens_noteC.arg_agg Tryd.underlying51 hv hT
  exact ⟨q.1, q.2, rfl, ok.rd, ok.cts⟩
end
end Go.Proofs.YtndlcimckfndiaaDoor
