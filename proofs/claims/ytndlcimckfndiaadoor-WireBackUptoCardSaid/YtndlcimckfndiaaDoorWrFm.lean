/- How a message opens, in this seat. -/
import Derived.Test.YtndlcimckfndiaaDoorWrFn
import Derived.Test.YtndlcimckfndiaaDoorWmB
namespace Go.Proofs.YtndlcimckfndiaaDoor
open Go.ChangeShapes Go.WideShapes Go.ChangeAt Go.RowKit
set_option maxRecDepth 100000
section
variable {H : Type} {enc : TypeId × Value → H} {W : World}
theorem opens_notesC : Opens enc Tryd.prog W 72 slv (SlOk W 4 (fun q : NV × Nt => q.1.val.toList) (fun q _ => NtOk W q)) := Opens.slice Tryd.underlying72 (by kernel_rfl) (by decide) opens_noteC
theorem stamps_fitC {d : DataW H} (hf : Fit Tryd.prog 22 d) : capOf d ≤ 8796093022208 := by
  have h1 := (hf.slice Tryd.underlying22).1
  rw [show Tryd.prog.bytesOf 61 = 16 by kernel_rfl] at h1
  omega
theorem spans_fitC {d : DataW H} (hf : Fit Tryd.prog 40 d) : capOf d ≤ 8796093022208 := by
  have h1 := (hf.slice Tryd.underlying40).1
  rw [show Tryd.prog.bytesOf 97 = 16 by kernel_rfl] at h1
  omega
theorem open_msgC {r : Reach} {b0 : Nat} {v : Value} {d : DataW H} {p : List MemPlace} (hv : Value.okWide Tryd.prog W r b0 74 v) (hT : DataW.Trod enc Tryd.prog W 0 (fun _ => true) true 74 v d p) (hf : Fit Tryd.prog 74 d) :
    ∃ (m : Wq.Ms) (u : MV) (L : List (NV × Nt)), v = .agg (mval m u) ∧ MsRd W W.heap.size u m L ∧ Wq.msC m ∧ m.i.length + m.v.length ≤ 9223372036854775807 := by
  have hb := Opens.struct (enc := enc) (P := Tryd.prog) (W := W) (tot := 4) Tryd.underlying63 (by kernel_rfl) (OpensFs.cons (s := 1) rfl (by kernel_rfl) opens_int (OpensFs.cons (s := 2) rfl (by kernel_rfl) opens_stamp (OpensFs.cons (s := 1) rfl (by kernel_rfl) opens_bytes OpensFs.nil)))
  have ho := Opens.struct (enc := enc) (P := Tryd.prog) (W := W) (tot := 12) Tryd.underlying74 (by kernel_rfl) (OpensFs.cons (s := 1) rfl (by kernel_rfl) opens_int (OpensFs.cons (s := 1) rfl (by kernel_rfl) opens_int (OpensFs.cons (s := 1) rfl (by kernel_rfl) opens_int (OpensFs.cons (s := 1) rfl (by kernel_rfl) opens_int (OpensFs.cons (s := 1) rfl (by kernel_rfl) opens_int
    (OpensFs.cons (s := 1) rfl (by kernel_rfl) opens_spans (OpensFs.cons (s := 1) rfl (by kernel_rfl) opens_stamps (OpensFs.cons (s := 1) rfl (by kernel_rfl) opens_notesC (OpensFs.cons (s := 4) rfl (by kernel_rfl) hb OpensFs.nil)))))))))
  obtain ⟨x, rfl, ds, rfl, d1, _, rfl, w1, d2, _, rfl, w2, d3, _, rfl, w3, d4, _, rfl, w4, d5, _, rfl, w5, d6, _, rfl, o6, d7, _, rfl, o7, d8, _, rfl, o8, d9, _, rfl, o9, _⟩ := ho.arg_agg Tryd.underlying74 hv hT
  obtain ⟨bs, rfl, e1, _, rfl, y1, e2, _, rfl, y2, e3, _, rfl, y3, _⟩ := o9
  have f6 := spans_fitC (hf.agg Tryd.underlying74 (j := 5) rfl rfl)
  have f7 := stamps_fitC (hf.agg Tryd.underlying74 (j := 6) rfl rfl)
  rw [← o6.cap] at f6
  rw [← o7.cap] at f7
  have g6 := o6.rd.cap
  have g7 := o7.rd.cap
  have hl8 : (nts x.2.2.2.2.2.2.2.1.xs).length = x.2.2.2.2.2.2.2.1.n := by rw [nts_len]; exact o8.len
  have i4 := i64_of_wf w4
  have i5 := i64_of_wf w5
  have iy := i64_of_wf y2.1
  refine ⟨⟨x.1, x.2.1, x.2.2.1, x.2.2.2.1, x.2.2.2.2.1, x.2.2.2.2.2.1.xs, x.2.2.2.2.2.2.1.xs, nts x.2.2.2.2.2.2.2.1.xs, ⟨x.2.2.2.2.2.2.2.2.1.1, x.2.2.2.2.2.2.2.2.1.2.1, x.2.2.2.2.2.2.2.2.1.2.2.1.xs⟩⟩,
    ⟨x.2.2.2.2.2.1.A, x.2.2.2.2.2.1.c, x.2.2.2.2.2.2.1.A, x.2.2.2.2.2.2.1.c, x.2.2.2.2.2.2.2.1.A, x.2.2.2.2.2.2.2.1.c, x.2.2.2.2.2.2.2.2.1.2.2.1.A, x.2.2.2.2.2.2.2.2.1.2.2.1.c⟩, x.2.2.2.2.2.2.2.1.xs, ?_, ⟨?_, ?_, ?_, rfl, ?_⟩, ⟨?_, ?_, ?_, ?_, ?_⟩, ?_⟩
  · unfold mval
    dsimp only
    rw [o6.len, o7.len, hl8, y3.len]
    rfl
  · dsimp only
    rw [o6.len]
    exact o6.rd
  · dsimp only
    rw [o7.len]
    exact o7.rd
  · dsimp only
    rw [hl8]
    exact ⟨o8.len, o8.rd, fun q hq => by obtain ⟨_, _, h⟩ := o8.el q hq; exact h.rd⟩
  · dsimp only
    rw [y3.len]
    exact y3.rd
  · dsimp only
    omega
  · dsimp only
    omega
  · exact fun t ht => by obtain ⟨_, _, h1, _⟩ := o7.el t ht; have := i64_of_wf h1; omega
  · intro y hy
    obtain ⟨q, hq, rfl⟩ := List.mem_map.1 hy
    obtain ⟨_, _, h⟩ := o8.el q hq
    exact h.cts
  · dsimp only
    omega
  · dsimp only
    rw [o6.len, o7.len]
    omega
end
end Go.Proofs.YtndlcimckfndiaaDoor
