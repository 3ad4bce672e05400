/- How a log opens. -/
import Derived.Test.YtldcgmnfohhjbaaDoorNtFr
import Derived.Test.YtldcgmnfohhjbaaDoorLgF
namespace Go.Proofs.YtldcgmnfohhjbaaDoor
open Go.ChangeShapes Go.WideShapes Go.ChangeAt Go.RowKit
set_option maxRecDepth 100000

section
variable {H : Type} {enc : TypeId × Value → H} {W : World}
theorem opens_note : Opens enc Tryd.prog W 32 (fun p : NV × Nt => p.1.val.toList) (fun p d => NtRd W W.heap.size p.1 p.2 ∧ (Fit Tryd.prog 32 d → NtSz p.1)) :=
  (Opens.struct (enc := enc) (P := Tryd.prog) (W := W) (tot := 4) Tryd.underlying32 (by kernel_rfl) (OpensFs.cons (s := 1) rfl (by kernel_rfl) opens_stamps (OpensFs.cons (s := 1) rfl (by kernel_rfl) opens_stamps (OpensFs.cons (s := 1) rfl (by kernel_rfl) opens_spans (OpensFs.cons (s := 1) rfl (by kernel_rfl) opens_writes OpensFs.nil))))).map
    (fun x => ((⟨x.1.A, x.1.n, x.1.c, x.2.1.A, x.2.1.n, x.2.1.c, x.2.2.1.A, x.2.2.1.n, x.2.2.1.c, x.2.2.2.1.A, x.2.2.2.1.n, x.2.2.2.1.c⟩ : NV), (⟨x.1.xs, x.2.1.xs, x.2.2.1.xs, x.2.2.2.1.xs⟩ : Nt))) _ _ (fun _ => rfl)
    (fun x d ⟨ds, e, d1, _, e1, o1, d2, _, e2, o2, d3, _, e3, o3, d4, _, e4, o4, _⟩ => ⟨⟨o1.len, o1.rd, o2.len, o2.rd, o3.len, o3.rd, o4.len, o4.rd⟩, fun hf => by
      subst e e1 e2 e3 e4
      have f1 := stamps_fit (hf.agg Tryd.underlying32 (j := 0) rfl rfl)
      have f2 := stamps_fit (hf.agg Tryd.underlying32 (j := 1) rfl rfl)
      have f3 := spans_fit (hf.agg Tryd.underlying32 (j := 2) rfl rfl)
      have f4 := writes_fit (hf.agg Tryd.underlying32 (j := 3) rfl rfl)
      rw [← o1.cap] at f1
      rw [← o2.cap] at f2
      rw [← o3.cap] at f3
      rw [← o4.cap] at f4
      exact ⟨Nat.le_trans o1.rd.cap f1, Nat.le_trans o2.rd.cap f2, Nat.le_trans o3.rd.cap f3, Nat.le_trans o4.rd.cap f4⟩⟩)
theorem opens_notes : Opens enc Tryd.prog W 45 slv (SlOk W 4 (fun p : NV × Nt => p.1.val.toList) (fun p d => NtRd W W.heap.size p.1 p.2 ∧ (Fit Tryd.prog 32 d → NtSz p.1))) := Opens.slice Tryd.underlying45 (by kernel_rfl) (by decide) opens_note
theorem open_log {r : Reach} {b0 : Nat} {v : Value} {d : DataW H} {p : List MemPlace} (hv : Value.okWide Tryd.prog W r b0 47 v) (hT : DataW.Trod enc Tryd.prog W 0 (fun _ => true) true 47 v d p) (hf : Fit Tryd.prog 47 d) :
    ∃ (q : LV) (b : List Vc.St) (L : List (NV × Nt)) (su : Int), v = .agg (q.val su) ∧ LgRd W q b L ∧ LgSz q L := by
  have ho := Opens.struct (enc := enc) (P := Tryd.prog) (W := W) (tot := 3) Tryd.underlying47 (by kernel_rfl) (OpensFs.cons (s := 1) rfl (by kernel_rfl) opens_stamps (OpensFs.cons (s := 1) rfl (by kernel_rfl) opens_notes (OpensFs.cons (s := 1) rfl (by kernel_rfl) opens_int OpensFs.nil)))
  obtain ⟨x, rfl, ds, rfl, d1, _, rfl, o1, d2, _, rfl, o2, d3, _, rfl, o3, _⟩ := ho.arg_agg Tryd.underlying47 hv hT
  have f1 := stamps_fit (hf.agg Tryd.underlying47 (j := 0) rfl rfl)
  have f2 := (hf.agg Tryd.underlying47 (j := 1) rfl rfl).slice Tryd.underlying45
  rw [show Tryd.prog.bytesOf 32 = 96 by kernel_rfl, ← o2.cap] at f2
  rw [← o1.cap] at f1
  have hc2 := o2.rd.cap
  have hm : x.2.1.n ≤ 1466015503659 := by have := f2.1; omega
  refine ⟨⟨x.1.A, x.1.n, x.1.c, x.2.1.A, x.2.1.n, x.2.1.c⟩, x.1.xs, x.2.1.xs, x.2.2.1, rfl, ⟨o1.len, o1.rd, ⟨o2.len, o2.rd, fun p hp => ?_⟩⟩, ⟨Nat.le_trans o1.rd.cap f1, hm, fun p hp => ?_⟩⟩
  · obtain ⟨d', _, h1, _⟩ := o2.el p hp
    exact h1
  · obtain ⟨d', hd, _, h1⟩ := o2.el p hp
    exact h1 (f2.2 d' hd)
end
end Go.Proofs.YtldcgmnfohhjbaaDoor
