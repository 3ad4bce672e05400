/- How a body opens, in this seat. -/
import Derived.Test.YtndlcimckfndiaaDoorWrFr
import Derived.Test.YtndlcimckfndiaaDoorWrZ
namespace Go.Proofs.YtndlcimckfndiaaDoor
open Go.ChangeShapes Go.WideShapes Go.ChangeAt Go.RowKit
set_option maxRecDepth 100000
section
variable {H : Type} {enc : TypeId × Value → H} {W : World}
/-- Bytes. -/
structure BtOk (W : World) (s : Sl UInt8) (d : DataW H) : Prop where
  len : s.xs.length = s.n
  cap : s.c = capOf d
  rd : Rd W W.heap.size 1 s.A s.n s.c (bv s.xs)
theorem opens_bytes : Opens enc Tryd.prog W 23 slv (BtOk (H := H) W) :=
  (Opens.slice (size := 1) Tryd.underlying23 (by kernel_rfl) (by decide) (Opens.int (k := .u8) Tryd.underlying5)).map (fun s : Sl Int => (⟨s.A, s.n, s.c, u8s s.xs⟩ : Sl UInt8)) slv (BtOk W) (fun _ => rfl) (fun s d h => by
    have e : bv (u8s s.xs) = s.xs.flatMap fun z => [Value.int .u8 z] := by
      rw [u8s_at fun z hz => by obtain ⟨d', _, hw⟩ := h.el z hz; exact u8_of_wf hw]
      exact List.map_eq_flatMap ..
    exact ⟨by rw [show (u8s s.xs).length = s.xs.length by simp [u8s]]; exact h.len, h.cap, by rw [e]; exact h.rd⟩)
theorem open_bodyC {r : Reach} {b0 : Nat} {v : Value} {d : DataW H} {p : List MemPlace} (hv : Value.okWide Tryd.prog W r b0 63 v) (hT : DataW.Trod enc Tryd.prog W 0 (fun _ => true) true 63 v d p) :
    ∃ (x : Wq.Bd) (A : Option Addr) (c : Nat), v = .agg (bval x A c) ∧ Rd W W.heap.size 1 A x.v.length c (bv x.v) ∧ x.s.1 < 9223372036854775808 := by
  have ho := Opens.struct (enc := enc) (P := Tryd.prog) (W := W) (tot := 4) Tryd.underlying63 (by kernel_rfl) (OpensFs.cons (s := 1) rfl (by kernel_rfl) opens_int (OpensFs.cons (s := 2) rfl (by kernel_rfl) opens_stamp (OpensFs.cons (s := 1) rfl (by kernel_rfl) opens_bytes OpensFs.nil)))
  obtain ⟨x, rfl, ds, rfl, d1, _, rfl, w1, d2, _, rfl, w2, d3, _, rfl, o3, _⟩ := ho.arg_agg Tryd.underlying63 hv hT
  refine ⟨⟨x.1, x.2.1, x.2.2.1.xs⟩, x.2.2.1.A, x.2.2.1.c, ?_, ?_, ?_⟩
  · simp only [bval]
    rw [o3.len]
    rfl
  · have := o3.rd
    rw [← o3.len] at this
    exact this
  · have := i64_of_wf w2.1
    show x.2.1.1 < _
    omega
end
end Go.Proofs.YtndlcimckfndiaaDoor
