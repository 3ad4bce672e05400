/- How a script's arguments open. -/
import Derived.Test.YtldcgmnfohhjbacScJ
import Derived.Test.YtldcgmnfohhjbacUpto
namespace Go.Proofs.Ytldcgmnfohhjbac
open Go.ChangeShapes Go.WideShapes Go.ChangeAt Go.RowKit
set_option maxRecDepth 100000

section
variable {H : Type} {enc : TypeId × Value → H} {W : World}
def pc (s : Sn.Sp) : List Value := [.int .i64 s.1, .int .i64 s.2]
theorem opens_int : Opens enc Try.prog W 3 (fun z : Int => [.int .i64 z]) (fun z _ => (Lit.int .i64 z).wf = true) := Opens.int Try.underlying3
theorem opens_span : Opens enc Try.prog W 76 pc (fun _ _ => True) :=
  (Opens.struct (tot := 2) Try.underlying76 (by kernel_rfl) (OpensFs.cons (s := 1) rfl (by kernel_rfl) opens_int (OpensFs.cons (s := 1) rfl (by kernel_rfl) opens_int OpensFs.nil))).map
    (fun x : Int × Int × Unit => ((x.1, x.2.1) : Sn.Sp)) pc (fun _ _ => True) (fun _ => rfl) (fun _ _ _ => trivial)
theorem opens_spans : Opens enc Try.prog W 22 slv (SlOk W 2 pc (fun _ _ => True)) := Opens.slice Try.underlying22 (by kernel_rfl) (by decide) opens_span
/-- Bytes. -/
structure BtOk (W : World) (s : Sl UInt8) (d : DataW H) : Prop where
  len : s.xs.length = s.n
  cap : s.c = capOf d
  rd : Rd W W.heap.size 1 s.A s.n s.c (bv s.xs)
theorem opens_bytes : Opens enc Try.prog W 23 slv (BtOk (H := H) W) :=
  (Opens.slice (size := 1) Try.underlying23 (by kernel_rfl) (by decide) (Opens.int (k := .u8) Try.underlying5)).map (fun s : Sl Int => (⟨s.A, s.n, s.c, u8s s.xs⟩ : Sl UInt8)) slv (BtOk W) (fun _ => rfl) (fun s d h => by
    have e : bv (u8s s.xs) = s.xs.flatMap fun z => [Value.int .u8 z] := by
      rw [u8s_at fun z hz => by obtain ⟨d', _, hw⟩ := h.el z hz; exact u8_of_wf hw]
      exact List.map_eq_flatMap ..
    exact ⟨by rw [show (u8s s.xs).length = s.xs.length by simp [u8s]]; exact h.len, h.cap, by rw [e]; exact h.rd⟩)
/-- A step that is read. -/
structure StOk (W : World) (p : SV × Sc.Stp) (d : DataW H) : Prop where
  rd : StpRd W W.heap.size p.1 p.2
  sm : Sc.small p.2
  lo : -9223372036854775808 ≤ p.2.kind ∧ p.2.kind ≤ 9223372036854775807
def stpf (p : SV × Sc.Stp) : List Value := (p.1.val p.2).toList
theorem opens_step : Opens enc Try.prog W 25 stpf (StOk (H := H) W) :=
  (Opens.struct (tot := 7) Try.underlying25 (by kernel_rfl) (OpensFs.cons (s := 1) rfl (by kernel_rfl) opens_int (OpensFs.cons (s := 1) rfl (by kernel_rfl) opens_int (OpensFs.cons (s := 1) rfl (by kernel_rfl) opens_int (OpensFs.cons (s := 1) rfl (by kernel_rfl) opens_int (OpensFs.cons (s := 1) rfl (by kernel_rfl) opens_int
    (OpensFs.cons (s := 1) rfl (by kernel_rfl) opens_spans (OpensFs.cons (s := 1) rfl (by kernel_rfl) opens_bytes OpensFs.nil)))))))).map
    (fun x : Int × Int × Int × Int × Int × Sl Sn.Sp × Sl UInt8 × Unit => ((⟨x.2.2.2.2.2.1.A, x.2.2.2.2.2.1.n, x.2.2.2.2.2.1.c, x.2.2.2.2.2.2.1.A, x.2.2.2.2.2.2.1.n, x.2.2.2.2.2.2.1.c⟩, ⟨x.1, x.2.1, x.2.2.1, x.2.2.2.1, x.2.2.2.2.1, x.2.2.2.2.2.1.xs, x.2.2.2.2.2.2.1.xs⟩) : SV × Sc.Stp)) stpf (StOk W) (fun _ => rfl)
    (fun x d h => by
      obtain ⟨ds, _, d0, ds0, _, w0, d1, ds1, _, w1, d2, ds2, _, w2, d3, ds3, _, w3, d4, ds4, _, w4, d5, ds5, _, w5, d6, ds6, _, w6, _⟩ := h
      have e0 := i64_of_wf w0
      have e1 := i64_of_wf w1
      have e2 := i64_of_wf w2
      have e3 := i64_of_wf w3
      have e4 := i64_of_wf w4
      exact ⟨⟨w5.len, w5.rd, w6.len, w6.rd⟩, ⟨by show x.2.1 < _; omega, by show x.2.2.1 < _; omega, by show x.2.2.2.1 < _; omega, by show x.2.2.2.2.1 < _; omega⟩, e0⟩)
theorem opens_steps : Opens enc Try.prog W 37 slv (SlOk W 7 stpf (StOk (H := H) W)) := Opens.slice Try.underlying37 (by kernel_rfl) (by decide) opens_step
theorem open_step {r : Reach} {b0 : Nat} {v : Value} {d : DataW H} {p : List MemPlace} (hv : Value.okWide Try.prog W r b0 25 v) (hT : DataW.Trod enc Try.prog W 0 (fun _ => true) true 25 v d p) :
    ∃ (sv : SV) (x : Sc.Stp), v = .agg (sv.val x) ∧ StpRd W W.heap.size sv x ∧ Sc.small x := by
  obtain ⟨q, rfl, ok⟩ := opens_step.arg_agg Try.underlying25 hv hT
  exact ⟨q.1, q.2, rfl, ok.rd, ok.sm⟩
theorem open_steps {r : Reach} {b0 : Nat} {v : Value} {d : DataW H} {p : List MemPlace} (hv : Value.okWide Try.prog W r b0 37 v) (hT : DataW.Trod enc Try.prog W 0 (fun _ => true) true 37 v d p) :
    ∃ A n c L, v = .slice A n c ∧ RdSt W W.heap.size A n c L ∧ (∀ p ∈ L, Sc.small p.2) ∧ c = capOf d := by
  obtain ⟨s, rfl, ok⟩ := opens_steps.arg_slice Try.underlying37 hv hT
  exact ⟨s.A, s.n, s.c, s.xs, rfl, ⟨ok.len, ok.rd, fun p hp => by obtain ⟨_, _, h⟩ := ok.el p hp; exact h.rd⟩, fun p hp => by obtain ⟨_, _, h⟩ := ok.el p hp; exact h.sm, ok.cap⟩
end
end Go.Proofs.Ytldcgmnfohhjbac
