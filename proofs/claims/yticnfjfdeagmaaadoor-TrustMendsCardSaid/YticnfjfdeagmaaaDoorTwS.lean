/- An argument that is an array of two span lists, opened. -/
import Derived.Test.YticnfjfdeagmaaaDoorTwFr
import Derived.OpenShut
namespace Go.Proofs.YticnfjfdeagmaaaDoor
open Go.ChangeShapes Go.WideShapes Go.ChangeAt Go.RowKit
set_option maxRecDepth 100000
section
variable {H : Type} {enc : TypeId × Value → H} {W : World}
theorem okWide_array {P : Program} {w : World} {r : Reach} {base n : Nat} {t e : TypeId} {v : Value} (ht : P.underlying t = some (.array n e)) (h : Value.okWide P w r base t v) : ∃ cs, v = .agg cs ∧ cs.size = P.cellsOf t := by
  simp only [Value.okWide, ht] at h
  obtain ⟨cs, h1, h2, _⟩ := h
  exact ⟨cs, h1, h2⟩
theorem Fit.array {P : Program} {t e : TypeId} {n : Nat} {ds : List (DataW H)} (h : Fit P t (.agg ds)) (ht : P.underlying t = some (.array n e)) {d : DataW H} (hd : d ∈ ds) : Fit P e d := by
  unfold Fit at h
  simp only [DataW.weights, ht] at h
  exact List.all_eq_true.2 fun m hm => List.all_eq_true.1 h m (weights_all hd m hm)
theorem open_pair {r : Reach} {b0 : Nat} {v : Value} {d : DataW H} {p : List MemPlace} (hv : Value.okWide Tryd.prog W r b0 44 v) (hT : DataW.Trod enc Tryd.prog W 0 (fun _ => true) true 44 v d p) (hf : Fit Tryd.prog 44 d) :
    ∃ E1 s1 t1 E2 s2 t2, ∃ i1 i2 : List Sn.Sp, v = .agg #[.slice E1 s1 t1, .slice E2 s2 t2] ∧ i1.length = s1 ∧ Rd W W.heap.size 2 E1 s1 t1 (sv i1) ∧ s1 ≤ 8796093022208 ∧ i2.length = s2 ∧ Rd W W.heap.size 2 E2 s2 t2 (sv i2) := by
  obtain ⟨cs, rfl, _⟩ := okWide_array Tryd.underlying44 hv
  obtain ⟨fuel, hf0⟩ := hT
  obtain ⟨xs, m, _, hx, hl, hxl, hi⟩ := DataW.trod_array Tryd.underlying44 hf0
  simp only [Value.cells] at hl hi
  have hc1 : Tryd.prog.cellsOf 24 = 1 := by kernel_rfl
  have hc2 : Tryd.prog.cellsOf 44 = 2 := by kernel_rfl
  rw [hc2] at hl
  rw [hc1] at hi
  match xs, hxl with
  | [y0, y1], _ =>
    obtain ⟨e1, e2⟩ := Prod.mk.inj hx
    subst e1
    have f0 := hf.array Tryd.underlying44 (d := y0.1) (by simp)
    have f1 := hf.array Tryd.underlying44 (d := y1.1) (by simp)
    obtain ⟨s0, hs0, g0⟩ := opens_spans (enc := enc) (W := W) _ _ _ (hi 0 (by omega))
    obtain ⟨s1, hs1, g1⟩ := opens_spans (enc := enc) (W := W) _ _ _ (hi 1 (by omega))
    have h1 := (f0.slice Tryd.underlying24).1
    rw [show Tryd.prog.bytesOf 53 = 16 by kernel_rfl, ← g0.cap] at h1
    have h2 := g0.rd.cap
    obtain ⟨cl⟩ := cs
    match cl, hl with
    | [a, b], _ =>
      simp [slv] at hs0 hs1
      subst hs0 hs1
      exact ⟨s0.A, s0.n, s0.c, s1.A, s1.n, s1.c, s0.xs, s1.xs, rfl, g0.len, g0.rd, by omega, g1.len, g1.rd⟩
end
end Go.Proofs.YticnfjfdeagmaaaDoor
