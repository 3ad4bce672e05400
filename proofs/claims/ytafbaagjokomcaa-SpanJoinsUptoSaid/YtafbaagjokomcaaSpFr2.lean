/- How lists of lists of spans open. -/
import Derived.Test.YtafbaagjokomcaaSpFr
namespace Go.Proofs.Ytafbaagjokomcaa
open Go.ChangeShapes Go.WideShapes Go.ChangeAt Go.RowKit
set_option maxRecDepth 100000

section
variable {H : Type} {enc : TypeId × Value → H} {W : World}
theorem lists_rd {s : Sl (Sl Sn.Sp)} {d : DataW H} (ok : SlOk W 1 slv (SlOk W 2 pc (fun _ _ => True)) s d) : RdL W W.heap.size s.A s.n s.c (s.xs.map (·.xs)) := by
  have hl := ok.len
  refine ⟨by rw [List.length_map]; exact hl, ok.rd.cap, ok.rd.max, ok.rd.nil, fun i hi => ?_⟩
  rw [List.length_map] at hi
  obtain ⟨b, o, hA, hb, hcell⟩ := ok.rd.plain (by omega) (by decide)
  obtain ⟨d', _, h'⟩ := ok.el _ (List.getElem_mem hi)
  refine ⟨b, o, (s.xs[i]).A, (s.xs[i]).n, (s.xs[i]).c, hA, hb, hcell i _ ?_, by rw [List.getElem_map]; exact h'.len, by rw [List.getElem_map]; exact h'.rd⟩
  have := flat_at slv 1 (by decide) s.xs (fun _ _ => rfl) i hi 0 (by decide)
  rw [Nat.mul_one, Nat.add_zero] at this
  rw [this]
  rfl
theorem lists_small {s : Sl (Sl Sn.Sp)} {d : DataW H} (ok : SlOk W 1 slv (SlOk W 2 pc (fun _ _ => True)) s d) {M : Nat} (hM : Rows.uptoBulk d ≤ M) : ∀ u ∈ s.xs.map (·.xs), u.length ≤ M := by
  intro u hu
  obtain ⟨x, hx, rfl⟩ := List.mem_map.1 hu
  obtain ⟨d', hd, h'⟩ := ok.el x hx
  have h1 := elem_le hd
  have h2 := cap_le d'
  have h3 := h'.rd.cap
  have h4 := h'.len
  have h5 := h'.cap
  show x.xs.length ≤ M
  omega
theorem flat_le {α : Type} {M : Nat} : ∀ (vs : List (List α)), (∀ u ∈ vs, u.length ≤ M) → vs.flatten.length ≤ vs.length * M
  | [], _ => by simp
  | v :: r, h => by
    rw [List.flatten_cons, List.length_append, List.length_cons, Nat.add_mul]
    have h1 := h v (by simp)
    have h2 := flat_le r fun u hu => h u (by simp [hu])
    omega
end
end Go.Proofs.Ytafbaagjokomcaa
