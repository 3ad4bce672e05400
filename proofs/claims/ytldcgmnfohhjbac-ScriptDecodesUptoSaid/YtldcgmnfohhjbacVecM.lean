/- Walks over vector.Covers and vector.Compare. -/
import Derived.Test.YtldcgmnfohhjbacVecL
namespace Go.Proofs.Ytldcgmnfohhjbac
open Go.RowKit Go.Shelf
set_option maxRecDepth 100000
attribute [local go_sem] Oper.semAt_some

theorem Blk.kept_ {W W' : World} {row : Option Nat} {g : Nat} {t : TypeId} {cs : Array Value} (h : Blk W g t cs) (hg : W.grownBy W' row) (hr : ∀ r, row = some r → ∃ o : Obj, W.heap[r]? = some o ∧ o.isCells = false) : Blk W' g t cs :=
  h.grown hg (fun e' => by obtain ⟨o, ho, hc⟩ := hr g e'.symm; rw [show W.heap[g]? = _ from h] at ho; cases ho; cases hc)
theorem wpListIn_store_blk {F : Fence} {nF : Nat} {P : Program} {ops : Array Oper} {rest : List Oper} {op : Oper} {a : Act} {w : World} {Q : Exit → Act → World → Prop} (hgd : op.guard = none) (ty : TypeId) (x y : Operand) (ho : op.op = .store ty x y)
    (g : Nat) (t : TypeId) (old cells : Array Value) (hx : a.eval x = .pointer (some ⟨g, 0, none⟩)) (hy : a.eval y = .agg cells) (hg : Blk w g t old)
    (hi : (P.info? ty).map (·.size) = some cells.size) (hs : old.size = cells.size) (h1 : cells.all (·.oneCell') = true)
    (h : ∀ w', Blk w' g t cells → w.grownBy w' (some g) → wpListIn F nF P ops Q rest (a.put op.dst undef) w') : wpListIn F nF P ops Q (op :: rest) a w := by
  refine wpListIn_plain hgd fun K hK => ?_
  unfold Oper.wpIn
  refine ⟨by simp [Oper.about, ho], ?_⟩
  rw [Oper.semAt_plain F _ _ (by rw [ho]; intro c hc'; cases hc')]
  simp only [execOp, ho, hx, hy, Instr.storeAt, Instr.sureAddr, Sem.run_bind, Sem.run_pure, Result.andThen_ok, run_storeVar_row w g t ty old cells hg hi hs h1]
  exact hK _ _ (h _ (setRow_heap w g old _ t _ hg) ⟨rfl, rfl, rfl, by simp, fun k _ hk => setRow_other w g k _ (fun e => hk (by rw [e]))⟩)

end Go.Proofs.Ytldcgmnfohhjbac
