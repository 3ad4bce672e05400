/- What a round over pieces may do; walk over trust.Since. -/
import Derived.Test.YtepdcbhapjgijaaDoorTwF
import Derived.Test.YtepdcbhapjgijaaDoorSpO
import Derived.Maps.OwnIn
namespace Go.Proofs.YtepdcbhapjgijaaDoor
open Go.RowKit Go.Shelf
set_option maxRecDepth 100000
attribute [local go_sem] Oper.semAt_some

theorem keeps_below {B : Nat} {W V : World} (h : Below W.heap.size W V) : KeepsFrom B W V := ⟨h.size, fun k _ _ hk _ => (h.block k (Array.getElem?_eq_some_iff.1 hk).1).trans hk⟩
theorem pt_box {W : World} {BO : Nat} {t : TypeId} {v : Value} (h : Boxed W BO t v) : pt BO W = v.ownBlock := by
  unfold pt
  rw [h.cell]
  rcases v with _ | _ | _ | _ | _ | _ | _ | _ | _ | _ | _ | _ | _ | _ <;> first | rfl | (rename_i a _ _; cases a <;> rfl)
/-- An append to the row in the box, and the store into the box. -/
theorem KZ.appended {W W1 W2 : World} {BO base k : Nat} {t e : TypeId} {size : Nat} {v v' : Value} {xs : List Value} (hv : Boxed W BO t v) (hte : t ≠ e) (hb : Below W.heap.size W W1) (hrow : W1.ownsRow base e size v k xs)
    (hg : W1.grownBy W2 v.ownBlock) (hat : v'.ownBlock = v.ownBlock ∨ v'.ownBlock = some W1.heap.size) (hlt : ∀ g, v'.ownBlock = some g → g < W2.heap.size) : KZ BO W (W2.setCell ⟨BO, 0, none⟩ v') := by
  have hv1 : Boxed W1 BO t v := (hb.block _ hv.lt).trans hv
  have hv2 : Boxed W2 BO t v := hv1.kept hg (hv1.not_row hte hrow)
  refine ⟨by have := hb.size; have := hg.size; simp; omega, fun i o hB hp hi _ => ?_, ?_⟩
  · have h1 := (hb.block i (Array.getElem?_eq_some_iff.1 hi).1).trans hi
    have h2 := (hg.block i (Array.getElem?_eq_some_iff.1 h1).1 (fun e => hp (by rw [pt_box hv, ← e]))).trans h1
    exact (Below.heap_setCell W2 ⟨BO, 0, none⟩ v' i (fun e => hB (by rw [e]))).trans h2
  · rw [pt_box (hv2.set v'), pt_box hv]
    rcases hat with e | e
    · exact .inl e
    · exact .inr ⟨_, e, hb.size, by have := hlt _ e; simpa using this⟩
theorem KeepsFrom.appended {W W1 W2 : World} {B BO base k : Nat} {e : TypeId} {size : Nat} {v v' : Value} {xs : List Value} (hb : Below W.heap.size W W1) (hrow : W1.ownsRow base e size v k xs) (hg : W1.grownBy W2 v.ownBlock) : KeepsFrom B W (W2.setCell ⟨BO, 0, none⟩ v') := by
  refine (keeps_below hb).trans (((KeepsOthers.of_grownBy hg fun j o ej hj => ?_).trans (KeepsOthers.setCell _ _ _)).from _)
  rcases hrow.2 with ⟨rfl, _⟩ | ⟨g, cap, cur, rfl, _, hgb, _⟩
  · simp [Value.ownBlock] at ej
  · obtain rfl : g = j := by simpa [Value.ownBlock] using ej
    rw [hgb] at hj; cases hj; rfl

/-- An append under a fence. -/
theorem wpListIn_append_rz {P : Program} {w : World} {F : Fence} {nF : Nat} {ops : Array Oper} {rest : List Oper} {o : Oper} {a : Act} {Q : Exit → Act → World → Prop} (hgd : o.guard = none) (s x : Operand) (t : TypeId)
    (ho : o.op = .call { callee := .builtin .append, args := #[s, x], argTypes := #[t, t] })
    (base : Nat) (e : TypeId) (i : TypeInfo) (z : Value) (size bytes : Nat) (ht : P.underlying t = some (.slice e)) (hi : P.info? e = some i) (hz : i.zero = some z)
    (hsize : i.size = size) (hby : i.bytes = bytes) (hzs : z.cells.size = size) (hsz : 0 < size)
    (v : Value) (n : Nat) (xs : List Value) (hs : a.eval s = v) (hown : w.ownsRow base e size v n xs)
    (B : Nat) (A : Option Addr) (m c : Nat) (news : List Value) (hx : a.eval x = .slice A m c) (hr : Rd w B size A m c news) (h1 : ∀ u ∈ news, u.oneCell' = true)
    (h63 : n + m ≤ maxLen) (hbytes : (n + m) * bytes ≤ 140737488355328) (hbase : base ≤ w.heap.size)
    (h : ∀ A' c' w', w'.ownsRow base e size (.slice A' (n + m) c') (n + m) (xs ++ news) → w.grownBy w' v.ownBlock → ((Value.slice A' (n + m) c').ownBlock = v.ownBlock ∨ (Value.slice A' (n + m) c').ownBlock = some w.heap.size) → wpListIn F nF P ops Q rest (a.put o.dst (.slice A' (n + m) c')) w') : wpListIn F nF P ops Q (o :: rest) a w := by
  refine wpListIn_plain hgd fun K hK' => ?_
  obtain ⟨A', c', w', hrun, r1, r2, r3⟩ := run_append_rd (P := P) w base t o.type e i z size bytes ht hi hz hsize hby hzs hsz v n xs hown B A m c news hr h1 h63 hbytes hbase
  unfold Oper.wpIn
  refine ⟨?_, ?_⟩
  · simp [Oper.about, ho, resolve, Target.leads, Sem.run_pure]
  · rw [Oper.semAt_plain F _ _ (by rw [ho]; intro c hc'; cases hc')]
    simp [execOp, ho, resolve, invoke, builtin, hs, hx, hrun, Result.andThen]
    exact hK' _ _ (h A' c' w' r1 r2 r3)
/-- The pieces that touch an interest. -/
def selZ (i : List Sn.Sp) (l : List (ZV × Zn)) : List (ZV × Zn) := l.filter fun x => decide (Sn.meetL i [x.2.1] ≠ [])
theorem selZ_snoc (i : List Sn.Sp) (l : List (ZV × Zn)) (x : ZV × Zn) : selZ i (l ++ [x]) = if Sn.meetL i [x.2.1] ≠ [] then selZ i l ++ [x] else selZ i l := by
  unfold selZ
  rw [List.filter_append]
  by_cases h : Sn.meetL i [x.2.1] ≠ []
  · rw [if_pos h]; simp [h]
  · rw [if_neg h]
    simp at h
    simp [h]
theorem selZ_le (i : List Sn.Sp) (l : List (ZV × Zn)) : (selZ i l).length ≤ l.length := List.length_filter_le _ _
def lsv (l : List (ZV × Zn)) : List Value := l.map fun x => .slice x.1.A x.1.n x.1.c
theorem lsv_snoc (l : List (ZV × Zn)) (x : ZV × Zn) : lsv (l ++ [x]) = lsv l ++ [.slice x.1.A x.1.n x.1.c] := by simp [lsv]
theorem selZ_since (z : List Zn) (known : List Vc.St) (i : List Sn.Sp) {ys : List (ZV × Zn)} (h : zns ys = pcs known 0 z) : (selZ i ys).map (fun x => x.2.2) = sinceA z known i := by
  unfold sinceA selZ
  rw [← h]
  unfold zns
  rw [List.filter_map, List.map_map]
  rfl
def sinceF (z : List Zn) (known : List Vc.St) (i : List Sn.Sp) : List Vc.St := if (zF (-1) none z && fm (-1) known) = true then sinceZ z known i else []
/-- The rows in hand read as a list of lists. -/
theorem rdL_of {w0 W : World} {base k c : Nat} {A : Option Addr} {l : List (ZV × Zn)} (ho : W.ownsRow base 22 1 (.slice A k c) k (lsv l)) (hk : l.length = k) (hb : Below w0.heap.size w0 W) (hT : ∀ x ∈ l, EvT w0 x) : RdL W W.heap.size A k c (l.map fun x => x.2.2) := by
  have hR := Rd.of_own ho
  refine ⟨by rw [List.length_map]; exact hk, hR.cap, hR.max, hR.nil, fun i hi => ?_⟩
  rw [List.length_map] at hi
  obtain ⟨b, o, hA, hb', hcell⟩ := hR.plain (by omega) (by decide)
  have ht := hT _ (List.getElem_mem hi)
  refine ⟨b, o, (l[i]).1.A, (l[i]).1.n, (l[i]).1.c, hA, hb', hcell i _ ?_, by rw [List.getElem_map]; exact ht.len, by rw [List.getElem_map]; exact ht.rd.go hb⟩
  unfold lsv
  rw [List.getElem?_map, List.getElem?_eq_getElem hi]; rfl

theorem stampsT_info : (Tryd.prog.info? 22).map (fun i => (i.zero, i.size, i.bytes)) = some (some (.slice none 0 0), 1, 24) := by kernel_rfl

end Go.Proofs.YtepdcbhapjgijaaDoor
