/- Walk over vector.read: a list's counts. -/
import Derived.Test.YtldcgmnfohhjbaaDoorVecA
import Derived.Deep.WholeRow
import Derived.WalkSmall
namespace Go.Proofs.YtldcgmnfohhjbaaDoor
open Go.RowKit
set_option maxRecDepth 100000

/-- A block that is known whole. -/
def Blk (w : World) (g : Nat) (t : TypeId) (cs : Array Value) : Prop := w.heap[g]? = some (.cells cs t (0, 0))
section
variable {w w' : World} {g : Nat} {t : TypeId} {cs : Array Value}
theorem Blk.lt (h : Blk w g t cs) : g < w.heap.size := (Array.getElem?_eq_some_iff.1 h).1
theorem Blk.cell (h : Blk w g t cs) (i : Nat) : w.cell? ⟨g, i, none⟩ = cs[i]? := cell_of_row w g i cs t (0, 0) h
theorem Blk.frozen (h : Blk w g t cs) (i : Nat) : w.frozen? ⟨g, i, none⟩ = false := frozen_of_row w g i cs t h
theorem Blk.new (w : World) (t : TypeId) (cs : Array Value) : Blk (w.alloc (.cells cs t)) w.heap.size t cs := heap_alloc_new w _
theorem Blk.alloc (h : Blk w g t cs) (o : Obj) : Blk (w.alloc o) g t cs := (Below.heap_alloc w o g h.lt).trans h
theorem Blk.set_ (h : Blk w g t cs) (i : Nat) (u : Value) : Blk (w.setCell ⟨g, i, none⟩ u) g t (cs.setIfInBounds i u) := heap_setCell_same w g i cs t u h
theorem Blk.far (h : Blk w g t cs) {p : Addr} (hp : g ≠ p.block) (u : Value) : Blk (w.setCell p u) g t cs := (Below.heap_setCell w p u g hp).trans h
theorem Blk.below {B : Nat} (h : Blk w g t cs) (hb : Below B w w') (hg : g < B) : Blk w' g t cs := (hb.block g hg).trans h
theorem Blk.go (h : Blk w g t cs) (hb : Below w.heap.size w w') : Blk w' g t cs := h.below hb h.lt
end

/-- A list of stamps as cells. -/
def sv (v : List Vc.St) : List Value := v.flatMap fun s => [.int .i64 s.1, .int .i64 s.2]
theorem sv_len (v : List Vc.St) : (sv v).length = v.length * 2 := by
  induction v with
  | nil => rfl
  | cons s r ih => simp only [sv, List.flatMap_cons, List.length_append, List.length_cons, List.length_nil] at ih ⊢; omega
theorem sv_app (v r : List Vc.St) : sv (v ++ r) = sv v ++ sv r := by simp [sv]
theorem sv_split (v : List Vc.St) (k : Nat) (h : k < v.length) : sv v = sv (v.take k) ++ ([.int .i64 v[k].1, .int .i64 v[k].2] ++ sv (v.drop (k + 1))) := by
  have e : v.take k ++ ([v[k]] ++ v.drop (k + 1)) = v := by rw [List.singleton_append, ← List.drop_eq_getElem_cons h, List.take_append_drop]
  have := congrArg sv e
  rw [sv_app, sv_app] at this
  exact this.symm
theorem sv_at0 (v : List Vc.St) (k : Nat) (h : k < v.length) : (sv v)[k * 2]? = some (.int .i64 v[k].1) := by
  have hl : (sv (v.take k)).length = k * 2 := by rw [sv_len, List.length_take, Nat.min_eq_left (by omega)]
  rw [sv_split v k h, List.getElem?_append_right (by omega), hl, Nat.sub_self]
  rfl
theorem sv_at1 (v : List Vc.St) (k : Nat) (h : k < v.length) : (sv v)[k * 2 + 1]? = some (.int .i64 v[k].2) := by
  have hl : (sv (v.take k)).length = k * 2 := by rw [sv_len, List.length_take, Nat.min_eq_left (by omega)]
  rw [sv_split v k h, List.getElem?_append_right (by omega), hl, Nat.add_sub_cancel_left]
  rfl
/-- The address of a slice that holds something. -/
theorem Rd.plain {w : World} {B size n c : Nat} {A : Option Addr} {xs : List Value} (h : Rd w B size A n c xs) (hn : 0 < n) (hs : 0 < size) :
    ∃ b o, A = some ⟨b, o, none⟩ ∧ b < B ∧ ∀ j u, xs[j]? = some u → w.cell? ⟨b, o + j, none⟩ = some u := by
  obtain ⟨ad, rfl, hb, hc⟩ := h.at0 hn
  have hx : 0 < xs.length := by rw [h.len]; exact Nat.mul_pos hn hs
  have h0 := hc 0 _ (List.getElem?_eq_getElem hx)
  rw [add_zero_] at h0
  obtain ⟨b, o, s⟩ := ad
  obtain rfl : s = none := World.cell?_spot h0
  refine ⟨b, o, rfl, hb, fun j u hu => ?_⟩
  have := hc j u hu
  rwa [show (⟨b, o, none⟩ : Addr).add j = ⟨b, o + j, none⟩ by unfold Addr.add; split <;> simp_all] at this
/-- The stamp at a place, in memory. -/
theorem Rd.stamp {w : World} {B n c k : Nat} {A : Option Addr} {v : List Vc.St} (h : Rd w B 2 A n c (sv v)) (hl : v.length = n) (hk : k < n) :
    ∃ b o, A = some ⟨b, o, none⟩ ∧ b < B ∧ w.cell? ⟨b, o + k * 2, none⟩ = some (.int .i64 (v[k]'(by omega)).1) ∧ w.cell? ⟨b, o + k * 2 + 1, none⟩ = some (.int .i64 (v[k]'(by omega)).2) := by
  obtain ⟨b, o, e, hb, hc⟩ := h.plain (by omega) (by omega)
  exact ⟨b, o, e, hb, hc _ _ (sv_at0 v k (by omega)), hc _ _ (sv_at1 v k (by omega))⟩

/-- The 64 counts. -/
def c64 (f : Nat → Int) : List Value := (List.range 64).map fun n => .int .i64 (f n)
/-- The counts, and the nodes that have one. -/
def cc (f : Nat → Int) (h : Nat) : Array Value := (c64 f ++ [Value.int .u64 (h : Int)]).toArray
theorem c64_len (f : Nat → Int) : (c64 f).length = 64 := by simp [c64]
theorem cc_size (f : Nat → Int) (h : Nat) : (cc f h).size = 65 := by simp [cc, c64]
theorem cc_at (f : Nat → Int) (h n : Nat) (hn : n < 64) : (cc f h)[n]? = some (.int .i64 (f n)) := by
  have hl : n < (c64 f).length := by rw [c64_len]; exact hn
  simp only [cc, List.getElem?_toArray, List.getElem?_append_left hl]
  simp [c64, hn]
theorem cc_has (f : Nat → Int) (h : Nat) : (cc f h)[64]? = some (.int .u64 (h : Int)) := by simp [cc, c64]
/-- A count is set. -/
def upd (f : Nat → Int) (m : Nat) (x : Int) : Nat → Int := fun n => if n = m then x else f n
theorem cc_set (f : Nat → Int) (h m : Nat) (x : Int) (hm : m < 64) : (cc f h).setIfInBounds m (.int .i64 x) = cc (upd f m x) h := by
  apply Array.ext_getElem?
  intro i
  rw [Array.getElem?_setIfInBounds]
  by_cases hi : i < 64
  · rw [cc_at (upd f m x) h i hi]
    by_cases he : m = i
    · subst he; simp [cc_size, upd]; omega
    · rw [if_neg he, cc_at f h i hi, upd, if_neg (by omega)]
  · rw [if_neg (by omega)]
    by_cases h64 : i = 64
    · subst h64; rw [cc_has, cc_has]
    · rw [Array.getElem?_eq_none (by rw [cc_size]; omega), Array.getElem?_eq_none (by rw [cc_size]; omega)]
theorem cc_sethas (f : Nat → Int) (h h' : Nat) : (cc f h).setIfInBounds 64 (.int .u64 (h' : Int)) = cc f h' := by
  apply Array.ext_getElem?
  intro i
  rw [Array.getElem?_setIfInBounds]
  by_cases hi : i < 64
  · rw [if_neg (by omega), cc_at f h i hi, cc_at f h' i hi]
  · by_cases h64 : i = 64
    · subst h64; rw [if_pos rfl, if_pos (by rw [cc_size]; omega), cc_has]
    · rw [if_neg (by omega), Array.getElem?_eq_none (by rw [cc_size]; omega), Array.getElem?_eq_none (by rw [cc_size]; omega)]
theorem cc_congr {f g : Nat → Int} {h : Nat} (e : ∀ n, n < 64 → f n = g n) : cc f h = cc g h := by
  unfold cc c64
  congr 2
  exact List.map_congr_left fun n hn => by rw [e n (by simpa using hn)]
theorem cc_oneCell (f : Nat → Int) (h : Nat) : (cc f h).all (·.oneCell') = true := by
  rw [Array.all_eq_true']
  intro x hx
  simp only [cc, c64, List.mem_toArray, List.mem_append, List.mem_map, List.mem_singleton] at hx
  rcases hx with ⟨n, _, rfl⟩ | rfl <;> rfl

/-- A whole row is stored into a block. -/
theorem wpList_store_blk {P : Program} {ops : Array Oper} {rest : List Oper} {op : Oper} {a : Act} {w : World} {Q : Exit → Act → World → Prop} (hgd : op.guard = none) (ty : TypeId) (x y : Operand) (ho : op.op = .store ty x y)
    (g : Nat) (t : TypeId) (old cells : Array Value) (hx : a.eval x = .pointer (some ⟨g, 0, none⟩)) (hy : a.eval y = .agg cells) (hg : Blk w g t old)
    (hi : (P.info? ty).map (·.size) = some cells.size) (hs : old.size = cells.size) (h1 : cells.all (·.oneCell') = true)
    (h : ∀ w', Blk w' g t cells → w.grownBy w' (some g) → wpList P ops Q rest (a.put op.dst undef) w') : wpList P ops Q (op :: rest) a w := by
  refine wpList_plain hgd fun K hK => ?_
  unfold Oper.wp execOp
  simp only [ho, hx, hy, Instr.storeAt, Instr.sureAddr, Sem.run_bind, Sem.run_pure, Result.andThen_ok, run_storeVar_row w g t ty old cells hg hi hs h1]
  exact hK _ _ (h _ (setRow_heap w g old _ t _ hg) ⟨rfl, rfl, rfl, by simp, fun k _ hk => setRow_other w g k _ (fun e => hk (by rw [e]))⟩)
theorem Blk.grown {w w' : World} {g : Nat} {t : TypeId} {cs : Array Value} {row : Option Nat} (h : Blk w g t cs) (hg : w.grownBy w' row) (hne : some g ≠ row) : Blk w' g t cs := (hg.block g h.lt hne).trans h
end Go.Proofs.YtldcgmnfohhjbaaDoor
