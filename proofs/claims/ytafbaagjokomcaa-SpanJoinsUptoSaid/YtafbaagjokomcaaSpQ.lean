/- The iterator over a set's objects: its contract. -/
import Derived.RangeFuncBox
import Derived.RangeFuncNested
import Derived.RangeFuncLeaves
import Derived.Shelf.Abstract
import Derived.WalkMore
import Derived.WalkKit
import Derived.OwnWalkIn
import Derived.TacticsInMore
import Derived.LoopNIn
import Derived.LoopIn
import Derived.Test.YtafbaagjokomcaaSpC
import Derived.Test.YtafbaagjokomcaaSpP
import Derived.Test.YtafbaagjokomcaaNext
namespace Go.Proofs.Ytafbaagjokomcaa
open Go.RowKit Go.Shelf
set_option maxRecDepth 100000
attribute [local go_sem] Oper.semAt_some

def evN (x : Nat) : Array Value := #[.int .i64 (x : Int)]
/-- What the iterator asks of a round: cells from block B on stay as they are. -/
structure KA (B : Nat) (W W' : World) : Prop where
  size : W.heap.size ≤ W'.heap.size
  same : ∀ k o, B ≤ k → W.heap[k]? = some o → o.isCells = true → W'.heap[k]? = some o
section
variable {B : Nat} {W V X : World}
theorem KA.refl (B : Nat) (W : World) : KA B W W := ⟨Nat.le_refl _, fun _ _ _ h _ => h⟩
theorem KA.trans (h : KA B W V) (k : KA B V X) : KA B W X := ⟨Nat.le_trans h.size k.size, fun i o hB hi ho => k.same i o hB (h.same i o hB hi ho) ho⟩
theorem KA.of_below (h : Below W.heap.size W V) : KA B W V := ⟨h.size, fun k _ _ hk _ => (h.block k (Array.getElem?_eq_some_iff.1 hk).1).trans hk⟩
theorem KA.setCell {p : Addr} (hp : p.block < B) (u : Value) : KA B W (W.setCell p u) := ⟨by simp, fun k _ hB hk _ => (Below.heap_setCell W p u k (by omega)).trans hk⟩
theorem KA.putObj {l : Nat} {o o' : Obj} (hl : W.heap[l]? = some o) (h1 : o.isCells = false) : KA B W (W.putObj l o') :=
  ⟨by simp, fun k x _ hk hx => by
    by_cases hkl : k = l
    · subst hkl; rw [hl] at hk; injection hk with hk; subst hk; rw [h1] at hx; cases hx
    · exact (World.putObj_heap_other (by omega)).trans hk⟩
theorem KA.cell (h : KA B W V) {p : Addr} {u : Value} (hB : B ≤ p.block) (hc : W.cell? p = some u) : V.cell? p = some u := by
  obtain ⟨o, ho, hx⟩ := cells_of_cell hc
  exact (World.cell?_of_block ((h.same _ o hB ho hx).trans ho.symm)).trans hc
theorem KA.blk (h : KA B W V) {g : Nat} {t : TypeId} {cs : Array Value} (hB : B ≤ g) (hc : Blk W g t cs) : Blk V g t cs := h.same g _ hB hc rfl
end
/-- What the iterator reads between two rounds. -/
structure GoodS (Bx B : Nat) (A : Option Addr) (q c : Nat) (T : List Sn.Sp) (W : World) : Prop where
  box : Blk W Bx 24 #[.slice A q c]
  rd : Rd W W.heap.size 2 A q c (sv T)
  lo : B ≤ Bx
  la : ∀ a, A = some a → B ≤ a.block
theorem GoodS.keep {Bx B : Nat} {A : Option Addr} {q c : Nat} {T : List Sn.Sp} {W V : World} (h : GoodS Bx B A q c T W) (k : KA B W V) : GoodS Bx B A q c T V :=
  ⟨k.blk h.lo h.box, ⟨h.rd.len, h.rd.cap, h.rd.max, h.rd.nil, fun hn => by
    obtain ⟨ad, e, hb, hc⟩ := h.rd.at0 hn
    exact ⟨ad, e, Nat.lt_of_lt_of_le hb k.size, fun j u hu => k.cell (by rw [block_of_add]; exact h.la ad e) (hc j u hu)⟩⟩, h.lo, h.la⟩
theorem GoodS.go {Bx B : Nat} {A : Option Addr} {q c : Nat} {T : List Sn.Sp} {W V : World} (h : GoodS Bx B A q c T W) (hb : Below W.heap.size W V) : GoodS Bx B A q c T V := h.keep (KA.of_below hb)
theorem grown_of_belowS {W W' : World} (h : Below W.heap.size W W') : W.grownBy W' none := ⟨h.os, h.tape, h.output, h.size, fun k hk _ => h.block k hk⟩
theorem abideS {β : Type} {B : Nat} {J : β → World → Prop} (h : AbidesFrom B J) {s : β} {W W' : World} (hb : Below W.heap.size W W') (hs : J s W) : J s W' := h s W W' none hs (grown_of_belowS hb) (fun r e => by cases e)

/-- What is left of a span from an object on. -/
def segFrom (o : Nat) (hi : Int) : List Nat := List.range' o (hi + 1 - o).toNat
theorem segFrom_cons (o : Nat) (hi : Int) (h : (o : Int) ≤ hi) : segFrom o hi = o :: segFrom (o + 1) hi := by
  unfold segFrom
  obtain ⟨m, hm⟩ : ∃ m : Nat, (hi + 1 - (o : Int)).toNat = m + 1 := ⟨(hi - o).toNat, by omega⟩
  rw [hm, List.range'_succ]
  congr 2
  omega
theorem segFrom_end (o : Nat) (hi : Int) (h : hi < (o : Int)) : segFrom o hi = [] := by
  unfold segFrom
  rw [show (hi + 1 - (o : Int)).toNat = 0 by omega]; rfl

theorem wpIn_scope_wide {P : Program} {n : Nat} {c : Code} {Q : Exit → Act → World → Prop} {a : Act} {w : World} (h : c.wpIn Fence.wide n P (Exit.noGoto Q) a w) : (Code.scope c).wpIn Fence.wide n P Q a w := wpIn_wide.2 (wp_scope_straight (wpIn_wide.1 h))

set_option maxHeartbeats 4000000 in
/-- The closure: for every loop body that keeps what it reads. -/
theorem spAll1_in (m : Nat) (hm : 1 ≤ m) (lp Bx B : Nat) (A : Option Addr) (q c : Nat) (T : List Sn.Sp) (L : List Nat) (hL : Sn.segs T = L) (hLn : L.length ≤ 256) (hql : T.length = q) (hok : ∀ s ∈ T, Sn.okS s) (J Jx : List Nat → World → Prop) (B0 : Nat) (hJ : AbidesFrom B0 J)
    (hY : ∀ pre (x : Nat) W, J pre W → (pre ++ [x]) <+: L → pre.length < 256 → YieldAt Fence.wide (m - 1) Try.prog lp (evN x) W fun e W' =>
      (e = .returned (.bool true) ∧ J (pre ++ [x]) W' ∧ KA B W W') ∨ (e = .returned (.bool false) ∧ Jx (pre ++ [x]) W'))
    (W : World) (hg : GoodS Bx B A q c T W) (h0 : J [] W) :
    CallsIn Fence.wide m Try.prog 34 #[.func (.yield lp) #[] #[], .pointer (some ⟨Bx, 0, none⟩)] W fun e W' => (∃ v, e = .returned v) ∧
      ((∃ ys, ys = L ∧ J ys W') ∨ (∃ pre, (pre <+: L) ∧ Jx pre W')) := by
  have hbx := hg.box.cell 0
  have HQL := Lib.hid hql
  have HOK := Lib.hid hok
  have HL := Lib.hid hL
  have hmax : q ≤ 9223372036854775807 := by have h1 := hg.rd.cap; have h2 := hg.rd.max; unfold maxLen at h2; omega
  have HLN := Lib.hid hLn
  clear hql hok hL hLn
  refine callsIn_of_wp Try.func34 rfl trivial ?_ rfl
  simp only [Try.ntmps34, List.size_toArray, List.length_cons, List.length_nil, Nat.reduceAdd, Nat.reduceSub, Array.replicate_succ, Array.replicate_zero, List.push_toArray, List.append_toArray, List.nil_append, List.cons_append]
  refine wpIn_scope_wide ?_
  refine wpIn_seq_k fun K0 hK0 => wpIn_label (hK0 _ _ ?_)
  gi_wp2
  clear hbx
  gi_loopw [8] (fun v8 wr => ∃ (k : Nat) (pre : List Nat), v8 = .int .i64 k ∧ k ≤ q ∧ GoodS Bx B A q c T wr ∧ J pre wr ∧ Hid (L = pre ++ Sn.segs (T.drop k))) (fun v8 _ => q - (intOf v8).toNat)
  case atStart => exact ⟨0, [], rfl, by omega, hg, h0, by show _ = _; rw [← HL.out]; rfl⟩
  case round =>
    obtain ⟨k, pre, rfl, hk, hgd, hj, hev⟩ := hrel
    by_cases hlt : k < q
    · obtain ⟨bb, o, rfl, hab, g0, g1⟩ := hgd.rd.stamp HQL.out hlt
      have hkl : k < T.length := by rw [HQL.out]; exact hlt
      obtain ⟨a1, a2, a3⟩ := HOK.out _ (List.getElem_mem hkl)
      have HE := Lib.hid (show L = pre ++ (Sn.seg (T[k]'hkl) ++ Sn.segs (T.drop (k + 1))) by rw [hev.out, List.drop_eq_getElem_cons hkl, Sn.segs_cons])
      clear hev
      generalize (T[k]'hkl) = s at g0 g1 HE a1 a2 a3
      obtain ⟨lo, hi⟩ := s
      dsimp only at g0 g1 a1 a2 a3
      obtain ⟨lo', rfl⟩ := Int.eq_ofNat_of_zero_le a1
      have HE2 := Lib.hid (show L = pre ++ (segFrom lo' hi ++ Sn.segs (T.drop (k + 1))) from HE.out)
      clear HE hkl
      gi_wp2
      have hb1 : Below wr.heap.size wr (wr.alloc (.cells #[.int .i64 lo', .int .i64 hi] 44)) := (Below.refl _ _).alloc (Nat.le_refl _) _
      have hX := Blk.new wr 44 #[.int .i64 lo', .int .i64 hi]
      have hgd1 := hgd.go hb1
      have hj1 := abideS hJ hb1 hj
      generalize hV : wr.alloc (.cells #[.int .i64 lo', .int .i64 hi] 44) = V at hX hgd1 hj1
      have hVs : V.heap.size = wr.heap.size + 1 := by rw [← hV]; simp
      have HGB := Lib.hid (show B ≤ wr.heap.size from Nat.le_of_lt (Nat.lt_of_le_of_lt hgd.lo hgd.box.lt))
      clear hb1 hgd hj g0 g1 hV
      generalize wr.heap.size = G at hX hVs HGB
      gi_loopw [5] (fun v5 wy => ∃ (x : Nat) (pre2 : List Nat), v5 = .int .i64 x ∧ lo' ≤ x ∧ (x : Int) ≤ hi + 1 ∧ GoodS Bx B (some ⟨bb, o, none⟩) q c T wy ∧ J pre2 wy ∧ Blk wy G 44 #[.int .i64 lo', .int .i64 hi] ∧ Hid (L = pre2 ++ (segFrom x hi ++ Sn.segs (T.drop (k + 1))))) (fun v5 _ => (hi + 1 - intOf v5).toNat)
      case atStart => exact ⟨lo', pre, rfl, by omega, by omega, hgd1, hj1, hX, HE2.out⟩
      case round =>
        obtain ⟨x, pre2, rfl, hx1, hx2, hgd2, hj2, hX2, hev2⟩ := hrel
        have q1 := hX2.cell 1
        by_cases hle : (x : Int) ≤ hi
        · have hev3 := hev2.out
          rw [segFrom_cons x hi hle, List.cons_append] at hev3
          have HE3 := Lib.hid (show L = (pre2 ++ [x]) ++ (segFrom (x + 1) hi ++ Sn.segs (T.drop (k + 1))) by rw [hev3, List.append_assoc]; rfl)
          have hpf : (pre2 ++ [x]) <+: L := ⟨_, HE3.out.symm⟩
          have hpl : pre2.length < 256 := by have h1 := hpf.length_le; rw [List.length_append, List.length_singleton] at h1; have := HLN.out; omega
          obtain ⟨fn, tmps, assign, body, hy, hR⟩ := hY pre2 x _ hj2 hpf hpl
          dsimp only [evN] at hy
          have HG := Lib.hid hgd2
          have HX := Lib.hid hX2
          have HPF := Lib.hid hpf
          clear hev2 hev3 hgd2 hX2 hpf hpl
          gi_wp2
          refine hR.mono ?_
          rintro e W3 (⟨rfl, hJ3, hk3⟩ | ⟨rfl, hJx3⟩)
          · gi_wp2
            go_roundw
            case rel => exact ⟨x + 1, pre2 ++ [x], by go_num, by omega, by omega, HG.out.keep hk3, hJ3, hk3.blk HGB.out HX.out, HE3.out⟩
            case measure => simp [intOf]; omega
          · gi_wp2
            try simp only [Exit.noGoto]
            go_end0
            exact ⟨⟨_, rfl⟩, .inr ⟨pre2 ++ [x], HPF.out, hJx3⟩⟩
        · have HE3 := Lib.hid (show L = pre2 ++ Sn.segs (T.drop (k + 1)) by rw [hev2.out, segFrom_end x hi (by omega)]; rfl)
          clear hev2
          gi_wp2
          go_roundw
          case rel => exact ⟨k + 1, pre2, by go_num, by omega, hgd2, hj2, HE3.out⟩
          case measure => simp [intOf]; omega
    · have HD := Lib.hid (show pre = L by rw [hev.out, List.drop_of_length_le (by rw [HQL.out]; omega)]; simp [Sn.segs])
      clear hev
      gi_wp2
      try simp only [Exit.noGoto]
      go_end0
      exact ⟨⟨_, rfl⟩, .inl ⟨pre, HD.out, hj⟩⟩
end Go.Proofs.Ytafbaagjokomcaa
