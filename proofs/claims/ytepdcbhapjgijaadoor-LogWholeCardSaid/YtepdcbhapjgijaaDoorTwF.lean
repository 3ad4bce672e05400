/- The iterator over the pieces of zones: its contract. -/
import Derived.RangeFuncBox
import Derived.RangeFuncNested
import Derived.RangeFuncLeaves
import Derived.Shelf.Abstract
import Derived.OwnWalkIn
import Derived.TacticsInMore
import Derived.LoopNIn
import Derived.LoopIn
import Derived.Test.YtepdcbhapjgijaaDoorMOld
import Derived.Test.YtepdcbhapjgijaaDoorTwE
namespace Go.Proofs.YtepdcbhapjgijaaDoor
open Go.RowKit Go.Shelf
set_option maxRecDepth 100000
attribute [local go_sem] Oper.semAt_some

/-- The block to which the slice in a box points. -/
def pt (BO : Nat) (W : World) : Option Nat := match W.cell? ⟨BO, 0, none⟩ with
  | some (.slice (some a) _ _) => some a.block
  | _ => none
theorem pt_cell {BO : Nat} {W V : World} (h : V.cell? ⟨BO, 0, none⟩ = W.cell? ⟨BO, 0, none⟩) : pt BO V = pt BO W := by unfold pt; rw [h]
/-- What the iterator asks of a round: all cells stay as they are but a box and the row to which it points. -/
structure KZ (BO : Nat) (W W' : World) : Prop where
  size : W.heap.size ≤ W'.heap.size
  same : ∀ k o, k ≠ BO → pt BO W ≠ some k → W.heap[k]? = some o → o.isCells = true → W'.heap[k]? = some o
  ptr : pt BO W' = pt BO W ∨ ∃ g, pt BO W' = some g ∧ W.heap.size ≤ g ∧ g < W'.heap.size
section
variable {BO : Nat} {W V X : World}
theorem KZ.refl (BO : Nat) (W : World) : KZ BO W W := ⟨Nat.le_refl _, fun _ _ _ _ h _ => h, .inl rfl⟩
theorem KZ.trans (h : KZ BO W V) (k : KZ BO V X) : KZ BO W X := by
  refine ⟨Nat.le_trans h.size k.size, fun i o hB hp hi ho => ?_, ?_⟩
  · refine k.same i o hB ?_ (h.same i o hB hp hi ho) ho
    have hlt := (Array.getElem?_eq_some_iff.1 hi).1
    rcases h.ptr with e | ⟨g, e, h1, _⟩
    · rw [e]; exact hp
    · rw [e]; intro e2; injection e2 with e2; omega
  · rcases k.ptr with e | ⟨g, e, h1, h2⟩
    · rcases h.ptr with e2 | ⟨g, e2, h1, h2⟩
      · exact .inl (e.trans e2)
      · exact .inr ⟨g, e.trans e2, h1, Nat.lt_of_lt_of_le h2 k.size⟩
    · exact .inr ⟨g, e, Nat.le_trans h.size h1, h2⟩
theorem KZ.of_below (hB : BO < W.heap.size) (h : Below W.heap.size W V) : KZ BO W V :=
  ⟨h.size, fun k _ _ _ hk _ => (h.block k (Array.getElem?_eq_some_iff.1 hk).1).trans hk, .inl (pt_cell (h.cell (p := ⟨BO, 0, none⟩) hB))⟩
theorem KZ.putObj {l : Nat} {o o' : Obj} (hB : BO ≠ l) (hl : W.heap[l]? = some o) (h1 : o.isCells = false) : KZ BO W (W.putObj l o') :=
  ⟨by simp, fun k x _ _ hk hx => by
    by_cases hkl : k = l
    · subst hkl; rw [hl] at hk; injection hk with hk; subst hk; rw [h1] at hx; cases hx
    · exact (World.putObj_heap_other (by omega)).trans hk, .inl (pt_cell (World.cell?_of_block (World.putObj_heap_other hB)))⟩
theorem KZ.cell (h : KZ BO W V) {p : Addr} {u : Value} (hB : p.block ≠ BO) (hp : pt BO W ≠ some p.block) (hc : W.cell? p = some u) : V.cell? p = some u := by
  obtain ⟨o, ho, hx⟩ := cells_of_cell hc
  exact (World.cell?_of_block ((h.same _ o hB hp ho hx).trans ho.symm)).trans hc
theorem KZ.blk (h : KZ BO W V) {g : Nat} {t : TypeId} {cs : Array Value} (hB : g ≠ BO) (hp : pt BO W ≠ some g) (hc : Blk W g t cs) : Blk V g t cs := h.same g _ hB hp hc rfl
end
/-- What the iterator reads between two rounds. -/
structure GoodZ (w0 : World) (BO B1 B2 : Nat) (A : Option Addr) (n c : Nat) (D : Option Addr) (q d : Nat) (W : World) : Prop where
  ol : Olds w0 W
  b1 : Blk W B1 31 #[.slice A n c]
  b2 : Blk W B2 22 #[.slice D q d]
  bo : BO < W.heap.size
  n0 : w0.heap.size ≤ BO
  n1 : BO ≠ B1
  n2 : BO ≠ B2
  np : ∀ g, pt BO W = some g → w0.heap.size ≤ g ∧ g ≠ B1 ∧ g ≠ B2 ∧ g < W.heap.size
section
variable {w0 W V : World} {BO B1 B2 : Nat} {A D : Option Addr} {n c q d : Nat}
theorem GoodZ.keep (h : GoodZ w0 BO B1 B2 A n c D q d W) (k : KZ BO W V) : GoodZ w0 BO B1 B2 A n c D q d V := by
  have h1 := h.b1.lt
  have h2 := h.b2.lt
  have h0 := h.ol.size
  refine ⟨⟨Nat.le_trans h0 k.size, fun p u hp => ?_⟩, k.blk (fun e => h.n1 e.symm) (fun e => (h.np _ e).2.1 rfl) h.b1, k.blk (fun e => h.n2 e.symm) (fun e => (h.np _ e).2.2.1 rfl) h.b2, Nat.lt_of_lt_of_le h.bo k.size, h.n0, h.n1, h.n2, fun g hg => ?_⟩
  · have hlt := World.block_lt_of_cell? _ _ hp
    exact k.cell (fun e => by have := h.n0; omega) (fun e => by have := (h.np _ e).1; omega) (h.ol.cell p u hp)
  · rcases k.ptr with e | ⟨g', e, e1, e2⟩
    · obtain ⟨a1, a2, a3, a4⟩ := h.np g (e ▸ hg)
      exact ⟨a1, a2, a3, Nat.lt_of_lt_of_le a4 k.size⟩
    · rw [e] at hg
      injection hg with hg
      subst hg
      exact ⟨by omega, by omega, by omega, e2⟩
theorem GoodZ.go (h : GoodZ w0 BO B1 B2 A n c D q d W) (hb : Below W.heap.size W V) : GoodZ w0 BO B1 B2 A n c D q d V := h.keep (KZ.of_below h.bo hb)
/-- A block that is new is not the one to which the box points. -/
theorem GoodZ.fresh (h : GoodZ w0 BO B1 B2 A n c D q d W) (o : Obj) : pt BO (W.alloc o) ≠ some W.heap.size ∧ W.heap.size ≠ BO := by
  have e : pt BO (W.alloc o) = pt BO W := pt_cell (World.cell?_alloc_lt W o _ h.bo)
  refine ⟨fun e2 => ?_, fun e2 => by have := h.bo; omega⟩
  rw [e] at e2
  have := (h.np _ e2).2.2.2
  omega
theorem KZ.still (h : KZ BO W V) {g : Nat} (hg : g < W.heap.size) (hp : pt BO W ≠ some g) : pt BO V ≠ some g := by
  rcases h.ptr with e | ⟨g', e, e1, _⟩
  · rw [e]; exact hp
  · rw [e]; intro e2; injection e2 with e2; omega
end
theorem grown_of_belowZ {W W' : World} (h : Below W.heap.size W W') : W.grownBy W' none := ⟨h.os, h.tape, h.output, h.size, fun k hk _ => h.block k hk⟩
theorem abideZ {β : Type} {B : Nat} {J : β → World → Prop} (h : AbidesFrom B J) {s : β} {W W' : World} (hb : Below W.heap.size W W') (hs : J s W) : J s W' := h s W W' none hs (grown_of_belowZ hb) (fun r e => by cases e)

/-- What a round is handed: a piece. -/
def evZ (x : ZV × Zn) : Array Value := #[.agg #[.int .i64 x.2.1.1, .int .i64 x.2.1.2, .slice x.1.A x.1.n x.1.c]]
structure EvT (w0 : World) (x : ZV × Zn) : Prop where
  len : x.2.2.length = x.1.n
  rd : Rd w0 w0.heap.size 2 x.1.A x.1.n x.1.c (sv x.2.2)
  fm : fm (-1) x.2.2 = true

theorem pcs_gap (u : List Vc.St) {a : Int} {x : Zn} {r : List Zn} (h : a < x.1.1) : pcs u a (x :: r) = ((a, x.1.1 - 1), u) :: x :: pcs u (x.1.2 + 1) r := by rw [pcs, if_pos h]; rfl
theorem pcs_tight (u : List Vc.St) {a : Int} {x : Zn} {r : List Zn} (h : ¬ a < x.1.1) : pcs u a (x :: r) = x :: pcs u (x.1.2 + 1) r := by rw [pcs, if_neg h]; rfl

set_option maxHeartbeats 8000000 in
/-- The closure: for every loop body that keeps what it reads. -/
theorem pieces1_in (m : Nat) (hm : 1 ≤ m) (lp BO B1 B2 : Nat) (A D : Option Addr) (n c q d : Nat) (L : List (ZV × Zn)) (u0 : List Vc.St) (w0 : World) (hR : RdZ w0 w0.heap.size A n c L) (hf : zF (-1) none (zns L) = true) (hT0 : ∀ s, EvT w0 (⟨D, q, d⟩, s, u0))
    (J Jx : List (ZV × Zn) → World → Prop) (B : Nat) (hJ : AbidesFrom B J)
    (hY : ∀ pre (x : ZV × Zn) W, J pre W → EvT w0 x → pre.length < 513 → YieldAt Fence.wide (m - 1) Tryd.prog lp (evZ x) W fun e W' =>
      (e = .returned (.bool true) ∧ J (pre ++ [x]) W' ∧ KZ BO W W') ∨ (e = .returned (.bool false) ∧ Jx (pre ++ [x]) W'))
    (W : World) (hg : GoodZ w0 BO B1 B2 A n c D q d W) (h0 : J [] W) :
    CallsIn Fence.wide m Tryd.prog 48 #[.func (.yield lp) #[] #[], .pointer (some ⟨B1, 0, none⟩), .pointer (some ⟨B2, 0, none⟩)] W fun e W' => (∃ v, e = .returned v) ∧
      ((∃ ys, zns ys = pcs u0 0 (zns L) ∧ J ys W') ∨ (∃ pre, (zns pre <+: pcs u0 0 (zns L)) ∧ Jx pre W')) := by
  have hn := zF_256 hf
  rw [zns_len, hR.len] at hn
  have hbx := hg.b1.cell 0
  have HL := Lib.hid hR.len
  have HR := Lib.hid hR
  have HFM := Lib.hid hf
  have HT0 := Lib.hid hT0
  clear hR hf hT0
  refine callsIn_of_wp Tryd.func48 rfl trivial ?_ rfl
  simp only [Tryd.ntmps48, List.size_toArray, List.length_cons, List.length_nil, Nat.reduceAdd, Nat.reduceSub, Array.replicate_succ, Array.replicate_zero, List.push_toArray, List.append_toArray, List.nil_append, List.cons_append]
  gi_wp2
  clear hbx
  gi_loopw [4, 9] (fun v4 v9 wr => ∃ (i : Nat) (a : Int) (pre : List (ZV × Zn)), v9 = .int .i64 i ∧ v4 = .int .i64 a ∧ i ≤ n ∧ (0 ≤ a ∧ a ≤ 256) ∧ GoodZ w0 BO B1 B2 A n c D q d wr ∧ J pre wr ∧ Hid (∃ p, zF (a - 1) p ((zns L).drop i) = true) ∧ Hid (pcs u0 0 (zns L) = zns pre ++ pcs u0 a ((zns L).drop i)) ∧ pre.length ≤ 2 * i) (fun _ v9 _ => n - (intOf v9).toNat)
  case atStart => exact ⟨0, 0, [], rfl, rfl, by omega, by omega, hg, h0, ⟨none, HFM.out⟩, rfl, by simp⟩
  case round =>
    obtain ⟨i, a, pre, rfl, rfl, hi, ha, hgd, hj, hzf, hev, hpl⟩ := hrel
    by_cases hlt : i < n
    · have hkL : i < L.length := by rw [HL.out]; exact hlt
      have hkZ : i < (zns L).length := by rw [zns_len]; exact hkL
      obtain ⟨p, hp⟩ := hzf.out
      rw [List.drop_eq_getElem_cons hkZ, zns_at L i hkL, zF, Bool.and_eq_true] at hp
      obtain ⟨b, oo, rfl, hab, g0, g1, g2⟩ := HR.out.zone hkL
      obtain ⟨hvl, hRv⟩ := HR.out.each _ (List.getElem_mem hkL)
      have hvf := zF_fm HFM.out L[i].2 (by unfold zns; exact List.mem_map_of_mem (List.getElem_mem hkL))
      have hev1 := hev.out
      rw [List.drop_eq_getElem_cons hkZ, zns_at L i hkL] at hev1
      obtain ⟨z1, z2, z3, z4⟩ := zStep_iff hp.1
      have hp2 := hp.2
      generalize L[i] = y at g0 g1 g2 hvl hRv hvf hev1 z1 z2 z3 hp2
      obtain ⟨⟨Av, nv, cv⟩, ⟨lo, hi'⟩, u⟩ := y
      dsimp only at g0 g1 g2 hvl hRv hvf hev1 z1 z2 z3 hp2
      have HTV := Lib.hid (show EvT w0 (⟨Av, nv, cv⟩, (lo, hi'), u) from ⟨hvl, hRv, hvf⟩)
      have HP2 := Lib.hid (show ∃ p, zF (hi' + 1 - 1) p ((zns L).drop (i + 1)) = true from ⟨some u, by rw [show hi' + 1 - 1 = hi' by omega]; exact hp2⟩)
      have HEV := Lib.hid hev1
      have g0 := hgd.ol.cell _ _ g0
      have g1 := hgd.ol.cell _ _ g1
      have g2 := hgd.ol.cell _ _ g2
      have hb1 : Below wr.heap.size wr (wr.alloc (.cells #[.int .i64 lo, .int .i64 hi', .slice Av nv cv] 62)) := (Below.refl _ _).alloc (Nat.le_refl _) _
      have hX := Blk.new wr 62 #[.int .i64 lo, .int .i64 hi', .slice Av nv cv]
      have hgd1 := hgd.go hb1
      have hj1 := abideZ hJ hb1 hj
      obtain ⟨f1, f2⟩ := hgd.fresh (.cells #[.int .i64 lo, .int .i64 hi', .slice Av nv cv] 62)
      have hw1 : IntKind.i64.wrap (lo - 1) = lo - 1 := IntWalk.i64_in _ (by omega)
      have hw2 : IntKind.i64.wrap (hi' + 1) = hi' + 1 := IntWalk.i64_in _ (by omega)
      clear hp hp2 hvl hRv hvf hev hev1 hzf hab hgd hj z4 hkL hkZ
      by_cases c1 : a < lo
      · obtain ⟨fn, tmps, assign, body, hy, hR⟩ := hY pre (⟨D, q, d⟩, (a, lo - 1), u0) _ hj1 (HT0.out _) (by omega)
        have q2 := hgd1.b2.cell 0
        have HX := Lib.hid hX
        have HG := Lib.hid hgd1
        have HF := Lib.hid (And.intro f1 f2)
        have HE := Lib.hid (show pcs u0 0 (zns L) = zns ((pre ++ [(⟨D, q, d⟩, (a, lo - 1), u0)]) ++ [(⟨Av, nv, cv⟩, (lo, hi'), u)]) ++ pcs u0 (hi' + 1) ((zns L).drop (i + 1)) by
          rw [HEV.out, pcs_gap u0 c1, zns_app, zns_app, List.append_assoc, List.append_assoc]; rfl)
        have hy : (Instr.yield lp #[.agg #[.int .i64 a, .int .i64 (lo - 1), .slice D q d]]).run Tryd.prog (wr.alloc (.cells #[.int .i64 lo, .int .i64 hi', .slice Av nv cv] 62)) = _ := hy
        have HY := Lib.hid hy
        clear hX hgd1 hj1 HEV f1 f2 hy
        gi_wp2
        rw [HY.out]
        gi_wp2
        refine hR.mono ?_
        have HE0 := Lib.hid (show zns (pre ++ [((⟨D, q, d⟩ : ZV), (a, lo - 1), u0)]) <+: pcs u0 0 (zns L) by rw [HE.out, zns_app (pre ++ _), List.append_assoc]; exact ⟨_, rfl⟩)
        rintro e W3 (⟨rfl, hJ3, hk3⟩ | ⟨rfl, hJx3⟩)
        · have X1 := Lib.hid (hk3.blk HF.out.2 HF.out.1 HX.out)
          have G1 := Lib.hid (HG.out.keep hk3)
          have FF := Lib.hid (And.intro (hk3.still (by simp) HF.out.1) HF.out.2)
          clear HX HG HF hk3 q2 HY
          obtain ⟨fn2, tmps2, assign2, body2, hy2, hR2⟩ := hY (pre ++ [(⟨D, q, d⟩, (a, lo - 1), u0)]) (⟨Av, nv, cv⟩, (lo, hi'), u) W3 hJ3 HTV.out (by simp only [List.length_append, List.length_singleton]; omega)
          have hy2 : (Instr.yield lp #[.agg #[.int .i64 lo, .int .i64 hi', .slice Av nv cv]]).run Tryd.prog W3 = _ := hy2
          have HY2 := Lib.hid hy2
          obtain ⟨x0, x1, x2⟩ := X1.out.three
          clear hy2
          gi_wp2
          rw [HY2.out]
          gi_wp2
          refine hR2.mono ?_
          rintro e W4 (⟨rfl, hJ4, hk4⟩ | ⟨rfl, hJx4⟩)
          · have hX4 := hk4.blk FF.out.2 FF.out.1 X1.out
            have y1 := hX4.cell 1
            have hgd4 := G1.out.keep hk4
            clear x0 x1 x2 HY2
            gi_wp2
            go_roundw
            case rel => exact ⟨i + 1, hi' + 1, _, by go_num, rfl, by omega, by omega, hgd4, hJ4, HP2.out, HE.out, by simp only [List.length_append, List.length_singleton]; omega⟩
            case measure => simp [intOf]; omega
          · gi_wp2
            refine bodyPost_ret (results_none rfl _ _ _) rfl ?_
            exact ⟨⟨_, rfl⟩, .inr ⟨_, ⟨_, HE.out.symm⟩, hJx4⟩⟩
        · gi_wp2
          refine bodyPost_ret (results_none rfl _ _ _) rfl ?_
          exact ⟨⟨_, rfl⟩, .inr ⟨_, HE0.out, hJx3⟩⟩
      · have HE := Lib.hid (show pcs u0 0 (zns L) = zns (pre ++ [(⟨Av, nv, cv⟩, (lo, hi'), u)]) ++ pcs u0 (hi' + 1) ((zns L).drop (i + 1)) by
          rw [HEV.out, pcs_tight u0 c1, zns_app, List.append_assoc]; rfl)
        have X1 := Lib.hid hX
        have G1 := Lib.hid hgd1
        have FF := Lib.hid (And.intro f1 f2)
        clear hX hgd1 HEV f1 f2
        obtain ⟨fn2, tmps2, assign2, body2, hy2, hR2⟩ := hY (pre) (⟨Av, nv, cv⟩, (lo, hi'), u) (wr.alloc (.cells #[.int .i64 lo, .int .i64 hi', .slice Av nv cv] 62)) hj1 HTV.out (by omega)
        have hy2 : (Instr.yield lp #[.agg #[.int .i64 lo, .int .i64 hi', .slice Av nv cv]]).run Tryd.prog (wr.alloc (.cells #[.int .i64 lo, .int .i64 hi', .slice Av nv cv] 62)) = _ := hy2
        have HY2 := Lib.hid hy2
        obtain ⟨x0, x1, x2⟩ := X1.out.three
        clear hy2
        gi_wp2
        refine ⟨fun f hf => (by cases hf), ?_⟩
        gi_wp2
        rw [HY2.out]
        gi_wp2
        refine hR2.mono ?_
        rintro e W4 (⟨rfl, hJ4, hk4⟩ | ⟨rfl, hJx4⟩)
        · have hX4 := hk4.blk FF.out.2 FF.out.1 X1.out
          have y1 := hX4.cell 1
          have hgd4 := G1.out.keep hk4
          clear x0 x1 x2 HY2
          gi_wp2
          go_roundw
          case rel => exact ⟨i + 1, hi' + 1, _, by go_num, rfl, by omega, by omega, hgd4, hJ4, HP2.out, HE.out, by simp only [List.length_append, List.length_singleton]; omega⟩
          case measure => simp [intOf]; omega
        · gi_wp2
          refine bodyPost_ret (results_none rfl _ _ _) rfl ?_
          exact ⟨⟨_, rfl⟩, .inr ⟨_, ⟨_, HE.out.symm⟩, hJx4⟩⟩
    · obtain rfl : i = n := by omega
      have hev1 := hev.out
      rw [List.drop_of_length_le (by rw [zns_len, HL.out]; exact Nat.le_refl _)] at hev1
      by_cases c1 : a ≤ 255
      · have HE := Lib.hid (show pcs u0 0 (zns L) = zns (pre ++ [(⟨D, q, d⟩, (a, 255), u0)]) by rw [hev1, pcs, if_pos c1, zns_app]; rfl)
        obtain ⟨fn, tmps, assign, body, hy, hR⟩ := hY pre (⟨D, q, d⟩, (a, 255), u0) wr hj (HT0.out _) (by omega)
        have hy : (Instr.yield lp #[.agg #[.int .i64 a, .int .i64 255, .slice D q d]]).run Tryd.prog wr = _ := hy
        have HY := Lib.hid hy
        have q2 := hgd.b2.cell 0
        clear hev hev1 hzf hy
        gi_wp2
        rw [HY.out]
        gi_wp2
        refine hR.mono ?_
        rintro e W3 (⟨rfl, hJ3, hk3⟩ | ⟨rfl, hJx3⟩)
        · gi_wp2
          go_end0
          exact ⟨⟨_, rfl⟩, .inl ⟨_, HE.out.symm, hJ3⟩⟩
        · gi_wp2
          go_end0
          exact ⟨⟨_, rfl⟩, .inr ⟨_, by rw [HE.out]; exact List.prefix_refl _, hJx3⟩⟩
      · have HE := Lib.hid (show pcs u0 0 (zns L) = zns pre by rw [hev1, pcs, if_neg c1, List.append_nil])
        clear hev hev1 hzf
        gi_wp2
        go_end0
        exact ⟨⟨_, rfl⟩, .inl ⟨pre, HE.out.symm, hj⟩⟩
theorem pieces_told (m : Nat) (hm : 1 ≤ m) (BO B1 B2 : Nat) (A D : Option Addr) (n c q d : Nat) (L : List (ZV × Zn)) (u0 : List Vc.St) (w0 : World) (hR : RdZ w0 w0.heap.size A n c L) (hf : zF (-1) none (zns L) = true) (hT0 : ∀ s, EvT w0 (⟨D, q, d⟩, s, u0)) (w : World) (hg : GoodZ w0 BO B1 B2 A n c D q d w) :
    SeqTold Fence.wide m Tryd.prog 48 #[.pointer (some ⟨B1, 0, none⟩), .pointer (some ⟨B2, 0, none⟩)] evZ (fun x _ => EvT w0 x) (KZ BO) (fun ys => zns ys = pcs u0 0 (zns L)) (fun pre => zns pre <+: pcs u0 0 (zns L)) 513 w := by
  intro lp J Jx W hW hJ hJx hY h0
  exact pieces1_in m hm lp BO B1 B2 A D n c q d L u0 w0 hR hf hT0 J Jx W.heap.size hJ hY W (hg.go hW) h0
/-- trust.pieces: the function value. -/
theorem pieces_any (A D : Option Addr) (n c q d : Nat) (w : World) : Calls Tryd.prog 26 #[.slice A n c, .slice D q d] w fun e w' =>
    e = .returned (.func (.func 48) #[] #[.pointer (some ⟨w.heap.size, 0, none⟩), .pointer (some ⟨w.heap.size + 1, 0, none⟩)]) ∧ w' = (w.alloc (.cells #[.slice A n c] 31)).alloc (.cells #[.slice D q d] 22) := by
  go_enter Tryd.func26, Tryd.ntmps26
  go_wp2
  go_ret
  exact ⟨rfl, rfl⟩
end Go.Proofs.YtepdcbhapjgijaaDoor
