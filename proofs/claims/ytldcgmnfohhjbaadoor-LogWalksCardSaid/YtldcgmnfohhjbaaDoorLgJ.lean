/- The iterator over a log: its contract. -/
import Derived.Shelf.Abstract
import Derived.OwnWalkIn
import Derived.TacticsInMore
import Derived.LoopNIn
import Derived.LoopIn
import Derived.Test.YtldcgmnfohhjbaaDoorMOld
import Derived.Test.YtldcgmnfohhjbaaDoorLgI
namespace Go.Proofs.YtldcgmnfohhjbaaDoor
open Go.RowKit Go.Shelf
set_option maxRecDepth 100000
attribute [local go_sem] Oper.semAt_some

theorem Tab.olds {w W : World} (h : Tab w) (ho : Olds w W) : Tab W := fun j hj => ho.cell _ _ (h j hj)
theorem NtRd.olds {w W : World} {B : Nat} {v : NV} {x : Nt} (h : NtRd w B v x) (ho : Olds w W) : NtRd W B v x :=
  ⟨h.l1, h.r1.olds ho, h.l2, h.r2.olds ho, h.l3, h.r3.olds ho, h.l4, h.r4.olds ho⟩
theorem LgRd.olds {w W : World} {v : LV} {b : List Vc.St} {L : List (NV × Nt)} (h : LgRd w v b L) (ho : Olds w W) : LgRd W v b L :=
  ⟨h.l1, (h.r1.olds ho).more ho.size, ⟨h.ns.len, (h.ns.rd.olds ho).more ho.size, fun p hp => ((h.ns.each p hp).olds ho).more ho.size⟩⟩

/-- Places and notes from a place on. -/
def evD : Nat → List Nt → List (Nat × Nt)
  | _, [] => []
  | i, x :: r => (i, x) :: evD (i + 1) r
theorem evD_next {l : List Nt} {i : Nat} (h : i < l.length) : evD i (l.drop i) = (i, l[i]) :: evD (i + 1) (l.drop (i + 1)) := by
  rw [List.drop_eq_getElem_cons h, evD]
theorem evD_end {l : List Nt} {i : Nat} (h : l.length ≤ i) : evD i (l.drop i) = [] := by rw [List.drop_of_length_le h]; rfl
/-- What a log tells. -/
def evG (b : List Vc.St) (L : List (NV × Nt)) (su fr : Int) : List (Nat × Nt) := if lgR b L su = true then evD fr.toNat ((nts L).drop fr.toNat) else []
/-- What a round is handed: a place, a note. -/
abbrev EvG := Nat × NV × Nt
def evsG (x : EvG) : Array Value := #[.int .i64 (x.1 : Int), .agg x.2.1.val]
def egT (x : EvG) (W : World) : Prop := NtRd W W.heap.size x.2.1 x.2.2
def saidG (l : List EvG) : List (Nat × Nt) := l.map fun x => (x.1, x.2.2)
theorem saidG_snoc (l : List EvG) (x : EvG) : saidG (l ++ [x]) = saidG l ++ [(x.1, x.2.2)] := by simp [saidG]

/-- What the iterator reads between two rounds. -/
structure GoodG (w0 : World) (Bl Bf : Nat) (v : LV) (su fr : Int) (W : World) : Prop where
  ol : Olds w0 W
  bl : Blk W Bl 47 (v.val su)
  bf : Blk W Bf 3 #[.int .i64 fr]
  gl : w0.heap.size ≤ Bl
  gf : w0.heap.size ≤ Bf
theorem GoodG.below {w0 W V : World} {Bl Bf n₀ : Nat} {v : LV} {su fr : Int} (h : GoodG w0 Bl Bf v su fr W) (hb : Below n₀ W V) (h1 : Bl < n₀) (h2 : Bf < n₀) : GoodG w0 Bl Bf v su fr V :=
  ⟨⟨Nat.le_trans h.ol.size hb.size, fun p u hp => (hb.cell (p := p) (by have := World.block_lt_of_cell? _ _ hp; have := h.gl; omega)).trans (h.ol.cell p u hp)⟩, h.bl.below hb h1, h.bf.below hb h2, h.gl, h.gf⟩
theorem GoodG.go {w0 W V : World} {Bl Bf : Nat} {v : LV} {su fr : Int} (h : GoodG w0 Bl Bf v su fr W) (hb : Below W.heap.size W V) : GoodG w0 Bl Bf v su fr V := h.below hb h.bl.lt h.bf.lt
theorem grown_of_belowG {W W' : World} (h : Below W.heap.size W W') : W.grownBy W' none := ⟨h.os, h.tape, h.output, h.size, fun k hk _ => h.block k hk⟩
theorem abideG {β : Type} {B : Nat} {J : β → World → Prop} (h : AbidesFrom B J) {s : β} {W W' : World} (hb : Below W.heap.size W W') (hs : J s W) : J s W' := h s W W' none hs (grown_of_belowG hb) (fun r e => by cases e)

theorem intOf_eq {a b : Int} (h : a = b) : Value.int .i64 a = .int .i64 b := by rw [h]

set_option maxHeartbeats 8000000 in
/-- The closure: for every loop body that keeps what it reads. -/
theorem lgAll1_in (m : Nat) (hm : 1 ≤ m) (lp Bl Bf : Nat) (v : LV) (b : List Vc.St) (L : List (NV × Nt)) (su fr : Int) (w0 : World) (hT : Tab w0) (h : LgRd w0 v b L) (hsz : LgSz v L) (J Jx : List EvG → World → Prop) (B : Nat) (hJ : AbidesFrom B J)
    (hY : ∀ pre (x : EvG) W, J pre W → egT x W → pre.length < v.m → YieldAt Fence.wide (m - 1) Tryd.prog lp (evsG x) W fun e W' =>
      (e = .returned (.bool true) ∧ J (pre ++ [x]) W' ∧ (GoodG w0 Bl Bf v su fr W → GoodG w0 Bl Bf v su fr W')) ∨ (e = .returned (.bool false) ∧ Jx (pre ++ [x]) W'))
    (W : World) (hg : GoodG w0 Bl Bf v su fr W) (h0 : J [] W) :
    CallsIn Fence.wide m Tryd.prog 67 #[.func (.yield lp) #[] #[], .pointer (some ⟨Bl, 0, none⟩), .pointer (some ⟨Bf, 0, none⟩)] W fun e W' => (∃ v, e = .returned v) ∧
      ((∃ ys, saidG ys = evG b L su fr ∧ J ys W') ∨ (∃ pre, (saidG pre <+: evG b L su fr) ∧ Jx pre W')) := by
  obtain ⟨A, n, c, D, d0, d⟩ := v
  have g0 := hg.bl.cell 0
  have g1 := hg.bl.cell 1
  have g2 := hg.bl.cell 2
  have HH := Lib.hid h
  have HT := Lib.hid hT
  have HG := Lib.hid hg
  have hln : L.length = d0 := h.ns.len
  have HLN := Lib.hid hln
  have hmax : d0 ≤ 9223372036854775807 := by have h1 := hsz.m1; dsimp only at h1; omega
  have HEV := Lib.hid (show evG b L su fr = if lgR b L su = true then evD fr.toNat ((nts L).drop fr.toNat) else [] from rfl)
  have f1 := lgFormed_any ⟨A, n, c, D, d0, d⟩ b L su W (hT.olds hg.ol) (h.olds hg.ol)
  rw [lgF_R] at f1
  rcases hr : lgR b L su with _ | _
  · have HN := Lib.hid (show evG b L su fr = [] by rw [HEV.out, hr]; rfl)
    rw [hr] at f1
    have G1 := Lib.hid f1
    clear hr f1 h hT hg hln
    refine callsIn_of_wp Tryd.func67 rfl trivial ?_ rfl
    simp only [Tryd.ntmps67, List.size_toArray, List.length_cons, List.length_nil, Nat.reduceAdd, Nat.reduceSub, Array.replicate_succ, Array.replicate_zero, List.push_toArray, List.append_toArray, List.nil_append, List.cons_append]
    gi_wp2_with (refine ⟨trivial, ?_⟩; gi_at_call 29; refine (callsIn_wide.2 G1.out).mono ?_; rintro e w1 ⟨rfl, hb1⟩)
    refine bodyPost_ret (results_none rfl _ _ _) rfl ?_
    exact ⟨⟨_, rfl⟩, .inl ⟨[], HN.out.symm, abideG hJ hb1 h0⟩⟩
  · have HN := Lib.hid (show evG b L su fr = evD fr.toNat ((nts L).drop fr.toNat) by rw [HEV.out, if_pos hr])
    rw [hr] at f1
    have G1 := Lib.hid f1
    clear hr f1 h hT hg hln
    obtain ⟨i0, hi0⟩ : ∃ i0 : Nat, fr.toNat = i0 := ⟨_, rfl⟩
    rw [hi0] at HN
    have HI0 := Lib.hid hi0
    clear hi0
    refine callsIn_of_wp Tryd.func67 rfl trivial ?_ rfl
    simp only [Tryd.ntmps67, List.size_toArray, List.length_cons, List.length_nil, Nat.reduceAdd, Nat.reduceSub, Array.replicate_succ, Array.replicate_zero, List.push_toArray, List.append_toArray, List.nil_append, List.cons_append]
    gi_wp2_with (refine ⟨trivial, ?_⟩; gi_at_call 29; refine (callsIn_wide.2 G1.out).mono ?_; rintro e w1 ⟨rfl, hb1⟩; have q0 := (HG.out.go hb1).bf.cell 0)
    all_goals
      have hg1 := HG.out.go hb1
      have hj1 := abideG hJ hb1 h0
      clear q0 hb1 G1 HG HEV
      gi_loopw [4] (fun v4 wr => ∃ (i : Nat) (pre : List EvG), v4 = .int .i64 i ∧ GoodG w0 Bl Bf ⟨A, n, c, D, d0, d⟩ su fr wr ∧ J pre wr ∧ Hid (evG b L su fr = saidG pre ++ evD i ((nts L).drop i)) ∧ pre.length ≤ i) (fun v4 _ => d0 - (intOf v4).toNat)
      case atStart => exact ⟨i0, [], intOf_eq (by have := HI0.out; omega), hg1, hj1, HN.out, Nat.zero_le _⟩
      case round =>
        obtain ⟨i, pre, rfl, hgd, hj, hev, hpl⟩ := hrel
        have q1 := hgd.bl.cell 1
        by_cases hlt : i < d0
        · have hkL : i < L.length := by rw [HLN.out]; exact hlt
          have hLR := HH.out.olds hgd.ol
          obtain ⟨bb, o, hDe, hab, p0, p1, p2, p3⟩ := hLR.ns.note hkL
          have hDe : D = some ⟨bb, o, none⟩ := hDe
          subst hDe
          have hrd := hLR.ns.each _ (List.getElem_mem hkL)
          have hz := hsz.each _ (List.getElem_mem hkL)
          have hnx := evD_next (l := nts L) (i := i) (by rw [nts_len]; exact hkL)
          rw [nts_at L i hkL] at hnx
          generalize L[i] = p at p0 p1 p2 p3 hrd hnx hz
          obtain ⟨⟨A1, n1, c1, A2, n2, c2, A3, n3, c3, A4, n4, c4⟩, x⟩ := p
          dsimp only at p0 p1 p2 p3 hrd hnx hz
          have G := Lib.hid (ownNote_own ⟨A1, n1, c1, A2, n2, c2, A3, n3, c3, A4, n4, c4⟩ x wr hrd hz)
          have HD := Lib.hid (show ∀ u : NV, evG b L su fr = saidG (pre ++ [(i, u, x)]) ++ evD (i + 1) ((nts L).drop (i + 1)) from fun u => by rw [saidG_snoc, hev.out, hnx, List.append_assoc]; rfl)
          have HGD := Lib.hid hgd
          clear hrd hz hnx hLR hkL hgd
          gi_wp2_with (refine ⟨trivial, ?_⟩; gi_at_call 66; refine (callsIn_wide.2 G.out).mono ?_; rintro e w2 ⟨⟨E1, e1, f1, E2, e2, f2, E3, e3, f3, E4, e4, f4⟩, rfl, hno, hb2⟩)
          have hgd2 := HGD.out.go hb2
          obtain ⟨y, hye⟩ : ∃ y : EvG, y = (i, ⟨E1, e1, f1, E2, e2, f2, E3, e3, f3, E4, e4, f4⟩, x) := ⟨_, rfl⟩
          obtain ⟨fn, tmps, assign, body, hy, hR⟩ := hY pre y w2 (abideG hJ hb2 hj) (by rw [hye]; exact hno.rd) (by omega)
          rw [hye] at hy
          have hy : (Instr.yield lp #[.int .i64 (i : Int), .agg (NV.val ⟨E1, e1, f1, E2, e2, f2, E3, e3, f3, E4, e4, f4⟩)]).run Tryd.prog w2 = _ := hy
          have HYE := Lib.hid hye
          have HY := Lib.hid hy
          clear hye hno hb2 p0 p1 p2 p3 q1 hy
          gi_wp2
          rw [HY.out]
          gi_wp2
          refine hR.mono ?_
          rintro e W3 (⟨rfl, hJ3, hk3⟩ | ⟨rfl, hJx3⟩)
          · gi_wp2
            go_roundw
            case rel =>
              have h2 := HD.out ⟨E1, e1, f1, E2, e2, f2, E3, e3, f3, E4, e4, f4⟩
              rw [← HYE.out] at h2
              exact ⟨i + 1, pre ++ [y], by go_num, hk3 hgd2, hJ3, h2, by rw [List.length_append, List.length_singleton]; omega⟩
            case measure => simp [intOf]; omega
          · gi_wp2
            refine bodyPost_ret (results_none rfl _ _ _) rfl ?_
            have h2 := HD.out ⟨E1, e1, f1, E2, e2, f2, E3, e3, f3, E4, e4, f4⟩
            rw [← HYE.out] at h2
            exact ⟨⟨_, rfl⟩, .inr ⟨pre ++ [y], ⟨_, h2.symm⟩, hJx3⟩⟩
        · have HD := Lib.hid (show saidG pre = evG b L su fr by rw [hev.out, evD_end (by rw [nts_len, HLN.out]; omega), List.append_nil])
          clear hev
          gi_wp2
          go_end0
          exact ⟨⟨_, rfl⟩, .inl ⟨pre, HD.out, hj⟩⟩

/-- invlog.All: the function value. -/
theorem lgAll_any (v : LV) (su fr : Int) (w : World) : Calls Tryd.prog 36 #[.agg (v.val su), .int .i64 fr] w fun e w' =>
    e = .returned (.func (.func 67) #[] #[.pointer (some ⟨w.heap.size, 0, none⟩), .pointer (some ⟨w.heap.size + 1, 0, none⟩)]) ∧ w' = (w.alloc (.cells (v.val su) 47)).alloc (.cells #[.int .i64 fr] 3) := by
  go_enter Tryd.func36, Tryd.ntmps36
  go_wp2
  go_ret
  exact ⟨rfl, rfl⟩
theorem lgAll_told (m : Nat) (hm : 1 ≤ m) (Bl Bf : Nat) (v : LV) (b : List Vc.St) (L : List (NV × Nt)) (su fr : Int) (w0 : World) (hT : Tab w0) (h : LgRd w0 v b L) (hsz : LgSz v L) (w : World) (hg : GoodG w0 Bl Bf v su fr w) :
    SeqTold Fence.wide m Tryd.prog 67 #[.pointer (some ⟨Bl, 0, none⟩), .pointer (some ⟨Bf, 0, none⟩)] evsG egT (fun W W' => GoodG w0 Bl Bf v su fr W → GoodG w0 Bl Bf v su fr W') (fun ys => saidG ys = evG b L su fr) (fun pre => saidG pre <+: evG b L su fr) v.m w := by
  intro lp J Jx W hW hJ hJx hY h0
  exact lgAll1_in m hm lp Bl Bf v b L su fr w0 hT h hsz J Jx W.heap.size hJ hY W (hg.below hW hg.bl.lt hg.bf.lt) h0
end Go.Proofs.YtldcgmnfohhjbaaDoor
