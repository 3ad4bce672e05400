/- The iterator: each, its closure each$1, All: their contracts. -/
import Derived.RangeFuncBox
import Derived.RangeFuncNested
import Derived.RangeFuncLeaves
import Derived.Shelf.Abstract
import Derived.WalkKit
import Derived.OwnWalkIn
import Derived.TacticsInMore
import Derived.LoopNIn
import Derived.LoopIn
import Derived.Maps.AppendAt
import Derived.Test.YtldcgmnfohhjbaaDoorVecI
namespace Go.Proofs.YtldcgmnfohhjbaaDoor
open Go.RowKit Go.Shelf
set_option maxRecDepth 100000
attribute [local go_sem] Oper.semAt_some

/-- What a round is handed: a node that is in, and its count. -/
abbrev Ev (p : Nat → Bool) (val : Nat → Int → Prop) := { x : Nat × Int // x.1 < 64 ∧ p x.1 = true ∧ val x.1 x.2 }
def evs {p : Nat → Bool} {val : Nat → Int → Prop} (x : Ev p val) : Array Value := #[.int .i64 (x.1.1 : Int), .int .i64 x.1.2]
def nds {p : Nat → Bool} {val : Nat → Int → Prop} (l : List (Ev p val)) : List Nat := l.map (·.1.1)
theorem nds_snoc {p : Nat → Bool} {val : Nat → Int → Prop} (l : List (Ev p val)) (x : Ev p val) : nds (l ++ [x]) = nds l ++ [x.1.1] := by simp [nds]
theorem nds_len {p : Nat → Bool} {val : Nat → Int → Prop} (l : List (Ev p val)) : (nds l).length = l.length := by simp [nds]

/-- What the iterator reads between two rounds. -/
structure Good (G Bx : Nat) (val : Nat → Int → Prop) (W : World) : Prop where
  tab : Tab W
  box : Blk W Bx 112 #[.pointer (some ⟨G, 0, none⟩)]
  cnts : ∃ f h, Blk W G 89 (cc f h) ∧ ∀ m, m < 64 → val m (f m)

theorem Good.below {G Bx : Nat} {val : Nat → Int → Prop} {W W' : World} {n₀ : Nat} (h : Good G Bx val W) (hb : Below n₀ W W') (hG : G < n₀) (hB : Bx < n₀) (h0 : 0 < n₀) : Good G Bx val W' := by
  obtain ⟨f, c, hf, hv⟩ := h.cnts
  refine ⟨fun j hj => ?_, h.box.below hb hB, f, c, hf.below hb hG, hv⟩
  have := h.tab j hj
  rw [hb.cell (p := ⟨0, j, none⟩) h0]
  exact this

theorem low_next (r : Nat) (h : r ≠ 0) : r &&& (r - 1) < r := by
  have : r &&& (r - 1) ≤ r - 1 := Nat.and_le_right
  omega
theorem and_bit (r : Nat) (hr : r < 18446744073709551616) (h : r ≠ 0) : bits BinOp.and .u64 (r : Int) (IntKind.u64.wrap ((r : Int) - 1)) = ((r &&& (r - 1) : Nat) : Int) := by
  have e : IntKind.u64.wrap ((r : Int) - 1) = ((r - 1 : Nat) : Int) := by rw [IntKind.wrap_u64]; omega
  rw [e, bits_and_u64_nat r _ hr (by omega)]

set_option maxHeartbeats 2000000 in
/-- The closure: for every loop body that keeps what it reads. -/
theorem each1_in (n : Nat) (hn : 1 ≤ n) (l G Bx : Nat) (p : Nat → Bool) (val : Nat → Int → Prop) (J Jx : List (Ev p val) → World → Prop)
    (hY : ∀ pre (x : Ev p val) W, J pre W → pre.length < 64 → YieldAt Fence.wide (n - 1) Tryd.prog l (evs x) W fun e W' =>
      (e = .returned (.bool true) ∧ J (pre ++ [x]) W' ∧ (Good G Bx val W → Good G Bx val W')) ∨ (e = .returned (.bool false) ∧ Jx (pre ++ [x]) W'))
    (W : World) (hg : Good G Bx val W) (hh : W.cell? ⟨G, 64, none⟩ = some (.int .u64 (Vc.msk p : Int))) (h0 : J [] W) :
    CallsIn Fence.wide n Tryd.prog 90 #[.func (.yield l) #[] #[], .pointer (some ⟨Bx, 0, none⟩)] W fun e W' => (∃ v, e = .returned v) ∧
      ((∃ ys, nds ys = Vc.upto p 64 ∧ J ys W') ∨ (∃ pre, (nds pre <+: Vc.upto p 64) ∧ Jx pre W')) := by
  have hbx := hg.box.cell 0
  refine callsIn_of_wp Tryd.func90 rfl trivial ?_ rfl
  simp only [Tryd.ntmps90, List.size_toArray, List.length_cons, List.length_nil, Nat.reduceAdd, Nat.reduceSub, Array.replicate_succ, Array.replicate_zero, List.push_toArray, List.append_toArray, List.nil_append, List.cons_append]
  gi_wp2
  rw [← Vc.from_zero p] at hh
  clear hh hbx
  gi_loopw [3] (fun rv wr => ∃ (k r : Nat) (pre : List (Ev p val)), rv = .int .u64 (r : Int) ∧ r = Vc.msk (Vc.from_ p k) ∧ k ≤ 64 ∧ nds pre = Vc.upto p k ∧ Good G Bx val wr ∧ J pre wr)
    (fun rv _ => (intOf rv).toNat)
  case atStart => exact ⟨0, _, [], by rw [← Vc.from_zero p], rfl, by omega, rfl, hg, h0⟩
  case round =>
    obtain ⟨k, r, pre, rfl, hr, hk, hnd, hgd, hJ⟩ := hrel
    have hrl : r < 18446744073709551616 := by rw [hr]; exact Vc.msk_lt _
    by_cases hr0 : r = 0
    · have hnone := Vc.none_left p k (by rw [← hr, hr0])
      have hend := Vc.upto_skip p k 64 hk hnone
      have HD := Lib.hid (hnd.trans hend.symm)
      clear hr hnd hnone hend hrl
      subst hr0
      gi_wp2
      go_end0
      exact ⟨⟨_, rfl⟩, .inl ⟨pre, HD.out, hJ⟩⟩
    · obtain ⟨m, hc, hm, hpm, hkm, hskip, hnext⟩ := Vc.low_step p k (by rw [← hr]; exact hr0)
      rw [← hr] at hc hnext
      obtain ⟨f, h, hf, hv⟩ := hgd.cnts
      have hit := Vc.upto_hit p k m hkm hskip hpm
      obtain ⟨x, hx⟩ : ∃ x : Ev p val, x = ⟨(m, f m), hm, hpm, hv m hm⟩ := ⟨_, rfl⟩
      have hpl : pre.length < 64 := by
        rw [← nds_len pre, hnd]
        have := Vc.upto_len p k
        have : k ≤ m := hkm
        omega
      obtain ⟨fn, tmps, assign, body, hy, hR⟩ := hY pre x wr hJ hpl
      rw [hx] at hy
      dsimp only [evs] at hy
      have g1 := hf.cell m
      rw [cc_at _ _ _ hm] at g1
      have g2 := hgd.box.cell 0
      have HT := Lib.hid (tz64_any r m hrl hr0 hc wr hgd.tab)
      have HND := Lib.hid (show nds (pre ++ [x]) = Vc.upto p (m + 1) by rw [nds_snoc, hnd, hit, hx])
      have HNX := Lib.hid hnext
      have HL := Lib.hid (low_next r hr0)
      have HB := Lib.hid (and_bit r hrl hr0)
      have HG := Lib.hid hgd
      clear hr hnd hgd hc hnext hskip hpm hit hv hf hx hpl hrl
      gi_wp2_with (refine ⟨trivial, ?_⟩; gi_at_call 91; refine (callsIn_wide.2 HT.out).mono ?_; rintro e w1 ⟨rfl, rfl⟩)
      refine hR.mono ?_
      rintro e W3 (⟨rfl, hJ3, hk3⟩ | ⟨rfl, hJx3⟩)
      · gi_wp2
        go_roundw
        case rel => exact ⟨m + 1, r &&& (r - 1), pre ++ [x], by rw [← HB.out], HNX.out, by omega, HND.out, hk3 HG.out, hJ3⟩
        case measure =>
          have h1 := HL.out
          have h2 := HB.out
          simp only [intOf]
          rw [h2]
          omega
      · gi_wp2
        refine bodyPost_ret (results_none rfl _ _ _) rfl ?_
        exact ⟨⟨_, rfl⟩, .inr ⟨pre ++ [x], by rw [HND.out]; exact Vc.upto_le (by omega), hJx3⟩⟩

/-- The closure of each keeps its word, for whatever the rounds keep of what it reads. -/
theorem each_stops (n : Nat) (hn : 1 ≤ n) (G Bx : Nat) (p : Nat → Bool) (val : Nat → Int → Prop) (w : World) (hg : Good G Bx val w) (hh : w.cell? ⟨G, 64, none⟩ = some (.int .u64 (Vc.msk p : Int))) :
    SeqStopsK Fence.wide n Tryd.prog 90 #[.pointer (some ⟨Bx, 0, none⟩)] (evs (p := p) (val := val)) (fun W W' => Good G Bx val W → Good G Bx val W') (fun ys => nds ys = Vc.upto p 64) (fun pre => nds pre <+: Vc.upto p 64) 64 w := by
  intro l J Jx W hW _ _ hY h0
  obtain ⟨f, h, hf, _⟩ := hg.cnts
  have h0' : 0 < w.heap.size := World.block_lt_of_cell? _ _ (hg.tab 0 (by decide))
  exact each1_in n hn l G Bx p val J Jx hY W (hg.below hW hf.lt hg.box.lt h0') ((hW.cell (p := ⟨G, 64, none⟩) hf.lt).trans hh) h0

theorem good_t {G Bx : Nat} {val : Nat → Int → Prop} {A B C : World} (h : Good G Bx val A → Good G Bx val B) (k : Good G Bx val B → Good G Bx val C) : Good G Bx val A → Good G Bx val C := fun g => k (h g)
theorem good_b {G Bx : Nat} {val : Nat → Int → Prop} {w : World} (hG : G < w.heap.size) (hB : Bx < w.heap.size) (h0 : 0 < w.heap.size) (W : World) (l : Nat) (o o' : Obj) (hl : w.heap.size ≤ l) (h : W.heap[l]? = some o) (_ : o.isCells = false) (_ : o.isWalk = false) : Good G Bx val W → Good G Bx val (W.putObj l o') := fun g =>
  g.below (belowK_b (Nat.le_refl _) W l o o' hl h ‹_› ‹_›) hG hB h0

/-- each: the function value. -/
theorem each_any (a : Addr) (w : World) : Calls Tryd.prog 86 #[.pointer (some a)] w fun e w' =>
    e = .returned (.func (.func 90) #[] #[.pointer (some ⟨w.heap.size, 0, none⟩)]) ∧ w' = w.alloc (.cells #[.pointer (some a)] 112) := by
  go_enter Tryd.func86, Tryd.ntmps86
  go_wp2
  go_ret
  exact ⟨rfl, rfl⟩

set_option maxHeartbeats 1000000 in
/-- All: the function value over counts of one's own. -/
theorem all_any (A : Option Addr) (n c : Nat) (v : List Vc.St) (w : World) (hl : v.length = n) (hR : Rd w w.heap.size 2 A n c (sv v)) :
    Calls Tryd.prog 72 #[.slice A n c] w fun e w' => ∃ G Bx, e = .returned (.func (.func 90) #[] #[.pointer (some ⟨Bx, 0, none⟩)]) ∧
      Blk w' G 89 (cc (Vc.cnt v) (has_ (Vc.cnt v))) ∧ Blk w' Bx 112 #[.pointer (some ⟨G, 0, none⟩)] ∧ w.heap.size ≤ G ∧ w.heap.size ≤ Bx ∧ Below w.heap.size w w' := by
  obtain ⟨hz, hi⟩ := zero_of_info zero_counts
  have HI := Lib.hid hi
  have H1 := Lib.hid (read_any A n c v w hl hR)
  obtain ⟨f, hf⟩ : ∃ f, f = Vc.cnt v := ⟨_, rfl⟩
  rw [← hf] at H1 ⊢
  obtain ⟨hh, hhe⟩ : ∃ hh, hh = has_ f := ⟨_, rfl⟩
  rw [← hhe] at H1 ⊢
  clear hi hR hl hf hhe
  go_enter Tryd.func72, Tryd.ntmps72
  go_wp2_with fail
  refine H1.out.mono ?_
  rintro e w1 ⟨rfl, hb1⟩
  have HN := Lib.hid (Blk.new w1 89 (cc (fun _ => 0) 0))
  have hs1 := hb1.size
  clear H1
  go_wp2_with (refine wpList_store_blk rfl 89 _ _ rfl w1.heap.size 89 _ (cc f hh) rfl rfl HN.out (by rw [cc_size]; exact HI.out) rfl (cc_oneCell _ _) ?_; intro w3 hk3 hg3)
  refine (each_any _ w3).mono ?_
  rintro e w4 ⟨rfl, rfl⟩
  have hb3 : Below w.heap.size w w3 := (hb1.alloc hs1 _).trans (grown_below hg3 (by simp; omega) (fun k hk => by cases hk; omega))
  have hb4 : Below w.heap.size w (w3.alloc (.cells #[.pointer (some ⟨w1.heap.size, 0, none⟩)] 112)) := hb3.alloc hb3.size _
  have hB := Blk.new w3 112 #[.pointer (some ⟨w1.heap.size, 0, none⟩)]
  have hs3 := hb3.size
  clear hg3 HN hb1
  go_wp2
  go_ret
  exact ⟨_, _, rfl, hk3.alloc _, hB, hs1, hs3, hb4⟩
end Go.Proofs.YtldcgmnfohhjbaaDoor
