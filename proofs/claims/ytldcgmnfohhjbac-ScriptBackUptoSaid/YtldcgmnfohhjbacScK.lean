/- The iterator over a script: its contract. -/
import Derived.Shelf.Abstract
import Derived.OwnWalkIn
import Derived.TacticsInMore
import Derived.LoopNIn
import Derived.LoopIn
import Derived.Test.YtldcgmnfohhjbacTold
import Derived.Test.YtldcgmnfohhjbacScJ
namespace Go.Proofs.Ytldcgmnfohhjbac
open Go.RowKit Go.Shelf
set_option maxRecDepth 100000
attribute [local go_sem] Oper.semAt_some

/-- What a script tells: steps and errors. -/
def evN : Nat → List UInt8 → List (Sc.Stp × Nat)
  | 0, _ => []
  | k + 1, l => if l = [] then [] else match Wq.pR l.length l with
    | none => [(⟨0, 0, 0, 0, 0, [], []⟩, 14)]
    | some (row, r) => (Sc.decX row, Sc.decE row) :: evN k r
def evS (l : List UInt8) : List (Sc.Stp × Nat) := evN l.length l
theorem pR_less {most : Nat} {l v r : List UInt8} (h : Wq.pR most l = some (v, r)) : r.length < l.length := by
  obtain ⟨h1, _⟩ := Wq.pR_back h
  have h2 := Pk.lay_pos v.length
  have h3 : l.length = (Pk.lay v.length).length + v.length + r.length := by rw [h1, Wq.lR]; simp; omega
  omega
theorem evN_fuel : ∀ (k m : Nat) (l : List UInt8), l.length ≤ k → l.length ≤ m → evN k l = evN m l
  | 0, 0, _, _, _ => rfl
  | 0, m + 1, l, h, _ => by
    have : l = [] := List.eq_nil_of_length_eq_zero (by omega)
    rw [evN, evN, if_pos this]
  | k + 1, 0, l, _, h => by
    have : l = [] := List.eq_nil_of_length_eq_zero (by omega)
    rw [evN, evN, if_pos this]
  | k + 1, m + 1, l, hk, hm => by
    rw [evN, evN]
    by_cases h : l = []
    · rw [if_pos h, if_pos h]
    · rw [if_neg h, if_neg h]
      rcases hp : Wq.pR l.length l with _ | ⟨row, r⟩
      · rfl
      · have := pR_less hp
        simp only
        rw [evN_fuel k m r (by omega) (by omega)]
theorem evS_nil : evS [] = [] := rfl
theorem evS_bad {l : List UInt8} (h : l ≠ []) (hp : Wq.pR l.length l = none) : evS l = [(⟨0, 0, 0, 0, 0, [], []⟩, 14)] := by
  have : 0 < l.length := List.length_pos_iff.2 h
  obtain ⟨k, hk⟩ : ∃ k, l.length = k + 1 := ⟨l.length - 1, by omega⟩
  unfold evS
  have e : evN l.length l = evN (k + 1) l := by rw [hk]
  rw [e, evN, if_neg h, hp]
theorem evS_next {l row r : List UInt8} (h : l ≠ []) (hp : Wq.pR l.length l = some (row, r)) : evS l = (Sc.decX row, Sc.decE row) :: evS r := by
  have : 0 < l.length := List.length_pos_iff.2 h
  obtain ⟨k, hk⟩ : ∃ k, l.length = k + 1 := ⟨l.length - 1, by omega⟩
  have h2 := pR_less hp
  unfold evS
  have e : evN l.length l = evN (k + 1) l := by rw [hk]
  rw [e, evN, if_neg h, hp]
  simp only
  rw [evN_fuel k r.length r (by omega) (by omega)]
theorem evS_len (l : List UInt8) : (evS l).length ≤ l.length := by
  induction hn : l.length using Nat.strongRecOn generalizing l with
  | _ n ih =>
    subst hn
    by_cases h : l = []
    · subst h; exact Nat.le_refl _
    · rcases hp : Wq.pR l.length l with _ | ⟨row, r⟩
      · rw [evS_bad h hp]; have : 0 < l.length := List.length_pos_iff.2 h; simp only [List.length_cons, List.length_nil]; omega
      · rw [evS_next h hp]
        have h2 := pR_less hp
        have := ih r.length h2 r rfl
        simp only [List.length_cons]; omega

/-- What a round is handed: a step, its error. -/
abbrev EvS := SV × Sc.Stp × Nat
def evsS (x : EvS) : Array Value := #[.agg (x.1.val x.2.1), .int .i64 (x.2.2 : Int)]
def evT (x : EvS) (W : World) : Prop := StpRd W W.heap.size x.1 x.2.1
def said (l : List EvS) : List (Sc.Stp × Nat) := l.map (·.2)
theorem said_snoc (l : List EvS) (x : EvS) : said (l ++ [x]) = said l ++ [x.2] := by simp [said]

/-- What the iterator reads between two rounds. -/
structure GoodS (Bx B0 : Nat) (A : Option Addr) (n c : Nat) (l : List UInt8) (W : World) : Prop where
  box : Blk W Bx 23 #[.slice A n c]
  rd : Rd W B0 1 A n c (bv l)
  le : B0 ≤ Bx
theorem GoodS.below {Bx B0 : Nat} {A : Option Addr} {n c : Nat} {l : List UInt8} {W W' : World} {n₀ : Nat} (h : GoodS Bx B0 A n c l W) (hb : Below n₀ W W') (hB : Bx < n₀) : GoodS Bx B0 A n c l W' :=
  ⟨h.box.below hb hB, h.rd.below (hb.mono (by have := h.le; omega)), h.le⟩
theorem grown_of_below {W W' : World} (h : Below W.heap.size W W') : W.grownBy W' none := ⟨h.os, h.tape, h.output, h.size, fun k hk _ => h.block k hk⟩
theorem abide {β : Type} {B : Nat} {J : β → World → Prop} (h : AbidesFrom B J) {s : β} {W W' : World} (hb : Below W.heap.size W W') (hs : J s W) : J s W' := h s W W' none hs (grown_of_below hb) (fun r e => by cases e)

set_option maxHeartbeats 4000000 in
/-- The closure: for every loop body that keeps what it reads. -/
theorem scAll1_in (m : Nat) (hm : 1 ≤ m) (lp Bx B0 : Nat) (A : Option Addr) (n c : Nat) (l : List UInt8) (J Jx : List EvS → World → Prop) (B : Nat) (hJ : AbidesFrom B J) (hl : l.length = n) (hn : n ≤ 4294967296)
    (hY : ∀ pre (x : EvS) W, J pre W → evT x W → pre.length < n → YieldAt Fence.wide (m - 1) Try.prog lp (evsS x) W fun e W' =>
      (e = .returned (.bool true) ∧ J (pre ++ [x]) W' ∧ (GoodS Bx B0 A n c l W → GoodS Bx B0 A n c l W')) ∨ (e = .returned (.bool false) ∧ Jx (pre ++ [x]) W'))
    (W : World) (hg : GoodS Bx B0 A n c l W) (h0 : J [] W) :
    CallsIn Fence.wide m Try.prog 38 #[.func (.yield lp) #[] #[], .pointer (some ⟨Bx, 0, none⟩)] W fun e W' => (∃ v, e = .returned v) ∧
      ((∃ ys, said ys = evS l ∧ J ys W') ∨ (∃ pre, (said pre <+: evS l) ∧ Jx pre W')) := by
  have hbx := hg.box.cell 0
  refine callsIn_of_wp Try.func38 rfl trivial ?_ rfl
  simp only [Try.ntmps38, List.size_toArray, List.length_cons, List.length_nil, Nat.reduceAdd, Nat.reduceSub, Array.replicate_succ, Array.replicate_zero, List.push_toArray, List.append_toArray, List.nil_append, List.cons_append]
  gi_wp2
  clear hbx
  gi_loopw [3, 4, 5, 6] (fun v3 _ _ _ wr => ∃ (N c' : Nat) (A' : Option Addr) (r : List UInt8) (pre : List EvS), v3 = .slice A' N c' ∧ r.length = N ∧ N ≤ n ∧ GoodS Bx B0 A n c l wr ∧ J pre wr ∧
    Hid ((∀ W', GoodS Bx B0 A n c l W' → Rd W' B0 1 A' N c' (bv r)) ∧ evS l = said pre ++ evS r) ∧ pre.length + N ≤ n)
    (fun v3 _ _ _ _ => match v3 with | .slice _ N _ => N | _ => 0)
  case atStart => exact ⟨n, c, A, l, [], rfl, hl, Nat.le_refl _, hg, h0, ⟨fun W' g => g.rd, rfl⟩, by simp⟩
  case round =>
    obtain ⟨N, c', A', r, pre, rfl, hr, hN, hgd, hj, hev, hpl⟩ := hrel
    have hR := hev.out.1 wr hgd
    have hB0 : B0 ≤ wr.heap.size := by have := hgd.box.lt; have := hgd.le; omega
    by_cases hN0 : N = 0
    · subst hN0
      have hr0 : r = [] := List.eq_nil_of_length_eq_zero hr
      have HD := Lib.hid (show said pre = evS l by rw [hev.out.2, hr0, evS_nil, List.append_nil])
      clear hR hr hr0
      gi_wp2
      go_end0
      exact ⟨⟨_, rfl⟩, .inl ⟨pre, HD.out, hj⟩⟩
    · have hrne : r ≠ [] := fun e => hN0 (by rw [← hr, e]; rfl)
      have G := Lib.hid (row_any A' N c' r N wr hr (hR.more hB0) (by omega))
      have hcap := hR.cap
      rcases rowOf_pR r N with ⟨v, q, hx, hkl, hpR⟩ | ⟨er, her, hx, hpR⟩
      · rw [hx] at G
        have hpR' : Wq.pR r.length r = some (v, r.drop q) := by rw [hr]; exact hpR
        have hnext := evS_next hrne hpR'
        have hless := pR_less hpR'
        obtain ⟨hback, _⟩ := Wq.pR_back hpR'
        have hvN : v.length ≤ N := by
          have : r.length = (Wq.lR v ++ r.drop q).length := by rw [← hback]
          rw [List.length_append, Wq.lR, List.length_append] at this; omega
        have hqN : q ≤ N := by omega
        have hs := fun W => run_from (P := Try.prog) W 23 5 1 Try.underlying23 size_u8 A' N c' .i64 q q rfl hqN
        have hlen : (r.drop q).length = N - q := by rw [List.length_drop]; omega
        have hq0 : N - q < N := by omega
        obtain ⟨vn, hvn⟩ : ∃ vn, vn = v.length := ⟨_, rfl⟩
        have HD := Lib.hid (show ∀ sv : SV, evS l = said (pre ++ [(sv, Sc.decX v, Sc.decE v)]) ++ evS (r.drop q) from fun sv => by rw [said_snoc, hev.out.2, hnext, List.append_assoc]; rfl)
        have HRd := Lib.hid (show ∀ W', GoodS Bx B0 A n c l W' → Rd W' B0 1 (cutAt 1 A' c' q) (N - q) (c' - q) (bv (r.drop q)) from fun W' g => by
          have h2 := (hev.out.1 W' g).from_ (k := q) hqN
          rwa [Nat.mul_one, ← bv_drop] at h2)
        have HLEN := Lib.hid hlen
        have GD := Lib.hid fun (W : World) A1 c1 (h : Rd W W.heap.size 1 A1 vn c1 (bv v)) => scDecode_any A1 vn c1 v W hvn.symm h (by omega)
        have HVN := Lib.hid hvn
        generalize Sc.decX v = dx at HD GD
        generalize Sc.decE v = de at HD GD
        clear hx hpR hpR' hnext hrne hR hr hback hless hkl hlen hvn hvN
        gi_wp2_with (refine ⟨trivial, ?_⟩; gi_at_call 32; refine (callsIn_wide.2 G.out).mono ?_; rintro e w1 ⟨A1, c1, rfl, ho1, hb1⟩; simp only [← HVN.out] at ho1 ⊢)
        refine ⟨trivial, ?_⟩
        refine (callsIn_wide.2 (GD.out w1 A1 c1 (Rd.of_own ho1))).mono ?_
        rintro e w2 ⟨⟨P1, p1, q1, P2, p2, q2⟩, rfl, hst, hb2⟩
        have hgd1 := hgd.below hb1 hgd.box.lt
        have hgd2 := hgd1.below hb2 hgd1.box.lt
        obtain ⟨x, hxe⟩ : ∃ x : EvS, x = (⟨P1, p1, q1, P2, p2, q2⟩, dx, de) := ⟨_, rfl⟩
        obtain ⟨fn, tmps, assign, body, hy, hR⟩ := hY pre x w2 (abide hJ hb2 (abide hJ hb1 hj)) (by rw [hxe]; exact hst) (by omega)
        rw [hxe] at hy
        dsimp only [evsS] at hy
        have HXE := Lib.hid hxe
        clear hxe hst ho1 hb1 hb2 hgd1
        gi_wp2
        refine hR.mono ?_
        rintro e W3 (⟨rfl, hJ3, hk3⟩ | ⟨rfl, hJx3⟩)
        · gi_wp2
          go_roundw
          case rel =>
            have h2 := HD.out ⟨P1, p1, q1, P2, p2, q2⟩
            rw [← HXE.out] at h2
            exact ⟨N - q, c' - q, cutAt 1 A' c' q, r.drop q, pre ++ [x], rfl, HLEN.out, by omega, hk3 hgd2, hJ3, ⟨HRd.out, h2⟩, by rw [List.length_append, List.length_singleton]; omega⟩
          case measure => exact hq0
        · gi_wp2
          refine bodyPost_ret (results_none rfl _ _ _) rfl ?_
          have h2 := HD.out ⟨P1, p1, q1, P2, p2, q2⟩
          rw [← HXE.out] at h2
          exact ⟨⟨_, rfl⟩, .inr ⟨pre ++ [x], ⟨_, h2.symm⟩, hJx3⟩⟩
      · rw [hx] at G
        have he2 : ((er : Int) != 0) = true := bne_iff_ne.2 (by omega)
        have hpR' : Wq.pR r.length r = none := by rw [hr]; exact hpR
        have hend := evS_bad hrne hpR'
        obtain ⟨x, hxe⟩ : ∃ x : EvS, x = (SV0, ⟨0, 0, 0, 0, 0, [], []⟩, 14) := ⟨_, rfl⟩
        have HD := Lib.hid (show said (pre ++ [x]) = evS l by rw [said_snoc, hev.out.2, hend, hxe])
        clear hx hpR hpR' her hend hrne hR hr
        gi_wp2_with (refine ⟨trivial, ?_⟩; gi_at_call 32; refine (callsIn_wide.2 G.out).mono ?_; rintro e w1 ⟨A1, c1, rfl, ho1, hb1⟩)
        have hgd1 := hgd.below hb1 hgd.box.lt
        obtain ⟨fn, tmps, assign, body, hy, hR⟩ := hY pre x w1 (abide hJ hb1 hj) (by rw [hxe]; exact StpRd.zero _ _ _ _ _ _ _) (by omega)
        rw [hxe] at hy
        dsimp only [evsS, SV.val, SV0] at hy
        rw [show ((14 : Nat) : Int) = 14 from rfl] at hy
        rw [hy]
        clear hy hxe ho1
        gi_wp2
        refine hR.mono ?_
        rintro e W3 (⟨rfl, hJ3, hk3⟩ | ⟨rfl, hJx3⟩)
        · gi_wp2
          refine bodyPost_ret (results_none rfl _ _ _) rfl ?_
          exact ⟨⟨_, rfl⟩, .inl ⟨pre ++ [x], HD.out, hJ3⟩⟩
        · gi_wp2
          refine bodyPost_ret (results_none rfl _ _ _) rfl ?_
          exact ⟨⟨_, rfl⟩, .inr ⟨pre ++ [x], by rw [HD.out]; exact List.prefix_refl _, hJx3⟩⟩
end Go.Proofs.Ytldcgmnfohhjbac
