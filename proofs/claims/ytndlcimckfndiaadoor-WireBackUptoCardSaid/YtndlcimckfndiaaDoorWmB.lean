/- Walk: the document's Same at one message held twice. -/
import Derived.Test.YtndlcimckfndiaaDoorWrX
import Derived.Test.YtndlcimckfndiaaDoorWrS
import Derived.Test.YtndlcimckfndiaaDoorMLg
namespace Go.Proofs.YtndlcimckfndiaaDoor
open Go.RowKit
set_option maxRecDepth 100000
/-- Where a message's slices lie. -/
structure MV where
  iA : Option Addr
  ic : Nat
  vA : Option Addr
  vc : Nat
  lA : Option Addr
  lc : Nat
  bA : Option Addr
  bc : Nat
def mval (m : Wq.Ms) (u : MV) : Array Value := #[.int .i64 m.k, .int .i64 m.f, .int .i64 m.t, .int .i64 m.n, .int .i64 m.q, .slice u.iA m.i.length u.ic, .slice u.vA m.v.length u.vc, .slice u.lA m.l.length u.lc, .int .i64 m.b.o, .int .i64 m.b.s.1, .int .i64 m.b.s.2, .slice u.bA m.b.v.length u.bc]
/-- A message that is read. -/
structure MsRd (w : World) (B : Nat) (u : MV) (m : Wq.Ms) (L : List (NV × Nt)) : Prop where
  i : Rd w B 2 u.iA m.i.length u.ic (sv m.i)
  v : Rd w B 2 u.vA m.v.length u.vc (sv m.v)
  l : RdNs w B u.lA m.l.length u.lc L
  nl : nts L = m.l
  b : Rd w B 1 u.bA m.b.v.length u.bc (bv m.b.v)

set_option maxHeartbeats 4000000 in
theorem refSameMs_self (m : Wq.Ms) (u1 u2 : MV) (L M : List (NV × Nt)) (w : World) (h1 : MsRd w w.heap.size u1 m L) (h2 : MsRd w w.heap.size u2 m M) :
    Calls Tryd.prog 45 #[.agg (mval m u1), .agg (mval m u2)] w fun e w' => e = .returned (.bool true) ∧ Below w.heap.size w w' := by
  obtain ⟨g1, g2, g3, g4, g5⟩ := h1
  obtain ⟨j1, j2, j3, j4, j5⟩ := h2
  have GI := Lib.hid fun (W : World) (hb : Below w.heap.size w W) => (sameS_any u1.iA u2.iA m.i.length u1.ic m.i.length u2.ic m.i m.i W rfl rfl (g1.go hb) (j1.go hb)).mono fun e W' (h : e = .returned (.bool (decide (m.i = m.i))) ∧ Below W.heap.size W W') => (show e = .returned (.bool true) ∧ Below W.heap.size W W' from ⟨by rw [h.1, decide_eq_true rfl], h.2⟩)
  have GV := Lib.hid fun (W : World) (hb : Below w.heap.size w W) => (same_any u1.vA u2.vA m.v.length u1.vc m.v.length u2.vc m.v m.v W rfl rfl (g2.go hb) (j2.go hb)).mono fun e W' (h : e = .returned (.bool (decide (m.v = m.v))) ∧ Below W.heap.size W W') => (show e = .returned (.bool true) ∧ Below W.heap.size W W' from ⟨by rw [h.1, decide_eq_true rfl], h.2⟩)
  have GL := Lib.hid fun (W : World) (hb : Below w.heap.size w W) => (refAllNt_any u1.lA u2.lA m.l.length u1.lc m.l.length u2.lc L M W (g3.go hb) (j3.go hb)).mono fun e W' (h : e = .returned (.bool (allSame (nts L) (nts M))) ∧ Below W.heap.size W W') => (show e = .returned (.bool true) ∧ Below W.heap.size W W' from ⟨by rw [h.1, g4, j4, allSame_self], h.2⟩)
  have GB := Lib.hid fun (W : World) (hb : Below w.heap.size w W) => sameBody_self m.b u1.bA u2.bA u1.bc u2.bc W (g5.go hb) (j5.go hb)
  clear g1 g2 g3 g4 g5 j1 j2 j3 j4 j5
  obtain ⟨k, f, t, n, q, i, v, l, ⟨o, ⟨a, b⟩, bvv⟩⟩ := m
  obtain ⟨iA, ic, vA, vc, lA, lc, bA, bc⟩ := u1
  obtain ⟨iA2, ic2, vA2, vc2, lA2, lc2, bA2, bc2⟩ := u2
  unfold bval at GB
  unfold mval
  dsimp only at GI GV GL GB ⊢
  generalize i.length = ni at GI ⊢
  generalize v.length = nv at GV ⊢
  generalize l.length = nl at GL ⊢
  generalize bvv.length = nb at GB ⊢
  have H1 := Lib.hid ((Blk.new w 74 #[.int .i64 k, .int .i64 f, .int .i64 t, .int .i64 n, .int .i64 q, .slice iA ni ic, .slice vA nv vc, .slice lA nl lc, .int .i64 o, .int .i64 a, .int .i64 b, .slice bA nb bc]).alloc (.cells #[.int .i64 k, .int .i64 f, .int .i64 t, .int .i64 n, .int .i64 q, .slice iA2 ni ic2, .slice vA2 nv vc2, .slice lA2 nl lc2, .int .i64 o, .int .i64 a, .int .i64 b, .slice bA2 nb bc2] 74))
  have H2 := Blk.new (w.alloc (.cells #[.int .i64 k, .int .i64 f, .int .i64 t, .int .i64 n, .int .i64 q, .slice iA ni ic, .slice vA nv vc, .slice lA nl lc, .int .i64 o, .int .i64 a, .int .i64 b, .slice bA nb bc] 74)) 74 #[.int .i64 k, .int .i64 f, .int .i64 t, .int .i64 n, .int .i64 q, .slice iA2 ni ic2, .slice vA2 nv vc2, .slice lA2 nl lc2, .int .i64 o, .int .i64 a, .int .i64 b, .slice bA2 nb bc2]
  rw [World.size_alloc] at H2
  obtain ⟨q0, q1, q2, q3, q4, q5, q6, q7, q8, q9, q10, q11⟩ := H1.out.twelve
  obtain ⟨r0, r1, r2, r3, r4, r5, r6, r7, r8, r9, r10, r11⟩ := H2.twelve
  have H2 := Lib.hid H2
  have HB := Lib.hid (show Below w.heap.size w ((w.alloc (.cells #[.int .i64 k, .int .i64 f, .int .i64 t, .int .i64 n, .int .i64 q, .slice iA ni ic, .slice vA nv vc, .slice lA nl lc, .int .i64 o, .int .i64 a, .int .i64 b, .slice bA nb bc] 74)).alloc (.cells #[.int .i64 k, .int .i64 f, .int .i64 t, .int .i64 n, .int .i64 q, .slice iA2 ni ic2, .slice vA2 nv vc2, .slice lA2 nl lc2, .int .i64 o, .int .i64 a, .int .i64 b, .slice bA2 nb bc2] 74)) from ((Below.refl _ _).alloc (Nat.le_refl _) _).alloc (by simp) _)
  go_enter Tryd.func45, Tryd.ntmps45
  go_wp2_with (first
    | (go_at_call 24; go_must (refine (GI.out _ HB.out).mono ?_); rintro e w1 ⟨rfl, hb1⟩
       have hd1 := below_then HB.out (Nat.le_refl _) hb1
       have H1a := H1.out.go hb1
       have H2a := H2.out.go hb1
       have s6 := H1a.cell 6
       have t6 := H2a.cell 6)
    | (go_at_call 18; go_must (refine (GV.out _ hd1).mono ?_); rintro e w2 ⟨rfl, hb2⟩
       have hd2 := below_then hd1 (Nat.le_refl _) hb2
       have H1b := H1a.go hb2
       have H2b := H2a.go hb2
       have s7 := H1b.cell 7
       have t7 := H2b.cell 7)
    | (go_at_call 78; go_must (refine (GL.out _ hd2).mono ?_); rintro e w3 ⟨rfl, hb3⟩
       have hd3 := below_then hd2 (Nat.le_refl _) hb3
       have H1c := H1b.go hb3
       have H2c := H2b.go hb3
       have s8 := H1c.cell 8
       have s9 := H1c.cell 9
       have s10 := H1c.cell 10
       have s11 := H1c.cell 11
       have t8 := H2c.cell 8
       have t9 := H2c.cell 9
       have t10 := H2c.cell 10
       have t11 := H2c.cell 11)
    | (go_at_call 36; go_must (refine (GB.out _ hd3).mono ?_); rintro e w4 ⟨rfl, hb4⟩
       have hd4 := below_then hd3 (Nat.le_refl _) hb4)
    | fail)
  go_ret
  exact ⟨rfl, hd4⟩
end Go.Proofs.YtndlcimckfndiaaDoor
