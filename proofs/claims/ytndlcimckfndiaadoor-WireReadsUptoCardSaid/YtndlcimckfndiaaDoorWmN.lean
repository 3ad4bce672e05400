/- Walk: WireReads: any bytes are decoded as the document says, or refused, and stay (printed by wip/tools/genWmN.py). -/
import Derived.Test.YtndlcimckfndiaaDoorWmK
import Derived.Test.YtndlcimckfndiaaDoorWrT
namespace Go.Proofs.YtndlcimckfndiaaDoor
open Go.RowKit
set_option maxRecDepth 100000

/-- What bytes decode to does not hang on the call. -/
theorem DecP.det (l : List UInt8) : ∃ (m0 : Wq.Ms) (er0 : Int), ((Wq.dec l = some m0 ∧ er0 = 0) ∨ (Wq.dec l = none ∧ m0 = Wq.ms0 ∧ er0 = 4)) ∧ ∀ (base : Nat) (w : World) (e : Ending) (w' : World), DecP base w l e w' →
    ∃ (u : MV) (L : List (NV × Nt)), e = .returned (.tuple #[.agg (mval m0 u), .int .i64 er0]) ∧ MsRd w' w'.heap.size u m0 L ∧ Below base w w' := by
  rcases hd : Wq.dec l with _ | m1
  · refine ⟨Wq.ms0, 4, .inr ⟨rfl, rfl, rfl⟩, ?_⟩
    rintro base w e w' ⟨m, u, L, er, h1, h2, h3, ⟨h4, h5⟩ | ⟨h4, h5, h6⟩⟩
    · rw [hd] at h4; cases h4
    · subst h5 h6; exact ⟨u, L, h1, h2, h3⟩
  · refine ⟨m1, 0, .inl ⟨rfl, rfl⟩, ?_⟩
    rintro base w e w' ⟨m, u, L, er, h1, h2, h3, ⟨h4, h5⟩ | ⟨h4, h5, h6⟩⟩
    · rw [hd] at h4; cases h4; subst h5; exact ⟨u, L, h1, h2, h3⟩
    · rw [hd] at h4; cases h4

set_option maxHeartbeats 4000000 in
theorem wireReads_walk (A : Option Addr) (n c : Nat) (l : List UInt8) (w : World) (hT : Tab w) (hl : l.length = n) (hR : Rd w w.heap.size 1 A n c (bv l)) (hn : n ≤ 1048576) :
    Calls Tryd.prog 8 #[.slice A n c] w fun e w' => e = .returned (.bool true) ∧ Below w.heap.size w w' := by
  obtain ⟨m0, er0, -, hdet⟩ := DecP.det l
  have GA := Lib.hid fun (W : World) => aliveW_any W
  have GC := Lib.hid fun (W : World) (hb : Below w.heap.size w W) => copy_any A n c (bv l) W (hR.go hb) (bv_oneCell l) (by omega)
  have GD := fun (W : World) (hb : Below w.heap.size w W) (D : Option Addr) (d : Nat) (h : Rd W W.heap.size 1 D n d (bv l)) => (decode_any D n d l W (hT.below hb) hl h (by omega)).mono fun e W' h => hdet _ _ _ _ h
  have GR := fun (W : World) (hb : Below w.heap.size w W) => (refDecode_any A n c l W hl (hR.go hb) (by omega)).mono fun e W' h => hdet _ _ _ _ h
  have GM := fun (W : World) (u1 u2 : MV) (L1 L2 : List (NV × Nt)) (h1 : MsRd W W.heap.size u1 m0 L1) (h2 : MsRd W W.heap.size u2 m0 L2) => refSameMs_self m0 u1 u2 L1 L2 W h1 h2
  have GS := Lib.hid fun (W : World) (D : Option Addr) (d : Nat) (hb : Below w.heap.size w W) (h1 : Rd W W.heap.size 1 D n d (bv l)) => (sameB_any D A n d n c W.heap.size W.heap.size l l W h1 (hR.go hb)).mono fun e W' (h : e = .returned (.bool (l == l)) ∧ W = W') => (show e = .returned (.bool true) ∧ W = W' from ⟨by rw [h.1, beq_self_eq_true], h.2⟩)
  obtain ⟨k, f, t, n0, q, i, v, ll, ⟨o, ⟨a, b⟩, bw⟩⟩ := m0
  unfold mval at GD GR
  dsimp only at GD GR
  have GM := fun (W : World) (u1 u2 : MV) (L1 L2 : List (NV × Nt)) h1 h2 => GM W u1 u2 L1 L2 h1 h2
  unfold mval at GM
  dsimp only at GM
  have GD := Lib.hid GD
  have GR := Lib.hid GR
  have GM := Lib.hid GM
  clear hl hR hn hT hdet
  go_enter Tryd.func8, Tryd.ntmps8
  go_wp2_with (first
    | (go_at_call 10; go_must (refine (GA.out _).mono ?_); rintro e w1 ⟨rfl, hb1⟩)
    | (go_at_call 42; go_must (refine (GC.out _ hb1).mono ?_); rintro e w2 ⟨D, d, rfl, ho2, hb2⟩; have hd2 := below_then hb1 (Nat.le_refl _) hb2; have hD2 := Rd.of_own ho2)
    | (go_at_call 43; go_must (refine (GD.out _ hd2 _ _ hD2).mono ?_); rintro e w3 ⟨⟨xa, xb, xc, xd, xe, xf, xg, xh⟩, L1, rfl, hM1, hb3⟩
       have hk3 := show Below w3.heap.size w3 (w3.alloc (.cells #[.int .i64 k, .int .i64 f, .int .i64 t, .int .i64 n0, .int .i64 q, .slice xa i.length xb, .slice xc v.length xd, .slice xe ll.length xf, .int .i64 o, .int .i64 a, .int .i64 b, .slice xg bw.length xh] 74)) from (Below.refl _ _).alloc (Nat.le_refl _) _
       have HX1 := Blk.new w3 74 #[.int .i64 k, .int .i64 f, .int .i64 t, .int .i64 n0, .int .i64 q, .slice xa i.length xb, .slice xc v.length xd, .slice xe ll.length xf, .int .i64 o, .int .i64 a, .int .i64 b, .slice xg bw.length xh]
       have hM1 := hM1.go hk3
       have hb3' := below_then hb3 (Nat.le_refl _) hk3
       have hd3 := below_then hd2 (Nat.le_refl _) hb3'
       have hD3 := hD2.go hb3')
    | (go_at_call 44; go_must (refine (GR.out _ hd3).mono ?_); rintro e w4 ⟨⟨ya, yb, yc, yd, ye, yf, yg, yh⟩, L2, rfl, hM2, hb4⟩
       have hk4 := show Below w4.heap.size w4 (w4.alloc (.cells #[.int .i64 k, .int .i64 f, .int .i64 t, .int .i64 n0, .int .i64 q, .slice ya i.length yb, .slice yc v.length yd, .slice ye ll.length yf, .int .i64 o, .int .i64 a, .int .i64 b, .slice yg bw.length yh] 74)) from (Below.refl _ _).alloc (Nat.le_refl _) _
       have HX2 := Blk.new w4 74 #[.int .i64 k, .int .i64 f, .int .i64 t, .int .i64 n0, .int .i64 q, .slice ya i.length yb, .slice yc v.length yd, .slice ye ll.length yf, .int .i64 o, .int .i64 a, .int .i64 b, .slice yg bw.length yh]
       have HX1 := (HX1.go hb4).go hk4
       have hM1 := (hM1.go hb4).go hk4
       have hM2 := hM2.go hk4
       have hb4' := below_then hb4 (Nat.le_refl _) hk4
       have hd4 := below_then hd3 (Nat.le_refl _) hb4'
       have hD4 := hD3.go hb4'
       obtain ⟨q0, q1, q2, q3, q4, q5, q6, q7, q8, q9, q10, q11⟩ := HX1.twelve
       obtain ⟨r0, r1, r2, r3, r4, r5, r6, r7, r8, r9, r10, r11⟩ := HX2.twelve)
    | (go_at_call 45; go_must (refine (GM.out _ ⟨xa, xb, xc, xd, xe, xf, xg, xh⟩ ⟨ya, yb, yc, yd, ye, yf, yg, yh⟩ L1 L2 hM1 hM2).mono ?_); rintro e w5 ⟨rfl, hb5⟩; have hd5 := below_then hd4 (Nat.le_refl _) hb5; have hD5 := hD4.go hb5)
    | (go_at_call 39; go_must (refine (GS.out _ _ _ hd5 hD5).mono ?_); rintro e w6 ⟨rfl, rfl⟩)
    | fail)
  go_ret
  exact ⟨rfl, hd5⟩
end Go.Proofs.YtndlcimckfndiaaDoor
