/- Texts of one layer in one file: WmN, WmO. -/
import Derived.Test.YtndlcimckfndiaaDoorWmK
import Derived.Test.YtndlcimckfndiaaDoorWrT
namespace Go.Proofs.YtndlcimckfndiaaDoor
open Go.RowKit
set_option maxRecDepth 100000

/-- What bytes decode to does not hang on the call. -/
theorem DecP.det (l : List UInt8) : ∃ (m0 : Wq.Ms) (er0 : Int), ((Wq.dec l = some m0 ∧ er0 = 0) ∨ (Wq.dec l = none ∧ m0 = Wq.ms0 ∧ er0 = 4)) ∧ ∀ (base : Nat) (w : World) (e : Ending) (w' : World), DecP base w l e w' →
    ∃ (u : MV) (L : List (NV × Nt)), e = .returned (.tuple #[.agg (mval m0 u), .int .i64 er0]) ∧ MsRd w' w'.heap.size u m0 L ∧ Below base w w' := by
  rcases hd : Wq.dec l with _ | m1
  · refine ⟨Wq.ms0, 4, .inr ⟨rfl, rfl, rfl⟩, ?_⟩
    rintro base w e w' ⟨m, u, L, er, h1, h2, h3, ⟨h4, h5⟩ | ⟨h4, h5, h6⟩⟩
    · rw [hd] at h4; cases h4
    · subst h5 h6; exact ⟨u, L, h1, h2, h3⟩
  · refine ⟨m1, 0, .inl ⟨rfl, rfl⟩, ?_⟩
    rintro base w e w' ⟨m, u, L, er, h1, h2, h3, ⟨h4, h5⟩ | ⟨h4, h5, h6⟩⟩
    · rw [hd] at h4; cases h4; subst h5; exact ⟨u, L, h1, h2, h3⟩
    · rw [hd] at h4; cases h4

set_option maxHeartbeats 4000000 in
theorem wireReads_walk (A : Option Addr) (n c : Nat) (l : List UInt8) (w : World) (hT : Tab w) (hl : l.length = n) (hR : Rd w w.heap.size 1 A n c (bv l)) (hn : n ≤ 1048576) :
    Calls Tryd.prog 8 #[.slice A n c] w fun e w' => e = .returned (.bool true) ∧ Below w.heap.size w w' := by
  obtain ⟨m0, er0, -, hdet⟩ := DecP.det l
  have GA := Lib.hid fun (W : World) => aliveW_any W
  have GC := Lib.hid fun (W : World) (hb : Below w.heap.size w W) => copy_any A n c (bv l) W (hR.go hb) (bv_oneCell l) (by omega)
  have GD := fun (W : World) (hb : Below w.heap.size w W) (D : Option Addr) (d : Nat) (h : Rd W W.heap.size 1 D n d (bv l)) => (decode_any D n d l W (hT.below hb) hl h (by omega)).mono fun e W' h => hdet _ _ _ _ h
  have GR := fun (W : World) (hb : Below w.heap.size w W) => (refDecode_any A n c l W hl (hR.go hb) (by omega)).mono fun e W' h => hdet _ _ _ _ h
  have GM := fun (W : World) (u1 u2 : MV) (L1 L2 : List (NV × Nt)) (h1 : MsRd W W.heap.size u1 m0 L1) (h2 : MsRd W W.heap.size u2 m0 L2) => refSameMs_self m0 u1 u2 L1 L2 W h1 h2
  have GS := Lib.hid fun (W : World) (D : Option Addr) (d : Nat) (hb : Below w.heap.size w W) (h1 : Rd W W.heap.size 1 D n d (bv l)) => (sameB_any D A n d n c W.heap.size W.heap.size l l W h1 (hR.go hb)).mono fun e W' (h : e = .returned (.bool (l == l)) ∧ W = W') => (show e = .returned (.bool true) ∧ W = W' from ⟨by rw [h.1, beq_self_eq_true], h.2⟩)
  obtain ⟨k, f, t, n0, q, i, v, ll, ⟨o, ⟨a, b⟩, bw⟩⟩ := m0
  unfold mval at GD GR
  dsimp only at GD GR
  have GM := fun (W : World) (u1 u2 : MV) (L1 L2 : List (NV × Nt)) h1 h2 => GM W u1 u2 L1 L2 h1 h2
  unfold mval at GM
  dsimp only at GM
  have GD := Lib.hid GD
  have GR := Lib.hid GR
  have GM := Lib.hid GM
  clear hl hR hn hT hdet
  go_enter Tryd.func8, Tryd.ntmps8
  go_wp2_with (first
    | (go_at_call 10; go_must (refine (GA.out _).mono ?_); rintro e w1 ⟨rfl, hb1⟩)
    | (go_at_call 42; go_must (refine (GC.out _ hb1).mono ?_); rintro e w2 ⟨D, d, rfl, ho2, hb2⟩; have hd2 := below_then hb1 (Nat.le_refl _) hb2; have hD2 := Rd.of_own ho2)
    | (go_at_call 43; go_must (refine (GD.out _ hd2 _ _ hD2).mono ?_); rintro e w3 ⟨⟨xa, xb, xc, xd, xe, xf, xg, xh⟩, L1, rfl, hM1, hb3⟩
       have hk3 := show Below w3.heap.size w3 (w3.alloc (.cells #[.int .i64 k, .int .i64 f, .int .i64 t, .int .i64 n0, .int .i64 q, .slice xa i.length xb, .slice xc v.length xd, .slice xe ll.length xf, .int .i64 o, .int .i64 a, .int .i64 b, .slice xg bw.length xh] 74)) from (Below.refl _ _).alloc (Nat.le_refl _) _
       have HX1 := Blk.new w3 74 #[.int .i64 k, .int .i64 f, .int .i64 t, .int .i64 n0, .int .i64 q, .slice xa i.length xb, .slice xc v.length xd, .slice xe ll.length xf, .int .i64 o, .int .i64 a, .int .i64 b, .slice xg bw.length xh]
       have hM1 := hM1.go hk3
       have hb3' := below_then hb3 (Nat.le_refl _) hk3
       have hd3 := below_then hd2 (Nat.le_refl _) hb3'
       have hD3 := hD2.go hb3')
    | (go_at_call 44; go_must (refine (GR.out _ hd3).mono ?_); rintro e w4 ⟨⟨ya, yb, yc, yd, ye, yf, yg, yh⟩, L2, rfl, hM2, hb4⟩
       have hk4 := show Below w4.heap.size w4 (w4.alloc (.cells #[.int .i64 k, .int .i64 f, .int .i64 t, .int .i64 n0, .int .i64 q, .slice ya i.length yb, .slice yc v.length yd, .slice ye ll.length yf, .int .i64 o, .int .i64 a, .int .i64 b, .slice yg bw.length yh] 74)) from (Below.refl _ _).alloc (Nat.le_refl _) _
       have HX2 := Blk.new w4 74 #[.int .i64 k, .int .i64 f, .int .i64 t, .int .i64 n0, .int .i64 q, .slice ya i.length yb, .slice yc v.length yd, .slice ye ll.length yf, .int .i64 o, .int .i64 a, .int .i64 b, .slice yg bw.length yh]
       have HX1 := (HX1.go hb4).go hk4
       have hM1 := (hM1.go hb4).go hk4
       have hM2 := hM2.go hk4
       have hb4' := below_then hb4 (Nat.le_refl _) hk4
       have hd4 := below_then hd3 (Nat.le_refl _) hb4'
       have hD4 := hD3.go hb4'
       obtain ⟨q0, q1, q2, q3, q4, q5, q6, q7, q8, q9, q10, q11⟩ := HX1.twelve
       obtain ⟨r0, r1, r2, r3, r4, r5, r6, r7, r8, r9, r10, r11⟩ := HX2.twelve)
    | (go_at_call 45; go_must (refine (GM.out _ ⟨xa, xb, xc, xd, xe, xf, xg, xh⟩ ⟨ya, yb, yc, yd, ye, yf, yg, yh⟩ L1 L2 hM1 hM2).mono ?_); rintro e w5 ⟨rfl, hb5⟩; have hd5 := below_then hd4 (Nat.le_refl _) hb5; have hD5 := hD4.go hb5)
    | (go_at_call 39; go_must (refine (GS.out _ _ _ hd5 hD5).mono ?_); rintro e w6 ⟨rfl, rfl⟩)
    | fail)
  go_ret
  exact ⟨rfl, hd5⟩
end Go.Proofs.YtndlcimckfndiaaDoor

namespace Go.Proofs.YtndlcimckfndiaaDoor
open Go.RowKit
set_option maxRecDepth 100000

theorem DecP.some_ {base : Nat} {w w' : World} {l : List UInt8} {e : Ending} {m : Wq.Ms} (hd : Wq.dec l = some m) (h : DecP base w l e w') : ∃ (u : MV) (L : List (NV × Nt)), e = .returned (.tuple #[.agg (mval m u), .int .i64 0]) ∧ MsRd w' w'.heap.size u m L ∧ Below base w w' := by
  obtain ⟨m1, u, L, er, h1, h2, h3, ⟨h4, h5⟩ | ⟨h4, h5, h6⟩⟩ := h
  · rw [hd] at h4; cases h4; subst h5; exact ⟨u, L, h1, h2, h3⟩
  · rw [hd] at h4; cases h4
theorem DecP.none_ {base : Nat} {w w' : World} {l : List UInt8} {e : Ending} (hd : Wq.dec l = none) (h : DecP base w l e w') : ∃ (u : MV) (L : List (NV × Nt)), e = .returned (.tuple #[.agg (mval Wq.ms0 u), .int .i64 4]) ∧ MsRd w' w'.heap.size u Wq.ms0 L ∧ Below base w w' := by
  obtain ⟨m1, u, L, er, h1, h2, h3, ⟨h4, h5⟩ | ⟨h4, h5, h6⟩⟩ := h
  · rw [hd] at h4; cases h4
  · subst h5 h6; exact ⟨u, L, h1, h2, h3⟩
theorem fm_iv {m : Wq.Ms} (h : Wq.fmM m = true) : m.i.length + m.v.length ≤ 9223372036854775807 := by
  by_cases hk : m.k = 1
  · have h1 := Wq.fm_1 h hk
    have a := Sn.fmS_128 h1.1
    have b := Wq.fm_len h1.2
    omega
  · rw [fmM_W] at h
    have : m.i.length = 0 ∧ m.v.length = 0 := by grind [fmW]
    omega
theorem lL_len {l : List Nt} (h : ∀ x ∈ l, ntF x = true ∧ Wq.ntC x) : (Wq.lL l).length ≤ 20000 * l.length := by
  induction l with
  | nil => simp [Wq.lL]
  | cons x r ih =>
    have a := lNt_small (h x (by simp)).1 (h x (by simp)).2
    have b := ih fun y hy => h y (by simp [hy])
    rw [Wq.lL_cons, List.length_append, List.length_cons]
    omega
theorem enc_len {m : Wq.Ms} (h : Wq.fmM m = true) (hc : Wq.msC m) : (Wq.enc m).length ≤ 10000000 := by
  obtain ⟨⟨f0, f1⟩, ⟨t0, t1⟩, n0, q0, l0⟩ := Wq.fm_head h
  obtain ⟨c1, c2, c3, c4, c5⟩ := hc
  have ef : (Pk.lay m.f.toNat).length ≤ 9 := Pk.lay_len9 (by omega)
  have et : (Pk.lay m.t.toNat).length ≤ 9 := Pk.lay_len9 (by omega)
  have en : (Pk.lay m.n.toNat).length ≤ 9 := Pk.lay_len9 (by omega)
  have eq : (Pk.lay m.q.toNat).length ≤ 9 := Pk.lay_len9 (by omega)
  have el : (Pk.lay m.l.length).length ≤ 9 := Pk.lay_len9 (by omega)
  have hkk := Wq.fm_kind h
  have ek : (Pk.lay m.k.toNat).length ≤ 9 := Pk.lay_len9 (by omega)
  rcases hkk with hk | hk | hk | hk | hk
  · have h1 := Wq.fm_1 h hk
    have a := Wq.lS_len h1.1
    have b := lV_len h1.2 c3
    rw [Wq.enc_1 hk]
    simp only [List.length_append]
    omega
  · rw [Wq.enc_2 hk]
    simp only [List.length_append]
    omega
  · have a := lL_len fun x hx => ⟨Wq.fm_3 h hk x hx, c4 x hx⟩
    rw [Wq.enc_3 hk]
    simp only [List.length_append]
    omega
  · have a := Wq.fm_4 h hk
    have b : (Pk.lay m.b.o.toNat).length ≤ 9 := Pk.lay_len9 (by omega)
    rw [Wq.enc_4 hk]
    simp only [List.length_append]
    omega
  · have a := lB_small (Wq.fm_5 h hk) c5
    rw [Wq.enc_5 hk]
    simp only [List.length_append]
    omega
theorem rd_snoc {w : World} {B c : Nat} {A : Option Addr} {x y : List UInt8} {n : Nat} (hn : n = (x ++ y).length) (h : Rd w B 1 A n c (bv x ++ bv y)) : Rd w B 1 A (x ++ y).length c (bv (x ++ y)) := by subst hn; rw [bv_app]; exact h

theorem MsRd.below {w w' : World} {B : Nat} {u : MV} {m : Wq.Ms} {L : List (NV × Nt)} (h : MsRd w B u m L) (hb : Below B w w') : MsRd w' B u m L := ⟨h.i.below hb, h.v.below hb, ⟨h.l.len, h.l.rd.below hb, fun p hp => (h.l.each p hp).below hb⟩, h.nl, h.b.below hb⟩
theorem MsRd.more {w : World} {B B' : Nat} {u : MV} {m : Wq.Ms} {L : List (NV × Nt)} (h : MsRd w B u m L) (hb : B ≤ B') : MsRd w B' u m L := ⟨h.i.more hb, h.v.more hb, ⟨h.l.len, h.l.rd.more hb, fun p hp => (h.l.each p hp).more hb⟩, h.nl, h.b.more hb⟩

set_option maxHeartbeats 8000000 in
theorem wireBack_walk (m : Wq.Ms) (u : MV) (L : List (NV × Nt)) (A : Option Addr) (nb cb : Nat) (bs : List UInt8) (w : World) (hT : Tab w) (hM : MsRd w w.heap.size u m L) (hiv : m.i.length + m.v.length ≤ 9223372036854775807) (hc : Wq.msC m) (hl : bs.length = nb) (hR : Rd w w.heap.size 1 A nb cb (bv bs)) (hn : nb ≤ 1048576) :
    Calls Tryd.prog 9 #[.agg (mval m u), .slice A nb cb] w fun e w' => e = .returned (.bool true) ∧ Below w.heap.size w w' := by
  obtain ⟨i0, hi0, hz0, hz1, hz2⟩ := info_parts u8_info
  have GA := Lib.hid fun (W : World) => aliveW_any W
  have GF := fun (W : World) (hb : Below w.heap.size w W) => wireFormed_any m u L W (hT.below hb) (hM.go hb) hiv
  have GQ := fun (W : World) (hb : Below w.heap.size w W) => decode_any A nb cb bs W (hT.below hb) hl (hR.go hb) (by omega)
  have GS := Lib.hid fun (W : World) (D : Option Addr) (d : Nat) (hb : Below w.heap.size w W) (h1 : Rd W W.heap.size 1 D nb d (bv bs)) => (sameB_any D A nb d nb cb W.heap.size W.heap.size bs bs W h1 (hR.go hb)).mono fun e W' (h : e = .returned (.bool (bs == bs)) ∧ W = W') => (show e = .returned (.bool true) ∧ W = W' from ⟨by rw [h.1, beq_self_eq_true], h.2⟩)
  rcases hf : Wq.fmM m with _ | _
  · skip
    rcases hd : Wq.dec bs with _ | m1
    · skip
      have GB := fun (W : World) (hb : Below w.heap.size w W) => (GQ W hb).mono fun e W' h => DecP.none_ hd h
      have GN := fun (W : World) (hb : Below w.heap.size w W) (u1 : MV) (L1 : List (NV × Nt)) (h : MsRd W W.heap.size u1 Wq.ms0 L1) => (wireFormed_any Wq.ms0 u1 L1 W (hT.below hb) h (by simp [Wq.ms0])).mono fun e W' h => (show e = .returned (.bool false) ∧ Below W.heap.size W W' from ⟨h.1.trans (by rw [show Wq.fmM Wq.ms0 = false from by decide]), h.2⟩)
      unfold mval at GB GN
      dsimp only [Wq.ms0, Wq.bd0, List.length_nil] at GB GN
      have GN := Lib.hid GN
      have GB := Lib.hid GB
      clear GQ hd
      have GE := fun (W : World) (hb : Below w.heap.size w W) => encode_no m u L W (hT.below hb) (hM.go hb) hiv hf
      rw [hf] at GF
      obtain ⟨k, f, t, n, q, i, v, l, ⟨o, ⟨a, b⟩, bw⟩⟩ := m
      obtain ⟨ua, ub, uc, ud, ue, uf, ug, uh⟩ := u
      unfold mval at GE GF ⊢
      dsimp only at GE GF ⊢
      have GE := Lib.hid GE
      have GF := Lib.hid GF
      have hb0 : Below w.heap.size w (w.alloc (.cells #[.int .i64 k, .int .i64 f, .int .i64 t, .int .i64 n, .int .i64 q, .slice ua i.length ub, .slice uc v.length ud, .slice ue l.length uf, .int .i64 o, .int .i64 a, .int .i64 b, .slice ug bw.length uh] 74)) := (Below.refl _ _).alloc (Nat.le_refl _) _
      have HX0 := Blk.new w 74 #[.int .i64 k, .int .i64 f, .int .i64 t, .int .i64 n, .int .i64 q, .slice ua i.length ub, .slice uc v.length ud, .slice ue l.length uf, .int .i64 o, .int .i64 a, .int .i64 b, .slice ug bw.length uh]
      obtain ⟨W0, hW0⟩ : ∃ W0, W0 = w.alloc (.cells #[.int .i64 k, .int .i64 f, .int .i64 t, .int .i64 n, .int .i64 q, .slice ua i.length ub, .slice uc v.length ud, .slice ue l.length uf, .int .i64 o, .int .i64 a, .int .i64 b, .slice ug bw.length uh] 74) := ⟨_, rfl⟩
      rw [← hW0] at hb0 HX0
      have HW := Lib.hid hW0.symm
      have HB := Lib.hid hb0
      have HX := Lib.hid fun W (hb : Below W0.heap.size W0 W) => HX0.go hb
      clear hb0 HX0 hW0 hf hT hM hiv hc hl hR
      go_enter Tryd.func9, Tryd.ntmps9
      go_wp2_with fail
      rw [HW.out]
      refine (GA.out _).mono ?_
      rintro e w1 ⟨rfl, hb1⟩
      have d1 := below_then HB.out (Nat.le_refl _) hb1
      obtain ⟨q0, q1, q2, q3, q4, q5, q6, q7, q8, q9, q10, q11⟩ := (HX.out _ hb1).twelve
      go_wp2_with fail
      refine (GE.out _ d1).mono ?_
      rintro e w2 ⟨rfl, hb2⟩
      have z2 := below_then hb1 (Nat.le_refl _) hb2
      have d2 := below_then d1 (Nat.le_refl _) hb2
      clear q0 q1 q2 q3 q4 q5 q6 q7 q8 q9 q10 q11
      obtain ⟨q0, q1, q2, q3, q4, q5, q6, q7, q8, q9, q10, q11⟩ := (HX.out _ z2).twelve
      go_wp2_with fail
      refine (GF.out _ d2).mono ?_
      rintro e w3 ⟨rfl, hb3⟩
      have z3 := below_then z2 (Nat.le_refl _) hb3
      have d3 := below_then d2 (Nat.le_refl _) hb3
      clear q0 q1 q2 q3 q4 q5 q6 q7 q8 q9 q10 q11
      go_wp2_with fail
      refine (GB.out _ d3).mono ?_
      rintro e w10 ⟨⟨za, zb, zc, zd, ze, zf, zg, zh⟩, L3, rfl, hM3, hb10⟩
      have hk10 := show Below w10.heap.size w10 (w10.alloc (.cells #[.int .i64 0, .int .i64 0, .int .i64 0, .int .i64 0, .int .i64 0, .slice za 0 zb, .slice zc 0 zd, .slice ze 0 zf, .int .i64 0, .int .i64 0, .int .i64 0, .slice zg 0 zh] 74)) from (Below.refl _ _).alloc (Nat.le_refl _) _
      have HP3 := Blk.new w10 74 #[.int .i64 0, .int .i64 0, .int .i64 0, .int .i64 0, .int .i64 0, .slice za 0 zb, .slice zc 0 zd, .slice ze 0 zf, .int .i64 0, .int .i64 0, .int .i64 0, .slice zg 0 zh]
      have hM3 := hM3.go hk10
      have d10 := below_then d3 (Nat.le_refl _) (below_then hb10 (Nat.le_refl _) hk10)
      obtain ⟨s0, s1, s2, s3, s4, s5, s6, s7, s8, s9, s10, s11⟩ := HP3.twelve
      go_wp2_with fail
      refine (GN.out _ d10 ⟨za, zb, zc, zd, ze, zf, zg, zh⟩ L3 hM3).mono ?_
      rintro e w11 ⟨rfl, hb11⟩
      have d11 := below_then d10 (Nat.le_refl _) hb11
      go_wp2
      go_ret
      exact ⟨rfl, d11⟩
    · skip
      obtain ⟨hbe, hf1, hc1⟩ := Wq.dec_back hd
      have GB := fun (W : World) (hb : Below w.heap.size w W) => (GQ W hb).mono fun e W' h => DecP.some_ hd h
      have GP := fun (W : World) (hb : Below w.heap.size w W) (u1 : MV) (L1 : List (NV × Nt)) (h : MsRd W W.heap.size u1 m1 L1) => (encode_any m1 u1 L1 W (hT.below hb) h (fm_iv hf1) hc1 hf1).mono fun e W' h => (show ∃ A' c', e = .returned (.tuple #[.slice A' nb c', .int .i64 0]) ∧ W'.ownsRow W.heap.size 5 1 (.slice A' nb c') nb (bv bs) ∧ Below W.heap.size W W' from by
        obtain ⟨_, h1, A', c', rfl, h2, h3⟩ := h
        rw [← hbe, hl] at h1 h2
        exact ⟨A', c', h1, h2, h3⟩)
      obtain ⟨kx, fx, tx, nx, qx, ix, vx, lx, ⟨ox, ⟨ax, bx⟩, bwx⟩⟩ := m1
      unfold mval at GB GP
      dsimp only at GB GP
      have GP := Lib.hid GP
      have GB := Lib.hid GB
      clear GQ hd
      have GE := fun (W : World) (hb : Below w.heap.size w W) => encode_no m u L W (hT.below hb) (hM.go hb) hiv hf
      rw [hf] at GF
      obtain ⟨k, f, t, n, q, i, v, l, ⟨o, ⟨a, b⟩, bw⟩⟩ := m
      obtain ⟨ua, ub, uc, ud, ue, uf, ug, uh⟩ := u
      unfold mval at GE GF ⊢
      dsimp only at GE GF ⊢
      have GE := Lib.hid GE
      have GF := Lib.hid GF
      have hb0 : Below w.heap.size w (w.alloc (.cells #[.int .i64 k, .int .i64 f, .int .i64 t, .int .i64 n, .int .i64 q, .slice ua i.length ub, .slice uc v.length ud, .slice ue l.length uf, .int .i64 o, .int .i64 a, .int .i64 b, .slice ug bw.length uh] 74)) := (Below.refl _ _).alloc (Nat.le_refl _) _
      have HX0 := Blk.new w 74 #[.int .i64 k, .int .i64 f, .int .i64 t, .int .i64 n, .int .i64 q, .slice ua i.length ub, .slice uc v.length ud, .slice ue l.length uf, .int .i64 o, .int .i64 a, .int .i64 b, .slice ug bw.length uh]
      obtain ⟨W0, hW0⟩ : ∃ W0, W0 = w.alloc (.cells #[.int .i64 k, .int .i64 f, .int .i64 t, .int .i64 n, .int .i64 q, .slice ua i.length ub, .slice uc v.length ud, .slice ue l.length uf, .int .i64 o, .int .i64 a, .int .i64 b, .slice ug bw.length uh] 74) := ⟨_, rfl⟩
      rw [← hW0] at hb0 HX0
      have HW := Lib.hid hW0.symm
      have HB := Lib.hid hb0
      have HX := Lib.hid fun W (hb : Below W0.heap.size W0 W) => HX0.go hb
      clear hb0 HX0 hW0 hf hT hM hiv hc hl hR
      go_enter Tryd.func9, Tryd.ntmps9
      go_wp2_with fail
      rw [HW.out]
      refine (GA.out _).mono ?_
      rintro e w1 ⟨rfl, hb1⟩
      have d1 := below_then HB.out (Nat.le_refl _) hb1
      obtain ⟨q0, q1, q2, q3, q4, q5, q6, q7, q8, q9, q10, q11⟩ := (HX.out _ hb1).twelve
      go_wp2_with fail
      refine (GE.out _ d1).mono ?_
      rintro e w2 ⟨rfl, hb2⟩
      have z2 := below_then hb1 (Nat.le_refl _) hb2
      have d2 := below_then d1 (Nat.le_refl _) hb2
      clear q0 q1 q2 q3 q4 q5 q6 q7 q8 q9 q10 q11
      obtain ⟨q0, q1, q2, q3, q4, q5, q6, q7, q8, q9, q10, q11⟩ := (HX.out _ z2).twelve
      go_wp2_with fail
      refine (GF.out _ d2).mono ?_
      rintro e w3 ⟨rfl, hb3⟩
      have z3 := below_then z2 (Nat.le_refl _) hb3
      have d3 := below_then d2 (Nat.le_refl _) hb3
      clear q0 q1 q2 q3 q4 q5 q6 q7 q8 q9 q10 q11
      go_wp2_with fail
      refine (GB.out _ d3).mono ?_
      rintro e w10 ⟨⟨za, zb, zc, zd, ze, zf, zg, zh⟩, L3, rfl, hM3, hb10⟩
      have hk10 := show Below w10.heap.size w10 (w10.alloc (.cells #[.int .i64 kx, .int .i64 fx, .int .i64 tx, .int .i64 nx, .int .i64 qx, .slice za ix.length zb, .slice zc vx.length zd, .slice ze lx.length zf, .int .i64 ox, .int .i64 ax, .int .i64 bx, .slice zg bwx.length zh] 74)) from (Below.refl _ _).alloc (Nat.le_refl _) _
      have HP3 := Blk.new w10 74 #[.int .i64 kx, .int .i64 fx, .int .i64 tx, .int .i64 nx, .int .i64 qx, .slice za ix.length zb, .slice zc vx.length zd, .slice ze lx.length zf, .int .i64 ox, .int .i64 ax, .int .i64 bx, .slice zg bwx.length zh]
      have hM3 := hM3.go hk10
      have d10 := below_then d3 (Nat.le_refl _) (below_then hb10 (Nat.le_refl _) hk10)
      obtain ⟨s0, s1, s2, s3, s4, s5, s6, s7, s8, s9, s10, s11⟩ := HP3.twelve
      go_wp2_with fail
      refine (GP.out _ d10 ⟨za, zb, zc, zd, ze, zf, zg, zh⟩ L3 hM3).mono ?_
      rintro e w11 ⟨D11, c11, rfl, ho11, hb11⟩
      have d11 := below_then d10 (Nat.le_refl _) hb11
      go_wp2_with fail
      refine (GS.out _ _ _ d11 (Rd.of_own ho11)).mono ?_
      rintro e w12 ⟨rfl, rfl⟩
      go_wp2
      go_ret
      exact ⟨rfl, d11⟩
  · skip
    rcases hd : Wq.dec bs with _ | m1
    · skip
      have GB := fun (W : World) (hb : Below w.heap.size w W) => (GQ W hb).mono fun e W' h => DecP.none_ hd h
      have GN := fun (W : World) (hb : Below w.heap.size w W) (u1 : MV) (L1 : List (NV × Nt)) (h : MsRd W W.heap.size u1 Wq.ms0 L1) => (wireFormed_any Wq.ms0 u1 L1 W (hT.below hb) h (by simp [Wq.ms0])).mono fun e W' h => (show e = .returned (.bool false) ∧ Below W.heap.size W W' from ⟨h.1.trans (by rw [show Wq.fmM Wq.ms0 = false from by decide]), h.2⟩)
      unfold mval at GB GN
      dsimp only [Wq.ms0, Wq.bd0, List.length_nil] at GB GN
      have GN := Lib.hid GN
      have GB := Lib.hid GB
      clear GQ hd
      have hel := enc_len hf hc
      have hde := Wq.dec_enc hf hc
      have hdm := Wq.dec_more hf hc 0
      have GE := fun (W : World) (hb : Below w.heap.size w W) => encode_any m u L W (hT.below hb) (hM.go hb) hiv hc hf
      unfold BytesAre at GE
      obtain ⟨xs, hxs⟩ : ∃ x, x = Wq.enc m := ⟨_, rfl⟩
      rw [← hxs] at GE hel hde hdm
      have GX := fun (W : World) (hb : Below w.heap.size w W) (D : Option Addr) (d : Nat) (h : Rd W W.heap.size 1 D xs.length d (bv xs)) => (decode_any D xs.length d xs W (hT.below hb) rfl h (by omega)).mono fun e W' h => DecP.some_ hde h
      have GY := fun (W : World) (hb : Below w.heap.size w W) (D : Option Addr) (d : Nat) (h : Rd W W.heap.size 1 D (xs ++ [0]).length d (bv (xs ++ [0]))) => (decode_any D (xs ++ [0]).length d (xs ++ [0]) W (hT.below hb) rfl h (by rw [List.length_append, List.length_singleton]; omega)).mono fun e W' h => DecP.none_ hdm h
      obtain ⟨ys, hys⟩ : ∃ x, x = xs ++ [(0 : UInt8)] := ⟨_, rfl⟩
      have hyl : ys.length = xs.length + 1 := by rw [hys]; simp
      rw [← hys, hyl] at GY
      have HYS := Lib.hid hys
      have GC := Lib.hid fun (W : World) (D : Option Addr) (d : Nat) (h : Rd W W.heap.size 1 D xs.length d (bv xs)) => copy_any D xs.length d (bv xs) W h (bv_oneCell xs) (by omega)
      have GM := fun (W : World) (u1 : MV) (L1 : List (NV × Nt)) (hb : Below w.heap.size w W) (h1 : MsRd W W.heap.size u1 m L1) => refSameMs_self m u1 u L1 L W h1 (hM.go hb)
      rw [hf] at GF
      have h63 : xs.length + 1 ≤ maxLen := by unfold maxLen; omega
      have h1max : 1 ≤ maxLen := by unfold maxLen; omega
      clear hde hdm hxs hys hyl
      obtain ⟨k, f, t, n, q, i, v, l, ⟨o, ⟨a, b⟩, bw⟩⟩ := m
      obtain ⟨ua, ub, uc, ud, ue, uf, ug, uh⟩ := u
      unfold mval at GE GF GX GM ⊢
      dsimp only at GE GF GX GM ⊢
      unfold mval at GY
      dsimp only [Wq.ms0, Wq.bd0, List.length_nil] at GY
      have GY := Lib.hid GY
      have GE := Lib.hid GE
      have GF := Lib.hid GF
      have GX := Lib.hid GX
      have GM := Lib.hid GM
      have hb0 : Below w.heap.size w (w.alloc (.cells #[.int .i64 k, .int .i64 f, .int .i64 t, .int .i64 n, .int .i64 q, .slice ua i.length ub, .slice uc v.length ud, .slice ue l.length uf, .int .i64 o, .int .i64 a, .int .i64 b, .slice ug bw.length uh] 74)) := (Below.refl _ _).alloc (Nat.le_refl _) _
      have HX0 := Blk.new w 74 #[.int .i64 k, .int .i64 f, .int .i64 t, .int .i64 n, .int .i64 q, .slice ua i.length ub, .slice uc v.length ud, .slice ue l.length uf, .int .i64 o, .int .i64 a, .int .i64 b, .slice ug bw.length uh]
      obtain ⟨W0, hW0⟩ : ∃ W0, W0 = w.alloc (.cells #[.int .i64 k, .int .i64 f, .int .i64 t, .int .i64 n, .int .i64 q, .slice ua i.length ub, .slice uc v.length ud, .slice ue l.length uf, .int .i64 o, .int .i64 a, .int .i64 b, .slice ug bw.length uh] 74) := ⟨_, rfl⟩
      rw [← hW0] at hb0 HX0
      have HW := Lib.hid hW0.symm
      have HB := Lib.hid hb0
      have HX := Lib.hid fun W (hb : Below W0.heap.size W0 W) => HX0.go hb
      clear hb0 HX0 hW0 hf hT hM hiv hc hl hR
      go_enter Tryd.func9, Tryd.ntmps9
      go_wp2_with fail
      rw [HW.out]
      refine (GA.out _).mono ?_
      rintro e w1 ⟨rfl, hb1⟩
      have d1 := below_then HB.out (Nat.le_refl _) hb1
      obtain ⟨q0, q1, q2, q3, q4, q5, q6, q7, q8, q9, q10, q11⟩ := (HX.out _ hb1).twelve
      go_wp2_with fail
      refine (GE.out _ d1).mono ?_
      rintro e w2 ⟨_, rfl, D2, c2, rfl, ho2, hb2⟩
      have z2 := below_then hb1 (Nat.le_refl _) hb2
      have d2 := below_then d1 (Nat.le_refl _) hb2
      clear q0 q1 q2 q3 q4 q5 q6 q7 q8 q9 q10 q11
      obtain ⟨q0, q1, q2, q3, q4, q5, q6, q7, q8, q9, q10, q11⟩ := (HX.out _ z2).twelve
      go_wp2_with fail
      refine (GF.out _ d2).mono ?_
      rintro e w3 ⟨rfl, hb3⟩
      have z3 := below_then z2 (Nat.le_refl _) hb3
      have d3 := below_then d2 (Nat.le_refl _) hb3
      clear q0 q1 q2 q3 q4 q5 q6 q7 q8 q9 q10 q11
      have h2 := (Rd.of_own ho2).go hb3
      go_wp2_with fail
      refine (GX.out _ d3 _ _ h2).mono ?_
      rintro e w4 ⟨⟨xa, xb, xc, xd, xe, xf, xg, xh⟩, L1, rfl, hM1, hb4⟩
      have hk4 := show Below w4.heap.size w4 (w4.alloc (.cells #[.int .i64 k, .int .i64 f, .int .i64 t, .int .i64 n, .int .i64 q, .slice xa i.length xb, .slice xc v.length xd, .slice xe l.length xf, .int .i64 o, .int .i64 a, .int .i64 b, .slice xg bw.length xh] 74)) from (Below.refl _ _).alloc (Nat.le_refl _) _
      have HP1 := Blk.new w4 74 #[.int .i64 k, .int .i64 f, .int .i64 t, .int .i64 n, .int .i64 q, .slice xa i.length xb, .slice xc v.length xd, .slice xe l.length xf, .int .i64 o, .int .i64 a, .int .i64 b, .slice xg bw.length xh]
      have hM1 := hM1.go hk4
      have k4 := below_then hb4 (Nat.le_refl _) hk4
      have d4 := below_then d3 (Nat.le_refl _) k4
      have z4 := below_then z3 (Nat.le_refl _) k4
      have h2 := h2.go k4
      go_wp2_with fail
      refine (GC.out _ _ _ h2).mono ?_
      rintro e w5 ⟨D5, c5, rfl, ho5, hb5⟩
      have d5 := below_then d4 (Nat.le_refl _) hb5
      have z5 := below_then z4 (Nat.le_refl _) hb5
      have HP1 := HP1.go hb5
      have hM1 := hM1.below hb5
      have hs5 := hb5.size
      obtain ⟨B5, hB5⟩ : ∃ x, x = (w4.alloc (.cells #[.int .i64 k, .int .i64 f, .int .i64 t, .int .i64 n, .int .i64 q, .slice xa i.length xb, .slice xc v.length xd, .slice xe l.length xf, .int .i64 o, .int .i64 a, .int .i64 b, .slice xg bw.length xh] 74)).heap.size := ⟨_, rfl⟩
      rw [← hB5] at ho5 hs5 hM1
      go_wp2_with (first
        | (at_builtin; go_must (refine wpList_append_rd _ rfl (.tmp 36) (.tmp 37) _ rfl B5 5 i0 _ 1 1 Tryd.underlying23 hi0 hz0 hz1 hz2 rfl (by decide) _ xs.length (bv xs) rfl (ho5.alloc _) _ (some ⟨w5.heap.size, 0, none⟩) 1 1 (bv [0]) rfl (by have := Rd.new w5 5 1 1 #[.int .u8 0] rfl h1max; simpa [bv] using this) (bv_oneCell _) h63 (by omega) (by simp; omega) ?_); intro A6 c6 w6 ho6 hg6 hat6)
        | fail)
      have kA : Below w5.heap.size w5 (w5.alloc (.cells #[.int .u8 0] 5)) := (Below.refl _ _).alloc (Nat.le_refl _) _
      have kg := grown_below hg6 (show B5 ≤ _ from by simp; omega) (fun j hj => own_lt ho5 j hj)
      have k6 : Below B5 w5 w6 := (kA.mono hs5).trans kg
      have hXB : w4.heap.size < B5 := by rw [hB5]; simp
      have d6 : Below w.heap.size w w6 := d5.trans (k6.mono (by rw [hB5]; exact d4.size))
      have z6 : Below W0.heap.size W0 w6 := z5.trans (k6.mono (by rw [hB5]; exact z4.size))
      have HP1 := HP1.below k6 hXB
      refine (GY.out _ d6 _ _ (by have h := Rd.of_own ho6; rw [← bv_app, ← HYS.out] at h; exact h)).mono ?_
      rintro e w7 ⟨⟨ya, yb, yc, yd, ye, yf, yg, yh⟩, L2, rfl, hM2, hb7⟩
      have hk7 := show Below w7.heap.size w7 (w7.alloc (.cells #[.int .i64 0, .int .i64 0, .int .i64 0, .int .i64 0, .int .i64 0, .slice ya 0 yb, .slice yc 0 yd, .slice ye 0 yf, .int .i64 0, .int .i64 0, .int .i64 0, .slice yg 0 yh] 74)) from (Below.refl _ _).alloc (Nat.le_refl _) _
      have k7 := below_then hb7 (Nat.le_refl _) hk7
      have d7 := below_then d6 (Nat.le_refl _) k7
      have z7 := below_then z6 (Nat.le_refl _) k7
      have HP1 := HP1.go k7
      obtain ⟨p0, p1, p2, p3, p4, p5, p6, p7, p8, p9, p10, p11⟩ := HP1.twelve
      obtain ⟨q0, q1, q2, q3, q4, q5, q6, q7, q8, q9, q10, q11⟩ := (HX.out _ z7).twelve
      have hM1 := ((hM1.below k6).more (Nat.le_trans hs5 k6.size)).go k7
      go_wp2_with fail
      refine (GM.out _ ⟨xa, xb, xc, xd, xe, xf, xg, xh⟩ L1 d7 hM1).mono ?_
      rintro e w9 ⟨rfl, hb9⟩
      have d3 := below_then d7 (Nat.le_refl _) hb9
      clear q0 q1 q2 q3 q4 q5 q6 q7 q8 q9 q10 q11
      clear p0 p1 p2 p3 p4 p5 p6 p7 p8 p9 p10 p11
      go_wp2_with fail
      refine (GB.out _ d3).mono ?_
      rintro e w10 ⟨⟨za, zb, zc, zd, ze, zf, zg, zh⟩, L3, rfl, hM3, hb10⟩
      have hk10 := show Below w10.heap.size w10 (w10.alloc (.cells #[.int .i64 0, .int .i64 0, .int .i64 0, .int .i64 0, .int .i64 0, .slice za 0 zb, .slice zc 0 zd, .slice ze 0 zf, .int .i64 0, .int .i64 0, .int .i64 0, .slice zg 0 zh] 74)) from (Below.refl _ _).alloc (Nat.le_refl _) _
      have HP3 := Blk.new w10 74 #[.int .i64 0, .int .i64 0, .int .i64 0, .int .i64 0, .int .i64 0, .slice za 0 zb, .slice zc 0 zd, .slice ze 0 zf, .int .i64 0, .int .i64 0, .int .i64 0, .slice zg 0 zh]
      have hM3 := hM3.go hk10
      have d10 := below_then d3 (Nat.le_refl _) (below_then hb10 (Nat.le_refl _) hk10)
      obtain ⟨s0, s1, s2, s3, s4, s5, s6, s7, s8, s9, s10, s11⟩ := HP3.twelve
      go_wp2_with fail
      refine (GN.out _ d10 ⟨za, zb, zc, zd, ze, zf, zg, zh⟩ L3 hM3).mono ?_
      rintro e w11 ⟨rfl, hb11⟩
      have d11 := below_then d10 (Nat.le_refl _) hb11
      go_wp2
      go_ret
      exact ⟨rfl, d11⟩
    · skip
      obtain ⟨hbe, hf1, hc1⟩ := Wq.dec_back hd
      have GB := fun (W : World) (hb : Below w.heap.size w W) => (GQ W hb).mono fun e W' h => DecP.some_ hd h
      have GP := fun (W : World) (hb : Below w.heap.size w W) (u1 : MV) (L1 : List (NV × Nt)) (h : MsRd W W.heap.size u1 m1 L1) => (encode_any m1 u1 L1 W (hT.below hb) h (fm_iv hf1) hc1 hf1).mono fun e W' h => (show ∃ A' c', e = .returned (.tuple #[.slice A' nb c', .int .i64 0]) ∧ W'.ownsRow W.heap.size 5 1 (.slice A' nb c') nb (bv bs) ∧ Below W.heap.size W W' from by
        obtain ⟨_, h1, A', c', rfl, h2, h3⟩ := h
        rw [← hbe, hl] at h1 h2
        exact ⟨A', c', h1, h2, h3⟩)
      obtain ⟨kx, fx, tx, nx, qx, ix, vx, lx, ⟨ox, ⟨ax, bx⟩, bwx⟩⟩ := m1
      unfold mval at GB GP
      dsimp only at GB GP
      have GP := Lib.hid GP
      have GB := Lib.hid GB
      clear GQ hd
      have hel := enc_len hf hc
      have hde := Wq.dec_enc hf hc
      have hdm := Wq.dec_more hf hc 0
      have GE := fun (W : World) (hb : Below w.heap.size w W) => encode_any m u L W (hT.below hb) (hM.go hb) hiv hc hf
      unfold BytesAre at GE
      obtain ⟨xs, hxs⟩ : ∃ x, x = Wq.enc m := ⟨_, rfl⟩
      rw [← hxs] at GE hel hde hdm
      have GX := fun (W : World) (hb : Below w.heap.size w W) (D : Option Addr) (d : Nat) (h : Rd W W.heap.size 1 D xs.length d (bv xs)) => (decode_any D xs.length d xs W (hT.below hb) rfl h (by omega)).mono fun e W' h => DecP.some_ hde h
      have GY := fun (W : World) (hb : Below w.heap.size w W) (D : Option Addr) (d : Nat) (h : Rd W W.heap.size 1 D (xs ++ [0]).length d (bv (xs ++ [0]))) => (decode_any D (xs ++ [0]).length d (xs ++ [0]) W (hT.below hb) rfl h (by rw [List.length_append, List.length_singleton]; omega)).mono fun e W' h => DecP.none_ hdm h
      obtain ⟨ys, hys⟩ : ∃ x, x = xs ++ [(0 : UInt8)] := ⟨_, rfl⟩
      have hyl : ys.length = xs.length + 1 := by rw [hys]; simp
      rw [← hys, hyl] at GY
      have HYS := Lib.hid hys
      have GC := Lib.hid fun (W : World) (D : Option Addr) (d : Nat) (h : Rd W W.heap.size 1 D xs.length d (bv xs)) => copy_any D xs.length d (bv xs) W h (bv_oneCell xs) (by omega)
      have GM := fun (W : World) (u1 : MV) (L1 : List (NV × Nt)) (hb : Below w.heap.size w W) (h1 : MsRd W W.heap.size u1 m L1) => refSameMs_self m u1 u L1 L W h1 (hM.go hb)
      rw [hf] at GF
      have h63 : xs.length + 1 ≤ maxLen := by unfold maxLen; omega
      have h1max : 1 ≤ maxLen := by unfold maxLen; omega
      clear hde hdm hxs hys hyl
      obtain ⟨k, f, t, n, q, i, v, l, ⟨o, ⟨a, b⟩, bw⟩⟩ := m
      obtain ⟨ua, ub, uc, ud, ue, uf, ug, uh⟩ := u
      unfold mval at GE GF GX GM ⊢
      dsimp only at GE GF GX GM ⊢
      unfold mval at GY
      dsimp only [Wq.ms0, Wq.bd0, List.length_nil] at GY
      have GY := Lib.hid GY
      have GE := Lib.hid GE
      have GF := Lib.hid GF
      have GX := Lib.hid GX
      have GM := Lib.hid GM
      have hb0 : Below w.heap.size w (w.alloc (.cells #[.int .i64 k, .int .i64 f, .int .i64 t, .int .i64 n, .int .i64 q, .slice ua i.length ub, .slice uc v.length ud, .slice ue l.length uf, .int .i64 o, .int .i64 a, .int .i64 b, .slice ug bw.length uh] 74)) := (Below.refl _ _).alloc (Nat.le_refl _) _
      have HX0 := Blk.new w 74 #[.int .i64 k, .int .i64 f, .int .i64 t, .int .i64 n, .int .i64 q, .slice ua i.length ub, .slice uc v.length ud, .slice ue l.length uf, .int .i64 o, .int .i64 a, .int .i64 b, .slice ug bw.length uh]
      obtain ⟨W0, hW0⟩ : ∃ W0, W0 = w.alloc (.cells #[.int .i64 k, .int .i64 f, .int .i64 t, .int .i64 n, .int .i64 q, .slice ua i.length ub, .slice uc v.length ud, .slice ue l.length uf, .int .i64 o, .int .i64 a, .int .i64 b, .slice ug bw.length uh] 74) := ⟨_, rfl⟩
      rw [← hW0] at hb0 HX0
      have HW := Lib.hid hW0.symm
      have HB := Lib.hid hb0
      have HX := Lib.hid fun W (hb : Below W0.heap.size W0 W) => HX0.go hb
      clear hb0 HX0 hW0 hf hT hM hiv hc hl hR
      go_enter Tryd.func9, Tryd.ntmps9
      go_wp2_with fail
      rw [HW.out]
      refine (GA.out _).mono ?_
      rintro e w1 ⟨rfl, hb1⟩
      have d1 := below_then HB.out (Nat.le_refl _) hb1
      obtain ⟨q0, q1, q2, q3, q4, q5, q6, q7, q8, q9, q10, q11⟩ := (HX.out _ hb1).twelve
      go_wp2_with fail
      refine (GE.out _ d1).mono ?_
      rintro e w2 ⟨_, rfl, D2, c2, rfl, ho2, hb2⟩
      have z2 := below_then hb1 (Nat.le_refl _) hb2
      have d2 := below_then d1 (Nat.le_refl _) hb2
      clear q0 q1 q2 q3 q4 q5 q6 q7 q8 q9 q10 q11
      obtain ⟨q0, q1, q2, q3, q4, q5, q6, q7, q8, q9, q10, q11⟩ := (HX.out _ z2).twelve
      go_wp2_with fail
      refine (GF.out _ d2).mono ?_
      rintro e w3 ⟨rfl, hb3⟩
      have z3 := below_then z2 (Nat.le_refl _) hb3
      have d3 := below_then d2 (Nat.le_refl _) hb3
      clear q0 q1 q2 q3 q4 q5 q6 q7 q8 q9 q10 q11
      have h2 := (Rd.of_own ho2).go hb3
      go_wp2_with fail
      refine (GX.out _ d3 _ _ h2).mono ?_
      rintro e w4 ⟨⟨xa, xb, xc, xd, xe, xf, xg, xh⟩, L1, rfl, hM1, hb4⟩
      have hk4 := show Below w4.heap.size w4 (w4.alloc (.cells #[.int .i64 k, .int .i64 f, .int .i64 t, .int .i64 n, .int .i64 q, .slice xa i.length xb, .slice xc v.length xd, .slice xe l.length xf, .int .i64 o, .int .i64 a, .int .i64 b, .slice xg bw.length xh] 74)) from (Below.refl _ _).alloc (Nat.le_refl _) _
      have HP1 := Blk.new w4 74 #[.int .i64 k, .int .i64 f, .int .i64 t, .int .i64 n, .int .i64 q, .slice xa i.length xb, .slice xc v.length xd, .slice xe l.length xf, .int .i64 o, .int .i64 a, .int .i64 b, .slice xg bw.length xh]
      have hM1 := hM1.go hk4
      have k4 := below_then hb4 (Nat.le_refl _) hk4
      have d4 := below_then d3 (Nat.le_refl _) k4
      have z4 := below_then z3 (Nat.le_refl _) k4
      have h2 := h2.go k4
      go_wp2_with fail
      refine (GC.out _ _ _ h2).mono ?_
      rintro e w5 ⟨D5, c5, rfl, ho5, hb5⟩
      have d5 := below_then d4 (Nat.le_refl _) hb5
      have z5 := below_then z4 (Nat.le_refl _) hb5
      have HP1 := HP1.go hb5
      have hM1 := hM1.below hb5
      have hs5 := hb5.size
      obtain ⟨B5, hB5⟩ : ∃ x, x = (w4.alloc (.cells #[.int .i64 k, .int .i64 f, .int .i64 t, .int .i64 n, .int .i64 q, .slice xa i.length xb, .slice xc v.length xd, .slice xe l.length xf, .int .i64 o, .int .i64 a, .int .i64 b, .slice xg bw.length xh] 74)).heap.size := ⟨_, rfl⟩
      rw [← hB5] at ho5 hs5 hM1
      go_wp2_with (first
        | (at_builtin; go_must (refine wpList_append_rd _ rfl (.tmp 36) (.tmp 37) _ rfl B5 5 i0 _ 1 1 Tryd.underlying23 hi0 hz0 hz1 hz2 rfl (by decide) _ xs.length (bv xs) rfl (ho5.alloc _) _ (some ⟨w5.heap.size, 0, none⟩) 1 1 (bv [0]) rfl (by have := Rd.new w5 5 1 1 #[.int .u8 0] rfl h1max; simpa [bv] using this) (bv_oneCell _) h63 (by omega) (by simp; omega) ?_); intro A6 c6 w6 ho6 hg6 hat6)
        | fail)
      have kA : Below w5.heap.size w5 (w5.alloc (.cells #[.int .u8 0] 5)) := (Below.refl _ _).alloc (Nat.le_refl _) _
      have kg := grown_below hg6 (show B5 ≤ _ from by simp; omega) (fun j hj => own_lt ho5 j hj)
      have k6 : Below B5 w5 w6 := (kA.mono hs5).trans kg
      have hXB : w4.heap.size < B5 := by rw [hB5]; simp
      have d6 : Below w.heap.size w w6 := d5.trans (k6.mono (by rw [hB5]; exact d4.size))
      have z6 : Below W0.heap.size W0 w6 := z5.trans (k6.mono (by rw [hB5]; exact z4.size))
      have HP1 := HP1.below k6 hXB
      refine (GY.out _ d6 _ _ (by have h := Rd.of_own ho6; rw [← bv_app, ← HYS.out] at h; exact h)).mono ?_
      rintro e w7 ⟨⟨ya, yb, yc, yd, ye, yf, yg, yh⟩, L2, rfl, hM2, hb7⟩
      have hk7 := show Below w7.heap.size w7 (w7.alloc (.cells #[.int .i64 0, .int .i64 0, .int .i64 0, .int .i64 0, .int .i64 0, .slice ya 0 yb, .slice yc 0 yd, .slice ye 0 yf, .int .i64 0, .int .i64 0, .int .i64 0, .slice yg 0 yh] 74)) from (Below.refl _ _).alloc (Nat.le_refl _) _
      have k7 := below_then hb7 (Nat.le_refl _) hk7
      have d7 := below_then d6 (Nat.le_refl _) k7
      have z7 := below_then z6 (Nat.le_refl _) k7
      have HP1 := HP1.go k7
      obtain ⟨p0, p1, p2, p3, p4, p5, p6, p7, p8, p9, p10, p11⟩ := HP1.twelve
      obtain ⟨q0, q1, q2, q3, q4, q5, q6, q7, q8, q9, q10, q11⟩ := (HX.out _ z7).twelve
      have hM1 := ((hM1.below k6).more (Nat.le_trans hs5 k6.size)).go k7
      go_wp2_with fail
      refine (GM.out _ ⟨xa, xb, xc, xd, xe, xf, xg, xh⟩ L1 d7 hM1).mono ?_
      rintro e w9 ⟨rfl, hb9⟩
      have d3 := below_then d7 (Nat.le_refl _) hb9
      clear q0 q1 q2 q3 q4 q5 q6 q7 q8 q9 q10 q11
      clear p0 p1 p2 p3 p4 p5 p6 p7 p8 p9 p10 p11
      go_wp2_with fail
      refine (GB.out _ d3).mono ?_
      rintro e w10 ⟨⟨za, zb, zc, zd, ze, zf, zg, zh⟩, L3, rfl, hM3, hb10⟩
      have hk10 := show Below w10.heap.size w10 (w10.alloc (.cells #[.int .i64 kx, .int .i64 fx, .int .i64 tx, .int .i64 nx, .int .i64 qx, .slice za ix.length zb, .slice zc vx.length zd, .slice ze lx.length zf, .int .i64 ox, .int .i64 ax, .int .i64 bx, .slice zg bwx.length zh] 74)) from (Below.refl _ _).alloc (Nat.le_refl _) _
      have HP3 := Blk.new w10 74 #[.int .i64 kx, .int .i64 fx, .int .i64 tx, .int .i64 nx, .int .i64 qx, .slice za ix.length zb, .slice zc vx.length zd, .slice ze lx.length zf, .int .i64 ox, .int .i64 ax, .int .i64 bx, .slice zg bwx.length zh]
      have hM3 := hM3.go hk10
      have d10 := below_then d3 (Nat.le_refl _) (below_then hb10 (Nat.le_refl _) hk10)
      obtain ⟨s0, s1, s2, s3, s4, s5, s6, s7, s8, s9, s10, s11⟩ := HP3.twelve
      go_wp2_with fail
      refine (GP.out _ d10 ⟨za, zb, zc, zd, ze, zf, zg, zh⟩ L3 hM3).mono ?_
      rintro e w11 ⟨D11, c11, rfl, ho11, hb11⟩
      have d11 := below_then d10 (Nat.le_refl _) hb11
      go_wp2_with fail
      refine (GS.out _ _ _ d11 (Rd.of_own ho11)).mono ?_
      rintro e w12 ⟨rfl, rfl⟩
      go_wp2
      go_ret
      exact ⟨rfl, d11⟩
end Go.Proofs.YtndlcimckfndiaaDoor

