/- Walk: WireBodies: what AppendBody writes is the document's, and what Body reads is what the document's reader reads. -/
import Derived.Test.YtndlcimckfndiaaDoorWrY
namespace Go.Proofs.YtndlcimckfndiaaDoor
open Go.RowKit
set_option maxRecDepth 100000
theorem appBody_law (A Av : Option Addr) (n c cv : Nat) (l : List UInt8) (x : Wq.Bd) (w : World) (hl : l.length = n) (hR : Rd w w.heap.size 1 A n c (bv l)) (hR2 : Rd w w.heap.size 1 Av x.v.length cv (bv x.v)) (hc : x.s.1 < 9223372036854775808) (hn : n + 2400 ≤ 140737488355328) :
    Calls Tryd.prog 33 #[.slice A n c, .agg (bval x Av cv)] w fun e w' => ∃ A' N c' o, ∃ er : Int, e = .returned (.tuple #[.slice A' N c', .int .i64 er]) ∧ o.length = N ∧ Rd w' w'.heap.size 1 A' N c' (bv o) ∧ Below w.heap.size w w' ∧ behindV o l (Wq.lB x) er (Wq.bdF x) = true := by
  cases hf : Wq.bdF x with
  | false =>
    refine (appendBody_no A n c x Av cv w hf).mono ?_
    rintro e w' ⟨rfl, hb⟩
    exact ⟨none, 0, 0, [], 1, rfl, rfl, Rd.none_, hb, by simp [behindV]⟩
  | true =>
    refine (appendBody_any A n c l x Av cv w hl hR hR2 hf hc hn).mono ?_
    rintro e w' ⟨v, rfl, A', c', rfl, ho, hb⟩
    exact ⟨A', _, c', l ++ Wq.lB x, 0, rfl, rfl, Rd.of_own ho, hb, by simp [behindV]⟩

theorem refBody_law (g : Nat) (l : List UInt8) (bad : Bool) (hbad : bad = (Wq.pB l).isNone) (w : World) (h : RR w g l (some l)) (hn : l.length ≤ 140737488355328) :
    Calls Tryd.prog 34 #[.pointer (some ⟨g, 0, none⟩)] w fun e w' => ∃ (o a b : Int) (v : List UInt8) (A' : Option Addr) (c' : Nat), e = .returned (.agg #[.int .i64 o, .int .i64 a, .int .i64 b, .slice A' v.length c']) ∧ Rd w' w'.heap.size 1 A' v.length c' (bv v) ∧ But g w w' ∧
      ∃ A2 n2 c2, ∃ k : Int, Blk w' g 32 #[.slice A2 n2 c2, .int .i64 k, .bool bad] ∧ (bad = false → k = gK Wq.pB l ∧ (⟨o, (a, b), v⟩ : Wq.Bd) = gV Wq.pB Wq.bd0 l) := by
  refine (refRdBody_any g l (some l) w h hn).mono ?_
  rintro e w' ⟨⟨o, ⟨a, b⟩, v⟩, A', c', rfl, ho, hP, hu, hv⟩
  refine ⟨o, a, b, v, A', c', rfl, Rd.of_own ho, hu, ?_⟩
  cases hp : Wq.pB l with
  | none =>
    rw [hp] at hbad
    rw [st_no hp] at hP
    obtain ⟨A2, n2, c2, k, hB⟩ := hP
    subst hbad
    exact ⟨A2, n2, c2, k, hB, fun h => by cases h⟩
  | some q =>
    obtain ⟨v1, r⟩ := q
    rw [hp] at hbad
    obtain ⟨e3, e4⟩ := st_yes (d := Wq.bd0) hp
    rw [e3] at hP
    have hv := hv r e3
    rw [e4] at hv
    obtain ⟨A2, n2, c2, hB, _⟩ := hP
    obtain ⟨e1, e2, _⟩ := g_yes (d := Wq.bd0) hp
    subst hbad
    exact ⟨A2, n2, c2, _, hB, fun _ => ⟨by rw [e2], by rw [hv, e1]⟩⟩
theorem lB_small {x : Wq.Bd} (h : Wq.bdF x = true) (hc : x.s.1 < 9223372036854775808) : (Wq.lB x).length ≤ 2400 := by
  obtain ⟨h1, h2, h3, h4, h5, h6⟩ := (Wq.bdF_iff x).1 h
  have e1 : (Pk.lay x.o.toNat).length ≤ 9 := Pk.lay_len9 (by omega)
  have e2 : (Pk.lay x.s.2.toNat).length ≤ 9 := Pk.lay_len9 (by omega)
  have e3 : (Pk.lay x.s.1.toNat).length ≤ 9 := Pk.lay_len9 (by omega)
  have e4 : (Pk.lay x.v.length).length ≤ 9 := Pk.lay_len9 (by omega)
  simp only [Wq.lB, Wq.lR, List.length_append]
  omega

theorem rd_zero {w w' : World} {B B' c : Nat} {A : Option Addr} (h : Rd w B 1 A 0 c []) : Rd w' B' 1 A 0 c [] := ⟨rfl, h.cap, h.max, h.nil, fun hn => absurd hn (by omega)⟩
set_option maxHeartbeats 4000000 in
theorem wireBodies_walk (x : Wq.Bd) (Av A : Option Addr) (cv n c : Nat) (l : List UInt8) (w : World) (hR2 : Rd w w.heap.size 1 Av x.v.length cv (bv x.v)) (hc : x.s.1 < 9223372036854775808) (hl : l.length = n) (hR : Rd w w.heap.size 1 A n c (bv l)) (hn : n + 2400 ≤ 140737488355328) :
    Calls Tryd.prog 6 #[.agg (bval x Av cv), .slice A n c] w fun e w' => e = .returned (.bool true) ∧ Below w.heap.size w w' := by
  obtain ⟨bad, hbad⟩ : ∃ bad, bad = (Wq.pB l).isNone := ⟨_, rfl⟩
  obtain ⟨rt, hrt⟩ : ∃ rt, rt = Wq.bdF x := ⟨_, rfl⟩
  have GF := fun (W : World) => refBodyRight_any x Av cv W
  have GP := fun (W : World) (hb : Below w.heap.size w W) => appBody_law A Av n c cv l x W hl (hR.go hb) (hR2.go hb) hc hn
  rw [← hrt] at GF GP
  have GD := fun (W : World) (hb : Below w.heap.size w W) (hf : rt = true) => refBodyBytes_any x Av cv W (hR2.go hb) (hrt.symm.trans hf) hc
  have GR := fun (g : Nat) (W : World) (h : RR W g l (some l)) => refBody_law g l bad hbad W h (by omega)
  have GW := fun (W : World) (hb : Below w.heap.size w W) => wireBody_any A n c l W hl (hR.go hb) (by omega)
  have GA := Lib.hid fun (W : World) => aliveW_any W
  have GB := Lib.hid fun (W : World) (hb : Below w.heap.size w W) (A1 E : Option Addr) (n1 c1 k1 e1 : Nat) (o ds : List UInt8) (er : Int) (hlo : o.length = n1) (h1 : Rd W W.heap.size 1 A1 n1 c1 (bv o)) (h3 : Rd W W.heap.size 1 E k1 e1 (bv ds)) (hk : k1 ≤ 2400) (hv : behindV o l ds er rt = true) =>
    (behind_any A1 A E n1 c1 n c k1 e1 o l ds er rt W hlo h1 (hR.go hb) h3 (by omega)).mono fun e W' (h : e = .returned (.bool (behindV o l ds er rt)) ∧ Below W.heap.size W W') => (show e = .returned (.bool true) ∧ Below W.heap.size W W' from ⟨by rw [h.1, hv], h.2⟩)
  have HR := Lib.hid fun (W : World) (hb : Below w.heap.size w W) => (show RR (W.alloc (.cells #[.slice A n c, .int .i64 0, .bool false] 32)) W.heap.size l (some l) from ⟨A, n, c, by rw [Nat.sub_self]; exact Blk.new W _ _, (hR.go hb).below ((Below.refl _ _).alloc (Nat.le_refl _) _), hl, by simp, Nat.le_refl _⟩)
  have HB7 := Lib.hid fun (W : World) => (show Below W.heap.size W (W.alloc (.cells #[.slice A n c, .int .i64 0, .bool false] 32)) from (Below.refl _ _).alloc (Nat.le_refl _) _)
  have HDD : rt = true → (Wq.lB x).length ≤ 2400 := fun h => by subst h; exact lB_small hrt.symm hc
  have GV : (bad = true → gV Wq.pB Wq.bd0 l = Wq.bd0 ∧ (gK Wq.pB l : Int) = 0 ∧ (gE Wq.pB l : Int) = 4) ∧ (bad = false → (gE Wq.pB l : Int) = 0) := by
    cases hp : Wq.pB l with
    | none => rw [hp] at hbad; subst hbad; obtain ⟨e1, e2, e3⟩ := g_no (d := Wq.bd0) hp; exact ⟨fun _ => ⟨e1, by rw [e2]; rfl, by rw [e3]; rfl⟩, fun h => by cases h⟩
    | some q => obtain ⟨v1, r⟩ := q; rw [hp] at hbad; subst hbad; exact ⟨fun h => (by cases h), fun _ => by rw [(g_yes (d := Wq.bd0) hp).2.2]; rfl⟩
  obtain ⟨V, hV⟩ : ∃ V, V = gV Wq.pB Wq.bd0 l := ⟨_, rfl⟩
  obtain ⟨K, hK⟩ : ∃ K : Int, K = gK Wq.pB l := ⟨_, rfl⟩
  obtain ⟨E, hE⟩ : ∃ E : Int, E = gE Wq.pB l := ⟨_, rfl⟩
  rw [← hV, ← hK, ← hE] at GV
  rw [← hV, ← hK, ← hE] at GW
  rw [← hV, ← hK] at GR
  obtain ⟨lb, hlb⟩ : ∃ lb, lb = Wq.lB x := ⟨_, rfl⟩
  rw [← hlb] at GP GD HDD
  have HD := Lib.hid HDD
  clear HDD
  obtain ⟨xo, ⟨xa, xb⟩, xv⟩ := x
  obtain ⟨N, hN⟩ : ∃ N, N = xv.length := ⟨_, rfl⟩
  unfold bval at GF GP GD GW ⊢
  dsimp only at GF GP GD ⊢
  rw [← hN] at GF GP GD ⊢
  clear hbad hrt hR hR2 hl hn hV hK hE hlb hN hc
  have GF := Lib.hid GF
  have GP := Lib.hid GP
  have GD := Lib.hid GD
  have HX0 := Lib.hid (Blk.new w 63 #[.int .i64 xo, .int .i64 xa, .int .i64 xb, .slice Av N cv])
  have HD0 := Lib.hid (show Below w.heap.size w (w.alloc (.cells #[.int .i64 xo, .int .i64 xa, .int .i64 xb, .slice Av N cv] 63)) from (Below.refl _ _).alloc (Nat.le_refl _) _)
  cases rt with
  | false =>
    clear GD HD
    cases bad with
    | true =>
      obtain ⟨rfl, rfl, rfl⟩ := GV.1 rfl
      clear GV
      have GW := fun (W : World) (hb : Below w.heap.size w W) => (show Calls Tryd.prog 35 #[.slice A n c] W fun e w' => ∃ A' c', e = .returned (.tuple #[.agg #[.int .i64 0, .int .i64 0, .int .i64 0, .slice A' 0 c'], .int .i64 0, .int .i64 4]) ∧ w'.ownsRow W.heap.size 5 1 (.slice A' 0 c') 0 (bv []) ∧ Below W.heap.size W w' from GW W hb)
      have GR := Lib.hid GR
      have GW := Lib.hid GW
      go_enter Tryd.func6, Tryd.ntmps6
      go_wp2_with (first
        | (go_at_call 10; go_must (refine (GA.out _).mono ?_); rintro e w1 ⟨rfl, hb1⟩
           have hd1 := below_then HD0.out (Nat.le_refl _) hb1
           have hX1 := HX0.out.go hb1
           obtain ⟨q0, q1, q2, q3⟩ := hX1.four)
        | (go_at_call 31; go_must (refine (GF.out _).mono ?_); rintro e w2 ⟨rfl, hb2⟩
           have hd2 := below_then hd1 (Nat.le_refl _) hb2
           have hX2 := hX1.go hb2
           obtain ⟨r0, r1, r2, r3⟩ := hX2.four)
        | (go_at_call 33; go_must (refine (GP.out _ hd2).mono ?_); rintro e w4 ⟨A4, n4, c4, o, er, rfl, hlo, h4, hb4, hv4⟩
           have h3 : Rd w4 w4.heap.size 1 none 0 0 (bv []) := Rd.none_
           have hd4 := below_then hd2 (Nat.le_refl _) hb4)
        | (go_at_call 34; go_must (refine (GR.out _ _ (HR.out w4 hd4)).mono ?_); rintro e w5 ⟨o5, a5, b5, v5, A5, c5, rfl, h5, hu5, A6, n6, c6, k6, hB6, hk6⟩
           have hb5 : Below w4.heap.size w4 w5 := below_but (HB7.out w4) hu5 (by simp) (Nat.le_refl _)
           have hs6 := hB6.lt
           clear hk6
           have hb6 := below_then hb5 (Nat.le_refl _) (show Below w5.heap.size w5 (w5.alloc (.cells #[.int .i64 o5, .int .i64 a5, .int .i64 b5, .slice A5 v5.length c5] 63)) from (Below.refl _ _).alloc (Nat.le_refl _) _)
           have hT := Blk.new w5 63 #[.int .i64 o5, .int .i64 a5, .int .i64 b5, .slice A5 v5.length c5]
           have hB6 := hB6.alloc (.cells #[.int .i64 o5, .int .i64 a5, .int .i64 b5, .slice A5 v5.length c5] 63)
           have h5 := h5.go (show Below w5.heap.size w5 (w5.alloc (.cells #[.int .i64 o5, .int .i64 a5, .int .i64 b5, .slice A5 v5.length c5] 63)) from (Below.refl _ _).alloc (Nat.le_refl _) _)
           have hd6 := below_then hd4 (Nat.le_refl _) hb6
           have hs5 := hb5.size)
        | (go_at_call 35; go_must (refine (GW.out _ hd6).mono ?_); rintro e w7 ⟨A7, c7, rfl, ho7, hb7⟩
           have hk := show Below w7.heap.size w7 (w7.alloc (.cells #[.int .i64 0, .int .i64 0, .int .i64 0, .slice A7 0 c7] 63)) from (Below.refl _ _).alloc (Nat.le_refl _) _
           have hU := Blk.new w7 63 #[.int .i64 0, .int .i64 0, .int .i64 0, .slice A7 0 c7]
           have h7 := (Rd.of_own ho7).go hk
           have hb8 := below_then (below_then hb6 (Nat.le_refl _) hb7) (Nat.le_refl _) hk
           have hd8 := below_then (below_then hd6 (Nat.le_refl _) hb7) (Nat.le_refl _) hk
           have h5 := (h5.go hb7).go hk
           have hT := (hT.go hb7).go hk
           have hB6 := (hB6.go hb7).go hk
           have hs7 := hb7.size
           simp only [World.size_alloc] at hs7
           obtain ⟨z0, z1, z2, z3⟩ := hT.four
           have y0 := hT.frozen 0
           have y1 := hT.frozen 1
           have y2 := hT.frozen 2
           have y3 := hT.frozen 3
           have p2 := hB6.cell 2
           have hx : But w5.heap.size (w7.alloc (.cells #[.int .i64 0, .int .i64 0, .int .i64 0, .slice A7 0 c7] 63)) (((((w7.alloc (.cells #[.int .i64 0, .int .i64 0, .int .i64 0, .slice A7 0 c7] 63)).setCell ⟨w5.heap.size, 0, none⟩ (.int .i64 0)).setCell ⟨w5.heap.size, 1, none⟩ (.int .i64 0)).setCell ⟨w5.heap.size, 2, none⟩ (.int .i64 0)).setCell ⟨w5.heap.size, 3, none⟩ (.slice none 0 0)) :=
             (((But.set_ (g := w5.heap.size) _ (p := ⟨w5.heap.size, 0, none⟩) rfl _).trans (But.set_ (g := w5.heap.size) _ (p := ⟨w5.heap.size, 1, none⟩) rfl _)).trans (But.set_ (g := w5.heap.size) _ (p := ⟨w5.heap.size, 2, none⟩) rfl _)).trans (But.set_ (g := w5.heap.size) _ (p := ⟨w5.heap.size, 3, none⟩) rfl _)
           have hT := (((hT.set_ 0 (.int .i64 0)).set_ 1 (.int .i64 0)).set_ 2 (.int .i64 0)).set_ 3 (.slice none 0 0)
           have hU := hU.but hx (by omega)
           have hB6 := hB6.but hx (by omega)
           have h4 := h4.go (below_but hb8 hx (by simp; omega) (by omega))
           have h3 := h3.go (below_but hb8 hx (by simp; omega) (by omega))
           have hd8 := below_but hd8 hx (by have := HD0.out.size; have := hd4.size; simp; omega) (by have := hd4.size; omega)
           skip)
        | (go_at_call 16; go_must (refine (GB.out _ hd8 _ _ _ _ _ _ _ _ _ hlo h4 h3 (by omega) hv4).mono ?_); rintro e w9 ⟨rfl, hb9⟩
           have hT := hT.go hb9
           have hU := hU.go hb9
           have hB6 := hB6.go hb9
           obtain ⟨t0, t1, t2, t3⟩ := hT.four
           obtain ⟨u0, u1, u2, u3⟩ := hU.four
           have hd9 := below_then hd8 (Nat.le_refl _) hb9)
        | (go_at_call 17; go_must (refine (read_law _ _ _ _ _ _ _ _ _ hB6 (fun _ => ⟨rfl, rfl⟩) (fun h => by cases h)).mono ?_); rintro e w10 ⟨rfl, rfl⟩)
        | (go_at_call 36; go_must (refine (sameBody_self Wq.bd0 A7 none c7 0 _ (rd_zero h7) Rd.none_).mono ?_); rintro e w11 ⟨rfl, hb11⟩
           have hd10 := below_then hd9 (Nat.le_refl _) hb11)
        | fail)
      go_ret
      exact ⟨rfl, hd10⟩
    | false =>
      obtain rfl := GV.2 rfl
      clear GV
      obtain ⟨vo, ⟨va, vb⟩, vv⟩ := V
      have GW := fun (W : World) (hb : Below w.heap.size w W) => (show Calls Tryd.prog 35 #[.slice A n c] W fun e w' => ∃ A' c', e = .returned (.tuple #[.agg #[.int .i64 vo, .int .i64 va, .int .i64 vb, .slice A' vv.length c'], .int .i64 K, .int .i64 0]) ∧ w'.ownsRow W.heap.size 5 1 (.slice A' vv.length c') vv.length (bv vv) ∧ Below W.heap.size W w' from GW W hb)
      have GR := Lib.hid GR
      have GW := Lib.hid GW
      go_enter Tryd.func6, Tryd.ntmps6
      go_wp2_with (first
        | (go_at_call 10; go_must (refine (GA.out _).mono ?_); rintro e w1 ⟨rfl, hb1⟩
           have hd1 := below_then HD0.out (Nat.le_refl _) hb1
           have hX1 := HX0.out.go hb1
           obtain ⟨q0, q1, q2, q3⟩ := hX1.four)
        | (go_at_call 31; go_must (refine (GF.out _).mono ?_); rintro e w2 ⟨rfl, hb2⟩
           have hd2 := below_then hd1 (Nat.le_refl _) hb2
           have hX2 := hX1.go hb2
           obtain ⟨r0, r1, r2, r3⟩ := hX2.four)
        | (go_at_call 33; go_must (refine (GP.out _ hd2).mono ?_); rintro e w4 ⟨A4, n4, c4, o, er, rfl, hlo, h4, hb4, hv4⟩
           have h3 : Rd w4 w4.heap.size 1 none 0 0 (bv []) := Rd.none_
           have hd4 := below_then hd2 (Nat.le_refl _) hb4)
        | (go_at_call 34; go_must (refine (GR.out _ _ (HR.out w4 hd4)).mono ?_); rintro e w5 ⟨o5, a5, b5, v5, A5, c5, rfl, h5, hu5, A6, n6, c6, k6, hB6, hk6⟩
           have hb5 : Below w4.heap.size w4 w5 := below_but (HB7.out w4) hu5 (by simp) (Nat.le_refl _)
           have hs6 := hB6.lt
           obtain ⟨rfl, hk7⟩ := hk6 (by simp)
           obtain ⟨rfl, hk8⟩ := Wq.Bd.mk.inj hk7
           obtain ⟨hk9, rfl⟩ := hk8
           obtain ⟨rfl, rfl⟩ := Prod.mk.inj hk9
           clear hk6 hk7 hk9
           have hb6 := below_then hb5 (Nat.le_refl _) (show Below w5.heap.size w5 (w5.alloc (.cells #[.int .i64 o5, .int .i64 a5, .int .i64 b5, .slice A5 v5.length c5] 63)) from (Below.refl _ _).alloc (Nat.le_refl _) _)
           have hT := Blk.new w5 63 #[.int .i64 o5, .int .i64 a5, .int .i64 b5, .slice A5 v5.length c5]
           have hB6 := hB6.alloc (.cells #[.int .i64 o5, .int .i64 a5, .int .i64 b5, .slice A5 v5.length c5] 63)
           have h5 := h5.go (show Below w5.heap.size w5 (w5.alloc (.cells #[.int .i64 o5, .int .i64 a5, .int .i64 b5, .slice A5 v5.length c5] 63)) from (Below.refl _ _).alloc (Nat.le_refl _) _)
           have hd6 := below_then hd4 (Nat.le_refl _) hb6
           have hs5 := hb5.size)
        | (go_at_call 35; go_must (refine (GW.out _ hd6).mono ?_); rintro e w7 ⟨A7, c7, rfl, ho7, hb7⟩
           have hk := show Below w7.heap.size w7 (w7.alloc (.cells #[.int .i64 o5, .int .i64 a5, .int .i64 b5, .slice A7 v5.length c7] 63)) from (Below.refl _ _).alloc (Nat.le_refl _) _
           have hU := Blk.new w7 63 #[.int .i64 o5, .int .i64 a5, .int .i64 b5, .slice A7 v5.length c7]
           have h7 := (Rd.of_own ho7).go hk
           have hb8 := below_then (below_then hb6 (Nat.le_refl _) hb7) (Nat.le_refl _) hk
           have hd8 := below_then (below_then hd6 (Nat.le_refl _) hb7) (Nat.le_refl _) hk
           have h5 := (h5.go hb7).go hk
           have hT := (hT.go hb7).go hk
           have hB6 := (hB6.go hb7).go hk
           have hs7 := hb7.size
           simp only [World.size_alloc] at hs7
           have p2 := hB6.cell 2
           have h4 := h4.go hb8
           have h3 := h3.go hb8
           skip)
        | (go_at_call 16; go_must (refine (GB.out _ hd8 _ _ _ _ _ _ _ _ _ hlo h4 h3 (by omega) hv4).mono ?_); rintro e w9 ⟨rfl, hb9⟩
           have hT := hT.go hb9
           have hU := hU.go hb9
           have hB6 := hB6.go hb9
           obtain ⟨t0, t1, t2, t3⟩ := hT.four
           obtain ⟨u0, u1, u2, u3⟩ := hU.four
           have h5 := h5.go hb9
           have h7 := h7.go hb9
           have hd9 := below_then hd8 (Nat.le_refl _) hb9)
        | (go_at_call 17; go_must (refine (read_law _ _ _ _ _ _ _ _ _ hB6 (fun h => by cases h) (fun _ => ⟨rfl, rfl⟩)).mono ?_); rintro e w10 ⟨rfl, rfl⟩)
        | (go_at_call 36; go_must (refine (sameBody_self ⟨o5, (a5, b5), v5⟩ A7 A5 c7 c5 _ h7 h5).mono ?_); rintro e w11 ⟨rfl, hb11⟩
           have hd10 := below_then hd9 (Nat.le_refl _) hb11)
        | fail)
      go_ret
      exact ⟨rfl, hd10⟩
  | true =>
    cases bad with
    | true =>
      obtain ⟨rfl, rfl, rfl⟩ := GV.1 rfl
      clear GV
      have GW := fun (W : World) (hb : Below w.heap.size w W) => (show Calls Tryd.prog 35 #[.slice A n c] W fun e w' => ∃ A' c', e = .returned (.tuple #[.agg #[.int .i64 0, .int .i64 0, .int .i64 0, .slice A' 0 c'], .int .i64 0, .int .i64 4]) ∧ w'.ownsRow W.heap.size 5 1 (.slice A' 0 c') 0 (bv []) ∧ Below W.heap.size W w' from GW W hb)
      have GR := Lib.hid GR
      have GW := Lib.hid GW
      go_enter Tryd.func6, Tryd.ntmps6
      go_wp2_with (first
        | (go_at_call 10; go_must (refine (GA.out _).mono ?_); rintro e w1 ⟨rfl, hb1⟩
           have hd1 := below_then HD0.out (Nat.le_refl _) hb1
           have hX1 := HX0.out.go hb1
           obtain ⟨q0, q1, q2, q3⟩ := hX1.four)
        | (go_at_call 31; go_must (refine (GF.out _).mono ?_); rintro e w2 ⟨rfl, hb2⟩
           have hd2 := below_then hd1 (Nat.le_refl _) hb2
           have hX2 := hX1.go hb2
           obtain ⟨r0, r1, r2, r3⟩ := hX2.four)
        | (go_at_call 32; go_must (refine (GD.out _ hd2 (by simp)).mono ?_); rintro e w3 ⟨v3, rfl, A3, c3, rfl, ho3, hb3⟩
           have h3 := Rd.of_own ho3
           have hX3 := hX2.go hb3
           obtain ⟨s0, s1, s2, s3⟩ := hX3.four
           have hd3 := below_then hd2 (Nat.le_refl _) hb3)
        | (go_at_call 33; go_must (refine (GP.out _ hd3).mono ?_); rintro e w4 ⟨A4, n4, c4, o, er, rfl, hlo, h4, hb4, hv4⟩
           have h3 := h3.go hb4
           have hd4 := below_then hd3 (Nat.le_refl _) hb4)
        | (go_at_call 34; go_must (refine (GR.out _ _ (HR.out w4 hd4)).mono ?_); rintro e w5 ⟨o5, a5, b5, v5, A5, c5, rfl, h5, hu5, A6, n6, c6, k6, hB6, hk6⟩
           have hb5 : Below w4.heap.size w4 w5 := below_but (HB7.out w4) hu5 (by simp) (Nat.le_refl _)
           have hs6 := hB6.lt
           clear hk6
           have hb6 := below_then hb5 (Nat.le_refl _) (show Below w5.heap.size w5 (w5.alloc (.cells #[.int .i64 o5, .int .i64 a5, .int .i64 b5, .slice A5 v5.length c5] 63)) from (Below.refl _ _).alloc (Nat.le_refl _) _)
           have hT := Blk.new w5 63 #[.int .i64 o5, .int .i64 a5, .int .i64 b5, .slice A5 v5.length c5]
           have hB6 := hB6.alloc (.cells #[.int .i64 o5, .int .i64 a5, .int .i64 b5, .slice A5 v5.length c5] 63)
           have h5 := h5.go (show Below w5.heap.size w5 (w5.alloc (.cells #[.int .i64 o5, .int .i64 a5, .int .i64 b5, .slice A5 v5.length c5] 63)) from (Below.refl _ _).alloc (Nat.le_refl _) _)
           have hd6 := below_then hd4 (Nat.le_refl _) hb6
           have hs5 := hb5.size)
        | (go_at_call 35; go_must (refine (GW.out _ hd6).mono ?_); rintro e w7 ⟨A7, c7, rfl, ho7, hb7⟩
           have hk := show Below w7.heap.size w7 (w7.alloc (.cells #[.int .i64 0, .int .i64 0, .int .i64 0, .slice A7 0 c7] 63)) from (Below.refl _ _).alloc (Nat.le_refl _) _
           have hU := Blk.new w7 63 #[.int .i64 0, .int .i64 0, .int .i64 0, .slice A7 0 c7]
           have h7 := (Rd.of_own ho7).go hk
           have hb8 := below_then (below_then hb6 (Nat.le_refl _) hb7) (Nat.le_refl _) hk
           have hd8 := below_then (below_then hd6 (Nat.le_refl _) hb7) (Nat.le_refl _) hk
           have h5 := (h5.go hb7).go hk
           have hT := (hT.go hb7).go hk
           have hB6 := (hB6.go hb7).go hk
           have hs7 := hb7.size
           simp only [World.size_alloc] at hs7
           obtain ⟨z0, z1, z2, z3⟩ := hT.four
           have y0 := hT.frozen 0
           have y1 := hT.frozen 1
           have y2 := hT.frozen 2
           have y3 := hT.frozen 3
           have p2 := hB6.cell 2
           have hx : But w5.heap.size (w7.alloc (.cells #[.int .i64 0, .int .i64 0, .int .i64 0, .slice A7 0 c7] 63)) (((((w7.alloc (.cells #[.int .i64 0, .int .i64 0, .int .i64 0, .slice A7 0 c7] 63)).setCell ⟨w5.heap.size, 0, none⟩ (.int .i64 0)).setCell ⟨w5.heap.size, 1, none⟩ (.int .i64 0)).setCell ⟨w5.heap.size, 2, none⟩ (.int .i64 0)).setCell ⟨w5.heap.size, 3, none⟩ (.slice none 0 0)) :=
             (((But.set_ (g := w5.heap.size) _ (p := ⟨w5.heap.size, 0, none⟩) rfl _).trans (But.set_ (g := w5.heap.size) _ (p := ⟨w5.heap.size, 1, none⟩) rfl _)).trans (But.set_ (g := w5.heap.size) _ (p := ⟨w5.heap.size, 2, none⟩) rfl _)).trans (But.set_ (g := w5.heap.size) _ (p := ⟨w5.heap.size, 3, none⟩) rfl _)
           have hT := (((hT.set_ 0 (.int .i64 0)).set_ 1 (.int .i64 0)).set_ 2 (.int .i64 0)).set_ 3 (.slice none 0 0)
           have hU := hU.but hx (by omega)
           have hB6 := hB6.but hx (by omega)
           have h4 := h4.go (below_but hb8 hx (by simp; omega) (by omega))
           have h3 := h3.go (below_but hb8 hx (by simp; omega) (by omega))
           have hd8 := below_but hd8 hx (by have := HD0.out.size; have := hd4.size; simp; omega) (by have := hd4.size; omega)
           skip)
        | (go_at_call 16; go_must (refine (GB.out _ hd8 _ _ _ _ _ _ _ _ _ hlo h4 h3 (HD.out (by simp)) hv4).mono ?_); rintro e w9 ⟨rfl, hb9⟩
           have hT := hT.go hb9
           have hU := hU.go hb9
           have hB6 := hB6.go hb9
           obtain ⟨t0, t1, t2, t3⟩ := hT.four
           obtain ⟨u0, u1, u2, u3⟩ := hU.four
           have hd9 := below_then hd8 (Nat.le_refl _) hb9)
        | (go_at_call 17; go_must (refine (read_law _ _ _ _ _ _ _ _ _ hB6 (fun _ => ⟨rfl, rfl⟩) (fun h => by cases h)).mono ?_); rintro e w10 ⟨rfl, rfl⟩)
        | (go_at_call 36; go_must (refine (sameBody_self Wq.bd0 A7 none c7 0 _ (rd_zero h7) Rd.none_).mono ?_); rintro e w11 ⟨rfl, hb11⟩
           have hd10 := below_then hd9 (Nat.le_refl _) hb11)
        | fail)
      go_ret
      exact ⟨rfl, hd10⟩
    | false =>
      obtain rfl := GV.2 rfl
      clear GV
      obtain ⟨vo, ⟨va, vb⟩, vv⟩ := V
      have GW := fun (W : World) (hb : Below w.heap.size w W) => (show Calls Tryd.prog 35 #[.slice A n c] W fun e w' => ∃ A' c', e = .returned (.tuple #[.agg #[.int .i64 vo, .int .i64 va, .int .i64 vb, .slice A' vv.length c'], .int .i64 K, .int .i64 0]) ∧ w'.ownsRow W.heap.size 5 1 (.slice A' vv.length c') vv.length (bv vv) ∧ Below W.heap.size W w' from GW W hb)
      have GR := Lib.hid GR
      have GW := Lib.hid GW
      go_enter Tryd.func6, Tryd.ntmps6
      go_wp2_with (first
        | (go_at_call 10; go_must (refine (GA.out _).mono ?_); rintro e w1 ⟨rfl, hb1⟩
           have hd1 := below_then HD0.out (Nat.le_refl _) hb1
           have hX1 := HX0.out.go hb1
           obtain ⟨q0, q1, q2, q3⟩ := hX1.four)
        | (go_at_call 31; go_must (refine (GF.out _).mono ?_); rintro e w2 ⟨rfl, hb2⟩
           have hd2 := below_then hd1 (Nat.le_refl _) hb2
           have hX2 := hX1.go hb2
           obtain ⟨r0, r1, r2, r3⟩ := hX2.four)
        | (go_at_call 32; go_must (refine (GD.out _ hd2 (by simp)).mono ?_); rintro e w3 ⟨v3, rfl, A3, c3, rfl, ho3, hb3⟩
           have h3 := Rd.of_own ho3
           have hX3 := hX2.go hb3
           obtain ⟨s0, s1, s2, s3⟩ := hX3.four
           have hd3 := below_then hd2 (Nat.le_refl _) hb3)
        | (go_at_call 33; go_must (refine (GP.out _ hd3).mono ?_); rintro e w4 ⟨A4, n4, c4, o, er, rfl, hlo, h4, hb4, hv4⟩
           have h3 := h3.go hb4
           have hd4 := below_then hd3 (Nat.le_refl _) hb4)
        | (go_at_call 34; go_must (refine (GR.out _ _ (HR.out w4 hd4)).mono ?_); rintro e w5 ⟨o5, a5, b5, v5, A5, c5, rfl, h5, hu5, A6, n6, c6, k6, hB6, hk6⟩
           have hb5 : Below w4.heap.size w4 w5 := below_but (HB7.out w4) hu5 (by simp) (Nat.le_refl _)
           have hs6 := hB6.lt
           obtain ⟨rfl, hk7⟩ := hk6 (by simp)
           obtain ⟨rfl, hk8⟩ := Wq.Bd.mk.inj hk7
           obtain ⟨hk9, rfl⟩ := hk8
           obtain ⟨rfl, rfl⟩ := Prod.mk.inj hk9
           clear hk6 hk7 hk9
           have hb6 := below_then hb5 (Nat.le_refl _) (show Below w5.heap.size w5 (w5.alloc (.cells #[.int .i64 o5, .int .i64 a5, .int .i64 b5, .slice A5 v5.length c5] 63)) from (Below.refl _ _).alloc (Nat.le_refl _) _)
           have hT := Blk.new w5 63 #[.int .i64 o5, .int .i64 a5, .int .i64 b5, .slice A5 v5.length c5]
           have hB6 := hB6.alloc (.cells #[.int .i64 o5, .int .i64 a5, .int .i64 b5, .slice A5 v5.length c5] 63)
           have h5 := h5.go (show Below w5.heap.size w5 (w5.alloc (.cells #[.int .i64 o5, .int .i64 a5, .int .i64 b5, .slice A5 v5.length c5] 63)) from (Below.refl _ _).alloc (Nat.le_refl _) _)
           have hd6 := below_then hd4 (Nat.le_refl _) hb6
           have hs5 := hb5.size)
        | (go_at_call 35; go_must (refine (GW.out _ hd6).mono ?_); rintro e w7 ⟨A7, c7, rfl, ho7, hb7⟩
           have hk := show Below w7.heap.size w7 (w7.alloc (.cells #[.int .i64 o5, .int .i64 a5, .int .i64 b5, .slice A7 v5.length c7] 63)) from (Below.refl _ _).alloc (Nat.le_refl _) _
           have hU := Blk.new w7 63 #[.int .i64 o5, .int .i64 a5, .int .i64 b5, .slice A7 v5.length c7]
           have h7 := (Rd.of_own ho7).go hk
           have hb8 := below_then (below_then hb6 (Nat.le_refl _) hb7) (Nat.le_refl _) hk
           have hd8 := below_then (below_then hd6 (Nat.le_refl _) hb7) (Nat.le_refl _) hk
           have h5 := (h5.go hb7).go hk
           have hT := (hT.go hb7).go hk
           have hB6 := (hB6.go hb7).go hk
           have hs7 := hb7.size
           simp only [World.size_alloc] at hs7
           have p2 := hB6.cell 2
           have h4 := h4.go hb8
           have h3 := h3.go hb8
           skip)
        | (go_at_call 16; go_must (refine (GB.out _ hd8 _ _ _ _ _ _ _ _ _ hlo h4 h3 (HD.out (by simp)) hv4).mono ?_); rintro e w9 ⟨rfl, hb9⟩
           have hT := hT.go hb9
           have hU := hU.go hb9
           have hB6 := hB6.go hb9
           obtain ⟨t0, t1, t2, t3⟩ := hT.four
           obtain ⟨u0, u1, u2, u3⟩ := hU.four
           have h5 := h5.go hb9
           have h7 := h7.go hb9
           have hd9 := below_then hd8 (Nat.le_refl _) hb9)
        | (go_at_call 17; go_must (refine (read_law _ _ _ _ _ _ _ _ _ hB6 (fun h => by cases h) (fun _ => ⟨rfl, rfl⟩)).mono ?_); rintro e w10 ⟨rfl, rfl⟩)
        | (go_at_call 36; go_must (refine (sameBody_self ⟨o5, (a5, b5), v5⟩ A7 A5 c7 c5 _ h7 h5).mono ?_); rintro e w11 ⟨rfl, hb11⟩
           have hd10 := below_then hd9 (Nat.le_refl _) hb11)
        | fail)
      go_ret
      exact ⟨rfl, hd10⟩
end Go.Proofs.YtndlcimckfndiaaDoor
