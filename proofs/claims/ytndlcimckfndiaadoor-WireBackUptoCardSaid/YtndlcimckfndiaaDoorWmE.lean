/- Walk: WireNotes: what AppendNote writes is the document's, and what Note reads is what the document's reader reads. -/
import Derived.Test.YtndlcimckfndiaaDoorWmC
import Derived.Test.YtndlcimckfndiaaDoorWmD
import Derived.Test.YtndlcimckfndiaaDoorWrZ
import Derived.Test.YtndlcimckfndiaaDoorWrO
namespace Go.Proofs.YtndlcimckfndiaaDoor
open Go.RowKit
set_option maxRecDepth 100000
theorem appNote_law (A : Option Addr) (n c : Nat) (l : List UInt8) (v : NV) (x : Nt) (w : World) (hT : Tab w) (hl : l.length = n) (hR : Rd w w.heap.size 1 A n c (bv l)) (hN : NtRd w w.heap.size v x) (hc : Wq.ntC x) (hn : n + 20000 ≤ 140737488355328) :
    Calls Tryd.prog 27 #[.slice A n c, .agg v.val] w fun e w' => ∃ A' N c' o, ∃ er : Int, e = .returned (.tuple #[.slice A' N c', .int .i64 er]) ∧ o.length = N ∧ Rd w' w'.heap.size 1 A' N c' (bv o) ∧ Below w.heap.size w w' ∧ behindV o l (Wq.lNt x) er (ntF x) = true := by
  cases hf : ntF x with
  | false =>
    refine (appendNote_no A n c v x w hT hN hf).mono ?_
    rintro e w' ⟨rfl, hb⟩
    exact ⟨none, 0, 0, [], 1, rfl, rfl, Rd.none_, hb, by simp [behindV]⟩
  | true =>
    refine (appendNote_any A n c l v x w hT hl hR hN hf hc hn).mono ?_
    rintro e w' ⟨v, rfl, A', c', rfl, ho, hb⟩
    exact ⟨A', _, c', l ++ Wq.lNt x, 0, rfl, rfl, Rd.of_own ho, hb, by simp [behindV]⟩

def nt0 : Nt := ⟨[], [], [], []⟩
theorem nt0_rd {w : World} {B : Nat} : NtRd w B NV0 nt0 := ⟨rfl, Rd.none_, rfl, Rd.none_, rfl, Rd.none_, rfl, Rd.none_⟩
theorem refNote_law (g : Nat) (l : List UInt8) (bad : Bool) (hbad : bad = (Wq.pNt l).isNone) (w : World) (h : RR w g l (some l)) (hn : l.length ≤ 4294967296) :
    Calls Tryd.prog 28 #[.pointer (some ⟨g, 0, none⟩)] w fun e w' => ∃ (v : NV) (x : Nt), e = .returned (.agg v.val) ∧ NtRd w' w'.heap.size v x ∧ But g w w' ∧
      ∃ A2 n2 c2, ∃ k : Int, Blk w' g 32 #[.slice A2 n2 c2, .int .i64 k, .bool bad] ∧ (bad = false → k = gK Wq.pNt l ∧ x = gV Wq.pNt nt0 l) := by
  refine (refRdNote_any g l (some l) w h hn).mono ?_
  rintro e w' ⟨v, rfl, x, ho, hP, hu, hv⟩
  refine ⟨v, x, rfl, ho.rd, hu, ?_⟩
  cases hp : Wq.pNt l with
  | none =>
    rw [hp] at hbad
    rw [st_no hp] at hP
    obtain ⟨A2, n2, c2, k, hB⟩ := hP
    subst hbad
    exact ⟨A2, n2, c2, k, hB, fun h => by cases h⟩
  | some q =>
    obtain ⟨v1, r⟩ := q
    rw [hp] at hbad
    obtain ⟨e3, e4⟩ := st_yes (d := nt0) hp
    rw [e3] at hP
    have hv := hv r e3
    have hv : x = Wq.vl Wq.pNt nt0 (some l) := hv
    rw [e4] at hv
    obtain ⟨A2, n2, c2, hB, _⟩ := hP
    obtain ⟨e1, e2, _⟩ := g_yes (d := nt0) hp
    subst hbad
    exact ⟨A2, n2, c2, _, hB, fun _ => ⟨by rw [e2], by rw [hv, e1]⟩⟩
theorem rd_zeroN {w w' : World} {B B' size c : Nat} {A : Option Addr} (h : Rd w B size A 0 c []) : Rd w' B' size A 0 c [] := ⟨by simp, h.cap, h.max, h.nil, fun hn => absurd hn (by omega)⟩
/-- An empty note reads as such in every world. -/
theorem nt0_gone {w : World} {B : Nat} {v : NV} (h : NtRd w B v nt0) : ∀ w' B', NtRd w' B' v nt0 := by
  obtain ⟨A1, n1, c1, A2, n2, c2, A3, n3, c3, A4, n4, c4⟩ := v
  obtain ⟨l1, r1, l2, r2, l3, r3, l4, r4⟩ := h
  dsimp only [nt0, List.length_nil] at l1 r1 l2 r2 l3 r3 l4 r4
  subst l1 l2 l3 l4
  exact fun w' B' => ⟨rfl, rd_zeroN r1, rfl, rd_zeroN r2, rfl, rd_zeroN r3, rfl, rd_zeroN r4⟩
theorem ntSame_law (v v' : NV) (x : Nt) (w : World) (h1 : NtRd w w.heap.size v x) (h2 : NtRd w w.heap.size v' x) :
    Calls Tryd.prog 30 #[.agg v.val, .agg v'.val] w fun e w' => e = .returned (.bool true) ∧ Below w.heap.size w w' := by
  refine (refNtSame_any v v' x x w h1 h2).mono ?_
  rintro e w' ⟨rfl, hb⟩
  exact ⟨by rw [ntSame_self], hb⟩
theorem lNt_small {x : Nt} (h : ntF x = true) (hc : Wq.ntC x) : (Wq.lNt x).length ≤ 20000 := by
  obtain ⟨h1, h2, h3, h4⟩ := Wq.ntF_parts h
  have e1 := lV_len h1 hc.1
  have e2 := lV_len h2 hc.2.1
  have e3 := Wq.lS_len h3
  have e4 := Wq.ntW_len h4
  have e5 : (Pk.lay x.w.length).length ≤ 9 := Pk.lay_len9 (by omega)
  have e6 : ∀ u : List Wr, (∀ t ∈ u, Wq.wU t) → (Wq.lW u).length ≤ 36 * u.length := by
    intro u
    induction u with
    | nil => intro _; simp [Wq.lW]
    | cons t r ih =>
      intro hs
      have a := hs t (by simp)
      have a1 := u63_len a.1
      have a2 := u63_len a.2.1
      have a3 := u63_len a.2.2
      have a4 : (Pk.lay (Wq.gn t.2.2)).length ≤ 9 := Pk.lay_len9 (by unfold Wq.gn; split <;> omega)
      have a5 := ih fun t ht => hs t (by simp [ht])
      rw [Wq.lW_cons, List.length_append, List.length_cons]
      simp only [Wq.lW1, List.length_append]
      omega
  have e7 := e6 x.w (Wq.ntW_u h hc)
  simp only [Wq.lNt, List.length_append]
  omega

set_option maxHeartbeats 4000000 in
theorem wireNotes_walk (v : NV) (x : Nt) (A : Option Addr) (n c : Nat) (l : List UInt8) (w : World) (hT : Tab w) (hN : NtRd w w.heap.size v x) (hc : Wq.ntC x) (hl : l.length = n) (hR : Rd w w.heap.size 1 A n c (bv l)) (hn : n ≤ 4294967296) :
    Calls Tryd.prog 5 #[.agg v.val, .slice A n c] w fun e w' => e = .returned (.bool true) ∧ Below w.heap.size w w' := by
  obtain ⟨bad, hbad⟩ : ∃ bad, bad = (Wq.pNt l).isNone := ⟨_, rfl⟩
  obtain ⟨rt, hrt⟩ : ∃ rt, rt = ntF x := ⟨_, rfl⟩
  have GF := fun (W : World) (hb : Below w.heap.size w W) => refNoteFormed_any v x W (hN.go hb)
  have GP := fun (W : World) (hb : Below w.heap.size w W) => appNote_law A n c l v x W (hT.below hb) hl (hR.go hb) (hN.go hb) hc (by omega)
  rw [← hrt] at GF GP
  have GD := fun (W : World) (hb : Below w.heap.size w W) (hf : rt = true) => refNoteBytes_any v x W (hN.go hb) (hrt.symm.trans hf) hc
  have GR := fun (g : Nat) (W : World) (h : RR W g l (some l)) => refNote_law g l bad hbad W h (by omega)
  have GW := fun (W : World) (hb : Below w.heap.size w W) => (wireNote_any A n c l W (hT.below hb) hl (hR.go hb) (by omega)).mono fun e W' h => (show ∃ v : NV, e = .returned (.tuple #[.agg v.val, .int .i64 (gK Wq.pNt l), .int .i64 (gE Wq.pNt l)]) ∧ NtRd W' W'.heap.size v (gV Wq.pNt nt0 l) ∧ Below W.heap.size W W' from by obtain ⟨v, h1, h2, h3⟩ := h; exact ⟨v, h1, h2.rd, h3⟩)
  have GA := Lib.hid fun (W : World) => aliveW_any W
  have GB := Lib.hid fun (W : World) (hb : Below w.heap.size w W) (A1 E : Option Addr) (n1 c1 k1 e1 : Nat) (o ds : List UInt8) (er : Int) (hlo : o.length = n1) (h1 : Rd W W.heap.size 1 A1 n1 c1 (bv o)) (h3 : Rd W W.heap.size 1 E k1 e1 (bv ds)) (hk : k1 ≤ 20000) (hv : behindV o l ds er rt = true) =>
    (behind_any A1 A E n1 c1 n c k1 e1 o l ds er rt W hlo h1 (hR.go hb) h3 (by omega)).mono fun e W' (h : e = .returned (.bool (behindV o l ds er rt)) ∧ Below W.heap.size W W') => (show e = .returned (.bool true) ∧ Below W.heap.size W W' from ⟨by rw [h.1, hv], h.2⟩)
  have HR := Lib.hid fun (W : World) (hb : Below w.heap.size w W) => (show RR (W.alloc (.cells #[.slice A n c, .int .i64 0, .bool false] 32)) W.heap.size l (some l) from ⟨A, n, c, by rw [Nat.sub_self]; exact Blk.new W _ _, (hR.go hb).below ((Below.refl _ _).alloc (Nat.le_refl _) _), hl, by simp, Nat.le_refl _⟩)
  have HB7 := Lib.hid fun (W : World) => (show Below W.heap.size W (W.alloc (.cells #[.slice A n c, .int .i64 0, .bool false] 32)) from (Below.refl _ _).alloc (Nat.le_refl _) _)
  have HDD : rt = true → (Wq.lNt x).length ≤ 20000 := fun h => by subst h; exact lNt_small hrt.symm hc
  have GV : (bad = true → gV Wq.pNt nt0 l = nt0 ∧ (gK Wq.pNt l : Int) = 0 ∧ (gE Wq.pNt l : Int) = 4) ∧ (bad = false → (gE Wq.pNt l : Int) = 0) := by
    cases hp : Wq.pNt l with
    | none => rw [hp] at hbad; subst hbad; obtain ⟨e1, e2, e3⟩ := g_no (d := nt0) hp; exact ⟨fun _ => ⟨e1, by rw [e2]; rfl, by rw [e3]; rfl⟩, fun h => by cases h⟩
    | some q => obtain ⟨v1, r⟩ := q; rw [hp] at hbad; subst hbad; exact ⟨fun h => (by cases h), fun _ => by rw [(g_yes (d := nt0) hp).2.2]; rfl⟩
  obtain ⟨V, hV⟩ : ∃ V, V = gV Wq.pNt nt0 l := ⟨_, rfl⟩
  obtain ⟨K, hK⟩ : ∃ K : Int, K = gK Wq.pNt l := ⟨_, rfl⟩
  obtain ⟨E, hE⟩ : ∃ E : Int, E = gE Wq.pNt l := ⟨_, rfl⟩
  rw [← hV, ← hK, ← hE] at GV
  rw [← hV, ← hK, ← hE] at GW
  rw [← hV, ← hK] at GR
  obtain ⟨lb, hlb⟩ : ∃ lb, lb = Wq.lNt x := ⟨_, rfl⟩
  rw [← hlb] at GP GD HDD
  have HD := Lib.hid HDD
  clear HDD
  obtain ⟨B1, bn1, bc1, B2, bn2, bc2, B3, bn3, bc3, B4, bn4, bc4⟩ := v
  dsimp only [NV.val] at GF GP GD ⊢
  clear hbad hrt hR hN hl hn hV hK hE hlb hc hT
  have GF := Lib.hid GF
  have GP := Lib.hid GP
  have GD := Lib.hid GD
  have HX0 := Lib.hid (Blk.new w 51 #[.slice B1 bn1 bc1, .slice B2 bn2 bc2, .slice B3 bn3 bc3, .slice B4 bn4 bc4])
  have HD0 := Lib.hid (show Below w.heap.size w (w.alloc (.cells #[.slice B1 bn1 bc1, .slice B2 bn2 bc2, .slice B3 bn3 bc3, .slice B4 bn4 bc4] 51)) from (Below.refl _ _).alloc (Nat.le_refl _) _)
  cases rt with
  | false =>
    clear GD HD
    cases bad with
    | true =>
      obtain ⟨rfl, rfl, rfl⟩ := GV.1 rfl
      clear GV
      have GR := Lib.hid GR
      have GW := Lib.hid GW
      go_enter Tryd.func5, Tryd.ntmps5
      go_wp2_with (first
        | (go_at_call 10; go_must (refine (GA.out _).mono ?_); rintro e w1 ⟨rfl, hb1⟩
           have hd1 := below_then HD0.out (Nat.le_refl _) hb1
           have hX1 := HX0.out.go hb1
           obtain ⟨q0, q1, q2, q3⟩ := hX1.four)
        | (go_at_call 25; go_must (refine (GF.out _ hd1).mono ?_); rintro e w2 ⟨rfl, hb2⟩
           have hd2 := below_then hd1 (Nat.le_refl _) hb2
           have hX2 := hX1.go hb2
           obtain ⟨r0, r1, r2, r3⟩ := hX2.four)
        | (go_at_call 27; go_must (refine (GP.out _ hd2).mono ?_); rintro e w4 ⟨A4, n4, c4, o, er, rfl, hlo, h4, hb4, hv4⟩
           have h3 : Rd w4 w4.heap.size 1 none 0 0 (bv []) := Rd.none_
           have hd4 := below_then hd2 (Nat.le_refl _) hb4)
        | (go_at_call 28; go_must (refine (GR.out _ _ (HR.out w4 hd4)).mono ?_); rintro e w5 ⟨⟨T1, tn1, tc1, T2, tn2, tc2, T3, tn3, tc3, T4, tn4, tc4⟩, x5, rfl, h5, hu5, A6, n6, c6, k6, hB6, hk6⟩
           have hb5 : Below w4.heap.size w4 w5 := below_but (HB7.out w4) hu5 (by simp) (Nat.le_refl _)
           have hs6 := hB6.lt
           clear hk6
           have hb6 := below_then hb5 (Nat.le_refl _) (show Below w5.heap.size w5 (w5.alloc (.cells #[.slice T1 tn1 tc1, .slice T2 tn2 tc2, .slice T3 tn3 tc3, .slice T4 tn4 tc4] 51)) from (Below.refl _ _).alloc (Nat.le_refl _) _)
           have hT := Blk.new w5 51 #[.slice T1 tn1 tc1, .slice T2 tn2 tc2, .slice T3 tn3 tc3, .slice T4 tn4 tc4]
           have hB6 := hB6.alloc (.cells #[.slice T1 tn1 tc1, .slice T2 tn2 tc2, .slice T3 tn3 tc3, .slice T4 tn4 tc4] 51)
           have h5 := h5.go (show Below w5.heap.size w5 (w5.alloc (.cells #[.slice T1 tn1 tc1, .slice T2 tn2 tc2, .slice T3 tn3 tc3, .slice T4 tn4 tc4] 51)) from (Below.refl _ _).alloc (Nat.le_refl _) _)
           have hd6 := below_then hd4 (Nat.le_refl _) hb6
           have hs5 := hb5.size)
        | (go_at_call 29; go_must (refine (GW.out _ hd6).mono ?_); rintro e w7 ⟨⟨U1, un1, uc1, U2, un2, uc2, U3, un3, uc3, U4, un4, uc4⟩, rfl, h7, hb7⟩
           have hk := show Below w7.heap.size w7 (w7.alloc (.cells #[.slice U1 un1 uc1, .slice U2 un2 uc2, .slice U3 un3 uc3, .slice U4 un4 uc4] 51)) from (Below.refl _ _).alloc (Nat.le_refl _) _
           have hU := Blk.new w7 51 #[.slice U1 un1 uc1, .slice U2 un2 uc2, .slice U3 un3 uc3, .slice U4 un4 uc4]
           have h7 := h7.go hk
           have hb8 := below_then (below_then hb6 (Nat.le_refl _) hb7) (Nat.le_refl _) hk
           have hd8 := below_then (below_then hd6 (Nat.le_refl _) hb7) (Nat.le_refl _) hk
           have h5 := (h5.go hb7).go hk
           have hT := (hT.go hb7).go hk
           have hB6 := (hB6.go hb7).go hk
           have hs7 := hb7.size
           simp only [World.size_alloc] at hs7
           obtain ⟨z0, z1, z2, z3⟩ := hT.four
           have y0 := hT.frozen 0
           have y1 := hT.frozen 1
           have y2 := hT.frozen 2
           have y3 := hT.frozen 3
           have p2 := hB6.cell 2
           have hx : But w5.heap.size (w7.alloc (.cells #[.slice U1 un1 uc1, .slice U2 un2 uc2, .slice U3 un3 uc3, .slice U4 un4 uc4] 51)) (((((w7.alloc (.cells #[.slice U1 un1 uc1, .slice U2 un2 uc2, .slice U3 un3 uc3, .slice U4 un4 uc4] 51)).setCell ⟨w5.heap.size, 0, none⟩ (.slice none 0 0)).setCell ⟨w5.heap.size, 1, none⟩ (.slice none 0 0)).setCell ⟨w5.heap.size, 2, none⟩ (.slice none 0 0)).setCell ⟨w5.heap.size, 3, none⟩ (.slice none 0 0)) :=
             (((But.set_ (g := w5.heap.size) _ (p := ⟨w5.heap.size, 0, none⟩) rfl _).trans (But.set_ (g := w5.heap.size) _ (p := ⟨w5.heap.size, 1, none⟩) rfl _)).trans (But.set_ (g := w5.heap.size) _ (p := ⟨w5.heap.size, 2, none⟩) rfl _)).trans (But.set_ (g := w5.heap.size) _ (p := ⟨w5.heap.size, 3, none⟩) rfl _)
           have hT := (((hT.set_ 0 (.slice none 0 0)).set_ 1 (.slice none 0 0)).set_ 2 (.slice none 0 0)).set_ 3 (.slice none 0 0)
           have hU := hU.but hx (by omega)
           have hB6 := hB6.but hx (by omega)
           have h4 := h4.go (below_but hb8 hx (by simp; omega) (by omega))
           have h3 := h3.go (below_but hb8 hx (by simp; omega) (by omega))
           have h7 := nt0_gone h7
           have hd8 := below_but hd8 hx (by have := HD0.out.size; have := hd4.size; simp; omega) (by have := hd4.size; omega)
           skip)
        | (go_at_call 16; go_must (refine (GB.out _ hd8 _ _ _ _ _ _ _ _ _ hlo h4 h3 (by omega) hv4).mono ?_); rintro e w9 ⟨rfl, hb9⟩
           have hT := hT.go hb9
           have hU := hU.go hb9
           have hB6 := hB6.go hb9
           obtain ⟨t0, t1, t2, t3⟩ := hT.four
           obtain ⟨u0, u1, u2, u3⟩ := hU.four
           have hd9 := below_then hd8 (Nat.le_refl _) hb9)
        | (go_at_call 17; go_must (refine (read_law _ _ _ _ _ _ _ _ _ hB6 (fun _ => ⟨rfl, rfl⟩) (fun h => by cases h)).mono ?_); rintro e w10 ⟨rfl, rfl⟩)
        | (go_at_call 30; go_must (refine (ntSame_law ⟨U1, un1, uc1, U2, un2, uc2, U3, un3, uc3, U4, un4, uc4⟩ NV0 nt0 _ (h7 _ _) nt0_rd).mono ?_); rintro e w11 ⟨rfl, hb11⟩
           have hd10 := below_then hd9 (Nat.le_refl _) hb11)
        | fail)
      go_ret
      exact ⟨rfl, hd10⟩
    | false =>
      obtain rfl := GV.2 rfl
      clear GV
      have GR := Lib.hid GR
      have GW := Lib.hid GW
      go_enter Tryd.func5, Tryd.ntmps5
      go_wp2_with (first
        | (go_at_call 10; go_must (refine (GA.out _).mono ?_); rintro e w1 ⟨rfl, hb1⟩
           have hd1 := below_then HD0.out (Nat.le_refl _) hb1
           have hX1 := HX0.out.go hb1
           obtain ⟨q0, q1, q2, q3⟩ := hX1.four)
        | (go_at_call 25; go_must (refine (GF.out _ hd1).mono ?_); rintro e w2 ⟨rfl, hb2⟩
           have hd2 := below_then hd1 (Nat.le_refl _) hb2
           have hX2 := hX1.go hb2
           obtain ⟨r0, r1, r2, r3⟩ := hX2.four)
        | (go_at_call 27; go_must (refine (GP.out _ hd2).mono ?_); rintro e w4 ⟨A4, n4, c4, o, er, rfl, hlo, h4, hb4, hv4⟩
           have h3 : Rd w4 w4.heap.size 1 none 0 0 (bv []) := Rd.none_
           have hd4 := below_then hd2 (Nat.le_refl _) hb4)
        | (go_at_call 28; go_must (refine (GR.out _ _ (HR.out w4 hd4)).mono ?_); rintro e w5 ⟨⟨T1, tn1, tc1, T2, tn2, tc2, T3, tn3, tc3, T4, tn4, tc4⟩, x5, rfl, h5, hu5, A6, n6, c6, k6, hB6, hk6⟩
           have hb5 : Below w4.heap.size w4 w5 := below_but (HB7.out w4) hu5 (by simp) (Nat.le_refl _)
           have hs6 := hB6.lt
           obtain ⟨rfl, rfl⟩ := hk6 (by simp)
           clear hk6
           have hb6 := below_then hb5 (Nat.le_refl _) (show Below w5.heap.size w5 (w5.alloc (.cells #[.slice T1 tn1 tc1, .slice T2 tn2 tc2, .slice T3 tn3 tc3, .slice T4 tn4 tc4] 51)) from (Below.refl _ _).alloc (Nat.le_refl _) _)
           have hT := Blk.new w5 51 #[.slice T1 tn1 tc1, .slice T2 tn2 tc2, .slice T3 tn3 tc3, .slice T4 tn4 tc4]
           have hB6 := hB6.alloc (.cells #[.slice T1 tn1 tc1, .slice T2 tn2 tc2, .slice T3 tn3 tc3, .slice T4 tn4 tc4] 51)
           have h5 := h5.go (show Below w5.heap.size w5 (w5.alloc (.cells #[.slice T1 tn1 tc1, .slice T2 tn2 tc2, .slice T3 tn3 tc3, .slice T4 tn4 tc4] 51)) from (Below.refl _ _).alloc (Nat.le_refl _) _)
           have hd6 := below_then hd4 (Nat.le_refl _) hb6
           have hs5 := hb5.size)
        | (go_at_call 29; go_must (refine (GW.out _ hd6).mono ?_); rintro e w7 ⟨⟨U1, un1, uc1, U2, un2, uc2, U3, un3, uc3, U4, un4, uc4⟩, rfl, h7, hb7⟩
           have hk := show Below w7.heap.size w7 (w7.alloc (.cells #[.slice U1 un1 uc1, .slice U2 un2 uc2, .slice U3 un3 uc3, .slice U4 un4 uc4] 51)) from (Below.refl _ _).alloc (Nat.le_refl _) _
           have hU := Blk.new w7 51 #[.slice U1 un1 uc1, .slice U2 un2 uc2, .slice U3 un3 uc3, .slice U4 un4 uc4]
           have h7 := h7.go hk
           have hb8 := below_then (below_then hb6 (Nat.le_refl _) hb7) (Nat.le_refl _) hk
           have hd8 := below_then (below_then hd6 (Nat.le_refl _) hb7) (Nat.le_refl _) hk
           have h5 := (h5.go hb7).go hk
           have hT := (hT.go hb7).go hk
           have hB6 := (hB6.go hb7).go hk
           have hs7 := hb7.size
           simp only [World.size_alloc] at hs7
           have p2 := hB6.cell 2
           have h4 := h4.go hb8
           have h3 := h3.go hb8
           skip)
        | (go_at_call 16; go_must (refine (GB.out _ hd8 _ _ _ _ _ _ _ _ _ hlo h4 h3 (by omega) hv4).mono ?_); rintro e w9 ⟨rfl, hb9⟩
           have hT := hT.go hb9
           have hU := hU.go hb9
           have hB6 := hB6.go hb9
           obtain ⟨t0, t1, t2, t3⟩ := hT.four
           obtain ⟨u0, u1, u2, u3⟩ := hU.four
           have h5 := h5.go hb9
           have h7 := h7.go hb9
           have hd9 := below_then hd8 (Nat.le_refl _) hb9)
        | (go_at_call 17; go_must (refine (read_law _ _ _ _ _ _ _ _ _ hB6 (fun h => by cases h) (fun _ => ⟨rfl, rfl⟩)).mono ?_); rintro e w10 ⟨rfl, rfl⟩)
        | (go_at_call 30; go_must (refine (ntSame_law ⟨U1, un1, uc1, U2, un2, uc2, U3, un3, uc3, U4, un4, uc4⟩ ⟨T1, tn1, tc1, T2, tn2, tc2, T3, tn3, tc3, T4, tn4, tc4⟩ x5 _ h7 h5).mono ?_); rintro e w11 ⟨rfl, hb11⟩
           have hd10 := below_then hd9 (Nat.le_refl _) hb11)
        | fail)
      go_ret
      exact ⟨rfl, hd10⟩
  | true =>
    cases bad with
    | true =>
      obtain ⟨rfl, rfl, rfl⟩ := GV.1 rfl
      clear GV
      have GR := Lib.hid GR
      have GW := Lib.hid GW
      go_enter Tryd.func5, Tryd.ntmps5
      go_wp2_with (first
        | (go_at_call 10; go_must (refine (GA.out _).mono ?_); rintro e w1 ⟨rfl, hb1⟩
           have hd1 := below_then HD0.out (Nat.le_refl _) hb1
           have hX1 := HX0.out.go hb1
           obtain ⟨q0, q1, q2, q3⟩ := hX1.four)
        | (go_at_call 25; go_must (refine (GF.out _ hd1).mono ?_); rintro e w2 ⟨rfl, hb2⟩
           have hd2 := below_then hd1 (Nat.le_refl _) hb2
           have hX2 := hX1.go hb2
           obtain ⟨r0, r1, r2, r3⟩ := hX2.four)
        | (go_at_call 26; go_must (refine (GD.out _ hd2 (by simp)).mono ?_); rintro e w3 ⟨v3, rfl, A3, c3, rfl, ho3, hb3⟩
           have h3 := Rd.of_own ho3
           have hX3 := hX2.go hb3
           obtain ⟨s0, s1, s2, s3⟩ := hX3.four
           have hd3 := below_then hd2 (Nat.le_refl _) hb3)
        | (go_at_call 27; go_must (refine (GP.out _ hd3).mono ?_); rintro e w4 ⟨A4, n4, c4, o, er, rfl, hlo, h4, hb4, hv4⟩
           have h3 := h3.go hb4
           have hd4 := below_then hd3 (Nat.le_refl _) hb4)
        | (go_at_call 28; go_must (refine (GR.out _ _ (HR.out w4 hd4)).mono ?_); rintro e w5 ⟨⟨T1, tn1, tc1, T2, tn2, tc2, T3, tn3, tc3, T4, tn4, tc4⟩, x5, rfl, h5, hu5, A6, n6, c6, k6, hB6, hk6⟩
           have hb5 : Below w4.heap.size w4 w5 := below_but (HB7.out w4) hu5 (by simp) (Nat.le_refl _)
           have hs6 := hB6.lt
           clear hk6
           have hb6 := below_then hb5 (Nat.le_refl _) (show Below w5.heap.size w5 (w5.alloc (.cells #[.slice T1 tn1 tc1, .slice T2 tn2 tc2, .slice T3 tn3 tc3, .slice T4 tn4 tc4] 51)) from (Below.refl _ _).alloc (Nat.le_refl _) _)
           have hT := Blk.new w5 51 #[.slice T1 tn1 tc1, .slice T2 tn2 tc2, .slice T3 tn3 tc3, .slice T4 tn4 tc4]
           have hB6 := hB6.alloc (.cells #[.slice T1 tn1 tc1, .slice T2 tn2 tc2, .slice T3 tn3 tc3, .slice T4 tn4 tc4] 51)
           have h5 := h5.go (show Below w5.heap.size w5 (w5.alloc (.cells #[.slice T1 tn1 tc1, .slice T2 tn2 tc2, .slice T3 tn3 tc3, .slice T4 tn4 tc4] 51)) from (Below.refl _ _).alloc (Nat.le_refl _) _)
           have hd6 := below_then hd4 (Nat.le_refl _) hb6
           have hs5 := hb5.size)
        | (go_at_call 29; go_must (refine (GW.out _ hd6).mono ?_); rintro e w7 ⟨⟨U1, un1, uc1, U2, un2, uc2, U3, un3, uc3, U4, un4, uc4⟩, rfl, h7, hb7⟩
           have hk := show Below w7.heap.size w7 (w7.alloc (.cells #[.slice U1 un1 uc1, .slice U2 un2 uc2, .slice U3 un3 uc3, .slice U4 un4 uc4] 51)) from (Below.refl _ _).alloc (Nat.le_refl _) _
           have hU := Blk.new w7 51 #[.slice U1 un1 uc1, .slice U2 un2 uc2, .slice U3 un3 uc3, .slice U4 un4 uc4]
           have h7 := h7.go hk
           have hb8 := below_then (below_then hb6 (Nat.le_refl _) hb7) (Nat.le_refl _) hk
           have hd8 := below_then (below_then hd6 (Nat.le_refl _) hb7) (Nat.le_refl _) hk
           have h5 := (h5.go hb7).go hk
           have hT := (hT.go hb7).go hk
           have hB6 := (hB6.go hb7).go hk
           have hs7 := hb7.size
           simp only [World.size_alloc] at hs7
           obtain ⟨z0, z1, z2, z3⟩ := hT.four
           have y0 := hT.frozen 0
           have y1 := hT.frozen 1
           have y2 := hT.frozen 2
           have y3 := hT.frozen 3
           have p2 := hB6.cell 2
           have hx : But w5.heap.size (w7.alloc (.cells #[.slice U1 un1 uc1, .slice U2 un2 uc2, .slice U3 un3 uc3, .slice U4 un4 uc4] 51)) (((((w7.alloc (.cells #[.slice U1 un1 uc1, .slice U2 un2 uc2, .slice U3 un3 uc3, .slice U4 un4 uc4] 51)).setCell ⟨w5.heap.size, 0, none⟩ (.slice none 0 0)).setCell ⟨w5.heap.size, 1, none⟩ (.slice none 0 0)).setCell ⟨w5.heap.size, 2, none⟩ (.slice none 0 0)).setCell ⟨w5.heap.size, 3, none⟩ (.slice none 0 0)) :=
             (((But.set_ (g := w5.heap.size) _ (p := ⟨w5.heap.size, 0, none⟩) rfl _).trans (But.set_ (g := w5.heap.size) _ (p := ⟨w5.heap.size, 1, none⟩) rfl _)).trans (But.set_ (g := w5.heap.size) _ (p := ⟨w5.heap.size, 2, none⟩) rfl _)).trans (But.set_ (g := w5.heap.size) _ (p := ⟨w5.heap.size, 3, none⟩) rfl _)
           have hT := (((hT.set_ 0 (.slice none 0 0)).set_ 1 (.slice none 0 0)).set_ 2 (.slice none 0 0)).set_ 3 (.slice none 0 0)
           have hU := hU.but hx (by omega)
           have hB6 := hB6.but hx (by omega)
           have h4 := h4.go (below_but hb8 hx (by simp; omega) (by omega))
           have h3 := h3.go (below_but hb8 hx (by simp; omega) (by omega))
           have h7 := nt0_gone h7
           have hd8 := below_but hd8 hx (by have := HD0.out.size; have := hd4.size; simp; omega) (by have := hd4.size; omega)
           skip)
        | (go_at_call 16; go_must (refine (GB.out _ hd8 _ _ _ _ _ _ _ _ _ hlo h4 h3 (HD.out (by simp)) hv4).mono ?_); rintro e w9 ⟨rfl, hb9⟩
           have hT := hT.go hb9
           have hU := hU.go hb9
           have hB6 := hB6.go hb9
           obtain ⟨t0, t1, t2, t3⟩ := hT.four
           obtain ⟨u0, u1, u2, u3⟩ := hU.four
           have hd9 := below_then hd8 (Nat.le_refl _) hb9)
        | (go_at_call 17; go_must (refine (read_law _ _ _ _ _ _ _ _ _ hB6 (fun _ => ⟨rfl, rfl⟩) (fun h => by cases h)).mono ?_); rintro e w10 ⟨rfl, rfl⟩)
        | (go_at_call 30; go_must (refine (ntSame_law ⟨U1, un1, uc1, U2, un2, uc2, U3, un3, uc3, U4, un4, uc4⟩ NV0 nt0 _ (h7 _ _) nt0_rd).mono ?_); rintro e w11 ⟨rfl, hb11⟩
           have hd10 := below_then hd9 (Nat.le_refl _) hb11)
        | fail)
      go_ret
      exact ⟨rfl, hd10⟩
    | false =>
      obtain rfl := GV.2 rfl
      clear GV
      have GR := Lib.hid GR
      have GW := Lib.hid GW
      go_enter Tryd.func5, Tryd.ntmps5
      go_wp2_with (first
        | (go_at_call 10; go_must (refine (GA.out _).mono ?_); rintro e w1 ⟨rfl, hb1⟩
           have hd1 := below_then HD0.out (Nat.le_refl _) hb1
           have hX1 := HX0.out.go hb1
           obtain ⟨q0, q1, q2, q3⟩ := hX1.four)
        | (go_at_call 25; go_must (refine (GF.out _ hd1).mono ?_); rintro e w2 ⟨rfl, hb2⟩
           have hd2 := below_then hd1 (Nat.le_refl _) hb2
           have hX2 := hX1.go hb2
           obtain ⟨r0, r1, r2, r3⟩ := hX2.four)
        | (go_at_call 26; go_must (refine (GD.out _ hd2 (by simp)).mono ?_); rintro e w3 ⟨v3, rfl, A3, c3, rfl, ho3, hb3⟩
           have h3 := Rd.of_own ho3
           have hX3 := hX2.go hb3
           obtain ⟨s0, s1, s2, s3⟩ := hX3.four
           have hd3 := below_then hd2 (Nat.le_refl _) hb3)
        | (go_at_call 27; go_must (refine (GP.out _ hd3).mono ?_); rintro e w4 ⟨A4, n4, c4, o, er, rfl, hlo, h4, hb4, hv4⟩
           have h3 := h3.go hb4
           have hd4 := below_then hd3 (Nat.le_refl _) hb4)
        | (go_at_call 28; go_must (refine (GR.out _ _ (HR.out w4 hd4)).mono ?_); rintro e w5 ⟨⟨T1, tn1, tc1, T2, tn2, tc2, T3, tn3, tc3, T4, tn4, tc4⟩, x5, rfl, h5, hu5, A6, n6, c6, k6, hB6, hk6⟩
           have hb5 : Below w4.heap.size w4 w5 := below_but (HB7.out w4) hu5 (by simp) (Nat.le_refl _)
           have hs6 := hB6.lt
           obtain ⟨rfl, rfl⟩ := hk6 (by simp)
           clear hk6
           have hb6 := below_then hb5 (Nat.le_refl _) (show Below w5.heap.size w5 (w5.alloc (.cells #[.slice T1 tn1 tc1, .slice T2 tn2 tc2, .slice T3 tn3 tc3, .slice T4 tn4 tc4] 51)) from (Below.refl _ _).alloc (Nat.le_refl _) _)
           have hT := Blk.new w5 51 #[.slice T1 tn1 tc1, .slice T2 tn2 tc2, .slice T3 tn3 tc3, .slice T4 tn4 tc4]
           have hB6 := hB6.alloc (.cells #[.slice T1 tn1 tc1, .slice T2 tn2 tc2, .slice T3 tn3 tc3, .slice T4 tn4 tc4] 51)
           have h5 := h5.go (show Below w5.heap.size w5 (w5.alloc (.cells #[.slice T1 tn1 tc1, .slice T2 tn2 tc2, .slice T3 tn3 tc3, .slice T4 tn4 tc4] 51)) from (Below.refl _ _).alloc (Nat.le_refl _) _)
           have hd6 := below_then hd4 (Nat.le_refl _) hb6
           have hs5 := hb5.size)
        | (go_at_call 29; go_must (refine (GW.out _ hd6).mono ?_); rintro e w7 ⟨⟨U1, un1, uc1, U2, un2, uc2, U3, un3, uc3, U4, un4, uc4⟩, rfl, h7, hb7⟩
           have hk := show Below w7.heap.size w7 (w7.alloc (.cells #[.slice U1 un1 uc1, .slice U2 un2 uc2, .slice U3 un3 uc3, .slice U4 un4 uc4] 51)) from (Below.refl _ _).alloc (Nat.le_refl _) _
           have hU := Blk.new w7 51 #[.slice U1 un1 uc1, .slice U2 un2 uc2, .slice U3 un3 uc3, .slice U4 un4 uc4]
           have h7 := h7.go hk
           have hb8 := below_then (below_then hb6 (Nat.le_refl _) hb7) (Nat.le_refl _) hk
           have hd8 := below_then (below_then hd6 (Nat.le_refl _) hb7) (Nat.le_refl _) hk
           have h5 := (h5.go hb7).go hk
           have hT := (hT.go hb7).go hk
           have hB6 := (hB6.go hb7).go hk
           have hs7 := hb7.size
           simp only [World.size_alloc] at hs7
           have p2 := hB6.cell 2
           have h4 := h4.go hb8
           have h3 := h3.go hb8
           skip)
        | (go_at_call 16; go_must (refine (GB.out _ hd8 _ _ _ _ _ _ _ _ _ hlo h4 h3 (HD.out (by simp)) hv4).mono ?_); rintro e w9 ⟨rfl, hb9⟩
           have hT := hT.go hb9
           have hU := hU.go hb9
           have hB6 := hB6.go hb9
           obtain ⟨t0, t1, t2, t3⟩ := hT.four
           obtain ⟨u0, u1, u2, u3⟩ := hU.four
           have h5 := h5.go hb9
           have h7 := h7.go hb9
           have hd9 := below_then hd8 (Nat.le_refl _) hb9)
        | (go_at_call 17; go_must (refine (read_law _ _ _ _ _ _ _ _ _ hB6 (fun h => by cases h) (fun _ => ⟨rfl, rfl⟩)).mono ?_); rintro e w10 ⟨rfl, rfl⟩)
        | (go_at_call 30; go_must (refine (ntSame_law ⟨U1, un1, uc1, U2, un2, uc2, U3, un3, uc3, U4, un4, uc4⟩ ⟨T1, tn1, tc1, T2, tn2, tc2, T3, tn3, tc3, T4, tn4, tc4⟩ x5 _ h7 h5).mono ?_); rintro e w11 ⟨rfl, hb11⟩
           have hd10 := below_then hd9 (Nat.le_refl _) hb11)
        | fail)
      go_ret
      exact ⟨rfl, hd10⟩
end Go.Proofs.YtndlcimckfndiaaDoor
