/- Walk: WireSets: what AppendSet writes is the document's, and what Set reads is what the document's reader reads. -/
import Derived.Test.YtndlcimckfndiaaDoorWrU
namespace Go.Proofs.YtndlcimckfndiaaDoor
open Go.RowKit
set_option maxRecDepth 100000

theorem appSet_law (A D : Option Addr) (n c m d : Nat) (l : List UInt8) (sp : List Sn.Sp) (w : World) (hl : l.length = n) (hR : Rd w w.heap.size 1 A n c (bv l)) (hl2 : sp.length = m) (hR2 : Rd w w.heap.size 2 D m d (sv sp)) (hn : n + 2400 ≤ 140737488355328) :
    Calls Tryd.prog 21 #[.slice A n c, .slice D m d] w fun e w' => ∃ A' N c' o, ∃ er : Int, e = .returned (.tuple #[.slice A' N c', .int .i64 er]) ∧ o.length = N ∧ Rd w' w'.heap.size 1 A' N c' (bv o) ∧ Below w.heap.size w w' ∧ behindV o l (Wq.lS sp) er (Sn.fmS (-2) sp) = true := by
  cases hf : Sn.fmS (-2) sp with
  | false =>
    refine (appendSet_no A D n c m d sp w hl2 hR2 hf).mono ?_
    rintro e w' ⟨rfl, hb⟩
    exact ⟨none, 0, 0, [], 1, rfl, rfl, Rd.none_, hb, by simp [behindV]⟩
  | true =>
    refine (appendSet_any A D n c m d l sp w hl hR hl2 hR2 hf  hn).mono ?_
    rintro e w' ⟨v, rfl, A', c', rfl, ho, hb⟩
    exact ⟨A', _, c', l ++ Wq.lS sp, 0, rfl, rfl, Rd.of_own ho, hb, by simp [behindV]⟩

theorem refSet_law (g : Nat) (l : List UInt8) (bad : Bool) (hbad : bad = (Wq.pS l).isNone) (w : World) (h : RR w g l (some l)) (hn : l.length ≤ 4294967296) :
    Calls Tryd.prog 22 #[.pointer (some ⟨g, 0, none⟩)] w fun e w' => ∃ v A' c', e = .returned (.slice A' v.length c') ∧ Rd w' w'.heap.size 2 A' v.length c' (sv v) ∧ But g w w' ∧
      ∃ A2 n2 c2, ∃ k : Int, Blk w' g 32 #[.slice A2 n2 c2, .int .i64 k, .bool bad] ∧ (bad = false → k = gK Wq.pS l ∧ v = gV Wq.pS [] l) := by
  refine (refRdSet_any g l (some l) w h hn).mono ?_
  rintro e w' ⟨v, A', c', rfl, ho, hP, hu, hv⟩
  refine ⟨v, A', c', rfl, Rd.of_own ho, hu, ?_⟩
  cases hp : Wq.pS l with
  | none =>
    rw [hp] at hbad
    simp only [setS, hp] at hP
    obtain ⟨A2, n2, c2, k, hB⟩ := hP
    subst hbad
    exact ⟨A2, n2, c2, k, hB, fun h => by cases h⟩
  | some q =>
    obtain ⟨v1, r⟩ := q
    rw [hp] at hbad
    simp only [setS, hp] at hP
    simp only [setS, setVS, setV, hp] at hv
    obtain ⟨A2, n2, c2, hB, _⟩ := hP
    obtain ⟨e1, e2, _⟩ := g_yes (d := []) hp
    subst hbad
    exact ⟨A2, n2, c2, _, hB, fun _ => ⟨by rw [e2], by rw [hv r rfl, e1]⟩⟩

set_option maxHeartbeats 8000000 in
theorem wireSets_walk (D A : Option Addr) (m d n c : Nat) (sp : List Sn.Sp) (l : List UInt8) (w : World) (hl2 : sp.length = m) (hR2 : Rd w w.heap.size 2 D m d (sv sp)) (hl : l.length = n) (hR : Rd w w.heap.size 1 A n c (bv l)) (hn : n ≤ 1048576) :
    Calls Tryd.prog 4 #[.slice D m d, .slice A n c] w fun e w' => e = .returned (.bool true) ∧ Below w.heap.size w w' := by
  obtain ⟨bad, hbad⟩ : ∃ bad, bad = (Wq.pS l).isNone := ⟨_, rfl⟩
  obtain ⟨rt, hrt⟩ : ∃ rt, rt = Sn.fmS (-2) sp := ⟨_, rfl⟩
  have GF := fun (W : World) (hb : Below w.heap.size w W) => refFormedS_any D m d sp W hl2 (hR2.go hb)
  have GP := fun (W : World) (hb : Below w.heap.size w W) => appSet_law A D n c m d l sp W hl (hR.go hb) hl2 (hR2.go hb)  (by omega)
  rw [← hrt] at GF GP
  have GF := Lib.hid GF
  have GP := Lib.hid GP
  have GD := Lib.hid fun (W : World) (hb : Below w.heap.size w W) (hf : rt = true) => refSetBytes_any D m d sp W hl2 (hR2.go hb) (hrt.symm.trans hf) 
  have GR := fun (g : Nat) (W : World) (h : RR W g l (some l)) => refSet_law g l bad hbad W h (by omega)
  have GW := fun (W : World) (hb : Below w.heap.size w W) => wireSet_g A n c l W hl (hR.go hb) (by omega)
  have GA := Lib.hid fun (W : World) => aliveW_any W
  have GB := Lib.hid fun (W : World) (hb : Below w.heap.size w W) (A1 E : Option Addr) (n1 c1 k1 e1 : Nat) (o ds : List UInt8) (er : Int) (hlo : o.length = n1) (h1 : Rd W W.heap.size 1 A1 n1 c1 (bv o)) (h3 : Rd W W.heap.size 1 E k1 e1 (bv ds)) (hk : k1 ≤ 1048576) (hv : behindV o l ds er rt = true) =>
    (behind_any A1 A E n1 c1 n c k1 e1 o l ds er rt W hlo h1 (hR.go hb) h3 (by omega)).mono fun e W' (h : e = .returned (.bool (behindV o l ds er rt)) ∧ Below W.heap.size W W') => (show e = .returned (.bool true) ∧ Below W.heap.size W W' from ⟨by rw [h.1, hv], h.2⟩)
  have GM := Lib.hid fun (W : World) (A1 A2 : Option Addr) (c1 c2 : Nat) (u v : List Sn.Sp) (h1 : Rd W W.heap.size 2 A1 u.length c1 (sv u)) (h2 : Rd W W.heap.size 2 A2 v.length c2 (sv v)) (hv : u = v) =>
    (sameS_any A1 A2 u.length c1 v.length c2 u v W rfl rfl h1 h2).mono fun e W' (h : e = .returned (.bool (decide (u = v))) ∧ Below W.heap.size W W') => (show e = .returned (.bool true) ∧ Below W.heap.size W W' from ⟨by rw [h.1, decide_eq_true hv], h.2⟩)
  have HR := Lib.hid fun (W : World) (hb : Below w.heap.size w W) => (show RR (W.alloc (.cells #[.slice A n c, .int .i64 0, .bool false] 32)) W.heap.size l (some l) from ⟨A, n, c, by rw [Nat.sub_self]; exact Blk.new W _ _, (hR.go hb).below ((Below.refl _ _).alloc (Nat.le_refl _) _), hl, by simp, Nat.le_refl _⟩)
  have HB7 := Lib.hid fun (W : World) => (show Below W.heap.size W (W.alloc (.cells #[.slice A n c, .int .i64 0, .bool false] 32)) from (Below.refl _ _).alloc (Nat.le_refl _) _)
  have HD : rt = true → (Wq.lS sp).length ≤ 1048576 := fun h => by subst h; exact (by have := Wq.lS_len hrt.symm; omega)
  have HD := Lib.hid HD
  have GV : (bad = true → gV Wq.pS [] l = [] ∧ (gK Wq.pS l : Int) = 0 ∧ (gE Wq.pS l : Int) = 4) ∧ (bad = false → (gE Wq.pS l : Int) = 0) := by
    cases hp : Wq.pS l with
    | none => rw [hp] at hbad; subst hbad; obtain ⟨e1, e2, e3⟩ := g_no (d := []) hp; exact ⟨fun _ => ⟨e1, by rw [e2]; rfl, by rw [e3]; rfl⟩, fun h => by cases h⟩
    | some q => obtain ⟨v1, r⟩ := q; rw [hp] at hbad; subst hbad; exact ⟨fun h => (by cases h), fun _ => by rw [(g_yes (d := []) hp).2.2]; rfl⟩
  clear hbad hrt hR hR2 hl hl2 hn
  obtain ⟨V, hV⟩ : ∃ V, V = gV Wq.pS [] l := ⟨_, rfl⟩
  obtain ⟨K, hK⟩ : ∃ K : Int, K = gK Wq.pS l := ⟨_, rfl⟩
  obtain ⟨E, hE⟩ : ∃ E : Int, E = gE Wq.pS l := ⟨_, rfl⟩
  rw [← hV, ← hK, ← hE] at GV
  rw [← hV, ← hK, ← hE] at GW
  rw [← hV, ← hK] at GR
  clear hV hK hE
  cases rt with
  | false =>
    clear GD HD
    cases bad with
    | true =>
      obtain ⟨rfl, rfl, rfl⟩ := GV.1 rfl
      clear GV
      have GR := Lib.hid GR
      have GW := Lib.hid GW
      go_enter Tryd.func4, Tryd.ntmps4
      go_wp2_with (first
        | (go_at_call 10; go_must (refine (GA.out _).mono ?_); rintro e w1 ⟨rfl, hb1⟩)
        | (go_at_call 19; go_must (refine (GF.out _ hb1).mono ?_); rintro e w2 ⟨rfl, hb2⟩
           have hd2 := below_then hb1 (Nat.le_refl _) hb2)
        | (go_at_call 21; go_must (refine (GP.out _ hd2).mono ?_); rintro e w4 ⟨A4, n4, c4, o, er, rfl, hlo, h4, hb4, hv4⟩
           have h3 : Rd w4 w4.heap.size 1 none 0 0 (bv []) := Rd.none_
           have hd4 := below_then hd2 (Nat.le_refl _) hb4)
        | (go_at_call 22; go_must (refine (GR.out _ _ (HR.out w4 hd4)).mono ?_); rintro e w5 ⟨v5, A5, c5, rfl, h5, hu5, A6, n6, c6, k6, hB6, hk6⟩
           have hb5 : Below w4.heap.size w4 w5 := below_but (HB7.out w4) hu5 (by simp) (Nat.le_refl _)
           clear hk6
           have h4 := h4.go hb5
           have h3 := h3.go hb5
           have hd5 := below_then hd4 (Nat.le_refl _) hb5)
        | (go_at_call 23; go_must (refine (GW.out _ hd5).mono ?_); rintro e w6 ⟨A7, c7, rfl, ho7, hb7⟩
           have h7 := Rd.of_own ho7
           have h4 := h4.go hb7
           have h3 := h3.go hb7
           have h5 := h5.go hb7
           have hB6 := hB6.go hb7
           have hd6 := below_then hd5 (Nat.le_refl _) hb7)
        | (go_at_call 16; go_must (refine (GB.out _ hd6 _ _ _ _ _ _ _ _ _ hlo h4 h3 (by omega) hv4).mono ?_); rintro e w7 ⟨rfl, hb8⟩
           have h7 := h7.go hb8
           have h5 := h5.go hb8
           have hB6 := hB6.go hb8
           have q2 := hB6.cell 2
           have hd7 := below_then hd6 (Nat.le_refl _) hb8)
        | (go_at_call 17; go_must (refine (read_law _ _ _ _ _ _ _ _ _ hB6 (fun _ => ⟨rfl, rfl⟩) (fun h => by cases h)).mono ?_); rintro e w8 ⟨rfl, rfl⟩)
        | fail)
      go_ret
      exact ⟨rfl, hd7⟩
    | false =>
      obtain rfl := GV.2 rfl
      clear GV
      have GR := Lib.hid GR
      have GW := Lib.hid GW
      go_enter Tryd.func4, Tryd.ntmps4
      go_wp2_with (first
        | (go_at_call 10; go_must (refine (GA.out _).mono ?_); rintro e w1 ⟨rfl, hb1⟩)
        | (go_at_call 19; go_must (refine (GF.out _ hb1).mono ?_); rintro e w2 ⟨rfl, hb2⟩
           have hd2 := below_then hb1 (Nat.le_refl _) hb2)
        | (go_at_call 21; go_must (refine (GP.out _ hd2).mono ?_); rintro e w4 ⟨A4, n4, c4, o, er, rfl, hlo, h4, hb4, hv4⟩
           have h3 : Rd w4 w4.heap.size 1 none 0 0 (bv []) := Rd.none_
           have hd4 := below_then hd2 (Nat.le_refl _) hb4)
        | (go_at_call 22; go_must (refine (GR.out _ _ (HR.out w4 hd4)).mono ?_); rintro e w5 ⟨v5, A5, c5, rfl, h5, hu5, A6, n6, c6, k6, hB6, hk6⟩
           have hb5 : Below w4.heap.size w4 w5 := below_but (HB7.out w4) hu5 (by simp) (Nat.le_refl _)
           obtain ⟨rfl, rfl⟩ := hk6 (by simp)
           have h4 := h4.go hb5
           have h3 := h3.go hb5
           have hd5 := below_then hd4 (Nat.le_refl _) hb5)
        | (go_at_call 23; go_must (refine (GW.out _ hd5).mono ?_); rintro e w6 ⟨A7, c7, rfl, ho7, hb7⟩
           have h7 := Rd.of_own ho7
           have h4 := h4.go hb7
           have h3 := h3.go hb7
           have h5 := h5.go hb7
           have hB6 := hB6.go hb7
           have hd6 := below_then hd5 (Nat.le_refl _) hb7)
        | (go_at_call 16; go_must (refine (GB.out _ hd6 _ _ _ _ _ _ _ _ _ hlo h4 h3 (by omega) hv4).mono ?_); rintro e w7 ⟨rfl, hb8⟩
           have h7 := h7.go hb8
           have h5 := h5.go hb8
           have hB6 := hB6.go hb8
           have q2 := hB6.cell 2
           have hd7 := below_then hd6 (Nat.le_refl _) hb8)
        | (go_at_call 17; go_must (refine (read_law _ _ _ _ _ _ _ _ _ hB6 (fun h => by cases h) (fun _ => ⟨rfl, rfl⟩)).mono ?_); rintro e w8 ⟨rfl, rfl⟩)
        | (go_at_call 24; go_must (refine (GM.out _ _ _ _ _ _ _ h7 h5 rfl).mono ?_); rintro e w9 ⟨rfl, hb9⟩
           have hd7 := below_then hd7 (Nat.le_refl _) hb9)
        | fail)
      go_ret
      exact ⟨rfl, hd7⟩
  | true =>
    cases bad with
    | true =>
      obtain ⟨rfl, rfl, rfl⟩ := GV.1 rfl
      clear GV
      have GR := Lib.hid GR
      have GW := Lib.hid GW
      go_enter Tryd.func4, Tryd.ntmps4
      go_wp2_with (first
        | (go_at_call 10; go_must (refine (GA.out _).mono ?_); rintro e w1 ⟨rfl, hb1⟩)
        | (go_at_call 19; go_must (refine (GF.out _ hb1).mono ?_); rintro e w2 ⟨rfl, hb2⟩
           have hd2 := below_then hb1 (Nat.le_refl _) hb2)
        | (go_at_call 20; go_must (refine (GD.out _ hd2 (by simp)).mono ?_); rintro e w3 ⟨v3, rfl, A3, c3, rfl, ho3, hb3⟩
           have h3 := Rd.of_own ho3
           have hd3 := below_then hd2 (Nat.le_refl _) hb3)
        | (go_at_call 21; go_must (refine (GP.out _ hd3).mono ?_); rintro e w4 ⟨A4, n4, c4, o, er, rfl, hlo, h4, hb4, hv4⟩
           have h3 := h3.go hb4
           have hd4 := below_then hd3 (Nat.le_refl _) hb4)
        | (go_at_call 22; go_must (refine (GR.out _ _ (HR.out w4 hd4)).mono ?_); rintro e w5 ⟨v5, A5, c5, rfl, h5, hu5, A6, n6, c6, k6, hB6, hk6⟩
           have hb5 : Below w4.heap.size w4 w5 := below_but (HB7.out w4) hu5 (by simp) (Nat.le_refl _)
           clear hk6
           have h4 := h4.go hb5
           have h3 := h3.go hb5
           have hd5 := below_then hd4 (Nat.le_refl _) hb5)
        | (go_at_call 23; go_must (refine (GW.out _ hd5).mono ?_); rintro e w6 ⟨A7, c7, rfl, ho7, hb7⟩
           have h7 := Rd.of_own ho7
           have h4 := h4.go hb7
           have h3 := h3.go hb7
           have h5 := h5.go hb7
           have hB6 := hB6.go hb7
           have hd6 := below_then hd5 (Nat.le_refl _) hb7)
        | (go_at_call 16; go_must (refine (GB.out _ hd6 _ _ _ _ _ _ _ _ _ hlo h4 h3 (HD.out (by simp)) hv4).mono ?_); rintro e w7 ⟨rfl, hb8⟩
           have h7 := h7.go hb8
           have h5 := h5.go hb8
           have hB6 := hB6.go hb8
           have q2 := hB6.cell 2
           have hd7 := below_then hd6 (Nat.le_refl _) hb8)
        | (go_at_call 17; go_must (refine (read_law _ _ _ _ _ _ _ _ _ hB6 (fun _ => ⟨rfl, rfl⟩) (fun h => by cases h)).mono ?_); rintro e w8 ⟨rfl, rfl⟩)
        | fail)
      go_ret
      exact ⟨rfl, hd7⟩
    | false =>
      obtain rfl := GV.2 rfl
      clear GV
      have GR := Lib.hid GR
      have GW := Lib.hid GW
      go_enter Tryd.func4, Tryd.ntmps4
      go_wp2_with (first
        | (go_at_call 10; go_must (refine (GA.out _).mono ?_); rintro e w1 ⟨rfl, hb1⟩)
        | (go_at_call 19; go_must (refine (GF.out _ hb1).mono ?_); rintro e w2 ⟨rfl, hb2⟩
           have hd2 := below_then hb1 (Nat.le_refl _) hb2)
        | (go_at_call 20; go_must (refine (GD.out _ hd2 (by simp)).mono ?_); rintro e w3 ⟨v3, rfl, A3, c3, rfl, ho3, hb3⟩
           have h3 := Rd.of_own ho3
           have hd3 := below_then hd2 (Nat.le_refl _) hb3)
        | (go_at_call 21; go_must (refine (GP.out _ hd3).mono ?_); rintro e w4 ⟨A4, n4, c4, o, er, rfl, hlo, h4, hb4, hv4⟩
           have h3 := h3.go hb4
           have hd4 := below_then hd3 (Nat.le_refl _) hb4)
        | (go_at_call 22; go_must (refine (GR.out _ _ (HR.out w4 hd4)).mono ?_); rintro e w5 ⟨v5, A5, c5, rfl, h5, hu5, A6, n6, c6, k6, hB6, hk6⟩
           have hb5 : Below w4.heap.size w4 w5 := below_but (HB7.out w4) hu5 (by simp) (Nat.le_refl _)
           obtain ⟨rfl, rfl⟩ := hk6 (by simp)
           have h4 := h4.go hb5
           have h3 := h3.go hb5
           have hd5 := below_then hd4 (Nat.le_refl _) hb5)
        | (go_at_call 23; go_must (refine (GW.out _ hd5).mono ?_); rintro e w6 ⟨A7, c7, rfl, ho7, hb7⟩
           have h7 := Rd.of_own ho7
           have h4 := h4.go hb7
           have h3 := h3.go hb7
           have h5 := h5.go hb7
           have hB6 := hB6.go hb7
           have hd6 := below_then hd5 (Nat.le_refl _) hb7)
        | (go_at_call 16; go_must (refine (GB.out _ hd6 _ _ _ _ _ _ _ _ _ hlo h4 h3 (HD.out (by simp)) hv4).mono ?_); rintro e w7 ⟨rfl, hb8⟩
           have h7 := h7.go hb8
           have h5 := h5.go hb8
           have hB6 := hB6.go hb8
           have q2 := hB6.cell 2
           have hd7 := below_then hd6 (Nat.le_refl _) hb8)
        | (go_at_call 17; go_must (refine (read_law _ _ _ _ _ _ _ _ _ hB6 (fun h => by cases h) (fun _ => ⟨rfl, rfl⟩)).mono ?_); rintro e w8 ⟨rfl, rfl⟩)
        | (go_at_call 24; go_must (refine (GM.out _ _ _ _ _ _ _ h7 h5 rfl).mono ?_); rintro e w9 ⟨rfl, hb9⟩
           have hd7 := below_then hd7 (Nat.le_refl _) hb9)
        | fail)
      go_ret
      exact ⟨rfl, hd7⟩
end Go.Proofs.YtndlcimckfndiaaDoor
