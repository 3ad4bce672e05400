/- Walk over the law LogCuts (printed by wip/tools/genLgN.py). -/
import Derived.Test.YtldcgmnfohhjbaaDoorLgL
namespace Go.Proofs.YtldcgmnfohhjbaaDoor
open Go.RowKit
set_option maxRecDepth 100000

theorem sync_formed {b : List Vc.St} {L L' : List (NV × Nt)} {su : Int} (h : lgR b L su = true) (hn : nts L' = nts L) : lgR b L' (L.length : Int) = true := by
  obtain ⟨hf, q, hq⟩ := lgR_some h
  have hl : L'.length = L.length := by rw [← nts_len, hn, nts_len]
  unfold lgR
  rw [hf, hn, hq, hl, decide_eq_true (by omega), decide_eq_true (by omega)]; rfl
theorem lgW_formed : ∀ {k : List Vc.St} {l : List Nt} {q : List Vc.St}, fm (-1) k = true → lgW k l = some q → fm (-1) q = true
  | k, [], q, hk, h => by injection h with h; subst h; exact hk
  | k, x :: r, q, hk, h => by
    rw [lgW] at h
    split at h
    · exact lgW_formed (formed_vec _) h
    · cases h
theorem cut_formed {b : List Vc.St} {L : List (NV × Nt)} {su : Int} (h : lgR b L su = true) : lgR (kn b L su) [] 0 = true := by
  obtain ⟨hf, q, hq⟩ := lgR_some h
  have hk : kn b L su = q := by unfold kn; rw [if_pos h, hq]; rfl
  rw [hk]
  unfold lgR
  rw [lgW_formed hf hq]; rfl

set_option maxHeartbeats 16000000 in
theorem logCuts_walk (v : LV) (b : List Vc.St) (L : List (NV × Nt)) (su : Int) (w : World) (hT : Tab w) (h : LgRd w v b L) (hsz : LgSz v L) :
    Calls Tryd.prog 9 #[.agg (v.val su)] w fun e w' => e = .returned (.bool true) ∧ Below w.heap.size w w' := by
  have hb0 : Below w.heap.size w (w.alloc (.cells (v.val su) 47)) := (Below.refl _ _).alloc (Nat.le_refl _) _
  have hBx := Blk.new w 47 (v.val su)
  obtain ⟨w0, hw0⟩ : ∃ w0, w0 = w.alloc (.cells (v.val su) 47) := ⟨_, rfl⟩
  rw [← hw0] at hb0 hBx
  have h0 := h.go hb0
  have T0 := hT.below hb0
  have HW := Lib.hid hw0.symm
  have HSZ := Lib.hid hsz
  clear hw0 hT h hsz
  go_enter Tryd.func9, Tryd.ntmps9
  go_wp2_with fail
  rw [HW.out]
  refine (aliveL_any w0 T0).mono ?_
  rintro e w1 ⟨rfl, hb1⟩
  have h1 := h0.go hb1
  have T1 := T0.below hb1
  have B1 := hBx.go hb1
  have K1 := Lib.hid (below_then hb0 (Nat.le_refl _) hb1)
  have HQ := Lib.hid fun V (hb : Below w1.heap.size w1 V) => (show V.cell? ⟨w.heap.size, 0, none⟩ = some (.slice v.A v.n v.c) ∧ V.cell? ⟨w.heap.size, 1, none⟩ = some (.slice v.D v.m v.d) ∧ V.cell? ⟨w.heap.size, 2, none⟩ = some (.int .i64 su) from ⟨(B1.go hb).cell 0, (B1.go hb).cell 1, (B1.go hb).cell 2⟩)
  have f1 := fun V (hb : Below w1.heap.size w1 V) => lgSync_any v b L su V (T1.below hb) (h1.go hb) HSZ.out
  have f2 := fun V (hb : Below w1.heap.size w1 V) => refLgSync_any v b L su V (h1.go hb) HSZ.out
  have f3 := fun V (hb : Below w1.heap.size w1 V) => lgCut_any v b L su V (T1.below hb) (h1.go hb)
  have f4 := fun V (hb : Below w1.heap.size w1 V) => refLgCut_any v b L su V (h1.go hb) HSZ.out.n1
  unfold SyncP at f1 f2
  unfold CutP at f3 f4
  have HFS := Lib.hid fun (M : List (NV × Nt)) (he : syE b L su = 0) (hn : nts M = nts L) => (show lgR b M (L.length : Int) = true from sync_formed (by unfold syE at he; split at he; assumption; cases he) hn)
  have HFC := Lib.hid fun (he : syE b L su = 0) => (show lgR (kn b L su) [] 0 = true from cut_formed (by unfold syE at he; split at he; assumption; cases he))
  have HER := Lib.hid (show syE b L su = 0 ∨ syE b L su = 1 by unfold syE; split <;> simp)
  generalize syE b L su = er at f1 f2 f3 f4 HFS HFC HER
  generalize hsu : (if er = 0 then (L.length : Int) else 0) = asu at f1 f2
  generalize hbb : (if er = 0 then b else []) = bb at f1 f2
  generalize hnn : (if er = 0 then nts L else []) = nn at f1 f2
  have HFS := Lib.hid fun (M : List (NV × Nt)) (he : er = 0) (hn : nts M = nn) => (show lgR bb M asu = true from by
    have := HFS.out M he (by rw [hn, ← hnn, if_pos he])
    rw [← hbb, if_pos he, ← hsu, if_pos he]; exact this)
  generalize kn b L su = kk at f3 f4 HFC
  have HT1 := Lib.hid T1
  have F1 := Lib.hid f1
  have F2 := Lib.hid f2
  have F3 := Lib.hid f3
  have F4 := Lib.hid f4
  have k : Below w1.heap.size w1 w1 := Below.refl _ _
  obtain ⟨q0, q1, q2⟩ := HQ.out _ k
  clear h0 T0 hBx hb0 HW hb1 h1 T1 B1 f1 f2 f3 f4 hsu hbb hnn
  rcases HER.out with rfl | rfl

  · go_wp2_with fail
    refine (F1.out w1 k).mono ?_
    rintro e w2 ⟨⟨A1, n1, c1, D1, m1, d1⟩, L1, rfl, hx1, hn1, hb2⟩
    have hx1 : LgRd w2 ⟨A1, n1, c1, D1, m1, d1⟩ bb L1 := hx1
    have hn1 : nts L1 = nn := hn1
    have hkA : Below w2.heap.size w2 (w2.alloc (.cells #[.slice A1 n1 c1, .slice D1 m1 d1, .int .i64 asu] 47)) := (Below.refl _ _).alloc (Nat.le_refl _) _
    have E1 := Blk.new w2 47 #[.slice A1 n1 c1, .slice D1 m1 d1, .int .i64 asu]
    obtain ⟨w3, hw3⟩ : ∃ w3, w3 = w2.alloc (.cells #[.slice A1 n1 c1, .slice D1 m1 d1, .int .i64 asu] 47) := ⟨_, rfl⟩
    rw [← hw3] at hkA E1
    have hb23 := below_then hb2 (Nat.le_refl _) hkA
    have X1 := hx1.go hkA
    have k := below_then k (Nat.le_refl _) hb23
    have HW3 := Lib.hid hw3.symm
    have HN1 := Lib.hid hn1
    clear q0 q1 q2
    obtain ⟨q0, q1, q2⟩ := HQ.out _ k
    rw [hw3] at q0 q1 q2
    clear hx1 hn1 hkA hw3 hb2 hb23
    go_wp2_with fail
    rw [HW3.out]
    refine (F2.out w3 k).mono ?_
    rintro e w4 ⟨⟨A2, n2, c2, D2, m2, d2⟩, L2, rfl, hx2, hn2, hb4⟩
    have hx2 : LgRd w4 ⟨A2, n2, c2, D2, m2, d2⟩ bb L2 := hx2
    have hn2 : nts L2 = nn := hn2
    have hkA : Below w4.heap.size w4 (w4.alloc (.cells #[.slice A2 n2 c2, .slice D2 m2 d2, .int .i64 asu] 47)) := (Below.refl _ _).alloc (Nat.le_refl _) _
    have E2 := Blk.new w4 47 #[.slice A2 n2 c2, .slice D2 m2 d2, .int .i64 asu]
    obtain ⟨w5, hw5⟩ : ∃ w5, w5 = w4.alloc (.cells #[.slice A2 n2 c2, .slice D2 m2 d2, .int .i64 asu] 47) := ⟨_, rfl⟩
    rw [← hw5] at hkA E2
    have hb45 := below_then hb4 (Nat.le_refl _) hkA
    have X2 := hx2.go hkA
    have X1 := X1.go hb45
    have E1 := E1.go hb45
    have k := below_then k (Nat.le_refl _) hb45
    have HW5 := Lib.hid hw5.symm
    have HN2 := Lib.hid hn2
    clear q0 q1 q2
    obtain ⟨q0, q1, q2⟩ := HQ.out _ k
    rw [hw5] at q0 q1 q2
    clear hx2 hn2 hkA hw5 hb4 hb45
    go_wp2_with fail
    rw [HW5.out]
    refine (F3.out w5 k).mono ?_
    rintro e w6 ⟨⟨A3, n3, c3, D3, m3, d3⟩, rfl, hx3, hb6⟩
    have hkA : Below w6.heap.size w6 (w6.alloc (.cells #[.slice A3 n3 c3, .slice D3 m3 d3, .int .i64 0] 47)) := (Below.refl _ _).alloc (Nat.le_refl _) _
    have E3 := Blk.new w6 47 #[.slice A3 n3 c3, .slice D3 m3 d3, .int .i64 0]
    obtain ⟨w7, hw7⟩ : ∃ w7, w7 = w6.alloc (.cells #[.slice A3 n3 c3, .slice D3 m3 d3, .int .i64 0] 47) := ⟨_, rfl⟩
    rw [← hw7] at hkA E3
    have hb67 := below_then hb6 (Nat.le_refl _) hkA
    have X3 := hx3.go hkA
    have X1 := X1.go hb67
    have E1 := E1.go hb67
    have X2 := X2.go hb67
    have E2 := E2.go hb67
    have k := below_then k (Nat.le_refl _) hb67
    have HW7 := Lib.hid hw7.symm
    clear q0 q1 q2
    obtain ⟨q0, q1, q2⟩ := HQ.out _ k
    rw [hw7] at q0 q1 q2
    clear hx3 hkA hw7 hb6 hb67
    go_wp2_with fail
    rw [HW7.out]
    refine (F4.out w7 k).mono ?_
    rintro e w8 ⟨⟨A4, n4, c4, D4, m4, d4⟩, rfl, hx4, hb8⟩
    have hkA : Below w8.heap.size w8 (w8.alloc (.cells #[.slice A4 n4 c4, .slice D4 m4 d4, .int .i64 0] 47)) := (Below.refl _ _).alloc (Nat.le_refl _) _
    have E4 := Blk.new w8 47 #[.slice A4 n4 c4, .slice D4 m4 d4, .int .i64 0]
    obtain ⟨w9, hw9⟩ : ∃ w9, w9 = w8.alloc (.cells #[.slice A4 n4 c4, .slice D4 m4 d4, .int .i64 0] 47) := ⟨_, rfl⟩
    rw [← hw9] at hkA E4
    have hb89 := below_then hb8 (Nat.le_refl _) hkA
    have X4 := hx4.go hkA
    have X1 := X1.go hb89
    have E1 := E1.go hb89
    have X2 := X2.go hb89
    have E2 := E2.go hb89
    have X3 := X3.go hb89
    have E3 := E3.go hb89
    have k := below_then k (Nat.le_refl _) hb89
    have HW9 := Lib.hid hw9.symm
    clear q0 q1 q2
    have HQ9 := Lib.hid fun V (hb : Below w9.heap.size w9 V) => (show (V.cell? ⟨w2.heap.size, 0, none⟩ = some (.slice A1 n1 c1) ∧ V.cell? ⟨w2.heap.size, 1, none⟩ = some (.slice D1 m1 d1) ∧ V.cell? ⟨w2.heap.size, 2, none⟩ = some (.int .i64 asu)) ∧ (V.cell? ⟨w4.heap.size, 0, none⟩ = some (.slice A2 n2 c2) ∧ V.cell? ⟨w4.heap.size, 1, none⟩ = some (.slice D2 m2 d2) ∧ V.cell? ⟨w4.heap.size, 2, none⟩ = some (.int .i64 asu)) ∧ (V.cell? ⟨w6.heap.size, 0, none⟩ = some (.slice A3 n3 c3) ∧ V.cell? ⟨w6.heap.size, 1, none⟩ = some (.slice D3 m3 d3) ∧ V.cell? ⟨w6.heap.size, 2, none⟩ = some (.int .i64 0)) ∧ (V.cell? ⟨w8.heap.size, 0, none⟩ = some (.slice A4 n4 c4) ∧ V.cell? ⟨w8.heap.size, 1, none⟩ = some (.slice D4 m4 d4) ∧ V.cell? ⟨w8.heap.size, 2, none⟩ = some (.int .i64 0)) from ⟨⟨(E1.go hb).cell 0, (E1.go hb).cell 1, (E1.go hb).cell 2⟩, ⟨(E2.go hb).cell 0, (E2.go hb).cell 1, (E2.go hb).cell 2⟩, ⟨(E3.go hb).cell 0, (E3.go hb).cell 1, (E3.go hb).cell 2⟩, ⟨(E4.go hb).cell 0, (E4.go hb).cell 1, (E4.go hb).cell 2⟩⟩)
    have g1 := fun V (hb : Below w9.heap.size w9 V) => refLgSame_any ⟨A1, n1, c1, D1, m1, d1⟩ ⟨A2, n2, c2, D2, m2, d2⟩ bb bb L1 L2 asu asu V (X1.go hb) (X2.go hb)
    rw [HN1.out, HN2.out, lgSame_self] at g1
    have g2 := fun V (hb : Below w9.heap.size w9 V) => refLgSame_any ⟨A3, n3, c3, D3, m3, d3⟩ ⟨A4, n4, c4, D4, m4, d4⟩ kk kk [] [] 0 0 V (X3.go hb) (X4.go hb)
    rw [lgSame_self] at g2
    have g3 := fun V (hb : Below w9.heap.size w9 V) => lgFormed_any ⟨A1, n1, c1, D1, m1, d1⟩ bb L1 asu V (HT1.out.below (below_then k (Nat.le_refl _) hb)) (X1.go hb)
    have g4 := fun V (hb : Below w9.heap.size w9 V) => lgFormed_any ⟨A3, n3, c3, D3, m3, d3⟩ kk [] 0 V (HT1.out.below (below_then k (Nat.le_refl _) hb)) (X3.go hb)
    rw [lgF_R, HFS.out L1 (by simp) HN1.out] at g3
    rw [lgF_R, HFC.out (by simp)] at g4
    have G1 := Lib.hid g1
    have G2 := Lib.hid g2
    have G3 := Lib.hid g3
    have G4 := Lib.hid g4
    have HFIN := Lib.hid fun V (hb : Below w9.heap.size w9 V) => below_then K1.out (Nat.le_refl _) (below_then k (Nat.le_refl _) hb)
    obtain ⟨⟨a0, a1, a2⟩, ⟨b0, b1, b2⟩, ⟨p0, p1, p2⟩, ⟨r0, r1, r2⟩⟩ := HQ9.out _ (Below.refl _ _)
    rw [hw9] at a0 a1 a2 b0 b1 b2 p0 p1 p2 r0 r1 r2
    have kk9 : Below w9.heap.size w9 w9 := Below.refl _ _
    clear hx4 hkA hw9 hb8 hb89 X1 X2 X3 X4 E1 E2 E3 E4 g1 g2 g3 g4 k
    go_wp2_with fail
    rw [HW9.out]
    go_wp2_with (first
      | (go_at_call 33; (first
        | ((with_reducible refine (G1.out _ kk9).mono ?_); rintro e w' ⟨rfl, hb'⟩; have kk9 := below_then kk9 (Nat.le_refl _) hb'; clear hb'; obtain ⟨⟨a0, a1, a2⟩, ⟨b0, b1, b2⟩, ⟨p0, p1, p2⟩, ⟨r0, r1, r2⟩⟩ := HQ9.out _ kk9)
        | ((with_reducible refine (G2.out _ kk9).mono ?_); rintro e w' ⟨rfl, hb'⟩; have kk9 := below_then kk9 (Nat.le_refl _) hb'; clear hb'; obtain ⟨⟨a0, a1, a2⟩, ⟨b0, b1, b2⟩, ⟨p0, p1, p2⟩, ⟨r0, r1, r2⟩⟩ := HQ9.out _ kk9)))
      | (go_at_call 29; (first
        | ((with_reducible refine (G3.out _ kk9).mono ?_); rintro e w' ⟨rfl, hb'⟩; have kk9 := below_then kk9 (Nat.le_refl _) hb'; clear hb'; obtain ⟨⟨a0, a1, a2⟩, ⟨b0, b1, b2⟩, ⟨p0, p1, p2⟩, ⟨r0, r1, r2⟩⟩ := HQ9.out _ kk9)
        | ((with_reducible refine (G4.out _ kk9).mono ?_); rintro e w' ⟨rfl, hb'⟩; have kk9 := below_then kk9 (Nat.le_refl _) hb'; clear hb'; obtain ⟨⟨a0, a1, a2⟩, ⟨b0, b1, b2⟩, ⟨p0, p1, p2⟩, ⟨r0, r1, r2⟩⟩ := HQ9.out _ kk9))))
    go_ret
    exact ⟨rfl, HFIN.out _ kk9⟩
  · go_wp2_with fail
    refine (F1.out w1 k).mono ?_
    rintro e w2 ⟨⟨A1, n1, c1, D1, m1, d1⟩, L1, rfl, hx1, hn1, hb2⟩
    have hx1 : LgRd w2 ⟨A1, n1, c1, D1, m1, d1⟩ bb L1 := hx1
    have hn1 : nts L1 = nn := hn1
    have hkA : Below w2.heap.size w2 (w2.alloc (.cells #[.slice A1 n1 c1, .slice D1 m1 d1, .int .i64 asu] 47)) := (Below.refl _ _).alloc (Nat.le_refl _) _
    have E1 := Blk.new w2 47 #[.slice A1 n1 c1, .slice D1 m1 d1, .int .i64 asu]
    obtain ⟨w3, hw3⟩ : ∃ w3, w3 = w2.alloc (.cells #[.slice A1 n1 c1, .slice D1 m1 d1, .int .i64 asu] 47) := ⟨_, rfl⟩
    rw [← hw3] at hkA E1
    have hb23 := below_then hb2 (Nat.le_refl _) hkA
    have X1 := hx1.go hkA
    have k := below_then k (Nat.le_refl _) hb23
    have HW3 := Lib.hid hw3.symm
    have HN1 := Lib.hid hn1
    clear q0 q1 q2
    obtain ⟨q0, q1, q2⟩ := HQ.out _ k
    rw [hw3] at q0 q1 q2
    clear hx1 hn1 hkA hw3 hb2 hb23
    go_wp2_with fail
    rw [HW3.out]
    refine (F2.out w3 k).mono ?_
    rintro e w4 ⟨⟨A2, n2, c2, D2, m2, d2⟩, L2, rfl, hx2, hn2, hb4⟩
    have hx2 : LgRd w4 ⟨A2, n2, c2, D2, m2, d2⟩ bb L2 := hx2
    have hn2 : nts L2 = nn := hn2
    have hkA : Below w4.heap.size w4 (w4.alloc (.cells #[.slice A2 n2 c2, .slice D2 m2 d2, .int .i64 asu] 47)) := (Below.refl _ _).alloc (Nat.le_refl _) _
    have E2 := Blk.new w4 47 #[.slice A2 n2 c2, .slice D2 m2 d2, .int .i64 asu]
    obtain ⟨w5, hw5⟩ : ∃ w5, w5 = w4.alloc (.cells #[.slice A2 n2 c2, .slice D2 m2 d2, .int .i64 asu] 47) := ⟨_, rfl⟩
    rw [← hw5] at hkA E2
    have hb45 := below_then hb4 (Nat.le_refl _) hkA
    have X2 := hx2.go hkA
    have X1 := X1.go hb45
    have E1 := E1.go hb45
    have k := below_then k (Nat.le_refl _) hb45
    have HW5 := Lib.hid hw5.symm
    have HN2 := Lib.hid hn2
    clear q0 q1 q2
    obtain ⟨q0, q1, q2⟩ := HQ.out _ k
    rw [hw5] at q0 q1 q2
    clear hx2 hn2 hkA hw5 hb4 hb45
    go_wp2_with fail
    rw [HW5.out]
    refine (F3.out w5 k).mono ?_
    rintro e w6 ⟨⟨A3, n3, c3, D3, m3, d3⟩, rfl, hx3, hb6⟩
    have hkA : Below w6.heap.size w6 (w6.alloc (.cells #[.slice A3 n3 c3, .slice D3 m3 d3, .int .i64 0] 47)) := (Below.refl _ _).alloc (Nat.le_refl _) _
    have E3 := Blk.new w6 47 #[.slice A3 n3 c3, .slice D3 m3 d3, .int .i64 0]
    obtain ⟨w7, hw7⟩ : ∃ w7, w7 = w6.alloc (.cells #[.slice A3 n3 c3, .slice D3 m3 d3, .int .i64 0] 47) := ⟨_, rfl⟩
    rw [← hw7] at hkA E3
    have hb67 := below_then hb6 (Nat.le_refl _) hkA
    have X3 := hx3.go hkA
    have X1 := X1.go hb67
    have E1 := E1.go hb67
    have X2 := X2.go hb67
    have E2 := E2.go hb67
    have k := below_then k (Nat.le_refl _) hb67
    have HW7 := Lib.hid hw7.symm
    clear q0 q1 q2
    obtain ⟨q0, q1, q2⟩ := HQ.out _ k
    rw [hw7] at q0 q1 q2
    clear hx3 hkA hw7 hb6 hb67
    go_wp2_with fail
    rw [HW7.out]
    refine (F4.out w7 k).mono ?_
    rintro e w8 ⟨⟨A4, n4, c4, D4, m4, d4⟩, rfl, hx4, hb8⟩
    have hkA : Below w8.heap.size w8 (w8.alloc (.cells #[.slice A4 n4 c4, .slice D4 m4 d4, .int .i64 0] 47)) := (Below.refl _ _).alloc (Nat.le_refl _) _
    have E4 := Blk.new w8 47 #[.slice A4 n4 c4, .slice D4 m4 d4, .int .i64 0]
    obtain ⟨w9, hw9⟩ : ∃ w9, w9 = w8.alloc (.cells #[.slice A4 n4 c4, .slice D4 m4 d4, .int .i64 0] 47) := ⟨_, rfl⟩
    rw [← hw9] at hkA E4
    have hb89 := below_then hb8 (Nat.le_refl _) hkA
    have X4 := hx4.go hkA
    have X1 := X1.go hb89
    have E1 := E1.go hb89
    have X2 := X2.go hb89
    have E2 := E2.go hb89
    have X3 := X3.go hb89
    have E3 := E3.go hb89
    have k := below_then k (Nat.le_refl _) hb89
    have HW9 := Lib.hid hw9.symm
    clear q0 q1 q2
    have HQ9 := Lib.hid fun V (hb : Below w9.heap.size w9 V) => (show (V.cell? ⟨w2.heap.size, 0, none⟩ = some (.slice A1 n1 c1) ∧ V.cell? ⟨w2.heap.size, 1, none⟩ = some (.slice D1 m1 d1) ∧ V.cell? ⟨w2.heap.size, 2, none⟩ = some (.int .i64 asu)) ∧ (V.cell? ⟨w4.heap.size, 0, none⟩ = some (.slice A2 n2 c2) ∧ V.cell? ⟨w4.heap.size, 1, none⟩ = some (.slice D2 m2 d2) ∧ V.cell? ⟨w4.heap.size, 2, none⟩ = some (.int .i64 asu)) ∧ (V.cell? ⟨w6.heap.size, 0, none⟩ = some (.slice A3 n3 c3) ∧ V.cell? ⟨w6.heap.size, 1, none⟩ = some (.slice D3 m3 d3) ∧ V.cell? ⟨w6.heap.size, 2, none⟩ = some (.int .i64 0)) ∧ (V.cell? ⟨w8.heap.size, 0, none⟩ = some (.slice A4 n4 c4) ∧ V.cell? ⟨w8.heap.size, 1, none⟩ = some (.slice D4 m4 d4) ∧ V.cell? ⟨w8.heap.size, 2, none⟩ = some (.int .i64 0)) from ⟨⟨(E1.go hb).cell 0, (E1.go hb).cell 1, (E1.go hb).cell 2⟩, ⟨(E2.go hb).cell 0, (E2.go hb).cell 1, (E2.go hb).cell 2⟩, ⟨(E3.go hb).cell 0, (E3.go hb).cell 1, (E3.go hb).cell 2⟩, ⟨(E4.go hb).cell 0, (E4.go hb).cell 1, (E4.go hb).cell 2⟩⟩)
    have g1 := fun V (hb : Below w9.heap.size w9 V) => refLgSame_any ⟨A1, n1, c1, D1, m1, d1⟩ ⟨A2, n2, c2, D2, m2, d2⟩ bb bb L1 L2 asu asu V (X1.go hb) (X2.go hb)
    rw [HN1.out, HN2.out, lgSame_self] at g1
    have g2 := fun V (hb : Below w9.heap.size w9 V) => refLgSame_any ⟨A3, n3, c3, D3, m3, d3⟩ ⟨A4, n4, c4, D4, m4, d4⟩ kk kk [] [] 0 0 V (X3.go hb) (X4.go hb)
    rw [lgSame_self] at g2
    have g3 := fun V (hb : Below w9.heap.size w9 V) => lgFormed_any ⟨A1, n1, c1, D1, m1, d1⟩ bb L1 asu V (HT1.out.below (below_then k (Nat.le_refl _) hb)) (X1.go hb)
    have g4 := fun V (hb : Below w9.heap.size w9 V) => lgFormed_any ⟨A3, n3, c3, D3, m3, d3⟩ kk [] 0 V (HT1.out.below (below_then k (Nat.le_refl _) hb)) (X3.go hb)
    generalize lgF bb L1 asu = z3 at g3
    generalize lgF kk [] 0 = z4 at g4
    have G1 := Lib.hid g1
    have G2 := Lib.hid g2
    have G3 := Lib.hid g3
    have G4 := Lib.hid g4
    have HFIN := Lib.hid fun V (hb : Below w9.heap.size w9 V) => below_then K1.out (Nat.le_refl _) (below_then k (Nat.le_refl _) hb)
    obtain ⟨⟨a0, a1, a2⟩, ⟨b0, b1, b2⟩, ⟨p0, p1, p2⟩, ⟨r0, r1, r2⟩⟩ := HQ9.out _ (Below.refl _ _)
    rw [hw9] at a0 a1 a2 b0 b1 b2 p0 p1 p2 r0 r1 r2
    have kk9 : Below w9.heap.size w9 w9 := Below.refl _ _
    clear hx4 hkA hw9 hb8 hb89 X1 X2 X3 X4 E1 E2 E3 E4 g1 g2 g3 g4 k
    go_wp2_with fail
    rw [HW9.out]
    go_wp2_with (first
      | (go_at_call 33; (first
        | ((with_reducible refine (G1.out _ kk9).mono ?_); rintro e w' ⟨rfl, hb'⟩; have kk9 := below_then kk9 (Nat.le_refl _) hb'; clear hb'; obtain ⟨⟨a0, a1, a2⟩, ⟨b0, b1, b2⟩, ⟨p0, p1, p2⟩, ⟨r0, r1, r2⟩⟩ := HQ9.out _ kk9)
        | ((with_reducible refine (G2.out _ kk9).mono ?_); rintro e w' ⟨rfl, hb'⟩; have kk9 := below_then kk9 (Nat.le_refl _) hb'; clear hb'; obtain ⟨⟨a0, a1, a2⟩, ⟨b0, b1, b2⟩, ⟨p0, p1, p2⟩, ⟨r0, r1, r2⟩⟩ := HQ9.out _ kk9)))
      | (go_at_call 29; (first
        | ((with_reducible refine (G3.out _ kk9).mono ?_); rintro e w' ⟨rfl, hb'⟩; have kk9 := below_then kk9 (Nat.le_refl _) hb'; clear hb'; obtain ⟨⟨a0, a1, a2⟩, ⟨b0, b1, b2⟩, ⟨p0, p1, p2⟩, ⟨r0, r1, r2⟩⟩ := HQ9.out _ kk9)
        | ((with_reducible refine (G4.out _ kk9).mono ?_); rintro e w' ⟨rfl, hb'⟩; have kk9 := below_then kk9 (Nat.le_refl _) hb'; clear hb'; obtain ⟨⟨a0, a1, a2⟩, ⟨b0, b1, b2⟩, ⟨p0, p1, p2⟩, ⟨r0, r1, r2⟩⟩ := HQ9.out _ kk9))))
    go_ret
    exact ⟨rfl, HFIN.out _ kk9⟩
end Go.Proofs.YtldcgmnfohhjbaaDoor
