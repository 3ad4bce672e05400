/- Walks over law15.alive and the laws LogForms, LogAppends, LogCuts (printed by wip/tools/genLgL.py). -/
import Derived.Test.YtldcgmnfohhjbaaDoorLgK
namespace Go.Proofs.YtldcgmnfohhjbaaDoor
open Go.RowKit
set_option maxRecDepth 100000

theorem lgR_congr {b : List Vc.St} {L M : List (NV × Nt)} {su : Int} (h : nts L = nts M) : lgR b L su = lgR b M su := by
  unfold lgR
  rw [h, show L.length = M.length by rw [← nts_len, h, nts_len]]
theorem lgP_congr {b : List Vc.St} {L M : List (NV × Nt)} {su : Int} {u : List Vc.St} (h : nts L = nts M) : lgP b L su u = lgP b M su u := by
  unfold lgP; rw [lgR_congr h, h]
theorem kn_congr {b : List Vc.St} {L M : List (NV × Nt)} {su : Int} (h : nts L = nts M) : kn b L su = kn b M su := by
  unfold kn; rw [lgR_congr h, h]
theorem appE_congr {b : List Vc.St} {L M : List (NV × Nt)} {su : Int} {x : Nt} (h : nts L = nts M) : appE b L su x = appE b M su x := by
  unfold appE; rw [lgR_congr h, h]
theorem knownR_kn {w w' : World} {b : List Vc.St} {L : List (NV × Nt)} {su : Int} {e : Ending} (h : KnownR w b L su e w') : ∃ K kc, e = .returned (.slice K (kn b L su).length kc) ∧ Rd w' w'.heap.size 2 K (kn b L su).length kc (sv (kn b L su)) ∧ Below w.heap.size w w' := by
  rcases h with ⟨h1, q, K, kc, h2, h3, h4, h5⟩ | ⟨h1, h2, h3⟩
  · have : kn b L su = q := by unfold kn; rw [if_pos h1, h2]; rfl
    rw [this]; exact ⟨K, kc, h3, h4, h5⟩
  · have : kn b L su = [] := by unfold kn; rw [if_neg (by rw [h1]; simp)]
    rw [this]; exact ⟨none, 0, h2, Rd.none_, h3⟩
/-- What is appended is a log. -/
theorem app_formed {b : List Vc.St} {L L' : List (NV × Nt)} {su : Int} {x : Nt} (h : appE b L su x = 0) (hn : nts L' = nts L ++ [x]) : lgR b L' su = true := by
  unfold appE at h
  rcases hr : lgR b L su with _ | _
  · rw [hr] at h; simp at h
  · rcases hf : ntF x with _ | _
    · rw [hf] at h; simp at h
    · obtain ⟨hfm, q, hq⟩ := lgR_some hr
      rw [hr, hf, hq] at h
      rcases ht : ntFits x q with _ | _
      · have h : (if ntFits x q = true then (0 : Int) else 3) = 0 := h
        rw [ht] at h; simp at h
      · have hs : 0 ≤ su ∧ su ≤ L.length := by
          simp only [lgR, Bool.and_eq_true, decide_eq_true_eq] at hr
          exact ⟨hr.2.1, hr.2.2.1⟩
        have hl : L'.length = L.length + 1 := by rw [← nts_len, hn, List.length_append, nts_len]; rfl
        unfold lgR
        rw [hfm, hn, lgW_app hq hf ht, decide_eq_true hs.1, decide_eq_true (by rw [hl]; omega)]; rfl

def aX : Nt := ⟨[(1, 0)], [(2, 0)], [], []⟩
def aL : List (NV × Nt) := [(NV0, aX)]
theorem alive_e : appE [(1, 0)] [] 0 aX = 0 := by decide +kernel
theorem alive_p : lgP [(1, 0)] aL 0 [(2, 0)] = (1, 0) := by decide +kernel
theorem alive_k : (kn [(1, 0)] aL 0).length = 1 := by decide +kernel

set_option maxHeartbeats 8000000 in
theorem aliveL_any (w : World) (hT : Tab w) :
    Calls Tryd.prog 25 #[] w fun e w' => e = .returned (.bool true) ∧ Below w.heap.size w w' := by
  have h1max : 1 ≤ maxLen := by unfold maxLen; omega
  have hzl : ∀ W : World, (zeroValue 47).run Tryd.prog W = .ok (.agg #[.slice none 0 0, .slice none 0 0, .int .i64 0]) W := fun _ => by kernel_rfl
  have hzn : ∀ W : World, (zeroValue 32).run Tryd.prog W = .ok (.agg #[.slice none 0 0, .slice none 0 0, .slice none 0 0, .slice none 0 0]) W := fun _ => by kernel_rfl
  have hzs : ∀ W : World, (zeroValue 24).run Tryd.prog W = .ok (.agg #[.int .i64 0, .int .i64 0]) W := fun _ => by kernel_rfl
  have hb1 : Below w.heap.size w (w.alloc (.cells #[.int .i64 1, .int .i64 0] 24)) := (Below.refl _ _).alloc (Nat.le_refl _) _
  have hb2 : Below w.heap.size w ((w.alloc (.cells #[.int .i64 1, .int .i64 0] 24)).alloc (.cells #[.int .i64 1, .int .i64 0] 24)) := hb1.alloc hb1.size _
  have hb3 : Below w.heap.size w (((w.alloc (.cells #[.int .i64 1, .int .i64 0] 24)).alloc (.cells #[.int .i64 1, .int .i64 0] 24)).alloc (.cells #[.int .i64 2, .int .i64 0] 24)) := hb2.alloc hb2.size _
  have s1 : At (w.alloc (.cells #[.int .i64 1, .int .i64 0] 24)) 2 (some ⟨w.heap.size, 0, none⟩) 1 1 (sv [(1, 0)]) := newRow 2 1 ((Below.refl _ w).alloc (Nat.le_refl _) _) rfl h1max
  have s2 : At ((w.alloc (.cells #[.int .i64 1, .int .i64 0] 24)).alloc (.cells #[.int .i64 1, .int .i64 0] 24)) 2 (some ⟨w.heap.size + 1, 0, none⟩) 1 1 (sv [(1, 0)]) := by
    have := newRow (W := w.alloc (.cells #[.int .i64 1, .int .i64 0] 24)) (t := 24) (cs := #[.int .i64 1, .int .i64 0]) 2 1 ((Below.refl _ _).alloc (Nat.le_refl _) _) rfl h1max
    unfold At; simp only [World.size_alloc] at this ⊢; exact this
  have s3 : At (((w.alloc (.cells #[.int .i64 1, .int .i64 0] 24)).alloc (.cells #[.int .i64 1, .int .i64 0] 24)).alloc (.cells #[.int .i64 2, .int .i64 0] 24)) 2 (some ⟨w.heap.size + 1 + 1, 0, none⟩) 1 1 (sv [(2, 0)]) := by
    have := newRow (W := (w.alloc (.cells #[.int .i64 1, .int .i64 0] 24)).alloc (.cells #[.int .i64 1, .int .i64 0] 24)) (t := 24) (cs := #[.int .i64 2, .int .i64 0]) 2 1 ((Below.refl _ _).alloc (Nat.le_refl _) _) rfl h1max
    unfold At; simp only [World.size_alloc] at this ⊢; exact this
  have s2 := s2.go (then_alloc hb2 (.cells #[.int .i64 2, .int .i64 0] 24))
  have s1 := (s1.go (then_alloc hb1 (.cells #[.int .i64 1, .int .i64 0] 24))).go (then_alloc hb2 (.cells #[.int .i64 2, .int .i64 0] 24))
  obtain ⟨W, hW⟩ : ∃ W, W = ((w.alloc (.cells #[.int .i64 1, .int .i64 0] 24)).alloc (.cells #[.int .i64 1, .int .i64 0] 24)).alloc (.cells #[.int .i64 2, .int .i64 0] 24) := ⟨_, rfl⟩
  rw [← hW] at s1 s2 s3 hb3
  have f1 := lgAppend_any ⟨some ⟨w.heap.size, 0, none⟩, 1, 1, none, 0, 0⟩ [(1, 0)] [] 0 ⟨some ⟨w.heap.size + 1, 0, none⟩, 1, 1, some ⟨w.heap.size + 1 + 1, 0, none⟩, 1, 1, none, 0, 0, none, 0, 0⟩ aX W (hT.below hb3)
    ⟨rfl, s1, ⟨rfl, Rd.none_, fun p hp => by cases hp⟩⟩ ⟨by show (1 : Nat) ≤ _; omega, by show (0 : Nat) ≤ _; omega, fun p hp => by cases hp⟩ ⟨rfl, s2, rfl, s3, rfl, Rd.none_, rfl, Rd.none_⟩ ⟨by show (1 : Nat) ≤ _; omega, by show (1 : Nat) ≤ _; omega, by show (0 : Nat) ≤ _; omega, by show (0 : Nat) ≤ _; omega⟩
  unfold AppP at f1
  rw [alive_e, show appS 0 0 = (0 : Int) from rfl] at f1
  have H1 := Lib.hid f1
  have HT := Lib.hid hT
  have HB3 := Lib.hid hb3
  have HW := Lib.hid hW.symm
  clear f1 s1 s2 s3 hb1 hb2 hb3 hT hW
  go_enter Tryd.func25, Tryd.ntmps25
  go_wp2_with fail
  rw [HW.out]
  refine H1.out.mono ?_
  rintro e w1 ⟨⟨A, n, c, D, m, d⟩, L', rfl, hL, hn, hb⟩
  have hn : nts L' = nts aL := hn
  have hL : LgRd w1 ⟨A, n, c, D, m, d⟩ [(1, 0)] L' := hL
  have e1 : 1 = n := hL.l1
  have e2 : L'.length = m := hL.ns.len
  have e3 : L'.length = 1 := by rw [← nts_len, hn]; rfl
  obtain rfl : n = 1 := e1.symm
  obtain rfl : m = 1 := by omega
  have hsz : LgSz ⟨A, 1, c, D, 1, d⟩ L' := ⟨by show (1 : Nat) ≤ _; omega, by show (1 : Nat) ≤ _; omega, fun p hp => by
    obtain ⟨i, hi, rfl⟩ := List.getElem_of_mem hp
    have hx : L'[i].2 = aX := by
      rw [← nts_at L' i hi]
      have h2 : (nts L')[i]'(by rw [nts_len]; exact hi) = (nts aL)[i]'(by rw [← hn, nts_len]; exact hi) := List.getElem_of_eq hn _
      obtain rfl : i = 0 := by omega
      rw [h2]; rfl
    have r := hL.ns.each _ (List.getElem_mem hi)
    rw [hx] at r
    exact ⟨by rw [← r.l1]; decide, by rw [← r.l2]; decide, by rw [← r.l3]; decide, by rw [← r.l4]; decide⟩⟩
  have hbw := below_then HB3.out (Nat.le_refl _) hb
  have hkA : Below w1.heap.size w1 (w1.alloc (.cells #[.slice A 1 c, .slice D 1 d, .int .i64 0] 47)) := (Below.refl _ _).alloc (Nat.le_refl _) _
  have hX := Blk.new w1 47 #[.slice A 1 c, .slice D 1 d, .int .i64 0]
  have s4 : At ((w1.alloc (.cells #[.slice A 1 c, .slice D 1 d, .int .i64 0] 47)).alloc (.cells #[.int .i64 2, .int .i64 0] 24)) 2 (some ⟨w1.heap.size + 1, 0, none⟩) 1 1 (sv [(2, 0)]) := by
    have := newRow (W := w1.alloc (.cells #[.slice A 1 c, .slice D 1 d, .int .i64 0] 47)) (t := 24) (cs := #[.int .i64 2, .int .i64 0]) 2 1 ((Below.refl _ _).alloc (Nat.le_refl _) _) rfl h1max
    unfold At; simp only [World.size_alloc] at this ⊢; exact this
  have hk2 := hkA.alloc hkA.size (.cells #[.int .i64 2, .int .i64 0] 24)
  have hX2 := hX.alloc (.cells #[.int .i64 2, .int .i64 0] 24)
  obtain ⟨W2, hW2⟩ : ∃ W2, W2 = (w1.alloc (.cells #[.slice A 1 c, .slice D 1 d, .int .i64 0] 47)).alloc (.cells #[.int .i64 2, .int .i64 0] 24) := ⟨_, rfl⟩
  rw [← hW2] at hk2 hX2 s4
  have hbw2 := below_then hbw (Nat.le_refl _) hk2
  have hL2 := hL.go hk2
  have f2 := lgPlace_any ⟨A, 1, c, D, 1, d⟩ [(1, 0)] L' 0 (some ⟨w1.heap.size + 1, 0, none⟩) 1 1 [(2, 0)] W2 (HT.out.below hbw2) hL2 hsz rfl s4
  rw [lgP_congr hn, alive_p] at f2
  have H2 := Lib.hid f2
  have H3 := Lib.hid fun (V : World) (hv : Below W2.heap.size W2 V) => lgKnown_any ⟨A, 1, c, D, 1, d⟩ [(1, 0)] L' 0 V ((HT.out.below hbw2).below hv) (hL2.go hv)
  have HX := Lib.hid hX2
  have HB := Lib.hid hbw2
  have HW2 := Lib.hid hW2.symm
  have HK := Lib.hid (show (kn [(1, 0)] L' 0).length = 1 by rw [kn_congr hn]; exact alive_k)
  clear f2 hn hL e1 e2 e3 hsz hbw hkA hX s4 hk2 hX2 hW2 hbw2 hL2 hb H1
  go_wp2_with fail
  rw [HW2.out]
  refine H2.out.mono ?_
  rintro e w3 ⟨rfl, hb3⟩
  have q0 := (HX.out.go hb3).cell 0
  have q1 := (HX.out.go hb3).cell 1
  have q2 := (HX.out.go hb3).cell 2
  have HB3' := Lib.hid hb3
  clear hb3
  go_wp2_with fail
  refine ((H3.out w3 HB3'.out).mono fun _ _ h => knownR_kn (knownP_R h)).mono ?_
  rintro e w4 ⟨K, kc, rfl, hR, hb4⟩
  rw [HK.out]
  have HB4 := Lib.hid (below_then HB.out (Nat.le_refl _) (below_then HB3'.out (Nat.le_refl _) hb4))
  clear hR hb4 q0 q1 q2
  go_wp2
  go_ret
  exact ⟨rfl, HB4.out⟩


set_option maxHeartbeats 16000000 in
theorem logForms_walk (v : LV) (b : List Vc.St) (L : List (NV × Nt)) (su : Int) (E : Option Addr) (p f : Nat) (u : List Vc.St) (w : World) (hT : Tab w) (h : LgRd w v b L) (hsz : LgSz v L) (hl : u.length = p) (hR : Rd w w.heap.size 2 E p f (sv u)) :
    Calls Tryd.prog 6 #[.agg (v.val su), .slice E p f] w fun e w' => e = .returned (.bool true) ∧ Below w.heap.size w w' := by
  have hb0 : Below w.heap.size w (w.alloc (.cells (v.val su) 47)) := (Below.refl _ _).alloc (Nat.le_refl _) _
  have hBx := Blk.new w 47 (v.val su)
  obtain ⟨w0, hw0⟩ : ∃ w0, w0 = w.alloc (.cells (v.val su) 47) := ⟨_, rfl⟩
  rw [← hw0] at hb0 hBx
  have h0 := h.go hb0
  have T0 := hT.below hb0
  have R0 := hR.go hb0
  have HW := Lib.hid hw0.symm
  have HL := Lib.hid hl
  clear hw0 hT h hR hl
  go_enter Tryd.func6, Tryd.ntmps6
  go_wp2_with fail
  rw [HW.out]
  refine (aliveL_any w0 T0).mono ?_
  rintro e w1 ⟨rfl, hb1⟩
  have h1 := h0.go hb1
  have T1 := T0.below hb1
  have R1 := R0.go hb1
  have B1 := hBx.go hb1
  have k1 := below_then hb0 (Nat.le_refl _) hb1
  have q0 := B1.cell 0
  have q1 := B1.cell 1
  have q2 := B1.cell 2
  clear h0 T0 R0 hBx hb0 hb1 HW
  go_wp2_with fail
  refine (refLgCopy_own v b L su w1 h1 hsz).mono ?_
  rintro e w2 ⟨v', L', rfl, hO, hnL, hb2⟩
  have hm := hO.rd
  have hsz' := hsz.of_rd h1 hm hnL
  have hkA : Below w2.heap.size w2 (w2.alloc (.cells (v'.val su) 47)) := (Below.refl _ _).alloc (Nat.le_refl _) _
  have D2 := Blk.new w2 47 (v'.val su)
  obtain ⟨w3, hw3⟩ : ∃ w3, w3 = w2.alloc (.cells (v'.val su) 47) := ⟨_, rfl⟩
  rw [← hw3] at hkA D2
  have hb3 := below_then hb2 (Nat.le_refl _) hkA
  have h3 := h1.go hb3
  have m3 := hm.go hkA
  have T3 := T1.below hb3
  have R3 := R1.go hb3
  have B3 := B1.go hb3
  have k3 := below_then k1 (Nat.le_refl _) hb3
  have HW3 := Lib.hid hw3.symm
  have HNL := Lib.hid hnL
  have q0 := (B1.go hb2).cell 0
  have q1 := (B1.go hb2).cell 1
  have q2 := (B1.go hb2).cell 2
  have f1 := lgPlace_any v' b L' su E p f u w3 T3 m3 hsz' HL.out R3
  rw [lgP_congr hnL] at f1
  have HQ := Lib.hid fun V (hb : Below w3.heap.size w3 V) => (show (V.cell? ⟨w.heap.size, 0, none⟩ = some (.slice v.A v.n v.c) ∧ V.cell? ⟨w.heap.size, 1, none⟩ = some (.slice v.D v.m v.d) ∧ V.cell? ⟨w.heap.size, 2, none⟩ = some (.int .i64 su)) ∧ (V.cell? ⟨w2.heap.size, 0, none⟩ = some (.slice v'.A v'.n v'.c) ∧ V.cell? ⟨w2.heap.size, 1, none⟩ = some (.slice v'.D v'.m v'.d) ∧ V.cell? ⟨w2.heap.size, 2, none⟩ = some (.int .i64 su)) from
    ⟨⟨(B3.go hb).cell 0, (B3.go hb).cell 1, (B3.go hb).cell 2⟩, ⟨(D2.go hb).cell 0, (D2.go hb).cell 1, (D2.go hb).cell 2⟩⟩)
  have f2 := fun V (hb : Below w3.heap.size w3 V) => refLgPlace_any v b L su E p f u V (h3.go hb) HL.out (R3.go hb)
  have G3 := fun V (hb : Below w3.heap.size w3 V) => lgFormed_any v' b L' su V (T3.below hb) (m3.go hb)
  have G4 := fun V (hb : Below w3.heap.size w3 V) => refLgFormed_any v b L su V (h3.go hb)
  have G5 := fun V (hb : Below w3.heap.size w3 V) => (lgKnown_any v' b L' su V (T3.below hb) (m3.go hb)).mono fun _ _ h => knownR_kn (knownP_R h)
  have G6 := fun V (hb : Below w3.heap.size w3 V) => (refLgKnown_any v b L su V (h3.go hb) hsz.n1).mono fun _ _ h => knownR_kn h
  have G7 := fun V (hb : Below w3.heap.size w3 V) => refLgSame_any v' v b b L' L su su V (m3.go hb) (h3.go hb)
  rw [lgF_R, lgR_congr hnL] at G3
  rw [kn_congr hnL] at G5
  rw [hnL, lgSame_self] at G7
  generalize lgP b L su u = pl at f1 f2
  generalize lgR b L su = z at G3 G4
  generalize hkk : kn b L su = kk at G5 G6
  obtain ⟨kl, hkl⟩ : ∃ kl, kl = kk.length := ⟨_, rfl⟩
  rw [← hkl] at G5 G6
  have HKL := Lib.hid hkl.symm
  have F1 := Lib.hid f1
  have F2 := Lib.hid f2
  have G3 := Lib.hid G3
  have G4 := Lib.hid G4
  have G5 := Lib.hid G5
  have G6 := Lib.hid G6
  have G7 := Lib.hid G7
  have K3 := Lib.hid k3
  clear h1 T1 R1 B1 k1 hm hsz' hkA D2 hb2 hb3 h3 m3 T3 R3 B3 k3 hnL hO hw3 f1 f2 hkk hkl
  go_wp2_with fail
  rw [HW3.out]
  refine F1.out.mono ?_
  rintro e w4 ⟨rfl, hb4⟩
  clear q0 q1 q2
  obtain ⟨⟨q0, q1, q2⟩, _⟩ := HQ.out _ hb4
  have HB4 := Lib.hid hb4
  clear hb4
  go_wp2_with fail
  refine (F2.out w4 HB4.out).mono ?_
  rintro e w5 ⟨rfl, hb5⟩
  have k : Below w3.heap.size w3 w5.drew := (below_then HB4.out (Nat.le_refl _) hb5).drew
  clear hb5 q0 q1 q2
  go_wp2_with fail
  refine region_nrm fun KK hKK => ?_
  refine wp_region_held_drew (S := (fun V => (V.cell? ⟨w.heap.size, 0, none⟩ = some (.slice v.A v.n v.c) ∧ V.cell? ⟨w.heap.size, 1, none⟩ = some (.slice v.D v.m v.d) ∧ V.cell? ⟨w.heap.size, 2, none⟩ = some (.int .i64 su)) ∧ (V.cell? ⟨w2.heap.size, 0, none⟩ = some (.slice v'.A v'.n v'.c) ∧ V.cell? ⟨w2.heap.size, 1, none⟩ = some (.slice v'.D v'.m v'.d) ∧ V.cell? ⟨w2.heap.size, 2, none⟩ = some (.int .i64 su)))) (by kernel_rfl) (by first | exact HQ.out _ k) (fun hHeld => ?_)
  refine wpAnyH_putD (i := 0) (d := 26) (v := ?_) rfl rfl (by kernel_rfl) (by kernel_rfl) (by kernel_rfl) (fun _ _ _ h => h) (Or.inl ⟨by kernel_rfl, ?_⟩) (by first | exact HQ.out _ k) ?_
  rotate_left
  · (intro w hS; (try dsimp only at hS); go_simp <;> with_reducible rfl)
  try simp only [List.setIfInBounds_toArray, List.set_cons_zero, List.set_cons_succ]
  refine wpAnyH_putD (i := 2) (d := 28) (v := ?_) rfl rfl (by kernel_rfl) (by kernel_rfl) (by kernel_rfl) (fun _ _ _ h => h) (Or.inl ⟨by kernel_rfl, ?_⟩) (by first | exact HQ.out _ k) ?_
  rotate_left
  · (intro w hS; (try dsimp only at hS); go_simp <;> with_reducible rfl)
  try simp only [List.setIfInBounds_toArray, List.set_cons_zero, List.set_cons_succ]
  refine wpAnyH_ready (rs := [1]) (by kernel_rfl) (by simp) ?_
  refine AllReadyH.cons rfl (fun K hK => ?_) AllReadyH.nil
  go_simp
  refine (G3.out _ k).mono ?_
  rintro e W1 ⟨rfl, hb'⟩
  have k := below_then k (Nat.le_refl _) hb'
  clear hb'
  refine hK.out _ _ (by first | exact HQ.out _ k) (fun hHeld => ?_)
  clear hK K
  refine wpAnyH_ready (rs := [3]) (by kernel_rfl) (by simp) ?_
  refine AllReadyH.cons rfl (fun K hK => ?_) AllReadyH.nil
  go_simp
  refine (G4.out _ k).mono ?_
  rintro e W2 ⟨rfl, hb'⟩
  have k := below_then k (Nat.le_refl _) hb'
  clear hb'
  refine hK.out _ _ (by first | exact HQ.out _ k) (fun hHeld => ?_)
  clear hK K
  refine wpAnyH_putD (i := 4) (d := 30) (v := (.bool true)) rfl rfl (by kernel_rfl) (by kernel_rfl) (by kernel_rfl) (fun _ _ _ h => h) (Or.inl ⟨by kernel_rfl, ?_⟩) (by first | exact HQ.out _ k) ?_
  · (intro w hS; (try dsimp only at hS); go_simp <;> with_reducible rfl)
  try simp only [List.setIfInBounds_toArray, List.set_cons_zero, List.set_cons_succ]
  refine wpAnyH_putD (i := 5) (d := 31) (v := ?_) rfl rfl (by kernel_rfl) (by kernel_rfl) (by kernel_rfl) (fun _ _ _ h => h) (Or.inl ⟨by kernel_rfl, ?_⟩) (by first | exact HQ.out _ k) ?_
  rotate_left
  · (intro w hS; (try dsimp only at hS); go_simp <;> with_reducible rfl)
  try simp only [List.setIfInBounds_toArray, List.set_cons_zero, List.set_cons_succ]
  refine wpAnyH_putD (i := 6) (d := 32) (v := ?_) rfl rfl (by kernel_rfl) (by kernel_rfl) (by kernel_rfl) (fun _ _ _ h => h) (Or.inl ⟨by kernel_rfl, ?_⟩) (by first | exact HQ.out _ k) ?_
  rotate_left
  · (intro w hS; (try dsimp only at hS); go_simp <;> with_reducible rfl)
  try simp only [List.setIfInBounds_toArray, List.set_cons_zero, List.set_cons_succ]
  refine wpAnyH_putD (i := 8) (d := 34) (v := ?_) rfl rfl (by kernel_rfl) (by kernel_rfl) (by kernel_rfl) (fun _ _ _ h => h) (Or.inl ⟨by kernel_rfl, ?_⟩) (by first | exact HQ.out _ k) ?_
  rotate_left
  · (intro w hS; (try dsimp only at hS); go_simp <;> with_reducible rfl)
  try simp only [List.setIfInBounds_toArray, List.set_cons_zero, List.set_cons_succ]
  refine wpAnyH_ready (rs := [7]) (by kernel_rfl) (by simp) ?_
  refine AllReadyH.cons rfl (fun K hK => ?_) AllReadyH.nil
  go_simp
  refine (G5.out _ k).mono ?_
  rintro e W3 ⟨K1, c1, rfl, r1, hb'⟩
  have S1 := Lib.hid r1
  have k := below_then k (Nat.le_refl _) hb'
  clear hb' r1
  refine hK.out _ _ (by first | exact HQ.out _ k) (fun hHeld => ?_)
  clear hK K
  refine wpAnyH_ready (rs := [9]) (by kernel_rfl) (by simp) ?_
  refine AllReadyH.cons rfl (fun K hK => ?_) AllReadyH.nil
  go_simp
  refine (G6.out _ k).mono ?_
  rintro e W4 ⟨K2, c2, rfl, r2, hb'⟩
  have S1 := Lib.hid (S1.out.go hb')
  have S2 := Lib.hid r2
  have k := below_then k (Nat.le_refl _) hb'
  clear hb' r2
  refine hK.out _ _ (by first | exact HQ.out _ k) (fun hHeld => ?_)
  clear hK K
  refine wpAnyH_ready (rs := [10]) (by kernel_rfl) (by simp) ?_
  refine AllReadyH.cons rfl (fun K hK => ?_) AllReadyH.nil
  go_simp
  have s := same_any K1 K2 kl c1 kl c2 kk kk _ HKL.out HKL.out S1.out S2.out
  rw [decide_eq_true rfl] at s
  refine s.mono ?_
  clear s
  rintro e W5 ⟨rfl, hb'⟩
  have k := below_then k (Nat.le_refl _) hb'
  clear hb'
  refine hK.out _ _ (by first | exact HQ.out _ k) (fun hHeld => ?_)
  clear hK K
  refine wpAnyH_putD (i := 11) (d := 37) (v := ?_) rfl rfl (by kernel_rfl) (by kernel_rfl) (by kernel_rfl) (fun _ _ _ h => h) (Or.inl ⟨by kernel_rfl, ?_⟩) (by first | exact HQ.out _ k) ?_
  rotate_left
  · (intro w hS; (try dsimp only at hS); go_simp <;> with_reducible rfl)
  try simp only [List.setIfInBounds_toArray, List.set_cons_zero, List.set_cons_succ]
  refine wpAnyH_putD (i := 12) (d := 38) (v := ?_) rfl rfl (by kernel_rfl) (by kernel_rfl) (by kernel_rfl) (fun _ _ _ h => h) (Or.inl ⟨by kernel_rfl, ?_⟩) (by first | exact HQ.out _ k) ?_
  rotate_left
  · (intro w hS; (try dsimp only at hS); go_simp <;> with_reducible rfl)
  try simp only [List.setIfInBounds_toArray, List.set_cons_zero, List.set_cons_succ]
  refine wpAnyH_putD (i := 13) (d := 39) (v := ?_) rfl rfl (by kernel_rfl) (by kernel_rfl) (by kernel_rfl) (fun _ _ _ h => h) (Or.inl ⟨by kernel_rfl, ?_⟩) (by first | exact HQ.out _ k) ?_
  rotate_left
  · (intro w hS; (try dsimp only at hS); go_simp <;> with_reducible rfl)
  try simp only [List.setIfInBounds_toArray, List.set_cons_zero, List.set_cons_succ]
  refine wpAnyH_putD (i := 14) (d := 40) (v := ?_) rfl rfl (by kernel_rfl) (by kernel_rfl) (by kernel_rfl) (fun _ _ _ h => h) (Or.inl ⟨by kernel_rfl, ?_⟩) (by first | exact HQ.out _ k) ?_
  rotate_left
  · (intro w hS; (try dsimp only at hS); go_simp <;> with_reducible rfl)
  try simp only [List.setIfInBounds_toArray, List.set_cons_zero, List.set_cons_succ]
  refine wpAnyH_putD (i := 15) (d := 41) (v := (.bool true)) rfl rfl (by kernel_rfl) (by kernel_rfl) (by kernel_rfl) (fun _ _ _ h => h) (Or.inl ⟨by kernel_rfl, ?_⟩) (by first | exact HQ.out _ k) ?_
  · (intro w hS; (try dsimp only at hS); go_simp <;> with_reducible rfl)
  try simp only [List.setIfInBounds_toArray, List.set_cons_zero, List.set_cons_succ]
  refine wpAnyH_putD (i := 16) (d := 42) (v := ?_) rfl rfl (by kernel_rfl) (by kernel_rfl) (by kernel_rfl) (fun _ _ _ h => h) (Or.inl ⟨by kernel_rfl, ?_⟩) (by first | exact HQ.out _ k) ?_
  rotate_left
  · (intro w hS; (try dsimp only at hS); go_simp <;> with_reducible rfl)
  try simp only [List.setIfInBounds_toArray, List.set_cons_zero, List.set_cons_succ]
  refine wpAnyH_putD (i := 17) (d := 43) (v := ?_) rfl rfl (by kernel_rfl) (by kernel_rfl) (by kernel_rfl) (fun _ _ _ h => h) (Or.inl ⟨by kernel_rfl, ?_⟩) (by first | exact HQ.out _ k) ?_
  rotate_left
  · (intro w hS; (try dsimp only at hS); go_simp <;> with_reducible rfl)
  try simp only [List.setIfInBounds_toArray, List.set_cons_zero, List.set_cons_succ]
  refine wpAnyH_putD (i := 18) (d := 44) (v := ?_) rfl rfl (by kernel_rfl) (by kernel_rfl) (by kernel_rfl) (fun _ _ _ h => h) (Or.inl ⟨by kernel_rfl, ?_⟩) (by first | exact HQ.out _ k) ?_
  rotate_left
  · (intro w hS; (try dsimp only at hS); go_simp <;> with_reducible rfl)
  try simp only [List.setIfInBounds_toArray, List.set_cons_zero, List.set_cons_succ]
  refine wpAnyH_putD (i := 19) (d := 45) (v := ?_) rfl rfl (by kernel_rfl) (by kernel_rfl) (by kernel_rfl) (fun _ _ _ h => h) (Or.inl ⟨by kernel_rfl, ?_⟩) (by first | exact HQ.out _ k) ?_
  rotate_left
  · (intro w hS; (try dsimp only at hS); go_simp <;> with_reducible rfl)
  try simp only [List.setIfInBounds_toArray, List.set_cons_zero, List.set_cons_succ]
  refine wpAnyH_putD (i := 20) (d := 46) (v := (.bool true)) rfl rfl (by kernel_rfl) (by kernel_rfl) (by kernel_rfl) (fun _ _ _ h => h) (Or.inl ⟨by kernel_rfl, ?_⟩) (by first | exact HQ.out _ k) ?_
  · (intro w hS; (try dsimp only at hS); go_simp <;> with_reducible rfl)
  try simp only [List.setIfInBounds_toArray, List.set_cons_zero, List.set_cons_succ]
  refine wpAnyH_putD (i := 21) (d := 47) (v := ?_) rfl rfl (by kernel_rfl) (by kernel_rfl) (by kernel_rfl) (fun _ _ _ h => h) (Or.inl ⟨by kernel_rfl, ?_⟩) (by first | exact HQ.out _ k) ?_
  rotate_left
  · (intro w hS; (try dsimp only at hS); go_simp <;> with_reducible rfl)
  try simp only [List.setIfInBounds_toArray, List.set_cons_zero, List.set_cons_succ]
  refine wpAnyH_putD (i := 22) (d := 48) (v := ?_) rfl rfl (by kernel_rfl) (by kernel_rfl) (by kernel_rfl) (fun _ _ _ h => h) (Or.inl ⟨by kernel_rfl, ?_⟩) (by first | exact HQ.out _ k) ?_
  rotate_left
  · (intro w hS; (try dsimp only at hS); go_simp <;> with_reducible rfl)
  try simp only [List.setIfInBounds_toArray, List.set_cons_zero, List.set_cons_succ]
  refine wpAnyH_putD (i := 23) (d := 49) (v := ?_) rfl rfl (by kernel_rfl) (by kernel_rfl) (by kernel_rfl) (fun _ _ _ h => h) (Or.inl ⟨by kernel_rfl, ?_⟩) (by first | exact HQ.out _ k) ?_
  rotate_left
  · (intro w hS; (try dsimp only at hS); go_simp <;> with_reducible rfl)
  try simp only [List.setIfInBounds_toArray, List.set_cons_zero, List.set_cons_succ]
  refine wpAnyH_putD (i := 24) (d := 50) (v := ?_) rfl rfl (by kernel_rfl) (by kernel_rfl) (by kernel_rfl) (fun _ _ _ h => h) (Or.inl ⟨by kernel_rfl, ?_⟩) (by first | exact HQ.out _ k) ?_
  rotate_left
  · (intro w hS; (try dsimp only at hS); go_simp <;> with_reducible rfl)
  try simp only [List.setIfInBounds_toArray, List.set_cons_zero, List.set_cons_succ]
  refine wpAnyH_ready (rs := [25]) (by kernel_rfl) (by simp) ?_
  refine AllReadyH.cons rfl (fun K hK => ?_) AllReadyH.nil
  go_simp
  refine (G7.out _ k).mono ?_
  rintro e W6 ⟨rfl, hb'⟩
  have k := below_then k (Nat.le_refl _) hb'
  clear hb'
  refine hK.out _ _ (by first | exact HQ.out _ k) (fun hHeld => ?_)
  clear hK K
  refine wpAnyH_putD (i := 26) (d := 52) (v := ?_) rfl rfl (by kernel_rfl) (by kernel_rfl) (by kernel_rfl) (fun _ _ _ h => h) (Or.inl ⟨by kernel_rfl, ?_⟩) (by first | exact HQ.out _ k) ?_
  rotate_left
  · (intro w hS; (try dsimp only at hS); go_simp <;> with_reducible rfl)
  try simp only [List.setIfInBounds_toArray, List.set_cons_zero, List.set_cons_succ]
  refine wpAnyH_putD (i := 27) (d := 4) (v := ?_) rfl rfl (by kernel_rfl) (by kernel_rfl) (by kernel_rfl) (fun _ _ _ h => h) (Or.inl ⟨by kernel_rfl, ?_⟩) (by first | exact HQ.out _ k) ?_
  rotate_left
  · (intro w hS; (try dsimp only at hS); go_simp <;> with_reducible rfl)
  try simp only [List.setIfInBounds_toArray, List.set_cons_zero, List.set_cons_succ]
  refine wpAnyH_done (by kernel_rfl) ?_ _
  refine Nrm.out (hKK _ _ ?_)
  go_wp2
  go_ret
  exact ⟨rfl, below_then K3.out (Nat.le_refl _) k⟩
end Go.Proofs.YtldcgmnfohhjbaaDoor
