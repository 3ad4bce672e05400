/- Walks over law04.alive and the laws NoteForms, NoteOfs. -/
import Derived.Test.YtldcgmnfohhjbaaDoorNtD
import Derived.Test.YtldcgmnfohhjbaaDoorNtB
namespace Go.Proofs.YtldcgmnfohhjbaaDoor
open Go.RowKit
set_option maxRecDepth 100000

theorem alive_ok : ofOk [(5, 0)] ((6, 1), 3, false) = true := by decide +kernel
theorem alive_end : vec (jn [[(5, 0)], [(6, 1)]]) = [(5, 0), (6, 1)] := by decide +kernel
theorem alive_nt : ofNt [(5, 0)] ((6, 1), 3, false) = ⟨[(5, 0)], [(5, 0), (6, 1)], [], [((6, 1), 3, false)]⟩ := by
  unfold ofNt; rw [if_pos alive_ok, alive_end]
theorem alive_f : ntF ⟨[(5, 0)], [(5, 0), (6, 1)], [], [((6, 1), 3, false)]⟩ = true := by decide +kernel
theorem alive_n1 : ntNews ⟨[(5, 0)], [(5, 0), (6, 1)], [], [((6, 1), 3, false)]⟩ [(5, 0)] = true := by decide +kernel
theorem alive_n2 : ntNews ⟨[(5, 0)], [(5, 0), (6, 1)], [], [((6, 1), 3, false)]⟩ [(5, 0), (6, 1)] = false := by decide +kernel

set_option maxHeartbeats 4000000 in
theorem aliveN_any (w : World) (hT : Tab w) :
    Calls Tryd.prog 10 #[] w fun e w' => e = .returned (.bool true) ∧ Below w.heap.size w w' := by
  have h1max : 1 ≤ maxLen := by unfold maxLen; omega
  obtain ⟨i0, hi0, hz0, hz1, hz2⟩ := info_parts writes_info
  have hzw : ∀ W : World, (zeroValue 26).run Tryd.prog W = .ok (.agg #[.int .i64 0, .int .i64 0, .int .i64 0, .bool false]) W := fun _ => by kernel_rfl
  have hb1 : Below w.heap.size w (w.alloc (.cells #[.int .i64 5, .int .i64 0] 24)) := (Below.refl _ _).alloc (Nat.le_refl _) _
  have hS1 := Rd.new w 24 2 1 #[.int .i64 5, .int .i64 0] rfl h1max
  have H1 := noteOf_any (some ⟨w.heap.size, 0, none⟩) 1 1 [(5, 0)] ((6, 1), 3, false) (w.alloc (.cells #[.int .i64 5, .int .i64 0] 24)) (hT.below hb1) rfl (by rw [World.size_alloc]; exact hS1) (by omega)
  rw [alive_ok, alive_nt] at H1
  have H1 := Lib.hid H1
  have HT := Lib.hid hT
  have HB1 := Lib.hid hb1
  clear hS1 hT hb1
  go_enter Tryd.func10, Tryd.ntmps10
  go_wp2_with fail
  refine H1.out.mono ?_
  rintro e w1 ⟨v, rfl, hN, hb⟩
  rw [if_pos rfl]
  obtain ⟨A1, n1, c1, A2, n2, c2, A3, n3, c3, A4, n4, c4⟩ := v
  obtain ⟨l1, r1, l2, r2, l3, r3, l4, r4⟩ := hN
  dsimp only [List.length_cons, List.length_nil] at l1 r1 l2 r2 l3 r3 l4 r4
  obtain rfl : n1 = 1 := l1.symm
  obtain rfl : n2 = 2 := l2.symm
  obtain rfl : n3 = 0 := l3.symm
  obtain rfl : n4 = 1 := l4.symm
  have hbw := below_then HB1.out (Nat.le_refl _) hb
  have hB0 := Blk.new w1 32 #[.slice A1 1 c1, .slice A2 2 c2, .slice A3 0 c3, .slice A4 1 c4]
  have hb2 : Below w1.heap.size w1 (w1.alloc (.cells #[.slice A1 1 c1, .slice A2 2 c2, .slice A3 0 c3, .slice A4 1 c4] 32)) := (Below.refl _ _).alloc (Nat.le_refl _) _
  obtain ⟨w2, hw2⟩ : ∃ w2, w2 = w1.alloc (.cells #[.slice A1 1 c1, .slice A2 2 c2, .slice A3 0 c3, .slice A4 1 c4] 32) := ⟨_, rfl⟩
  rw [← hw2] at hB0 hb2
  have hN2 : NtRd w2 w2.heap.size ⟨A1, 1, c1, A2, 2, c2, A3, 0, c3, A4, 1, c4⟩ ⟨[(5, 0)], [(5, 0), (6, 1)], [], [((6, 1), 3, false)]⟩ := ⟨rfl, r1.go hb2, rfl, r2.go hb2, rfl, r3.go hb2, rfl, r4.go hb2⟩
  have hbw2 := below_then hbw (Nat.le_refl _) hb2
  have hT2 := HT.out.below hbw2
  have HQ := Lib.hid fun W (hb : Below w2.heap.size w2 W) => (show W.cell? ⟨w1.heap.size, 0, none⟩ = some (.slice A1 1 c1) ∧ W.cell? ⟨w1.heap.size, 1, none⟩ = some (.slice A2 2 c2) ∧ W.cell? ⟨w1.heap.size, 2, none⟩ = some (.slice A3 0 c3) ∧ W.cell? ⟨w1.heap.size, 3, none⟩ = some (.slice A4 1 c4) from
    ⟨(hB0.go hb).cell 0, (hB0.go hb).cell 1, (hB0.go hb).cell 2, (hB0.go hb).cell 3⟩)
  have G1 := fun (W : World) (hb : Below w2.heap.size w2 W) => noteFormed_any ⟨A1, 1, c1, A2, 2, c2, A3, 0, c3, A4, 1, c4⟩ _ W (hT2.below hb) (hN2.go hb)
  have G2 := fun (W : World) (hb : Below w2.heap.size w2 W) => news_any ⟨A1, 1, c1, A2, 2, c2, A3, 0, c3, A4, 1, c4⟩ _ A1 1 c1 [(5, 0)] W (hT2.below hb) (hN2.go hb) rfl (hN2.go hb).r1
  have G3 := fun (W : World) (hb : Below w2.heap.size w2 W) => news_any ⟨A1, 1, c1, A2, 2, c2, A3, 0, c3, A4, 1, c4⟩ _ A2 2 c2 [(5, 0), (6, 1)] W (hT2.below hb) (hN2.go hb) rfl (hN2.go hb).r2
  rw [alive_f] at G1
  rw [alive_n1] at G2
  rw [alive_n2] at G3
  have G1 := Lib.hid G1
  have G2 := Lib.hid G2
  have G3 := Lib.hid G3
  have k : Below w2.heap.size w2 w2 := Below.refl _ _
  obtain ⟨q0, q1, q2, q3⟩ := HQ.out _ k
  have HW := Lib.hid hw2.symm
  clear l1 l2 l3 l4 r1 r2 r3 r4 hB0 hN2 hT2 hbw hb hb2 H1 hw2
  go_wp2_with fail
  rw [HW.out]
  go_wp2_with (first
    | (go_at_call 17; go_must (refine (G1.out _ k).mono ?_); rintro e w' ⟨rfl, hb'⟩; have k := below_then k (Nat.le_refl _) hb'; clear hb'; obtain ⟨q0, q1, q2, q3⟩ := HQ.out _ k)
    | (go_at_call 21; (first
      | ((with_reducible refine (G2.out _ k).mono ?_); rintro e w' ⟨rfl, hb'⟩; have k := below_then k (Nat.le_refl _) hb'; clear hb'; obtain ⟨q0, q1, q2, q3⟩ := HQ.out _ k)
      | ((with_reducible refine (G3.out _ k).mono ?_); rintro e w' ⟨rfl, hb'⟩; have k := below_then k (Nat.le_refl _) hb'; clear hb'; obtain ⟨q0, q1, q2, q3⟩ := HQ.out _ k))))
  go_ret
  exact ⟨rfl, below_then hbw2 (Nat.le_refl _) k⟩

set_option maxHeartbeats 4000000 in
theorem noteForms_walk (v : NV) (x : Nt) (A : Option Addr) (n c : Nat) (u : List Vc.St) (w : World) (hT : Tab w) (hN : NtRd w w.heap.size v x) (hs : NtSz v) (hl : u.length = n) (hR : Rd w w.heap.size 2 A n c (sv u)) :
    Calls Tryd.prog 4 #[.agg v.val, .slice A n c] w fun e w' => e = .returned (.bool true) ∧ Below w.heap.size w w' := by
  have hb0 : Below w.heap.size w (w.alloc (.cells v.val 32)) := (Below.refl _ _).alloc (Nat.le_refl _) _
  have hBx := Blk.new w 32 v.val
  obtain ⟨w0, hw0⟩ : ∃ w0, w0 = w.alloc (.cells v.val 32) := ⟨_, rfl⟩
  rw [← hw0] at hb0 hBx
  have hN0 := hN.go hb0
  have hT0 := hT.below hb0
  have hR0 := hR.go hb0
  have HW := Lib.hid hw0.symm
  have HL := Lib.hid hl
  have HSZ := Lib.hid hs
  clear hw0 hN hT hR hl hs
  go_enter Tryd.func4, Tryd.ntmps4
  go_wp2_with fail
  rw [HW.out]
  refine (aliveN_any w0 hT0).mono ?_
  rintro e w1 ⟨rfl, hb1⟩
  have hN1 := hN0.go hb1
  have hT1 := hT0.below hb1
  have hR1 := hR0.go hb1
  have hB1 := hBx.go hb1
  have hbw1 := below_then hb0 (Nat.le_refl _) hb1
  have q0 := hB1.cell 0
  have q1 := hB1.cell 1
  have q2 := hB1.cell 2
  have q3 := hB1.cell 3
  clear hN0 hT0 hR0 hBx hb0 hb1 HW
  go_wp2_with fail
  refine (refNtCopy_any v x w1 hN1 HSZ.out).mono ?_
  rintro e w2 ⟨v', rfl, hM, hb2⟩
  have hN2 := hN1.go hb2
  have hT2 := hT1.below hb2
  have hR2 := hR1.go hb2
  have hB2 := hB1.go hb2
  have hbw2 := below_then hbw1 (Nat.le_refl _) hb2
  have hb3 : Below w2.heap.size w2 (w2.alloc (.cells v'.val 32)) := (Below.refl _ _).alloc (Nat.le_refl _) _
  have hD0 := Blk.new w2 32 v'.val
  obtain ⟨w3, hw3⟩ : ∃ w3, w3 = w2.alloc (.cells v'.val 32) := ⟨_, rfl⟩
  rw [← hw3] at hb3 hD0
  have hN3 := hN2.go hb3
  have hM3 := hM.go hb3
  have hT3 := hT2.below hb3
  have hR3 := hR2.go hb3
  have hB3 := hB2.go hb3
  have hbw3 := below_then hbw2 (Nat.le_refl _) hb3
  have HQ := Lib.hid fun W (hb : Below w3.heap.size w3 W) => (show (W.cell? ⟨w.heap.size, 0, none⟩ = some (.slice v.A1 v.n1 v.c1) ∧ W.cell? ⟨w.heap.size, 1, none⟩ = some (.slice v.A2 v.n2 v.c2) ∧ W.cell? ⟨w.heap.size, 2, none⟩ = some (.slice v.A3 v.n3 v.c3) ∧ W.cell? ⟨w.heap.size, 3, none⟩ = some (.slice v.A4 v.n4 v.c4)) ∧
      (W.cell? ⟨w2.heap.size, 0, none⟩ = some (.slice v'.A1 v'.n1 v'.c1) ∧ W.cell? ⟨w2.heap.size, 1, none⟩ = some (.slice v'.A2 v'.n2 v'.c2) ∧ W.cell? ⟨w2.heap.size, 2, none⟩ = some (.slice v'.A3 v'.n3 v'.c3) ∧ W.cell? ⟨w2.heap.size, 3, none⟩ = some (.slice v'.A4 v'.n4 v'.c4)) from
    ⟨⟨(hB3.go hb).cell 0, (hB3.go hb).cell 1, (hB3.go hb).cell 2, (hB3.go hb).cell 3⟩, ⟨(hD0.go hb).cell 0, (hD0.go hb).cell 1, (hD0.go hb).cell 2, (hD0.go hb).cell 3⟩⟩)
  have H1 := Lib.hid fun (W : World) (hb : Below w3.heap.size w3 W) => noteFormed_any v' x W (hT3.below hb) (hM3.go hb)
  have H2 := Lib.hid fun (W : World) (hb : Below w3.heap.size w3 W) => refNoteFormed_any v x W (hN3.go hb)
  have H3 := Lib.hid fun (W : World) (hb : Below w3.heap.size w3 W) => fits_any v' x A n c u W (hT3.below hb) (hM3.go hb) HL.out (hR3.go hb)
  have H4 := Lib.hid fun (W : World) (hb : Below w3.heap.size w3 W) => refFits_any v x A n c u W (hN3.go hb) HL.out (hR3.go hb)
  have H5 := Lib.hid fun (W : World) (hb : Below w3.heap.size w3 W) => news_any v' x A n c u W (hT3.below hb) (hM3.go hb) HL.out (hR3.go hb)
  have H6 := Lib.hid fun (W : World) (hb : Below w3.heap.size w3 W) => refNews_any v x A n c u W (hN3.go hb) HL.out (hR3.go hb)
  have H7 := fun (W : World) (hb : Below w3.heap.size w3 W) => refNtSame_any v' v x x W (hM3.go hb) (hN3.go hb)
  rw [ntSame_self] at H7
  have G7 := Lib.hid H7
  generalize ntF x = z1 at H1 H2
  generalize ntFits x u = z2 at H3 H4
  generalize ntNews x u = z3 at H5 H6
  have HW3 := Lib.hid hw3.symm
  have k0 : Below w3.heap.size w3 w3.drew := (Below.refl _ w3).drew
  clear q0 q1 q2 q3 hN1 hT1 hR1 hB1 hbw1 hb2 hN2 hT2 hR2 hB2 hbw2 hb3 hD0 hN3 hM3 hT3 hR3 hB3 hM H7 hw3
  go_wp2_with fail
  rw [HW3.out]
  refine region_nrm fun K hK => ?_
  go_region_held3 (fun W => (W.cell? ⟨w.heap.size, 0, none⟩ = some (.slice v.A1 v.n1 v.c1) ∧ W.cell? ⟨w.heap.size, 1, none⟩ = some (.slice v.A2 v.n2 v.c2) ∧ W.cell? ⟨w.heap.size, 2, none⟩ = some (.slice v.A3 v.n3 v.c3) ∧ W.cell? ⟨w.heap.size, 3, none⟩ = some (.slice v.A4 v.n4 v.c4)) ∧
      (W.cell? ⟨w2.heap.size, 0, none⟩ = some (.slice v'.A1 v'.n1 v'.c1) ∧ W.cell? ⟨w2.heap.size, 1, none⟩ = some (.slice v'.A2 v'.n2 v'.c2) ∧ W.cell? ⟨w2.heap.size, 2, none⟩ = some (.slice v'.A3 v'.n3 v'.c3) ∧ W.cell? ⟨w2.heap.size, 3, none⟩ = some (.slice v'.A4 v'.n4 v'.c4))) (first | exact HQ.out _ ‹_› | go_keep) (first
    | (go_at_call 17; go_must (refine (H1.out _ k0).mono ?_); rintro e w4 ⟨rfl, hb4⟩; have k1 := below_then k0 (Nat.le_refl _) hb4)
    | (go_at_call 18; go_must (refine (H2.out _ k1).mono ?_); rintro e w5 ⟨rfl, hb5⟩; have k2 := below_then k1 (Nat.le_refl _) hb5)
    | (go_at_call 19; go_must (refine (H3.out _ k2).mono ?_); rintro e w6 ⟨rfl, hb6⟩; have k3 := below_then k2 (Nat.le_refl _) hb6)
    | (go_at_call 20; go_must (refine (H4.out _ k3).mono ?_); rintro e w7 ⟨rfl, hb7⟩; have k4 := below_then k3 (Nat.le_refl _) hb7)
    | (go_at_call 21; go_must (refine (H5.out _ k4).mono ?_); rintro e w8 ⟨rfl, hb8⟩; have k5 := below_then k4 (Nat.le_refl _) hb8)
    | (go_at_call 22; go_must (refine (H6.out _ k5).mono ?_); rintro e w9 ⟨rfl, hb9⟩; have k6 := below_then k5 (Nat.le_refl _) hb9)
    | (go_at_call 14; go_must (refine (G7.out _ k6).mono ?_); rintro e w10 ⟨rfl, hb10⟩; have k7 := below_then k6 (Nat.le_refl _) hb10))
  refine Nrm.out (hK _ _ ?_)
  go_wp2
  go_ret
  exact ⟨ret_bool (by simp), below_then hbw3 (Nat.le_refl _) k7⟩
end Go.Proofs.YtldcgmnfohhjbaaDoor
