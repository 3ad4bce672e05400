/- Walk over the law NoteThroughs (printed by wip/tools/genNtR.py). -/
import Derived.Test.YtnibkniggiokkaaDoorNtP
import Derived.Test.YtnibkniggiokkaaDoorNtQ
namespace Go.Proofs.YtnibkniggiokkaaDoor
open Go.RowKit
set_option maxRecDepth 100000

def thruD (x : Nt) (sp : List Sn.Sp) : Nt := if ntF x = true then thru x sp else ⟨[], [], [], []⟩
theorem through_any (v : NV) (x : Nt) (A : Option Addr) (n c : Nat) (sp : List Sn.Sp) (w : World) (hT : Tab w) (hN : NtRd w w.heap.size v x) (hl : sp.length = n) (hR : Rd w w.heap.size 2 A n c (sv sp)) :
    Calls Tryd.prog 9 #[.agg v.val, .slice A n c] w (OfP w (ntF x) (thruD x sp)) := by
  unfold thruD
  rcases hf : ntF x with _ | _
  · refine (through_no v x A n c w hT hN hf).mono ?_
    rintro e w' ⟨rfl, hb⟩
    exact OfP.mk NV0 rfl (NtRd.zero _ _) hb
  · refine (through_yes v x A n c sp w hT hN hf hl hR).mono ?_
    rintro e w' ⟨v', rfl, ho, hb⟩
    exact OfP.mk v' rfl ho.rd hb
theorem refThrough_any (v : NV) (x : Nt) (A : Option Addr) (n c : Nat) (sp : List Sn.Sp) (w : World) (hN : NtRd w w.heap.size v x) (hl : sp.length = n) (hR : Rd w w.heap.size 2 A n c (sv sp)) :
    Calls Tryd.prog 10 #[.agg v.val, .slice A n c] w (OfP w (ntF x) (thruD x sp)) := by
  unfold thruD
  rcases hf : ntF x with _ | _
  · refine (refThrough_no v x A n c w hN hf).mono ?_
    rintro e w' ⟨rfl, hb⟩
    exact OfP.mk NV0 rfl (NtRd.zero _ _) hb
  · refine (refThrough_yes v x A n c sp w hN hf hl hR).mono ?_
    rintro e w' ⟨v', rfl, ho, hb⟩
    exact OfP.mk v' rfl ho.rd hb
theorem thruD_fm (x : Nt) (sp : List Sn.Sp) (h : ntF x = true) : ntF (thruD x sp) = true := by
  unfold thruD; rw [if_pos h]; exact thru_fm sp h
theorem Blk.note {w : World} {g : Nat} {v : NV} (h : Blk w g 26 v.val) : w.cell? ⟨g, 0, none⟩ = some (.slice v.A1 v.n1 v.c1) ∧ w.cell? ⟨g, 1, none⟩ = some (.slice v.A2 v.n2 v.c2) ∧ w.cell? ⟨g, 2, none⟩ = some (.slice v.A3 v.n3 v.c3) ∧ w.cell? ⟨g, 3, none⟩ = some (.slice v.A4 v.n4 v.c4) := ⟨h.cell 0, h.cell 1, h.cell 2, h.cell 3⟩

set_option maxHeartbeats 4000000 in
theorem noteThroughs_walk (v : NV) (x : Nt) (A : Option Addr) (n c : Nat) (sp : List Sn.Sp) (w : World) (hT : Tab w) (hN : NtRd w w.heap.size v x) (hs : NtSz v) (hl : sp.length = n) (hR : Rd w w.heap.size 2 A n c (sv sp)) :
    Calls Tryd.prog 3 #[.agg v.val, .slice A n c] w fun e w' => e = .returned (.bool true) ∧ Below w.heap.size w w' := by
  have H1 := fun (W : World) (u : NV) (hT : Tab W) hN hR => through_any u x A n c sp W hT hN hl hR
  have H2 := fun (W : World) hN hR => refThrough_any v x A n c sp W hN hl hR
  have H3 := thruD_fm x sp
  generalize thruD x sp = nt at H1 H2 H3
  generalize ntF x = z at H1 H2 H3
  have G1 := Lib.hid H1
  have G2 := Lib.hid H2
  have G3 := Lib.hid H3
  clear H1 H2 H3
  have hb0 : Below w.heap.size w (w.alloc (.cells v.val 26)) := (Below.refl _ _).alloc (Nat.le_refl _) _
  have hBx := Blk.new w 26 v.val
  obtain ⟨w0, hw0⟩ : ∃ w0, w0 = w.alloc (.cells v.val 26) := ⟨_, rfl⟩
  rw [← hw0] at hb0 hBx
  have hT0 := hT.below hb0
  have hN0 := hN.go hb0
  have hR0 := hR.go hb0
  have HW := Lib.hid hw0.symm
  clear hw0 hT hN hR
  go_enter Tryd.func3, Tryd.ntmps3
  go_wp2_with fail
  rw [HW.out]
  refine (aliveN_any w0 hT0).mono ?_
  rintro e w1 ⟨rfl, hb1⟩
  have hT1 := hT0.below hb1
  have hN1 := hN0.go hb1
  have hR1 := hR0.go hb1
  have hB1 := hBx.go hb1
  have hbw1 := below_then hb0 (Nat.le_refl _) hb1
  obtain ⟨q0, q1, q2, q3⟩ := hB1.note
  clear hT0 hN0 hR0 hBx hb0 hb1 HW
  go_wp2_with fail
  refine (refNtCopy_own v x w1 hN1 hs).mono ?_
  rintro e w2 ⟨v', rfl, ho, hb2⟩
  have hM2 := ho.rd
  have hb3 : Below w2.heap.size w2 (w2.alloc (.cells v'.val 26)) := (Below.refl _ _).alloc (Nat.le_refl _) _
  have hD := Blk.new w2 26 v'.val
  clear q0 q1 q2 q3
  obtain ⟨q0, q1, q2, q3⟩ := hD.note
  obtain ⟨w3, hw3⟩ : ∃ w3, w3 = w2.alloc (.cells v'.val 26) := ⟨_, rfl⟩
  rw [← hw3] at hD hb3
  have hb23 := below_then hb2 (Nat.le_refl _) hb3
  have hT3 := hT1.below hb23
  have hN3 := hN1.go hb23
  have hR3 := hR1.go hb23
  have hB3 := hB1.go hb23
  have hM3 := hM2.go hb3
  have hbw3 := below_then hbw1 (Nat.le_refl _) hb23
  have HW := Lib.hid hw3.symm
  clear hT1 hN1 hR1 hB1 ho hb2 hb3 hM2 hb23 hbw1 hw3
  go_wp2_with fail
  rw [HW.out]
  refine (G1.out w3 v' hT3 hM3 hR3).mono ?_
  rintro e w4 ⟨v6, rfl, hK4, hb4⟩
  have hb5 : Below w4.heap.size w4 (w4.alloc (.cells v6.val 26)) := (Below.refl _ _).alloc (Nat.le_refl _) _
  have hE := Blk.new w4 26 v6.val
  have hB4 := hB3.go hb4
  have q4 := (hB4.alloc (.cells v6.val 26))
  clear q0 q1 q2 q3
  obtain ⟨q0, q1, q2, q3⟩ := q4.note
  clear q4
  obtain ⟨w5, hw5⟩ : ∃ w5, w5 = w4.alloc (.cells v6.val 26) := ⟨_, rfl⟩
  rw [← hw5] at hE hb5
  have hb45 := below_then hb4 (Nat.le_refl _) hb5
  have hT5 := hT3.below hb45
  have hN5 := hN3.go hb45
  have hR5 := hR3.go hb45
  have hM5 := hM3.go hb45
  have hK5 := hK4.go hb5
  have hB5 := hB3.go hb45
  have hD5 := hD.go hb45
  have hbw5 := below_then hbw3 (Nat.le_refl _) hb45
  clear HW
  have HW := Lib.hid hw5.symm
  clear hT3 hN3 hR3 hM3 hK4 hb4 hb5 hB4 hb45 hB3 hD hbw3 hw5
  generalize her : (if z = true then (0 : Int) else 1) = er
  have HER := Lib.hid her
  clear her
  go_wp2_with fail
  rw [HW.out]
  refine (G2.out w5 hN5 hR5).mono ?_
  rintro e w6 ⟨v8, he, hL6, hb6⟩
  rw [HER.out] at he
  subst he
  have hb7 : Below w6.heap.size w6 (w6.alloc (.cells v8.val 26)) := (Below.refl _ _).alloc (Nat.le_refl _) _
  have hF := Blk.new w6 26 v8.val
  have hE6 := hE.go hb6
  clear q0 q1 q2 q3
  have q4 := (hE6.alloc (.cells v8.val 26))
  obtain ⟨q0, q1, q2, q3⟩ := q4.note
  obtain ⟨p0, p1, p2, p3⟩ := hF.note
  clear q4
  obtain ⟨w7, hw7⟩ : ∃ w7, w7 = w6.alloc (.cells v8.val 26) := ⟨_, rfl⟩
  rw [← hw7] at hF hb7
  have hb67 := below_then hb6 (Nat.le_refl _) hb7
  have hT7 := hT5.below hb67
  have hN7 := hN5.go hb67
  have hM7 := hM5.go hb67
  have hK7 := hK5.go hb67
  have hL7 := hL6.go hb7
  have hB7 := hB5.go hb67
  have hD7 := hD5.go hb67
  have hE7 := hE.go hb67
  have hbw7 := below_then hbw5 (Nat.le_refl _) hb67
  clear HW
  have HW := Lib.hid hw7.symm
  clear hT5 hN5 hR5 hM5 hK5 hL6 hb6 hb7 hE hE6 hb67 hB5 hD5 hbw5 hw7 hF
  have H1 := refNtSame_any v6 v8 nt nt w7 hK7 hL7
  rw [ntSame_self] at H1
  have H1 := Lib.hid H1
  have H2 := fun (W : World) (hb : Below w7.heap.size w7 W) => refNtSame_any v' v x x W (hM7.go hb) (hN7.go hb)
  rw [ntSame_self] at H2
  have H2 := Lib.hid H2
  have H3 := fun (W : World) (hb : Below w7.heap.size w7 W) => noteFormed_any v6 nt W (hT7.below hb) (hK7.go hb)
  have H3 := Lib.hid H3
  clear G1 G2
  go_wp2_with fail
  rw [HW.out]
  refine H1.out.mono ?_
  rintro e w8 ⟨rfl, hb8⟩
  clear q0 q1 q2 q3 p0 p1 p2 p3
  obtain ⟨q0, q1, q2, q3⟩ := (hB7.go hb8).note
  obtain ⟨p0, p1, p2, p3⟩ := (hD7.go hb8).note
  go_wp2_with fail
  refine (H2.out w8 hb8).mono ?_
  rintro e w9 ⟨rfl, hb9⟩
  have hb9 := below_then hb8 (Nat.le_refl _) hb9
  clear q0 q1 q2 q3 p0 p1 p2 p3
  obtain ⟨q0, q1, q2, q3⟩ := (hE7.go hb9).note
  rcases z with _ | _
  · obtain rfl : er = 1 := by have := HER.out; simpa using this.symm
    go_wp2
    go_ret
    exact ⟨ret_bool (by simp), below_then hbw7 (Nat.le_refl _) hb9⟩
  · obtain rfl : er = 0 := by have := HER.out; simpa using this.symm
    go_wp2_with fail
    refine (H3.out w9 hb9).mono ?_
    rw [G3.out (by simp)]
    rintro e wa ⟨rfl, hba⟩
    go_wp2
    go_ret
    exact ⟨rfl, below_then hbw7 (Nat.le_refl _) (below_then hb9 (Nat.le_refl _) hba)⟩
end Go.Proofs.YtnibkniggiokkaaDoor
