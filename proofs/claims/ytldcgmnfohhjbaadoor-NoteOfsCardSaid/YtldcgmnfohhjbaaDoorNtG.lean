/- Walk over the law NoteOfs. -/
import Derived.Test.YtldcgmnfohhjbaaDoorNtE
namespace Go.Proofs.YtldcgmnfohhjbaaDoor
open Go.RowKit
set_option maxRecDepth 100000

set_option maxHeartbeats 4000000 in
theorem noteOfs_walk (A : Option Addr) (n c : Nat) (u : List Vc.St) (q : Wr) (w : World) (hT : Tab w) (hl : u.length = n) (hR : Rd w w.heap.size 2 A n c (sv u)) (hn : n ≤ 8796093022208) :
    Calls Tryd.prog 3 #[.slice A n c, .agg #[.int .i64 q.1.1, .int .i64 q.1.2, .int .i64 q.2.1, .bool q.2.2]] w fun e w' => e = .returned (.bool true) ∧ Below w.heap.size w w' := by
  have hP := fun W (hT : Tab W) B c hR => noteOf_any B n c u q W hT hl hR hn
  have hP2 := fun W hR => refNoteOf_any A n c u q W hl hR hn
  generalize ofNt u q = nt at hP hP2
  generalize ofOk u q = z at hP hP2
  have G1 := Lib.hid hP
  have G2 := Lib.hid hP2
  clear hP hP2
  obtain ⟨⟨sc, sn⟩, ob, gn⟩ := q
  have hb0 : Below w.heap.size w (w.alloc (.cells #[.int .i64 sc, .int .i64 sn, .int .i64 ob, .bool gn] 26)) := (Below.refl _ _).alloc (Nat.le_refl _) _
  have hBx := Blk.new w 26 #[.int .i64 sc, .int .i64 sn, .int .i64 ob, .bool gn]
  obtain ⟨w0, hw0⟩ : ∃ w0, w0 = w.alloc (.cells #[.int .i64 sc, .int .i64 sn, .int .i64 ob, .bool gn] 26) := ⟨_, rfl⟩
  rw [← hw0] at hb0 hBx
  have hT0 := hT.below hb0
  have hR0 := hR.go hb0
  have HW := Lib.hid hw0.symm
  have HL := Lib.hid hl
  have HN := Lib.hid hn
  clear hw0 hT hR hl hn
  go_enter Tryd.func3, Tryd.ntmps3
  go_wp2_with fail
  rw [HW.out]
  refine (aliveN_any w0 hT0).mono ?_
  rintro e w1 ⟨rfl, hb1⟩
  have hT1 := hT0.below hb1
  have hR1 := hR0.go hb1
  have hB1 := hBx.go hb1
  have hbw1 := below_then hb0 (Nat.le_refl _) hb1
  clear hT0 hR0 hBx hb0 hb1 HW
  go_wp2_with fail
  refine (vcopy_any A n c (sv u) w1 hR1 (sv_oneCell u) HN.out).mono ?_
  rintro e w2 ⟨B, d, rfl, ho, hb2⟩
  have hO2 := Rd.of_own ho
  have hT2 := hT1.below hb2
  have hR2 := hR1.go hb2
  have hB2 := hB1.go hb2
  have hbw2 := below_then hbw1 (Nat.le_refl _) hb2
  have q0 := hB2.cell 0
  have q1 := hB2.cell 1
  have q2 := hB2.cell 2
  have q3 := hB2.cell 3
  clear hT1 hR1 hB1 hbw1 hb2 ho
  go_wp2_with fail
  refine (G1.out w2 hT2 B d hO2).mono ?_
  rintro e w3 ⟨v, rfl, hN3, hb3⟩
  have hO3 := hO2.go hb3
  have hR3 := hR2.go hb3
  have hB3 := hB2.go hb3
  have hbw3 := below_then hbw2 (Nat.le_refl _) hb3
  have hD := Blk.new w3 32 v.val
  have hb4 : Below w3.heap.size w3 (w3.alloc (.cells v.val 32)) := (Below.refl _ _).alloc (Nat.le_refl _) _
  obtain ⟨w4, hw4⟩ : ∃ w4, w4 = w3.alloc (.cells v.val 32) := ⟨_, rfl⟩
  rw [← hw4] at hD hb4
  have hO4 := hO3.go hb4
  have hR4 := hR3.go hb4
  have hB4 := hB3.go hb4
  have hN4 := hN3.go hb4
  have hbw4 := below_then hbw3 (Nat.le_refl _) hb4
  have HW4 := Lib.hid hw4.symm
  clear q0 q1 q2 q3
  have q0 : (w3.alloc (.cells v.val 32)).cell? ⟨w.heap.size, 0, none⟩ = some (.int .i64 sc) := (hB3.alloc _).cell 0
  have q1 : (w3.alloc (.cells v.val 32)).cell? ⟨w.heap.size, 1, none⟩ = some (.int .i64 sn) := (hB3.alloc _).cell 1
  have q2 : (w3.alloc (.cells v.val 32)).cell? ⟨w.heap.size, 2, none⟩ = some (.int .i64 ob) := (hB3.alloc _).cell 2
  have q3 : (w3.alloc (.cells v.val 32)).cell? ⟨w.heap.size, 3, none⟩ = some (.bool gn) := (hB3.alloc _).cell 3
  generalize her : (if z = true then (0 : Int) else 1) = er
  have HER := Lib.hid her
  clear her
  clear hO2 hT2 hR2 hB2 hbw2 hb3 hO3 hR3 hbw3 hb4 hN3 hw4
  go_wp2_with fail
  rw [HW4.out]
  refine (G2.out w4 hR4).mono ?_
  rintro e w5 ⟨v', he, hM5, hb5⟩
  rw [HER.out] at he
  subst he
  have hO5 := hO4.go hb5
  have hR5 := hR4.go hb5
  have hN5 := hN4.go hb5
  have hD5 := hD.go hb5
  have hbw5 := below_then hbw4 (Nat.le_refl _) hb5
  have hE := Blk.new w5 32 v'.val
  have hb6 : Below w5.heap.size w5 (w5.alloc (.cells v'.val 32)) := (Below.refl _ _).alloc (Nat.le_refl _) _
  have p0 : (w5.alloc (.cells v'.val 32)).cell? ⟨w3.heap.size, 0, none⟩ = some (.slice v.A1 v.n1 v.c1) := (hD5.alloc _).cell 0
  have p1 : (w5.alloc (.cells v'.val 32)).cell? ⟨w3.heap.size, 1, none⟩ = some (.slice v.A2 v.n2 v.c2) := (hD5.alloc _).cell 1
  have p2 : (w5.alloc (.cells v'.val 32)).cell? ⟨w3.heap.size, 2, none⟩ = some (.slice v.A3 v.n3 v.c3) := (hD5.alloc _).cell 2
  have p3 : (w5.alloc (.cells v'.val 32)).cell? ⟨w3.heap.size, 3, none⟩ = some (.slice v.A4 v.n4 v.c4) := (hD5.alloc _).cell 3
  obtain ⟨w6, hw6⟩ : ∃ w6, w6 = w5.alloc (.cells v'.val 32) := ⟨_, rfl⟩
  rw [← hw6] at hb6
  have hN6 := hN5.go hb6
  have hM6 := hM5.go hb6
  have hO6 := hO5.go hb6
  have hR6 := hR5.go hb6
  have hbw6 := below_then hbw5 (Nat.le_refl _) hb6
  have HW6 := Lib.hid hw6.symm
  have H1 := refNtSame_any v v' nt nt w6 hN6 hM6
  rw [ntSame_self] at H1
  have H2 := fun W (hb : Below w6.heap.size w6 W) => same_any B A n d n c u u W HL.out HL.out (hO6.go hb) (hR6.go hb)
  rw [decide_eq_true rfl] at H2
  have H1 := Lib.hid H1
  have H2 := Lib.hid H2
  clear q0 q1 q2 q3 hO4 hR4 hN4 hB4 hB3 hD hbw4 hb5 hO5 hR5 hN5 hD5 hbw5 hE hb6 hN6 hM6 hO6 hR6 hM5 hw6 G1 G2
  go_wp2_with fail
  rw [HW6.out]
  refine H1.out.mono ?_
  rintro e w7 ⟨rfl, hb7⟩
  go_wp2_with (go_at_call 15; go_must (refine (H2.out _ hb7).mono ?_); rintro e w8 ⟨rfl, hb8⟩)
  go_ret
  exact ⟨rfl, below_then hbw6 (Nat.le_refl _) (below_then hb7 (Nat.le_refl _) hb8)⟩
end Go.Proofs.YtldcgmnfohhjbaaDoor
