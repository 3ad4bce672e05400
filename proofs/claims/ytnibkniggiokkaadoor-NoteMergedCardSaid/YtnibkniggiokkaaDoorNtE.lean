/- Walks over law04.alive and the laws NoteForms, NoteOfs. -/
import Derived.Test.YtnibkniggiokkaaDoorNtD
import Derived.Test.YtnibkniggiokkaaDoorNtB
namespace Go.Proofs.YtnibkniggiokkaaDoor
open Go.RowKit
set_option maxRecDepth 100000

theorem alive_ok : ofOk [(5, 0)] ((6, 1), 3, false) = true := by decide +kernel
theorem alive_end : vec (jn [[(5, 0)], [(6, 1)]]) = [(5, 0), (6, 1)] := by decide +kernel
theorem alive_nt : ofNt [(5, 0)] ((6, 1), 3, false) = ⟨[(5, 0)], [(5, 0), (6, 1)], [], [((6, 1), 3, false)]⟩ := by
  unfold ofNt; rw [if_pos alive_ok, alive_end]
theorem alive_f : ntF ⟨[(5, 0)], [(5, 0), (6, 1)], [], [((6, 1), 3, false)]⟩ = true := by decide +kernel
theorem alive_n1 : ntNews ⟨[(5, 0)], [(5, 0), (6, 1)], [], [((6, 1), 3, false)]⟩ [(5, 0)] = true := by decide +kernel
theorem alive_n2 : ntNews ⟨[(5, 0)], [(5, 0), (6, 1)], [], [((6, 1), 3, false)]⟩ [(5, 0), (6, 1)] = false := by decide +kernel

set_option maxHeartbeats 4000000 in
theorem aliveN_any (w : World) (hT : Tab w) :
    Calls Tryd.prog 7 #[] w fun e w' => e = .returned (.bool true) ∧ Below w.heap.size w w' := by
  have h1max : 1 ≤ maxLen := by unfold maxLen; omega
  obtain ⟨i0, hi0, hz0, hz1, hz2⟩ := info_parts writes_info
  have hzw : ∀ W : World, (zeroValue 46).run Tryd.prog W = .ok (.agg #[.int .i64 0, .int .i64 0, .int .i64 0, .bool false]) W := fun _ => by kernel_rfl
  have hb1 : Below w.heap.size w (w.alloc (.cells #[.int .i64 5, .int .i64 0] 44)) := (Below.refl _ _).alloc (Nat.le_refl _) _
  have hS1 := Rd.new w 44 2 1 #[.int .i64 5, .int .i64 0] rfl h1max
  have H1 := noteOf_any (some ⟨w.heap.size, 0, none⟩) 1 1 [(5, 0)] ((6, 1), 3, false) (w.alloc (.cells #[.int .i64 5, .int .i64 0] 44)) (hT.below hb1) rfl (by rw [World.size_alloc]; exact hS1) (by omega)
  rw [alive_ok, alive_nt] at H1
  have H1 := Lib.hid H1
  have HT := Lib.hid hT
  have HB1 := Lib.hid hb1
  clear hS1 hT hb1
  go_enter Tryd.func7, Tryd.ntmps7
  go_wp2_with fail
  refine H1.out.mono ?_
  rintro e w1 ⟨v, rfl, hN, hb⟩
  rw [if_pos rfl]
  obtain ⟨A1, n1, c1, A2, n2, c2, A3, n3, c3, A4, n4, c4⟩ := v
  obtain ⟨l1, r1, l2, r2, l3, r3, l4, r4⟩ := hN
  dsimp only [List.length_cons, List.length_nil] at l1 r1 l2 r2 l3 r3 l4 r4
  obtain rfl : n1 = 1 := l1.symm
  obtain rfl : n2 = 2 := l2.symm
  obtain rfl : n3 = 0 := l3.symm
  obtain rfl : n4 = 1 := l4.symm
  have hbw := below_then HB1.out (Nat.le_refl _) hb
  have hB0 := Blk.new w1 26 #[.slice A1 1 c1, .slice A2 2 c2, .slice A3 0 c3, .slice A4 1 c4]
  have hb2 : Below w1.heap.size w1 (w1.alloc (.cells #[.slice A1 1 c1, .slice A2 2 c2, .slice A3 0 c3, .slice A4 1 c4] 26)) := (Below.refl _ _).alloc (Nat.le_refl _) _
  obtain ⟨w2, hw2⟩ : ∃ w2, w2 = w1.alloc (.cells #[.slice A1 1 c1, .slice A2 2 c2, .slice A3 0 c3, .slice A4 1 c4] 26) := ⟨_, rfl⟩
  rw [← hw2] at hB0 hb2
  have hN2 : NtRd w2 w2.heap.size ⟨A1, 1, c1, A2, 2, c2, A3, 0, c3, A4, 1, c4⟩ ⟨[(5, 0)], [(5, 0), (6, 1)], [], [((6, 1), 3, false)]⟩ := ⟨rfl, r1.go hb2, rfl, r2.go hb2, rfl, r3.go hb2, rfl, r4.go hb2⟩
  have hbw2 := below_then hbw (Nat.le_refl _) hb2
  have hT2 := HT.out.below hbw2
  have HQ := Lib.hid fun W (hb : Below w2.heap.size w2 W) => (show W.cell? ⟨w1.heap.size, 0, none⟩ = some (.slice A1 1 c1) ∧ W.cell? ⟨w1.heap.size, 1, none⟩ = some (.slice A2 2 c2) ∧ W.cell? ⟨w1.heap.size, 2, none⟩ = some (.slice A3 0 c3) ∧ W.cell? ⟨w1.heap.size, 3, none⟩ = some (.slice A4 1 c4) from
    ⟨(hB0.go hb).cell 0, (hB0.go hb).cell 1, (hB0.go hb).cell 2, (hB0.go hb).cell 3⟩)
  have G1 := fun (W : World) (hb : Below w2.heap.size w2 W) => noteFormed_any ⟨A1, 1, c1, A2, 2, c2, A3, 0, c3, A4, 1, c4⟩ _ W (hT2.below hb) (hN2.go hb)
  have G2 := fun (W : World) (hb : Below w2.heap.size w2 W) => news_any ⟨A1, 1, c1, A2, 2, c2, A3, 0, c3, A4, 1, c4⟩ _ A1 1 c1 [(5, 0)] W (hT2.below hb) (hN2.go hb) rfl (hN2.go hb).r1
  have G3 := fun (W : World) (hb : Below w2.heap.size w2 W) => news_any ⟨A1, 1, c1, A2, 2, c2, A3, 0, c3, A4, 1, c4⟩ _ A2 2 c2 [(5, 0), (6, 1)] W (hT2.below hb) (hN2.go hb) rfl (hN2.go hb).r2
  rw [alive_f] at G1
  rw [alive_n1] at G2
  rw [alive_n2] at G3
  have G1 := Lib.hid G1
  have G2 := Lib.hid G2
  have G3 := Lib.hid G3
  have k : Below w2.heap.size w2 w2 := Below.refl _ _
  obtain ⟨q0, q1, q2, q3⟩ := HQ.out _ k
  have HW := Lib.hid hw2.symm
  clear l1 l2 l3 l4 r1 r2 r3 r4 hB0 hN2 hT2 hbw hb hb2 H1 hw2
  go_wp2_with fail
  rw [HW.out]
  go_wp2_with (first
    | (go_at_call 12; go_must (refine (G1.out _ k).mono ?_); rintro e w' ⟨rfl, hb'⟩; have k := below_then k (Nat.le_refl _) hb'; clear hb'; obtain ⟨q0, q1, q2, q3⟩ := HQ.out _ k)
    | (go_at_call 19; (first
      | ((with_reducible refine (G2.out _ k).mono ?_); rintro e w' ⟨rfl, hb'⟩; have k := below_then k (Nat.le_refl _) hb'; clear hb'; obtain ⟨q0, q1, q2, q3⟩ := HQ.out _ k)
      | ((with_reducible refine (G3.out _ k).mono ?_); rintro e w' ⟨rfl, hb'⟩; have k := below_then k (Nat.le_refl _) hb'; clear hb'; obtain ⟨q0, q1, q2, q3⟩ := HQ.out _ k))))
  go_ret
  exact ⟨rfl, below_then hbw2 (Nat.le_refl _) k⟩

end Go.Proofs.YtnibkniggiokkaaDoor
