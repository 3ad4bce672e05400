/- Walk over the document's Formed of notes (printed by wip/tools/genNtB.py). -/
import Derived.Test.YtnibkniggiokkaaDoorNtA
import Derived.Test.YtnibkniggiokkaaDoorMVec
import Derived.Test.YtnibkniggiokkaaDoorReg
import Derived.IntWalk
namespace Go.Proofs.YtnibkniggiokkaaDoor
open Go.RowKit
set_option maxRecDepth 100000

set_option maxHeartbeats 8000000 in
theorem refNoteFormed_any (v : NV) (x : Nt) (w : World) (hN : NtRd w w.heap.size v x) :
    Calls Tryd.prog 13 #[.agg v.val] w fun e w' => e = .returned (.bool (ntF x)) ∧ Below w.heap.size w w' := by
  obtain ⟨A1, n1, c1, A2, n2, c2, A3, n3, c3, A4, n4, c4⟩ := v
  have hb0 : Below w.heap.size w (w.alloc (.cells #[.slice A1 n1 c1, .slice A2 n2 c2, .slice A3 n3 c3, .slice A4 n4 c4] 26)) := (Below.refl _ _).alloc (Nat.le_refl _) _
  have hBx := Blk.new w 26 #[.slice A1 n1 c1, .slice A2 n2 c2, .slice A3 n3 c3, .slice A4 n4 c4]
  obtain ⟨w0, hw0⟩ : ∃ w0, w0 = w.alloc (.cells #[.slice A1 n1 c1, .slice A2 n2 c2, .slice A3 n3 c3, .slice A4 n4 c4] 26) := ⟨_, rfl⟩
  rw [← hw0] at hb0 hBx
  have hN0 := hN.go hb0
  obtain ⟨l1, m1, l2, m2, l3, m3, l4, m4⟩ := hN0
  dsimp only at l1 m1 l2 m2 l3 m3 l4 m4
  have hQ : ∀ W, Below w0.heap.size w0 W → (W.cell? ⟨w.heap.size, 0, none⟩ = some (.slice A1 n1 c1) ∧ W.cell? ⟨w.heap.size, 1, none⟩ = some (.slice A2 n2 c2) ∧ W.cell? ⟨w.heap.size, 2, none⟩ = some (.slice A3 n3 c3) ∧ W.cell? ⟨w.heap.size, 3, none⟩ = some (.slice A4 n4 c4)) :=
    fun W hb => ⟨(hBx.go hb).cell 0, (hBx.go hb).cell 1, (hBx.go hb).cell 2, (hBx.go hb).cell 3⟩
  have HQ := Lib.hid hQ
  have H1 := Lib.hid fun (W : World) (hb : Below w0.heap.size w0 W) => refFormed_any A1 n1 c1 x.s W l1 (m1.go hb)
  have H2 := Lib.hid fun (W : World) (hb : Below w0.heap.size w0 W) => refFormed_any A2 n2 c2 x.e W l2 (m2.go hb)
  have H3 := Lib.hid fun (W : World) (hb : Below w0.heap.size w0 W) => refCovers_any A2 A1 n2 c2 n1 c1 x.e x.s W l2 l1 (m2.go hb) (m1.go hb)
  have H4 := Lib.hid fun (W : World) (hb : Below w0.heap.size w0 W) => refFormedS_any A3 n3 c3 x.b W l3 (m3.go hb)
  have H5 := Lib.hid fun (W : World) (hb : Below w0.heap.size w0 W) o => refHasS_any A3 n3 c3 x.b o W l3 (m3.go hb)
  have H6 := Lib.hid fun (W : World) (hb : Below w0.heap.size w0 W) sc sn => refHas_any A2 n2 c2 x.e (sc, sn) W l2 (m2.go hb)
  have HW4 := Lib.hid fun (W : World) (hb : Below w0.heap.size w0 W) k (hk : k < x.w.length) => (m4.go hb).write l4 hk
  have HL4 := Lib.hid l4
  have hmax : n4 ≤ 9223372036854775807 := by have h1 := m4.cap; have h2 := m4.max; unfold maxLen at h2; omega
  have hf0 : ntF x = ((fm (-1) x.s && (fm (-1) x.e && (covB (Vc.cnt x.e) (Vc.cnt x.s) && Sn.fmS (-2) x.b))) && ntW x.e x.b (-1) x.w) := rfl
  have HDrop := Lib.hid fun last k h => ntW_drop x.e x.b last x.w k h
  have HNil := Lib.hid fun last k (h : n4 ≤ k) => show ntW x.e x.b last (x.w.drop k) = true by rw [List.drop_of_length_le (by rw [HL4.out]; exact h)]; rfl
  generalize fm (-1) x.s = f1 at H1 hf0
  generalize fm (-1) x.e = f2 at H2 hf0
  generalize covB (Vc.cnt x.e) (Vc.cnt x.s) = f3 at H3 hf0
  generalize Sn.fmS (-2) x.b = f4 at H4 hf0
  have HF := Lib.hid hf0
  have HW := Lib.hid hw0.symm
  have k := Below.refl w0.heap.size w0
  obtain ⟨q0, q1, q2, q3⟩ := hQ w0 k
  clear hN l1 m1 l2 m2 l3 m3 l4 m4 hBx hQ hf0 hw0
  go_enter Tryd.func13, Tryd.ntmps13
  go_wp2_with fail
  rw [HW.out]
  cases f1 <;> cases f2 <;> cases f3 <;> cases f4
  all_goals
    go_wp2_with (first
      | (go_at_call 39; (first
        | ((with_reducible refine (H1.out _ k).mono ?_); rintro e w' ⟨rfl, hb'⟩; have k := below_then k (Nat.le_refl _) hb'; clear hb'; obtain ⟨q0, q1, q2, q3⟩ := HQ.out _ k)
        | ((with_reducible refine (H2.out _ k).mono ?_); rintro e w' ⟨rfl, hb'⟩; have k := below_then k (Nat.le_refl _) hb'; clear hb'; obtain ⟨q0, q1, q2, q3⟩ := HQ.out _ k)))
      | (go_at_call 40; go_must (with_reducible refine (H3.out _ k).mono ?_); rintro e w' ⟨rfl, hb'⟩; have k := below_then k (Nat.le_refl _) hb'; clear hb'; obtain ⟨q0, q1, q2, q3⟩ := HQ.out _ k)
      | (go_at_call 41; go_must (with_reducible refine (H4.out _ k).mono ?_); rintro e w' ⟨rfl, hb'⟩; have k := below_then k (Nat.le_refl _) hb'; clear hb'; obtain ⟨q0, q1, q2, q3⟩ := HQ.out _ k))
    first
    | (go_ret; exact ⟨by rw [HF.out]; rfl, below_then hb0 (Nat.le_refl _) k⟩)
    | skip
  go_loopw [3] (fun i wr => ∃ (j : Nat), j ≤ n4 ∧ i = .int .i64 j ∧ Below w0.heap.size w0 wr ∧ Hid (ntW x.e x.b (-1) x.w = ntW x.e x.b (aheadW x.w j) (x.w.drop j))) (fun i _ => n4 - (intOf i).toNat)
  case atStart => exact ⟨0, by omega, rfl, k, rfl⟩
  case round =>
    obtain ⟨j, hj, rfl, hb, hr⟩ := hrel
    clear q0 q1 q2 q3 k
    by_cases hlt : j < n4
    · have hjl : j < x.w.length := by rw [HL4.out]; exact hlt
      obtain ⟨b, o, rfl, hbb, g0, g1, g2, g3⟩ := HW4.out wr hb j hjl
      obtain ⟨q0, q1, q2, q3⟩ := HQ.out _ hb
      have HD := hr.out.trans (HDrop.out (aheadW x.w j) j hjl)
      rw [wOk_ref] at HD
      generalize hc : x.w[j].1.1 = sc at g0
      generalize hn : x.w[j].1.2 = sn at g1
      generalize ho : x.w[j].2.1 = ob at g2 HD
      generalize hg : x.w[j].2.2 = gn at g3
      have HO := Lib.hid ho
      have hst : x.w[j].1 = (sc, sn) := by rw [← hc, ← hn]
      rw [hst] at HD
      have H5'' := fun W hb => H5.out W hb ob
      have H6'' := fun W hb => H6.out W hb sc sn
      generalize hasO x.b ob = z2 at H5'' HD
      generalize hasB x.e (sc, sn) = z3 at H6'' HD
      have G5 := Lib.hid H5''
      have G6 := Lib.hid H6''
      have HB := Lib.hid hb
      have hB1 := Blk.new wr 46 #[.int .i64 sc, .int .i64 sn, .int .i64 ob, .bool gn]
      have k1 : Below w0.heap.size w0 (wr.alloc (.cells #[.int .i64 sc, .int .i64 sn, .int .i64 ob, .bool gn] 46)) := hb.alloc hb.size _
      obtain ⟨w1, hw1⟩ : ∃ w1, w1 = wr.alloc (.cells #[.int .i64 sc, .int .i64 sn, .int .i64 ob, .bool gn] 46) := ⟨_, rfl⟩
      rw [← hw1] at hB1 k1
      have HR := Lib.hid fun W (hk : Below w0.heap.size w0 W) (hb : Below w1.heap.size w1 W) => (show (W.cell? ⟨w.heap.size, 0, none⟩ = some (.slice A1 n1 c1) ∧ W.cell? ⟨w.heap.size, 1, none⟩ = some (.slice A2 n2 c2) ∧ W.cell? ⟨w.heap.size, 2, none⟩ = some (.slice A3 n3 c3) ∧ W.cell? ⟨w.heap.size, 3, none⟩ = some (.slice (some ⟨b, o, none⟩) n4 c4) ∧ W.cell? ⟨wr.heap.size, 0, none⟩ = some (.int .i64 sc) ∧ W.cell? ⟨wr.heap.size, 1, none⟩ = some (.int .i64 sn) ∧ W.cell? ⟨wr.heap.size, 2, none⟩ = some (.int .i64 ob) ∧ W.cell? ⟨wr.heap.size, 3, none⟩ = some (.bool gn)) from
        ⟨(HQ.out W hk).1, (HQ.out W hk).2.1, (HQ.out W hk).2.2.1, (HQ.out W hk).2.2.2, (hB1.go hb).cell 0, (hB1.go hb).cell 1, (hB1.go hb).cell 2, (hB1.go hb).cell 3⟩)
      have HW1 := Lib.hid hw1.symm
      have K1 := Lib.hid k1
      have HDD := Lib.hid HD
      clear HD
      by_cases hj0 : j = 0
      · have hah : aheadW x.w j = -1 := by rw [hj0]; exact aheadW_zero _
        have dj : decide (0 < j) = false := by simp; omega
        clear hj0
        rw [hah] at HDD
        have HS := Lib.hid fun W (hb : Below w1.heap.size w1 W) => HR.out W (below_then K1.out (Nat.le_refl _) hb) hb
        clear hah
        have k : Below w0.heap.size w0 w1.drew := K1.out.drew
        have kk : Below w1.heap.size w1 w1.drew := (Below.refl _ w1).drew
        clear hc hn ho hg hst H5'' H6'' hb hr hB1 k1 hw1
        cases z3
        · have HN := Lib.hid (show ntF x = false by rw [HF.out, HDD.out]; rfl)
          go_wp2
          rw [HW1.out]
          refine region_nrm fun KK hKK => ?_
          refine wp_region_held_drew (S := (fun W => W.cell? ⟨w.heap.size, 0, none⟩ = some (.slice A1 n1 c1) ∧ W.cell? ⟨w.heap.size, 1, none⟩ = some (.slice A2 n2 c2) ∧ W.cell? ⟨w.heap.size, 2, none⟩ = some (.slice A3 n3 c3) ∧ W.cell? ⟨w.heap.size, 3, none⟩ = some (.slice (some ⟨b, o, none⟩) n4 c4) ∧ W.cell? ⟨wr.heap.size, 0, none⟩ = some (.int .i64 sc) ∧ W.cell? ⟨wr.heap.size, 1, none⟩ = some (.int .i64 sn) ∧ W.cell? ⟨wr.heap.size, 2, none⟩ = some (.int .i64 ob) ∧ W.cell? ⟨wr.heap.size, 3, none⟩ = some (.bool gn))) (by kernel_rfl) (by first | exact HS.out _ kk) (fun hHeld => ?_)
          refine wpAnyH_putD (i := 0) (d := 41) (v := ?_) rfl rfl (by kernel_rfl) (by kernel_rfl) (by kernel_rfl) (fun _ _ _ h => h) (Or.inl ⟨by kernel_rfl, ?_⟩) (by first | exact HS.out _ kk) ?_
          rotate_left
          · (intro w hS; (try dsimp only at hS); go_simp <;> with_reducible rfl)
          try simp only [List.setIfInBounds_toArray, List.set_cons_zero, List.set_cons_succ]
          refine wpAnyH_putD (i := 1) (d := 42) (v := ?_) rfl rfl (by kernel_rfl) (by kernel_rfl) (by kernel_rfl) (fun _ _ _ h => h) (Or.inl ⟨by kernel_rfl, ?_⟩) (by first | exact HS.out _ kk) ?_
          rotate_left
          · (intro w hS; (try dsimp only at hS); go_simp <;> with_reducible rfl)
          try simp only [List.setIfInBounds_toArray, List.set_cons_zero, List.set_cons_succ]
          refine wpAnyH_putD (i := 2) (d := 43) (v := ?_) rfl rfl (by kernel_rfl) (by kernel_rfl) (by kernel_rfl) (fun _ _ _ h => h) (Or.inl ⟨by kernel_rfl, ?_⟩) (by first | exact HS.out _ kk) ?_
          rotate_left
          · (intro w hS; (try dsimp only at hS); go_simp <;> with_reducible rfl)
          try simp only [List.setIfInBounds_toArray, List.set_cons_zero, List.set_cons_succ]
          refine wpAnyH_putD (i := 3) (d := 44) (v := ?_) rfl rfl (by kernel_rfl) (by kernel_rfl) (by kernel_rfl) (fun _ _ _ h => h) (Or.inl ⟨by kernel_rfl, ?_⟩) (by first | exact HS.out _ kk) ?_
          rotate_left
          · (intro w hS; (try dsimp only at hS); go_simp <;> with_reducible rfl)
          try simp only [List.setIfInBounds_toArray, List.set_cons_zero, List.set_cons_succ]
          refine wpAnyH_ready (rs := [4]) (by kernel_rfl) (by simp) ?_
          refine AllReadyH.cons rfl (fun K hK => ?_) AllReadyH.nil
          go_simp
          refine (G6.out _ k).mono ?_
          rintro e w' ⟨rfl, hb'⟩
          have k := below_then k (Nat.le_refl _) hb'
          have kk := below_then kk (Nat.le_refl _) hb'
          clear hb'
          refine hK.out _ _ (by first | exact HS.out _ kk) (fun hHeld => ?_)
          clear hK K
          refine wpAnyH_putD (i := 5) (d := 46) (v := ?_) rfl rfl (by kernel_rfl) (by kernel_rfl) (by kernel_rfl) (fun _ _ _ h => h) (Or.inl ⟨by kernel_rfl, ?_⟩) (by first | exact HS.out _ kk) ?_
          rotate_left
          · (intro w hS; (try dsimp only at hS); go_simp <;> with_reducible rfl)
          try simp only [List.setIfInBounds_toArray, List.set_cons_zero, List.set_cons_succ]
          refine wpAnyH_putD (i := 6) (d := 47) (v := ?_) rfl rfl (by kernel_rfl) (by kernel_rfl) (by kernel_rfl) (fun _ _ _ h => h) (Or.inl ⟨by kernel_rfl, ?_⟩) (by first | exact HS.out _ kk) ?_
          rotate_left
          · (intro w hS; (try dsimp only at hS); go_simp <;> with_reducible rfl)
          try simp only [List.setIfInBounds_toArray, List.set_cons_zero, List.set_cons_succ]
          refine wpAnyH_putD (i := 7) (d := 48) (v := undef) rfl rfl (by kernel_rfl) (by kernel_rfl) (by kernel_rfl) (fun _ _ _ h => h) (Or.inr ⟨by kernel_rfl, rfl⟩) (by first | exact HS.out _ kk) ?_
          try simp only [List.setIfInBounds_toArray, List.set_cons_zero, List.set_cons_succ]
          refine wpAnyH_putD (i := 8) (d := 49) (v := undef) rfl rfl (by kernel_rfl) (by kernel_rfl) (by kernel_rfl) (fun _ _ _ h => h) (Or.inr ⟨by kernel_rfl, rfl⟩) (by first | exact HS.out _ kk) ?_
          try simp only [List.setIfInBounds_toArray, List.set_cons_zero, List.set_cons_succ]
          refine wpAnyH_putD (i := 9) (d := 50) (v := undef) rfl rfl (by kernel_rfl) (by kernel_rfl) (by kernel_rfl) (fun _ _ _ h => h) (Or.inr ⟨by kernel_rfl, rfl⟩) (by first | exact HS.out _ kk) ?_
          try simp only [List.setIfInBounds_toArray, List.set_cons_zero, List.set_cons_succ]
          refine wpAnyH_putD (i := 10) (d := 51) (v := ?_) rfl rfl (by kernel_rfl) (by kernel_rfl) (by kernel_rfl) (fun _ _ _ h => h) (Or.inl ⟨by kernel_rfl, ?_⟩) (by first | exact HS.out _ kk) ?_
          rotate_left
          · (intro w hS; (try dsimp only at hS); go_simp <;> with_reducible rfl)
          try simp only [List.setIfInBounds_toArray, List.set_cons_zero, List.set_cons_succ]
          refine wpAnyH_putD (i := 11) (d := 52) (v := ?_) rfl rfl (by kernel_rfl) (by kernel_rfl) (by kernel_rfl) (fun _ _ _ h => h) (Or.inl ⟨by kernel_rfl, ?_⟩) (by first | exact HS.out _ kk) ?_
          rotate_left
          · (intro w hS; (try dsimp only at hS); go_simp <;> with_reducible rfl)
          try simp only [List.setIfInBounds_toArray, List.set_cons_zero, List.set_cons_succ]
          refine wpAnyH_putD (i := 12) (d := 53) (v := undef) rfl rfl (by kernel_rfl) (by kernel_rfl) (by kernel_rfl) (fun _ _ _ h => h) (Or.inr ⟨by kernel_rfl, rfl⟩) (by first | exact HS.out _ kk) ?_
          try simp only [List.setIfInBounds_toArray, List.set_cons_zero, List.set_cons_succ]
          refine wpAnyH_putD (i := 13) (d := 54) (v := undef) rfl rfl (by kernel_rfl) (by kernel_rfl) (by kernel_rfl) (fun _ _ _ h => h) (Or.inr ⟨by kernel_rfl, rfl⟩) (by first | exact HS.out _ kk) ?_
          try simp only [List.setIfInBounds_toArray, List.set_cons_zero, List.set_cons_succ]
          refine wpAnyH_putD (i := 14) (d := 55) (v := undef) rfl rfl (by kernel_rfl) (by kernel_rfl) (by kernel_rfl) (fun _ _ _ h => h) (Or.inr ⟨by kernel_rfl, rfl⟩) (by first | exact HS.out _ kk) ?_
          try simp only [List.setIfInBounds_toArray, List.set_cons_zero, List.set_cons_succ]
          refine wpAnyH_putD (i := 15) (d := 56) (v := ?_) rfl rfl (by kernel_rfl) (by kernel_rfl) (by kernel_rfl) (fun _ _ _ h => h) (Or.inl ⟨by kernel_rfl, ?_⟩) (by first | exact HS.out _ kk) ?_
          rotate_left
          · (intro w hS; (try dsimp only at hS); go_simp <;> with_reducible rfl)
          try simp only [List.setIfInBounds_toArray, List.set_cons_zero, List.set_cons_succ]
          refine wpAnyH_putD (i := 16) (d := 57) (v := ?_) rfl rfl (by kernel_rfl) (by kernel_rfl) (by kernel_rfl) (fun _ _ _ h => h) (Or.inl ⟨by kernel_rfl, ?_⟩) (by first | exact HS.out _ kk) ?_
          rotate_left
          · (intro w hS; (try dsimp only at hS); go_simp <;> with_reducible rfl)
          try simp only [List.setIfInBounds_toArray, List.set_cons_zero, List.set_cons_succ]
          refine wpAnyH_putD (i := 17) (d := 58) (v := undef) rfl rfl (by kernel_rfl) (by kernel_rfl) (by kernel_rfl) (fun _ _ _ h => h) (Or.inr ⟨by kernel_rfl, rfl⟩) (by first | exact HS.out _ kk) ?_
          try simp only [List.setIfInBounds_toArray, List.set_cons_zero, List.set_cons_succ]
          refine wpAnyH_putD (i := 18) (d := 59) (v := undef) rfl rfl (by kernel_rfl) (by kernel_rfl) (by kernel_rfl) (fun _ _ _ h => h) (Or.inr ⟨by kernel_rfl, rfl⟩) (by first | exact HS.out _ kk) ?_
          try simp only [List.setIfInBounds_toArray, List.set_cons_zero, List.set_cons_succ]
          refine wpAnyH_putD (i := 19) (d := 60) (v := undef) rfl rfl (by kernel_rfl) (by kernel_rfl) (by kernel_rfl) (fun _ _ _ h => h) (Or.inr ⟨by kernel_rfl, rfl⟩) (by first | exact HS.out _ kk) ?_
          try simp only [List.setIfInBounds_toArray, List.set_cons_zero, List.set_cons_succ]
          refine wpAnyH_putD (i := 20) (d := 61) (v := undef) rfl rfl (by kernel_rfl) (by kernel_rfl) (by kernel_rfl) (fun _ _ _ h => h) (Or.inr ⟨by kernel_rfl, rfl⟩) (by first | exact HS.out _ kk) ?_
          try simp only [List.setIfInBounds_toArray, List.set_cons_zero, List.set_cons_succ]
          refine wpAnyH_putD (i := 21) (d := 62) (v := undef) rfl rfl (by kernel_rfl) (by kernel_rfl) (by kernel_rfl) (fun _ _ _ h => h) (Or.inr ⟨by kernel_rfl, rfl⟩) (by first | exact HS.out _ kk) ?_
          try simp only [List.setIfInBounds_toArray, List.set_cons_zero, List.set_cons_succ]
          refine wpAnyH_putD (i := 22) (d := 63) (v := ?_) rfl rfl (by kernel_rfl) (by kernel_rfl) (by kernel_rfl) (fun _ _ _ h => h) (Or.inl ⟨by kernel_rfl, ?_⟩) (by first | exact HS.out _ kk) ?_
          rotate_left
          · (intro w hS; (try dsimp only at hS); go_simp <;> with_reducible rfl)
          try simp only [List.setIfInBounds_toArray, List.set_cons_zero, List.set_cons_succ]
          refine wpAnyH_putD (i := 23) (d := 64) (v := ?_) rfl rfl (by kernel_rfl) (by kernel_rfl) (by kernel_rfl) (fun _ _ _ h => h) (Or.inl ⟨by kernel_rfl, ?_⟩) (by first | exact HS.out _ kk) ?_
          rotate_left
          · (intro w hS; (try dsimp only at hS); go_simp <;> with_reducible rfl)
          try simp only [List.setIfInBounds_toArray, List.set_cons_zero, List.set_cons_succ]
          refine wpAnyH_putD (i := 24) (d := 65) (v := undef) rfl rfl (by kernel_rfl) (by kernel_rfl) (by kernel_rfl) (fun _ _ _ h => h) (Or.inr ⟨by kernel_rfl, rfl⟩) (by first | exact HS.out _ kk) ?_
          try simp only [List.setIfInBounds_toArray, List.set_cons_zero, List.set_cons_succ]
          refine wpAnyH_putD (i := 25) (d := 66) (v := undef) rfl rfl (by kernel_rfl) (by kernel_rfl) (by kernel_rfl) (fun _ _ _ h => h) (Or.inr ⟨by kernel_rfl, rfl⟩) (by first | exact HS.out _ kk) ?_
          try simp only [List.setIfInBounds_toArray, List.set_cons_zero, List.set_cons_succ]
          refine wpAnyH_putD (i := 26) (d := 67) (v := undef) rfl rfl (by kernel_rfl) (by kernel_rfl) (by kernel_rfl) (fun _ _ _ h => h) (Or.inr ⟨by kernel_rfl, rfl⟩) (by first | exact HS.out _ kk) ?_
          try simp only [List.setIfInBounds_toArray, List.set_cons_zero, List.set_cons_succ]
          refine wpAnyH_putD (i := 27) (d := 68) (v := undef) rfl rfl (by kernel_rfl) (by kernel_rfl) (by kernel_rfl) (fun _ _ _ h => h) (Or.inr ⟨by kernel_rfl, rfl⟩) (by first | exact HS.out _ kk) ?_
          try simp only [List.setIfInBounds_toArray, List.set_cons_zero, List.set_cons_succ]
          refine wpAnyH_putD (i := 28) (d := 69) (v := undef) rfl rfl (by kernel_rfl) (by kernel_rfl) (by kernel_rfl) (fun _ _ _ h => h) (Or.inr ⟨by kernel_rfl, rfl⟩) (by first | exact HS.out _ kk) ?_
          try simp only [List.setIfInBounds_toArray, List.set_cons_zero, List.set_cons_succ]
          refine wpAnyH_putD (i := 29) (d := 70) (v := undef) rfl rfl (by kernel_rfl) (by kernel_rfl) (by kernel_rfl) (fun _ _ _ h => h) (Or.inr ⟨by kernel_rfl, rfl⟩) (by first | exact HS.out _ kk) ?_
          try simp only [List.setIfInBounds_toArray, List.set_cons_zero, List.set_cons_succ]
          refine wpAnyH_putD (i := 30) (d := 71) (v := undef) rfl rfl (by kernel_rfl) (by kernel_rfl) (by kernel_rfl) (fun _ _ _ h => h) (Or.inr ⟨by kernel_rfl, rfl⟩) (by first | exact HS.out _ kk) ?_
          try simp only [List.setIfInBounds_toArray, List.set_cons_zero, List.set_cons_succ]
          refine wpAnyH_putD (i := 31) (d := 72) (v := undef) rfl rfl (by kernel_rfl) (by kernel_rfl) (by kernel_rfl) (fun _ _ _ h => h) (Or.inr ⟨by kernel_rfl, rfl⟩) (by first | exact HS.out _ kk) ?_
          try simp only [List.setIfInBounds_toArray, List.set_cons_zero, List.set_cons_succ]
          refine wpAnyH_putD (i := 32) (d := 73) (v := undef) rfl rfl (by kernel_rfl) (by kernel_rfl) (by kernel_rfl) (fun _ _ _ h => h) (Or.inr ⟨by kernel_rfl, rfl⟩) (by first | exact HS.out _ kk) ?_
          try simp only [List.setIfInBounds_toArray, List.set_cons_zero, List.set_cons_succ]
          refine wpAnyH_putD (i := 33) (d := 74) (v := undef) rfl rfl (by kernel_rfl) (by kernel_rfl) (by kernel_rfl) (fun _ _ _ h => h) (Or.inr ⟨by kernel_rfl, rfl⟩) (by first | exact HS.out _ kk) ?_
          try simp only [List.setIfInBounds_toArray, List.set_cons_zero, List.set_cons_succ]
          refine wpAnyH_putD (i := 34) (d := 75) (v := undef) rfl rfl (by kernel_rfl) (by kernel_rfl) (by kernel_rfl) (fun _ _ _ h => h) (Or.inr ⟨by kernel_rfl, rfl⟩) (by first | exact HS.out _ kk) ?_
          try simp only [List.setIfInBounds_toArray, List.set_cons_zero, List.set_cons_succ]
          refine wpAnyH_putD (i := 35) (d := 76) (v := undef) rfl rfl (by kernel_rfl) (by kernel_rfl) (by kernel_rfl) (fun _ _ _ h => h) (Or.inr ⟨by kernel_rfl, rfl⟩) (by first | exact HS.out _ kk) ?_
          try simp only [List.setIfInBounds_toArray, List.set_cons_zero, List.set_cons_succ]
          refine wpAnyH_putD (i := 36) (d := 77) (v := undef) rfl rfl (by kernel_rfl) (by kernel_rfl) (by kernel_rfl) (fun _ _ _ h => h) (Or.inr ⟨by kernel_rfl, rfl⟩) (by first | exact HS.out _ kk) ?_
          try simp only [List.setIfInBounds_toArray, List.set_cons_zero, List.set_cons_succ]
          refine wpAnyH_putD (i := 37) (d := 78) (v := undef) rfl rfl (by kernel_rfl) (by kernel_rfl) (by kernel_rfl) (fun _ _ _ h => h) (Or.inr ⟨by kernel_rfl, rfl⟩) (by first | exact HS.out _ kk) ?_
          try simp only [List.setIfInBounds_toArray, List.set_cons_zero, List.set_cons_succ]
          refine wpAnyH_putD (i := 38) (d := 79) (v := ?_) rfl rfl (by kernel_rfl) (by kernel_rfl) (by kernel_rfl) (fun _ _ _ h => h) (Or.inl ⟨by kernel_rfl, ?_⟩) (by first | exact HS.out _ kk) ?_
          rotate_left
          · (intro w hS; (try dsimp only at hS); go_simp <;> with_reducible rfl)
          try simp only [List.setIfInBounds_toArray, List.set_cons_zero, List.set_cons_succ]
          refine wpAnyH_done (by kernel_rfl) ?_ _
          refine Nrm.out (hKK _ _ ?_)
          go_wp2
          go_ret
          exact ⟨by rw [HN.out]; rfl, below_then hb0 (Nat.le_refl _) k⟩
        by_cases u1 : ob < 0
        · have HN := Lib.hid (show ntF x = false by rw [HF.out, HDD.out]; simp [show ¬ (0 ≤ ob) by omega])
          go_wp2
          rw [HW1.out]
          refine region_nrm fun KK hKK => ?_
          refine wp_region_held_drew (S := (fun W => W.cell? ⟨w.heap.size, 0, none⟩ = some (.slice A1 n1 c1) ∧ W.cell? ⟨w.heap.size, 1, none⟩ = some (.slice A2 n2 c2) ∧ W.cell? ⟨w.heap.size, 2, none⟩ = some (.slice A3 n3 c3) ∧ W.cell? ⟨w.heap.size, 3, none⟩ = some (.slice (some ⟨b, o, none⟩) n4 c4) ∧ W.cell? ⟨wr.heap.size, 0, none⟩ = some (.int .i64 sc) ∧ W.cell? ⟨wr.heap.size, 1, none⟩ = some (.int .i64 sn) ∧ W.cell? ⟨wr.heap.size, 2, none⟩ = some (.int .i64 ob) ∧ W.cell? ⟨wr.heap.size, 3, none⟩ = some (.bool gn))) (by kernel_rfl) (by first | exact HS.out _ kk) (fun hHeld => ?_)
          refine wpAnyH_putD (i := 0) (d := 41) (v := ?_) rfl rfl (by kernel_rfl) (by kernel_rfl) (by kernel_rfl) (fun _ _ _ h => h) (Or.inl ⟨by kernel_rfl, ?_⟩) (by first | exact HS.out _ kk) ?_
          rotate_left
          · (intro w hS; (try dsimp only at hS); go_simp <;> with_reducible rfl)
          try simp only [List.setIfInBounds_toArray, List.set_cons_zero, List.set_cons_succ]
          refine wpAnyH_putD (i := 1) (d := 42) (v := ?_) rfl rfl (by kernel_rfl) (by kernel_rfl) (by kernel_rfl) (fun _ _ _ h => h) (Or.inl ⟨by kernel_rfl, ?_⟩) (by first | exact HS.out _ kk) ?_
          rotate_left
          · (intro w hS; (try dsimp only at hS); go_simp <;> with_reducible rfl)
          try simp only [List.setIfInBounds_toArray, List.set_cons_zero, List.set_cons_succ]
          refine wpAnyH_putD (i := 2) (d := 43) (v := ?_) rfl rfl (by kernel_rfl) (by kernel_rfl) (by kernel_rfl) (fun _ _ _ h => h) (Or.inl ⟨by kernel_rfl, ?_⟩) (by first | exact HS.out _ kk) ?_
          rotate_left
          · (intro w hS; (try dsimp only at hS); go_simp <;> with_reducible rfl)
          try simp only [List.setIfInBounds_toArray, List.set_cons_zero, List.set_cons_succ]
          refine wpAnyH_putD (i := 3) (d := 44) (v := ?_) rfl rfl (by kernel_rfl) (by kernel_rfl) (by kernel_rfl) (fun _ _ _ h => h) (Or.inl ⟨by kernel_rfl, ?_⟩) (by first | exact HS.out _ kk) ?_
          rotate_left
          · (intro w hS; (try dsimp only at hS); go_simp <;> with_reducible rfl)
          try simp only [List.setIfInBounds_toArray, List.set_cons_zero, List.set_cons_succ]
          refine wpAnyH_ready (rs := [4]) (by kernel_rfl) (by simp) ?_
          refine AllReadyH.cons rfl (fun K hK => ?_) AllReadyH.nil
          go_simp
          refine (G6.out _ k).mono ?_
          rintro e w' ⟨rfl, hb'⟩
          have k := below_then k (Nat.le_refl _) hb'
          have kk := below_then kk (Nat.le_refl _) hb'
          clear hb'
          refine hK.out _ _ (by first | exact HS.out _ kk) (fun hHeld => ?_)
          clear hK K
          refine wpAnyH_putD (i := 5) (d := 46) (v := ?_) rfl rfl (by kernel_rfl) (by kernel_rfl) (by kernel_rfl) (fun _ _ _ h => h) (Or.inl ⟨by kernel_rfl, ?_⟩) (by first | exact HS.out _ kk) ?_
          rotate_left
          · (intro w hS; (try dsimp only at hS); go_simp <;> with_reducible rfl)
          try simp only [List.setIfInBounds_toArray, List.set_cons_zero, List.set_cons_succ]
          refine wpAnyH_putD (i := 6) (d := 47) (v := ?_) rfl rfl (by kernel_rfl) (by kernel_rfl) (by kernel_rfl) (fun _ _ _ h => h) (Or.inl ⟨by kernel_rfl, ?_⟩) (by first | exact HS.out _ kk) ?_
          rotate_left
          · (intro w hS; (try dsimp only at hS); go_simp <;> with_reducible rfl)
          try simp only [List.setIfInBounds_toArray, List.set_cons_zero, List.set_cons_succ]
          refine wpAnyH_putD (i := 7) (d := 48) (v := ?_) rfl rfl (by kernel_rfl) (by kernel_rfl) (by kernel_rfl) (fun _ _ _ h => h) (Or.inl ⟨by kernel_rfl, ?_⟩) (by first | exact HS.out _ kk) ?_
          rotate_left
          · (intro w hS; (try dsimp only at hS); go_simp <;> with_reducible rfl)
          try simp only [List.setIfInBounds_toArray, List.set_cons_zero, List.set_cons_succ]
          refine wpAnyH_putD (i := 8) (d := 49) (v := ?_) rfl rfl (by kernel_rfl) (by kernel_rfl) (by kernel_rfl) (fun _ _ _ h => h) (Or.inl ⟨by kernel_rfl, ?_⟩) (by first | exact HS.out _ kk) ?_
          rotate_left
          · (intro w hS; (try dsimp only at hS); go_simp <;> with_reducible rfl)
          try simp only [List.setIfInBounds_toArray, List.set_cons_zero, List.set_cons_succ]
          refine wpAnyH_putD (i := 9) (d := 50) (v := ?_) rfl rfl (by kernel_rfl) (by kernel_rfl) (by kernel_rfl) (fun _ _ _ h => h) (Or.inl ⟨by kernel_rfl, ?_⟩) (by first | exact HS.out _ kk) ?_
          rotate_left
          · (intro w hS; (try dsimp only at hS); go_simp <;> with_reducible rfl)
          try simp only [List.setIfInBounds_toArray, List.set_cons_zero, List.set_cons_succ]
          refine wpAnyH_putD (i := 10) (d := 51) (v := ?_) rfl rfl (by kernel_rfl) (by kernel_rfl) (by kernel_rfl) (fun _ _ _ h => h) (Or.inl ⟨by kernel_rfl, ?_⟩) (by first | exact HS.out _ kk) ?_
          rotate_left
          · (intro w hS; (try dsimp only at hS); go_simp <;> with_reducible rfl)
          try simp only [List.setIfInBounds_toArray, List.set_cons_zero, List.set_cons_succ]
          refine wpAnyH_putD (i := 11) (d := 52) (v := ?_) rfl rfl (by kernel_rfl) (by kernel_rfl) (by kernel_rfl) (fun _ _ _ h => h) (Or.inl ⟨by kernel_rfl, ?_⟩) (by first | exact HS.out _ kk) ?_
          rotate_left
          · (intro w hS; (try dsimp only at hS); go_simp <;> with_reducible rfl)
          try simp only [List.setIfInBounds_toArray, List.set_cons_zero, List.set_cons_succ]
          refine wpAnyH_putD (i := 12) (d := 53) (v := undef) rfl rfl (by kernel_rfl) (by kernel_rfl) (by kernel_rfl) (fun _ _ _ h => h) (Or.inr ⟨by kernel_rfl, rfl⟩) (by first | exact HS.out _ kk) ?_
          try simp only [List.setIfInBounds_toArray, List.set_cons_zero, List.set_cons_succ]
          refine wpAnyH_putD (i := 13) (d := 54) (v := undef) rfl rfl (by kernel_rfl) (by kernel_rfl) (by kernel_rfl) (fun _ _ _ h => h) (Or.inr ⟨by kernel_rfl, rfl⟩) (by first | exact HS.out _ kk) ?_
          try simp only [List.setIfInBounds_toArray, List.set_cons_zero, List.set_cons_succ]
          refine wpAnyH_putD (i := 14) (d := 55) (v := undef) rfl rfl (by kernel_rfl) (by kernel_rfl) (by kernel_rfl) (fun _ _ _ h => h) (Or.inr ⟨by kernel_rfl, rfl⟩) (by first | exact HS.out _ kk) ?_
          try simp only [List.setIfInBounds_toArray, List.set_cons_zero, List.set_cons_succ]
          refine wpAnyH_putD (i := 15) (d := 56) (v := ?_) rfl rfl (by kernel_rfl) (by kernel_rfl) (by kernel_rfl) (fun _ _ _ h => h) (Or.inl ⟨by kernel_rfl, ?_⟩) (by first | exact HS.out _ kk) ?_
          rotate_left
          · (intro w hS; (try dsimp only at hS); go_simp <;> with_reducible rfl)
          try simp only [List.setIfInBounds_toArray, List.set_cons_zero, List.set_cons_succ]
          refine wpAnyH_putD (i := 16) (d := 57) (v := ?_) rfl rfl (by kernel_rfl) (by kernel_rfl) (by kernel_rfl) (fun _ _ _ h => h) (Or.inl ⟨by kernel_rfl, ?_⟩) (by first | exact HS.out _ kk) ?_
          rotate_left
          · (intro w hS; (try dsimp only at hS); go_simp <;> with_reducible rfl)
          try simp only [List.setIfInBounds_toArray, List.set_cons_zero, List.set_cons_succ]
          refine wpAnyH_putD (i := 17) (d := 58) (v := undef) rfl rfl (by kernel_rfl) (by kernel_rfl) (by kernel_rfl) (fun _ _ _ h => h) (Or.inr ⟨by kernel_rfl, rfl⟩) (by first | exact HS.out _ kk) ?_
          try simp only [List.setIfInBounds_toArray, List.set_cons_zero, List.set_cons_succ]
          refine wpAnyH_putD (i := 18) (d := 59) (v := undef) rfl rfl (by kernel_rfl) (by kernel_rfl) (by kernel_rfl) (fun _ _ _ h => h) (Or.inr ⟨by kernel_rfl, rfl⟩) (by first | exact HS.out _ kk) ?_
          try simp only [List.setIfInBounds_toArray, List.set_cons_zero, List.set_cons_succ]
          refine wpAnyH_putD (i := 19) (d := 60) (v := undef) rfl rfl (by kernel_rfl) (by kernel_rfl) (by kernel_rfl) (fun _ _ _ h => h) (Or.inr ⟨by kernel_rfl, rfl⟩) (by first | exact HS.out _ kk) ?_
          try simp only [List.setIfInBounds_toArray, List.set_cons_zero, List.set_cons_succ]
          refine wpAnyH_putD (i := 20) (d := 61) (v := undef) rfl rfl (by kernel_rfl) (by kernel_rfl) (by kernel_rfl) (fun _ _ _ h => h) (Or.inr ⟨by kernel_rfl, rfl⟩) (by first | exact HS.out _ kk) ?_
          try simp only [List.setIfInBounds_toArray, List.set_cons_zero, List.set_cons_succ]
          refine wpAnyH_putD (i := 21) (d := 62) (v := undef) rfl rfl (by kernel_rfl) (by kernel_rfl) (by kernel_rfl) (fun _ _ _ h => h) (Or.inr ⟨by kernel_rfl, rfl⟩) (by first | exact HS.out _ kk) ?_
          try simp only [List.setIfInBounds_toArray, List.set_cons_zero, List.set_cons_succ]
          refine wpAnyH_putD (i := 22) (d := 63) (v := ?_) rfl rfl (by kernel_rfl) (by kernel_rfl) (by kernel_rfl) (fun _ _ _ h => h) (Or.inl ⟨by kernel_rfl, ?_⟩) (by first | exact HS.out _ kk) ?_
          rotate_left
          · (intro w hS; (try dsimp only at hS); go_simp <;> with_reducible rfl)
          try simp only [List.setIfInBounds_toArray, List.set_cons_zero, List.set_cons_succ]
          refine wpAnyH_putD (i := 23) (d := 64) (v := ?_) rfl rfl (by kernel_rfl) (by kernel_rfl) (by kernel_rfl) (fun _ _ _ h => h) (Or.inl ⟨by kernel_rfl, ?_⟩) (by first | exact HS.out _ kk) ?_
          rotate_left
          · (intro w hS; (try dsimp only at hS); go_simp <;> with_reducible rfl)
          try simp only [List.setIfInBounds_toArray, List.set_cons_zero, List.set_cons_succ]
          refine wpAnyH_putD (i := 24) (d := 65) (v := undef) rfl rfl (by kernel_rfl) (by kernel_rfl) (by kernel_rfl) (fun _ _ _ h => h) (Or.inr ⟨by kernel_rfl, rfl⟩) (by first | exact HS.out _ kk) ?_
          try simp only [List.setIfInBounds_toArray, List.set_cons_zero, List.set_cons_succ]
          refine wpAnyH_putD (i := 25) (d := 66) (v := undef) rfl rfl (by kernel_rfl) (by kernel_rfl) (by kernel_rfl) (fun _ _ _ h => h) (Or.inr ⟨by kernel_rfl, rfl⟩) (by first | exact HS.out _ kk) ?_
          try simp only [List.setIfInBounds_toArray, List.set_cons_zero, List.set_cons_succ]
          refine wpAnyH_putD (i := 26) (d := 67) (v := undef) rfl rfl (by kernel_rfl) (by kernel_rfl) (by kernel_rfl) (fun _ _ _ h => h) (Or.inr ⟨by kernel_rfl, rfl⟩) (by first | exact HS.out _ kk) ?_
          try simp only [List.setIfInBounds_toArray, List.set_cons_zero, List.set_cons_succ]
          refine wpAnyH_putD (i := 27) (d := 68) (v := undef) rfl rfl (by kernel_rfl) (by kernel_rfl) (by kernel_rfl) (fun _ _ _ h => h) (Or.inr ⟨by kernel_rfl, rfl⟩) (by first | exact HS.out _ kk) ?_
          try simp only [List.setIfInBounds_toArray, List.set_cons_zero, List.set_cons_succ]
          refine wpAnyH_putD (i := 28) (d := 69) (v := undef) rfl rfl (by kernel_rfl) (by kernel_rfl) (by kernel_rfl) (fun _ _ _ h => h) (Or.inr ⟨by kernel_rfl, rfl⟩) (by first | exact HS.out _ kk) ?_
          try simp only [List.setIfInBounds_toArray, List.set_cons_zero, List.set_cons_succ]
          refine wpAnyH_putD (i := 29) (d := 70) (v := undef) rfl rfl (by kernel_rfl) (by kernel_rfl) (by kernel_rfl) (fun _ _ _ h => h) (Or.inr ⟨by kernel_rfl, rfl⟩) (by first | exact HS.out _ kk) ?_
          try simp only [List.setIfInBounds_toArray, List.set_cons_zero, List.set_cons_succ]
          refine wpAnyH_putD (i := 30) (d := 71) (v := undef) rfl rfl (by kernel_rfl) (by kernel_rfl) (by kernel_rfl) (fun _ _ _ h => h) (Or.inr ⟨by kernel_rfl, rfl⟩) (by first | exact HS.out _ kk) ?_
          try simp only [List.setIfInBounds_toArray, List.set_cons_zero, List.set_cons_succ]
          refine wpAnyH_putD (i := 31) (d := 72) (v := undef) rfl rfl (by kernel_rfl) (by kernel_rfl) (by kernel_rfl) (fun _ _ _ h => h) (Or.inr ⟨by kernel_rfl, rfl⟩) (by first | exact HS.out _ kk) ?_
          try simp only [List.setIfInBounds_toArray, List.set_cons_zero, List.set_cons_succ]
          refine wpAnyH_putD (i := 32) (d := 73) (v := undef) rfl rfl (by kernel_rfl) (by kernel_rfl) (by kernel_rfl) (fun _ _ _ h => h) (Or.inr ⟨by kernel_rfl, rfl⟩) (by first | exact HS.out _ kk) ?_
          try simp only [List.setIfInBounds_toArray, List.set_cons_zero, List.set_cons_succ]
          refine wpAnyH_putD (i := 33) (d := 74) (v := undef) rfl rfl (by kernel_rfl) (by kernel_rfl) (by kernel_rfl) (fun _ _ _ h => h) (Or.inr ⟨by kernel_rfl, rfl⟩) (by first | exact HS.out _ kk) ?_
          try simp only [List.setIfInBounds_toArray, List.set_cons_zero, List.set_cons_succ]
          refine wpAnyH_putD (i := 34) (d := 75) (v := undef) rfl rfl (by kernel_rfl) (by kernel_rfl) (by kernel_rfl) (fun _ _ _ h => h) (Or.inr ⟨by kernel_rfl, rfl⟩) (by first | exact HS.out _ kk) ?_
          try simp only [List.setIfInBounds_toArray, List.set_cons_zero, List.set_cons_succ]
          refine wpAnyH_putD (i := 35) (d := 76) (v := undef) rfl rfl (by kernel_rfl) (by kernel_rfl) (by kernel_rfl) (fun _ _ _ h => h) (Or.inr ⟨by kernel_rfl, rfl⟩) (by first | exact HS.out _ kk) ?_
          try simp only [List.setIfInBounds_toArray, List.set_cons_zero, List.set_cons_succ]
          refine wpAnyH_putD (i := 36) (d := 77) (v := undef) rfl rfl (by kernel_rfl) (by kernel_rfl) (by kernel_rfl) (fun _ _ _ h => h) (Or.inr ⟨by kernel_rfl, rfl⟩) (by first | exact HS.out _ kk) ?_
          try simp only [List.setIfInBounds_toArray, List.set_cons_zero, List.set_cons_succ]
          refine wpAnyH_putD (i := 37) (d := 78) (v := undef) rfl rfl (by kernel_rfl) (by kernel_rfl) (by kernel_rfl) (fun _ _ _ h => h) (Or.inr ⟨by kernel_rfl, rfl⟩) (by first | exact HS.out _ kk) ?_
          try simp only [List.setIfInBounds_toArray, List.set_cons_zero, List.set_cons_succ]
          refine wpAnyH_putD (i := 38) (d := 79) (v := ?_) rfl rfl (by kernel_rfl) (by kernel_rfl) (by kernel_rfl) (fun _ _ _ h => h) (Or.inl ⟨by kernel_rfl, ?_⟩) (by first | exact HS.out _ kk) ?_
          rotate_left
          · (intro w hS; (try dsimp only at hS); go_simp <;> with_reducible rfl)
          try simp only [List.setIfInBounds_toArray, List.set_cons_zero, List.set_cons_succ]
          refine wpAnyH_done (by kernel_rfl) ?_ _
          refine Nrm.out (hKK _ _ ?_)
          go_wp2
          go_ret
          exact ⟨by rw [HN.out]; rfl, below_then hb0 (Nat.le_refl _) k⟩
        by_cases u2 : 255 < ob
        · have HN := Lib.hid (show ntF x = false by rw [HF.out, HDD.out]; simp [show ¬ (ob ≤ 255) by omega])
          have d1 : decide (ob < 0) = false := by simp; omega
          have d2 : decide (ob > 255) = true := by simp; omega
          go_wp2
          rw [HW1.out]
          refine region_nrm fun KK hKK => ?_
          refine wp_region_held_drew (S := (fun W => W.cell? ⟨w.heap.size, 0, none⟩ = some (.slice A1 n1 c1) ∧ W.cell? ⟨w.heap.size, 1, none⟩ = some (.slice A2 n2 c2) ∧ W.cell? ⟨w.heap.size, 2, none⟩ = some (.slice A3 n3 c3) ∧ W.cell? ⟨w.heap.size, 3, none⟩ = some (.slice (some ⟨b, o, none⟩) n4 c4) ∧ W.cell? ⟨wr.heap.size, 0, none⟩ = some (.int .i64 sc) ∧ W.cell? ⟨wr.heap.size, 1, none⟩ = some (.int .i64 sn) ∧ W.cell? ⟨wr.heap.size, 2, none⟩ = some (.int .i64 ob) ∧ W.cell? ⟨wr.heap.size, 3, none⟩ = some (.bool gn))) (by kernel_rfl) (by first | exact HS.out _ kk) (fun hHeld => ?_)
          refine wpAnyH_putD (i := 0) (d := 41) (v := ?_) rfl rfl (by kernel_rfl) (by kernel_rfl) (by kernel_rfl) (fun _ _ _ h => h) (Or.inl ⟨by kernel_rfl, ?_⟩) (by first | exact HS.out _ kk) ?_
          rotate_left
          · (intro w hS; (try dsimp only at hS); go_simp <;> with_reducible rfl)
          try simp only [List.setIfInBounds_toArray, List.set_cons_zero, List.set_cons_succ]
          refine wpAnyH_putD (i := 1) (d := 42) (v := ?_) rfl rfl (by kernel_rfl) (by kernel_rfl) (by kernel_rfl) (fun _ _ _ h => h) (Or.inl ⟨by kernel_rfl, ?_⟩) (by first | exact HS.out _ kk) ?_
          rotate_left
          · (intro w hS; (try dsimp only at hS); go_simp <;> with_reducible rfl)
          try simp only [List.setIfInBounds_toArray, List.set_cons_zero, List.set_cons_succ]
          refine wpAnyH_putD (i := 2) (d := 43) (v := ?_) rfl rfl (by kernel_rfl) (by kernel_rfl) (by kernel_rfl) (fun _ _ _ h => h) (Or.inl ⟨by kernel_rfl, ?_⟩) (by first | exact HS.out _ kk) ?_
          rotate_left
          · (intro w hS; (try dsimp only at hS); go_simp <;> with_reducible rfl)
          try simp only [List.setIfInBounds_toArray, List.set_cons_zero, List.set_cons_succ]
          refine wpAnyH_putD (i := 3) (d := 44) (v := ?_) rfl rfl (by kernel_rfl) (by kernel_rfl) (by kernel_rfl) (fun _ _ _ h => h) (Or.inl ⟨by kernel_rfl, ?_⟩) (by first | exact HS.out _ kk) ?_
          rotate_left
          · (intro w hS; (try dsimp only at hS); go_simp <;> with_reducible rfl)
          try simp only [List.setIfInBounds_toArray, List.set_cons_zero, List.set_cons_succ]
          refine wpAnyH_ready (rs := [4]) (by kernel_rfl) (by simp) ?_
          refine AllReadyH.cons rfl (fun K hK => ?_) AllReadyH.nil
          go_simp
          refine (G6.out _ k).mono ?_
          rintro e w' ⟨rfl, hb'⟩
          have k := below_then k (Nat.le_refl _) hb'
          have kk := below_then kk (Nat.le_refl _) hb'
          clear hb'
          refine hK.out _ _ (by first | exact HS.out _ kk) (fun hHeld => ?_)
          clear hK K
          refine wpAnyH_putD (i := 5) (d := 46) (v := ?_) rfl rfl (by kernel_rfl) (by kernel_rfl) (by kernel_rfl) (fun _ _ _ h => h) (Or.inl ⟨by kernel_rfl, ?_⟩) (by first | exact HS.out _ kk) ?_
          rotate_left
          · (intro w hS; (try dsimp only at hS); go_simp <;> with_reducible rfl)
          try simp only [List.setIfInBounds_toArray, List.set_cons_zero, List.set_cons_succ]
          refine wpAnyH_putD (i := 6) (d := 47) (v := ?_) rfl rfl (by kernel_rfl) (by kernel_rfl) (by kernel_rfl) (fun _ _ _ h => h) (Or.inl ⟨by kernel_rfl, ?_⟩) (by first | exact HS.out _ kk) ?_
          rotate_left
          · (intro w hS; (try dsimp only at hS); go_simp <;> with_reducible rfl)
          try simp only [List.setIfInBounds_toArray, List.set_cons_zero, List.set_cons_succ]
          refine wpAnyH_putD (i := 7) (d := 48) (v := ?_) rfl rfl (by kernel_rfl) (by kernel_rfl) (by kernel_rfl) (fun _ _ _ h => h) (Or.inl ⟨by kernel_rfl, ?_⟩) (by first | exact HS.out _ kk) ?_
          rotate_left
          · (intro w hS; (try dsimp only at hS); go_simp <;> with_reducible rfl)
          try simp only [List.setIfInBounds_toArray, List.set_cons_zero, List.set_cons_succ]
          refine wpAnyH_putD (i := 8) (d := 49) (v := ?_) rfl rfl (by kernel_rfl) (by kernel_rfl) (by kernel_rfl) (fun _ _ _ h => h) (Or.inl ⟨by kernel_rfl, ?_⟩) (by first | exact HS.out _ kk) ?_
          rotate_left
          · (intro w hS; (try dsimp only at hS); go_simp <;> with_reducible rfl)
          try simp only [List.setIfInBounds_toArray, List.set_cons_zero, List.set_cons_succ]
          refine wpAnyH_putD (i := 9) (d := 50) (v := ?_) rfl rfl (by kernel_rfl) (by kernel_rfl) (by kernel_rfl) (fun _ _ _ h => h) (Or.inl ⟨by kernel_rfl, ?_⟩) (by first | exact HS.out _ kk) ?_
          rotate_left
          · (intro w hS; (try dsimp only at hS); go_simp <;> with_reducible rfl)
          try simp only [List.setIfInBounds_toArray, List.set_cons_zero, List.set_cons_succ]
          refine wpAnyH_putD (i := 10) (d := 51) (v := ?_) rfl rfl (by kernel_rfl) (by kernel_rfl) (by kernel_rfl) (fun _ _ _ h => h) (Or.inl ⟨by kernel_rfl, ?_⟩) (by first | exact HS.out _ kk) ?_
          rotate_left
          · (intro w hS; (try dsimp only at hS); go_simp <;> with_reducible rfl)
          try simp only [List.setIfInBounds_toArray, List.set_cons_zero, List.set_cons_succ]
          refine wpAnyH_putD (i := 11) (d := 52) (v := ?_) rfl rfl (by kernel_rfl) (by kernel_rfl) (by kernel_rfl) (fun _ _ _ h => h) (Or.inl ⟨by kernel_rfl, ?_⟩) (by first | exact HS.out _ kk) ?_
          rotate_left
          · (intro w hS; (try dsimp only at hS); go_simp <;> with_reducible rfl)
          try simp only [List.setIfInBounds_toArray, List.set_cons_zero, List.set_cons_succ]
          refine wpAnyH_putD (i := 12) (d := 53) (v := ?_) rfl rfl (by kernel_rfl) (by kernel_rfl) (by kernel_rfl) (fun _ _ _ h => h) (Or.inl ⟨by kernel_rfl, ?_⟩) (by first | exact HS.out _ kk) ?_
          rotate_left
          · (intro w hS; (try dsimp only at hS); go_simp <;> with_reducible rfl)
          try simp only [List.setIfInBounds_toArray, List.set_cons_zero, List.set_cons_succ]
          refine wpAnyH_putD (i := 13) (d := 54) (v := ?_) rfl rfl (by kernel_rfl) (by kernel_rfl) (by kernel_rfl) (fun _ _ _ h => h) (Or.inl ⟨by kernel_rfl, ?_⟩) (by first | exact HS.out _ kk) ?_
          rotate_left
          · (intro w hS; (try dsimp only at hS); go_simp <;> with_reducible rfl)
          try simp only [List.setIfInBounds_toArray, List.set_cons_zero, List.set_cons_succ]
          refine wpAnyH_putD (i := 14) (d := 55) (v := ?_) rfl rfl (by kernel_rfl) (by kernel_rfl) (by kernel_rfl) (fun _ _ _ h => h) (Or.inl ⟨by kernel_rfl, ?_⟩) (by first | exact HS.out _ kk) ?_
          rotate_left
          · (intro w hS; (try dsimp only at hS); go_simp <;> with_reducible rfl)
          try simp only [List.setIfInBounds_toArray, List.set_cons_zero, List.set_cons_succ]
          refine wpAnyH_putD (i := 15) (d := 56) (v := ?_) rfl rfl (by kernel_rfl) (by kernel_rfl) (by kernel_rfl) (fun _ _ _ h => h) (Or.inl ⟨by kernel_rfl, ?_⟩) (by first | exact HS.out _ kk) ?_
          rotate_left
          · (intro w hS; (try dsimp only at hS); go_simp <;> with_reducible rfl)
          try simp only [List.setIfInBounds_toArray, List.set_cons_zero, List.set_cons_succ]
          refine wpAnyH_putD (i := 16) (d := 57) (v := ?_) rfl rfl (by kernel_rfl) (by kernel_rfl) (by kernel_rfl) (fun _ _ _ h => h) (Or.inl ⟨by kernel_rfl, ?_⟩) (by first | exact HS.out _ kk) ?_
          rotate_left
          · (intro w hS; (try dsimp only at hS); go_simp <;> with_reducible rfl)
          try simp only [List.setIfInBounds_toArray, List.set_cons_zero, List.set_cons_succ]
          refine wpAnyH_putD (i := 17) (d := 58) (v := undef) rfl rfl (by kernel_rfl) (by kernel_rfl) (by kernel_rfl) (fun _ _ _ h => h) (Or.inr ⟨by kernel_rfl, rfl⟩) (by first | exact HS.out _ kk) ?_
          try simp only [List.setIfInBounds_toArray, List.set_cons_zero, List.set_cons_succ]
          refine wpAnyH_putD (i := 18) (d := 59) (v := undef) rfl rfl (by kernel_rfl) (by kernel_rfl) (by kernel_rfl) (fun _ _ _ h => h) (Or.inr ⟨by kernel_rfl, rfl⟩) (by first | exact HS.out _ kk) ?_
          try simp only [List.setIfInBounds_toArray, List.set_cons_zero, List.set_cons_succ]
          refine wpAnyH_putD (i := 19) (d := 60) (v := undef) rfl rfl (by kernel_rfl) (by kernel_rfl) (by kernel_rfl) (fun _ _ _ h => h) (Or.inr ⟨by kernel_rfl, rfl⟩) (by first | exact HS.out _ kk) ?_
          try simp only [List.setIfInBounds_toArray, List.set_cons_zero, List.set_cons_succ]
          refine wpAnyH_putD (i := 20) (d := 61) (v := undef) rfl rfl (by kernel_rfl) (by kernel_rfl) (by kernel_rfl) (fun _ _ _ h => h) (Or.inr ⟨by kernel_rfl, rfl⟩) (by first | exact HS.out _ kk) ?_
          try simp only [List.setIfInBounds_toArray, List.set_cons_zero, List.set_cons_succ]
          refine wpAnyH_putD (i := 21) (d := 62) (v := undef) rfl rfl (by kernel_rfl) (by kernel_rfl) (by kernel_rfl) (fun _ _ _ h => h) (Or.inr ⟨by kernel_rfl, rfl⟩) (by first | exact HS.out _ kk) ?_
          try simp only [List.setIfInBounds_toArray, List.set_cons_zero, List.set_cons_succ]
          refine wpAnyH_putD (i := 22) (d := 63) (v := ?_) rfl rfl (by kernel_rfl) (by kernel_rfl) (by kernel_rfl) (fun _ _ _ h => h) (Or.inl ⟨by kernel_rfl, ?_⟩) (by first | exact HS.out _ kk) ?_
          rotate_left
          · (intro w hS; (try dsimp only at hS); go_simp <;> with_reducible rfl)
          try simp only [List.setIfInBounds_toArray, List.set_cons_zero, List.set_cons_succ]
          refine wpAnyH_putD (i := 23) (d := 64) (v := ?_) rfl rfl (by kernel_rfl) (by kernel_rfl) (by kernel_rfl) (fun _ _ _ h => h) (Or.inl ⟨by kernel_rfl, ?_⟩) (by first | exact HS.out _ kk) ?_
          rotate_left
          · (intro w hS; (try dsimp only at hS); go_simp <;> with_reducible rfl)
          try simp only [List.setIfInBounds_toArray, List.set_cons_zero, List.set_cons_succ]
          refine wpAnyH_putD (i := 24) (d := 65) (v := undef) rfl rfl (by kernel_rfl) (by kernel_rfl) (by kernel_rfl) (fun _ _ _ h => h) (Or.inr ⟨by kernel_rfl, rfl⟩) (by first | exact HS.out _ kk) ?_
          try simp only [List.setIfInBounds_toArray, List.set_cons_zero, List.set_cons_succ]
          refine wpAnyH_putD (i := 25) (d := 66) (v := undef) rfl rfl (by kernel_rfl) (by kernel_rfl) (by kernel_rfl) (fun _ _ _ h => h) (Or.inr ⟨by kernel_rfl, rfl⟩) (by first | exact HS.out _ kk) ?_
          try simp only [List.setIfInBounds_toArray, List.set_cons_zero, List.set_cons_succ]
          refine wpAnyH_putD (i := 26) (d := 67) (v := undef) rfl rfl (by kernel_rfl) (by kernel_rfl) (by kernel_rfl) (fun _ _ _ h => h) (Or.inr ⟨by kernel_rfl, rfl⟩) (by first | exact HS.out _ kk) ?_
          try simp only [List.setIfInBounds_toArray, List.set_cons_zero, List.set_cons_succ]
          refine wpAnyH_putD (i := 27) (d := 68) (v := undef) rfl rfl (by kernel_rfl) (by kernel_rfl) (by kernel_rfl) (fun _ _ _ h => h) (Or.inr ⟨by kernel_rfl, rfl⟩) (by first | exact HS.out _ kk) ?_
          try simp only [List.setIfInBounds_toArray, List.set_cons_zero, List.set_cons_succ]
          refine wpAnyH_putD (i := 28) (d := 69) (v := undef) rfl rfl (by kernel_rfl) (by kernel_rfl) (by kernel_rfl) (fun _ _ _ h => h) (Or.inr ⟨by kernel_rfl, rfl⟩) (by first | exact HS.out _ kk) ?_
          try simp only [List.setIfInBounds_toArray, List.set_cons_zero, List.set_cons_succ]
          refine wpAnyH_putD (i := 29) (d := 70) (v := undef) rfl rfl (by kernel_rfl) (by kernel_rfl) (by kernel_rfl) (fun _ _ _ h => h) (Or.inr ⟨by kernel_rfl, rfl⟩) (by first | exact HS.out _ kk) ?_
          try simp only [List.setIfInBounds_toArray, List.set_cons_zero, List.set_cons_succ]
          refine wpAnyH_putD (i := 30) (d := 71) (v := undef) rfl rfl (by kernel_rfl) (by kernel_rfl) (by kernel_rfl) (fun _ _ _ h => h) (Or.inr ⟨by kernel_rfl, rfl⟩) (by first | exact HS.out _ kk) ?_
          try simp only [List.setIfInBounds_toArray, List.set_cons_zero, List.set_cons_succ]
          refine wpAnyH_putD (i := 31) (d := 72) (v := undef) rfl rfl (by kernel_rfl) (by kernel_rfl) (by kernel_rfl) (fun _ _ _ h => h) (Or.inr ⟨by kernel_rfl, rfl⟩) (by first | exact HS.out _ kk) ?_
          try simp only [List.setIfInBounds_toArray, List.set_cons_zero, List.set_cons_succ]
          refine wpAnyH_putD (i := 32) (d := 73) (v := undef) rfl rfl (by kernel_rfl) (by kernel_rfl) (by kernel_rfl) (fun _ _ _ h => h) (Or.inr ⟨by kernel_rfl, rfl⟩) (by first | exact HS.out _ kk) ?_
          try simp only [List.setIfInBounds_toArray, List.set_cons_zero, List.set_cons_succ]
          refine wpAnyH_putD (i := 33) (d := 74) (v := undef) rfl rfl (by kernel_rfl) (by kernel_rfl) (by kernel_rfl) (fun _ _ _ h => h) (Or.inr ⟨by kernel_rfl, rfl⟩) (by first | exact HS.out _ kk) ?_
          try simp only [List.setIfInBounds_toArray, List.set_cons_zero, List.set_cons_succ]
          refine wpAnyH_putD (i := 34) (d := 75) (v := undef) rfl rfl (by kernel_rfl) (by kernel_rfl) (by kernel_rfl) (fun _ _ _ h => h) (Or.inr ⟨by kernel_rfl, rfl⟩) (by first | exact HS.out _ kk) ?_
          try simp only [List.setIfInBounds_toArray, List.set_cons_zero, List.set_cons_succ]
          refine wpAnyH_putD (i := 35) (d := 76) (v := undef) rfl rfl (by kernel_rfl) (by kernel_rfl) (by kernel_rfl) (fun _ _ _ h => h) (Or.inr ⟨by kernel_rfl, rfl⟩) (by first | exact HS.out _ kk) ?_
          try simp only [List.setIfInBounds_toArray, List.set_cons_zero, List.set_cons_succ]
          refine wpAnyH_putD (i := 36) (d := 77) (v := undef) rfl rfl (by kernel_rfl) (by kernel_rfl) (by kernel_rfl) (fun _ _ _ h => h) (Or.inr ⟨by kernel_rfl, rfl⟩) (by first | exact HS.out _ kk) ?_
          try simp only [List.setIfInBounds_toArray, List.set_cons_zero, List.set_cons_succ]
          refine wpAnyH_putD (i := 37) (d := 78) (v := undef) rfl rfl (by kernel_rfl) (by kernel_rfl) (by kernel_rfl) (fun _ _ _ h => h) (Or.inr ⟨by kernel_rfl, rfl⟩) (by first | exact HS.out _ kk) ?_
          try simp only [List.setIfInBounds_toArray, List.set_cons_zero, List.set_cons_succ]
          refine wpAnyH_putD (i := 38) (d := 79) (v := ?_) rfl rfl (by kernel_rfl) (by kernel_rfl) (by kernel_rfl) (fun _ _ _ h => h) (Or.inl ⟨by kernel_rfl, ?_⟩) (by first | exact HS.out _ kk) ?_
          rotate_left
          · (intro w hS; (try dsimp only at hS); go_simp <;> with_reducible rfl)
          try simp only [List.setIfInBounds_toArray, List.set_cons_zero, List.set_cons_succ]
          refine wpAnyH_done (by kernel_rfl) ?_ _
          refine Nrm.out (hKK _ _ ?_)
          go_wp2
          go_ret
          exact ⟨by rw [HN.out]; rfl, below_then hb0 (Nat.le_refl _) k⟩
        have d1 : decide (ob < 0) = false := by simp; omega
        have d2 : decide (ob > 255) = false := by simp; omega
        cases z2
        · have HN := Lib.hid (show ntW x.e x.b (-1) x.w = ntW x.e x.b ob (x.w.drop (j + 1)) by rw [HDD.out]; simp [show 0 ≤ ob by omega, show ob ≤ 255 by omega, show -1 < ob by omega])
          go_wp2
          rw [HW1.out]
          refine region_nrm fun KK hKK => ?_
          refine wp_region_held_drew (S := (fun W => W.cell? ⟨w.heap.size, 0, none⟩ = some (.slice A1 n1 c1) ∧ W.cell? ⟨w.heap.size, 1, none⟩ = some (.slice A2 n2 c2) ∧ W.cell? ⟨w.heap.size, 2, none⟩ = some (.slice A3 n3 c3) ∧ W.cell? ⟨w.heap.size, 3, none⟩ = some (.slice (some ⟨b, o, none⟩) n4 c4) ∧ W.cell? ⟨wr.heap.size, 0, none⟩ = some (.int .i64 sc) ∧ W.cell? ⟨wr.heap.size, 1, none⟩ = some (.int .i64 sn) ∧ W.cell? ⟨wr.heap.size, 2, none⟩ = some (.int .i64 ob) ∧ W.cell? ⟨wr.heap.size, 3, none⟩ = some (.bool gn))) (by kernel_rfl) (by first | exact HS.out _ kk) (fun hHeld => ?_)
          refine wpAnyH_putD (i := 0) (d := 41) (v := ?_) rfl rfl (by kernel_rfl) (by kernel_rfl) (by kernel_rfl) (fun _ _ _ h => h) (Or.inl ⟨by kernel_rfl, ?_⟩) (by first | exact HS.out _ kk) ?_
          rotate_left
          · (intro w hS; (try dsimp only at hS); go_simp <;> with_reducible rfl)
          try simp only [List.setIfInBounds_toArray, List.set_cons_zero, List.set_cons_succ]
          refine wpAnyH_putD (i := 1) (d := 42) (v := ?_) rfl rfl (by kernel_rfl) (by kernel_rfl) (by kernel_rfl) (fun _ _ _ h => h) (Or.inl ⟨by kernel_rfl, ?_⟩) (by first | exact HS.out _ kk) ?_
          rotate_left
          · (intro w hS; (try dsimp only at hS); go_simp <;> with_reducible rfl)
          try simp only [List.setIfInBounds_toArray, List.set_cons_zero, List.set_cons_succ]
          refine wpAnyH_putD (i := 2) (d := 43) (v := ?_) rfl rfl (by kernel_rfl) (by kernel_rfl) (by kernel_rfl) (fun _ _ _ h => h) (Or.inl ⟨by kernel_rfl, ?_⟩) (by first | exact HS.out _ kk) ?_
          rotate_left
          · (intro w hS; (try dsimp only at hS); go_simp <;> with_reducible rfl)
          try simp only [List.setIfInBounds_toArray, List.set_cons_zero, List.set_cons_succ]
          refine wpAnyH_putD (i := 3) (d := 44) (v := ?_) rfl rfl (by kernel_rfl) (by kernel_rfl) (by kernel_rfl) (fun _ _ _ h => h) (Or.inl ⟨by kernel_rfl, ?_⟩) (by first | exact HS.out _ kk) ?_
          rotate_left
          · (intro w hS; (try dsimp only at hS); go_simp <;> with_reducible rfl)
          try simp only [List.setIfInBounds_toArray, List.set_cons_zero, List.set_cons_succ]
          refine wpAnyH_ready (rs := [4]) (by kernel_rfl) (by simp) ?_
          refine AllReadyH.cons rfl (fun K hK => ?_) AllReadyH.nil
          go_simp
          refine (G6.out _ k).mono ?_
          rintro e w' ⟨rfl, hb'⟩
          have k := below_then k (Nat.le_refl _) hb'
          have kk := below_then kk (Nat.le_refl _) hb'
          clear hb'
          refine hK.out _ _ (by first | exact HS.out _ kk) (fun hHeld => ?_)
          clear hK K
          refine wpAnyH_putD (i := 5) (d := 46) (v := ?_) rfl rfl (by kernel_rfl) (by kernel_rfl) (by kernel_rfl) (fun _ _ _ h => h) (Or.inl ⟨by kernel_rfl, ?_⟩) (by first | exact HS.out _ kk) ?_
          rotate_left
          · (intro w hS; (try dsimp only at hS); go_simp <;> with_reducible rfl)
          try simp only [List.setIfInBounds_toArray, List.set_cons_zero, List.set_cons_succ]
          refine wpAnyH_putD (i := 6) (d := 47) (v := ?_) rfl rfl (by kernel_rfl) (by kernel_rfl) (by kernel_rfl) (fun _ _ _ h => h) (Or.inl ⟨by kernel_rfl, ?_⟩) (by first | exact HS.out _ kk) ?_
          rotate_left
          · (intro w hS; (try dsimp only at hS); go_simp <;> with_reducible rfl)
          try simp only [List.setIfInBounds_toArray, List.set_cons_zero, List.set_cons_succ]
          refine wpAnyH_putD (i := 7) (d := 48) (v := ?_) rfl rfl (by kernel_rfl) (by kernel_rfl) (by kernel_rfl) (fun _ _ _ h => h) (Or.inl ⟨by kernel_rfl, ?_⟩) (by first | exact HS.out _ kk) ?_
          rotate_left
          · (intro w hS; (try dsimp only at hS); go_simp <;> with_reducible rfl)
          try simp only [List.setIfInBounds_toArray, List.set_cons_zero, List.set_cons_succ]
          refine wpAnyH_putD (i := 8) (d := 49) (v := ?_) rfl rfl (by kernel_rfl) (by kernel_rfl) (by kernel_rfl) (fun _ _ _ h => h) (Or.inl ⟨by kernel_rfl, ?_⟩) (by first | exact HS.out _ kk) ?_
          rotate_left
          · (intro w hS; (try dsimp only at hS); go_simp <;> with_reducible rfl)
          try simp only [List.setIfInBounds_toArray, List.set_cons_zero, List.set_cons_succ]
          refine wpAnyH_putD (i := 9) (d := 50) (v := ?_) rfl rfl (by kernel_rfl) (by kernel_rfl) (by kernel_rfl) (fun _ _ _ h => h) (Or.inl ⟨by kernel_rfl, ?_⟩) (by first | exact HS.out _ kk) ?_
          rotate_left
          · (intro w hS; (try dsimp only at hS); go_simp <;> with_reducible rfl)
          try simp only [List.setIfInBounds_toArray, List.set_cons_zero, List.set_cons_succ]
          refine wpAnyH_putD (i := 10) (d := 51) (v := ?_) rfl rfl (by kernel_rfl) (by kernel_rfl) (by kernel_rfl) (fun _ _ _ h => h) (Or.inl ⟨by kernel_rfl, ?_⟩) (by first | exact HS.out _ kk) ?_
          rotate_left
          · (intro w hS; (try dsimp only at hS); go_simp <;> with_reducible rfl)
          try simp only [List.setIfInBounds_toArray, List.set_cons_zero, List.set_cons_succ]
          refine wpAnyH_putD (i := 11) (d := 52) (v := ?_) rfl rfl (by kernel_rfl) (by kernel_rfl) (by kernel_rfl) (fun _ _ _ h => h) (Or.inl ⟨by kernel_rfl, ?_⟩) (by first | exact HS.out _ kk) ?_
          rotate_left
          · (intro w hS; (try dsimp only at hS); go_simp <;> with_reducible rfl)
          try simp only [List.setIfInBounds_toArray, List.set_cons_zero, List.set_cons_succ]
          refine wpAnyH_putD (i := 12) (d := 53) (v := ?_) rfl rfl (by kernel_rfl) (by kernel_rfl) (by kernel_rfl) (fun _ _ _ h => h) (Or.inl ⟨by kernel_rfl, ?_⟩) (by first | exact HS.out _ kk) ?_
          rotate_left
          · (intro w hS; (try dsimp only at hS); go_simp <;> with_reducible rfl)
          try simp only [List.setIfInBounds_toArray, List.set_cons_zero, List.set_cons_succ]
          refine wpAnyH_putD (i := 13) (d := 54) (v := ?_) rfl rfl (by kernel_rfl) (by kernel_rfl) (by kernel_rfl) (fun _ _ _ h => h) (Or.inl ⟨by kernel_rfl, ?_⟩) (by first | exact HS.out _ kk) ?_
          rotate_left
          · (intro w hS; (try dsimp only at hS); go_simp <;> with_reducible rfl)
          try simp only [List.setIfInBounds_toArray, List.set_cons_zero, List.set_cons_succ]
          refine wpAnyH_putD (i := 14) (d := 55) (v := ?_) rfl rfl (by kernel_rfl) (by kernel_rfl) (by kernel_rfl) (fun _ _ _ h => h) (Or.inl ⟨by kernel_rfl, ?_⟩) (by first | exact HS.out _ kk) ?_
          rotate_left
          · (intro w hS; (try dsimp only at hS); go_simp <;> with_reducible rfl)
          try simp only [List.setIfInBounds_toArray, List.set_cons_zero, List.set_cons_succ]
          refine wpAnyH_putD (i := 15) (d := 56) (v := ?_) rfl rfl (by kernel_rfl) (by kernel_rfl) (by kernel_rfl) (fun _ _ _ h => h) (Or.inl ⟨by kernel_rfl, ?_⟩) (by first | exact HS.out _ kk) ?_
          rotate_left
          · (intro w hS; (try dsimp only at hS); go_simp <;> with_reducible rfl)
          try simp only [List.setIfInBounds_toArray, List.set_cons_zero, List.set_cons_succ]
          refine wpAnyH_putD (i := 16) (d := 57) (v := ?_) rfl rfl (by kernel_rfl) (by kernel_rfl) (by kernel_rfl) (fun _ _ _ h => h) (Or.inl ⟨by kernel_rfl, ?_⟩) (by first | exact HS.out _ kk) ?_
          rotate_left
          · (intro w hS; (try dsimp only at hS); go_simp <;> with_reducible rfl)
          try simp only [List.setIfInBounds_toArray, List.set_cons_zero, List.set_cons_succ]
          refine wpAnyH_putD (i := 17) (d := 58) (v := ?_) rfl rfl (by kernel_rfl) (by kernel_rfl) (by kernel_rfl) (fun _ _ _ h => h) (Or.inl ⟨by kernel_rfl, ?_⟩) (by first | exact HS.out _ kk) ?_
          rotate_left
          · (intro w hS; (try dsimp only at hS); go_simp <;> with_reducible rfl)
          try simp only [List.setIfInBounds_toArray, List.set_cons_zero, List.set_cons_succ]
          refine wpAnyH_putD (i := 18) (d := 59) (v := ?_) rfl rfl (by kernel_rfl) (by kernel_rfl) (by kernel_rfl) (fun _ _ _ h => h) (Or.inl ⟨by kernel_rfl, ?_⟩) (by first | exact HS.out _ kk) ?_
          rotate_left
          · (intro w hS; (try dsimp only at hS); go_simp <;> with_reducible rfl)
          try simp only [List.setIfInBounds_toArray, List.set_cons_zero, List.set_cons_succ]
          refine wpAnyH_putD (i := 19) (d := 60) (v := ?_) rfl rfl (by kernel_rfl) (by kernel_rfl) (by kernel_rfl) (fun _ _ _ h => h) (Or.inl ⟨by kernel_rfl, ?_⟩) (by first | exact HS.out _ kk) ?_
          rotate_left
          · (intro w hS; (try dsimp only at hS); go_simp <;> with_reducible rfl)
          try simp only [List.setIfInBounds_toArray, List.set_cons_zero, List.set_cons_succ]
          refine wpAnyH_putD (i := 20) (d := 61) (v := ?_) rfl rfl (by kernel_rfl) (by kernel_rfl) (by kernel_rfl) (fun _ _ _ h => h) (Or.inl ⟨by kernel_rfl, ?_⟩) (by first | exact HS.out _ kk) ?_
          rotate_left
          · (intro w hS; (try dsimp only at hS); go_simp <;> with_reducible rfl)
          try simp only [List.setIfInBounds_toArray, List.set_cons_zero, List.set_cons_succ]
          refine wpAnyH_ready (rs := [21]) (by kernel_rfl) (by simp) ?_
          refine AllReadyH.cons rfl (fun K hK => ?_) AllReadyH.nil
          go_simp
          refine (G5.out _ k).mono ?_
          rintro e w' ⟨rfl, hb'⟩
          have k := below_then k (Nat.le_refl _) hb'
          have kk := below_then kk (Nat.le_refl _) hb'
          clear hb'
          refine hK.out _ _ (by first | exact HS.out _ kk) (fun hHeld => ?_)
          clear hK K
          refine wpAnyH_putD (i := 22) (d := 63) (v := ?_) rfl rfl (by kernel_rfl) (by kernel_rfl) (by kernel_rfl) (fun _ _ _ h => h) (Or.inl ⟨by kernel_rfl, ?_⟩) (by first | exact HS.out _ kk) ?_
          rotate_left
          · (intro w hS; (try dsimp only at hS); go_simp <;> with_reducible rfl)
          try simp only [List.setIfInBounds_toArray, List.set_cons_zero, List.set_cons_succ]
          refine wpAnyH_putD (i := 23) (d := 64) (v := ?_) rfl rfl (by kernel_rfl) (by kernel_rfl) (by kernel_rfl) (fun _ _ _ h => h) (Or.inl ⟨by kernel_rfl, ?_⟩) (by first | exact HS.out _ kk) ?_
          rotate_left
          · (intro w hS; (try dsimp only at hS); go_simp <;> with_reducible rfl)
          try simp only [List.setIfInBounds_toArray, List.set_cons_zero, List.set_cons_succ]
          refine wpAnyH_putD (i := 24) (d := 65) (v := ?_) rfl rfl (by kernel_rfl) (by kernel_rfl) (by kernel_rfl) (fun _ _ _ h => h) (Or.inl ⟨by kernel_rfl, ?_⟩) (by first | exact HS.out _ kk) ?_
          rotate_left
          · (intro w hS; (try dsimp only at hS); go_simp <;> with_reducible rfl)
          try simp only [List.setIfInBounds_toArray, List.set_cons_zero, List.set_cons_succ]
          refine wpAnyH_putD (i := 25) (d := 66) (v := ?_) rfl rfl (by kernel_rfl) (by kernel_rfl) (by kernel_rfl) (fun _ _ _ h => h) (Or.inl ⟨by kernel_rfl, ?_⟩) (by first | exact HS.out _ kk) ?_
          rotate_left
          · (intro w hS; (try dsimp only at hS); go_simp <;> with_reducible rfl)
          try simp only [List.setIfInBounds_toArray, List.set_cons_zero, List.set_cons_succ]
          refine wpAnyH_putD (i := 26) (d := 67) (v := ?_) rfl rfl (by kernel_rfl) (by kernel_rfl) (by kernel_rfl) (fun _ _ _ h => h) (Or.inl ⟨by kernel_rfl, ?_⟩) (by first | exact HS.out _ kk) ?_
          rotate_left
          · (intro w hS; (try dsimp only at hS); go_simp <;> with_reducible rfl)
          try simp only [List.setIfInBounds_toArray, List.set_cons_zero, List.set_cons_succ]
          refine wpAnyH_putD (i := 27) (d := 68) (v := undef) rfl rfl (by kernel_rfl) (by kernel_rfl) (by kernel_rfl) (fun _ _ _ h => h) (Or.inr ⟨by kernel_rfl, rfl⟩) (by first | exact HS.out _ kk) ?_
          try simp only [List.setIfInBounds_toArray, List.set_cons_zero, List.set_cons_succ]
          refine wpAnyH_putD (i := 28) (d := 69) (v := undef) rfl rfl (by kernel_rfl) (by kernel_rfl) (by kernel_rfl) (fun _ _ _ h => h) (Or.inr ⟨by kernel_rfl, rfl⟩) (by first | exact HS.out _ kk) ?_
          try simp only [List.setIfInBounds_toArray, List.set_cons_zero, List.set_cons_succ]
          refine wpAnyH_putD (i := 29) (d := 70) (v := undef) rfl rfl (by kernel_rfl) (by kernel_rfl) (by kernel_rfl) (fun _ _ _ h => h) (Or.inr ⟨by kernel_rfl, rfl⟩) (by first | exact HS.out _ kk) ?_
          try simp only [List.setIfInBounds_toArray, List.set_cons_zero, List.set_cons_succ]
          refine wpAnyH_putD (i := 30) (d := 71) (v := undef) rfl rfl (by kernel_rfl) (by kernel_rfl) (by kernel_rfl) (fun _ _ _ h => h) (Or.inr ⟨by kernel_rfl, rfl⟩) (by first | exact HS.out _ kk) ?_
          try simp only [List.setIfInBounds_toArray, List.set_cons_zero, List.set_cons_succ]
          refine wpAnyH_putD (i := 31) (d := 72) (v := undef) rfl rfl (by kernel_rfl) (by kernel_rfl) (by kernel_rfl) (fun _ _ _ h => h) (Or.inr ⟨by kernel_rfl, rfl⟩) (by first | exact HS.out _ kk) ?_
          try simp only [List.setIfInBounds_toArray, List.set_cons_zero, List.set_cons_succ]
          refine wpAnyH_putD (i := 32) (d := 73) (v := undef) rfl rfl (by kernel_rfl) (by kernel_rfl) (by kernel_rfl) (fun _ _ _ h => h) (Or.inr ⟨by kernel_rfl, rfl⟩) (by first | exact HS.out _ kk) ?_
          try simp only [List.setIfInBounds_toArray, List.set_cons_zero, List.set_cons_succ]
          refine wpAnyH_putD (i := 33) (d := 74) (v := undef) rfl rfl (by kernel_rfl) (by kernel_rfl) (by kernel_rfl) (fun _ _ _ h => h) (Or.inr ⟨by kernel_rfl, rfl⟩) (by first | exact HS.out _ kk) ?_
          try simp only [List.setIfInBounds_toArray, List.set_cons_zero, List.set_cons_succ]
          refine wpAnyH_putD (i := 34) (d := 75) (v := undef) rfl rfl (by kernel_rfl) (by kernel_rfl) (by kernel_rfl) (fun _ _ _ h => h) (Or.inr ⟨by kernel_rfl, rfl⟩) (by first | exact HS.out _ kk) ?_
          try simp only [List.setIfInBounds_toArray, List.set_cons_zero, List.set_cons_succ]
          refine wpAnyH_putD (i := 35) (d := 76) (v := undef) rfl rfl (by kernel_rfl) (by kernel_rfl) (by kernel_rfl) (fun _ _ _ h => h) (Or.inr ⟨by kernel_rfl, rfl⟩) (by first | exact HS.out _ kk) ?_
          try simp only [List.setIfInBounds_toArray, List.set_cons_zero, List.set_cons_succ]
          refine wpAnyH_putD (i := 36) (d := 77) (v := undef) rfl rfl (by kernel_rfl) (by kernel_rfl) (by kernel_rfl) (fun _ _ _ h => h) (Or.inr ⟨by kernel_rfl, rfl⟩) (by first | exact HS.out _ kk) ?_
          try simp only [List.setIfInBounds_toArray, List.set_cons_zero, List.set_cons_succ]
          refine wpAnyH_putD (i := 37) (d := 78) (v := ?_) rfl rfl (by kernel_rfl) (by kernel_rfl) (by kernel_rfl) (fun _ _ _ h => h) (Or.inl ⟨by kernel_rfl, ?_⟩) (by first | exact HS.out _ kk) ?_
          rotate_left
          · (intro w hS; (try dsimp only at hS); go_simp <;> with_reducible rfl)
          try simp only [List.setIfInBounds_toArray, List.set_cons_zero, List.set_cons_succ]
          refine wpAnyH_putD (i := 38) (d := 79) (v := ?_) rfl rfl (by kernel_rfl) (by kernel_rfl) (by kernel_rfl) (fun _ _ _ h => h) (Or.inl ⟨by kernel_rfl, ?_⟩) (by first | exact HS.out _ kk) ?_
          rotate_left
          · (intro w hS; (try dsimp only at hS); go_simp <;> with_reducible rfl)
          try simp only [List.setIfInBounds_toArray, List.set_cons_zero, List.set_cons_succ]
          refine wpAnyH_done (by kernel_rfl) ?_ _
          refine Nrm.out (hKK _ _ ?_)
          go_wp2
          go_roundw
          case rel => exact ⟨j + 1, by omega, by go_num, k, by show _ = _; rw [HN.out, aheadW_next _ _ hjl, HO.out]⟩
          case measure => simp [intOf]; omega
        · have HN := Lib.hid (show ntF x = false by rw [HF.out, HDD.out]; simp)
          go_wp2
          rw [HW1.out]
          refine region_nrm fun KK hKK => ?_
          refine wp_region_held_drew (S := (fun W => W.cell? ⟨w.heap.size, 0, none⟩ = some (.slice A1 n1 c1) ∧ W.cell? ⟨w.heap.size, 1, none⟩ = some (.slice A2 n2 c2) ∧ W.cell? ⟨w.heap.size, 2, none⟩ = some (.slice A3 n3 c3) ∧ W.cell? ⟨w.heap.size, 3, none⟩ = some (.slice (some ⟨b, o, none⟩) n4 c4) ∧ W.cell? ⟨wr.heap.size, 0, none⟩ = some (.int .i64 sc) ∧ W.cell? ⟨wr.heap.size, 1, none⟩ = some (.int .i64 sn) ∧ W.cell? ⟨wr.heap.size, 2, none⟩ = some (.int .i64 ob) ∧ W.cell? ⟨wr.heap.size, 3, none⟩ = some (.bool gn))) (by kernel_rfl) (by first | exact HS.out _ kk) (fun hHeld => ?_)
          refine wpAnyH_putD (i := 0) (d := 41) (v := ?_) rfl rfl (by kernel_rfl) (by kernel_rfl) (by kernel_rfl) (fun _ _ _ h => h) (Or.inl ⟨by kernel_rfl, ?_⟩) (by first | exact HS.out _ kk) ?_
          rotate_left
          · (intro w hS; (try dsimp only at hS); go_simp <;> with_reducible rfl)
          try simp only [List.setIfInBounds_toArray, List.set_cons_zero, List.set_cons_succ]
          refine wpAnyH_putD (i := 1) (d := 42) (v := ?_) rfl rfl (by kernel_rfl) (by kernel_rfl) (by kernel_rfl) (fun _ _ _ h => h) (Or.inl ⟨by kernel_rfl, ?_⟩) (by first | exact HS.out _ kk) ?_
          rotate_left
          · (intro w hS; (try dsimp only at hS); go_simp <;> with_reducible rfl)
          try simp only [List.setIfInBounds_toArray, List.set_cons_zero, List.set_cons_succ]
          refine wpAnyH_putD (i := 2) (d := 43) (v := ?_) rfl rfl (by kernel_rfl) (by kernel_rfl) (by kernel_rfl) (fun _ _ _ h => h) (Or.inl ⟨by kernel_rfl, ?_⟩) (by first | exact HS.out _ kk) ?_
          rotate_left
          · (intro w hS; (try dsimp only at hS); go_simp <;> with_reducible rfl)
          try simp only [List.setIfInBounds_toArray, List.set_cons_zero, List.set_cons_succ]
          refine wpAnyH_putD (i := 3) (d := 44) (v := ?_) rfl rfl (by kernel_rfl) (by kernel_rfl) (by kernel_rfl) (fun _ _ _ h => h) (Or.inl ⟨by kernel_rfl, ?_⟩) (by first | exact HS.out _ kk) ?_
          rotate_left
          · (intro w hS; (try dsimp only at hS); go_simp <;> with_reducible rfl)
          try simp only [List.setIfInBounds_toArray, List.set_cons_zero, List.set_cons_succ]
          refine wpAnyH_ready (rs := [4]) (by kernel_rfl) (by simp) ?_
          refine AllReadyH.cons rfl (fun K hK => ?_) AllReadyH.nil
          go_simp
          refine (G6.out _ k).mono ?_
          rintro e w' ⟨rfl, hb'⟩
          have k := below_then k (Nat.le_refl _) hb'
          have kk := below_then kk (Nat.le_refl _) hb'
          clear hb'
          refine hK.out _ _ (by first | exact HS.out _ kk) (fun hHeld => ?_)
          clear hK K
          refine wpAnyH_putD (i := 5) (d := 46) (v := ?_) rfl rfl (by kernel_rfl) (by kernel_rfl) (by kernel_rfl) (fun _ _ _ h => h) (Or.inl ⟨by kernel_rfl, ?_⟩) (by first | exact HS.out _ kk) ?_
          rotate_left
          · (intro w hS; (try dsimp only at hS); go_simp <;> with_reducible rfl)
          try simp only [List.setIfInBounds_toArray, List.set_cons_zero, List.set_cons_succ]
          refine wpAnyH_putD (i := 6) (d := 47) (v := ?_) rfl rfl (by kernel_rfl) (by kernel_rfl) (by kernel_rfl) (fun _ _ _ h => h) (Or.inl ⟨by kernel_rfl, ?_⟩) (by first | exact HS.out _ kk) ?_
          rotate_left
          · (intro w hS; (try dsimp only at hS); go_simp <;> with_reducible rfl)
          try simp only [List.setIfInBounds_toArray, List.set_cons_zero, List.set_cons_succ]
          refine wpAnyH_putD (i := 7) (d := 48) (v := ?_) rfl rfl (by kernel_rfl) (by kernel_rfl) (by kernel_rfl) (fun _ _ _ h => h) (Or.inl ⟨by kernel_rfl, ?_⟩) (by first | exact HS.out _ kk) ?_
          rotate_left
          · (intro w hS; (try dsimp only at hS); go_simp <;> with_reducible rfl)
          try simp only [List.setIfInBounds_toArray, List.set_cons_zero, List.set_cons_succ]
          refine wpAnyH_putD (i := 8) (d := 49) (v := ?_) rfl rfl (by kernel_rfl) (by kernel_rfl) (by kernel_rfl) (fun _ _ _ h => h) (Or.inl ⟨by kernel_rfl, ?_⟩) (by first | exact HS.out _ kk) ?_
          rotate_left
          · (intro w hS; (try dsimp only at hS); go_simp <;> with_reducible rfl)
          try simp only [List.setIfInBounds_toArray, List.set_cons_zero, List.set_cons_succ]
          refine wpAnyH_putD (i := 9) (d := 50) (v := ?_) rfl rfl (by kernel_rfl) (by kernel_rfl) (by kernel_rfl) (fun _ _ _ h => h) (Or.inl ⟨by kernel_rfl, ?_⟩) (by first | exact HS.out _ kk) ?_
          rotate_left
          · (intro w hS; (try dsimp only at hS); go_simp <;> with_reducible rfl)
          try simp only [List.setIfInBounds_toArray, List.set_cons_zero, List.set_cons_succ]
          refine wpAnyH_putD (i := 10) (d := 51) (v := ?_) rfl rfl (by kernel_rfl) (by kernel_rfl) (by kernel_rfl) (fun _ _ _ h => h) (Or.inl ⟨by kernel_rfl, ?_⟩) (by first | exact HS.out _ kk) ?_
          rotate_left
          · (intro w hS; (try dsimp only at hS); go_simp <;> with_reducible rfl)
          try simp only [List.setIfInBounds_toArray, List.set_cons_zero, List.set_cons_succ]
          refine wpAnyH_putD (i := 11) (d := 52) (v := ?_) rfl rfl (by kernel_rfl) (by kernel_rfl) (by kernel_rfl) (fun _ _ _ h => h) (Or.inl ⟨by kernel_rfl, ?_⟩) (by first | exact HS.out _ kk) ?_
          rotate_left
          · (intro w hS; (try dsimp only at hS); go_simp <;> with_reducible rfl)
          try simp only [List.setIfInBounds_toArray, List.set_cons_zero, List.set_cons_succ]
          refine wpAnyH_putD (i := 12) (d := 53) (v := ?_) rfl rfl (by kernel_rfl) (by kernel_rfl) (by kernel_rfl) (fun _ _ _ h => h) (Or.inl ⟨by kernel_rfl, ?_⟩) (by first | exact HS.out _ kk) ?_
          rotate_left
          · (intro w hS; (try dsimp only at hS); go_simp <;> with_reducible rfl)
          try simp only [List.setIfInBounds_toArray, List.set_cons_zero, List.set_cons_succ]
          refine wpAnyH_putD (i := 13) (d := 54) (v := ?_) rfl rfl (by kernel_rfl) (by kernel_rfl) (by kernel_rfl) (fun _ _ _ h => h) (Or.inl ⟨by kernel_rfl, ?_⟩) (by first | exact HS.out _ kk) ?_
          rotate_left
          · (intro w hS; (try dsimp only at hS); go_simp <;> with_reducible rfl)
          try simp only [List.setIfInBounds_toArray, List.set_cons_zero, List.set_cons_succ]
          refine wpAnyH_putD (i := 14) (d := 55) (v := ?_) rfl rfl (by kernel_rfl) (by kernel_rfl) (by kernel_rfl) (fun _ _ _ h => h) (Or.inl ⟨by kernel_rfl, ?_⟩) (by first | exact HS.out _ kk) ?_
          rotate_left
          · (intro w hS; (try dsimp only at hS); go_simp <;> with_reducible rfl)
          try simp only [List.setIfInBounds_toArray, List.set_cons_zero, List.set_cons_succ]
          refine wpAnyH_putD (i := 15) (d := 56) (v := ?_) rfl rfl (by kernel_rfl) (by kernel_rfl) (by kernel_rfl) (fun _ _ _ h => h) (Or.inl ⟨by kernel_rfl, ?_⟩) (by first | exact HS.out _ kk) ?_
          rotate_left
          · (intro w hS; (try dsimp only at hS); go_simp <;> with_reducible rfl)
          try simp only [List.setIfInBounds_toArray, List.set_cons_zero, List.set_cons_succ]
          refine wpAnyH_putD (i := 16) (d := 57) (v := ?_) rfl rfl (by kernel_rfl) (by kernel_rfl) (by kernel_rfl) (fun _ _ _ h => h) (Or.inl ⟨by kernel_rfl, ?_⟩) (by first | exact HS.out _ kk) ?_
          rotate_left
          · (intro w hS; (try dsimp only at hS); go_simp <;> with_reducible rfl)
          try simp only [List.setIfInBounds_toArray, List.set_cons_zero, List.set_cons_succ]
          refine wpAnyH_putD (i := 17) (d := 58) (v := ?_) rfl rfl (by kernel_rfl) (by kernel_rfl) (by kernel_rfl) (fun _ _ _ h => h) (Or.inl ⟨by kernel_rfl, ?_⟩) (by first | exact HS.out _ kk) ?_
          rotate_left
          · (intro w hS; (try dsimp only at hS); go_simp <;> with_reducible rfl)
          try simp only [List.setIfInBounds_toArray, List.set_cons_zero, List.set_cons_succ]
          refine wpAnyH_putD (i := 18) (d := 59) (v := ?_) rfl rfl (by kernel_rfl) (by kernel_rfl) (by kernel_rfl) (fun _ _ _ h => h) (Or.inl ⟨by kernel_rfl, ?_⟩) (by first | exact HS.out _ kk) ?_
          rotate_left
          · (intro w hS; (try dsimp only at hS); go_simp <;> with_reducible rfl)
          try simp only [List.setIfInBounds_toArray, List.set_cons_zero, List.set_cons_succ]
          refine wpAnyH_putD (i := 19) (d := 60) (v := ?_) rfl rfl (by kernel_rfl) (by kernel_rfl) (by kernel_rfl) (fun _ _ _ h => h) (Or.inl ⟨by kernel_rfl, ?_⟩) (by first | exact HS.out _ kk) ?_
          rotate_left
          · (intro w hS; (try dsimp only at hS); go_simp <;> with_reducible rfl)
          try simp only [List.setIfInBounds_toArray, List.set_cons_zero, List.set_cons_succ]
          refine wpAnyH_putD (i := 20) (d := 61) (v := ?_) rfl rfl (by kernel_rfl) (by kernel_rfl) (by kernel_rfl) (fun _ _ _ h => h) (Or.inl ⟨by kernel_rfl, ?_⟩) (by first | exact HS.out _ kk) ?_
          rotate_left
          · (intro w hS; (try dsimp only at hS); go_simp <;> with_reducible rfl)
          try simp only [List.setIfInBounds_toArray, List.set_cons_zero, List.set_cons_succ]
          refine wpAnyH_ready (rs := [21]) (by kernel_rfl) (by simp) ?_
          refine AllReadyH.cons rfl (fun K hK => ?_) AllReadyH.nil
          go_simp
          refine (G5.out _ k).mono ?_
          rintro e w' ⟨rfl, hb'⟩
          have k := below_then k (Nat.le_refl _) hb'
          have kk := below_then kk (Nat.le_refl _) hb'
          clear hb'
          refine hK.out _ _ (by first | exact HS.out _ kk) (fun hHeld => ?_)
          clear hK K
          refine wpAnyH_putD (i := 22) (d := 63) (v := ?_) rfl rfl (by kernel_rfl) (by kernel_rfl) (by kernel_rfl) (fun _ _ _ h => h) (Or.inl ⟨by kernel_rfl, ?_⟩) (by first | exact HS.out _ kk) ?_
          rotate_left
          · (intro w hS; (try dsimp only at hS); go_simp <;> with_reducible rfl)
          try simp only [List.setIfInBounds_toArray, List.set_cons_zero, List.set_cons_succ]
          refine wpAnyH_putD (i := 23) (d := 64) (v := ?_) rfl rfl (by kernel_rfl) (by kernel_rfl) (by kernel_rfl) (fun _ _ _ h => h) (Or.inl ⟨by kernel_rfl, ?_⟩) (by first | exact HS.out _ kk) ?_
          rotate_left
          · (intro w hS; (try dsimp only at hS); go_simp <;> with_reducible rfl)
          try simp only [List.setIfInBounds_toArray, List.set_cons_zero, List.set_cons_succ]
          refine wpAnyH_putD (i := 24) (d := 65) (v := undef) rfl rfl (by kernel_rfl) (by kernel_rfl) (by kernel_rfl) (fun _ _ _ h => h) (Or.inr ⟨by kernel_rfl, rfl⟩) (by first | exact HS.out _ kk) ?_
          try simp only [List.setIfInBounds_toArray, List.set_cons_zero, List.set_cons_succ]
          refine wpAnyH_putD (i := 25) (d := 66) (v := undef) rfl rfl (by kernel_rfl) (by kernel_rfl) (by kernel_rfl) (fun _ _ _ h => h) (Or.inr ⟨by kernel_rfl, rfl⟩) (by first | exact HS.out _ kk) ?_
          try simp only [List.setIfInBounds_toArray, List.set_cons_zero, List.set_cons_succ]
          refine wpAnyH_putD (i := 26) (d := 67) (v := undef) rfl rfl (by kernel_rfl) (by kernel_rfl) (by kernel_rfl) (fun _ _ _ h => h) (Or.inr ⟨by kernel_rfl, rfl⟩) (by first | exact HS.out _ kk) ?_
          try simp only [List.setIfInBounds_toArray, List.set_cons_zero, List.set_cons_succ]
          refine wpAnyH_putD (i := 27) (d := 68) (v := undef) rfl rfl (by kernel_rfl) (by kernel_rfl) (by kernel_rfl) (fun _ _ _ h => h) (Or.inr ⟨by kernel_rfl, rfl⟩) (by first | exact HS.out _ kk) ?_
          try simp only [List.setIfInBounds_toArray, List.set_cons_zero, List.set_cons_succ]
          refine wpAnyH_putD (i := 28) (d := 69) (v := undef) rfl rfl (by kernel_rfl) (by kernel_rfl) (by kernel_rfl) (fun _ _ _ h => h) (Or.inr ⟨by kernel_rfl, rfl⟩) (by first | exact HS.out _ kk) ?_
          try simp only [List.setIfInBounds_toArray, List.set_cons_zero, List.set_cons_succ]
          refine wpAnyH_putD (i := 29) (d := 70) (v := undef) rfl rfl (by kernel_rfl) (by kernel_rfl) (by kernel_rfl) (fun _ _ _ h => h) (Or.inr ⟨by kernel_rfl, rfl⟩) (by first | exact HS.out _ kk) ?_
          try simp only [List.setIfInBounds_toArray, List.set_cons_zero, List.set_cons_succ]
          refine wpAnyH_putD (i := 30) (d := 71) (v := undef) rfl rfl (by kernel_rfl) (by kernel_rfl) (by kernel_rfl) (fun _ _ _ h => h) (Or.inr ⟨by kernel_rfl, rfl⟩) (by first | exact HS.out _ kk) ?_
          try simp only [List.setIfInBounds_toArray, List.set_cons_zero, List.set_cons_succ]
          refine wpAnyH_putD (i := 31) (d := 72) (v := undef) rfl rfl (by kernel_rfl) (by kernel_rfl) (by kernel_rfl) (fun _ _ _ h => h) (Or.inr ⟨by kernel_rfl, rfl⟩) (by first | exact HS.out _ kk) ?_
          try simp only [List.setIfInBounds_toArray, List.set_cons_zero, List.set_cons_succ]
          refine wpAnyH_putD (i := 32) (d := 73) (v := undef) rfl rfl (by kernel_rfl) (by kernel_rfl) (by kernel_rfl) (fun _ _ _ h => h) (Or.inr ⟨by kernel_rfl, rfl⟩) (by first | exact HS.out _ kk) ?_
          try simp only [List.setIfInBounds_toArray, List.set_cons_zero, List.set_cons_succ]
          refine wpAnyH_putD (i := 33) (d := 74) (v := undef) rfl rfl (by kernel_rfl) (by kernel_rfl) (by kernel_rfl) (fun _ _ _ h => h) (Or.inr ⟨by kernel_rfl, rfl⟩) (by first | exact HS.out _ kk) ?_
          try simp only [List.setIfInBounds_toArray, List.set_cons_zero, List.set_cons_succ]
          refine wpAnyH_putD (i := 34) (d := 75) (v := undef) rfl rfl (by kernel_rfl) (by kernel_rfl) (by kernel_rfl) (fun _ _ _ h => h) (Or.inr ⟨by kernel_rfl, rfl⟩) (by first | exact HS.out _ kk) ?_
          try simp only [List.setIfInBounds_toArray, List.set_cons_zero, List.set_cons_succ]
          refine wpAnyH_putD (i := 35) (d := 76) (v := undef) rfl rfl (by kernel_rfl) (by kernel_rfl) (by kernel_rfl) (fun _ _ _ h => h) (Or.inr ⟨by kernel_rfl, rfl⟩) (by first | exact HS.out _ kk) ?_
          try simp only [List.setIfInBounds_toArray, List.set_cons_zero, List.set_cons_succ]
          refine wpAnyH_putD (i := 36) (d := 77) (v := undef) rfl rfl (by kernel_rfl) (by kernel_rfl) (by kernel_rfl) (fun _ _ _ h => h) (Or.inr ⟨by kernel_rfl, rfl⟩) (by first | exact HS.out _ kk) ?_
          try simp only [List.setIfInBounds_toArray, List.set_cons_zero, List.set_cons_succ]
          refine wpAnyH_putD (i := 37) (d := 78) (v := undef) rfl rfl (by kernel_rfl) (by kernel_rfl) (by kernel_rfl) (fun _ _ _ h => h) (Or.inr ⟨by kernel_rfl, rfl⟩) (by first | exact HS.out _ kk) ?_
          try simp only [List.setIfInBounds_toArray, List.set_cons_zero, List.set_cons_succ]
          refine wpAnyH_putD (i := 38) (d := 79) (v := ?_) rfl rfl (by kernel_rfl) (by kernel_rfl) (by kernel_rfl) (fun _ _ _ h => h) (Or.inl ⟨by kernel_rfl, ?_⟩) (by first | exact HS.out _ kk) ?_
          rotate_left
          · (intro w hS; (try dsimp only at hS); go_simp <;> with_reducible rfl)
          try simp only [List.setIfInBounds_toArray, List.set_cons_zero, List.set_cons_succ]
          refine wpAnyH_done (by kernel_rfl) ?_ _
          refine Nrm.out (hKK _ _ ?_)
          go_wp2
          go_ret
          exact ⟨by rw [HN.out]; rfl, below_then hb0 (Nat.le_refl _) k⟩
      · obtain ⟨i, rfl⟩ : ∃ i, j = i + 1 := ⟨j - 1, by omega⟩
        have hil : i < x.w.length := by omega
        clear hj0
        have hah : aheadW x.w (i + 1) = x.w[i].2.1 := aheadW_next _ _ hil
        rw [hah] at HDD
        obtain ⟨b', o', e', hbb', p0, p1, p2, p3⟩ := HW4.out wr hb i hil
        obtain ⟨rfl, rfl⟩ : b = b' ∧ o = o' := by injection e' with e'; injection e' with e1 e2; exact ⟨e1, e2⟩
        generalize x.w[i].2.1 = pv at p2 HDD
        have e9 : (((i + 1 : Nat) : Int) - 1) = (i : Int) := by omega
        have e8 : IntKind.i64.wrap (i : Int) = (i : Int) := IntWalk.i64_in _ (by omega)
        have hi4 : (0 : Int) ≤ (i : Int) ∧ (i : Int) < (n4 : Int) := by omega
        have P2 := Lib.hid fun W (hb : Below w1.heap.size w1 W) => (show W.cell? ⟨b, o + i * 4 + 2, none⟩ = some (.int .i64 pv) from by
            have hlt := World.block_lt_of_cell? _ _ p2
            rw [hb.cell (p := ⟨b, o + i * 4 + 2, none⟩) (by show b < w1.heap.size; have := hB1.lt; have h3 : b < wr.heap.size := hlt; omega)]
            rw [← HW1.out, World.cell?_alloc_lt _ _ _ hlt]
            exact p2)
        have HS := Lib.hid fun W (hb : Below w1.heap.size w1 W) => (⟨P2.out W hb, HR.out W (below_then K1.out (Nat.le_refl _) hb) hb⟩ : _ ∧ _)
        clear p0 p1 p2 p3 e' hbb'
        clear hah
        have k : Below w0.heap.size w0 w1.drew := K1.out.drew
        have kk : Below w1.heap.size w1 w1.drew := (Below.refl _ w1).drew
        clear hc hn ho hg hst H5'' H6'' hb hr hB1 k1 hw1
        cases z3
        · have HN := Lib.hid (show ntF x = false by rw [HF.out, HDD.out]; rfl)
          go_wp2
          rw [HW1.out]
          refine region_nrm fun KK hKK => ?_
          refine wp_region_held_drew (S := (fun W => W.cell? ⟨b, o + i * 4 + 2, none⟩ = some (.int .i64 pv) ∧ W.cell? ⟨w.heap.size, 0, none⟩ = some (.slice A1 n1 c1) ∧ W.cell? ⟨w.heap.size, 1, none⟩ = some (.slice A2 n2 c2) ∧ W.cell? ⟨w.heap.size, 2, none⟩ = some (.slice A3 n3 c3) ∧ W.cell? ⟨w.heap.size, 3, none⟩ = some (.slice (some ⟨b, o, none⟩) n4 c4) ∧ W.cell? ⟨wr.heap.size, 0, none⟩ = some (.int .i64 sc) ∧ W.cell? ⟨wr.heap.size, 1, none⟩ = some (.int .i64 sn) ∧ W.cell? ⟨wr.heap.size, 2, none⟩ = some (.int .i64 ob) ∧ W.cell? ⟨wr.heap.size, 3, none⟩ = some (.bool gn))) (by kernel_rfl) (by first | exact HS.out _ kk) (fun hHeld => ?_)
          refine wpAnyH_putD (i := 0) (d := 41) (v := ?_) rfl rfl (by kernel_rfl) (by kernel_rfl) (by kernel_rfl) (fun _ _ _ h => h) (Or.inl ⟨by kernel_rfl, ?_⟩) (by first | exact HS.out _ kk) ?_
          rotate_left
          · (intro w hS; (try dsimp only at hS); go_simp <;> with_reducible rfl)
          try simp only [List.setIfInBounds_toArray, List.set_cons_zero, List.set_cons_succ]
          refine wpAnyH_putD (i := 1) (d := 42) (v := ?_) rfl rfl (by kernel_rfl) (by kernel_rfl) (by kernel_rfl) (fun _ _ _ h => h) (Or.inl ⟨by kernel_rfl, ?_⟩) (by first | exact HS.out _ kk) ?_
          rotate_left
          · (intro w hS; (try dsimp only at hS); go_simp <;> with_reducible rfl)
          try simp only [List.setIfInBounds_toArray, List.set_cons_zero, List.set_cons_succ]
          refine wpAnyH_putD (i := 2) (d := 43) (v := ?_) rfl rfl (by kernel_rfl) (by kernel_rfl) (by kernel_rfl) (fun _ _ _ h => h) (Or.inl ⟨by kernel_rfl, ?_⟩) (by first | exact HS.out _ kk) ?_
          rotate_left
          · (intro w hS; (try dsimp only at hS); go_simp <;> with_reducible rfl)
          try simp only [List.setIfInBounds_toArray, List.set_cons_zero, List.set_cons_succ]
          refine wpAnyH_putD (i := 3) (d := 44) (v := ?_) rfl rfl (by kernel_rfl) (by kernel_rfl) (by kernel_rfl) (fun _ _ _ h => h) (Or.inl ⟨by kernel_rfl, ?_⟩) (by first | exact HS.out _ kk) ?_
          rotate_left
          · (intro w hS; (try dsimp only at hS); go_simp <;> with_reducible rfl)
          try simp only [List.setIfInBounds_toArray, List.set_cons_zero, List.set_cons_succ]
          refine wpAnyH_ready (rs := [4]) (by kernel_rfl) (by simp) ?_
          refine AllReadyH.cons rfl (fun K hK => ?_) AllReadyH.nil
          go_simp
          refine (G6.out _ k).mono ?_
          rintro e w' ⟨rfl, hb'⟩
          have k := below_then k (Nat.le_refl _) hb'
          have kk := below_then kk (Nat.le_refl _) hb'
          clear hb'
          refine hK.out _ _ (by first | exact HS.out _ kk) (fun hHeld => ?_)
          clear hK K
          refine wpAnyH_putD (i := 5) (d := 46) (v := ?_) rfl rfl (by kernel_rfl) (by kernel_rfl) (by kernel_rfl) (fun _ _ _ h => h) (Or.inl ⟨by kernel_rfl, ?_⟩) (by first | exact HS.out _ kk) ?_
          rotate_left
          · (intro w hS; (try dsimp only at hS); go_simp <;> with_reducible rfl)
          try simp only [List.setIfInBounds_toArray, List.set_cons_zero, List.set_cons_succ]
          refine wpAnyH_putD (i := 6) (d := 47) (v := ?_) rfl rfl (by kernel_rfl) (by kernel_rfl) (by kernel_rfl) (fun _ _ _ h => h) (Or.inl ⟨by kernel_rfl, ?_⟩) (by first | exact HS.out _ kk) ?_
          rotate_left
          · (intro w hS; (try dsimp only at hS); go_simp <;> with_reducible rfl)
          try simp only [List.setIfInBounds_toArray, List.set_cons_zero, List.set_cons_succ]
          refine wpAnyH_putD (i := 7) (d := 48) (v := undef) rfl rfl (by kernel_rfl) (by kernel_rfl) (by kernel_rfl) (fun _ _ _ h => h) (Or.inr ⟨by kernel_rfl, rfl⟩) (by first | exact HS.out _ kk) ?_
          try simp only [List.setIfInBounds_toArray, List.set_cons_zero, List.set_cons_succ]
          refine wpAnyH_putD (i := 8) (d := 49) (v := undef) rfl rfl (by kernel_rfl) (by kernel_rfl) (by kernel_rfl) (fun _ _ _ h => h) (Or.inr ⟨by kernel_rfl, rfl⟩) (by first | exact HS.out _ kk) ?_
          try simp only [List.setIfInBounds_toArray, List.set_cons_zero, List.set_cons_succ]
          refine wpAnyH_putD (i := 9) (d := 50) (v := undef) rfl rfl (by kernel_rfl) (by kernel_rfl) (by kernel_rfl) (fun _ _ _ h => h) (Or.inr ⟨by kernel_rfl, rfl⟩) (by first | exact HS.out _ kk) ?_
          try simp only [List.setIfInBounds_toArray, List.set_cons_zero, List.set_cons_succ]
          refine wpAnyH_putD (i := 10) (d := 51) (v := ?_) rfl rfl (by kernel_rfl) (by kernel_rfl) (by kernel_rfl) (fun _ _ _ h => h) (Or.inl ⟨by kernel_rfl, ?_⟩) (by first | exact HS.out _ kk) ?_
          rotate_left
          · (intro w hS; (try dsimp only at hS); go_simp <;> with_reducible rfl)
          try simp only [List.setIfInBounds_toArray, List.set_cons_zero, List.set_cons_succ]
          refine wpAnyH_putD (i := 11) (d := 52) (v := ?_) rfl rfl (by kernel_rfl) (by kernel_rfl) (by kernel_rfl) (fun _ _ _ h => h) (Or.inl ⟨by kernel_rfl, ?_⟩) (by first | exact HS.out _ kk) ?_
          rotate_left
          · (intro w hS; (try dsimp only at hS); go_simp <;> with_reducible rfl)
          try simp only [List.setIfInBounds_toArray, List.set_cons_zero, List.set_cons_succ]
          refine wpAnyH_putD (i := 12) (d := 53) (v := undef) rfl rfl (by kernel_rfl) (by kernel_rfl) (by kernel_rfl) (fun _ _ _ h => h) (Or.inr ⟨by kernel_rfl, rfl⟩) (by first | exact HS.out _ kk) ?_
          try simp only [List.setIfInBounds_toArray, List.set_cons_zero, List.set_cons_succ]
          refine wpAnyH_putD (i := 13) (d := 54) (v := undef) rfl rfl (by kernel_rfl) (by kernel_rfl) (by kernel_rfl) (fun _ _ _ h => h) (Or.inr ⟨by kernel_rfl, rfl⟩) (by first | exact HS.out _ kk) ?_
          try simp only [List.setIfInBounds_toArray, List.set_cons_zero, List.set_cons_succ]
          refine wpAnyH_putD (i := 14) (d := 55) (v := undef) rfl rfl (by kernel_rfl) (by kernel_rfl) (by kernel_rfl) (fun _ _ _ h => h) (Or.inr ⟨by kernel_rfl, rfl⟩) (by first | exact HS.out _ kk) ?_
          try simp only [List.setIfInBounds_toArray, List.set_cons_zero, List.set_cons_succ]
          refine wpAnyH_putD (i := 15) (d := 56) (v := ?_) rfl rfl (by kernel_rfl) (by kernel_rfl) (by kernel_rfl) (fun _ _ _ h => h) (Or.inl ⟨by kernel_rfl, ?_⟩) (by first | exact HS.out _ kk) ?_
          rotate_left
          · (intro w hS; (try dsimp only at hS); go_simp <;> with_reducible rfl)
          try simp only [List.setIfInBounds_toArray, List.set_cons_zero, List.set_cons_succ]
          refine wpAnyH_putD (i := 16) (d := 57) (v := ?_) rfl rfl (by kernel_rfl) (by kernel_rfl) (by kernel_rfl) (fun _ _ _ h => h) (Or.inl ⟨by kernel_rfl, ?_⟩) (by first | exact HS.out _ kk) ?_
          rotate_left
          · (intro w hS; (try dsimp only at hS); go_simp <;> with_reducible rfl)
          try simp only [List.setIfInBounds_toArray, List.set_cons_zero, List.set_cons_succ]
          refine wpAnyH_putD (i := 17) (d := 58) (v := undef) rfl rfl (by kernel_rfl) (by kernel_rfl) (by kernel_rfl) (fun _ _ _ h => h) (Or.inr ⟨by kernel_rfl, rfl⟩) (by first | exact HS.out _ kk) ?_
          try simp only [List.setIfInBounds_toArray, List.set_cons_zero, List.set_cons_succ]
          refine wpAnyH_putD (i := 18) (d := 59) (v := undef) rfl rfl (by kernel_rfl) (by kernel_rfl) (by kernel_rfl) (fun _ _ _ h => h) (Or.inr ⟨by kernel_rfl, rfl⟩) (by first | exact HS.out _ kk) ?_
          try simp only [List.setIfInBounds_toArray, List.set_cons_zero, List.set_cons_succ]
          refine wpAnyH_putD (i := 19) (d := 60) (v := undef) rfl rfl (by kernel_rfl) (by kernel_rfl) (by kernel_rfl) (fun _ _ _ h => h) (Or.inr ⟨by kernel_rfl, rfl⟩) (by first | exact HS.out _ kk) ?_
          try simp only [List.setIfInBounds_toArray, List.set_cons_zero, List.set_cons_succ]
          refine wpAnyH_putD (i := 20) (d := 61) (v := undef) rfl rfl (by kernel_rfl) (by kernel_rfl) (by kernel_rfl) (fun _ _ _ h => h) (Or.inr ⟨by kernel_rfl, rfl⟩) (by first | exact HS.out _ kk) ?_
          try simp only [List.setIfInBounds_toArray, List.set_cons_zero, List.set_cons_succ]
          refine wpAnyH_putD (i := 21) (d := 62) (v := undef) rfl rfl (by kernel_rfl) (by kernel_rfl) (by kernel_rfl) (fun _ _ _ h => h) (Or.inr ⟨by kernel_rfl, rfl⟩) (by first | exact HS.out _ kk) ?_
          try simp only [List.setIfInBounds_toArray, List.set_cons_zero, List.set_cons_succ]
          refine wpAnyH_putD (i := 22) (d := 63) (v := ?_) rfl rfl (by kernel_rfl) (by kernel_rfl) (by kernel_rfl) (fun _ _ _ h => h) (Or.inl ⟨by kernel_rfl, ?_⟩) (by first | exact HS.out _ kk) ?_
          rotate_left
          · (intro w hS; (try dsimp only at hS); go_simp <;> with_reducible rfl)
          try simp only [List.setIfInBounds_toArray, List.set_cons_zero, List.set_cons_succ]
          refine wpAnyH_putD (i := 23) (d := 64) (v := ?_) rfl rfl (by kernel_rfl) (by kernel_rfl) (by kernel_rfl) (fun _ _ _ h => h) (Or.inl ⟨by kernel_rfl, ?_⟩) (by first | exact HS.out _ kk) ?_
          rotate_left
          · (intro w hS; (try dsimp only at hS); go_simp <;> with_reducible rfl)
          try simp only [List.setIfInBounds_toArray, List.set_cons_zero, List.set_cons_succ]
          refine wpAnyH_putD (i := 24) (d := 65) (v := undef) rfl rfl (by kernel_rfl) (by kernel_rfl) (by kernel_rfl) (fun _ _ _ h => h) (Or.inr ⟨by kernel_rfl, rfl⟩) (by first | exact HS.out _ kk) ?_
          try simp only [List.setIfInBounds_toArray, List.set_cons_zero, List.set_cons_succ]
          refine wpAnyH_putD (i := 25) (d := 66) (v := undef) rfl rfl (by kernel_rfl) (by kernel_rfl) (by kernel_rfl) (fun _ _ _ h => h) (Or.inr ⟨by kernel_rfl, rfl⟩) (by first | exact HS.out _ kk) ?_
          try simp only [List.setIfInBounds_toArray, List.set_cons_zero, List.set_cons_succ]
          refine wpAnyH_putD (i := 26) (d := 67) (v := undef) rfl rfl (by kernel_rfl) (by kernel_rfl) (by kernel_rfl) (fun _ _ _ h => h) (Or.inr ⟨by kernel_rfl, rfl⟩) (by first | exact HS.out _ kk) ?_
          try simp only [List.setIfInBounds_toArray, List.set_cons_zero, List.set_cons_succ]
          refine wpAnyH_putD (i := 27) (d := 68) (v := undef) rfl rfl (by kernel_rfl) (by kernel_rfl) (by kernel_rfl) (fun _ _ _ h => h) (Or.inr ⟨by kernel_rfl, rfl⟩) (by first | exact HS.out _ kk) ?_
          try simp only [List.setIfInBounds_toArray, List.set_cons_zero, List.set_cons_succ]
          refine wpAnyH_putD (i := 28) (d := 69) (v := undef) rfl rfl (by kernel_rfl) (by kernel_rfl) (by kernel_rfl) (fun _ _ _ h => h) (Or.inr ⟨by kernel_rfl, rfl⟩) (by first | exact HS.out _ kk) ?_
          try simp only [List.setIfInBounds_toArray, List.set_cons_zero, List.set_cons_succ]
          refine wpAnyH_putD (i := 29) (d := 70) (v := undef) rfl rfl (by kernel_rfl) (by kernel_rfl) (by kernel_rfl) (fun _ _ _ h => h) (Or.inr ⟨by kernel_rfl, rfl⟩) (by first | exact HS.out _ kk) ?_
          try simp only [List.setIfInBounds_toArray, List.set_cons_zero, List.set_cons_succ]
          refine wpAnyH_putD (i := 30) (d := 71) (v := undef) rfl rfl (by kernel_rfl) (by kernel_rfl) (by kernel_rfl) (fun _ _ _ h => h) (Or.inr ⟨by kernel_rfl, rfl⟩) (by first | exact HS.out _ kk) ?_
          try simp only [List.setIfInBounds_toArray, List.set_cons_zero, List.set_cons_succ]
          refine wpAnyH_putD (i := 31) (d := 72) (v := undef) rfl rfl (by kernel_rfl) (by kernel_rfl) (by kernel_rfl) (fun _ _ _ h => h) (Or.inr ⟨by kernel_rfl, rfl⟩) (by first | exact HS.out _ kk) ?_
          try simp only [List.setIfInBounds_toArray, List.set_cons_zero, List.set_cons_succ]
          refine wpAnyH_putD (i := 32) (d := 73) (v := undef) rfl rfl (by kernel_rfl) (by kernel_rfl) (by kernel_rfl) (fun _ _ _ h => h) (Or.inr ⟨by kernel_rfl, rfl⟩) (by first | exact HS.out _ kk) ?_
          try simp only [List.setIfInBounds_toArray, List.set_cons_zero, List.set_cons_succ]
          refine wpAnyH_putD (i := 33) (d := 74) (v := undef) rfl rfl (by kernel_rfl) (by kernel_rfl) (by kernel_rfl) (fun _ _ _ h => h) (Or.inr ⟨by kernel_rfl, rfl⟩) (by first | exact HS.out _ kk) ?_
          try simp only [List.setIfInBounds_toArray, List.set_cons_zero, List.set_cons_succ]
          refine wpAnyH_putD (i := 34) (d := 75) (v := undef) rfl rfl (by kernel_rfl) (by kernel_rfl) (by kernel_rfl) (fun _ _ _ h => h) (Or.inr ⟨by kernel_rfl, rfl⟩) (by first | exact HS.out _ kk) ?_
          try simp only [List.setIfInBounds_toArray, List.set_cons_zero, List.set_cons_succ]
          refine wpAnyH_putD (i := 35) (d := 76) (v := undef) rfl rfl (by kernel_rfl) (by kernel_rfl) (by kernel_rfl) (fun _ _ _ h => h) (Or.inr ⟨by kernel_rfl, rfl⟩) (by first | exact HS.out _ kk) ?_
          try simp only [List.setIfInBounds_toArray, List.set_cons_zero, List.set_cons_succ]
          refine wpAnyH_putD (i := 36) (d := 77) (v := undef) rfl rfl (by kernel_rfl) (by kernel_rfl) (by kernel_rfl) (fun _ _ _ h => h) (Or.inr ⟨by kernel_rfl, rfl⟩) (by first | exact HS.out _ kk) ?_
          try simp only [List.setIfInBounds_toArray, List.set_cons_zero, List.set_cons_succ]
          refine wpAnyH_putD (i := 37) (d := 78) (v := undef) rfl rfl (by kernel_rfl) (by kernel_rfl) (by kernel_rfl) (fun _ _ _ h => h) (Or.inr ⟨by kernel_rfl, rfl⟩) (by first | exact HS.out _ kk) ?_
          try simp only [List.setIfInBounds_toArray, List.set_cons_zero, List.set_cons_succ]
          refine wpAnyH_putD (i := 38) (d := 79) (v := ?_) rfl rfl (by kernel_rfl) (by kernel_rfl) (by kernel_rfl) (fun _ _ _ h => h) (Or.inl ⟨by kernel_rfl, ?_⟩) (by first | exact HS.out _ kk) ?_
          rotate_left
          · (intro w hS; (try dsimp only at hS); go_simp <;> with_reducible rfl)
          try simp only [List.setIfInBounds_toArray, List.set_cons_zero, List.set_cons_succ]
          refine wpAnyH_done (by kernel_rfl) ?_ _
          refine Nrm.out (hKK _ _ ?_)
          go_wp2
          go_ret
          exact ⟨by rw [HN.out]; rfl, below_then hb0 (Nat.le_refl _) k⟩
        by_cases u1 : ob < 0
        · have HN := Lib.hid (show ntF x = false by rw [HF.out, HDD.out]; simp [show ¬ (0 ≤ ob) by omega])
          go_wp2
          rw [HW1.out]
          refine region_nrm fun KK hKK => ?_
          refine wp_region_held_drew (S := (fun W => W.cell? ⟨b, o + i * 4 + 2, none⟩ = some (.int .i64 pv) ∧ W.cell? ⟨w.heap.size, 0, none⟩ = some (.slice A1 n1 c1) ∧ W.cell? ⟨w.heap.size, 1, none⟩ = some (.slice A2 n2 c2) ∧ W.cell? ⟨w.heap.size, 2, none⟩ = some (.slice A3 n3 c3) ∧ W.cell? ⟨w.heap.size, 3, none⟩ = some (.slice (some ⟨b, o, none⟩) n4 c4) ∧ W.cell? ⟨wr.heap.size, 0, none⟩ = some (.int .i64 sc) ∧ W.cell? ⟨wr.heap.size, 1, none⟩ = some (.int .i64 sn) ∧ W.cell? ⟨wr.heap.size, 2, none⟩ = some (.int .i64 ob) ∧ W.cell? ⟨wr.heap.size, 3, none⟩ = some (.bool gn))) (by kernel_rfl) (by first | exact HS.out _ kk) (fun hHeld => ?_)
          refine wpAnyH_putD (i := 0) (d := 41) (v := ?_) rfl rfl (by kernel_rfl) (by kernel_rfl) (by kernel_rfl) (fun _ _ _ h => h) (Or.inl ⟨by kernel_rfl, ?_⟩) (by first | exact HS.out _ kk) ?_
          rotate_left
          · (intro w hS; (try dsimp only at hS); go_simp <;> with_reducible rfl)
          try simp only [List.setIfInBounds_toArray, List.set_cons_zero, List.set_cons_succ]
          refine wpAnyH_putD (i := 1) (d := 42) (v := ?_) rfl rfl (by kernel_rfl) (by kernel_rfl) (by kernel_rfl) (fun _ _ _ h => h) (Or.inl ⟨by kernel_rfl, ?_⟩) (by first | exact HS.out _ kk) ?_
          rotate_left
          · (intro w hS; (try dsimp only at hS); go_simp <;> with_reducible rfl)
          try simp only [List.setIfInBounds_toArray, List.set_cons_zero, List.set_cons_succ]
          refine wpAnyH_putD (i := 2) (d := 43) (v := ?_) rfl rfl (by kernel_rfl) (by kernel_rfl) (by kernel_rfl) (fun _ _ _ h => h) (Or.inl ⟨by kernel_rfl, ?_⟩) (by first | exact HS.out _ kk) ?_
          rotate_left
          · (intro w hS; (try dsimp only at hS); go_simp <;> with_reducible rfl)
          try simp only [List.setIfInBounds_toArray, List.set_cons_zero, List.set_cons_succ]
          refine wpAnyH_putD (i := 3) (d := 44) (v := ?_) rfl rfl (by kernel_rfl) (by kernel_rfl) (by kernel_rfl) (fun _ _ _ h => h) (Or.inl ⟨by kernel_rfl, ?_⟩) (by first | exact HS.out _ kk) ?_
          rotate_left
          · (intro w hS; (try dsimp only at hS); go_simp <;> with_reducible rfl)
          try simp only [List.setIfInBounds_toArray, List.set_cons_zero, List.set_cons_succ]
          refine wpAnyH_ready (rs := [4]) (by kernel_rfl) (by simp) ?_
          refine AllReadyH.cons rfl (fun K hK => ?_) AllReadyH.nil
          go_simp
          refine (G6.out _ k).mono ?_
          rintro e w' ⟨rfl, hb'⟩
          have k := below_then k (Nat.le_refl _) hb'
          have kk := below_then kk (Nat.le_refl _) hb'
          clear hb'
          refine hK.out _ _ (by first | exact HS.out _ kk) (fun hHeld => ?_)
          clear hK K
          refine wpAnyH_putD (i := 5) (d := 46) (v := ?_) rfl rfl (by kernel_rfl) (by kernel_rfl) (by kernel_rfl) (fun _ _ _ h => h) (Or.inl ⟨by kernel_rfl, ?_⟩) (by first | exact HS.out _ kk) ?_
          rotate_left
          · (intro w hS; (try dsimp only at hS); go_simp <;> with_reducible rfl)
          try simp only [List.setIfInBounds_toArray, List.set_cons_zero, List.set_cons_succ]
          refine wpAnyH_putD (i := 6) (d := 47) (v := ?_) rfl rfl (by kernel_rfl) (by kernel_rfl) (by kernel_rfl) (fun _ _ _ h => h) (Or.inl ⟨by kernel_rfl, ?_⟩) (by first | exact HS.out _ kk) ?_
          rotate_left
          · (intro w hS; (try dsimp only at hS); go_simp <;> with_reducible rfl)
          try simp only [List.setIfInBounds_toArray, List.set_cons_zero, List.set_cons_succ]
          refine wpAnyH_putD (i := 7) (d := 48) (v := ?_) rfl rfl (by kernel_rfl) (by kernel_rfl) (by kernel_rfl) (fun _ _ _ h => h) (Or.inl ⟨by kernel_rfl, ?_⟩) (by first | exact HS.out _ kk) ?_
          rotate_left
          · (intro w hS; (try dsimp only at hS); go_simp <;> with_reducible rfl)
          try simp only [List.setIfInBounds_toArray, List.set_cons_zero, List.set_cons_succ]
          refine wpAnyH_putD (i := 8) (d := 49) (v := ?_) rfl rfl (by kernel_rfl) (by kernel_rfl) (by kernel_rfl) (fun _ _ _ h => h) (Or.inl ⟨by kernel_rfl, ?_⟩) (by first | exact HS.out _ kk) ?_
          rotate_left
          · (intro w hS; (try dsimp only at hS); go_simp <;> with_reducible rfl)
          try simp only [List.setIfInBounds_toArray, List.set_cons_zero, List.set_cons_succ]
          refine wpAnyH_putD (i := 9) (d := 50) (v := ?_) rfl rfl (by kernel_rfl) (by kernel_rfl) (by kernel_rfl) (fun _ _ _ h => h) (Or.inl ⟨by kernel_rfl, ?_⟩) (by first | exact HS.out _ kk) ?_
          rotate_left
          · (intro w hS; (try dsimp only at hS); go_simp <;> with_reducible rfl)
          try simp only [List.setIfInBounds_toArray, List.set_cons_zero, List.set_cons_succ]
          refine wpAnyH_putD (i := 10) (d := 51) (v := ?_) rfl rfl (by kernel_rfl) (by kernel_rfl) (by kernel_rfl) (fun _ _ _ h => h) (Or.inl ⟨by kernel_rfl, ?_⟩) (by first | exact HS.out _ kk) ?_
          rotate_left
          · (intro w hS; (try dsimp only at hS); go_simp <;> with_reducible rfl)
          try simp only [List.setIfInBounds_toArray, List.set_cons_zero, List.set_cons_succ]
          refine wpAnyH_putD (i := 11) (d := 52) (v := ?_) rfl rfl (by kernel_rfl) (by kernel_rfl) (by kernel_rfl) (fun _ _ _ h => h) (Or.inl ⟨by kernel_rfl, ?_⟩) (by first | exact HS.out _ kk) ?_
          rotate_left
          · (intro w hS; (try dsimp only at hS); go_simp <;> with_reducible rfl)
          try simp only [List.setIfInBounds_toArray, List.set_cons_zero, List.set_cons_succ]
          refine wpAnyH_putD (i := 12) (d := 53) (v := undef) rfl rfl (by kernel_rfl) (by kernel_rfl) (by kernel_rfl) (fun _ _ _ h => h) (Or.inr ⟨by kernel_rfl, rfl⟩) (by first | exact HS.out _ kk) ?_
          try simp only [List.setIfInBounds_toArray, List.set_cons_zero, List.set_cons_succ]
          refine wpAnyH_putD (i := 13) (d := 54) (v := undef) rfl rfl (by kernel_rfl) (by kernel_rfl) (by kernel_rfl) (fun _ _ _ h => h) (Or.inr ⟨by kernel_rfl, rfl⟩) (by first | exact HS.out _ kk) ?_
          try simp only [List.setIfInBounds_toArray, List.set_cons_zero, List.set_cons_succ]
          refine wpAnyH_putD (i := 14) (d := 55) (v := undef) rfl rfl (by kernel_rfl) (by kernel_rfl) (by kernel_rfl) (fun _ _ _ h => h) (Or.inr ⟨by kernel_rfl, rfl⟩) (by first | exact HS.out _ kk) ?_
          try simp only [List.setIfInBounds_toArray, List.set_cons_zero, List.set_cons_succ]
          refine wpAnyH_putD (i := 15) (d := 56) (v := ?_) rfl rfl (by kernel_rfl) (by kernel_rfl) (by kernel_rfl) (fun _ _ _ h => h) (Or.inl ⟨by kernel_rfl, ?_⟩) (by first | exact HS.out _ kk) ?_
          rotate_left
          · (intro w hS; (try dsimp only at hS); go_simp <;> with_reducible rfl)
          try simp only [List.setIfInBounds_toArray, List.set_cons_zero, List.set_cons_succ]
          refine wpAnyH_putD (i := 16) (d := 57) (v := ?_) rfl rfl (by kernel_rfl) (by kernel_rfl) (by kernel_rfl) (fun _ _ _ h => h) (Or.inl ⟨by kernel_rfl, ?_⟩) (by first | exact HS.out _ kk) ?_
          rotate_left
          · (intro w hS; (try dsimp only at hS); go_simp <;> with_reducible rfl)
          try simp only [List.setIfInBounds_toArray, List.set_cons_zero, List.set_cons_succ]
          refine wpAnyH_putD (i := 17) (d := 58) (v := undef) rfl rfl (by kernel_rfl) (by kernel_rfl) (by kernel_rfl) (fun _ _ _ h => h) (Or.inr ⟨by kernel_rfl, rfl⟩) (by first | exact HS.out _ kk) ?_
          try simp only [List.setIfInBounds_toArray, List.set_cons_zero, List.set_cons_succ]
          refine wpAnyH_putD (i := 18) (d := 59) (v := undef) rfl rfl (by kernel_rfl) (by kernel_rfl) (by kernel_rfl) (fun _ _ _ h => h) (Or.inr ⟨by kernel_rfl, rfl⟩) (by first | exact HS.out _ kk) ?_
          try simp only [List.setIfInBounds_toArray, List.set_cons_zero, List.set_cons_succ]
          refine wpAnyH_putD (i := 19) (d := 60) (v := undef) rfl rfl (by kernel_rfl) (by kernel_rfl) (by kernel_rfl) (fun _ _ _ h => h) (Or.inr ⟨by kernel_rfl, rfl⟩) (by first | exact HS.out _ kk) ?_
          try simp only [List.setIfInBounds_toArray, List.set_cons_zero, List.set_cons_succ]
          refine wpAnyH_putD (i := 20) (d := 61) (v := undef) rfl rfl (by kernel_rfl) (by kernel_rfl) (by kernel_rfl) (fun _ _ _ h => h) (Or.inr ⟨by kernel_rfl, rfl⟩) (by first | exact HS.out _ kk) ?_
          try simp only [List.setIfInBounds_toArray, List.set_cons_zero, List.set_cons_succ]
          refine wpAnyH_putD (i := 21) (d := 62) (v := undef) rfl rfl (by kernel_rfl) (by kernel_rfl) (by kernel_rfl) (fun _ _ _ h => h) (Or.inr ⟨by kernel_rfl, rfl⟩) (by first | exact HS.out _ kk) ?_
          try simp only [List.setIfInBounds_toArray, List.set_cons_zero, List.set_cons_succ]
          refine wpAnyH_putD (i := 22) (d := 63) (v := ?_) rfl rfl (by kernel_rfl) (by kernel_rfl) (by kernel_rfl) (fun _ _ _ h => h) (Or.inl ⟨by kernel_rfl, ?_⟩) (by first | exact HS.out _ kk) ?_
          rotate_left
          · (intro w hS; (try dsimp only at hS); go_simp <;> with_reducible rfl)
          try simp only [List.setIfInBounds_toArray, List.set_cons_zero, List.set_cons_succ]
          refine wpAnyH_putD (i := 23) (d := 64) (v := ?_) rfl rfl (by kernel_rfl) (by kernel_rfl) (by kernel_rfl) (fun _ _ _ h => h) (Or.inl ⟨by kernel_rfl, ?_⟩) (by first | exact HS.out _ kk) ?_
          rotate_left
          · (intro w hS; (try dsimp only at hS); go_simp <;> with_reducible rfl)
          try simp only [List.setIfInBounds_toArray, List.set_cons_zero, List.set_cons_succ]
          refine wpAnyH_putD (i := 24) (d := 65) (v := undef) rfl rfl (by kernel_rfl) (by kernel_rfl) (by kernel_rfl) (fun _ _ _ h => h) (Or.inr ⟨by kernel_rfl, rfl⟩) (by first | exact HS.out _ kk) ?_
          try simp only [List.setIfInBounds_toArray, List.set_cons_zero, List.set_cons_succ]
          refine wpAnyH_putD (i := 25) (d := 66) (v := undef) rfl rfl (by kernel_rfl) (by kernel_rfl) (by kernel_rfl) (fun _ _ _ h => h) (Or.inr ⟨by kernel_rfl, rfl⟩) (by first | exact HS.out _ kk) ?_
          try simp only [List.setIfInBounds_toArray, List.set_cons_zero, List.set_cons_succ]
          refine wpAnyH_putD (i := 26) (d := 67) (v := undef) rfl rfl (by kernel_rfl) (by kernel_rfl) (by kernel_rfl) (fun _ _ _ h => h) (Or.inr ⟨by kernel_rfl, rfl⟩) (by first | exact HS.out _ kk) ?_
          try simp only [List.setIfInBounds_toArray, List.set_cons_zero, List.set_cons_succ]
          refine wpAnyH_putD (i := 27) (d := 68) (v := undef) rfl rfl (by kernel_rfl) (by kernel_rfl) (by kernel_rfl) (fun _ _ _ h => h) (Or.inr ⟨by kernel_rfl, rfl⟩) (by first | exact HS.out _ kk) ?_
          try simp only [List.setIfInBounds_toArray, List.set_cons_zero, List.set_cons_succ]
          refine wpAnyH_putD (i := 28) (d := 69) (v := undef) rfl rfl (by kernel_rfl) (by kernel_rfl) (by kernel_rfl) (fun _ _ _ h => h) (Or.inr ⟨by kernel_rfl, rfl⟩) (by first | exact HS.out _ kk) ?_
          try simp only [List.setIfInBounds_toArray, List.set_cons_zero, List.set_cons_succ]
          refine wpAnyH_putD (i := 29) (d := 70) (v := undef) rfl rfl (by kernel_rfl) (by kernel_rfl) (by kernel_rfl) (fun _ _ _ h => h) (Or.inr ⟨by kernel_rfl, rfl⟩) (by first | exact HS.out _ kk) ?_
          try simp only [List.setIfInBounds_toArray, List.set_cons_zero, List.set_cons_succ]
          refine wpAnyH_putD (i := 30) (d := 71) (v := undef) rfl rfl (by kernel_rfl) (by kernel_rfl) (by kernel_rfl) (fun _ _ _ h => h) (Or.inr ⟨by kernel_rfl, rfl⟩) (by first | exact HS.out _ kk) ?_
          try simp only [List.setIfInBounds_toArray, List.set_cons_zero, List.set_cons_succ]
          refine wpAnyH_putD (i := 31) (d := 72) (v := undef) rfl rfl (by kernel_rfl) (by kernel_rfl) (by kernel_rfl) (fun _ _ _ h => h) (Or.inr ⟨by kernel_rfl, rfl⟩) (by first | exact HS.out _ kk) ?_
          try simp only [List.setIfInBounds_toArray, List.set_cons_zero, List.set_cons_succ]
          refine wpAnyH_putD (i := 32) (d := 73) (v := undef) rfl rfl (by kernel_rfl) (by kernel_rfl) (by kernel_rfl) (fun _ _ _ h => h) (Or.inr ⟨by kernel_rfl, rfl⟩) (by first | exact HS.out _ kk) ?_
          try simp only [List.setIfInBounds_toArray, List.set_cons_zero, List.set_cons_succ]
          refine wpAnyH_putD (i := 33) (d := 74) (v := undef) rfl rfl (by kernel_rfl) (by kernel_rfl) (by kernel_rfl) (fun _ _ _ h => h) (Or.inr ⟨by kernel_rfl, rfl⟩) (by first | exact HS.out _ kk) ?_
          try simp only [List.setIfInBounds_toArray, List.set_cons_zero, List.set_cons_succ]
          refine wpAnyH_putD (i := 34) (d := 75) (v := undef) rfl rfl (by kernel_rfl) (by kernel_rfl) (by kernel_rfl) (fun _ _ _ h => h) (Or.inr ⟨by kernel_rfl, rfl⟩) (by first | exact HS.out _ kk) ?_
          try simp only [List.setIfInBounds_toArray, List.set_cons_zero, List.set_cons_succ]
          refine wpAnyH_putD (i := 35) (d := 76) (v := undef) rfl rfl (by kernel_rfl) (by kernel_rfl) (by kernel_rfl) (fun _ _ _ h => h) (Or.inr ⟨by kernel_rfl, rfl⟩) (by first | exact HS.out _ kk) ?_
          try simp only [List.setIfInBounds_toArray, List.set_cons_zero, List.set_cons_succ]
          refine wpAnyH_putD (i := 36) (d := 77) (v := undef) rfl rfl (by kernel_rfl) (by kernel_rfl) (by kernel_rfl) (fun _ _ _ h => h) (Or.inr ⟨by kernel_rfl, rfl⟩) (by first | exact HS.out _ kk) ?_
          try simp only [List.setIfInBounds_toArray, List.set_cons_zero, List.set_cons_succ]
          refine wpAnyH_putD (i := 37) (d := 78) (v := undef) rfl rfl (by kernel_rfl) (by kernel_rfl) (by kernel_rfl) (fun _ _ _ h => h) (Or.inr ⟨by kernel_rfl, rfl⟩) (by first | exact HS.out _ kk) ?_
          try simp only [List.setIfInBounds_toArray, List.set_cons_zero, List.set_cons_succ]
          refine wpAnyH_putD (i := 38) (d := 79) (v := ?_) rfl rfl (by kernel_rfl) (by kernel_rfl) (by kernel_rfl) (fun _ _ _ h => h) (Or.inl ⟨by kernel_rfl, ?_⟩) (by first | exact HS.out _ kk) ?_
          rotate_left
          · (intro w hS; (try dsimp only at hS); go_simp <;> with_reducible rfl)
          try simp only [List.setIfInBounds_toArray, List.set_cons_zero, List.set_cons_succ]
          refine wpAnyH_done (by kernel_rfl) ?_ _
          refine Nrm.out (hKK _ _ ?_)
          go_wp2
          go_ret
          exact ⟨by rw [HN.out]; rfl, below_then hb0 (Nat.le_refl _) k⟩
        by_cases u2 : 255 < ob
        · have HN := Lib.hid (show ntF x = false by rw [HF.out, HDD.out]; simp [show ¬ (ob ≤ 255) by omega])
          have d1 : decide (ob < 0) = false := by simp; omega
          have d2 : decide (ob > 255) = true := by simp; omega
          go_wp2
          rw [HW1.out]
          refine region_nrm fun KK hKK => ?_
          refine wp_region_held_drew (S := (fun W => W.cell? ⟨b, o + i * 4 + 2, none⟩ = some (.int .i64 pv) ∧ W.cell? ⟨w.heap.size, 0, none⟩ = some (.slice A1 n1 c1) ∧ W.cell? ⟨w.heap.size, 1, none⟩ = some (.slice A2 n2 c2) ∧ W.cell? ⟨w.heap.size, 2, none⟩ = some (.slice A3 n3 c3) ∧ W.cell? ⟨w.heap.size, 3, none⟩ = some (.slice (some ⟨b, o, none⟩) n4 c4) ∧ W.cell? ⟨wr.heap.size, 0, none⟩ = some (.int .i64 sc) ∧ W.cell? ⟨wr.heap.size, 1, none⟩ = some (.int .i64 sn) ∧ W.cell? ⟨wr.heap.size, 2, none⟩ = some (.int .i64 ob) ∧ W.cell? ⟨wr.heap.size, 3, none⟩ = some (.bool gn))) (by kernel_rfl) (by first | exact HS.out _ kk) (fun hHeld => ?_)
          refine wpAnyH_putD (i := 0) (d := 41) (v := ?_) rfl rfl (by kernel_rfl) (by kernel_rfl) (by kernel_rfl) (fun _ _ _ h => h) (Or.inl ⟨by kernel_rfl, ?_⟩) (by first | exact HS.out _ kk) ?_
          rotate_left
          · (intro w hS; (try dsimp only at hS); go_simp <;> with_reducible rfl)
          try simp only [List.setIfInBounds_toArray, List.set_cons_zero, List.set_cons_succ]
          refine wpAnyH_putD (i := 1) (d := 42) (v := ?_) rfl rfl (by kernel_rfl) (by kernel_rfl) (by kernel_rfl) (fun _ _ _ h => h) (Or.inl ⟨by kernel_rfl, ?_⟩) (by first | exact HS.out _ kk) ?_
          rotate_left
          · (intro w hS; (try dsimp only at hS); go_simp <;> with_reducible rfl)
          try simp only [List.setIfInBounds_toArray, List.set_cons_zero, List.set_cons_succ]
          refine wpAnyH_putD (i := 2) (d := 43) (v := ?_) rfl rfl (by kernel_rfl) (by kernel_rfl) (by kernel_rfl) (fun _ _ _ h => h) (Or.inl ⟨by kernel_rfl, ?_⟩) (by first | exact HS.out _ kk) ?_
          rotate_left
          · (intro w hS; (try dsimp only at hS); go_simp <;> with_reducible rfl)
          try simp only [List.setIfInBounds_toArray, List.set_cons_zero, List.set_cons_succ]
          refine wpAnyH_putD (i := 3) (d := 44) (v := ?_) rfl rfl (by kernel_rfl) (by kernel_rfl) (by kernel_rfl) (fun _ _ _ h => h) (Or.inl ⟨by kernel_rfl, ?_⟩) (by first | exact HS.out _ kk) ?_
          rotate_left
          · (intro w hS; (try dsimp only at hS); go_simp <;> with_reducible rfl)
          try simp only [List.setIfInBounds_toArray, List.set_cons_zero, List.set_cons_succ]
          refine wpAnyH_ready (rs := [4]) (by kernel_rfl) (by simp) ?_
          refine AllReadyH.cons rfl (fun K hK => ?_) AllReadyH.nil
          go_simp
          refine (G6.out _ k).mono ?_
          rintro e w' ⟨rfl, hb'⟩
          have k := below_then k (Nat.le_refl _) hb'
          have kk := below_then kk (Nat.le_refl _) hb'
          clear hb'
          refine hK.out _ _ (by first | exact HS.out _ kk) (fun hHeld => ?_)
          clear hK K
          refine wpAnyH_putD (i := 5) (d := 46) (v := ?_) rfl rfl (by kernel_rfl) (by kernel_rfl) (by kernel_rfl) (fun _ _ _ h => h) (Or.inl ⟨by kernel_rfl, ?_⟩) (by first | exact HS.out _ kk) ?_
          rotate_left
          · (intro w hS; (try dsimp only at hS); go_simp <;> with_reducible rfl)
          try simp only [List.setIfInBounds_toArray, List.set_cons_zero, List.set_cons_succ]
          refine wpAnyH_putD (i := 6) (d := 47) (v := ?_) rfl rfl (by kernel_rfl) (by kernel_rfl) (by kernel_rfl) (fun _ _ _ h => h) (Or.inl ⟨by kernel_rfl, ?_⟩) (by first | exact HS.out _ kk) ?_
          rotate_left
          · (intro w hS; (try dsimp only at hS); go_simp <;> with_reducible rfl)
          try simp only [List.setIfInBounds_toArray, List.set_cons_zero, List.set_cons_succ]
          refine wpAnyH_putD (i := 7) (d := 48) (v := ?_) rfl rfl (by kernel_rfl) (by kernel_rfl) (by kernel_rfl) (fun _ _ _ h => h) (Or.inl ⟨by kernel_rfl, ?_⟩) (by first | exact HS.out _ kk) ?_
          rotate_left
          · (intro w hS; (try dsimp only at hS); go_simp <;> with_reducible rfl)
          try simp only [List.setIfInBounds_toArray, List.set_cons_zero, List.set_cons_succ]
          refine wpAnyH_putD (i := 8) (d := 49) (v := ?_) rfl rfl (by kernel_rfl) (by kernel_rfl) (by kernel_rfl) (fun _ _ _ h => h) (Or.inl ⟨by kernel_rfl, ?_⟩) (by first | exact HS.out _ kk) ?_
          rotate_left
          · (intro w hS; (try dsimp only at hS); go_simp <;> with_reducible rfl)
          try simp only [List.setIfInBounds_toArray, List.set_cons_zero, List.set_cons_succ]
          refine wpAnyH_putD (i := 9) (d := 50) (v := ?_) rfl rfl (by kernel_rfl) (by kernel_rfl) (by kernel_rfl) (fun _ _ _ h => h) (Or.inl ⟨by kernel_rfl, ?_⟩) (by first | exact HS.out _ kk) ?_
          rotate_left
          · (intro w hS; (try dsimp only at hS); go_simp <;> with_reducible rfl)
          try simp only [List.setIfInBounds_toArray, List.set_cons_zero, List.set_cons_succ]
          refine wpAnyH_putD (i := 10) (d := 51) (v := ?_) rfl rfl (by kernel_rfl) (by kernel_rfl) (by kernel_rfl) (fun _ _ _ h => h) (Or.inl ⟨by kernel_rfl, ?_⟩) (by first | exact HS.out _ kk) ?_
          rotate_left
          · (intro w hS; (try dsimp only at hS); go_simp <;> with_reducible rfl)
          try simp only [List.setIfInBounds_toArray, List.set_cons_zero, List.set_cons_succ]
          refine wpAnyH_putD (i := 11) (d := 52) (v := ?_) rfl rfl (by kernel_rfl) (by kernel_rfl) (by kernel_rfl) (fun _ _ _ h => h) (Or.inl ⟨by kernel_rfl, ?_⟩) (by first | exact HS.out _ kk) ?_
          rotate_left
          · (intro w hS; (try dsimp only at hS); go_simp <;> with_reducible rfl)
          try simp only [List.setIfInBounds_toArray, List.set_cons_zero, List.set_cons_succ]
          refine wpAnyH_putD (i := 12) (d := 53) (v := ?_) rfl rfl (by kernel_rfl) (by kernel_rfl) (by kernel_rfl) (fun _ _ _ h => h) (Or.inl ⟨by kernel_rfl, ?_⟩) (by first | exact HS.out _ kk) ?_
          rotate_left
          · (intro w hS; (try dsimp only at hS); go_simp <;> with_reducible rfl)
          try simp only [List.setIfInBounds_toArray, List.set_cons_zero, List.set_cons_succ]
          refine wpAnyH_putD (i := 13) (d := 54) (v := ?_) rfl rfl (by kernel_rfl) (by kernel_rfl) (by kernel_rfl) (fun _ _ _ h => h) (Or.inl ⟨by kernel_rfl, ?_⟩) (by first | exact HS.out _ kk) ?_
          rotate_left
          · (intro w hS; (try dsimp only at hS); go_simp <;> with_reducible rfl)
          try simp only [List.setIfInBounds_toArray, List.set_cons_zero, List.set_cons_succ]
          refine wpAnyH_putD (i := 14) (d := 55) (v := ?_) rfl rfl (by kernel_rfl) (by kernel_rfl) (by kernel_rfl) (fun _ _ _ h => h) (Or.inl ⟨by kernel_rfl, ?_⟩) (by first | exact HS.out _ kk) ?_
          rotate_left
          · (intro w hS; (try dsimp only at hS); go_simp <;> with_reducible rfl)
          try simp only [List.setIfInBounds_toArray, List.set_cons_zero, List.set_cons_succ]
          refine wpAnyH_putD (i := 15) (d := 56) (v := ?_) rfl rfl (by kernel_rfl) (by kernel_rfl) (by kernel_rfl) (fun _ _ _ h => h) (Or.inl ⟨by kernel_rfl, ?_⟩) (by first | exact HS.out _ kk) ?_
          rotate_left
          · (intro w hS; (try dsimp only at hS); go_simp <;> with_reducible rfl)
          try simp only [List.setIfInBounds_toArray, List.set_cons_zero, List.set_cons_succ]
          refine wpAnyH_putD (i := 16) (d := 57) (v := ?_) rfl rfl (by kernel_rfl) (by kernel_rfl) (by kernel_rfl) (fun _ _ _ h => h) (Or.inl ⟨by kernel_rfl, ?_⟩) (by first | exact HS.out _ kk) ?_
          rotate_left
          · (intro w hS; (try dsimp only at hS); go_simp <;> with_reducible rfl)
          try simp only [List.setIfInBounds_toArray, List.set_cons_zero, List.set_cons_succ]
          refine wpAnyH_putD (i := 17) (d := 58) (v := undef) rfl rfl (by kernel_rfl) (by kernel_rfl) (by kernel_rfl) (fun _ _ _ h => h) (Or.inr ⟨by kernel_rfl, rfl⟩) (by first | exact HS.out _ kk) ?_
          try simp only [List.setIfInBounds_toArray, List.set_cons_zero, List.set_cons_succ]
          refine wpAnyH_putD (i := 18) (d := 59) (v := undef) rfl rfl (by kernel_rfl) (by kernel_rfl) (by kernel_rfl) (fun _ _ _ h => h) (Or.inr ⟨by kernel_rfl, rfl⟩) (by first | exact HS.out _ kk) ?_
          try simp only [List.setIfInBounds_toArray, List.set_cons_zero, List.set_cons_succ]
          refine wpAnyH_putD (i := 19) (d := 60) (v := undef) rfl rfl (by kernel_rfl) (by kernel_rfl) (by kernel_rfl) (fun _ _ _ h => h) (Or.inr ⟨by kernel_rfl, rfl⟩) (by first | exact HS.out _ kk) ?_
          try simp only [List.setIfInBounds_toArray, List.set_cons_zero, List.set_cons_succ]
          refine wpAnyH_putD (i := 20) (d := 61) (v := undef) rfl rfl (by kernel_rfl) (by kernel_rfl) (by kernel_rfl) (fun _ _ _ h => h) (Or.inr ⟨by kernel_rfl, rfl⟩) (by first | exact HS.out _ kk) ?_
          try simp only [List.setIfInBounds_toArray, List.set_cons_zero, List.set_cons_succ]
          refine wpAnyH_putD (i := 21) (d := 62) (v := undef) rfl rfl (by kernel_rfl) (by kernel_rfl) (by kernel_rfl) (fun _ _ _ h => h) (Or.inr ⟨by kernel_rfl, rfl⟩) (by first | exact HS.out _ kk) ?_
          try simp only [List.setIfInBounds_toArray, List.set_cons_zero, List.set_cons_succ]
          refine wpAnyH_putD (i := 22) (d := 63) (v := ?_) rfl rfl (by kernel_rfl) (by kernel_rfl) (by kernel_rfl) (fun _ _ _ h => h) (Or.inl ⟨by kernel_rfl, ?_⟩) (by first | exact HS.out _ kk) ?_
          rotate_left
          · (intro w hS; (try dsimp only at hS); go_simp <;> with_reducible rfl)
          try simp only [List.setIfInBounds_toArray, List.set_cons_zero, List.set_cons_succ]
          refine wpAnyH_putD (i := 23) (d := 64) (v := ?_) rfl rfl (by kernel_rfl) (by kernel_rfl) (by kernel_rfl) (fun _ _ _ h => h) (Or.inl ⟨by kernel_rfl, ?_⟩) (by first | exact HS.out _ kk) ?_
          rotate_left
          · (intro w hS; (try dsimp only at hS); go_simp <;> with_reducible rfl)
          try simp only [List.setIfInBounds_toArray, List.set_cons_zero, List.set_cons_succ]
          refine wpAnyH_putD (i := 24) (d := 65) (v := undef) rfl rfl (by kernel_rfl) (by kernel_rfl) (by kernel_rfl) (fun _ _ _ h => h) (Or.inr ⟨by kernel_rfl, rfl⟩) (by first | exact HS.out _ kk) ?_
          try simp only [List.setIfInBounds_toArray, List.set_cons_zero, List.set_cons_succ]
          refine wpAnyH_putD (i := 25) (d := 66) (v := undef) rfl rfl (by kernel_rfl) (by kernel_rfl) (by kernel_rfl) (fun _ _ _ h => h) (Or.inr ⟨by kernel_rfl, rfl⟩) (by first | exact HS.out _ kk) ?_
          try simp only [List.setIfInBounds_toArray, List.set_cons_zero, List.set_cons_succ]
          refine wpAnyH_putD (i := 26) (d := 67) (v := undef) rfl rfl (by kernel_rfl) (by kernel_rfl) (by kernel_rfl) (fun _ _ _ h => h) (Or.inr ⟨by kernel_rfl, rfl⟩) (by first | exact HS.out _ kk) ?_
          try simp only [List.setIfInBounds_toArray, List.set_cons_zero, List.set_cons_succ]
          refine wpAnyH_putD (i := 27) (d := 68) (v := undef) rfl rfl (by kernel_rfl) (by kernel_rfl) (by kernel_rfl) (fun _ _ _ h => h) (Or.inr ⟨by kernel_rfl, rfl⟩) (by first | exact HS.out _ kk) ?_
          try simp only [List.setIfInBounds_toArray, List.set_cons_zero, List.set_cons_succ]
          refine wpAnyH_putD (i := 28) (d := 69) (v := undef) rfl rfl (by kernel_rfl) (by kernel_rfl) (by kernel_rfl) (fun _ _ _ h => h) (Or.inr ⟨by kernel_rfl, rfl⟩) (by first | exact HS.out _ kk) ?_
          try simp only [List.setIfInBounds_toArray, List.set_cons_zero, List.set_cons_succ]
          refine wpAnyH_putD (i := 29) (d := 70) (v := undef) rfl rfl (by kernel_rfl) (by kernel_rfl) (by kernel_rfl) (fun _ _ _ h => h) (Or.inr ⟨by kernel_rfl, rfl⟩) (by first | exact HS.out _ kk) ?_
          try simp only [List.setIfInBounds_toArray, List.set_cons_zero, List.set_cons_succ]
          refine wpAnyH_putD (i := 30) (d := 71) (v := undef) rfl rfl (by kernel_rfl) (by kernel_rfl) (by kernel_rfl) (fun _ _ _ h => h) (Or.inr ⟨by kernel_rfl, rfl⟩) (by first | exact HS.out _ kk) ?_
          try simp only [List.setIfInBounds_toArray, List.set_cons_zero, List.set_cons_succ]
          refine wpAnyH_putD (i := 31) (d := 72) (v := undef) rfl rfl (by kernel_rfl) (by kernel_rfl) (by kernel_rfl) (fun _ _ _ h => h) (Or.inr ⟨by kernel_rfl, rfl⟩) (by first | exact HS.out _ kk) ?_
          try simp only [List.setIfInBounds_toArray, List.set_cons_zero, List.set_cons_succ]
          refine wpAnyH_putD (i := 32) (d := 73) (v := undef) rfl rfl (by kernel_rfl) (by kernel_rfl) (by kernel_rfl) (fun _ _ _ h => h) (Or.inr ⟨by kernel_rfl, rfl⟩) (by first | exact HS.out _ kk) ?_
          try simp only [List.setIfInBounds_toArray, List.set_cons_zero, List.set_cons_succ]
          refine wpAnyH_putD (i := 33) (d := 74) (v := undef) rfl rfl (by kernel_rfl) (by kernel_rfl) (by kernel_rfl) (fun _ _ _ h => h) (Or.inr ⟨by kernel_rfl, rfl⟩) (by first | exact HS.out _ kk) ?_
          try simp only [List.setIfInBounds_toArray, List.set_cons_zero, List.set_cons_succ]
          refine wpAnyH_putD (i := 34) (d := 75) (v := undef) rfl rfl (by kernel_rfl) (by kernel_rfl) (by kernel_rfl) (fun _ _ _ h => h) (Or.inr ⟨by kernel_rfl, rfl⟩) (by first | exact HS.out _ kk) ?_
          try simp only [List.setIfInBounds_toArray, List.set_cons_zero, List.set_cons_succ]
          refine wpAnyH_putD (i := 35) (d := 76) (v := undef) rfl rfl (by kernel_rfl) (by kernel_rfl) (by kernel_rfl) (fun _ _ _ h => h) (Or.inr ⟨by kernel_rfl, rfl⟩) (by first | exact HS.out _ kk) ?_
          try simp only [List.setIfInBounds_toArray, List.set_cons_zero, List.set_cons_succ]
          refine wpAnyH_putD (i := 36) (d := 77) (v := undef) rfl rfl (by kernel_rfl) (by kernel_rfl) (by kernel_rfl) (fun _ _ _ h => h) (Or.inr ⟨by kernel_rfl, rfl⟩) (by first | exact HS.out _ kk) ?_
          try simp only [List.setIfInBounds_toArray, List.set_cons_zero, List.set_cons_succ]
          refine wpAnyH_putD (i := 37) (d := 78) (v := undef) rfl rfl (by kernel_rfl) (by kernel_rfl) (by kernel_rfl) (fun _ _ _ h => h) (Or.inr ⟨by kernel_rfl, rfl⟩) (by first | exact HS.out _ kk) ?_
          try simp only [List.setIfInBounds_toArray, List.set_cons_zero, List.set_cons_succ]
          refine wpAnyH_putD (i := 38) (d := 79) (v := ?_) rfl rfl (by kernel_rfl) (by kernel_rfl) (by kernel_rfl) (fun _ _ _ h => h) (Or.inl ⟨by kernel_rfl, ?_⟩) (by first | exact HS.out _ kk) ?_
          rotate_left
          · (intro w hS; (try dsimp only at hS); go_simp <;> with_reducible rfl)
          try simp only [List.setIfInBounds_toArray, List.set_cons_zero, List.set_cons_succ]
          refine wpAnyH_done (by kernel_rfl) ?_ _
          refine Nrm.out (hKK _ _ ?_)
          go_wp2
          go_ret
          exact ⟨by rw [HN.out]; rfl, below_then hb0 (Nat.le_refl _) k⟩
        have d1 : decide (ob < 0) = false := by simp; omega
        have d2 : decide (ob > 255) = false := by simp; omega
        cases z2
        · by_cases u3 : ob ≤ pv
          · have HN := Lib.hid (show ntF x = false by rw [HF.out, HDD.out]; simp [show ¬ (pv < ob) by omega])
            have d3 : decide (pv ≥ ob) = true := by simp; omega
            go_wp2
            rw [HW1.out]
            refine region_nrm fun KK hKK => ?_
            refine wp_region_held_drew (S := (fun W => W.cell? ⟨b, o + i * 4 + 2, none⟩ = some (.int .i64 pv) ∧ W.cell? ⟨w.heap.size, 0, none⟩ = some (.slice A1 n1 c1) ∧ W.cell? ⟨w.heap.size, 1, none⟩ = some (.slice A2 n2 c2) ∧ W.cell? ⟨w.heap.size, 2, none⟩ = some (.slice A3 n3 c3) ∧ W.cell? ⟨w.heap.size, 3, none⟩ = some (.slice (some ⟨b, o, none⟩) n4 c4) ∧ W.cell? ⟨wr.heap.size, 0, none⟩ = some (.int .i64 sc) ∧ W.cell? ⟨wr.heap.size, 1, none⟩ = some (.int .i64 sn) ∧ W.cell? ⟨wr.heap.size, 2, none⟩ = some (.int .i64 ob) ∧ W.cell? ⟨wr.heap.size, 3, none⟩ = some (.bool gn))) (by kernel_rfl) (by first | exact HS.out _ kk) (fun hHeld => ?_)
            refine wpAnyH_putD (i := 0) (d := 41) (v := ?_) rfl rfl (by kernel_rfl) (by kernel_rfl) (by kernel_rfl) (fun _ _ _ h => h) (Or.inl ⟨by kernel_rfl, ?_⟩) (by first | exact HS.out _ kk) ?_
            rotate_left
            · (intro w hS; (try dsimp only at hS); go_simp <;> with_reducible rfl)
            try simp only [List.setIfInBounds_toArray, List.set_cons_zero, List.set_cons_succ]
            refine wpAnyH_putD (i := 1) (d := 42) (v := ?_) rfl rfl (by kernel_rfl) (by kernel_rfl) (by kernel_rfl) (fun _ _ _ h => h) (Or.inl ⟨by kernel_rfl, ?_⟩) (by first | exact HS.out _ kk) ?_
            rotate_left
            · (intro w hS; (try dsimp only at hS); go_simp <;> with_reducible rfl)
            try simp only [List.setIfInBounds_toArray, List.set_cons_zero, List.set_cons_succ]
            refine wpAnyH_putD (i := 2) (d := 43) (v := ?_) rfl rfl (by kernel_rfl) (by kernel_rfl) (by kernel_rfl) (fun _ _ _ h => h) (Or.inl ⟨by kernel_rfl, ?_⟩) (by first | exact HS.out _ kk) ?_
            rotate_left
            · (intro w hS; (try dsimp only at hS); go_simp <;> with_reducible rfl)
            try simp only [List.setIfInBounds_toArray, List.set_cons_zero, List.set_cons_succ]
            refine wpAnyH_putD (i := 3) (d := 44) (v := ?_) rfl rfl (by kernel_rfl) (by kernel_rfl) (by kernel_rfl) (fun _ _ _ h => h) (Or.inl ⟨by kernel_rfl, ?_⟩) (by first | exact HS.out _ kk) ?_
            rotate_left
            · (intro w hS; (try dsimp only at hS); go_simp <;> with_reducible rfl)
            try simp only [List.setIfInBounds_toArray, List.set_cons_zero, List.set_cons_succ]
            refine wpAnyH_ready (rs := [4]) (by kernel_rfl) (by simp) ?_
            refine AllReadyH.cons rfl (fun K hK => ?_) AllReadyH.nil
            go_simp
            refine (G6.out _ k).mono ?_
            rintro e w' ⟨rfl, hb'⟩
            have k := below_then k (Nat.le_refl _) hb'
            have kk := below_then kk (Nat.le_refl _) hb'
            clear hb'
            refine hK.out _ _ (by first | exact HS.out _ kk) (fun hHeld => ?_)
            clear hK K
            refine wpAnyH_putD (i := 5) (d := 46) (v := ?_) rfl rfl (by kernel_rfl) (by kernel_rfl) (by kernel_rfl) (fun _ _ _ h => h) (Or.inl ⟨by kernel_rfl, ?_⟩) (by first | exact HS.out _ kk) ?_
            rotate_left
            · (intro w hS; (try dsimp only at hS); go_simp <;> with_reducible rfl)
            try simp only [List.setIfInBounds_toArray, List.set_cons_zero, List.set_cons_succ]
            refine wpAnyH_putD (i := 6) (d := 47) (v := ?_) rfl rfl (by kernel_rfl) (by kernel_rfl) (by kernel_rfl) (fun _ _ _ h => h) (Or.inl ⟨by kernel_rfl, ?_⟩) (by first | exact HS.out _ kk) ?_
            rotate_left
            · (intro w hS; (try dsimp only at hS); go_simp <;> with_reducible rfl)
            try simp only [List.setIfInBounds_toArray, List.set_cons_zero, List.set_cons_succ]
            refine wpAnyH_putD (i := 7) (d := 48) (v := ?_) rfl rfl (by kernel_rfl) (by kernel_rfl) (by kernel_rfl) (fun _ _ _ h => h) (Or.inl ⟨by kernel_rfl, ?_⟩) (by first | exact HS.out _ kk) ?_
            rotate_left
            · (intro w hS; (try dsimp only at hS); go_simp <;> with_reducible rfl)
            try simp only [List.setIfInBounds_toArray, List.set_cons_zero, List.set_cons_succ]
            refine wpAnyH_putD (i := 8) (d := 49) (v := ?_) rfl rfl (by kernel_rfl) (by kernel_rfl) (by kernel_rfl) (fun _ _ _ h => h) (Or.inl ⟨by kernel_rfl, ?_⟩) (by first | exact HS.out _ kk) ?_
            rotate_left
            · (intro w hS; (try dsimp only at hS); go_simp <;> with_reducible rfl)
            try simp only [List.setIfInBounds_toArray, List.set_cons_zero, List.set_cons_succ]
            refine wpAnyH_putD (i := 9) (d := 50) (v := ?_) rfl rfl (by kernel_rfl) (by kernel_rfl) (by kernel_rfl) (fun _ _ _ h => h) (Or.inl ⟨by kernel_rfl, ?_⟩) (by first | exact HS.out _ kk) ?_
            rotate_left
            · (intro w hS; (try dsimp only at hS); go_simp <;> with_reducible rfl)
            try simp only [List.setIfInBounds_toArray, List.set_cons_zero, List.set_cons_succ]
            refine wpAnyH_putD (i := 10) (d := 51) (v := ?_) rfl rfl (by kernel_rfl) (by kernel_rfl) (by kernel_rfl) (fun _ _ _ h => h) (Or.inl ⟨by kernel_rfl, ?_⟩) (by first | exact HS.out _ kk) ?_
            rotate_left
            · (intro w hS; (try dsimp only at hS); go_simp <;> with_reducible rfl)
            try simp only [List.setIfInBounds_toArray, List.set_cons_zero, List.set_cons_succ]
            refine wpAnyH_putD (i := 11) (d := 52) (v := ?_) rfl rfl (by kernel_rfl) (by kernel_rfl) (by kernel_rfl) (fun _ _ _ h => h) (Or.inl ⟨by kernel_rfl, ?_⟩) (by first | exact HS.out _ kk) ?_
            rotate_left
            · (intro w hS; (try dsimp only at hS); go_simp <;> with_reducible rfl)
            try simp only [List.setIfInBounds_toArray, List.set_cons_zero, List.set_cons_succ]
            refine wpAnyH_putD (i := 12) (d := 53) (v := ?_) rfl rfl (by kernel_rfl) (by kernel_rfl) (by kernel_rfl) (fun _ _ _ h => h) (Or.inl ⟨by kernel_rfl, ?_⟩) (by first | exact HS.out _ kk) ?_
            rotate_left
            · (intro w hS; (try dsimp only at hS); go_simp <;> with_reducible rfl)
            try simp only [List.setIfInBounds_toArray, List.set_cons_zero, List.set_cons_succ]
            refine wpAnyH_putD (i := 13) (d := 54) (v := ?_) rfl rfl (by kernel_rfl) (by kernel_rfl) (by kernel_rfl) (fun _ _ _ h => h) (Or.inl ⟨by kernel_rfl, ?_⟩) (by first | exact HS.out _ kk) ?_
            rotate_left
            · (intro w hS; (try dsimp only at hS); go_simp <;> with_reducible rfl)
            try simp only [List.setIfInBounds_toArray, List.set_cons_zero, List.set_cons_succ]
            refine wpAnyH_putD (i := 14) (d := 55) (v := ?_) rfl rfl (by kernel_rfl) (by kernel_rfl) (by kernel_rfl) (fun _ _ _ h => h) (Or.inl ⟨by kernel_rfl, ?_⟩) (by first | exact HS.out _ kk) ?_
            rotate_left
            · (intro w hS; (try dsimp only at hS); go_simp <;> with_reducible rfl)
            try simp only [List.setIfInBounds_toArray, List.set_cons_zero, List.set_cons_succ]
            refine wpAnyH_putD (i := 15) (d := 56) (v := ?_) rfl rfl (by kernel_rfl) (by kernel_rfl) (by kernel_rfl) (fun _ _ _ h => h) (Or.inl ⟨by kernel_rfl, ?_⟩) (by first | exact HS.out _ kk) ?_
            rotate_left
            · (intro w hS; (try dsimp only at hS); go_simp <;> with_reducible rfl)
            try simp only [List.setIfInBounds_toArray, List.set_cons_zero, List.set_cons_succ]
            refine wpAnyH_putD (i := 16) (d := 57) (v := ?_) rfl rfl (by kernel_rfl) (by kernel_rfl) (by kernel_rfl) (fun _ _ _ h => h) (Or.inl ⟨by kernel_rfl, ?_⟩) (by first | exact HS.out _ kk) ?_
            rotate_left
            · (intro w hS; (try dsimp only at hS); go_simp <;> with_reducible rfl)
            try simp only [List.setIfInBounds_toArray, List.set_cons_zero, List.set_cons_succ]
            refine wpAnyH_putD (i := 17) (d := 58) (v := ?_) rfl rfl (by kernel_rfl) (by kernel_rfl) (by kernel_rfl) (fun _ _ _ h => h) (Or.inl ⟨by kernel_rfl, ?_⟩) (by first | exact HS.out _ kk) ?_
            rotate_left
            · (intro w hS; (try dsimp only at hS); go_simp <;> with_reducible rfl)
            try simp only [List.setIfInBounds_toArray, List.set_cons_zero, List.set_cons_succ]
            refine wpAnyH_putD (i := 18) (d := 59) (v := ?_) rfl rfl (by kernel_rfl) (by kernel_rfl) (by kernel_rfl) (fun _ _ _ h => h) (Or.inl ⟨by kernel_rfl, ?_⟩) (by first | exact HS.out _ kk) ?_
            rotate_left
            · (intro w hS; (try dsimp only at hS); go_simp <;> with_reducible rfl)
            try simp only [List.setIfInBounds_toArray, List.set_cons_zero, List.set_cons_succ]
            refine wpAnyH_putD (i := 19) (d := 60) (v := ?_) rfl rfl (by kernel_rfl) (by kernel_rfl) (by kernel_rfl) (fun _ _ _ h => h) (Or.inl ⟨by kernel_rfl, ?_⟩) (by first | exact HS.out _ kk) ?_
            rotate_left
            · (intro w hS; (try dsimp only at hS); go_simp <;> with_reducible rfl)
            try simp only [List.setIfInBounds_toArray, List.set_cons_zero, List.set_cons_succ]
            refine wpAnyH_putD (i := 20) (d := 61) (v := ?_) rfl rfl (by kernel_rfl) (by kernel_rfl) (by kernel_rfl) (fun _ _ _ h => h) (Or.inl ⟨by kernel_rfl, ?_⟩) (by first | exact HS.out _ kk) ?_
            rotate_left
            · (intro w hS; (try dsimp only at hS); go_simp <;> with_reducible rfl)
            try simp only [List.setIfInBounds_toArray, List.set_cons_zero, List.set_cons_succ]
            refine wpAnyH_ready (rs := [21]) (by kernel_rfl) (by simp) ?_
            refine AllReadyH.cons rfl (fun K hK => ?_) AllReadyH.nil
            go_simp
            refine (G5.out _ k).mono ?_
            rintro e w' ⟨rfl, hb'⟩
            have k := below_then k (Nat.le_refl _) hb'
            have kk := below_then kk (Nat.le_refl _) hb'
            clear hb'
            refine hK.out _ _ (by first | exact HS.out _ kk) (fun hHeld => ?_)
            clear hK K
            refine wpAnyH_putD (i := 22) (d := 63) (v := ?_) rfl rfl (by kernel_rfl) (by kernel_rfl) (by kernel_rfl) (fun _ _ _ h => h) (Or.inl ⟨by kernel_rfl, ?_⟩) (by first | exact HS.out _ kk) ?_
            rotate_left
            · (intro w hS; (try dsimp only at hS); go_simp <;> with_reducible rfl)
            try simp only [List.setIfInBounds_toArray, List.set_cons_zero, List.set_cons_succ]
            refine wpAnyH_putD (i := 23) (d := 64) (v := ?_) rfl rfl (by kernel_rfl) (by kernel_rfl) (by kernel_rfl) (fun _ _ _ h => h) (Or.inl ⟨by kernel_rfl, ?_⟩) (by first | exact HS.out _ kk) ?_
            rotate_left
            · (intro w hS; (try dsimp only at hS); go_simp <;> with_reducible rfl)
            try simp only [List.setIfInBounds_toArray, List.set_cons_zero, List.set_cons_succ]
            refine wpAnyH_putD (i := 24) (d := 65) (v := ?_) rfl rfl (by kernel_rfl) (by kernel_rfl) (by kernel_rfl) (fun _ _ _ h => h) (Or.inl ⟨by kernel_rfl, ?_⟩) (by first | exact HS.out _ kk) ?_
            rotate_left
            · (intro w hS; (try dsimp only at hS); go_simp <;> with_reducible rfl)
            try simp only [List.setIfInBounds_toArray, List.set_cons_zero, List.set_cons_succ]
            refine wpAnyH_putD (i := 25) (d := 66) (v := ?_) rfl rfl (by kernel_rfl) (by kernel_rfl) (by kernel_rfl) (fun _ _ _ h => h) (Or.inl ⟨by kernel_rfl, ?_⟩) (by first | exact HS.out _ kk) ?_
            rotate_left
            · (intro w hS; (try dsimp only at hS); go_simp <;> with_reducible rfl)
            try simp only [List.setIfInBounds_toArray, List.set_cons_zero, List.set_cons_succ]
            refine wpAnyH_putD (i := 26) (d := 67) (v := ?_) rfl rfl (by kernel_rfl) (by kernel_rfl) (by kernel_rfl) (fun _ _ _ h => h) (Or.inl ⟨by kernel_rfl, ?_⟩) (by first | exact HS.out _ kk) ?_
            rotate_left
            · (intro w hS; (try dsimp only at hS); go_simp <;> with_reducible rfl)
            try simp only [List.setIfInBounds_toArray, List.set_cons_zero, List.set_cons_succ]
            refine wpAnyH_putD (i := 27) (d := 68) (v := ?_) rfl rfl (by kernel_rfl) (by kernel_rfl) (by kernel_rfl) (fun _ _ _ h => h) (Or.inl ⟨by kernel_rfl, ?_⟩) (by first | exact HS.out _ kk) ?_
            rotate_left
            · (intro w hS; (try dsimp only at hS); go_simp <;> with_reducible rfl)
            try simp only [List.setIfInBounds_toArray, List.set_cons_zero, List.set_cons_succ]
            refine wpAnyH_putD (i := 28) (d := 69) (v := ?_) rfl rfl (by kernel_rfl) (by kernel_rfl) (by kernel_rfl) (fun _ _ _ h => h) (Or.inl ⟨by kernel_rfl, ?_⟩) (by first | exact HS.out _ kk) ?_
            rotate_left
            · (intro w hS; (try dsimp only at hS); go_simp <;> with_reducible rfl)
            try simp only [List.setIfInBounds_toArray, List.set_cons_zero, List.set_cons_succ]
            refine wpAnyH_putD (i := 29) (d := 70) (v := ?_) rfl rfl (by kernel_rfl) (by kernel_rfl) (by kernel_rfl) (fun _ _ _ h => h) (Or.inl ⟨by kernel_rfl, ?_⟩) (by first | exact HS.out _ kk) ?_
            rotate_left
            · (intro w hS; (try dsimp only at hS); go_simp <;> with_reducible rfl)
            try simp only [List.setIfInBounds_toArray, List.set_cons_zero, List.set_cons_succ]
            refine wpAnyH_putD (i := 30) (d := 71) (v := ?_) rfl rfl (by kernel_rfl) (by kernel_rfl) (by kernel_rfl) (fun _ _ _ h => h) (Or.inl ⟨by kernel_rfl, ?_⟩) (by first | exact HS.out _ kk) ?_
            rotate_left
            · (intro w hS; (try dsimp only at hS); go_simp <;> with_reducible rfl)
            try simp only [List.setIfInBounds_toArray, List.set_cons_zero, List.set_cons_succ]
            refine wpAnyH_putD (i := 31) (d := 72) (v := ?_) rfl rfl (by kernel_rfl) (by kernel_rfl) (by kernel_rfl) (fun _ _ _ h => h) (Or.inl ⟨by kernel_rfl, ?_⟩) (by first | exact HS.out _ kk) ?_
            rotate_left
            · (intro w hS; (try dsimp only at hS); go_simp <;> with_reducible rfl)
            try simp only [List.setIfInBounds_toArray, List.set_cons_zero, List.set_cons_succ]
            refine wpAnyH_putD (i := 32) (d := 73) (v := ?_) rfl rfl (by kernel_rfl) (by kernel_rfl) (by kernel_rfl) (fun _ _ _ h => h) (Or.inl ⟨by kernel_rfl, ?_⟩) (by first | exact HS.out _ kk) ?_
            rotate_left
            · (intro w hS; (try dsimp only at hS); go_simp <;> with_reducible rfl)
            try simp only [List.setIfInBounds_toArray, List.set_cons_zero, List.set_cons_succ]
            refine wpAnyH_putD (i := 33) (d := 74) (v := ?_) rfl rfl (by kernel_rfl) (by kernel_rfl) (by kernel_rfl) (fun _ _ _ h => h) (Or.inl ⟨by kernel_rfl, ?_⟩) (by first | exact HS.out _ kk) ?_
            rotate_left
            · (intro w hS; (try dsimp only at hS); go_simp <;> with_reducible rfl)
            try simp only [List.setIfInBounds_toArray, List.set_cons_zero, List.set_cons_succ]
            refine wpAnyH_putD (i := 34) (d := 75) (v := ?_) rfl rfl (by kernel_rfl) (by kernel_rfl) (by kernel_rfl) (fun _ _ _ h => h) (Or.inl ⟨by kernel_rfl, ?_⟩) (by first | exact HS.out _ kk) ?_
            rotate_left
            · (intro w hS; (try dsimp only at hS); go_simp <;> with_reducible rfl)
            try simp only [List.setIfInBounds_toArray, List.set_cons_zero, List.set_cons_succ]
            refine wpAnyH_putD (i := 35) (d := 76) (v := ?_) rfl rfl (by kernel_rfl) (by kernel_rfl) (by kernel_rfl) (fun _ _ _ h => h) (Or.inl ⟨by kernel_rfl, ?_⟩) (by first | exact HS.out _ kk) ?_
            rotate_left
            · (intro w hS; (try dsimp only at hS); go_simp <;> with_reducible rfl)
            try simp only [List.setIfInBounds_toArray, List.set_cons_zero, List.set_cons_succ]
            refine wpAnyH_putD (i := 36) (d := 77) (v := ?_) rfl rfl (by kernel_rfl) (by kernel_rfl) (by kernel_rfl) (fun _ _ _ h => h) (Or.inl ⟨by kernel_rfl, ?_⟩) (by first | exact HS.out _ kk) ?_
            rotate_left
            · (intro w hS; (try dsimp only at hS); go_simp <;> with_reducible rfl)
            try simp only [List.setIfInBounds_toArray, List.set_cons_zero, List.set_cons_succ]
            refine wpAnyH_putD (i := 37) (d := 78) (v := ?_) rfl rfl (by kernel_rfl) (by kernel_rfl) (by kernel_rfl) (fun _ _ _ h => h) (Or.inl ⟨by kernel_rfl, ?_⟩) (by first | exact HS.out _ kk) ?_
            rotate_left
            · (intro w hS; (try dsimp only at hS); go_simp <;> with_reducible rfl)
            try simp only [List.setIfInBounds_toArray, List.set_cons_zero, List.set_cons_succ]
            refine wpAnyH_putD (i := 38) (d := 79) (v := ?_) rfl rfl (by kernel_rfl) (by kernel_rfl) (by kernel_rfl) (fun _ _ _ h => h) (Or.inl ⟨by kernel_rfl, ?_⟩) (by first | exact HS.out _ kk) ?_
            rotate_left
            · (intro w hS; (try dsimp only at hS); go_simp <;> with_reducible rfl)
            try simp only [List.setIfInBounds_toArray, List.set_cons_zero, List.set_cons_succ]
            refine wpAnyH_done (by kernel_rfl) ?_ _
            refine Nrm.out (hKK _ _ ?_)
            go_wp2
            go_ret
            exact ⟨by rw [HN.out]; rfl, below_then hb0 (Nat.le_refl _) k⟩
          · have HN := Lib.hid (show ntW x.e x.b (-1) x.w = ntW x.e x.b ob (x.w.drop (i + 1 + 1)) by rw [HDD.out]; simp [show 0 ≤ ob by omega, show ob ≤ 255 by omega, show pv < ob by omega])
            have d3 : decide (pv ≥ ob) = false := by simp; omega
            go_wp2
            rw [HW1.out]
            refine region_nrm fun KK hKK => ?_
            refine wp_region_held_drew (S := (fun W => W.cell? ⟨b, o + i * 4 + 2, none⟩ = some (.int .i64 pv) ∧ W.cell? ⟨w.heap.size, 0, none⟩ = some (.slice A1 n1 c1) ∧ W.cell? ⟨w.heap.size, 1, none⟩ = some (.slice A2 n2 c2) ∧ W.cell? ⟨w.heap.size, 2, none⟩ = some (.slice A3 n3 c3) ∧ W.cell? ⟨w.heap.size, 3, none⟩ = some (.slice (some ⟨b, o, none⟩) n4 c4) ∧ W.cell? ⟨wr.heap.size, 0, none⟩ = some (.int .i64 sc) ∧ W.cell? ⟨wr.heap.size, 1, none⟩ = some (.int .i64 sn) ∧ W.cell? ⟨wr.heap.size, 2, none⟩ = some (.int .i64 ob) ∧ W.cell? ⟨wr.heap.size, 3, none⟩ = some (.bool gn))) (by kernel_rfl) (by first | exact HS.out _ kk) (fun hHeld => ?_)
            refine wpAnyH_putD (i := 0) (d := 41) (v := ?_) rfl rfl (by kernel_rfl) (by kernel_rfl) (by kernel_rfl) (fun _ _ _ h => h) (Or.inl ⟨by kernel_rfl, ?_⟩) (by first | exact HS.out _ kk) ?_
            rotate_left
            · (intro w hS; (try dsimp only at hS); go_simp <;> with_reducible rfl)
            try simp only [List.setIfInBounds_toArray, List.set_cons_zero, List.set_cons_succ]
            refine wpAnyH_putD (i := 1) (d := 42) (v := ?_) rfl rfl (by kernel_rfl) (by kernel_rfl) (by kernel_rfl) (fun _ _ _ h => h) (Or.inl ⟨by kernel_rfl, ?_⟩) (by first | exact HS.out _ kk) ?_
            rotate_left
            · (intro w hS; (try dsimp only at hS); go_simp <;> with_reducible rfl)
            try simp only [List.setIfInBounds_toArray, List.set_cons_zero, List.set_cons_succ]
            refine wpAnyH_putD (i := 2) (d := 43) (v := ?_) rfl rfl (by kernel_rfl) (by kernel_rfl) (by kernel_rfl) (fun _ _ _ h => h) (Or.inl ⟨by kernel_rfl, ?_⟩) (by first | exact HS.out _ kk) ?_
            rotate_left
            · (intro w hS; (try dsimp only at hS); go_simp <;> with_reducible rfl)
            try simp only [List.setIfInBounds_toArray, List.set_cons_zero, List.set_cons_succ]
            refine wpAnyH_putD (i := 3) (d := 44) (v := ?_) rfl rfl (by kernel_rfl) (by kernel_rfl) (by kernel_rfl) (fun _ _ _ h => h) (Or.inl ⟨by kernel_rfl, ?_⟩) (by first | exact HS.out _ kk) ?_
            rotate_left
            · (intro w hS; (try dsimp only at hS); go_simp <;> with_reducible rfl)
            try simp only [List.setIfInBounds_toArray, List.set_cons_zero, List.set_cons_succ]
            refine wpAnyH_ready (rs := [4]) (by kernel_rfl) (by simp) ?_
            refine AllReadyH.cons rfl (fun K hK => ?_) AllReadyH.nil
            go_simp
            refine (G6.out _ k).mono ?_
            rintro e w' ⟨rfl, hb'⟩
            have k := below_then k (Nat.le_refl _) hb'
            have kk := below_then kk (Nat.le_refl _) hb'
            clear hb'
            refine hK.out _ _ (by first | exact HS.out _ kk) (fun hHeld => ?_)
            clear hK K
            refine wpAnyH_putD (i := 5) (d := 46) (v := ?_) rfl rfl (by kernel_rfl) (by kernel_rfl) (by kernel_rfl) (fun _ _ _ h => h) (Or.inl ⟨by kernel_rfl, ?_⟩) (by first | exact HS.out _ kk) ?_
            rotate_left
            · (intro w hS; (try dsimp only at hS); go_simp <;> with_reducible rfl)
            try simp only [List.setIfInBounds_toArray, List.set_cons_zero, List.set_cons_succ]
            refine wpAnyH_putD (i := 6) (d := 47) (v := ?_) rfl rfl (by kernel_rfl) (by kernel_rfl) (by kernel_rfl) (fun _ _ _ h => h) (Or.inl ⟨by kernel_rfl, ?_⟩) (by first | exact HS.out _ kk) ?_
            rotate_left
            · (intro w hS; (try dsimp only at hS); go_simp <;> with_reducible rfl)
            try simp only [List.setIfInBounds_toArray, List.set_cons_zero, List.set_cons_succ]
            refine wpAnyH_putD (i := 7) (d := 48) (v := ?_) rfl rfl (by kernel_rfl) (by kernel_rfl) (by kernel_rfl) (fun _ _ _ h => h) (Or.inl ⟨by kernel_rfl, ?_⟩) (by first | exact HS.out _ kk) ?_
            rotate_left
            · (intro w hS; (try dsimp only at hS); go_simp <;> with_reducible rfl)
            try simp only [List.setIfInBounds_toArray, List.set_cons_zero, List.set_cons_succ]
            refine wpAnyH_putD (i := 8) (d := 49) (v := ?_) rfl rfl (by kernel_rfl) (by kernel_rfl) (by kernel_rfl) (fun _ _ _ h => h) (Or.inl ⟨by kernel_rfl, ?_⟩) (by first | exact HS.out _ kk) ?_
            rotate_left
            · (intro w hS; (try dsimp only at hS); go_simp <;> with_reducible rfl)
            try simp only [List.setIfInBounds_toArray, List.set_cons_zero, List.set_cons_succ]
            refine wpAnyH_putD (i := 9) (d := 50) (v := ?_) rfl rfl (by kernel_rfl) (by kernel_rfl) (by kernel_rfl) (fun _ _ _ h => h) (Or.inl ⟨by kernel_rfl, ?_⟩) (by first | exact HS.out _ kk) ?_
            rotate_left
            · (intro w hS; (try dsimp only at hS); go_simp <;> with_reducible rfl)
            try simp only [List.setIfInBounds_toArray, List.set_cons_zero, List.set_cons_succ]
            refine wpAnyH_putD (i := 10) (d := 51) (v := ?_) rfl rfl (by kernel_rfl) (by kernel_rfl) (by kernel_rfl) (fun _ _ _ h => h) (Or.inl ⟨by kernel_rfl, ?_⟩) (by first | exact HS.out _ kk) ?_
            rotate_left
            · (intro w hS; (try dsimp only at hS); go_simp <;> with_reducible rfl)
            try simp only [List.setIfInBounds_toArray, List.set_cons_zero, List.set_cons_succ]
            refine wpAnyH_putD (i := 11) (d := 52) (v := ?_) rfl rfl (by kernel_rfl) (by kernel_rfl) (by kernel_rfl) (fun _ _ _ h => h) (Or.inl ⟨by kernel_rfl, ?_⟩) (by first | exact HS.out _ kk) ?_
            rotate_left
            · (intro w hS; (try dsimp only at hS); go_simp <;> with_reducible rfl)
            try simp only [List.setIfInBounds_toArray, List.set_cons_zero, List.set_cons_succ]
            refine wpAnyH_putD (i := 12) (d := 53) (v := ?_) rfl rfl (by kernel_rfl) (by kernel_rfl) (by kernel_rfl) (fun _ _ _ h => h) (Or.inl ⟨by kernel_rfl, ?_⟩) (by first | exact HS.out _ kk) ?_
            rotate_left
            · (intro w hS; (try dsimp only at hS); go_simp <;> with_reducible rfl)
            try simp only [List.setIfInBounds_toArray, List.set_cons_zero, List.set_cons_succ]
            refine wpAnyH_putD (i := 13) (d := 54) (v := ?_) rfl rfl (by kernel_rfl) (by kernel_rfl) (by kernel_rfl) (fun _ _ _ h => h) (Or.inl ⟨by kernel_rfl, ?_⟩) (by first | exact HS.out _ kk) ?_
            rotate_left
            · (intro w hS; (try dsimp only at hS); go_simp <;> with_reducible rfl)
            try simp only [List.setIfInBounds_toArray, List.set_cons_zero, List.set_cons_succ]
            refine wpAnyH_putD (i := 14) (d := 55) (v := ?_) rfl rfl (by kernel_rfl) (by kernel_rfl) (by kernel_rfl) (fun _ _ _ h => h) (Or.inl ⟨by kernel_rfl, ?_⟩) (by first | exact HS.out _ kk) ?_
            rotate_left
            · (intro w hS; (try dsimp only at hS); go_simp <;> with_reducible rfl)
            try simp only [List.setIfInBounds_toArray, List.set_cons_zero, List.set_cons_succ]
            refine wpAnyH_putD (i := 15) (d := 56) (v := ?_) rfl rfl (by kernel_rfl) (by kernel_rfl) (by kernel_rfl) (fun _ _ _ h => h) (Or.inl ⟨by kernel_rfl, ?_⟩) (by first | exact HS.out _ kk) ?_
            rotate_left
            · (intro w hS; (try dsimp only at hS); go_simp <;> with_reducible rfl)
            try simp only [List.setIfInBounds_toArray, List.set_cons_zero, List.set_cons_succ]
            refine wpAnyH_putD (i := 16) (d := 57) (v := ?_) rfl rfl (by kernel_rfl) (by kernel_rfl) (by kernel_rfl) (fun _ _ _ h => h) (Or.inl ⟨by kernel_rfl, ?_⟩) (by first | exact HS.out _ kk) ?_
            rotate_left
            · (intro w hS; (try dsimp only at hS); go_simp <;> with_reducible rfl)
            try simp only [List.setIfInBounds_toArray, List.set_cons_zero, List.set_cons_succ]
            refine wpAnyH_putD (i := 17) (d := 58) (v := ?_) rfl rfl (by kernel_rfl) (by kernel_rfl) (by kernel_rfl) (fun _ _ _ h => h) (Or.inl ⟨by kernel_rfl, ?_⟩) (by first | exact HS.out _ kk) ?_
            rotate_left
            · (intro w hS; (try dsimp only at hS); go_simp <;> with_reducible rfl)
            try simp only [List.setIfInBounds_toArray, List.set_cons_zero, List.set_cons_succ]
            refine wpAnyH_putD (i := 18) (d := 59) (v := ?_) rfl rfl (by kernel_rfl) (by kernel_rfl) (by kernel_rfl) (fun _ _ _ h => h) (Or.inl ⟨by kernel_rfl, ?_⟩) (by first | exact HS.out _ kk) ?_
            rotate_left
            · (intro w hS; (try dsimp only at hS); go_simp <;> with_reducible rfl)
            try simp only [List.setIfInBounds_toArray, List.set_cons_zero, List.set_cons_succ]
            refine wpAnyH_putD (i := 19) (d := 60) (v := ?_) rfl rfl (by kernel_rfl) (by kernel_rfl) (by kernel_rfl) (fun _ _ _ h => h) (Or.inl ⟨by kernel_rfl, ?_⟩) (by first | exact HS.out _ kk) ?_
            rotate_left
            · (intro w hS; (try dsimp only at hS); go_simp <;> with_reducible rfl)
            try simp only [List.setIfInBounds_toArray, List.set_cons_zero, List.set_cons_succ]
            refine wpAnyH_putD (i := 20) (d := 61) (v := ?_) rfl rfl (by kernel_rfl) (by kernel_rfl) (by kernel_rfl) (fun _ _ _ h => h) (Or.inl ⟨by kernel_rfl, ?_⟩) (by first | exact HS.out _ kk) ?_
            rotate_left
            · (intro w hS; (try dsimp only at hS); go_simp <;> with_reducible rfl)
            try simp only [List.setIfInBounds_toArray, List.set_cons_zero, List.set_cons_succ]
            refine wpAnyH_ready (rs := [21]) (by kernel_rfl) (by simp) ?_
            refine AllReadyH.cons rfl (fun K hK => ?_) AllReadyH.nil
            go_simp
            refine (G5.out _ k).mono ?_
            rintro e w' ⟨rfl, hb'⟩
            have k := below_then k (Nat.le_refl _) hb'
            have kk := below_then kk (Nat.le_refl _) hb'
            clear hb'
            refine hK.out _ _ (by first | exact HS.out _ kk) (fun hHeld => ?_)
            clear hK K
            refine wpAnyH_putD (i := 22) (d := 63) (v := ?_) rfl rfl (by kernel_rfl) (by kernel_rfl) (by kernel_rfl) (fun _ _ _ h => h) (Or.inl ⟨by kernel_rfl, ?_⟩) (by first | exact HS.out _ kk) ?_
            rotate_left
            · (intro w hS; (try dsimp only at hS); go_simp <;> with_reducible rfl)
            try simp only [List.setIfInBounds_toArray, List.set_cons_zero, List.set_cons_succ]
            refine wpAnyH_putD (i := 23) (d := 64) (v := ?_) rfl rfl (by kernel_rfl) (by kernel_rfl) (by kernel_rfl) (fun _ _ _ h => h) (Or.inl ⟨by kernel_rfl, ?_⟩) (by first | exact HS.out _ kk) ?_
            rotate_left
            · (intro w hS; (try dsimp only at hS); go_simp <;> with_reducible rfl)
            try simp only [List.setIfInBounds_toArray, List.set_cons_zero, List.set_cons_succ]
            refine wpAnyH_putD (i := 24) (d := 65) (v := ?_) rfl rfl (by kernel_rfl) (by kernel_rfl) (by kernel_rfl) (fun _ _ _ h => h) (Or.inl ⟨by kernel_rfl, ?_⟩) (by first | exact HS.out _ kk) ?_
            rotate_left
            · (intro w hS; (try dsimp only at hS); go_simp <;> with_reducible rfl)
            try simp only [List.setIfInBounds_toArray, List.set_cons_zero, List.set_cons_succ]
            refine wpAnyH_putD (i := 25) (d := 66) (v := ?_) rfl rfl (by kernel_rfl) (by kernel_rfl) (by kernel_rfl) (fun _ _ _ h => h) (Or.inl ⟨by kernel_rfl, ?_⟩) (by first | exact HS.out _ kk) ?_
            rotate_left
            · (intro w hS; (try dsimp only at hS); go_simp <;> with_reducible rfl)
            try simp only [List.setIfInBounds_toArray, List.set_cons_zero, List.set_cons_succ]
            refine wpAnyH_putD (i := 26) (d := 67) (v := ?_) rfl rfl (by kernel_rfl) (by kernel_rfl) (by kernel_rfl) (fun _ _ _ h => h) (Or.inl ⟨by kernel_rfl, ?_⟩) (by first | exact HS.out _ kk) ?_
            rotate_left
            · (intro w hS; (try dsimp only at hS); go_simp <;> with_reducible rfl)
            try simp only [List.setIfInBounds_toArray, List.set_cons_zero, List.set_cons_succ]
            refine wpAnyH_putD (i := 27) (d := 68) (v := ?_) rfl rfl (by kernel_rfl) (by kernel_rfl) (by kernel_rfl) (fun _ _ _ h => h) (Or.inl ⟨by kernel_rfl, ?_⟩) (by first | exact HS.out _ kk) ?_
            rotate_left
            · (intro w hS; (try dsimp only at hS); go_simp <;> with_reducible rfl)
            try simp only [List.setIfInBounds_toArray, List.set_cons_zero, List.set_cons_succ]
            refine wpAnyH_putD (i := 28) (d := 69) (v := ?_) rfl rfl (by kernel_rfl) (by kernel_rfl) (by kernel_rfl) (fun _ _ _ h => h) (Or.inl ⟨by kernel_rfl, ?_⟩) (by first | exact HS.out _ kk) ?_
            rotate_left
            · (intro w hS; (try dsimp only at hS); go_simp <;> with_reducible rfl)
            try simp only [List.setIfInBounds_toArray, List.set_cons_zero, List.set_cons_succ]
            refine wpAnyH_putD (i := 29) (d := 70) (v := ?_) rfl rfl (by kernel_rfl) (by kernel_rfl) (by kernel_rfl) (fun _ _ _ h => h) (Or.inl ⟨by kernel_rfl, ?_⟩) (by first | exact HS.out _ kk) ?_
            rotate_left
            · (intro w hS; (try dsimp only at hS); go_simp <;> with_reducible rfl)
            try simp only [List.setIfInBounds_toArray, List.set_cons_zero, List.set_cons_succ]
            refine wpAnyH_putD (i := 30) (d := 71) (v := ?_) rfl rfl (by kernel_rfl) (by kernel_rfl) (by kernel_rfl) (fun _ _ _ h => h) (Or.inl ⟨by kernel_rfl, ?_⟩) (by first | exact HS.out _ kk) ?_
            rotate_left
            · (intro w hS; (try dsimp only at hS); go_simp <;> with_reducible rfl)
            try simp only [List.setIfInBounds_toArray, List.set_cons_zero, List.set_cons_succ]
            refine wpAnyH_putD (i := 31) (d := 72) (v := ?_) rfl rfl (by kernel_rfl) (by kernel_rfl) (by kernel_rfl) (fun _ _ _ h => h) (Or.inl ⟨by kernel_rfl, ?_⟩) (by first | exact HS.out _ kk) ?_
            rotate_left
            · (intro w hS; (try dsimp only at hS); go_simp <;> with_reducible rfl)
            try simp only [List.setIfInBounds_toArray, List.set_cons_zero, List.set_cons_succ]
            refine wpAnyH_putD (i := 32) (d := 73) (v := ?_) rfl rfl (by kernel_rfl) (by kernel_rfl) (by kernel_rfl) (fun _ _ _ h => h) (Or.inl ⟨by kernel_rfl, ?_⟩) (by first | exact HS.out _ kk) ?_
            rotate_left
            · (intro w hS; (try dsimp only at hS); go_simp <;> with_reducible rfl)
            try simp only [List.setIfInBounds_toArray, List.set_cons_zero, List.set_cons_succ]
            refine wpAnyH_putD (i := 33) (d := 74) (v := ?_) rfl rfl (by kernel_rfl) (by kernel_rfl) (by kernel_rfl) (fun _ _ _ h => h) (Or.inl ⟨by kernel_rfl, ?_⟩) (by first | exact HS.out _ kk) ?_
            rotate_left
            · (intro w hS; (try dsimp only at hS); go_simp <;> with_reducible rfl)
            try simp only [List.setIfInBounds_toArray, List.set_cons_zero, List.set_cons_succ]
            refine wpAnyH_putD (i := 34) (d := 75) (v := ?_) rfl rfl (by kernel_rfl) (by kernel_rfl) (by kernel_rfl) (fun _ _ _ h => h) (Or.inl ⟨by kernel_rfl, ?_⟩) (by first | exact HS.out _ kk) ?_
            rotate_left
            · (intro w hS; (try dsimp only at hS); go_simp <;> with_reducible rfl)
            try simp only [List.setIfInBounds_toArray, List.set_cons_zero, List.set_cons_succ]
            refine wpAnyH_putD (i := 35) (d := 76) (v := ?_) rfl rfl (by kernel_rfl) (by kernel_rfl) (by kernel_rfl) (fun _ _ _ h => h) (Or.inl ⟨by kernel_rfl, ?_⟩) (by first | exact HS.out _ kk) ?_
            rotate_left
            · (intro w hS; (try dsimp only at hS); go_simp <;> with_reducible rfl)
            try simp only [List.setIfInBounds_toArray, List.set_cons_zero, List.set_cons_succ]
            refine wpAnyH_putD (i := 36) (d := 77) (v := ?_) rfl rfl (by kernel_rfl) (by kernel_rfl) (by kernel_rfl) (fun _ _ _ h => h) (Or.inl ⟨by kernel_rfl, ?_⟩) (by first | exact HS.out _ kk) ?_
            rotate_left
            · (intro w hS; (try dsimp only at hS); go_simp <;> with_reducible rfl)
            try simp only [List.setIfInBounds_toArray, List.set_cons_zero, List.set_cons_succ]
            refine wpAnyH_putD (i := 37) (d := 78) (v := ?_) rfl rfl (by kernel_rfl) (by kernel_rfl) (by kernel_rfl) (fun _ _ _ h => h) (Or.inl ⟨by kernel_rfl, ?_⟩) (by first | exact HS.out _ kk) ?_
            rotate_left
            · (intro w hS; (try dsimp only at hS); go_simp <;> with_reducible rfl)
            try simp only [List.setIfInBounds_toArray, List.set_cons_zero, List.set_cons_succ]
            refine wpAnyH_putD (i := 38) (d := 79) (v := ?_) rfl rfl (by kernel_rfl) (by kernel_rfl) (by kernel_rfl) (fun _ _ _ h => h) (Or.inl ⟨by kernel_rfl, ?_⟩) (by first | exact HS.out _ kk) ?_
            rotate_left
            · (intro w hS; (try dsimp only at hS); go_simp <;> with_reducible rfl)
            try simp only [List.setIfInBounds_toArray, List.set_cons_zero, List.set_cons_succ]
            refine wpAnyH_done (by kernel_rfl) ?_ _
            refine Nrm.out (hKK _ _ ?_)
            go_wp2
            go_roundw
            case rel => exact ⟨i + 1 + 1, by omega, by go_num, k, by show _ = _; rw [HN.out, aheadW_next _ _ hjl, HO.out]⟩
            case measure => simp [intOf]; omega
        · have HN := Lib.hid (show ntF x = false by rw [HF.out, HDD.out]; simp)
          go_wp2
          rw [HW1.out]
          refine region_nrm fun KK hKK => ?_
          refine wp_region_held_drew (S := (fun W => W.cell? ⟨b, o + i * 4 + 2, none⟩ = some (.int .i64 pv) ∧ W.cell? ⟨w.heap.size, 0, none⟩ = some (.slice A1 n1 c1) ∧ W.cell? ⟨w.heap.size, 1, none⟩ = some (.slice A2 n2 c2) ∧ W.cell? ⟨w.heap.size, 2, none⟩ = some (.slice A3 n3 c3) ∧ W.cell? ⟨w.heap.size, 3, none⟩ = some (.slice (some ⟨b, o, none⟩) n4 c4) ∧ W.cell? ⟨wr.heap.size, 0, none⟩ = some (.int .i64 sc) ∧ W.cell? ⟨wr.heap.size, 1, none⟩ = some (.int .i64 sn) ∧ W.cell? ⟨wr.heap.size, 2, none⟩ = some (.int .i64 ob) ∧ W.cell? ⟨wr.heap.size, 3, none⟩ = some (.bool gn))) (by kernel_rfl) (by first | exact HS.out _ kk) (fun hHeld => ?_)
          refine wpAnyH_putD (i := 0) (d := 41) (v := ?_) rfl rfl (by kernel_rfl) (by kernel_rfl) (by kernel_rfl) (fun _ _ _ h => h) (Or.inl ⟨by kernel_rfl, ?_⟩) (by first | exact HS.out _ kk) ?_
          rotate_left
          · (intro w hS; (try dsimp only at hS); go_simp <;> with_reducible rfl)
          try simp only [List.setIfInBounds_toArray, List.set_cons_zero, List.set_cons_succ]
          refine wpAnyH_putD (i := 1) (d := 42) (v := ?_) rfl rfl (by kernel_rfl) (by kernel_rfl) (by kernel_rfl) (fun _ _ _ h => h) (Or.inl ⟨by kernel_rfl, ?_⟩) (by first | exact HS.out _ kk) ?_
          rotate_left
          · (intro w hS; (try dsimp only at hS); go_simp <;> with_reducible rfl)
          try simp only [List.setIfInBounds_toArray, List.set_cons_zero, List.set_cons_succ]
          refine wpAnyH_putD (i := 2) (d := 43) (v := ?_) rfl rfl (by kernel_rfl) (by kernel_rfl) (by kernel_rfl) (fun _ _ _ h => h) (Or.inl ⟨by kernel_rfl, ?_⟩) (by first | exact HS.out _ kk) ?_
          rotate_left
          · (intro w hS; (try dsimp only at hS); go_simp <;> with_reducible rfl)
          try simp only [List.setIfInBounds_toArray, List.set_cons_zero, List.set_cons_succ]
          refine wpAnyH_putD (i := 3) (d := 44) (v := ?_) rfl rfl (by kernel_rfl) (by kernel_rfl) (by kernel_rfl) (fun _ _ _ h => h) (Or.inl ⟨by kernel_rfl, ?_⟩) (by first | exact HS.out _ kk) ?_
          rotate_left
          · (intro w hS; (try dsimp only at hS); go_simp <;> with_reducible rfl)
          try simp only [List.setIfInBounds_toArray, List.set_cons_zero, List.set_cons_succ]
          refine wpAnyH_ready (rs := [4]) (by kernel_rfl) (by simp) ?_
          refine AllReadyH.cons rfl (fun K hK => ?_) AllReadyH.nil
          go_simp
          refine (G6.out _ k).mono ?_
          rintro e w' ⟨rfl, hb'⟩
          have k := below_then k (Nat.le_refl _) hb'
          have kk := below_then kk (Nat.le_refl _) hb'
          clear hb'
          refine hK.out _ _ (by first | exact HS.out _ kk) (fun hHeld => ?_)
          clear hK K
          refine wpAnyH_putD (i := 5) (d := 46) (v := ?_) rfl rfl (by kernel_rfl) (by kernel_rfl) (by kernel_rfl) (fun _ _ _ h => h) (Or.inl ⟨by kernel_rfl, ?_⟩) (by first | exact HS.out _ kk) ?_
          rotate_left
          · (intro w hS; (try dsimp only at hS); go_simp <;> with_reducible rfl)
          try simp only [List.setIfInBounds_toArray, List.set_cons_zero, List.set_cons_succ]
          refine wpAnyH_putD (i := 6) (d := 47) (v := ?_) rfl rfl (by kernel_rfl) (by kernel_rfl) (by kernel_rfl) (fun _ _ _ h => h) (Or.inl ⟨by kernel_rfl, ?_⟩) (by first | exact HS.out _ kk) ?_
          rotate_left
          · (intro w hS; (try dsimp only at hS); go_simp <;> with_reducible rfl)
          try simp only [List.setIfInBounds_toArray, List.set_cons_zero, List.set_cons_succ]
          refine wpAnyH_putD (i := 7) (d := 48) (v := ?_) rfl rfl (by kernel_rfl) (by kernel_rfl) (by kernel_rfl) (fun _ _ _ h => h) (Or.inl ⟨by kernel_rfl, ?_⟩) (by first | exact HS.out _ kk) ?_
          rotate_left
          · (intro w hS; (try dsimp only at hS); go_simp <;> with_reducible rfl)
          try simp only [List.setIfInBounds_toArray, List.set_cons_zero, List.set_cons_succ]
          refine wpAnyH_putD (i := 8) (d := 49) (v := ?_) rfl rfl (by kernel_rfl) (by kernel_rfl) (by kernel_rfl) (fun _ _ _ h => h) (Or.inl ⟨by kernel_rfl, ?_⟩) (by first | exact HS.out _ kk) ?_
          rotate_left
          · (intro w hS; (try dsimp only at hS); go_simp <;> with_reducible rfl)
          try simp only [List.setIfInBounds_toArray, List.set_cons_zero, List.set_cons_succ]
          refine wpAnyH_putD (i := 9) (d := 50) (v := ?_) rfl rfl (by kernel_rfl) (by kernel_rfl) (by kernel_rfl) (fun _ _ _ h => h) (Or.inl ⟨by kernel_rfl, ?_⟩) (by first | exact HS.out _ kk) ?_
          rotate_left
          · (intro w hS; (try dsimp only at hS); go_simp <;> with_reducible rfl)
          try simp only [List.setIfInBounds_toArray, List.set_cons_zero, List.set_cons_succ]
          refine wpAnyH_putD (i := 10) (d := 51) (v := ?_) rfl rfl (by kernel_rfl) (by kernel_rfl) (by kernel_rfl) (fun _ _ _ h => h) (Or.inl ⟨by kernel_rfl, ?_⟩) (by first | exact HS.out _ kk) ?_
          rotate_left
          · (intro w hS; (try dsimp only at hS); go_simp <;> with_reducible rfl)
          try simp only [List.setIfInBounds_toArray, List.set_cons_zero, List.set_cons_succ]
          refine wpAnyH_putD (i := 11) (d := 52) (v := ?_) rfl rfl (by kernel_rfl) (by kernel_rfl) (by kernel_rfl) (fun _ _ _ h => h) (Or.inl ⟨by kernel_rfl, ?_⟩) (by first | exact HS.out _ kk) ?_
          rotate_left
          · (intro w hS; (try dsimp only at hS); go_simp <;> with_reducible rfl)
          try simp only [List.setIfInBounds_toArray, List.set_cons_zero, List.set_cons_succ]
          refine wpAnyH_putD (i := 12) (d := 53) (v := ?_) rfl rfl (by kernel_rfl) (by kernel_rfl) (by kernel_rfl) (fun _ _ _ h => h) (Or.inl ⟨by kernel_rfl, ?_⟩) (by first | exact HS.out _ kk) ?_
          rotate_left
          · (intro w hS; (try dsimp only at hS); go_simp <;> with_reducible rfl)
          try simp only [List.setIfInBounds_toArray, List.set_cons_zero, List.set_cons_succ]
          refine wpAnyH_putD (i := 13) (d := 54) (v := ?_) rfl rfl (by kernel_rfl) (by kernel_rfl) (by kernel_rfl) (fun _ _ _ h => h) (Or.inl ⟨by kernel_rfl, ?_⟩) (by first | exact HS.out _ kk) ?_
          rotate_left
          · (intro w hS; (try dsimp only at hS); go_simp <;> with_reducible rfl)
          try simp only [List.setIfInBounds_toArray, List.set_cons_zero, List.set_cons_succ]
          refine wpAnyH_putD (i := 14) (d := 55) (v := ?_) rfl rfl (by kernel_rfl) (by kernel_rfl) (by kernel_rfl) (fun _ _ _ h => h) (Or.inl ⟨by kernel_rfl, ?_⟩) (by first | exact HS.out _ kk) ?_
          rotate_left
          · (intro w hS; (try dsimp only at hS); go_simp <;> with_reducible rfl)
          try simp only [List.setIfInBounds_toArray, List.set_cons_zero, List.set_cons_succ]
          refine wpAnyH_putD (i := 15) (d := 56) (v := ?_) rfl rfl (by kernel_rfl) (by kernel_rfl) (by kernel_rfl) (fun _ _ _ h => h) (Or.inl ⟨by kernel_rfl, ?_⟩) (by first | exact HS.out _ kk) ?_
          rotate_left
          · (intro w hS; (try dsimp only at hS); go_simp <;> with_reducible rfl)
          try simp only [List.setIfInBounds_toArray, List.set_cons_zero, List.set_cons_succ]
          refine wpAnyH_putD (i := 16) (d := 57) (v := ?_) rfl rfl (by kernel_rfl) (by kernel_rfl) (by kernel_rfl) (fun _ _ _ h => h) (Or.inl ⟨by kernel_rfl, ?_⟩) (by first | exact HS.out _ kk) ?_
          rotate_left
          · (intro w hS; (try dsimp only at hS); go_simp <;> with_reducible rfl)
          try simp only [List.setIfInBounds_toArray, List.set_cons_zero, List.set_cons_succ]
          refine wpAnyH_putD (i := 17) (d := 58) (v := ?_) rfl rfl (by kernel_rfl) (by kernel_rfl) (by kernel_rfl) (fun _ _ _ h => h) (Or.inl ⟨by kernel_rfl, ?_⟩) (by first | exact HS.out _ kk) ?_
          rotate_left
          · (intro w hS; (try dsimp only at hS); go_simp <;> with_reducible rfl)
          try simp only [List.setIfInBounds_toArray, List.set_cons_zero, List.set_cons_succ]
          refine wpAnyH_putD (i := 18) (d := 59) (v := ?_) rfl rfl (by kernel_rfl) (by kernel_rfl) (by kernel_rfl) (fun _ _ _ h => h) (Or.inl ⟨by kernel_rfl, ?_⟩) (by first | exact HS.out _ kk) ?_
          rotate_left
          · (intro w hS; (try dsimp only at hS); go_simp <;> with_reducible rfl)
          try simp only [List.setIfInBounds_toArray, List.set_cons_zero, List.set_cons_succ]
          refine wpAnyH_putD (i := 19) (d := 60) (v := ?_) rfl rfl (by kernel_rfl) (by kernel_rfl) (by kernel_rfl) (fun _ _ _ h => h) (Or.inl ⟨by kernel_rfl, ?_⟩) (by first | exact HS.out _ kk) ?_
          rotate_left
          · (intro w hS; (try dsimp only at hS); go_simp <;> with_reducible rfl)
          try simp only [List.setIfInBounds_toArray, List.set_cons_zero, List.set_cons_succ]
          refine wpAnyH_putD (i := 20) (d := 61) (v := ?_) rfl rfl (by kernel_rfl) (by kernel_rfl) (by kernel_rfl) (fun _ _ _ h => h) (Or.inl ⟨by kernel_rfl, ?_⟩) (by first | exact HS.out _ kk) ?_
          rotate_left
          · (intro w hS; (try dsimp only at hS); go_simp <;> with_reducible rfl)
          try simp only [List.setIfInBounds_toArray, List.set_cons_zero, List.set_cons_succ]
          refine wpAnyH_ready (rs := [21]) (by kernel_rfl) (by simp) ?_
          refine AllReadyH.cons rfl (fun K hK => ?_) AllReadyH.nil
          go_simp
          refine (G5.out _ k).mono ?_
          rintro e w' ⟨rfl, hb'⟩
          have k := below_then k (Nat.le_refl _) hb'
          have kk := below_then kk (Nat.le_refl _) hb'
          clear hb'
          refine hK.out _ _ (by first | exact HS.out _ kk) (fun hHeld => ?_)
          clear hK K
          refine wpAnyH_putD (i := 22) (d := 63) (v := ?_) rfl rfl (by kernel_rfl) (by kernel_rfl) (by kernel_rfl) (fun _ _ _ h => h) (Or.inl ⟨by kernel_rfl, ?_⟩) (by first | exact HS.out _ kk) ?_
          rotate_left
          · (intro w hS; (try dsimp only at hS); go_simp <;> with_reducible rfl)
          try simp only [List.setIfInBounds_toArray, List.set_cons_zero, List.set_cons_succ]
          refine wpAnyH_putD (i := 23) (d := 64) (v := ?_) rfl rfl (by kernel_rfl) (by kernel_rfl) (by kernel_rfl) (fun _ _ _ h => h) (Or.inl ⟨by kernel_rfl, ?_⟩) (by first | exact HS.out _ kk) ?_
          rotate_left
          · (intro w hS; (try dsimp only at hS); go_simp <;> with_reducible rfl)
          try simp only [List.setIfInBounds_toArray, List.set_cons_zero, List.set_cons_succ]
          refine wpAnyH_putD (i := 24) (d := 65) (v := undef) rfl rfl (by kernel_rfl) (by kernel_rfl) (by kernel_rfl) (fun _ _ _ h => h) (Or.inr ⟨by kernel_rfl, rfl⟩) (by first | exact HS.out _ kk) ?_
          try simp only [List.setIfInBounds_toArray, List.set_cons_zero, List.set_cons_succ]
          refine wpAnyH_putD (i := 25) (d := 66) (v := undef) rfl rfl (by kernel_rfl) (by kernel_rfl) (by kernel_rfl) (fun _ _ _ h => h) (Or.inr ⟨by kernel_rfl, rfl⟩) (by first | exact HS.out _ kk) ?_
          try simp only [List.setIfInBounds_toArray, List.set_cons_zero, List.set_cons_succ]
          refine wpAnyH_putD (i := 26) (d := 67) (v := undef) rfl rfl (by kernel_rfl) (by kernel_rfl) (by kernel_rfl) (fun _ _ _ h => h) (Or.inr ⟨by kernel_rfl, rfl⟩) (by first | exact HS.out _ kk) ?_
          try simp only [List.setIfInBounds_toArray, List.set_cons_zero, List.set_cons_succ]
          refine wpAnyH_putD (i := 27) (d := 68) (v := undef) rfl rfl (by kernel_rfl) (by kernel_rfl) (by kernel_rfl) (fun _ _ _ h => h) (Or.inr ⟨by kernel_rfl, rfl⟩) (by first | exact HS.out _ kk) ?_
          try simp only [List.setIfInBounds_toArray, List.set_cons_zero, List.set_cons_succ]
          refine wpAnyH_putD (i := 28) (d := 69) (v := undef) rfl rfl (by kernel_rfl) (by kernel_rfl) (by kernel_rfl) (fun _ _ _ h => h) (Or.inr ⟨by kernel_rfl, rfl⟩) (by first | exact HS.out _ kk) ?_
          try simp only [List.setIfInBounds_toArray, List.set_cons_zero, List.set_cons_succ]
          refine wpAnyH_putD (i := 29) (d := 70) (v := undef) rfl rfl (by kernel_rfl) (by kernel_rfl) (by kernel_rfl) (fun _ _ _ h => h) (Or.inr ⟨by kernel_rfl, rfl⟩) (by first | exact HS.out _ kk) ?_
          try simp only [List.setIfInBounds_toArray, List.set_cons_zero, List.set_cons_succ]
          refine wpAnyH_putD (i := 30) (d := 71) (v := undef) rfl rfl (by kernel_rfl) (by kernel_rfl) (by kernel_rfl) (fun _ _ _ h => h) (Or.inr ⟨by kernel_rfl, rfl⟩) (by first | exact HS.out _ kk) ?_
          try simp only [List.setIfInBounds_toArray, List.set_cons_zero, List.set_cons_succ]
          refine wpAnyH_putD (i := 31) (d := 72) (v := undef) rfl rfl (by kernel_rfl) (by kernel_rfl) (by kernel_rfl) (fun _ _ _ h => h) (Or.inr ⟨by kernel_rfl, rfl⟩) (by first | exact HS.out _ kk) ?_
          try simp only [List.setIfInBounds_toArray, List.set_cons_zero, List.set_cons_succ]
          refine wpAnyH_putD (i := 32) (d := 73) (v := undef) rfl rfl (by kernel_rfl) (by kernel_rfl) (by kernel_rfl) (fun _ _ _ h => h) (Or.inr ⟨by kernel_rfl, rfl⟩) (by first | exact HS.out _ kk) ?_
          try simp only [List.setIfInBounds_toArray, List.set_cons_zero, List.set_cons_succ]
          refine wpAnyH_putD (i := 33) (d := 74) (v := undef) rfl rfl (by kernel_rfl) (by kernel_rfl) (by kernel_rfl) (fun _ _ _ h => h) (Or.inr ⟨by kernel_rfl, rfl⟩) (by first | exact HS.out _ kk) ?_
          try simp only [List.setIfInBounds_toArray, List.set_cons_zero, List.set_cons_succ]
          refine wpAnyH_putD (i := 34) (d := 75) (v := undef) rfl rfl (by kernel_rfl) (by kernel_rfl) (by kernel_rfl) (fun _ _ _ h => h) (Or.inr ⟨by kernel_rfl, rfl⟩) (by first | exact HS.out _ kk) ?_
          try simp only [List.setIfInBounds_toArray, List.set_cons_zero, List.set_cons_succ]
          refine wpAnyH_putD (i := 35) (d := 76) (v := undef) rfl rfl (by kernel_rfl) (by kernel_rfl) (by kernel_rfl) (fun _ _ _ h => h) (Or.inr ⟨by kernel_rfl, rfl⟩) (by first | exact HS.out _ kk) ?_
          try simp only [List.setIfInBounds_toArray, List.set_cons_zero, List.set_cons_succ]
          refine wpAnyH_putD (i := 36) (d := 77) (v := undef) rfl rfl (by kernel_rfl) (by kernel_rfl) (by kernel_rfl) (fun _ _ _ h => h) (Or.inr ⟨by kernel_rfl, rfl⟩) (by first | exact HS.out _ kk) ?_
          try simp only [List.setIfInBounds_toArray, List.set_cons_zero, List.set_cons_succ]
          refine wpAnyH_putD (i := 37) (d := 78) (v := undef) rfl rfl (by kernel_rfl) (by kernel_rfl) (by kernel_rfl) (fun _ _ _ h => h) (Or.inr ⟨by kernel_rfl, rfl⟩) (by first | exact HS.out _ kk) ?_
          try simp only [List.setIfInBounds_toArray, List.set_cons_zero, List.set_cons_succ]
          refine wpAnyH_putD (i := 38) (d := 79) (v := ?_) rfl rfl (by kernel_rfl) (by kernel_rfl) (by kernel_rfl) (fun _ _ _ h => h) (Or.inl ⟨by kernel_rfl, ?_⟩) (by first | exact HS.out _ kk) ?_
          rotate_left
          · (intro w hS; (try dsimp only at hS); go_simp <;> with_reducible rfl)
          try simp only [List.setIfInBounds_toArray, List.set_cons_zero, List.set_cons_succ]
          refine wpAnyH_done (by kernel_rfl) ?_ _
          refine Nrm.out (hKK _ _ ?_)
          go_wp2
          go_ret
          exact ⟨by rw [HN.out]; rfl, below_then hb0 (Nat.le_refl _) k⟩
    · obtain rfl : j = n4 := by omega
      have HN := Lib.hid (show ntF x = true by rw [HF.out, hr.out, HNil.out _ _ (Nat.le_refl _)]; rfl)
      obtain ⟨q0, q1, q2, q3⟩ := HQ.out _ hb
      clear hr
      go_wp2
      go_ret
      exact ⟨by rw [HN.out]; rfl, below_then hb0 (Nat.le_refl _) hb⟩
end Go.Proofs.YtnibkniggiokkaaDoor
