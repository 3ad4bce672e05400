/- Walk over the law NoteMerged (printed by wip/tools/genNmK.py). -/
import Derived.Test.YtnibkniggiokkaaDoorNmJ
import Derived.Test.YtnibkniggiokkaaDoorMSp
import Derived.Deep.DeepCutAuto
namespace Go.Proofs.YtnibkniggiokkaaDoor
open Go.RowKit
set_option maxRecDepth 100000

set_option maxHeartbeats 16000000 in
theorem noteMerged_walk (v v' : NV) (x y : Nt) (A : Option Addr) (n c : Nat) (known : List Vc.St) (w : World) (hT : Tab w) (hN : NtRd w w.heap.size v x) (hs : NtSz v) (hN' : NtRd w w.heap.size v' y) (hs' : NtSz v') (hl : known.length = n) (hR : Rd w w.heap.size 2 A n c (sv known)) :
    Calls Tryd.prog 6 #[.agg v.val, .agg v'.val, .slice A n c] w fun e w' => e = .returned (.bool true) ∧ Below w.heap.size w w' := by
  obtain ⟨A1, n1, c1, A2, n2, c2, A3, n3, c3, A4, n4, c4⟩ := v
  obtain ⟨B1, m1, d1, B2, m2, d2, B3, m3, d3, B4, m4, d4⟩ := v'
  have h4 := hs.s4
  have h4' := hs'.s4
  dsimp only at h4 h4'
  have hb0 : Below w.heap.size w ((w.alloc (.cells #[.slice A1 n1 c1, .slice A2 n2 c2, .slice A3 n3 c3, .slice A4 n4 c4] 26)).alloc (.cells #[.slice B1 m1 d1, .slice B2 m2 d2, .slice B3 m3 d3, .slice B4 m4 d4] 26)) := ((Below.refl _ _).alloc (Nat.le_refl _) _).alloc (by simp) _
  have hX := (Blk.new w 26 #[.slice A1 n1 c1, .slice A2 n2 c2, .slice A3 n3 c3, .slice A4 n4 c4]).alloc (.cells #[.slice B1 m1 d1, .slice B2 m2 d2, .slice B3 m3 d3, .slice B4 m4 d4] 26)
  have hY := Blk.new (w.alloc (.cells #[.slice A1 n1 c1, .slice A2 n2 c2, .slice A3 n3 c3, .slice A4 n4 c4] 26)) 26 #[.slice B1 m1 d1, .slice B2 m2 d2, .slice B3 m3 d3, .slice B4 m4 d4]
  rw [World.size_alloc] at hY
  obtain ⟨w0, hw0⟩ : ∃ w0, w0 = (w.alloc (.cells #[.slice A1 n1 c1, .slice A2 n2 c2, .slice A3 n3 c3, .slice A4 n4 c4] 26)).alloc (.cells #[.slice B1 m1 d1, .slice B2 m2 d2, .slice B3 m3 d3, .slice B4 m4 d4] 26) := ⟨_, rfl⟩
  rw [← hw0] at hb0 hX hY
  have HW := Lib.hid hw0.symm
  have hT0 := hT.below hb0
  have hN0 := hN.go hb0
  have hM0 := hN'.go hb0
  have hR0 := hR.go hb0
  clear hw0 hT hN hN' hR hs hs'
  dsimp only [NV.val]
  go_enter Tryd.func6, Tryd.ntmps6
  go_wp2_with fail
  rw [HW.out]
  refine (aliveN_any w0 hT0).mono ?_
  rintro e w1 ⟨rfl, hb1⟩
  have hT1 := hT0.below hb1
  have hN1 := hN0.go hb1
  have hM1 := hM0.go hb1
  have hR1 := hR0.go hb1
  have hX1 := hX.go hb1
  have hY1 := hY.go hb1
  have hbw1 := below_then hb0 (Nat.le_refl _) hb1
  obtain ⟨q0, q1, q2, q3⟩ := hX1.four4
  obtain ⟨r0, r1, r2, r3⟩ := hY1.four4
  have GM := merge_any _ _ x y w1 hT1 hN1 hM1
  dsimp only [NV.val] at GM
  obtain ⟨nt, hnt⟩ : ∃ nt, nt = mrgD x y := ⟨_, rfl⟩
  rw [← hnt] at GM
  obtain ⟨z, hz⟩ : ∃ z, z = (ntF x && ntF y) := ⟨_, rfl⟩
  rw [← hz] at GM
  have GM := Lib.hid GM
  have HZ := Lib.hid hz
  have HNT := Lib.hid hnt
  clear HW hT0 hN0 hM0 hR0 hX hY hb0 hb1 hz hnt
  go_wp2_with fail
  refine GM.out.mono ?_
  rintro e w4 ⟨v6, he, hK4, hb4⟩
  generalize her : (if z = true then (0 : Int) else 1) = er at he
  have HER := Lib.hid her
  obtain ⟨E1, p1, e1, E2, p2, e2, E3, p3, e3, E4, p4, e4⟩ := v6
  dsimp only [NV.val] at he
  subst he
  clear her q0 q1 q2 q3 r0 r1 r2 r3 GM
  have hb5 : Below w4.heap.size w4 (w4.alloc (.cells #[.slice E1 p1 e1, .slice E2 p2 e2, .slice E3 p3 e3, .slice E4 p4 e4] 26)) := (Below.refl _ _).alloc (Nat.le_refl _) _
  have hE := Blk.new w4 26 #[.slice E1 p1 e1, .slice E2 p2 e2, .slice E3 p3 e3, .slice E4 p4 e4]
  have hX5 := (hX1.go hb4).alloc (.cells #[.slice E1 p1 e1, .slice E2 p2 e2, .slice E3 p3 e3, .slice E4 p4 e4] 26)
  have hY5 := (hY1.go hb4).alloc (.cells #[.slice E1 p1 e1, .slice E2 p2 e2, .slice E3 p3 e3, .slice E4 p4 e4] 26)
  obtain ⟨w5, hw5⟩ : ∃ w5, w5 = w4.alloc (.cells #[.slice E1 p1 e1, .slice E2 p2 e2, .slice E3 p3 e3, .slice E4 p4 e4] 26) := ⟨_, rfl⟩
  rw [← hw5] at hE hb5 hX5 hY5
  have HW := Lib.hid hw5.symm
  have hb45 := below_then hb4 (Nat.le_refl _) hb5
  have HB5 := Lib.hid (below_then hbw1 (Nat.le_refl _) hb45)
  have HT := Lib.hid fun (V : World) (hb : Below w5.heap.size w5 V) => (hT1.below hb45).below hb
  have HNA := Lib.hid fun (V : World) (hb : Below w5.heap.size w5 V) => (hN1.go hb45).go hb
  have HNB := Lib.hid fun (V : World) (hb : Below w5.heap.size w5 V) => (hM1.go hb45).go hb
  have HNX := Lib.hid fun (V : World) (hb : Below w5.heap.size w5 V) => (hK4.go hb5).go hb
  have HRK := Lib.hid fun (V : World) (hb : Below w5.heap.size w5 V) => (hR1.go hb45).go hb
  have HS := Lib.hid fun W (hb : Below w5.heap.size w5 W) => (show ((W.cell? ⟨w.heap.size, 0, none⟩ = some (.slice A1 n1 c1) ∧ W.cell? ⟨w.heap.size, 1, none⟩ = some (.slice A2 n2 c2) ∧ W.cell? ⟨w.heap.size, 2, none⟩ = some (.slice A3 n3 c3) ∧ W.cell? ⟨w.heap.size, 3, none⟩ = some (.slice A4 n4 c4)) ∧ (W.cell? ⟨w.heap.size + 1, 0, none⟩ = some (.slice B1 m1 d1) ∧ W.cell? ⟨w.heap.size + 1, 1, none⟩ = some (.slice B2 m2 d2) ∧ W.cell? ⟨w.heap.size + 1, 2, none⟩ = some (.slice B3 m3 d3) ∧ W.cell? ⟨w.heap.size + 1, 3, none⟩ = some (.slice B4 m4 d4)) ∧ (W.cell? ⟨w4.heap.size, 0, none⟩ = some (.slice E1 p1 e1) ∧ W.cell? ⟨w4.heap.size, 1, none⟩ = some (.slice E2 p2 e2) ∧ W.cell? ⟨w4.heap.size, 2, none⟩ = some (.slice E3 p3 e3) ∧ W.cell? ⟨w4.heap.size, 3, none⟩ = some (.slice E4 p4 e4))) from
    ⟨⟨(hX5.go hb).cell 0, (hX5.go hb).cell 1, (hX5.go hb).cell 2, (hX5.go hb).cell 3⟩, ⟨(hY5.go hb).cell 0, (hY5.go hb).cell 1, (hY5.go hb).cell 2, (hY5.go hb).cell 3⟩, ⟨(hE.go hb).cell 0, (hE.go hb).cell 1, (hE.go hb).cell 2, (hE.go hb).cell 3⟩⟩)
  have HL := Lib.hid hl
  clear hT1 hN1 hM1 hR1 hX1 hY1 hbw1 hK4 hb4 hb5 hE hX5 hY5 hw5 hb45 hl
  go_upto_region 4 with fail
  rw [HW.out]
  rcases z with _ | _
  · obtain rfl : er = 1 := by have := HER.out; simpa using this.symm
    have G1 := noteFormed_any _ x w5 (HT.out w5 (Below.refl _ _)) (HNA.out w5 (Below.refl _ _))
    have G2 := fun V hb => noteFormed_any _ y V (HT.out V hb) (HNB.out V hb)
    dsimp only [NV.val] at G1 G2
    have hz := HZ.out
    have G1 := Lib.hid G1
    have G2 := Lib.hid G2
    rcases h1 : ntF x with _ | _
    · rw [h1] at G1
      have G1 := Lib.hid G1.out
      clear hz
      obtain ⟨⟨q0, q1, q2, q3⟩, _⟩ := HS.out w5 (Below.refl _ _)
      go_wp2_with fail
      refine G1.out.mono ?_
      rintro e w6 ⟨rfl, hb6⟩
      go_wp2
      go_ret
      exact ⟨rfl, below_then HB5.out (Nat.le_refl _) hb6⟩
    · have h2 : ntF y = false := by rw [h1] at hz; simpa using hz.symm
      rw [h1] at G1
      rw [h2] at G2
      have G1 := Lib.hid G1.out
      have G2 := Lib.hid G2.out
      clear hz
      obtain ⟨⟨q0, q1, q2, q3⟩, _⟩ := HS.out w5 (Below.refl _ _)
      go_wp2_with fail
      refine G1.out.mono ?_
      rintro e w6 ⟨rfl, hb6⟩
      clear q0 q1 q2 q3
      obtain ⟨_, ⟨q0, q1, q2, q3⟩, _⟩ := HS.out w6 hb6
      go_wp2_with fail
      refine (G2.out _ hb6).mono ?_
      rintro e w7 ⟨rfl, hb7⟩
      go_wp2
      go_ret
      exact ⟨rfl, below_then HB5.out (Nat.le_refl _) (below_then hb6 (Nat.le_refl _) hb7)⟩
  · obtain rfl : er = 0 := by have := HER.out; simpa using this.symm
    have hz := HZ.out
    obtain ⟨fx, fy⟩ : ntF x = true ∧ ntF y = true := by simpa using hz.symm
    have hnt := HNT.out
    unfold mrgD at hnt
    rw [if_pos (by rw [fx, fy]; rfl)] at hnt
    have HF := Lib.hid (And.intro fx fy)
    have HNT := Lib.hid hnt
    have HX4 := Lib.hid (show p4 ≤ 4398046511104 by
      have h1 := (HNX.out w5 (Below.refl _ _)).l4
      dsimp only at h1
      rw [hnt] at h1
      have h2 := mUp_len (mrgK x y) x.w y.w 256
      have h3 : (mrgN x y).w.length = (mUp (mrgK x y) x.w y.w 256).length := rfl
      omega)
    clear hz hnt fx fy
    go_upto_region 6 with fail
    go_cut [53] (fun v53 wx => v53 = .bool false ∧ Hid (Below w5.heap.size w5 wx))
    case first =>
      have k : Below w5.heap.size w5 w5.drew := (Below.refl _ _).drew
      have F1 := fun V hb => fits_any _ x A n c known V (HT.out V hb) (HNA.out V hb) HL.out (HRK.out V hb)
      have F2 := fun V hb (K : Option Addr) (kn kc : Nat) (u : List Vc.St) (hu : u.length = kn) (hK : Rd V V.heap.size 2 K kn kc (sv u)) => fits_any _ y K kn kc u V (HT.out V hb) (HNB.out V hb) hu hK
      have F3 := fun V hb => fits_any _ nt A n c known V (HT.out V hb) (HNX.out V hb) HL.out (HRK.out V hb)
      have TW := fun V hb => refTwo_any A A2 n c n2 c2 known x.e V HL.out (HNA.out V hb).l2 (HRK.out V hb) (HNA.out V hb).r2
      dsimp only [NV.val] at F1 F2 F3 TW
      have hfit := mrg_fits (a := x) (b := y) known
      rw [← HNT.out] at hfit
      obtain ⟨TL, hTL⟩ : ∃ TL, TL = vec (jn [known, x.e]) := ⟨_, rfl⟩
      rw [← hTL] at hfit
      simp only [← hTL] at TW
      have F2 := fun V hb K kc hK => F2 V hb K TL.length kc TL rfl hK
      generalize ntFits x known = t1 at F1 hfit
      generalize ntFits y TL = t2 at F2 hfit
      generalize ntFits nt known = t3 at F3 hfit
      have F1 := Lib.hid F1
      have F2 := Lib.hid F2
      have F3 := Lib.hid F3
      have TW := Lib.hid TW
      clear hTL
      rcases t1 with _ | _
      · clear hfit
        refine region_nrm fun KK hKK => ?_
        refine wp_region_held_drew (S := (fun W => ((W.cell? ⟨w.heap.size, 0, none⟩ = some (.slice A1 n1 c1) ∧ W.cell? ⟨w.heap.size, 1, none⟩ = some (.slice A2 n2 c2) ∧ W.cell? ⟨w.heap.size, 2, none⟩ = some (.slice A3 n3 c3) ∧ W.cell? ⟨w.heap.size, 3, none⟩ = some (.slice A4 n4 c4)) ∧ (W.cell? ⟨w.heap.size + 1, 0, none⟩ = some (.slice B1 m1 d1) ∧ W.cell? ⟨w.heap.size + 1, 1, none⟩ = some (.slice B2 m2 d2) ∧ W.cell? ⟨w.heap.size + 1, 2, none⟩ = some (.slice B3 m3 d3) ∧ W.cell? ⟨w.heap.size + 1, 3, none⟩ = some (.slice B4 m4 d4)) ∧ (W.cell? ⟨w4.heap.size, 0, none⟩ = some (.slice E1 p1 e1) ∧ W.cell? ⟨w4.heap.size, 1, none⟩ = some (.slice E2 p2 e2) ∧ W.cell? ⟨w4.heap.size, 2, none⟩ = some (.slice E3 p3 e3) ∧ W.cell? ⟨w4.heap.size, 3, none⟩ = some (.slice E4 p4 e4))))) (by kernel_rfl) (by first | exact HS.out _ k) (fun hHeld => ?_)
        refine wpAnyH_putD (i := 0) (d := 37) (v := ?_) rfl rfl (by kernel_rfl) (by kernel_rfl) (by kernel_rfl) (fun _ _ _ h => h) (Or.inl ⟨by kernel_rfl, ?_⟩) (by first | exact HS.out _ k) ?_
        rotate_left
        · (intro w hS; (try dsimp only at hS); go_simp <;> with_reducible rfl)
        try simp only [List.setIfInBounds_toArray, List.set_cons_zero, List.set_cons_succ]
        refine wpAnyH_putD (i := 1) (d := 38) (v := ?_) rfl rfl (by kernel_rfl) (by kernel_rfl) (by kernel_rfl) (fun _ _ _ h => h) (Or.inl ⟨by kernel_rfl, ?_⟩) (by first | exact HS.out _ k) ?_
        rotate_left
        · (intro w hS; (try dsimp only at hS); go_simp <;> with_reducible rfl)
        try simp only [List.setIfInBounds_toArray, List.set_cons_zero, List.set_cons_succ]
        refine wpAnyH_ready (rs := [2]) (by kernel_rfl) (by simp) ?_
        refine AllReadyH.cons rfl (fun K hK => ?_) AllReadyH.nil
        go_simp
        refine (F1.out _ k).mono ?_
        rintro e V ⟨rfl, hb'⟩
        have k := below_then k (Nat.le_refl _) hb'
        clear hb'
        refine hK.out _ _ (by first | exact HS.out _ k) (fun hHeld => ?_)
        clear hK K
        refine wpAnyH_putD (i := 3) (d := 40) (v := (.bool false)) rfl rfl (by kernel_rfl) (by kernel_rfl) (by kernel_rfl) (fun _ _ _ h => h) (Or.inl ⟨by kernel_rfl, ?_⟩) (by first | exact HS.out _ k) ?_
        · (intro w hS; (try dsimp only at hS); go_simp <;> with_reducible rfl)
        try simp only [List.setIfInBounds_toArray, List.set_cons_zero, List.set_cons_succ]
        refine wpAnyH_putD (i := 4) (d := 41) (v := undef) rfl rfl (by kernel_rfl) (by kernel_rfl) (by kernel_rfl) (fun _ _ _ h => h) (Or.inr ⟨by kernel_rfl, rfl⟩) (by first | exact HS.out _ k) ?_
        try simp only [List.setIfInBounds_toArray, List.set_cons_zero, List.set_cons_succ]
        refine wpAnyH_putD (i := 5) (d := 42) (v := undef) rfl rfl (by kernel_rfl) (by kernel_rfl) (by kernel_rfl) (fun _ _ _ h => h) (Or.inr ⟨by kernel_rfl, rfl⟩) (by first | exact HS.out _ k) ?_
        try simp only [List.setIfInBounds_toArray, List.set_cons_zero, List.set_cons_succ]
        refine wpAnyH_putD (i := 6) (d := 43) (v := undef) rfl rfl (by kernel_rfl) (by kernel_rfl) (by kernel_rfl) (fun _ _ _ h => h) (Or.inr ⟨by kernel_rfl, rfl⟩) (by first | exact HS.out _ k) ?_
        try simp only [List.setIfInBounds_toArray, List.set_cons_zero, List.set_cons_succ]
        refine wpAnyH_putD (i := 7) (d := 44) (v := undef) rfl rfl (by kernel_rfl) (by kernel_rfl) (by kernel_rfl) (fun _ _ _ h => h) (Or.inr ⟨by kernel_rfl, rfl⟩) (by first | exact HS.out _ k) ?_
        try simp only [List.setIfInBounds_toArray, List.set_cons_zero, List.set_cons_succ]
        refine wpAnyH_putD (i := 8) (d := 45) (v := undef) rfl rfl (by kernel_rfl) (by kernel_rfl) (by kernel_rfl) (fun _ _ _ h => h) (Or.inr ⟨by kernel_rfl, rfl⟩) (by first | exact HS.out _ k) ?_
        try simp only [List.setIfInBounds_toArray, List.set_cons_zero, List.set_cons_succ]
        refine wpAnyH_putD (i := 9) (d := 46) (v := undef) rfl rfl (by kernel_rfl) (by kernel_rfl) (by kernel_rfl) (fun _ _ _ h => h) (Or.inr ⟨by kernel_rfl, rfl⟩) (by first | exact HS.out _ k) ?_
        try simp only [List.setIfInBounds_toArray, List.set_cons_zero, List.set_cons_succ]
        refine wpAnyH_putD (i := 10) (d := 47) (v := ?_) rfl rfl (by kernel_rfl) (by kernel_rfl) (by kernel_rfl) (fun _ _ _ h => h) (Or.inl ⟨by kernel_rfl, ?_⟩) (by first | exact HS.out _ k) ?_
        rotate_left
        · (intro w hS; (try dsimp only at hS); go_simp <;> with_reducible rfl)
        try simp only [List.setIfInBounds_toArray, List.set_cons_zero, List.set_cons_succ]
        refine wpAnyH_putD (i := 11) (d := 48) (v := ?_) rfl rfl (by kernel_rfl) (by kernel_rfl) (by kernel_rfl) (fun _ _ _ h => h) (Or.inl ⟨by kernel_rfl, ?_⟩) (by first | exact HS.out _ k) ?_
        rotate_left
        · (intro w hS; (try dsimp only at hS); go_simp <;> with_reducible rfl)
        try simp only [List.setIfInBounds_toArray, List.set_cons_zero, List.set_cons_succ]
        refine wpAnyH_putD (i := 12) (d := 49) (v := undef) rfl rfl (by kernel_rfl) (by kernel_rfl) (by kernel_rfl) (fun _ _ _ h => h) (Or.inr ⟨by kernel_rfl, rfl⟩) (by first | exact HS.out _ k) ?_
        try simp only [List.setIfInBounds_toArray, List.set_cons_zero, List.set_cons_succ]
        refine wpAnyH_putD (i := 13) (d := 50) (v := undef) rfl rfl (by kernel_rfl) (by kernel_rfl) (by kernel_rfl) (fun _ _ _ h => h) (Or.inr ⟨by kernel_rfl, rfl⟩) (by first | exact HS.out _ k) ?_
        try simp only [List.setIfInBounds_toArray, List.set_cons_zero, List.set_cons_succ]
        refine wpAnyH_putD (i := 14) (d := 51) (v := undef) rfl rfl (by kernel_rfl) (by kernel_rfl) (by kernel_rfl) (fun _ _ _ h => h) (Or.inr ⟨by kernel_rfl, rfl⟩) (by first | exact HS.out _ k) ?_
        try simp only [List.setIfInBounds_toArray, List.set_cons_zero, List.set_cons_succ]
        refine wpAnyH_putD (i := 15) (d := 52) (v := undef) rfl rfl (by kernel_rfl) (by kernel_rfl) (by kernel_rfl) (fun _ _ _ h => h) (Or.inr ⟨by kernel_rfl, rfl⟩) (by first | exact HS.out _ k) ?_
        try simp only [List.setIfInBounds_toArray, List.set_cons_zero, List.set_cons_succ]
        refine wpAnyH_putD (i := 16) (d := 53) (v := ?_) rfl rfl (by kernel_rfl) (by kernel_rfl) (by kernel_rfl) (fun _ _ _ h => h) (Or.inl ⟨by kernel_rfl, ?_⟩) (by first | exact HS.out _ k) ?_
        rotate_left
        · (intro w hS; (try dsimp only at hS); go_simp <;> with_reducible rfl)
        try simp only [List.setIfInBounds_toArray, List.set_cons_zero, List.set_cons_succ]
        refine wpAnyH_done (by kernel_rfl) ?_ _
        refine Nrm.out (hKK _ _ ?_)
        go_wp2_with fail
        go_meet
        exact ⟨rfl, k⟩
      · rcases t2 with _ | _
        · clear hfit
          refine region_nrm fun KK hKK => ?_
          refine wp_region_held_drew (S := (fun W => ((W.cell? ⟨w.heap.size, 0, none⟩ = some (.slice A1 n1 c1) ∧ W.cell? ⟨w.heap.size, 1, none⟩ = some (.slice A2 n2 c2) ∧ W.cell? ⟨w.heap.size, 2, none⟩ = some (.slice A3 n3 c3) ∧ W.cell? ⟨w.heap.size, 3, none⟩ = some (.slice A4 n4 c4)) ∧ (W.cell? ⟨w.heap.size + 1, 0, none⟩ = some (.slice B1 m1 d1) ∧ W.cell? ⟨w.heap.size + 1, 1, none⟩ = some (.slice B2 m2 d2) ∧ W.cell? ⟨w.heap.size + 1, 2, none⟩ = some (.slice B3 m3 d3) ∧ W.cell? ⟨w.heap.size + 1, 3, none⟩ = some (.slice B4 m4 d4)) ∧ (W.cell? ⟨w4.heap.size, 0, none⟩ = some (.slice E1 p1 e1) ∧ W.cell? ⟨w4.heap.size, 1, none⟩ = some (.slice E2 p2 e2) ∧ W.cell? ⟨w4.heap.size, 2, none⟩ = some (.slice E3 p3 e3) ∧ W.cell? ⟨w4.heap.size, 3, none⟩ = some (.slice E4 p4 e4))))) (by kernel_rfl) (by first | exact HS.out _ k) (fun hHeld => ?_)
          refine wpAnyH_putD (i := 0) (d := 37) (v := ?_) rfl rfl (by kernel_rfl) (by kernel_rfl) (by kernel_rfl) (fun _ _ _ h => h) (Or.inl ⟨by kernel_rfl, ?_⟩) (by first | exact HS.out _ k) ?_
          rotate_left
          · (intro w hS; (try dsimp only at hS); go_simp <;> with_reducible rfl)
          try simp only [List.setIfInBounds_toArray, List.set_cons_zero, List.set_cons_succ]
          refine wpAnyH_putD (i := 1) (d := 38) (v := ?_) rfl rfl (by kernel_rfl) (by kernel_rfl) (by kernel_rfl) (fun _ _ _ h => h) (Or.inl ⟨by kernel_rfl, ?_⟩) (by first | exact HS.out _ k) ?_
          rotate_left
          · (intro w hS; (try dsimp only at hS); go_simp <;> with_reducible rfl)
          try simp only [List.setIfInBounds_toArray, List.set_cons_zero, List.set_cons_succ]
          refine wpAnyH_ready (rs := [2]) (by kernel_rfl) (by simp) ?_
          refine AllReadyH.cons rfl (fun K hK => ?_) AllReadyH.nil
          go_simp
          refine (F1.out _ k).mono ?_
          rintro e V ⟨rfl, hb'⟩
          have k := below_then k (Nat.le_refl _) hb'
          clear hb'
          refine hK.out _ _ (by first | exact HS.out _ k) (fun hHeld => ?_)
          clear hK K
          refine wpAnyH_putD (i := 3) (d := 40) (v := (.bool true)) rfl rfl (by kernel_rfl) (by kernel_rfl) (by kernel_rfl) (fun _ _ _ h => h) (Or.inl ⟨by kernel_rfl, ?_⟩) (by first | exact HS.out _ k) ?_
          · (intro w hS; (try dsimp only at hS); go_simp <;> with_reducible rfl)
          try simp only [List.setIfInBounds_toArray, List.set_cons_zero, List.set_cons_succ]
          refine wpAnyH_putD (i := 4) (d := 41) (v := ?_) rfl rfl (by kernel_rfl) (by kernel_rfl) (by kernel_rfl) (fun _ _ _ h => h) (Or.inl ⟨by kernel_rfl, ?_⟩) (by first | exact HS.out _ k) ?_
          rotate_left
          · (intro w hS; (try dsimp only at hS); go_simp <;> with_reducible rfl)
          try simp only [List.setIfInBounds_toArray, List.set_cons_zero, List.set_cons_succ]
          refine wpAnyH_putD (i := 5) (d := 42) (v := ?_) rfl rfl (by kernel_rfl) (by kernel_rfl) (by kernel_rfl) (fun _ _ _ h => h) (Or.inl ⟨by kernel_rfl, ?_⟩) (by first | exact HS.out _ k) ?_
          rotate_left
          · (intro w hS; (try dsimp only at hS); go_simp <;> with_reducible rfl)
          try simp only [List.setIfInBounds_toArray, List.set_cons_zero, List.set_cons_succ]
          refine wpAnyH_putD (i := 6) (d := 43) (v := ?_) rfl rfl (by kernel_rfl) (by kernel_rfl) (by kernel_rfl) (fun _ _ _ h => h) (Or.inl ⟨by kernel_rfl, ?_⟩) (by first | exact HS.out _ k) ?_
          rotate_left
          · (intro w hS; (try dsimp only at hS); go_simp <;> with_reducible rfl)
          try simp only [List.setIfInBounds_toArray, List.set_cons_zero, List.set_cons_succ]
          refine wpAnyH_putD (i := 7) (d := 44) (v := ?_) rfl rfl (by kernel_rfl) (by kernel_rfl) (by kernel_rfl) (fun _ _ _ h => h) (Or.inl ⟨by kernel_rfl, ?_⟩) (by first | exact HS.out _ k) ?_
          rotate_left
          · (intro w hS; (try dsimp only at hS); go_simp <;> with_reducible rfl)
          try simp only [List.setIfInBounds_toArray, List.set_cons_zero, List.set_cons_succ]
          refine wpAnyH_ready (rs := [8]) (by kernel_rfl) (by simp) ?_
          refine AllReadyH.cons rfl (fun K hK => ?_) AllReadyH.nil
          go_simp
          refine (TW.out _ k).mono ?_
          rintro e V ⟨K5, k5, rfl, ho, hb'⟩
          have k := below_then k (Nat.le_refl _) hb'
          have hRK := Rd.of_own ho
          clear hb' ho
          refine hK.out _ _ (by first | exact HS.out _ k) (fun hHeld => ?_)
          clear hK K
          refine wpAnyH_ready (rs := [9]) (by kernel_rfl) (by simp) ?_
          refine AllReadyH.cons rfl (fun K hK => ?_) AllReadyH.nil
          go_simp
          refine (F2.out _ k K5 k5 hRK).mono ?_
          rintro e V ⟨rfl, hb'⟩
          have k := below_then k (Nat.le_refl _) hb'
          clear hb'
          refine hK.out _ _ (by first | exact HS.out _ k) (fun hHeld => ?_)
          clear hK K
          refine wpAnyH_putD (i := 10) (d := 47) (v := (.bool false)) rfl rfl (by kernel_rfl) (by kernel_rfl) (by kernel_rfl) (fun _ _ _ h => h) (Or.inl ⟨by kernel_rfl, ?_⟩) (by first | exact HS.out _ k) ?_
          · (intro w hS; (try dsimp only at hS); go_simp <;> with_reducible rfl)
          try simp only [List.setIfInBounds_toArray, List.set_cons_zero, List.set_cons_succ]
          refine wpAnyH_putD (i := 11) (d := 48) (v := ?_) rfl rfl (by kernel_rfl) (by kernel_rfl) (by kernel_rfl) (fun _ _ _ h => h) (Or.inl ⟨by kernel_rfl, ?_⟩) (by first | exact HS.out _ k) ?_
          rotate_left
          · (intro w hS; (try dsimp only at hS); go_simp <;> with_reducible rfl)
          try simp only [List.setIfInBounds_toArray, List.set_cons_zero, List.set_cons_succ]
          refine wpAnyH_putD (i := 12) (d := 49) (v := undef) rfl rfl (by kernel_rfl) (by kernel_rfl) (by kernel_rfl) (fun _ _ _ h => h) (Or.inr ⟨by kernel_rfl, rfl⟩) (by first | exact HS.out _ k) ?_
          try simp only [List.setIfInBounds_toArray, List.set_cons_zero, List.set_cons_succ]
          refine wpAnyH_putD (i := 13) (d := 50) (v := undef) rfl rfl (by kernel_rfl) (by kernel_rfl) (by kernel_rfl) (fun _ _ _ h => h) (Or.inr ⟨by kernel_rfl, rfl⟩) (by first | exact HS.out _ k) ?_
          try simp only [List.setIfInBounds_toArray, List.set_cons_zero, List.set_cons_succ]
          refine wpAnyH_putD (i := 14) (d := 51) (v := undef) rfl rfl (by kernel_rfl) (by kernel_rfl) (by kernel_rfl) (fun _ _ _ h => h) (Or.inr ⟨by kernel_rfl, rfl⟩) (by first | exact HS.out _ k) ?_
          try simp only [List.setIfInBounds_toArray, List.set_cons_zero, List.set_cons_succ]
          refine wpAnyH_putD (i := 15) (d := 52) (v := undef) rfl rfl (by kernel_rfl) (by kernel_rfl) (by kernel_rfl) (fun _ _ _ h => h) (Or.inr ⟨by kernel_rfl, rfl⟩) (by first | exact HS.out _ k) ?_
          try simp only [List.setIfInBounds_toArray, List.set_cons_zero, List.set_cons_succ]
          refine wpAnyH_putD (i := 16) (d := 53) (v := ?_) rfl rfl (by kernel_rfl) (by kernel_rfl) (by kernel_rfl) (fun _ _ _ h => h) (Or.inl ⟨by kernel_rfl, ?_⟩) (by first | exact HS.out _ k) ?_
          rotate_left
          · (intro w hS; (try dsimp only at hS); go_simp <;> with_reducible rfl)
          try simp only [List.setIfInBounds_toArray, List.set_cons_zero, List.set_cons_succ]
          refine wpAnyH_done (by kernel_rfl) ?_ _
          refine Nrm.out (hKK _ _ ?_)
          go_wp2_with fail
          go_meet
          exact ⟨rfl, k⟩
        · obtain rfl : t3 = true := hfit rfl rfl
          refine region_nrm fun KK hKK => ?_
          refine wp_region_held_drew (S := (fun W => ((W.cell? ⟨w.heap.size, 0, none⟩ = some (.slice A1 n1 c1) ∧ W.cell? ⟨w.heap.size, 1, none⟩ = some (.slice A2 n2 c2) ∧ W.cell? ⟨w.heap.size, 2, none⟩ = some (.slice A3 n3 c3) ∧ W.cell? ⟨w.heap.size, 3, none⟩ = some (.slice A4 n4 c4)) ∧ (W.cell? ⟨w.heap.size + 1, 0, none⟩ = some (.slice B1 m1 d1) ∧ W.cell? ⟨w.heap.size + 1, 1, none⟩ = some (.slice B2 m2 d2) ∧ W.cell? ⟨w.heap.size + 1, 2, none⟩ = some (.slice B3 m3 d3) ∧ W.cell? ⟨w.heap.size + 1, 3, none⟩ = some (.slice B4 m4 d4)) ∧ (W.cell? ⟨w4.heap.size, 0, none⟩ = some (.slice E1 p1 e1) ∧ W.cell? ⟨w4.heap.size, 1, none⟩ = some (.slice E2 p2 e2) ∧ W.cell? ⟨w4.heap.size, 2, none⟩ = some (.slice E3 p3 e3) ∧ W.cell? ⟨w4.heap.size, 3, none⟩ = some (.slice E4 p4 e4))))) (by kernel_rfl) (by first | exact HS.out _ k) (fun hHeld => ?_)
          refine wpAnyH_putD (i := 0) (d := 37) (v := ?_) rfl rfl (by kernel_rfl) (by kernel_rfl) (by kernel_rfl) (fun _ _ _ h => h) (Or.inl ⟨by kernel_rfl, ?_⟩) (by first | exact HS.out _ k) ?_
          rotate_left
          · (intro w hS; (try dsimp only at hS); go_simp <;> with_reducible rfl)
          try simp only [List.setIfInBounds_toArray, List.set_cons_zero, List.set_cons_succ]
          refine wpAnyH_putD (i := 1) (d := 38) (v := ?_) rfl rfl (by kernel_rfl) (by kernel_rfl) (by kernel_rfl) (fun _ _ _ h => h) (Or.inl ⟨by kernel_rfl, ?_⟩) (by first | exact HS.out _ k) ?_
          rotate_left
          · (intro w hS; (try dsimp only at hS); go_simp <;> with_reducible rfl)
          try simp only [List.setIfInBounds_toArray, List.set_cons_zero, List.set_cons_succ]
          refine wpAnyH_ready (rs := [2]) (by kernel_rfl) (by simp) ?_
          refine AllReadyH.cons rfl (fun K hK => ?_) AllReadyH.nil
          go_simp
          refine (F1.out _ k).mono ?_
          rintro e V ⟨rfl, hb'⟩
          have k := below_then k (Nat.le_refl _) hb'
          clear hb'
          refine hK.out _ _ (by first | exact HS.out _ k) (fun hHeld => ?_)
          clear hK K
          refine wpAnyH_putD (i := 3) (d := 40) (v := (.bool true)) rfl rfl (by kernel_rfl) (by kernel_rfl) (by kernel_rfl) (fun _ _ _ h => h) (Or.inl ⟨by kernel_rfl, ?_⟩) (by first | exact HS.out _ k) ?_
          · (intro w hS; (try dsimp only at hS); go_simp <;> with_reducible rfl)
          try simp only [List.setIfInBounds_toArray, List.set_cons_zero, List.set_cons_succ]
          refine wpAnyH_putD (i := 4) (d := 41) (v := ?_) rfl rfl (by kernel_rfl) (by kernel_rfl) (by kernel_rfl) (fun _ _ _ h => h) (Or.inl ⟨by kernel_rfl, ?_⟩) (by first | exact HS.out _ k) ?_
          rotate_left
          · (intro w hS; (try dsimp only at hS); go_simp <;> with_reducible rfl)
          try simp only [List.setIfInBounds_toArray, List.set_cons_zero, List.set_cons_succ]
          refine wpAnyH_putD (i := 5) (d := 42) (v := ?_) rfl rfl (by kernel_rfl) (by kernel_rfl) (by kernel_rfl) (fun _ _ _ h => h) (Or.inl ⟨by kernel_rfl, ?_⟩) (by first | exact HS.out _ k) ?_
          rotate_left
          · (intro w hS; (try dsimp only at hS); go_simp <;> with_reducible rfl)
          try simp only [List.setIfInBounds_toArray, List.set_cons_zero, List.set_cons_succ]
          refine wpAnyH_putD (i := 6) (d := 43) (v := ?_) rfl rfl (by kernel_rfl) (by kernel_rfl) (by kernel_rfl) (fun _ _ _ h => h) (Or.inl ⟨by kernel_rfl, ?_⟩) (by first | exact HS.out _ k) ?_
          rotate_left
          · (intro w hS; (try dsimp only at hS); go_simp <;> with_reducible rfl)
          try simp only [List.setIfInBounds_toArray, List.set_cons_zero, List.set_cons_succ]
          refine wpAnyH_putD (i := 7) (d := 44) (v := ?_) rfl rfl (by kernel_rfl) (by kernel_rfl) (by kernel_rfl) (fun _ _ _ h => h) (Or.inl ⟨by kernel_rfl, ?_⟩) (by first | exact HS.out _ k) ?_
          rotate_left
          · (intro w hS; (try dsimp only at hS); go_simp <;> with_reducible rfl)
          try simp only [List.setIfInBounds_toArray, List.set_cons_zero, List.set_cons_succ]
          refine wpAnyH_ready (rs := [8]) (by kernel_rfl) (by simp) ?_
          refine AllReadyH.cons rfl (fun K hK => ?_) AllReadyH.nil
          go_simp
          refine (TW.out _ k).mono ?_
          rintro e V ⟨K5, k5, rfl, ho, hb'⟩
          have k := below_then k (Nat.le_refl _) hb'
          have hRK := Rd.of_own ho
          clear hb' ho
          refine hK.out _ _ (by first | exact HS.out _ k) (fun hHeld => ?_)
          clear hK K
          refine wpAnyH_ready (rs := [9]) (by kernel_rfl) (by simp) ?_
          refine AllReadyH.cons rfl (fun K hK => ?_) AllReadyH.nil
          go_simp
          refine (F2.out _ k K5 k5 hRK).mono ?_
          rintro e V ⟨rfl, hb'⟩
          have k := below_then k (Nat.le_refl _) hb'
          clear hb'
          refine hK.out _ _ (by first | exact HS.out _ k) (fun hHeld => ?_)
          clear hK K
          refine wpAnyH_putD (i := 10) (d := 47) (v := (.bool true)) rfl rfl (by kernel_rfl) (by kernel_rfl) (by kernel_rfl) (fun _ _ _ h => h) (Or.inl ⟨by kernel_rfl, ?_⟩) (by first | exact HS.out _ k) ?_
          · (intro w hS; (try dsimp only at hS); go_simp <;> with_reducible rfl)
          try simp only [List.setIfInBounds_toArray, List.set_cons_zero, List.set_cons_succ]
          refine wpAnyH_putD (i := 11) (d := 48) (v := ?_) rfl rfl (by kernel_rfl) (by kernel_rfl) (by kernel_rfl) (fun _ _ _ h => h) (Or.inl ⟨by kernel_rfl, ?_⟩) (by first | exact HS.out _ k) ?_
          rotate_left
          · (intro w hS; (try dsimp only at hS); go_simp <;> with_reducible rfl)
          try simp only [List.setIfInBounds_toArray, List.set_cons_zero, List.set_cons_succ]
          refine wpAnyH_putD (i := 12) (d := 49) (v := ?_) rfl rfl (by kernel_rfl) (by kernel_rfl) (by kernel_rfl) (fun _ _ _ h => h) (Or.inl ⟨by kernel_rfl, ?_⟩) (by first | exact HS.out _ k) ?_
          rotate_left
          · (intro w hS; (try dsimp only at hS); go_simp <;> with_reducible rfl)
          try simp only [List.setIfInBounds_toArray, List.set_cons_zero, List.set_cons_succ]
          refine wpAnyH_putD (i := 13) (d := 50) (v := ?_) rfl rfl (by kernel_rfl) (by kernel_rfl) (by kernel_rfl) (fun _ _ _ h => h) (Or.inl ⟨by kernel_rfl, ?_⟩) (by first | exact HS.out _ k) ?_
          rotate_left
          · (intro w hS; (try dsimp only at hS); go_simp <;> with_reducible rfl)
          try simp only [List.setIfInBounds_toArray, List.set_cons_zero, List.set_cons_succ]
          refine wpAnyH_ready (rs := [14]) (by kernel_rfl) (by simp) ?_
          refine AllReadyH.cons rfl (fun K hK => ?_) AllReadyH.nil
          go_simp
          refine (F3.out _ k).mono ?_
          rintro e V ⟨rfl, hb'⟩
          have k := below_then k (Nat.le_refl _) hb'
          clear hb'
          refine hK.out _ _ (by first | exact HS.out _ k) (fun hHeld => ?_)
          clear hK K
          refine wpAnyH_putD (i := 15) (d := 52) (v := (.bool false)) rfl rfl (by kernel_rfl) (by kernel_rfl) (by kernel_rfl) (fun _ _ _ h => h) (Or.inl ⟨by kernel_rfl, ?_⟩) (by first | exact HS.out _ k) ?_
          · (intro w hS; (try dsimp only at hS); go_simp <;> with_reducible rfl)
          try simp only [List.setIfInBounds_toArray, List.set_cons_zero, List.set_cons_succ]
          refine wpAnyH_putD (i := 16) (d := 53) (v := ?_) rfl rfl (by kernel_rfl) (by kernel_rfl) (by kernel_rfl) (fun _ _ _ h => h) (Or.inl ⟨by kernel_rfl, ?_⟩) (by first | exact HS.out _ k) ?_
          rotate_left
          · (intro w hS; (try dsimp only at hS); go_simp <;> with_reducible rfl)
          try simp only [List.setIfInBounds_toArray, List.set_cons_zero, List.set_cons_succ]
          refine wpAnyH_done (by kernel_rfl) ?_ _
          refine Nrm.out (hKK _ _ ?_)
          go_wp2_with fail
          go_meet
          exact ⟨rfl, k⟩
    case rest =>
    obtain ⟨rfl, hh⟩ := hcut
    have k := hh.out
    clear hh
    rename_i w6
    have N1 := fun V hb => news_any _ x E2 p2 e2 nt.e V (HT.out V hb) (HNA.out V hb) (HNX.out V hb).l2 (HNX.out V hb).r2
    have N2 := fun V hb => news_any _ y E2 p2 e2 nt.e V (HT.out V hb) (HNB.out V hb) (HNX.out V hb).l2 (HNX.out V hb).r2
    have V1 := fun V hb => refCoversS_any E3 p3 e3 nt.b A3 n3 c3 x.b V (HNX.out V hb).l3 (HNX.out V hb).r3 (HNA.out V hb).l3 (HNA.out V hb).r3
    have V2 := fun V hb => refCoversS_any E3 p3 e3 nt.b B3 m3 d3 y.b V (HNX.out V hb).l3 (HNX.out V hb).r3 (HNB.out V hb).l3 (HNB.out V hb).r3
    dsimp only [NV.val] at N1 N2
    have e1' : ntNews x nt.e = false := by rw [HNT.out]; exact mrg_news.1
    have e2' : ntNews y nt.e = false := by rw [HNT.out]; exact mrg_news.2
    have e3' : decide (Sn.lessL x.b nt.b = []) = true := by rw [HNT.out]; exact decide_eq_true mrg_covers.1
    have e4' : decide (Sn.lessL y.b nt.b = []) = true := by rw [HNT.out]; exact decide_eq_true mrg_covers.2
    rw [e1'] at N1
    rw [e2'] at N2
    rw [e3'] at V1
    rw [e4'] at V2
    have N1 := Lib.hid N1
    have N2 := Lib.hid N2
    have V1 := Lib.hid V1
    have V2 := Lib.hid V2
    clear e1' e2' e3' e4'
    obtain ⟨⟨q0, q1, q2, q3⟩, ⟨r0, r1, r2, r3⟩, ⟨s0, s1, s2, s3⟩⟩ := HS.out _ k
    go_wp2_with fail
    refine (N1.out _ k).mono ?_
    rintro e w7 ⟨rfl, hb7⟩
    have k := below_then k (Nat.le_refl _) hb7
    clear q0 q1 q2 q3 r0 r1 r2 r3 s0 s1 s2 s3 hb7
    obtain ⟨⟨q0, q1, q2, q3⟩, ⟨r0, r1, r2, r3⟩, ⟨s0, s1, s2, s3⟩⟩ := HS.out _ k
    go_wp2_with fail
    refine (N2.out _ k).mono ?_
    rintro e w8 ⟨rfl, hb8⟩
    have k := below_then k (Nat.le_refl _) hb8
    clear q0 q1 q2 q3 r0 r1 r2 r3 s0 s1 s2 s3 hb8
    obtain ⟨⟨q0, q1, q2, q3⟩, ⟨r0, r1, r2, r3⟩, ⟨s0, s1, s2, s3⟩⟩ := HS.out _ k
    go_wp2_with fail
    refine (V1.out _ k).mono ?_
    rintro e w9 ⟨rfl, hb9⟩
    have k := below_then k (Nat.le_refl _) hb9
    clear q0 q1 q2 q3 r0 r1 r2 r3 s0 s1 s2 s3 hb9
    obtain ⟨⟨q0, q1, q2, q3⟩, ⟨r0, r1, r2, r3⟩, ⟨s0, s1, s2, s3⟩⟩ := HS.out _ k
    go_wp2_with fail
    refine (V2.out _ k).mono ?_
    rintro e wa ⟨rfl, hba⟩
    have k := below_then k (Nat.le_refl _) hba
    clear q0 q1 q2 q3 r0 r1 r2 r3 s0 s1 s2 s3 hba N1 N2 V1 V2
    go_wp2_with fail
    go_loopw [9] (fun v9 wr => ∃ ob : Nat, v9 = .int .i64 ob ∧ ob ≤ 256 ∧ Below w5.heap.size w5 wr) (fun v9 _ => 256 - (intOf v9).toNat)
    case atStart => exact ⟨0, rfl, by omega, k⟩
    case round =>
      clear k
      obtain ⟨ob, rfl, hob, hb⟩ := hrel
      by_cases hlt : ob < 256
      · have TX := fun V hb => told_any _ nt (ob : Int) V (HT.out V hb) (HNX.out V hb) HX4.out
        have TA := fun V hb => told_any _ x (ob : Int) V (HT.out V hb) (HNA.out V hb) h4
        have TB := fun V hb => told_any _ y (ob : Int) V (HT.out V hb) (HNB.out V hb) h4'
        dsimp only [NV.val] at TX TA TB
        have hm := mrg_told HF.out.1 HF.out.2 hlt
        have hma := told_formed HF.out.1 hlt
        have hmb := told_formed HF.out.2 hlt
        have hqa := fun h => atQ_no (l := x.w) (o := (ob : Int)) h
        have hqb := fun h => atQ_no (l := y.w) (o := (ob : Int)) h
        rw [← HNT.out] at hm
        generalize tQ nt (ob : Int) = QX at TX hm
        generalize tB nt (ob : Int) = BX at TX hm
        generalize tE nt (ob : Int) = EX at TX hm
        generalize tQ x (ob : Int) = QA at TA hma
        generalize tB x (ob : Int) = BA at TA hma
        generalize tE x (ob : Int) = EA at TA hma
        generalize tQ y (ob : Int) = QB at TB hmb
        generalize tB y (ob : Int) = BB at TB hmb
        generalize tE y (ob : Int) = EB at TB hmb
        generalize atQ x.w (ob : Int) = P1 at hm hma hqa
        generalize atQ y.w (ob : Int) = P2 at hm hmb hqb
        generalize atB x.w (ob : Int) = ta at hm hma hqa
        generalize atB y.w (ob : Int) = tb at hm hmb hqb
        generalize hasO x.b (ob : Int) = ha at hm hma
        generalize hasO y.b (ob : Int) = hb' at hm hmb
        obtain ⟨⟨xc, xn⟩, xo, xg⟩ := QX
        obtain ⟨⟨ac, an⟩, ao, ag⟩ := QA
        obtain ⟨⟨bc, bn⟩, bo, bg⟩ := QB
        obtain ⟨rfl, hBA, hEA⟩ := hma
        obtain ⟨rfl, hBB, hEB⟩ := hmb
        have TX := Lib.hid TX
        have TA := Lib.hid TA
        have TB := Lib.hid TB
        have HM := Lib.hid hm
        have HMA := Lib.hid (And.intro hBA hEA)
        have HMB := Lib.hid (And.intro hBB hEB)
        have HQA := Lib.hid hqa
        have HQB := Lib.hid hqb
        clear hm hBA hEA hBB hEB hqa hqb
        obtain ⟨_, _, ⟨s0, s1, s2, s3⟩⟩ := HS.out wr hb
        go_wp2_with fail
        refine (TX.out _ hb).mono ?_
        rintro e w7 ⟨he, hb7⟩
        simp only [wcA] at he
        subst he
        clear s0 s1 s2 s3
        have k7 := below_then hb (Nat.le_refl _) hb7
        have hk7 := (Below.refl w7.heap.size w7).alloc (Nat.le_refl _) (.cells #[.int .i64 xc, .int .i64 xn, .int .i64 xo, .bool xg] 46)
        have k8 := below_then k7 (Nat.le_refl _) hk7
        have Y1 := Blk.new w7 46 #[.int .i64 xc, .int .i64 xn, .int .i64 xo, .bool xg]
        obtain ⟨⟨q0, q1, q2, q3⟩, _⟩ := HS.out _ k8
        have TA := TA.out _ k8
        obtain ⟨w8, hw8⟩ : ∃ w8, w8 = w7.alloc (.cells #[.int .i64 xc, .int .i64 xn, .int .i64 xo, .bool xg] 46) := ⟨_, rfl⟩
        rw [← hw8] at k8 Y1 TA
        have HW8 := Lib.hid hw8.symm
        have TA := Lib.hid TA
        clear hw8 hk7 hb7 k7 TX
        go_wp2_with fail
        rw [HW8.out]
        refine TA.out.mono ?_
        rintro e w9 ⟨he, hb9⟩
        simp only [wcA] at he
        subst he
        clear q0 q1 q2 q3
        have k9 := below_then k8 (Nat.le_refl _) hb9
        have hk9 := (Below.refl w9.heap.size w9).alloc (Nat.le_refl _) (.cells #[.int .i64 ac, .int .i64 an, .int .i64 ao, .bool ag] 46)
        have k10 := below_then k9 (Nat.le_refl _) hk9
        have Y1 := (Y1.go hb9).alloc (.cells #[.int .i64 ac, .int .i64 an, .int .i64 ao, .bool ag] 46)
        have Y2 := Blk.new w9 46 #[.int .i64 ac, .int .i64 an, .int .i64 ao, .bool ag]
        obtain ⟨_, ⟨q0, q1, q2, q3⟩, _⟩ := HS.out _ k10
        have TB := TB.out _ k10
        obtain ⟨w10, hw10⟩ : ∃ w10, w10 = w9.alloc (.cells #[.int .i64 ac, .int .i64 an, .int .i64 ao, .bool ag] 46) := ⟨_, rfl⟩
        rw [← hw10] at k10 Y1 Y2 TB
        have HW10 := Lib.hid hw10.symm
        have TB := Lib.hid TB
        clear hw10 hk9 hb9 k9 TA HW8
        go_wp2_with fail
        rw [HW10.out]
        refine TB.out.mono ?_
        rintro e w11 ⟨he, hb11⟩
        simp only [wcA] at he
        subst he
        clear q0 q1 q2 q3
        have k11 := below_then k10 (Nat.le_refl _) hb11
        have hk11 := (Below.refl w11.heap.size w11).alloc (Nat.le_refl _) (.cells #[.int .i64 bc, .int .i64 bn, .int .i64 bo, .bool bg] 46)
        have k12 := below_then k11 (Nat.le_refl _) hk11
        have Y1 := (Y1.go hb11).alloc (.cells #[.int .i64 bc, .int .i64 bn, .int .i64 bo, .bool bg] 46)
        have Y2 := (Y2.go hb11).alloc (.cells #[.int .i64 bc, .int .i64 bn, .int .i64 bo, .bool bg] 46)
        have Y3 := Blk.new w11 46 #[.int .i64 bc, .int .i64 bn, .int .i64 bo, .bool bg]
        obtain ⟨w12, hw12⟩ : ∃ w12, w12 = w11.alloc (.cells #[.int .i64 bc, .int .i64 bn, .int .i64 bo, .bool bg] 46) := ⟨_, rfl⟩
        rw [← hw12] at k12 Y1 Y2 Y3
        have HW12 := Lib.hid hw12.symm
        have HK12 := Lib.hid k12
        have HY1 := Lib.hid Y1
        have HY2 := Lib.hid Y2
        have HY3 := Lib.hid Y3
        clear hw12 hk11 hb11 k11 TB HW10 k10 k8 k12 Y1 Y2 Y3 hb
        go_upto_region 16 with fail
        rw [HW12.out]
        have hm := HM.out
        have hma := HMA.out
        have hmb := HMB.out
        have hqa := HQA.out
        have hqb := HQB.out
        clear HM HMA HMB HQA HQB HW12
        obtain ⟨m1', m2', m3', m4', m5'⟩ := hm
        obtain ⟨rfl, rfl⟩ := hma
        obtain ⟨rfl, rfl⟩ := hmb
        have END : ∀ V, Below w5.heap.size w5 V → (∃ ob' : Nat, ((ob : Int) + 1 = (ob' : Int)) ∧ ob' ≤ 256 ∧ Below w5.heap.size w5 V) := fun V h => ⟨ob + 1, by omega, by omega, h⟩
        clear END
        rcases ta with _ | _ <;> rcases tb with _ | _ <;> rcases ha with _ | _ <;> rcases hb' with _ | _
        · skip
          have za := hqa rfl
          simp only [w0_, Prod.mk.injEq] at za
          obtain ⟨⟨rfl, rfl⟩, rfl, rfl⟩ := za
          have zb := hqb rfl
          simp only [w0_, Prod.mk.injEq] at zb
          obtain ⟨⟨rfl, rfl⟩, rfl, rfl⟩ := zb
          have hm3 : ((xc, xn), xo, xg) = w0_ := by rw [m3', if_neg (by simp), if_neg (by simp)]; rfl
          simp only [w0_, Prod.mk.injEq] at hm3
          obtain ⟨⟨rfl, rfl⟩, rfl, rfl⟩ := hm3
          have em4 : BX = true := by rw [m4']; rfl
          have em5 : EX = 8 := by rw [m5']; rfl
          subst em4 em5
          clear hqa hqb m1' m2' m3' m4' m5'
          obtain ⟨y0, y1, y2, y3⟩ := HY1.out.four4
          obtain ⟨u0, u1, u2, u3⟩ := HY2.out.four4
          obtain ⟨v0, v1, v2, v3⟩ := HY3.out.four4
          go_wp2
          go_roundw
          case rel => exact ⟨ob + 1, by go_num, by omega, HK12.out⟩
          case measure => simp [intOf]; omega

        · skip
          have za := hqa rfl
          simp only [w0_, Prod.mk.injEq] at za
          obtain ⟨⟨rfl, rfl⟩, rfl, rfl⟩ := za
          have zb := hqb rfl
          simp only [w0_, Prod.mk.injEq] at zb
          obtain ⟨⟨rfl, rfl⟩, rfl, rfl⟩ := zb
          have hm3 : ((xc, xn), xo, xg) = w0_ := by rw [m3', if_pos (by simp)]
          simp only [w0_, Prod.mk.injEq] at hm3
          obtain ⟨⟨rfl, rfl⟩, rfl, rfl⟩ := hm3
          have em4 : BX = false := by rw [m4']; rfl
          have em5 : EX = 8 := by rw [m5']; rfl
          subst em4 em5
          clear hqa hqb m1' m2' m3' m4' m5'
          obtain ⟨y0, y1, y2, y3⟩ := HY1.out.four4
          obtain ⟨u0, u1, u2, u3⟩ := HY2.out.four4
          obtain ⟨v0, v1, v2, v3⟩ := HY3.out.four4
          go_wp2
          go_roundw
          case rel => exact ⟨ob + 1, by go_num, by omega, HK12.out⟩
          case measure => simp [intOf]; omega

        · skip
          have za := hqa rfl
          simp only [w0_, Prod.mk.injEq] at za
          obtain ⟨⟨rfl, rfl⟩, rfl, rfl⟩ := za
          have zb := hqb rfl
          simp only [w0_, Prod.mk.injEq] at zb
          obtain ⟨⟨rfl, rfl⟩, rfl, rfl⟩ := zb
          have hm3 : ((xc, xn), xo, xg) = w0_ := by rw [m3', if_pos (by simp)]
          simp only [w0_, Prod.mk.injEq] at hm3
          obtain ⟨⟨rfl, rfl⟩, rfl, rfl⟩ := hm3
          have em4 : BX = false := by rw [m4']; rfl
          have em5 : EX = 8 := by rw [m5']; rfl
          subst em4 em5
          clear hqa hqb m1' m2' m3' m4' m5'
          obtain ⟨y0, y1, y2, y3⟩ := HY1.out.four4
          obtain ⟨u0, u1, u2, u3⟩ := HY2.out.four4
          obtain ⟨v0, v1, v2, v3⟩ := HY3.out.four4
          go_wp2
          go_roundw
          case rel => exact ⟨ob + 1, by go_num, by omega, HK12.out⟩
          case measure => simp [intOf]; omega

        · skip
          have za := hqa rfl
          simp only [w0_, Prod.mk.injEq] at za
          obtain ⟨⟨rfl, rfl⟩, rfl, rfl⟩ := za
          have zb := hqb rfl
          simp only [w0_, Prod.mk.injEq] at zb
          obtain ⟨⟨rfl, rfl⟩, rfl, rfl⟩ := zb
          have hm3 : ((xc, xn), xo, xg) = w0_ := by rw [m3', if_pos (by simp)]
          simp only [w0_, Prod.mk.injEq] at hm3
          obtain ⟨⟨rfl, rfl⟩, rfl, rfl⟩ := hm3
          have em4 : BX = false := by rw [m4']; rfl
          have em5 : EX = 8 := by rw [m5']; rfl
          subst em4 em5
          clear hqa hqb m1' m2' m3' m4' m5'
          obtain ⟨y0, y1, y2, y3⟩ := HY1.out.four4
          obtain ⟨u0, u1, u2, u3⟩ := HY2.out.four4
          obtain ⟨v0, v1, v2, v3⟩ := HY3.out.four4
          go_wp2
          go_roundw
          case rel => exact ⟨ob + 1, by go_num, by omega, HK12.out⟩
          case measure => simp [intOf]; omega

        · skip
          have za := hqa rfl
          simp only [w0_, Prod.mk.injEq] at za
          obtain ⟨⟨rfl, rfl⟩, rfl, rfl⟩ := za
          have hm3 : ((xc, xn), xo, xg) = ((bc, bn), bo, bg) := by rw [m3', if_neg (by simp), if_neg (by simp)]
          simp only [Prod.mk.injEq] at hm3
          obtain ⟨⟨rfl, rfl⟩, rfl, rfl⟩ := hm3
          have em4 : BX = true := by rw [m4']; rfl
          have em5 : EX = 0 := by rw [m5']; rfl
          subst em4 em5
          clear hqa hqb m1' m2' m3' m4' m5'
          obtain ⟨y0, y1, y2, y3⟩ := HY1.out.four4
          obtain ⟨u0, u1, u2, u3⟩ := HY2.out.four4
          obtain ⟨v0, v1, v2, v3⟩ := HY3.out.four4
          go_wp2
          go_roundw
          case rel => exact ⟨ob + 1, by go_num, by omega, HK12.out⟩
          case measure => simp [intOf]; omega

        · exact absurd (m2' rfl) (by simp)
        · skip
          have za := hqa rfl
          simp only [w0_, Prod.mk.injEq] at za
          obtain ⟨⟨rfl, rfl⟩, rfl, rfl⟩ := za
          have hm3 : ((xc, xn), xo, xg) = w0_ := by rw [m3', if_pos (by simp)]
          simp only [w0_, Prod.mk.injEq] at hm3
          obtain ⟨⟨rfl, rfl⟩, rfl, rfl⟩ := hm3
          have em4 : BX = false := by rw [m4']; rfl
          have em5 : EX = 8 := by rw [m5']; rfl
          subst em4 em5
          clear hqa hqb m1' m2' m3' m4' m5'
          obtain ⟨y0, y1, y2, y3⟩ := HY1.out.four4
          obtain ⟨u0, u1, u2, u3⟩ := HY2.out.four4
          obtain ⟨v0, v1, v2, v3⟩ := HY3.out.four4
          go_wp2
          go_roundw
          case rel => exact ⟨ob + 1, by go_num, by omega, HK12.out⟩
          case measure => simp [intOf]; omega

        · exact absurd (m2' rfl) (by simp)
        · skip
          have zb := hqb rfl
          simp only [w0_, Prod.mk.injEq] at zb
          obtain ⟨⟨rfl, rfl⟩, rfl, rfl⟩ := zb
          have hm3 : ((xc, xn), xo, xg) = ((ac, an), ao, ag) := by rw [m3', if_neg (by simp), if_pos (by simp)]
          simp only [Prod.mk.injEq] at hm3
          obtain ⟨⟨rfl, rfl⟩, rfl, rfl⟩ := hm3
          have em4 : BX = true := by rw [m4']; rfl
          have em5 : EX = 0 := by rw [m5']; rfl
          subst em4 em5
          clear hqa hqb m1' m2' m3' m4' m5'
          obtain ⟨y0, y1, y2, y3⟩ := HY1.out.four4
          obtain ⟨u0, u1, u2, u3⟩ := HY2.out.four4
          obtain ⟨v0, v1, v2, v3⟩ := HY3.out.four4
          go_wp2
          go_roundw
          case rel => exact ⟨ob + 1, by go_num, by omega, HK12.out⟩
          case measure => simp [intOf]; omega

        · skip
          have zb := hqb rfl
          simp only [w0_, Prod.mk.injEq] at zb
          obtain ⟨⟨rfl, rfl⟩, rfl, rfl⟩ := zb
          have hm3 : ((xc, xn), xo, xg) = w0_ := by rw [m3', if_pos (by simp)]
          simp only [w0_, Prod.mk.injEq] at hm3
          obtain ⟨⟨rfl, rfl⟩, rfl, rfl⟩ := hm3
          have em4 : BX = false := by rw [m4']; rfl
          have em5 : EX = 8 := by rw [m5']; rfl
          subst em4 em5
          clear hqa hqb m1' m2' m3' m4' m5'
          obtain ⟨y0, y1, y2, y3⟩ := HY1.out.four4
          obtain ⟨u0, u1, u2, u3⟩ := HY2.out.four4
          obtain ⟨v0, v1, v2, v3⟩ := HY3.out.four4
          go_wp2
          go_roundw
          case rel => exact ⟨ob + 1, by go_num, by omega, HK12.out⟩
          case measure => simp [intOf]; omega

        · exact absurd (m1' rfl) (by simp)
        · exact absurd (m1' rfl) (by simp)
        · skip
          by_cases hst : stLt (ac, an) (bc, bn) = true
          · have hm3 : ((xc, xn), xo, xg) = ((bc, bn), bo, bg) := by rw [m3', if_neg (by simp), if_neg (by simp [hst])]
            simp only [Prod.mk.injEq] at hm3
            obtain ⟨⟨rfl, rfl⟩, rfl, rfl⟩ := hm3
            simp only [Bool.or_self, Bool.not_false, if_false, if_true, Bool.false_eq_true] at m4' m5'
            subst m4' m5'
            by_cases hc : ac < xc
            · have e1 : (xc == ac) = false := beq_eq_false_iff_ne.2 (by omega)
              have e2 : decide (ac > xc) = false := decide_eq_false (by omega)
              clear hst hc hqa hqb m1' m2' m3'
              obtain ⟨y0, y1, y2, y3⟩ := HY1.out.four4
              obtain ⟨u0, u1, u2, u3⟩ := HY2.out.four4
              obtain ⟨v0, v1, v2, v3⟩ := HY3.out.four4
              go_wp2
              go_roundw
              case rel => exact ⟨ob + 1, by go_num, by omega, HK12.out⟩
              case measure => simp [intOf]; omega
            · have hcc : ac = xc ∧ an < xn := by
                unfold stLt at hst
                simp only [Bool.or_eq_true, Bool.and_eq_true, decide_eq_true_eq] at hst
                omega
              obtain ⟨rfl, hn⟩ := hcc
              have e1 : (xn == an) = false := beq_eq_false_iff_ne.2 (by omega)
              clear hst hc hqa hqb m1' m2' m3' hn
              obtain ⟨y0, y1, y2, y3⟩ := HY1.out.four4
              obtain ⟨u0, u1, u2, u3⟩ := HY2.out.four4
              obtain ⟨v0, v1, v2, v3⟩ := HY3.out.four4
              go_wp2
              go_roundw
              case rel => exact ⟨ob + 1, by go_num, by omega, HK12.out⟩
              case measure => simp [intOf]; omega
          · have hm3 : ((xc, xn), xo, xg) = ((ac, an), ao, ag) := by rw [m3', if_neg (by simp), if_pos (by simp [hst])]
            simp only [Prod.mk.injEq] at hm3
            obtain ⟨⟨rfl, rfl⟩, rfl, rfl⟩ := hm3
            simp only [Bool.or_self, Bool.not_false, if_false, if_true, Bool.false_eq_true] at m4' m5'
            subst m4' m5'
            have hc : ¬ bc > xc := by
              intro h
              exact hst (by unfold stLt; simp; omega)
            have e2 : decide (bc > xc) = false := decide_eq_false hc
            clear hst hc hqa hqb m1' m2' m3'
            obtain ⟨y0, y1, y2, y3⟩ := HY1.out.four4
            obtain ⟨u0, u1, u2, u3⟩ := HY2.out.four4
            obtain ⟨v0, v1, v2, v3⟩ := HY3.out.four4
            go_wp2
            go_roundw
            case rel => exact ⟨ob + 1, by go_num, by omega, HK12.out⟩
            case measure => simp [intOf]; omega

        · exact absurd (m2' rfl) (by simp)
        · exact absurd (m1' rfl) (by simp)
        · exact absurd (m1' rfl) (by simp)
      · obtain rfl : ob = 256 := by omega
        go_wp2
        go_ret
        exact ⟨rfl, below_then HB5.out (Nat.le_refl _) hb⟩
end Go.Proofs.YtnibkniggiokkaaDoor
