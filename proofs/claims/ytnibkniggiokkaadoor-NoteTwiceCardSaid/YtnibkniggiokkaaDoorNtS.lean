/- Walk over the law NoteTwice (printed by wip/tools/genNtS.py). -/
import Derived.Test.YtnibkniggiokkaaDoorNtR
import Derived.Test.YtnibkniggiokkaaDoorSpK
namespace Go.Proofs.YtnibkniggiokkaaDoor.Sn
theorem setOf_meetN (a b : List Sp) (o : Nat) (h : o < 256) : setOf (meetL a b) o = (setOf a o && setOf b o) := setOf_of _ o h
end Go.Proofs.YtnibkniggiokkaaDoor.Sn
namespace Go.Proofs.YtnibkniggiokkaaDoor
open Go.RowKit
set_option maxRecDepth 100000

theorem hasO_inN (l : List Sn.Sp) (o : Nat) : hasO l (o : Int) = (decide (o < 256) && Sn.setOf l o) := by
  unfold hasO Sn.setOf
  rw [decide_eq_true (p := (0 : Int) ≤ (o : Int)) (by omega)]
  have : decide ((o : Int) ≤ 255) = decide (o < 256) := by rw [Bool.eq_iff_iff]; simp; omega
  rw [this]; simp
theorem hasO_negN (l : List Sn.Sp) (o : Int) (h : o < 0) : hasO l o = false := by
  unfold hasO
  rw [decide_eq_false (p := (0 : Int) ≤ o) (by omega)]; simp
theorem hasO_meet (a b : List Sn.Sp) (o : Int) : hasO (Sn.meetL a b) o = (hasO a o && hasO b o) := by
  rcases Int.lt_or_le o 0 with h | h
  · rw [hasO_negN _ _ h, hasO_negN _ _ h, hasO_negN _ _ h]; rfl
  · obtain ⟨k, rfl⟩ := Int.eq_ofNat_of_zero_le h
    rw [hasO_inN, hasO_inN, hasO_inN]
    by_cases hk : k < 256
    · rw [Sn.setOf_meetN _ _ k hk, decide_eq_true hk]; simp
    · rw [decide_eq_false hk]; simp
theorem nameW {B : Nat} {w W : World} (_ : Below B w W) : ∃ V, V = W := ⟨_, rfl⟩
theorem hasO_all (o : Int) (h0 : 0 ≤ o) (h1 : o ≤ 255) : hasO [((0 : Int), (255 : Int))] o = true := by
  unfold hasO Sn.inB
  simp [h0, h1]

set_option maxHeartbeats 4000000 in
theorem noteTwice_walk (v : NV) (x : Nt) (A : Option Addr) (n c : Nat) (s1 : List Sn.Sp) (B : Option Addr) (m d : Nat) (s2 : List Sn.Sp) (w : World) (hT : Tab w) (hN : NtRd w w.heap.size v x) (hl : s1.length = n) (hR : Rd w w.heap.size 2 A n c (sv s1)) (hl2 : s2.length = m) (hR2 : Rd w w.heap.size 2 B m d (sv s2)) :
    Calls Tryd.prog 4 #[.agg v.val, .slice A n c, .slice B m d] w fun e w' => e = .returned (.bool true) ∧ Below w.heap.size w w' := by
  obtain ⟨hzz, hi⟩ := zero_of_info notes_zero
  have HI := Lib.hid hi
  have h1max : 1 ≤ maxLen := by unfold maxLen; omega
  have hb0 : Below w.heap.size w (w.alloc (.cells v.val 26)) := (Below.refl _ _).alloc (Nat.le_refl _) _
  have hBx := Blk.new w 26 v.val
  obtain ⟨w0, hw0⟩ : ∃ w0, w0 = w.alloc (.cells v.val 26) := ⟨_, rfl⟩
  rw [← hw0] at hb0 hBx
  have hT0 := hT.below hb0
  have hN0 := hN.go hb0
  have hR0 := hR.go hb0
  have hS0 := hR2.go hb0
  have HW := Lib.hid hw0.symm
  clear hw0 hT hN hR hR2 hi
  go_enter Tryd.func4, Tryd.ntmps4
  go_wp2_with fail
  rw [HW.out]
  refine (aliveN_any w0 hT0).mono ?_
  rintro e w1 ⟨rfl, hb1⟩
  have hT1 := hT0.below hb1
  have hN1 := hN0.go hb1
  have hB1 := hBx.go hb1
  have hbw1 := below_then hb0 (Nat.le_refl _) hb1
  obtain ⟨q0, q1, q2, q3⟩ := hB1.note
  go_wp2_with fail
  refine (refNoteFormed_any v x w1 hN1).mono ?_
  rintro e w2 ⟨rfl, hb2⟩
  have hb12 := below_then hb1 (Nat.le_refl _) hb2
  have hT2 := hT1.below hb2
  have hN2 := hN1.go hb2
  have hR2 := hR0.go hb12
  have hS2 := hS0.go hb12
  have hB2 := hB1.go hb2
  have hbw2 := below_then hbw1 (Nat.le_refl _) hb2
  clear q0 q1 q2 q3 hT0 hN0 hR0 hS0 hBx hb0 hb1 hB1 hT1 hN1 hbw1 hb2 hb12 HW
  obtain ⟨q0, q1, q2, q3⟩ := hB2.note
  rcases hf : ntF x with _ | _
  · go_wp2
    go_ret
    exact ⟨rfl, hbw2⟩
  go_wp2_with fail
  refine (through_yes v x A n c s1 w2 hT2 hN2 hf hl hR2).mono ?_
  rintro e w3 ⟨v7, rfl, ho7, hb3⟩
  have hK3 := ho7.rd
  have hb4 : Below w3.heap.size w3 (w3.alloc (.cells v7.val 26)) := (Below.refl _ _).alloc (Nat.le_refl _) _
  have hC := Blk.new w3 26 v7.val
  clear q0 q1 q2 q3
  obtain ⟨q0, q1, q2, q3⟩ := hC.note
  obtain ⟨w4, hw4⟩ : ∃ w4, w4 = w3.alloc (.cells v7.val 26) := ⟨_, rfl⟩
  rw [← hw4] at hC hb4
  have hb34 := below_then hb3 (Nat.le_refl _) hb4
  have hT4 := hT2.below hb34
  have hN4 := hN2.go hb34
  have hR4 := hR2.go hb34
  have hS4 := hS2.go hb34
  have hK4 := hK3.go hb4
  have hB4 := hB2.go hb34
  have hbw4 := below_then hbw2 (Nat.le_refl _) hb34
  have HW := Lib.hid hw4.symm
  clear hT2 hN2 hR2 hS2 hb3 hb4 hb34 hK3 ho7 hB2 hbw2 hw4
  go_wp2_with fail
  rw [HW.out]
  refine (through_yes v7 (thru x s1) B m d s2 w4 hT4 hK4 (thru_fm s1 hf) hl2 hS4).mono ?_
  rintro e w5 ⟨v9, rfl, ho9, hb5⟩
  have hK5 := ho9.rd
  have hb6 : Below w5.heap.size w5 (w5.alloc (.cells v9.val 26)) := (Below.refl _ _).alloc (Nat.le_refl _) _
  have hE := Blk.new w5 26 v9.val
  obtain ⟨w6, hw6⟩ : ∃ w6, w6 = w5.alloc (.cells v9.val 26) := ⟨_, rfl⟩
  rw [← hw6] at hE hb6
  have hb56 := below_then hb5 (Nat.le_refl _) hb6
  have hT6 := hT4.below hb56
  have hN6 := hN4.go hb56
  have hR6 := hR4.go hb56
  have hS6 := hS4.go hb56
  have hK6 := hK5.go hb6
  have hB6 := hB4.go hb56
  have hbw6 := below_then hbw4 (Nat.le_refl _) hb56
  clear HW
  have HW := Lib.hid hw6.symm
  clear q0 q1 q2 q3 hT4 hN4 hR4 hS4 hb5 hb6 hb56 hK5 hK4 ho9 hB4 hbw4 hw6 hC
  have HS := Lib.hid fun W (hb : Below w6.heap.size w6 W) => (hB6.go hb).note
  have GM := Lib.hid fun W (hb : Below w6.heap.size w6 W) => refMeetS_any A n c s1 B m d s2 W hl (hR6.go hb) hl2 (hS6.go hb)
  have GT := Lib.hid fun (W : World) (hb : Below w6.heap.size w6 W) (A : Option Addr) (n c : Nat) (s : List Sn.Sp) (hl : s.length = n) (hR : Rd W W.heap.size 2 A n c (sv s)) => through_yes v x A n c s W (hT6.below hb) (hN6.go hb) hf hl hR
  have HNX := Lib.hid hN6
  have HK := Lib.hid hK6
  have HE := Lib.hid hE
  have HB := Lib.hid hbw6
  clear hT6 hN6 hR6 hS6 hK6 hE hB6 hbw6 hl hl2
  go_upto_region 7 with fail
  rw [HW.out]
  go_cut [11, 12] (fun v11 v12 wx => ∃ (g : Nat) (v' : NV), v11 = .pointer (some ⟨g, 0, none⟩) ∧ v12 = .int .i64 0 ∧ Hid (Below w6.heap.size w6 wx ∧ Blk wx g 26 v'.val ∧ NtRd wx wx.heap.size v' (thru x (Sn.meetL s1 s2))))
  case first =>
    have k : Below w6.heap.size w6 w6.drew := (Below.refl _ w6).drew
    refine region_nrm fun KK hKK => ?_
    refine wp_region_held_drew (S := (fun W => W.cell? ⟨w.heap.size, 0, none⟩ = some (.slice v.A1 v.n1 v.c1) ∧ W.cell? ⟨w.heap.size, 1, none⟩ = some (.slice v.A2 v.n2 v.c2) ∧ W.cell? ⟨w.heap.size, 2, none⟩ = some (.slice v.A3 v.n3 v.c3) ∧ W.cell? ⟨w.heap.size, 3, none⟩ = some (.slice v.A4 v.n4 v.c4))) (by kernel_rfl) (by first | exact HS.out _ k) (fun hHeld => ?_)
    refine wpAnyH_putD (i := 0) (d := 33) (v := ?_) rfl rfl (by kernel_rfl) (by kernel_rfl) (by kernel_rfl) (fun _ _ _ h => h) (Or.inl ⟨by kernel_rfl, ?_⟩) (by first | exact HS.out _ k) ?_
    rotate_left
    · (intro w hS; (try dsimp only at hS); go_simp <;> with_reducible rfl)
    try simp only [List.setIfInBounds_toArray, List.set_cons_zero, List.set_cons_succ]
    refine wpAnyH_putD (i := 1) (d := 34) (v := ?_) rfl rfl (by kernel_rfl) (by kernel_rfl) (by kernel_rfl) (fun _ _ _ h => h) (Or.inl ⟨by kernel_rfl, ?_⟩) (by first | exact HS.out _ k) ?_
    rotate_left
    · (intro w hS; (try dsimp only at hS); go_simp <;> with_reducible rfl)
    try simp only [List.setIfInBounds_toArray, List.set_cons_zero, List.set_cons_succ]
    refine wpAnyH_putD (i := 2) (d := 35) (v := ?_) rfl rfl (by kernel_rfl) (by kernel_rfl) (by kernel_rfl) (fun _ _ _ h => h) (Or.inl ⟨by kernel_rfl, ?_⟩) (by first | exact HS.out _ k) ?_
    rotate_left
    · (intro w hS; (try dsimp only at hS); go_simp <;> with_reducible rfl)
    try simp only [List.setIfInBounds_toArray, List.set_cons_zero, List.set_cons_succ]
    refine wpAnyH_ready (rs := [3, 8]) (by kernel_rfl) (by simp) ?_
    refine AllReadyH.cons rfl (fun K hK => ?_) (AllReadyH.cons rfl (fun K hK => ?_) AllReadyH.nil)
    · go_simp
      refine (GM.out _ k).mono ?_
      rintro e W1 ⟨F1, f1, rfl, ho, hb'⟩
      have RO := Lib.hid (Rd.of_own ho)
      try (have G := Lib.hid (G.out.go hb'))
      have k := below_then k (Nat.le_refl _) hb'
      clear ho hb'
      refine hK.out _ _ (by first | exact HS.out _ k) (fun hHeld => ?_)
      clear hK K
      refine wpAnyH_ready (rs := [4, 8]) (by kernel_rfl) (by simp) ?_
      refine AllReadyH.cons rfl (fun K hK => ?_) (AllReadyH.cons rfl (fun K hK => ?_) AllReadyH.nil)
      · go_simp
        refine (GT.out _ k _ _ _ _ rfl RO.out).mono ?_
        rintro e W2 ⟨v', rfl, ho, hb'⟩
        have NO := Lib.hid (ho.less k.size)
        try (have G := Lib.hid (G.out.go hb'))
        have k := below_then k (Nat.le_refl _) hb'
        clear ho hb' RO
        refine hK.out _ _ (by first | exact HS.out _ k) (fun hHeld => ?_)
        clear hK K
        refine wpAnyH_putD (i := 5) (d := 32) (v := ?_) rfl rfl (by kernel_rfl) (by kernel_rfl) (by kernel_rfl) (fun _ _ _ h => h) (Or.inl ⟨by kernel_rfl, ?_⟩) (by first | exact HS.out _ k) ?_
        rotate_left
        · (intro w hS; (try dsimp only at hS); go_simp <;> with_reducible rfl)
        try simp only [List.setIfInBounds_toArray, List.set_cons_zero, List.set_cons_succ]
        refine wpAnyH_putD (i := 6) (d := 38) (v := ?_) rfl rfl (by kernel_rfl) (by kernel_rfl) (by kernel_rfl) (fun _ _ _ h => h) (Or.inl ⟨by kernel_rfl, ?_⟩) (by first | exact HS.out _ k) ?_
        rotate_left
        · (intro w hS; (try dsimp only at hS); go_simp <;> with_reducible rfl)
        try simp only [List.setIfInBounds_toArray, List.set_cons_zero, List.set_cons_succ]
        refine wpAnyH_putD (i := 7) (d := 39) (v := ?_) rfl rfl (by kernel_rfl) (by kernel_rfl) (by kernel_rfl) (fun _ _ _ h => h) (Or.inl ⟨by kernel_rfl, ?_⟩) (by first | exact HS.out _ k) ?_
        rotate_left
        · (intro w hS; (try dsimp only at hS); go_simp <;> with_reducible rfl)
        try simp only [List.setIfInBounds_toArray, List.set_cons_zero, List.set_cons_succ]
        refine wpAnyH_ready (rs := [8]) (by kernel_rfl) (by simp) ?_
        refine AllReadyH.cons rfl (fun K hK => ?_) AllReadyH.nil
        go_simp
        have hb' := then_alloc k (.cells #[.slice none 0 0, .slice none 0 0, .slice none 0 0, .slice none 0 0] 26)
        have G := Lib.hid (blkOfN hb')
        have hge := Lib.hid k.size
        try (have RO := Lib.hid (RO.out.go hb'))
        try (have NO := Lib.hid (NO.out.below hb'))
        have k := below_then k (Nat.le_refl _) hb'
        clear hb'
        refine hK.out _ _ (by first | exact HS.out _ k) (fun hHeld => ?_)
        clear hK K
        refine wpAnyH_ready (rs := [9]) (by kernel_rfl) (by simp) ?_
        refine AllReadyH.cons rfl (fun K hK => ?_) AllReadyH.nil
        rw [if_pos (by kernel_rfl)]
        refine wp_store_blk 26 (.tmp 11) (.tmp 38) rfl _ 26 _ v'.val rfl rfl G.out HI.out rfl (by simp [NV.val, Value.oneCell']) ?_
        intro W hblk hg
        have NO := Lib.hid (NO.out.blk G.out (by decide) (by decide) (by decide) hg)
        have k := k.trans (grown_below hg k.size (fun j hj => by cases hj; exact hge.out))
        clear hg G
        refine hK.out _ _ (by first | exact HS.out _ k) (fun hHeld => ?_)
        clear hK K
        refine wpAnyH_putD (i := 10) (d := 12) (v := ?_) rfl rfl (by kernel_rfl) (by kernel_rfl) (by kernel_rfl) (fun _ _ _ h => h) (Or.inl ⟨by kernel_rfl, ?_⟩) (by first | exact HS.out _ k) ?_
        rotate_left
        · (intro w hS; (try dsimp only at hS); go_simp <;> with_reducible rfl)
        try simp only [List.setIfInBounds_toArray, List.set_cons_zero, List.set_cons_succ]
        refine wpAnyH_done (by kernel_rfl) ?_ _
        refine Nrm.out (hKK _ _ ?_)
        go_wp2_with fail
        go_meet
        exact ⟨_, v', rfl, rfl, k, hblk, NO.out.rd⟩
      · go_simp
        have hb' := then_alloc k (.cells #[.slice none 0 0, .slice none 0 0, .slice none 0 0, .slice none 0 0] 26)
        have G := Lib.hid (blkOfN hb')
        have hge := Lib.hid k.size
        try (have RO := Lib.hid (RO.out.go hb'))
        try (have NO := Lib.hid (NO.out.below hb'))
        have k := below_then k (Nat.le_refl _) hb'
        clear hb'
        refine hK.out _ _ (by first | exact HS.out _ k) (fun hHeld => ?_)
        clear hK K
        refine wpAnyH_ready (rs := [4]) (by kernel_rfl) (by simp) ?_
        refine AllReadyH.cons rfl (fun K hK => ?_) AllReadyH.nil
        go_simp
        refine (GT.out _ k _ _ _ _ rfl RO.out).mono ?_
        rintro e W2 ⟨v', rfl, ho, hb'⟩
        have NO := Lib.hid (ho.less k.size)
        try (have G := Lib.hid (G.out.go hb'))
        have k := below_then k (Nat.le_refl _) hb'
        clear ho hb' RO
        refine hK.out _ _ (by first | exact HS.out _ k) (fun hHeld => ?_)
        clear hK K
        refine wpAnyH_putD (i := 5) (d := 32) (v := ?_) rfl rfl (by kernel_rfl) (by kernel_rfl) (by kernel_rfl) (fun _ _ _ h => h) (Or.inl ⟨by kernel_rfl, ?_⟩) (by first | exact HS.out _ k) ?_
        rotate_left
        · (intro w hS; (try dsimp only at hS); go_simp <;> with_reducible rfl)
        try simp only [List.setIfInBounds_toArray, List.set_cons_zero, List.set_cons_succ]
        refine wpAnyH_putD (i := 6) (d := 38) (v := ?_) rfl rfl (by kernel_rfl) (by kernel_rfl) (by kernel_rfl) (fun _ _ _ h => h) (Or.inl ⟨by kernel_rfl, ?_⟩) (by first | exact HS.out _ k) ?_
        rotate_left
        · (intro w hS; (try dsimp only at hS); go_simp <;> with_reducible rfl)
        try simp only [List.setIfInBounds_toArray, List.set_cons_zero, List.set_cons_succ]
        refine wpAnyH_putD (i := 7) (d := 39) (v := ?_) rfl rfl (by kernel_rfl) (by kernel_rfl) (by kernel_rfl) (fun _ _ _ h => h) (Or.inl ⟨by kernel_rfl, ?_⟩) (by first | exact HS.out _ k) ?_
        rotate_left
        · (intro w hS; (try dsimp only at hS); go_simp <;> with_reducible rfl)
        try simp only [List.setIfInBounds_toArray, List.set_cons_zero, List.set_cons_succ]
        refine wpAnyH_ready (rs := [9]) (by kernel_rfl) (by simp) ?_
        refine AllReadyH.cons rfl (fun K hK => ?_) AllReadyH.nil
        rw [if_pos (by kernel_rfl)]
        refine wp_store_blk 26 (.tmp 11) (.tmp 38) rfl _ 26 _ v'.val rfl rfl G.out HI.out rfl (by simp [NV.val, Value.oneCell']) ?_
        intro W hblk hg
        have NO := Lib.hid (NO.out.blk G.out (by decide) (by decide) (by decide) hg)
        have k := k.trans (grown_below hg k.size (fun j hj => by cases hj; exact hge.out))
        clear hg G
        refine hK.out _ _ (by first | exact HS.out _ k) (fun hHeld => ?_)
        clear hK K
        refine wpAnyH_putD (i := 10) (d := 12) (v := ?_) rfl rfl (by kernel_rfl) (by kernel_rfl) (by kernel_rfl) (fun _ _ _ h => h) (Or.inl ⟨by kernel_rfl, ?_⟩) (by first | exact HS.out _ k) ?_
        rotate_left
        · (intro w hS; (try dsimp only at hS); go_simp <;> with_reducible rfl)
        try simp only [List.setIfInBounds_toArray, List.set_cons_zero, List.set_cons_succ]
        refine wpAnyH_done (by kernel_rfl) ?_ _
        refine Nrm.out (hKK _ _ ?_)
        go_wp2_with fail
        go_meet
        exact ⟨_, v', rfl, rfl, k, hblk, NO.out.rd⟩
    · go_simp
      have hb' := then_alloc k (.cells #[.slice none 0 0, .slice none 0 0, .slice none 0 0, .slice none 0 0] 26)
      have G := Lib.hid (blkOfN hb')
      have hge := Lib.hid k.size
      try (have RO := Lib.hid (RO.out.go hb'))
      try (have NO := Lib.hid (NO.out.below hb'))
      have k := below_then k (Nat.le_refl _) hb'
      clear hb'
      refine hK.out _ _ (by first | exact HS.out _ k) (fun hHeld => ?_)
      clear hK K
      refine wpAnyH_ready (rs := [3]) (by kernel_rfl) (by simp) ?_
      refine AllReadyH.cons rfl (fun K hK => ?_) AllReadyH.nil
      go_simp
      refine (GM.out _ k).mono ?_
      rintro e W1 ⟨F1, f1, rfl, ho, hb'⟩
      have RO := Lib.hid (Rd.of_own ho)
      try (have G := Lib.hid (G.out.go hb'))
      have k := below_then k (Nat.le_refl _) hb'
      clear ho hb'
      refine hK.out _ _ (by first | exact HS.out _ k) (fun hHeld => ?_)
      clear hK K
      refine wpAnyH_ready (rs := [4]) (by kernel_rfl) (by simp) ?_
      refine AllReadyH.cons rfl (fun K hK => ?_) AllReadyH.nil
      go_simp
      refine (GT.out _ k _ _ _ _ rfl RO.out).mono ?_
      rintro e W2 ⟨v', rfl, ho, hb'⟩
      have NO := Lib.hid (ho.less k.size)
      try (have G := Lib.hid (G.out.go hb'))
      have k := below_then k (Nat.le_refl _) hb'
      clear ho hb' RO
      refine hK.out _ _ (by first | exact HS.out _ k) (fun hHeld => ?_)
      clear hK K
      refine wpAnyH_putD (i := 5) (d := 32) (v := ?_) rfl rfl (by kernel_rfl) (by kernel_rfl) (by kernel_rfl) (fun _ _ _ h => h) (Or.inl ⟨by kernel_rfl, ?_⟩) (by first | exact HS.out _ k) ?_
      rotate_left
      · (intro w hS; (try dsimp only at hS); go_simp <;> with_reducible rfl)
      try simp only [List.setIfInBounds_toArray, List.set_cons_zero, List.set_cons_succ]
      refine wpAnyH_putD (i := 6) (d := 38) (v := ?_) rfl rfl (by kernel_rfl) (by kernel_rfl) (by kernel_rfl) (fun _ _ _ h => h) (Or.inl ⟨by kernel_rfl, ?_⟩) (by first | exact HS.out _ k) ?_
      rotate_left
      · (intro w hS; (try dsimp only at hS); go_simp <;> with_reducible rfl)
      try simp only [List.setIfInBounds_toArray, List.set_cons_zero, List.set_cons_succ]
      refine wpAnyH_putD (i := 7) (d := 39) (v := ?_) rfl rfl (by kernel_rfl) (by kernel_rfl) (by kernel_rfl) (fun _ _ _ h => h) (Or.inl ⟨by kernel_rfl, ?_⟩) (by first | exact HS.out _ k) ?_
      rotate_left
      · (intro w hS; (try dsimp only at hS); go_simp <;> with_reducible rfl)
      try simp only [List.setIfInBounds_toArray, List.set_cons_zero, List.set_cons_succ]
      refine wpAnyH_ready (rs := [9]) (by kernel_rfl) (by simp) ?_
      refine AllReadyH.cons rfl (fun K hK => ?_) AllReadyH.nil
      rw [if_pos (by kernel_rfl)]
      refine wp_store_blk 26 (.tmp 11) (.tmp 38) rfl _ 26 _ v'.val rfl rfl G.out HI.out rfl (by simp [NV.val, Value.oneCell']) ?_
      intro W hblk hg
      have NO := Lib.hid (NO.out.blk G.out (by decide) (by decide) (by decide) hg)
      have k := k.trans (grown_below hg k.size (fun j hj => by cases hj; exact hge.out))
      clear hg G
      refine hK.out _ _ (by first | exact HS.out _ k) (fun hHeld => ?_)
      clear hK K
      refine wpAnyH_putD (i := 10) (d := 12) (v := ?_) rfl rfl (by kernel_rfl) (by kernel_rfl) (by kernel_rfl) (fun _ _ _ h => h) (Or.inl ⟨by kernel_rfl, ?_⟩) (by first | exact HS.out _ k) ?_
      rotate_left
      · (intro w hS; (try dsimp only at hS); go_simp <;> with_reducible rfl)
      try simp only [List.setIfInBounds_toArray, List.set_cons_zero, List.set_cons_succ]
      refine wpAnyH_done (by kernel_rfl) ?_ _
      refine Nrm.out (hKK _ _ ?_)
      go_wp2_with fail
      go_meet
      exact ⟨_, v', rfl, rfl, k, hblk, NO.out.rd⟩
  case rest =>
    obtain ⟨g, v', rfl, rfl, hh⟩ := hcut
    obtain ⟨hb7, hG7, hM7⟩ := hh.out
    obtain ⟨wx, hwx⟩ := nameW hb7
    subst hwx
    obtain ⟨q0, q1, q2, q3⟩ := HS.out _ hb7
    have hb8 : Below wx.heap.size wx (wx.alloc (.cells #[.int .i64 0, .int .i64 255] 37)) := (Below.refl _ _).alloc (Nat.le_refl _) _
    have hb78 := below_then hb7 (Nat.le_refl _) hb8
    have hRA := Rd.new wx 37 2 1 #[.int .i64 0, .int .i64 255] rfl h1max
    rw [← World.size_alloc wx (.cells #[.int .i64 0, .int .i64 255] 37)] at hRA
    have H8 := GT.out _ hb78 _ 1 1 [((0 : Int), (255 : Int))] rfl hRA
    rw [thru_all hf _ hasO_all] at H8
    have H8 := Lib.hid H8
    have hG8 := hG7.go hb8
    have hM8 := hM7.go hb8
    clear hG7 hM7 hRA hh
    go_wp2_with fail
    refine H8.out.mono ?_
    rintro e w9 ⟨v13, rfl, ho13, hb9⟩
    have hK9 := ho13.rd
    have hb10 : Below w9.heap.size w9 (w9.alloc (.cells v13.val 26)) := (Below.refl _ _).alloc (Nat.le_refl _) _
    have hF := Blk.new w9 26 v13.val
    obtain ⟨wa, hwa⟩ : ∃ wa, wa = w9.alloc (.cells v13.val 26) := ⟨_, rfl⟩
    clear q0 q1 q2 q3
    obtain ⟨q0, q1, q2, q3⟩ := ((HE.out.go hb78).go hb9 |>.alloc (.cells v13.val 26)).note
    obtain ⟨p0, p1, p2, p3⟩ := ((hG8.go hb9).alloc (.cells v13.val 26)).note
    rw [← hwa] at hF hb10
    have hb9a := below_then hb9 (Nat.le_refl _) hb10
    have hb6a := below_then hb78 (Nat.le_refl _) hb9a
    have H1 := refNtSame_any v9 v' _ _ wa (HK.out.go hb6a) (hM8.go hb9a)
    rw [thru_twice x s1 s2 (Sn.meetL s1 s2) (hasO_meet s1 s2), ntSame_self] at H1
    have H1 := Lib.hid H1
    have H2 := fun (W : World) (hb : Below wa.heap.size wa W) => refNtSame_any v13 v x x W ((hK9.go hb10).go hb) ((HNX.out.go hb6a).go hb)
    rw [ntSame_self] at H2
    have H2 := Lib.hid H2
    have HWA := Lib.hid hwa.symm
    clear hwa hK9 hM8 hG8 hb10 hb9a
    go_wp2_with fail
    rw [HWA.out]
    refine H1.out.mono ?_
    rintro e wb ⟨rfl, hbb⟩
    have hb6b := below_then hb6a (Nat.le_refl _) hbb
    clear q0 q1 q2 q3 p0 p1 p2 p3
    obtain ⟨q0, q1, q2, q3⟩ := HS.out _ hb6b
    obtain ⟨p0, p1, p2, p3⟩ := (hF.go hbb).note
    go_wp2_with fail
    refine (H2.out wb hbb).mono ?_
    rintro e wc ⟨rfl, hbc⟩
    go_wp2
    go_ret
    exact ⟨rfl, below_then HB.out (Nat.le_refl _) (below_then hb6b (Nat.le_refl _) hbc)⟩
end Go.Proofs.YtnibkniggiokkaaDoor
