/- Walks over the laws LogAppends, LogCuts (printed by wip/tools/genLgL2.py). -/
import Derived.Test.YtldcgmnfohhjbaaDoorLgL
import Derived.Deep.DeepCutAuto
namespace Go.Proofs.YtldcgmnfohhjbaaDoor
open Go.RowKit
set_option maxRecDepth 100000

theorem own_new {w : World} {base : Nat} {e : TypeId} {size n : Nat} {v : Value} {xs : List Value} (h : w.ownsRow base e size v n xs) : v.ownBlock = none ∨ v.ownBlock ≠ some w.heap.size :=
  .inr fun e' => by have := (h.lt _ e').2; omega
theorem blk_two {w : World} {g g' : Nat} {t t' : TypeId} {cs cs' : Array Value} (h : Blk w g t cs) (h' : Blk w g' t' cs') (hne : t ≠ t') : g ≠ g' := by
  rintro rfl
  unfold Blk at h h'
  rw [h] at h'
  injection h' with h'
  injection h' with _ ht
  exact hne ht
theorem LgOwn.blk {w w' : World} {base g : Nat} {cs : Array Value} {v : LV} {b : List Vc.St} {L : List (NV × Nt)} (h : LgOwn w base v b L) (hB : Blk w g 47 cs) (hg : w.grownBy w' (some g)) : LgOwn w' base v b L :=
  ⟨h.l1, h.o1.kept hg (own_blk h.o1 hB (by decide)), h.len, h.o2.kept hg (own_blk h.o2 hB (by decide)), fun p hp => (h.each p hp).blk hB (by decide) (by decide) (by decide) hg⟩
theorem LgOwn.blkN {w w' : World} {base g : Nat} {cs : Array Value} {v : LV} {b : List Vc.St} {L : List (NV × Nt)} (h : LgOwn w base v b L) (hB : Blk w g 32 cs) (hne : (Value.slice v.D v.m v.d).ownBlock = none ∨ (Value.slice v.D v.m v.d).ownBlock ≠ some g) (hg : w.grownBy w' (some g)) : LgOwn w' base v b L :=
  ⟨h.l1, h.o1.kept hg (own_blk h.o1 hB (by decide)), h.len, h.o2.kept hg hne, fun p hp => (h.each p hp).blk hB (by decide) (by decide) (by decide) hg⟩

set_option maxHeartbeats 16000000 in
theorem logAppends_walk (v : LV) (b : List Vc.St) (L : List (NV × Nt)) (su : Int) (v2 : NV) (x : Nt) (w : World) (hT : Tab w) (h : LgRd w v b L) (hsz : LgSz v L) (hN : NtRd w w.heap.size v2 x) (hs : NtSz v2) :
    Calls Tryd.prog 7 #[.agg (v.val su), .agg v2.val] w fun e w' => e = .returned (.bool true) ∧ Below w.heap.size w w' := by
  obtain ⟨hzz, hi⟩ := zero_of_info log_zero
  have HI := Lib.hid hi
  obtain ⟨hzn, hin⟩ := zero_of_info notes_zero
  have HIN := Lib.hid hin
  have hb1 : Below w.heap.size w (w.alloc (.cells (v.val su) 47)) := (Below.refl _ _).alloc (Nat.le_refl _) _
  have hb0 : Below w.heap.size w ((w.alloc (.cells (v.val su) 47)).alloc (.cells v2.val 32)) := hb1.alloc hb1.size _
  have hBx := (Blk.new w 47 (v.val su)).alloc (.cells v2.val 32)
  have hBn := Blk.new (w.alloc (.cells (v.val su) 47)) 32 v2.val
  rw [World.size_alloc] at hBn
  obtain ⟨w0, hw0⟩ : ∃ w0, w0 = (w.alloc (.cells (v.val su) 47)).alloc (.cells v2.val 32) := ⟨_, rfl⟩
  rw [← hw0] at hb0 hBx hBn
  have h0 := h.go hb0
  have N0 := hN.go hb0
  have T0 := hT.below hb0
  have HW := Lib.hid hw0.symm
  clear hw0 hT h hN hb1 hi hin
  go_enter Tryd.func7, Tryd.ntmps7
  go_wp2_with fail
  rw [HW.out]
  refine (aliveL_any w0 T0).mono ?_
  rintro e w1 ⟨rfl, hb1⟩
  have h1 := h0.go hb1
  have N1 := N0.go hb1
  have T1 := T0.below hb1
  have B1 := hBx.go hb1
  have C1 := hBn.go hb1
  have k1 := below_then hb0 (Nat.le_refl _) hb1
  have HH := Lib.hid h1
  have HN := Lib.hid N1
  have HT := Lib.hid T1
  have K1 := Lib.hid k1
  have HQ := Lib.hid fun V (hb : Below w1.heap.size w1 V) => (show (V.cell? ⟨w.heap.size, 0, none⟩ = some (.slice v.A v.n v.c) ∧ V.cell? ⟨w.heap.size, 1, none⟩ = some (.slice v.D v.m v.d) ∧ V.cell? ⟨w.heap.size, 2, none⟩ = some (.int .i64 su)) ∧ (V.cell? ⟨w.heap.size + 1, 0, none⟩ = some (.slice v2.A1 v2.n1 v2.c1) ∧ V.cell? ⟨w.heap.size + 1, 1, none⟩ = some (.slice v2.A2 v2.n2 v2.c2) ∧ V.cell? ⟨w.heap.size + 1, 2, none⟩ = some (.slice v2.A3 v2.n3 v2.c3) ∧ V.cell? ⟨w.heap.size + 1, 3, none⟩ = some (.slice v2.A4 v2.n4 v2.c4)) from
    ⟨⟨(B1.go hb).cell 0, (B1.go hb).cell 1, (B1.go hb).cell 2⟩, ⟨(C1.go hb).cell 0, (C1.go hb).cell 1, (C1.go hb).cell 2, (C1.go hb).cell 3⟩⟩)
  have HSZ := Lib.hid hsz
  have HS := Lib.hid hs
  have F1 := Lib.hid fun V (hb : Below w1.heap.size w1 V) => refLgCopy_own v b L su V (h1.go hb) hsz
  have F2 := Lib.hid fun V (hb : Below w1.heap.size w1 V) => refNtCopy_own v2 x V (N1.go hb) hs
  clear h0 N0 T0 hBx hBn hb0 HW hb1 h1 N1 T1 B1 C1 k1 hsz hs
  go_upto_region 3 with fail
  go_cut [5, 6] (fun v5 v6 wx => ∃ (g5 g6 : Nat) (v' : LV) (L' : List (NV × Nt)) (v2' : NV), v5 = .pointer (some ⟨g5, 0, none⟩) ∧ v6 = .pointer (some ⟨g6, 0, none⟩) ∧ Hid (Below w1.heap.size w1 wx ∧ Blk wx g5 47 (v'.val su) ∧ Blk wx g6 32 v2'.val ∧ LgRd wx v' b L' ∧ nts L' = nts L ∧ NtRd wx wx.heap.size v2' x))
  case first =>
    have k : Below w1.heap.size w1 w1.drew := (Below.refl _ w1).drew
    refine region_nrm fun KK hKK => ?_
    refine wp_region_held_drew (S := (fun V => (V.cell? ⟨w.heap.size, 0, none⟩ = some (.slice v.A v.n v.c) ∧ V.cell? ⟨w.heap.size, 1, none⟩ = some (.slice v.D v.m v.d) ∧ V.cell? ⟨w.heap.size, 2, none⟩ = some (.int .i64 su)) ∧ (V.cell? ⟨w.heap.size + 1, 0, none⟩ = some (.slice v2.A1 v2.n1 v2.c1) ∧ V.cell? ⟨w.heap.size + 1, 1, none⟩ = some (.slice v2.A2 v2.n2 v2.c2) ∧ V.cell? ⟨w.heap.size + 1, 2, none⟩ = some (.slice v2.A3 v2.n3 v2.c3) ∧ V.cell? ⟨w.heap.size + 1, 3, none⟩ = some (.slice v2.A4 v2.n4 v2.c4)))) (by kernel_rfl) (by first | exact HQ.out _ k) (fun hHeld => ?_)
    refine wpAnyH_putD (i := 0) (d := 13) (v := ?_) rfl rfl (by kernel_rfl) (by kernel_rfl) (by kernel_rfl) (fun _ _ _ h => h) (Or.inl ⟨by kernel_rfl, ?_⟩) (by first | exact HQ.out _ k) ?_
    rotate_left
    · (intro w hS; (try dsimp only at hS); go_simp <;> with_reducible rfl)
    try simp only [List.setIfInBounds_toArray, List.set_cons_zero, List.set_cons_succ]
    refine wpAnyH_putD (i := 2) (d := 15) (v := ?_) rfl rfl (by kernel_rfl) (by kernel_rfl) (by kernel_rfl) (fun _ _ _ h => h) (Or.inl ⟨by kernel_rfl, ?_⟩) (by first | exact HQ.out _ k) ?_
    rotate_left
    · (intro w hS; (try dsimp only at hS); go_simp <;> with_reducible rfl)
    try simp only [List.setIfInBounds_toArray, List.set_cons_zero, List.set_cons_succ]
    refine wpAnyH_ready (rs := [1, 4, 5]) (by kernel_rfl) (by simp) ?_
    refine AllReadyH.cons rfl (fun K hK => ?_) (AllReadyH.cons rfl (fun K hK => ?_) (AllReadyH.cons rfl (fun K hK => ?_) AllReadyH.nil))
    · go_simp
      refine (F1.out _ k).mono ?_
      rintro e Wa ⟨⟨E, e1, e2, D, d1, d2⟩, L', rfl, hO, hnL, hb'⟩
      try (have NE := Lib.hid (own_ne hO.o2 G6.out.lt))
      have CL := Lib.hid (hO.less k.size)
      have HNL := Lib.hid hnL
      try (have CN := Lib.hid (CN.out.below hb'))
      try (have G5 := Lib.hid (G5.out.go hb'))
      try (have G6 := Lib.hid (G6.out.go hb'))
      have k := below_then k (Nat.le_refl _) hb'
      clear hb' hO hnL
      refine hK.out _ _ (by first | exact HQ.out _ k) (fun hHeld => ?_)
      clear hK K
      refine wpAnyH_ready (rs := [3, 4, 5]) (by kernel_rfl) (by simp) ?_
      refine AllReadyH.cons rfl (fun K hK => ?_) (AllReadyH.cons rfl (fun K hK => ?_) (AllReadyH.cons rfl (fun K hK => ?_) AllReadyH.nil))
      · go_simp
        refine (F2.out _ k).mono ?_
        rintro e Wb ⟨⟨P1, p1, q1, P2, p2, q2, P3, p3, q3, P4, p4, q4⟩, rfl, hO, hb'⟩
        have CN := Lib.hid (hO.less k.size)
        try (have CL := Lib.hid (CL.out.below hb'))
        try (have G5 := Lib.hid (G5.out.go hb'))
        try (have G6 := Lib.hid (G6.out.go hb'))
        have k := below_then k (Nat.le_refl _) hb'
        clear hb' hO
        refine hK.out _ _ (by first | exact HQ.out _ k) (fun hHeld => ?_)
        clear hK K
        refine wpAnyH_ready (rs := [4, 5]) (by kernel_rfl) (by simp) ?_
        refine AllReadyH.cons rfl (fun K hK => ?_) (AllReadyH.cons rfl (fun K hK => ?_) AllReadyH.nil)
        · go_simp
          have hb' := then_alloc k (.cells #[.slice none 0 0, .slice none 0 0, .int .i64 0] 47)
          have g := blkOf hb'
          try rw [World.size_alloc] at g
          have G5 := Lib.hid g
          have g := k.size
          try rw [World.size_alloc] at g
          have hg5 := Lib.hid g
          clear g
          try (have CL := Lib.hid (CL.out.below hb'))
          try (have CN := Lib.hid (CN.out.below hb'))
          try (have G6 := Lib.hid (G6.out.go hb'))
          have k := below_then k (Nat.le_refl _) hb'
          clear hb'
          refine hK.out _ _ (by first | exact HQ.out _ k) (fun hHeld => ?_)
          clear hK K
          refine wpAnyH_ready (rs := [5]) (by kernel_rfl) (by simp) ?_
          refine AllReadyH.cons rfl (fun K hK => ?_) AllReadyH.nil
          go_simp
          have hb' := then_alloc k (.cells #[.slice none 0 0, .slice none 0 0, .slice none 0 0, .slice none 0 0] 32)
          try (have g := own_new CL.out.o2; (try rw [World.size_alloc] at g); have NE := Lib.hid g; clear g)
          have g := blkOf hb'
          try rw [World.size_alloc] at g
          have G6 := Lib.hid g
          have g := k.size
          try rw [World.size_alloc] at g
          have hg6 := Lib.hid g
          clear g
          try (have CL := Lib.hid (CL.out.below hb'))
          try (have CN := Lib.hid (CN.out.below hb'))
          try (have G5 := Lib.hid (G5.out.go hb'))
          have k := below_then k (Nat.le_refl _) hb'
          clear hb'
          refine hK.out _ _ (by first | exact HQ.out _ k) (fun hHeld => ?_)
          clear hK K
          refine wpAnyH_ready (rs := [6]) (by kernel_rfl) (by simp) ?_
          refine AllReadyH.cons rfl (fun K hK => ?_) AllReadyH.nil
          rw [if_pos (by kernel_rfl)]
          refine wp_store_blk 47 (.tmp 5) (.tmp 14) rfl _ 47 _ #[.slice E e1 e2, .slice D d1 d2, .int .i64 su] rfl rfl G5.out HI.out rfl (by simp [Value.oneCell']) ?_
          intro Wc hblk hg
          have CL := Lib.hid (CL.out.blk G5.out hg)
          try (have CN := Lib.hid (CN.out.blk G5.out (by decide) (by decide) (by decide) hg))
          try (have G6 := Lib.hid (G6.out.grown hg (fun e => blk_two G6.out G5.out (by decide) (Option.some.inj e))))
          have k := k.trans (grown_below hg k.size (fun j hj => by cases hj; exact hg5.out))
          have G5 := Lib.hid hblk
          clear hg hblk
          refine hK.out _ _ (by first | exact HQ.out _ k) (fun hHeld => ?_)
          clear hK K
          refine wpAnyH_ready (rs := [7]) (by kernel_rfl) (by simp) ?_
          refine AllReadyH.cons rfl (fun K hK => ?_) AllReadyH.nil
          rw [if_pos (by kernel_rfl)]
          refine wp_store_blk 32 (.tmp 6) (.tmp 16) rfl _ 32 _ #[.slice P1 p1 q1, .slice P2 p2 q2, .slice P3 p3 q3, .slice P4 p4 q4] rfl rfl G6.out HIN.out rfl (by simp [Value.oneCell']) ?_
          intro Wd hblk hg
          have CN := Lib.hid (CN.out.blk G6.out (by decide) (by decide) (by decide) hg)
          try (have CL := Lib.hid (CL.out.blkN G6.out NE.out hg))
          try (have G5 := Lib.hid (G5.out.grown hg (fun e => blk_two G5.out G6.out (by decide) (Option.some.inj e))))
          have k := k.trans (grown_below hg k.size (fun j hj => by cases hj; exact hg6.out))
          have G6 := Lib.hid hblk
          clear hg hblk
          refine hK.out _ _ (by first | exact HQ.out _ k) (fun hHeld => ?_)
          clear hK K
          refine wpAnyH_done (by kernel_rfl) ?_ _
          refine Nrm.out (hKK _ _ ?_)
          go_wp2_with fail
          go_meet
          exact ⟨_, _, ⟨E, e1, e2, D, d1, d2⟩, L', ⟨P1, p1, q1, P2, p2, q2, P3, p3, q3, P4, p4, q4⟩, rfl, rfl, k, G5.out, G6.out, CL.out.rd, HNL.out, CN.out.rd⟩
        · go_simp
          have hb' := then_alloc k (.cells #[.slice none 0 0, .slice none 0 0, .slice none 0 0, .slice none 0 0] 32)
          try (have g := own_new CL.out.o2; (try rw [World.size_alloc] at g); have NE := Lib.hid g; clear g)
          have g := blkOf hb'
          try rw [World.size_alloc] at g
          have G6 := Lib.hid g
          have g := k.size
          try rw [World.size_alloc] at g
          have hg6 := Lib.hid g
          clear g
          try (have CL := Lib.hid (CL.out.below hb'))
          try (have CN := Lib.hid (CN.out.below hb'))
          try (have G5 := Lib.hid (G5.out.go hb'))
          have k := below_then k (Nat.le_refl _) hb'
          clear hb'
          refine hK.out _ _ (by first | exact HQ.out _ k) (fun hHeld => ?_)
          clear hK K
          refine wpAnyH_ready (rs := [4]) (by kernel_rfl) (by simp) ?_
          refine AllReadyH.cons rfl (fun K hK => ?_) AllReadyH.nil
          go_simp
          have hb' := then_alloc k (.cells #[.slice none 0 0, .slice none 0 0, .int .i64 0] 47)
          have g := blkOf hb'
          try rw [World.size_alloc] at g
          have G5 := Lib.hid g
          have g := k.size
          try rw [World.size_alloc] at g
          have hg5 := Lib.hid g
          clear g
          try (have CL := Lib.hid (CL.out.below hb'))
          try (have CN := Lib.hid (CN.out.below hb'))
          try (have G6 := Lib.hid (G6.out.go hb'))
          have k := below_then k (Nat.le_refl _) hb'
          clear hb'
          refine hK.out _ _ (by first | exact HQ.out _ k) (fun hHeld => ?_)
          clear hK K
          refine wpAnyH_ready (rs := [6]) (by kernel_rfl) (by simp) ?_
          refine AllReadyH.cons rfl (fun K hK => ?_) AllReadyH.nil
          rw [if_pos (by kernel_rfl)]
          refine wp_store_blk 47 (.tmp 5) (.tmp 14) rfl _ 47 _ #[.slice E e1 e2, .slice D d1 d2, .int .i64 su] rfl rfl G5.out HI.out rfl (by simp [Value.oneCell']) ?_
          intro Wc hblk hg
          have CL := Lib.hid (CL.out.blk G5.out hg)
          try (have CN := Lib.hid (CN.out.blk G5.out (by decide) (by decide) (by decide) hg))
          try (have G6 := Lib.hid (G6.out.grown hg (fun e => blk_two G6.out G5.out (by decide) (Option.some.inj e))))
          have k := k.trans (grown_below hg k.size (fun j hj => by cases hj; exact hg5.out))
          have G5 := Lib.hid hblk
          clear hg hblk
          refine hK.out _ _ (by first | exact HQ.out _ k) (fun hHeld => ?_)
          clear hK K
          refine wpAnyH_ready (rs := [7]) (by kernel_rfl) (by simp) ?_
          refine AllReadyH.cons rfl (fun K hK => ?_) AllReadyH.nil
          rw [if_pos (by kernel_rfl)]
          refine wp_store_blk 32 (.tmp 6) (.tmp 16) rfl _ 32 _ #[.slice P1 p1 q1, .slice P2 p2 q2, .slice P3 p3 q3, .slice P4 p4 q4] rfl rfl G6.out HIN.out rfl (by simp [Value.oneCell']) ?_
          intro Wd hblk hg
          have CN := Lib.hid (CN.out.blk G6.out (by decide) (by decide) (by decide) hg)
          try (have CL := Lib.hid (CL.out.blkN G6.out NE.out hg))
          try (have G5 := Lib.hid (G5.out.grown hg (fun e => blk_two G5.out G6.out (by decide) (Option.some.inj e))))
          have k := k.trans (grown_below hg k.size (fun j hj => by cases hj; exact hg6.out))
          have G6 := Lib.hid hblk
          clear hg hblk
          refine hK.out _ _ (by first | exact HQ.out _ k) (fun hHeld => ?_)
          clear hK K
          refine wpAnyH_done (by kernel_rfl) ?_ _
          refine Nrm.out (hKK _ _ ?_)
          go_wp2_with fail
          go_meet
          exact ⟨_, _, ⟨E, e1, e2, D, d1, d2⟩, L', ⟨P1, p1, q1, P2, p2, q2, P3, p3, q3, P4, p4, q4⟩, rfl, rfl, k, G5.out, G6.out, CL.out.rd, HNL.out, CN.out.rd⟩
      · go_simp
        have hb' := then_alloc k (.cells #[.slice none 0 0, .slice none 0 0, .int .i64 0] 47)
        have g := blkOf hb'
        try rw [World.size_alloc] at g
        have G5 := Lib.hid g
        have g := k.size
        try rw [World.size_alloc] at g
        have hg5 := Lib.hid g
        clear g
        try (have CL := Lib.hid (CL.out.below hb'))
        try (have CN := Lib.hid (CN.out.below hb'))
        try (have G6 := Lib.hid (G6.out.go hb'))
        have k := below_then k (Nat.le_refl _) hb'
        clear hb'
        refine hK.out _ _ (by first | exact HQ.out _ k) (fun hHeld => ?_)
        clear hK K
        refine wpAnyH_ready (rs := [3, 5]) (by kernel_rfl) (by simp) ?_
        refine AllReadyH.cons rfl (fun K hK => ?_) (AllReadyH.cons rfl (fun K hK => ?_) AllReadyH.nil)
        · go_simp
          refine (F2.out _ k).mono ?_
          rintro e Wb ⟨⟨P1, p1, q1, P2, p2, q2, P3, p3, q3, P4, p4, q4⟩, rfl, hO, hb'⟩
          have CN := Lib.hid (hO.less k.size)
          try (have CL := Lib.hid (CL.out.below hb'))
          try (have G5 := Lib.hid (G5.out.go hb'))
          try (have G6 := Lib.hid (G6.out.go hb'))
          have k := below_then k (Nat.le_refl _) hb'
          clear hb' hO
          refine hK.out _ _ (by first | exact HQ.out _ k) (fun hHeld => ?_)
          clear hK K
          refine wpAnyH_ready (rs := [5]) (by kernel_rfl) (by simp) ?_
          refine AllReadyH.cons rfl (fun K hK => ?_) AllReadyH.nil
          go_simp
          have hb' := then_alloc k (.cells #[.slice none 0 0, .slice none 0 0, .slice none 0 0, .slice none 0 0] 32)
          try (have g := own_new CL.out.o2; (try rw [World.size_alloc] at g); have NE := Lib.hid g; clear g)
          have g := blkOf hb'
          try rw [World.size_alloc] at g
          have G6 := Lib.hid g
          have g := k.size
          try rw [World.size_alloc] at g
          have hg6 := Lib.hid g
          clear g
          try (have CL := Lib.hid (CL.out.below hb'))
          try (have CN := Lib.hid (CN.out.below hb'))
          try (have G5 := Lib.hid (G5.out.go hb'))
          have k := below_then k (Nat.le_refl _) hb'
          clear hb'
          refine hK.out _ _ (by first | exact HQ.out _ k) (fun hHeld => ?_)
          clear hK K
          refine wpAnyH_ready (rs := [6]) (by kernel_rfl) (by simp) ?_
          refine AllReadyH.cons rfl (fun K hK => ?_) AllReadyH.nil
          rw [if_pos (by kernel_rfl)]
          refine wp_store_blk 47 (.tmp 5) (.tmp 14) rfl _ 47 _ #[.slice E e1 e2, .slice D d1 d2, .int .i64 su] rfl rfl G5.out HI.out rfl (by simp [Value.oneCell']) ?_
          intro Wc hblk hg
          have CL := Lib.hid (CL.out.blk G5.out hg)
          try (have CN := Lib.hid (CN.out.blk G5.out (by decide) (by decide) (by decide) hg))
          try (have G6 := Lib.hid (G6.out.grown hg (fun e => blk_two G6.out G5.out (by decide) (Option.some.inj e))))
          have k := k.trans (grown_below hg k.size (fun j hj => by cases hj; exact hg5.out))
          have G5 := Lib.hid hblk
          clear hg hblk
          refine hK.out _ _ (by first | exact HQ.out _ k) (fun hHeld => ?_)
          clear hK K
          refine wpAnyH_ready (rs := [7]) (by kernel_rfl) (by simp) ?_
          refine AllReadyH.cons rfl (fun K hK => ?_) AllReadyH.nil
          rw [if_pos (by kernel_rfl)]
          refine wp_store_blk 32 (.tmp 6) (.tmp 16) rfl _ 32 _ #[.slice P1 p1 q1, .slice P2 p2 q2, .slice P3 p3 q3, .slice P4 p4 q4] rfl rfl G6.out HIN.out rfl (by simp [Value.oneCell']) ?_
          intro Wd hblk hg
          have CN := Lib.hid (CN.out.blk G6.out (by decide) (by decide) (by decide) hg)
          try (have CL := Lib.hid (CL.out.blkN G6.out NE.out hg))
          try (have G5 := Lib.hid (G5.out.grown hg (fun e => blk_two G5.out G6.out (by decide) (Option.some.inj e))))
          have k := k.trans (grown_below hg k.size (fun j hj => by cases hj; exact hg6.out))
          have G6 := Lib.hid hblk
          clear hg hblk
          refine hK.out _ _ (by first | exact HQ.out _ k) (fun hHeld => ?_)
          clear hK K
          refine wpAnyH_done (by kernel_rfl) ?_ _
          refine Nrm.out (hKK _ _ ?_)
          go_wp2_with fail
          go_meet
          exact ⟨_, _, ⟨E, e1, e2, D, d1, d2⟩, L', ⟨P1, p1, q1, P2, p2, q2, P3, p3, q3, P4, p4, q4⟩, rfl, rfl, k, G5.out, G6.out, CL.out.rd, HNL.out, CN.out.rd⟩
        · go_simp
          have hb' := then_alloc k (.cells #[.slice none 0 0, .slice none 0 0, .slice none 0 0, .slice none 0 0] 32)
          try (have g := own_new CL.out.o2; (try rw [World.size_alloc] at g); have NE := Lib.hid g; clear g)
          have g := blkOf hb'
          try rw [World.size_alloc] at g
          have G6 := Lib.hid g
          have g := k.size
          try rw [World.size_alloc] at g
          have hg6 := Lib.hid g
          clear g
          try (have CL := Lib.hid (CL.out.below hb'))
          try (have CN := Lib.hid (CN.out.below hb'))
          try (have G5 := Lib.hid (G5.out.go hb'))
          have k := below_then k (Nat.le_refl _) hb'
          clear hb'
          refine hK.out _ _ (by first | exact HQ.out _ k) (fun hHeld => ?_)
          clear hK K
          refine wpAnyH_ready (rs := [3]) (by kernel_rfl) (by simp) ?_
          refine AllReadyH.cons rfl (fun K hK => ?_) AllReadyH.nil
          go_simp
          refine (F2.out _ k).mono ?_
          rintro e Wb ⟨⟨P1, p1, q1, P2, p2, q2, P3, p3, q3, P4, p4, q4⟩, rfl, hO, hb'⟩
          have CN := Lib.hid (hO.less k.size)
          try (have CL := Lib.hid (CL.out.below hb'))
          try (have G5 := Lib.hid (G5.out.go hb'))
          try (have G6 := Lib.hid (G6.out.go hb'))
          have k := below_then k (Nat.le_refl _) hb'
          clear hb' hO
          refine hK.out _ _ (by first | exact HQ.out _ k) (fun hHeld => ?_)
          clear hK K
          refine wpAnyH_ready (rs := [6]) (by kernel_rfl) (by simp) ?_
          refine AllReadyH.cons rfl (fun K hK => ?_) AllReadyH.nil
          rw [if_pos (by kernel_rfl)]
          refine wp_store_blk 47 (.tmp 5) (.tmp 14) rfl _ 47 _ #[.slice E e1 e2, .slice D d1 d2, .int .i64 su] rfl rfl G5.out HI.out rfl (by simp [Value.oneCell']) ?_
          intro Wc hblk hg
          have CL := Lib.hid (CL.out.blk G5.out hg)
          try (have CN := Lib.hid (CN.out.blk G5.out (by decide) (by decide) (by decide) hg))
          try (have G6 := Lib.hid (G6.out.grown hg (fun e => blk_two G6.out G5.out (by decide) (Option.some.inj e))))
          have k := k.trans (grown_below hg k.size (fun j hj => by cases hj; exact hg5.out))
          have G5 := Lib.hid hblk
          clear hg hblk
          refine hK.out _ _ (by first | exact HQ.out _ k) (fun hHeld => ?_)
          clear hK K
          refine wpAnyH_ready (rs := [7]) (by kernel_rfl) (by simp) ?_
          refine AllReadyH.cons rfl (fun K hK => ?_) AllReadyH.nil
          rw [if_pos (by kernel_rfl)]
          refine wp_store_blk 32 (.tmp 6) (.tmp 16) rfl _ 32 _ #[.slice P1 p1 q1, .slice P2 p2 q2, .slice P3 p3 q3, .slice P4 p4 q4] rfl rfl G6.out HIN.out rfl (by simp [Value.oneCell']) ?_
          intro Wd hblk hg
          have CN := Lib.hid (CN.out.blk G6.out (by decide) (by decide) (by decide) hg)
          try (have CL := Lib.hid (CL.out.blkN G6.out NE.out hg))
          try (have G5 := Lib.hid (G5.out.grown hg (fun e => blk_two G5.out G6.out (by decide) (Option.some.inj e))))
          have k := k.trans (grown_below hg k.size (fun j hj => by cases hj; exact hg6.out))
          have G6 := Lib.hid hblk
          clear hg hblk
          refine hK.out _ _ (by first | exact HQ.out _ k) (fun hHeld => ?_)
          clear hK K
          refine wpAnyH_done (by kernel_rfl) ?_ _
          refine Nrm.out (hKK _ _ ?_)
          go_wp2_with fail
          go_meet
          exact ⟨_, _, ⟨E, e1, e2, D, d1, d2⟩, L', ⟨P1, p1, q1, P2, p2, q2, P3, p3, q3, P4, p4, q4⟩, rfl, rfl, k, G5.out, G6.out, CL.out.rd, HNL.out, CN.out.rd⟩
      · go_simp
        have hb' := then_alloc k (.cells #[.slice none 0 0, .slice none 0 0, .slice none 0 0, .slice none 0 0] 32)
        try (have g := own_new CL.out.o2; (try rw [World.size_alloc] at g); have NE := Lib.hid g; clear g)
        have g := blkOf hb'
        try rw [World.size_alloc] at g
        have G6 := Lib.hid g
        have g := k.size
        try rw [World.size_alloc] at g
        have hg6 := Lib.hid g
        clear g
        try (have CL := Lib.hid (CL.out.below hb'))
        try (have CN := Lib.hid (CN.out.below hb'))
        try (have G5 := Lib.hid (G5.out.go hb'))
        have k := below_then k (Nat.le_refl _) hb'
        clear hb'
        refine hK.out _ _ (by first | exact HQ.out _ k) (fun hHeld => ?_)
        clear hK K
        refine wpAnyH_ready (rs := [3, 4]) (by kernel_rfl) (by simp) ?_
        refine AllReadyH.cons rfl (fun K hK => ?_) (AllReadyH.cons rfl (fun K hK => ?_) AllReadyH.nil)
        · go_simp
          refine (F2.out _ k).mono ?_
          rintro e Wb ⟨⟨P1, p1, q1, P2, p2, q2, P3, p3, q3, P4, p4, q4⟩, rfl, hO, hb'⟩
          have CN := Lib.hid (hO.less k.size)
          try (have CL := Lib.hid (CL.out.below hb'))
          try (have G5 := Lib.hid (G5.out.go hb'))
          try (have G6 := Lib.hid (G6.out.go hb'))
          have k := below_then k (Nat.le_refl _) hb'
          clear hb' hO
          refine hK.out _ _ (by first | exact HQ.out _ k) (fun hHeld => ?_)
          clear hK K
          refine wpAnyH_ready (rs := [4]) (by kernel_rfl) (by simp) ?_
          refine AllReadyH.cons rfl (fun K hK => ?_) AllReadyH.nil
          go_simp
          have hb' := then_alloc k (.cells #[.slice none 0 0, .slice none 0 0, .int .i64 0] 47)
          have g := blkOf hb'
          try rw [World.size_alloc] at g
          have G5 := Lib.hid g
          have g := k.size
          try rw [World.size_alloc] at g
          have hg5 := Lib.hid g
          clear g
          try (have CL := Lib.hid (CL.out.below hb'))
          try (have CN := Lib.hid (CN.out.below hb'))
          try (have G6 := Lib.hid (G6.out.go hb'))
          have k := below_then k (Nat.le_refl _) hb'
          clear hb'
          refine hK.out _ _ (by first | exact HQ.out _ k) (fun hHeld => ?_)
          clear hK K
          refine wpAnyH_ready (rs := [6]) (by kernel_rfl) (by simp) ?_
          refine AllReadyH.cons rfl (fun K hK => ?_) AllReadyH.nil
          rw [if_pos (by kernel_rfl)]
          refine wp_store_blk 47 (.tmp 5) (.tmp 14) rfl _ 47 _ #[.slice E e1 e2, .slice D d1 d2, .int .i64 su] rfl rfl G5.out HI.out rfl (by simp [Value.oneCell']) ?_
          intro Wc hblk hg
          have CL := Lib.hid (CL.out.blk G5.out hg)
          try (have CN := Lib.hid (CN.out.blk G5.out (by decide) (by decide) (by decide) hg))
          try (have G6 := Lib.hid (G6.out.grown hg (fun e => blk_two G6.out G5.out (by decide) (Option.some.inj e))))
          have k := k.trans (grown_below hg k.size (fun j hj => by cases hj; exact hg5.out))
          have G5 := Lib.hid hblk
          clear hg hblk
          refine hK.out _ _ (by first | exact HQ.out _ k) (fun hHeld => ?_)
          clear hK K
          refine wpAnyH_ready (rs := [7]) (by kernel_rfl) (by simp) ?_
          refine AllReadyH.cons rfl (fun K hK => ?_) AllReadyH.nil
          rw [if_pos (by kernel_rfl)]
          refine wp_store_blk 32 (.tmp 6) (.tmp 16) rfl _ 32 _ #[.slice P1 p1 q1, .slice P2 p2 q2, .slice P3 p3 q3, .slice P4 p4 q4] rfl rfl G6.out HIN.out rfl (by simp [Value.oneCell']) ?_
          intro Wd hblk hg
          have CN := Lib.hid (CN.out.blk G6.out (by decide) (by decide) (by decide) hg)
          try (have CL := Lib.hid (CL.out.blkN G6.out NE.out hg))
          try (have G5 := Lib.hid (G5.out.grown hg (fun e => blk_two G5.out G6.out (by decide) (Option.some.inj e))))
          have k := k.trans (grown_below hg k.size (fun j hj => by cases hj; exact hg6.out))
          have G6 := Lib.hid hblk
          clear hg hblk
          refine hK.out _ _ (by first | exact HQ.out _ k) (fun hHeld => ?_)
          clear hK K
          refine wpAnyH_done (by kernel_rfl) ?_ _
          refine Nrm.out (hKK _ _ ?_)
          go_wp2_with fail
          go_meet
          exact ⟨_, _, ⟨E, e1, e2, D, d1, d2⟩, L', ⟨P1, p1, q1, P2, p2, q2, P3, p3, q3, P4, p4, q4⟩, rfl, rfl, k, G5.out, G6.out, CL.out.rd, HNL.out, CN.out.rd⟩
        · go_simp
          have hb' := then_alloc k (.cells #[.slice none 0 0, .slice none 0 0, .int .i64 0] 47)
          have g := blkOf hb'
          try rw [World.size_alloc] at g
          have G5 := Lib.hid g
          have g := k.size
          try rw [World.size_alloc] at g
          have hg5 := Lib.hid g
          clear g
          try (have CL := Lib.hid (CL.out.below hb'))
          try (have CN := Lib.hid (CN.out.below hb'))
          try (have G6 := Lib.hid (G6.out.go hb'))
          have k := below_then k (Nat.le_refl _) hb'
          clear hb'
          refine hK.out _ _ (by first | exact HQ.out _ k) (fun hHeld => ?_)
          clear hK K
          refine wpAnyH_ready (rs := [3]) (by kernel_rfl) (by simp) ?_
          refine AllReadyH.cons rfl (fun K hK => ?_) AllReadyH.nil
          go_simp
          refine (F2.out _ k).mono ?_
          rintro e Wb ⟨⟨P1, p1, q1, P2, p2, q2, P3, p3, q3, P4, p4, q4⟩, rfl, hO, hb'⟩
          have CN := Lib.hid (hO.less k.size)
          try (have CL := Lib.hid (CL.out.below hb'))
          try (have G5 := Lib.hid (G5.out.go hb'))
          try (have G6 := Lib.hid (G6.out.go hb'))
          have k := below_then k (Nat.le_refl _) hb'
          clear hb' hO
          refine hK.out _ _ (by first | exact HQ.out _ k) (fun hHeld => ?_)
          clear hK K
          refine wpAnyH_ready (rs := [6]) (by kernel_rfl) (by simp) ?_
          refine AllReadyH.cons rfl (fun K hK => ?_) AllReadyH.nil
          rw [if_pos (by kernel_rfl)]
          refine wp_store_blk 47 (.tmp 5) (.tmp 14) rfl _ 47 _ #[.slice E e1 e2, .slice D d1 d2, .int .i64 su] rfl rfl G5.out HI.out rfl (by simp [Value.oneCell']) ?_
          intro Wc hblk hg
          have CL := Lib.hid (CL.out.blk G5.out hg)
          try (have CN := Lib.hid (CN.out.blk G5.out (by decide) (by decide) (by decide) hg))
          try (have G6 := Lib.hid (G6.out.grown hg (fun e => blk_two G6.out G5.out (by decide) (Option.some.inj e))))
          have k := k.trans (grown_below hg k.size (fun j hj => by cases hj; exact hg5.out))
          have G5 := Lib.hid hblk
          clear hg hblk
          refine hK.out _ _ (by first | exact HQ.out _ k) (fun hHeld => ?_)
          clear hK K
          refine wpAnyH_ready (rs := [7]) (by kernel_rfl) (by simp) ?_
          refine AllReadyH.cons rfl (fun K hK => ?_) AllReadyH.nil
          rw [if_pos (by kernel_rfl)]
          refine wp_store_blk 32 (.tmp 6) (.tmp 16) rfl _ 32 _ #[.slice P1 p1 q1, .slice P2 p2 q2, .slice P3 p3 q3, .slice P4 p4 q4] rfl rfl G6.out HIN.out rfl (by simp [Value.oneCell']) ?_
          intro Wd hblk hg
          have CN := Lib.hid (CN.out.blk G6.out (by decide) (by decide) (by decide) hg)
          try (have CL := Lib.hid (CL.out.blkN G6.out NE.out hg))
          try (have G5 := Lib.hid (G5.out.grown hg (fun e => blk_two G5.out G6.out (by decide) (Option.some.inj e))))
          have k := k.trans (grown_below hg k.size (fun j hj => by cases hj; exact hg6.out))
          have G6 := Lib.hid hblk
          clear hg hblk
          refine hK.out _ _ (by first | exact HQ.out _ k) (fun hHeld => ?_)
          clear hK K
          refine wpAnyH_done (by kernel_rfl) ?_ _
          refine Nrm.out (hKK _ _ ?_)
          go_wp2_with fail
          go_meet
          exact ⟨_, _, ⟨E, e1, e2, D, d1, d2⟩, L', ⟨P1, p1, q1, P2, p2, q2, P3, p3, q3, P4, p4, q4⟩, rfl, rfl, k, G5.out, G6.out, CL.out.rd, HNL.out, CN.out.rd⟩
    · go_simp
      have hb' := then_alloc k (.cells #[.slice none 0 0, .slice none 0 0, .int .i64 0] 47)
      have g := blkOf hb'
      try rw [World.size_alloc] at g
      have G5 := Lib.hid g
      have g := k.size
      try rw [World.size_alloc] at g
      have hg5 := Lib.hid g
      clear g
      try (have CL := Lib.hid (CL.out.below hb'))
      try (have CN := Lib.hid (CN.out.below hb'))
      try (have G6 := Lib.hid (G6.out.go hb'))
      have k := below_then k (Nat.le_refl _) hb'
      clear hb'
      refine hK.out _ _ (by first | exact HQ.out _ k) (fun hHeld => ?_)
      clear hK K
      refine wpAnyH_ready (rs := [1, 5]) (by kernel_rfl) (by simp) ?_
      refine AllReadyH.cons rfl (fun K hK => ?_) (AllReadyH.cons rfl (fun K hK => ?_) AllReadyH.nil)
      · go_simp
        refine (F1.out _ k).mono ?_
        rintro e Wa ⟨⟨E, e1, e2, D, d1, d2⟩, L', rfl, hO, hnL, hb'⟩
        try (have NE := Lib.hid (own_ne hO.o2 G6.out.lt))
        have CL := Lib.hid (hO.less k.size)
        have HNL := Lib.hid hnL
        try (have CN := Lib.hid (CN.out.below hb'))
        try (have G5 := Lib.hid (G5.out.go hb'))
        try (have G6 := Lib.hid (G6.out.go hb'))
        have k := below_then k (Nat.le_refl _) hb'
        clear hb' hO hnL
        refine hK.out _ _ (by first | exact HQ.out _ k) (fun hHeld => ?_)
        clear hK K
        refine wpAnyH_ready (rs := [3, 5]) (by kernel_rfl) (by simp) ?_
        refine AllReadyH.cons rfl (fun K hK => ?_) (AllReadyH.cons rfl (fun K hK => ?_) AllReadyH.nil)
        · go_simp
          refine (F2.out _ k).mono ?_
          rintro e Wb ⟨⟨P1, p1, q1, P2, p2, q2, P3, p3, q3, P4, p4, q4⟩, rfl, hO, hb'⟩
          have CN := Lib.hid (hO.less k.size)
          try (have CL := Lib.hid (CL.out.below hb'))
          try (have G5 := Lib.hid (G5.out.go hb'))
          try (have G6 := Lib.hid (G6.out.go hb'))
          have k := below_then k (Nat.le_refl _) hb'
          clear hb' hO
          refine hK.out _ _ (by first | exact HQ.out _ k) (fun hHeld => ?_)
          clear hK K
          refine wpAnyH_ready (rs := [5]) (by kernel_rfl) (by simp) ?_
          refine AllReadyH.cons rfl (fun K hK => ?_) AllReadyH.nil
          go_simp
          have hb' := then_alloc k (.cells #[.slice none 0 0, .slice none 0 0, .slice none 0 0, .slice none 0 0] 32)
          try (have g := own_new CL.out.o2; (try rw [World.size_alloc] at g); have NE := Lib.hid g; clear g)
          have g := blkOf hb'
          try rw [World.size_alloc] at g
          have G6 := Lib.hid g
          have g := k.size
          try rw [World.size_alloc] at g
          have hg6 := Lib.hid g
          clear g
          try (have CL := Lib.hid (CL.out.below hb'))
          try (have CN := Lib.hid (CN.out.below hb'))
          try (have G5 := Lib.hid (G5.out.go hb'))
          have k := below_then k (Nat.le_refl _) hb'
          clear hb'
          refine hK.out _ _ (by first | exact HQ.out _ k) (fun hHeld => ?_)
          clear hK K
          refine wpAnyH_ready (rs := [6]) (by kernel_rfl) (by simp) ?_
          refine AllReadyH.cons rfl (fun K hK => ?_) AllReadyH.nil
          rw [if_pos (by kernel_rfl)]
          refine wp_store_blk 47 (.tmp 5) (.tmp 14) rfl _ 47 _ #[.slice E e1 e2, .slice D d1 d2, .int .i64 su] rfl rfl G5.out HI.out rfl (by simp [Value.oneCell']) ?_
          intro Wc hblk hg
          have CL := Lib.hid (CL.out.blk G5.out hg)
          try (have CN := Lib.hid (CN.out.blk G5.out (by decide) (by decide) (by decide) hg))
          try (have G6 := Lib.hid (G6.out.grown hg (fun e => blk_two G6.out G5.out (by decide) (Option.some.inj e))))
          have k := k.trans (grown_below hg k.size (fun j hj => by cases hj; exact hg5.out))
          have G5 := Lib.hid hblk
          clear hg hblk
          refine hK.out _ _ (by first | exact HQ.out _ k) (fun hHeld => ?_)
          clear hK K
          refine wpAnyH_ready (rs := [7]) (by kernel_rfl) (by simp) ?_
          refine AllReadyH.cons rfl (fun K hK => ?_) AllReadyH.nil
          rw [if_pos (by kernel_rfl)]
          refine wp_store_blk 32 (.tmp 6) (.tmp 16) rfl _ 32 _ #[.slice P1 p1 q1, .slice P2 p2 q2, .slice P3 p3 q3, .slice P4 p4 q4] rfl rfl G6.out HIN.out rfl (by simp [Value.oneCell']) ?_
          intro Wd hblk hg
          have CN := Lib.hid (CN.out.blk G6.out (by decide) (by decide) (by decide) hg)
          try (have CL := Lib.hid (CL.out.blkN G6.out NE.out hg))
          try (have G5 := Lib.hid (G5.out.grown hg (fun e => blk_two G5.out G6.out (by decide) (Option.some.inj e))))
          have k := k.trans (grown_below hg k.size (fun j hj => by cases hj; exact hg6.out))
          have G6 := Lib.hid hblk
          clear hg hblk
          refine hK.out _ _ (by first | exact HQ.out _ k) (fun hHeld => ?_)
          clear hK K
          refine wpAnyH_done (by kernel_rfl) ?_ _
          refine Nrm.out (hKK _ _ ?_)
          go_wp2_with fail
          go_meet
          exact ⟨_, _, ⟨E, e1, e2, D, d1, d2⟩, L', ⟨P1, p1, q1, P2, p2, q2, P3, p3, q3, P4, p4, q4⟩, rfl, rfl, k, G5.out, G6.out, CL.out.rd, HNL.out, CN.out.rd⟩
        · go_simp
          have hb' := then_alloc k (.cells #[.slice none 0 0, .slice none 0 0, .slice none 0 0, .slice none 0 0] 32)
          try (have g := own_new CL.out.o2; (try rw [World.size_alloc] at g); have NE := Lib.hid g; clear g)
          have g := blkOf hb'
          try rw [World.size_alloc] at g
          have G6 := Lib.hid g
          have g := k.size
          try rw [World.size_alloc] at g
          have hg6 := Lib.hid g
          clear g
          try (have CL := Lib.hid (CL.out.below hb'))
          try (have CN := Lib.hid (CN.out.below hb'))
          try (have G5 := Lib.hid (G5.out.go hb'))
          have k := below_then k (Nat.le_refl _) hb'
          clear hb'
          refine hK.out _ _ (by first | exact HQ.out _ k) (fun hHeld => ?_)
          clear hK K
          refine wpAnyH_ready (rs := [3]) (by kernel_rfl) (by simp) ?_
          refine AllReadyH.cons rfl (fun K hK => ?_) AllReadyH.nil
          go_simp
          refine (F2.out _ k).mono ?_
          rintro e Wb ⟨⟨P1, p1, q1, P2, p2, q2, P3, p3, q3, P4, p4, q4⟩, rfl, hO, hb'⟩
          have CN := Lib.hid (hO.less k.size)
          try (have CL := Lib.hid (CL.out.below hb'))
          try (have G5 := Lib.hid (G5.out.go hb'))
          try (have G6 := Lib.hid (G6.out.go hb'))
          have k := below_then k (Nat.le_refl _) hb'
          clear hb' hO
          refine hK.out _ _ (by first | exact HQ.out _ k) (fun hHeld => ?_)
          clear hK K
          refine wpAnyH_ready (rs := [6]) (by kernel_rfl) (by simp) ?_
          refine AllReadyH.cons rfl (fun K hK => ?_) AllReadyH.nil
          rw [if_pos (by kernel_rfl)]
          refine wp_store_blk 47 (.tmp 5) (.tmp 14) rfl _ 47 _ #[.slice E e1 e2, .slice D d1 d2, .int .i64 su] rfl rfl G5.out HI.out rfl (by simp [Value.oneCell']) ?_
          intro Wc hblk hg
          have CL := Lib.hid (CL.out.blk G5.out hg)
          try (have CN := Lib.hid (CN.out.blk G5.out (by decide) (by decide) (by decide) hg))
          try (have G6 := Lib.hid (G6.out.grown hg (fun e => blk_two G6.out G5.out (by decide) (Option.some.inj e))))
          have k := k.trans (grown_below hg k.size (fun j hj => by cases hj; exact hg5.out))
          have G5 := Lib.hid hblk
          clear hg hblk
          refine hK.out _ _ (by first | exact HQ.out _ k) (fun hHeld => ?_)
          clear hK K
          refine wpAnyH_ready (rs := [7]) (by kernel_rfl) (by simp) ?_
          refine AllReadyH.cons rfl (fun K hK => ?_) AllReadyH.nil
          rw [if_pos (by kernel_rfl)]
          refine wp_store_blk 32 (.tmp 6) (.tmp 16) rfl _ 32 _ #[.slice P1 p1 q1, .slice P2 p2 q2, .slice P3 p3 q3, .slice P4 p4 q4] rfl rfl G6.out HIN.out rfl (by simp [Value.oneCell']) ?_
          intro Wd hblk hg
          have CN := Lib.hid (CN.out.blk G6.out (by decide) (by decide) (by decide) hg)
          try (have CL := Lib.hid (CL.out.blkN G6.out NE.out hg))
          try (have G5 := Lib.hid (G5.out.grown hg (fun e => blk_two G5.out G6.out (by decide) (Option.some.inj e))))
          have k := k.trans (grown_below hg k.size (fun j hj => by cases hj; exact hg6.out))
          have G6 := Lib.hid hblk
          clear hg hblk
          refine hK.out _ _ (by first | exact HQ.out _ k) (fun hHeld => ?_)
          clear hK K
          refine wpAnyH_done (by kernel_rfl) ?_ _
          refine Nrm.out (hKK _ _ ?_)
          go_wp2_with fail
          go_meet
          exact ⟨_, _, ⟨E, e1, e2, D, d1, d2⟩, L', ⟨P1, p1, q1, P2, p2, q2, P3, p3, q3, P4, p4, q4⟩, rfl, rfl, k, G5.out, G6.out, CL.out.rd, HNL.out, CN.out.rd⟩
      · go_simp
        have hb' := then_alloc k (.cells #[.slice none 0 0, .slice none 0 0, .slice none 0 0, .slice none 0 0] 32)
        try (have g := own_new CL.out.o2; (try rw [World.size_alloc] at g); have NE := Lib.hid g; clear g)
        have g := blkOf hb'
        try rw [World.size_alloc] at g
        have G6 := Lib.hid g
        have g := k.size
        try rw [World.size_alloc] at g
        have hg6 := Lib.hid g
        clear g
        try (have CL := Lib.hid (CL.out.below hb'))
        try (have CN := Lib.hid (CN.out.below hb'))
        try (have G5 := Lib.hid (G5.out.go hb'))
        have k := below_then k (Nat.le_refl _) hb'
        clear hb'
        refine hK.out _ _ (by first | exact HQ.out _ k) (fun hHeld => ?_)
        clear hK K
        refine wpAnyH_ready (rs := [1]) (by kernel_rfl) (by simp) ?_
        refine AllReadyH.cons rfl (fun K hK => ?_) AllReadyH.nil
        go_simp
        refine (F1.out _ k).mono ?_
        rintro e Wa ⟨⟨E, e1, e2, D, d1, d2⟩, L', rfl, hO, hnL, hb'⟩
        try (have NE := Lib.hid (own_ne hO.o2 G6.out.lt))
        have CL := Lib.hid (hO.less k.size)
        have HNL := Lib.hid hnL
        try (have CN := Lib.hid (CN.out.below hb'))
        try (have G5 := Lib.hid (G5.out.go hb'))
        try (have G6 := Lib.hid (G6.out.go hb'))
        have k := below_then k (Nat.le_refl _) hb'
        clear hb' hO hnL
        refine hK.out _ _ (by first | exact HQ.out _ k) (fun hHeld => ?_)
        clear hK K
        refine wpAnyH_ready (rs := [3]) (by kernel_rfl) (by simp) ?_
        refine AllReadyH.cons rfl (fun K hK => ?_) AllReadyH.nil
        go_simp
        refine (F2.out _ k).mono ?_
        rintro e Wb ⟨⟨P1, p1, q1, P2, p2, q2, P3, p3, q3, P4, p4, q4⟩, rfl, hO, hb'⟩
        have CN := Lib.hid (hO.less k.size)
        try (have CL := Lib.hid (CL.out.below hb'))
        try (have G5 := Lib.hid (G5.out.go hb'))
        try (have G6 := Lib.hid (G6.out.go hb'))
        have k := below_then k (Nat.le_refl _) hb'
        clear hb' hO
        refine hK.out _ _ (by first | exact HQ.out _ k) (fun hHeld => ?_)
        clear hK K
        refine wpAnyH_ready (rs := [6]) (by kernel_rfl) (by simp) ?_
        refine AllReadyH.cons rfl (fun K hK => ?_) AllReadyH.nil
        rw [if_pos (by kernel_rfl)]
        refine wp_store_blk 47 (.tmp 5) (.tmp 14) rfl _ 47 _ #[.slice E e1 e2, .slice D d1 d2, .int .i64 su] rfl rfl G5.out HI.out rfl (by simp [Value.oneCell']) ?_
        intro Wc hblk hg
        have CL := Lib.hid (CL.out.blk G5.out hg)
        try (have CN := Lib.hid (CN.out.blk G5.out (by decide) (by decide) (by decide) hg))
        try (have G6 := Lib.hid (G6.out.grown hg (fun e => blk_two G6.out G5.out (by decide) (Option.some.inj e))))
        have k := k.trans (grown_below hg k.size (fun j hj => by cases hj; exact hg5.out))
        have G5 := Lib.hid hblk
        clear hg hblk
        refine hK.out _ _ (by first | exact HQ.out _ k) (fun hHeld => ?_)
        clear hK K
        refine wpAnyH_ready (rs := [7]) (by kernel_rfl) (by simp) ?_
        refine AllReadyH.cons rfl (fun K hK => ?_) AllReadyH.nil
        rw [if_pos (by kernel_rfl)]
        refine wp_store_blk 32 (.tmp 6) (.tmp 16) rfl _ 32 _ #[.slice P1 p1 q1, .slice P2 p2 q2, .slice P3 p3 q3, .slice P4 p4 q4] rfl rfl G6.out HIN.out rfl (by simp [Value.oneCell']) ?_
        intro Wd hblk hg
        have CN := Lib.hid (CN.out.blk G6.out (by decide) (by decide) (by decide) hg)
        try (have CL := Lib.hid (CL.out.blkN G6.out NE.out hg))
        try (have G5 := Lib.hid (G5.out.grown hg (fun e => blk_two G5.out G6.out (by decide) (Option.some.inj e))))
        have k := k.trans (grown_below hg k.size (fun j hj => by cases hj; exact hg6.out))
        have G6 := Lib.hid hblk
        clear hg hblk
        refine hK.out _ _ (by first | exact HQ.out _ k) (fun hHeld => ?_)
        clear hK K
        refine wpAnyH_done (by kernel_rfl) ?_ _
        refine Nrm.out (hKK _ _ ?_)
        go_wp2_with fail
        go_meet
        exact ⟨_, _, ⟨E, e1, e2, D, d1, d2⟩, L', ⟨P1, p1, q1, P2, p2, q2, P3, p3, q3, P4, p4, q4⟩, rfl, rfl, k, G5.out, G6.out, CL.out.rd, HNL.out, CN.out.rd⟩
    · go_simp
      have hb' := then_alloc k (.cells #[.slice none 0 0, .slice none 0 0, .slice none 0 0, .slice none 0 0] 32)
      try (have g := own_new CL.out.o2; (try rw [World.size_alloc] at g); have NE := Lib.hid g; clear g)
      have g := blkOf hb'
      try rw [World.size_alloc] at g
      have G6 := Lib.hid g
      have g := k.size
      try rw [World.size_alloc] at g
      have hg6 := Lib.hid g
      clear g
      try (have CL := Lib.hid (CL.out.below hb'))
      try (have CN := Lib.hid (CN.out.below hb'))
      try (have G5 := Lib.hid (G5.out.go hb'))
      have k := below_then k (Nat.le_refl _) hb'
      clear hb'
      refine hK.out _ _ (by first | exact HQ.out _ k) (fun hHeld => ?_)
      clear hK K
      refine wpAnyH_ready (rs := [1, 4]) (by kernel_rfl) (by simp) ?_
      refine AllReadyH.cons rfl (fun K hK => ?_) (AllReadyH.cons rfl (fun K hK => ?_) AllReadyH.nil)
      · go_simp
        refine (F1.out _ k).mono ?_
        rintro e Wa ⟨⟨E, e1, e2, D, d1, d2⟩, L', rfl, hO, hnL, hb'⟩
        try (have NE := Lib.hid (own_ne hO.o2 G6.out.lt))
        have CL := Lib.hid (hO.less k.size)
        have HNL := Lib.hid hnL
        try (have CN := Lib.hid (CN.out.below hb'))
        try (have G5 := Lib.hid (G5.out.go hb'))
        try (have G6 := Lib.hid (G6.out.go hb'))
        have k := below_then k (Nat.le_refl _) hb'
        clear hb' hO hnL
        refine hK.out _ _ (by first | exact HQ.out _ k) (fun hHeld => ?_)
        clear hK K
        refine wpAnyH_ready (rs := [3, 4]) (by kernel_rfl) (by simp) ?_
        refine AllReadyH.cons rfl (fun K hK => ?_) (AllReadyH.cons rfl (fun K hK => ?_) AllReadyH.nil)
        · go_simp
          refine (F2.out _ k).mono ?_
          rintro e Wb ⟨⟨P1, p1, q1, P2, p2, q2, P3, p3, q3, P4, p4, q4⟩, rfl, hO, hb'⟩
          have CN := Lib.hid (hO.less k.size)
          try (have CL := Lib.hid (CL.out.below hb'))
          try (have G5 := Lib.hid (G5.out.go hb'))
          try (have G6 := Lib.hid (G6.out.go hb'))
          have k := below_then k (Nat.le_refl _) hb'
          clear hb' hO
          refine hK.out _ _ (by first | exact HQ.out _ k) (fun hHeld => ?_)
          clear hK K
          refine wpAnyH_ready (rs := [4]) (by kernel_rfl) (by simp) ?_
          refine AllReadyH.cons rfl (fun K hK => ?_) AllReadyH.nil
          go_simp
          have hb' := then_alloc k (.cells #[.slice none 0 0, .slice none 0 0, .int .i64 0] 47)
          have g := blkOf hb'
          try rw [World.size_alloc] at g
          have G5 := Lib.hid g
          have g := k.size
          try rw [World.size_alloc] at g
          have hg5 := Lib.hid g
          clear g
          try (have CL := Lib.hid (CL.out.below hb'))
          try (have CN := Lib.hid (CN.out.below hb'))
          try (have G6 := Lib.hid (G6.out.go hb'))
          have k := below_then k (Nat.le_refl _) hb'
          clear hb'
          refine hK.out _ _ (by first | exact HQ.out _ k) (fun hHeld => ?_)
          clear hK K
          refine wpAnyH_ready (rs := [6]) (by kernel_rfl) (by simp) ?_
          refine AllReadyH.cons rfl (fun K hK => ?_) AllReadyH.nil
          rw [if_pos (by kernel_rfl)]
          refine wp_store_blk 47 (.tmp 5) (.tmp 14) rfl _ 47 _ #[.slice E e1 e2, .slice D d1 d2, .int .i64 su] rfl rfl G5.out HI.out rfl (by simp [Value.oneCell']) ?_
          intro Wc hblk hg
          have CL := Lib.hid (CL.out.blk G5.out hg)
          try (have CN := Lib.hid (CN.out.blk G5.out (by decide) (by decide) (by decide) hg))
          try (have G6 := Lib.hid (G6.out.grown hg (fun e => blk_two G6.out G5.out (by decide) (Option.some.inj e))))
          have k := k.trans (grown_below hg k.size (fun j hj => by cases hj; exact hg5.out))
          have G5 := Lib.hid hblk
          clear hg hblk
          refine hK.out _ _ (by first | exact HQ.out _ k) (fun hHeld => ?_)
          clear hK K
          refine wpAnyH_ready (rs := [7]) (by kernel_rfl) (by simp) ?_
          refine AllReadyH.cons rfl (fun K hK => ?_) AllReadyH.nil
          rw [if_pos (by kernel_rfl)]
          refine wp_store_blk 32 (.tmp 6) (.tmp 16) rfl _ 32 _ #[.slice P1 p1 q1, .slice P2 p2 q2, .slice P3 p3 q3, .slice P4 p4 q4] rfl rfl G6.out HIN.out rfl (by simp [Value.oneCell']) ?_
          intro Wd hblk hg
          have CN := Lib.hid (CN.out.blk G6.out (by decide) (by decide) (by decide) hg)
          try (have CL := Lib.hid (CL.out.blkN G6.out NE.out hg))
          try (have G5 := Lib.hid (G5.out.grown hg (fun e => blk_two G5.out G6.out (by decide) (Option.some.inj e))))
          have k := k.trans (grown_below hg k.size (fun j hj => by cases hj; exact hg6.out))
          have G6 := Lib.hid hblk
          clear hg hblk
          refine hK.out _ _ (by first | exact HQ.out _ k) (fun hHeld => ?_)
          clear hK K
          refine wpAnyH_done (by kernel_rfl) ?_ _
          refine Nrm.out (hKK _ _ ?_)
          go_wp2_with fail
          go_meet
          exact ⟨_, _, ⟨E, e1, e2, D, d1, d2⟩, L', ⟨P1, p1, q1, P2, p2, q2, P3, p3, q3, P4, p4, q4⟩, rfl, rfl, k, G5.out, G6.out, CL.out.rd, HNL.out, CN.out.rd⟩
        · go_simp
          have hb' := then_alloc k (.cells #[.slice none 0 0, .slice none 0 0, .int .i64 0] 47)
          have g := blkOf hb'
          try rw [World.size_alloc] at g
          have G5 := Lib.hid g
          have g := k.size
          try rw [World.size_alloc] at g
          have hg5 := Lib.hid g
          clear g
          try (have CL := Lib.hid (CL.out.below hb'))
          try (have CN := Lib.hid (CN.out.below hb'))
          try (have G6 := Lib.hid (G6.out.go hb'))
          have k := below_then k (Nat.le_refl _) hb'
          clear hb'
          refine hK.out _ _ (by first | exact HQ.out _ k) (fun hHeld => ?_)
          clear hK K
          refine wpAnyH_ready (rs := [3]) (by kernel_rfl) (by simp) ?_
          refine AllReadyH.cons rfl (fun K hK => ?_) AllReadyH.nil
          go_simp
          refine (F2.out _ k).mono ?_
          rintro e Wb ⟨⟨P1, p1, q1, P2, p2, q2, P3, p3, q3, P4, p4, q4⟩, rfl, hO, hb'⟩
          have CN := Lib.hid (hO.less k.size)
          try (have CL := Lib.hid (CL.out.below hb'))
          try (have G5 := Lib.hid (G5.out.go hb'))
          try (have G6 := Lib.hid (G6.out.go hb'))
          have k := below_then k (Nat.le_refl _) hb'
          clear hb' hO
          refine hK.out _ _ (by first | exact HQ.out _ k) (fun hHeld => ?_)
          clear hK K
          refine wpAnyH_ready (rs := [6]) (by kernel_rfl) (by simp) ?_
          refine AllReadyH.cons rfl (fun K hK => ?_) AllReadyH.nil
          rw [if_pos (by kernel_rfl)]
          refine wp_store_blk 47 (.tmp 5) (.tmp 14) rfl _ 47 _ #[.slice E e1 e2, .slice D d1 d2, .int .i64 su] rfl rfl G5.out HI.out rfl (by simp [Value.oneCell']) ?_
          intro Wc hblk hg
          have CL := Lib.hid (CL.out.blk G5.out hg)
          try (have CN := Lib.hid (CN.out.blk G5.out (by decide) (by decide) (by decide) hg))
          try (have G6 := Lib.hid (G6.out.grown hg (fun e => blk_two G6.out G5.out (by decide) (Option.some.inj e))))
          have k := k.trans (grown_below hg k.size (fun j hj => by cases hj; exact hg5.out))
          have G5 := Lib.hid hblk
          clear hg hblk
          refine hK.out _ _ (by first | exact HQ.out _ k) (fun hHeld => ?_)
          clear hK K
          refine wpAnyH_ready (rs := [7]) (by kernel_rfl) (by simp) ?_
          refine AllReadyH.cons rfl (fun K hK => ?_) AllReadyH.nil
          rw [if_pos (by kernel_rfl)]
          refine wp_store_blk 32 (.tmp 6) (.tmp 16) rfl _ 32 _ #[.slice P1 p1 q1, .slice P2 p2 q2, .slice P3 p3 q3, .slice P4 p4 q4] rfl rfl G6.out HIN.out rfl (by simp [Value.oneCell']) ?_
          intro Wd hblk hg
          have CN := Lib.hid (CN.out.blk G6.out (by decide) (by decide) (by decide) hg)
          try (have CL := Lib.hid (CL.out.blkN G6.out NE.out hg))
          try (have G5 := Lib.hid (G5.out.grown hg (fun e => blk_two G5.out G6.out (by decide) (Option.some.inj e))))
          have k := k.trans (grown_below hg k.size (fun j hj => by cases hj; exact hg6.out))
          have G6 := Lib.hid hblk
          clear hg hblk
          refine hK.out _ _ (by first | exact HQ.out _ k) (fun hHeld => ?_)
          clear hK K
          refine wpAnyH_done (by kernel_rfl) ?_ _
          refine Nrm.out (hKK _ _ ?_)
          go_wp2_with fail
          go_meet
          exact ⟨_, _, ⟨E, e1, e2, D, d1, d2⟩, L', ⟨P1, p1, q1, P2, p2, q2, P3, p3, q3, P4, p4, q4⟩, rfl, rfl, k, G5.out, G6.out, CL.out.rd, HNL.out, CN.out.rd⟩
      · go_simp
        have hb' := then_alloc k (.cells #[.slice none 0 0, .slice none 0 0, .int .i64 0] 47)
        have g := blkOf hb'
        try rw [World.size_alloc] at g
        have G5 := Lib.hid g
        have g := k.size
        try rw [World.size_alloc] at g
        have hg5 := Lib.hid g
        clear g
        try (have CL := Lib.hid (CL.out.below hb'))
        try (have CN := Lib.hid (CN.out.below hb'))
        try (have G6 := Lib.hid (G6.out.go hb'))
        have k := below_then k (Nat.le_refl _) hb'
        clear hb'
        refine hK.out _ _ (by first | exact HQ.out _ k) (fun hHeld => ?_)
        clear hK K
        refine wpAnyH_ready (rs := [1]) (by kernel_rfl) (by simp) ?_
        refine AllReadyH.cons rfl (fun K hK => ?_) AllReadyH.nil
        go_simp
        refine (F1.out _ k).mono ?_
        rintro e Wa ⟨⟨E, e1, e2, D, d1, d2⟩, L', rfl, hO, hnL, hb'⟩
        try (have NE := Lib.hid (own_ne hO.o2 G6.out.lt))
        have CL := Lib.hid (hO.less k.size)
        have HNL := Lib.hid hnL
        try (have CN := Lib.hid (CN.out.below hb'))
        try (have G5 := Lib.hid (G5.out.go hb'))
        try (have G6 := Lib.hid (G6.out.go hb'))
        have k := below_then k (Nat.le_refl _) hb'
        clear hb' hO hnL
        refine hK.out _ _ (by first | exact HQ.out _ k) (fun hHeld => ?_)
        clear hK K
        refine wpAnyH_ready (rs := [3]) (by kernel_rfl) (by simp) ?_
        refine AllReadyH.cons rfl (fun K hK => ?_) AllReadyH.nil
        go_simp
        refine (F2.out _ k).mono ?_
        rintro e Wb ⟨⟨P1, p1, q1, P2, p2, q2, P3, p3, q3, P4, p4, q4⟩, rfl, hO, hb'⟩
        have CN := Lib.hid (hO.less k.size)
        try (have CL := Lib.hid (CL.out.below hb'))
        try (have G5 := Lib.hid (G5.out.go hb'))
        try (have G6 := Lib.hid (G6.out.go hb'))
        have k := below_then k (Nat.le_refl _) hb'
        clear hb' hO
        refine hK.out _ _ (by first | exact HQ.out _ k) (fun hHeld => ?_)
        clear hK K
        refine wpAnyH_ready (rs := [6]) (by kernel_rfl) (by simp) ?_
        refine AllReadyH.cons rfl (fun K hK => ?_) AllReadyH.nil
        rw [if_pos (by kernel_rfl)]
        refine wp_store_blk 47 (.tmp 5) (.tmp 14) rfl _ 47 _ #[.slice E e1 e2, .slice D d1 d2, .int .i64 su] rfl rfl G5.out HI.out rfl (by simp [Value.oneCell']) ?_
        intro Wc hblk hg
        have CL := Lib.hid (CL.out.blk G5.out hg)
        try (have CN := Lib.hid (CN.out.blk G5.out (by decide) (by decide) (by decide) hg))
        try (have G6 := Lib.hid (G6.out.grown hg (fun e => blk_two G6.out G5.out (by decide) (Option.some.inj e))))
        have k := k.trans (grown_below hg k.size (fun j hj => by cases hj; exact hg5.out))
        have G5 := Lib.hid hblk
        clear hg hblk
        refine hK.out _ _ (by first | exact HQ.out _ k) (fun hHeld => ?_)
        clear hK K
        refine wpAnyH_ready (rs := [7]) (by kernel_rfl) (by simp) ?_
        refine AllReadyH.cons rfl (fun K hK => ?_) AllReadyH.nil
        rw [if_pos (by kernel_rfl)]
        refine wp_store_blk 32 (.tmp 6) (.tmp 16) rfl _ 32 _ #[.slice P1 p1 q1, .slice P2 p2 q2, .slice P3 p3 q3, .slice P4 p4 q4] rfl rfl G6.out HIN.out rfl (by simp [Value.oneCell']) ?_
        intro Wd hblk hg
        have CN := Lib.hid (CN.out.blk G6.out (by decide) (by decide) (by decide) hg)
        try (have CL := Lib.hid (CL.out.blkN G6.out NE.out hg))
        try (have G5 := Lib.hid (G5.out.grown hg (fun e => blk_two G5.out G6.out (by decide) (Option.some.inj e))))
        have k := k.trans (grown_below hg k.size (fun j hj => by cases hj; exact hg6.out))
        have G6 := Lib.hid hblk
        clear hg hblk
        refine hK.out _ _ (by first | exact HQ.out _ k) (fun hHeld => ?_)
        clear hK K
        refine wpAnyH_done (by kernel_rfl) ?_ _
        refine Nrm.out (hKK _ _ ?_)
        go_wp2_with fail
        go_meet
        exact ⟨_, _, ⟨E, e1, e2, D, d1, d2⟩, L', ⟨P1, p1, q1, P2, p2, q2, P3, p3, q3, P4, p4, q4⟩, rfl, rfl, k, G5.out, G6.out, CL.out.rd, HNL.out, CN.out.rd⟩
  case rest =>
    obtain ⟨g5, g6, v', L', v2', rfl, rfl, hc⟩ := hcut
    obtain ⟨hb2, D5, D6, m2, hnL, n2, _⟩ : _ ∧ _ ∧ _ ∧ _ ∧ _ ∧ _ ∧ True := ⟨hc.out.1, hc.out.2.1, hc.out.2.2.1, hc.out.2.2.2.1, hc.out.2.2.2.2.1, hc.out.2.2.2.2.2, trivial⟩
    have hszv := HSZ.out.of_rd HH.out m2 hnL
    have hszn := HS.out.of_rd HN.out n2
    have f1 := lgAppend_any v' b L' su v2' x wc (HT.out.below hb2) m2 hszv n2 hszn
    unfold AppP at f1
    rw [appE_congr hnL, hnL] at f1
    have f2 := fun V (hb : Below w1.heap.size w1 V) => refLgAppend_any v b L su v2 x V (HT.out.below hb) (HH.out.go hb) HSZ.out (HN.out.go hb) HS.out
    unfold AppP at f2
    have HFO := Lib.hid fun (M : List (NV × Nt)) (he : appE b L su x = 0) (hn : nts M = nts L ++ [x]) => app_formed he hn
    have HER := Lib.hid (show appE b L su x = 0 ∨ appE b L su x = 1 ∨ appE b L su x = 3 by
      unfold appE
      split
      · split
        · split <;> simp
        · simp
      · simp)
    have HAB := Lib.hid (show ∀ er, er = 0 → appB er b = b from fun er h => by unfold appB; rw [if_pos h])
    have HAN := Lib.hid (show ∀ er, er = 0 → appN er (nts L) x = nts L ++ [x] from fun er h => by unfold appN; rw [if_pos h])
    have HAS := Lib.hid (show ∀ er, er = 0 → appS er su = su from fun er h => by unfold appS; rw [if_pos h])
    generalize appE b L su x = er at f1 f2 HFO HER
    generalize hab : appB er b = ab at f1 f2
    generalize han : appN er (nts L) x = an at f1 f2
    generalize has : appS er su = asu at f1 f2
    have HE1 := Lib.hid hab
    have HE2 := Lib.hid han
    have HE3 := Lib.hid has
    have F1 := Lib.hid f1
    have F2 := Lib.hid f2
    have HM := Lib.hid m2
    have HN2 := Lib.hid n2
    have HD5 := Lib.hid D5
    have HD6 := Lib.hid D6
    have HB2 := Lib.hid hb2
    have HNL := Lib.hid hnL
    have p0 := D5.cell 0
    have p1 := D5.cell 1
    have p2 := D5.cell 2
    have r0 := D6.cell 0
    have r1 := D6.cell 1
    have r2 := D6.cell 2
    have r3 := D6.cell 3
    clear f1 f2 m2 n2 D5 D6 hb2 hnL hszv hszn hc hab han has
    go_wp2_with fail
    refine F1.out.mono ?_
    rintro e w3 ⟨x1, X1, rfl, hx1, hnx1, hb3⟩
    clear p0 p1 p2 r0 r1 r2 r3
    have hkA : Below w3.heap.size w3 (w3.alloc (.cells (x1.val asu) 47)) := (Below.refl _ _).alloc (Nat.le_refl _) _
    have E3 := Blk.new w3 47 (x1.val asu)
    obtain ⟨w4, hw4⟩ : ∃ w4, w4 = w3.alloc (.cells (x1.val asu) 47) := ⟨_, rfl⟩
    rw [← hw4] at hkA E3
    have hb34 := below_then hb3 (Nat.le_refl _) hkA
    have k4 := below_then HB2.out (Nat.le_refl _) hb34
    have HX1 := Lib.hid (hx1.go hkA)
    have HNX1 := Lib.hid hnx1
    have HE4 := Lib.hid E3
    have HK4 := Lib.hid k4
    have HK34 := Lib.hid hb34
    have HW4 := Lib.hid hw4.symm
    obtain ⟨⟨q0, q1, q2⟩, ⟨s0, s1, s2, s3⟩⟩ := HQ.out _ (below_then HB2.out (Nat.le_refl _) hb3)
    have q0' := (then_alloc hb3 (.cells (x1.val asu) 47)).cell (p := ⟨w.heap.size, 0, none⟩) (World.block_lt_of_cell? _ _ q0) |>.trans q0
    obtain ⟨⟨q0, q1, q2⟩, ⟨s0, s1, s2, s3⟩⟩ := HQ.out _ k4
    rw [hw4] at q0 q1 q2 s0 s1 s2 s3
    clear hkA E3 hw4 hb34 k4 hx1 hnx1 q0' hb3
    go_wp2_with fail
    rw [HW4.out]
    refine (F2.out w4 HK4.out).mono ?_
    rintro e w5 ⟨y1, Y1, rfl, hy1, hny1, hb5⟩
    clear q0 q1 q2 s0 s1 s2 s3
    have hkA : Below w5.heap.size w5 (w5.alloc (.cells (y1.val asu) 47)) := (Below.refl _ _).alloc (Nat.le_refl _) _
    have E5 := Blk.new w5 47 (y1.val asu)
    obtain ⟨w6, hw6⟩ : ∃ w6, w6 = w5.alloc (.cells (y1.val asu) 47) := ⟨_, rfl⟩
    rw [← hw6] at hkA E5
    have hb56 := below_then hb5 (Nat.le_refl _) hkA
    have E4 := HE4.out.go hb56
    have hx6 := HX1.out.go hb56
    have hy6 := hy1.go hkA
    have k6 := below_then HK4.out (Nat.le_refl _) hb56
    have hb36 := below_then HK34.out (Nat.le_refl _) hb56
    have D6' := HD6.out.go hb36
    have D5' := HD5.out.go hb36
    have m6 := HM.out.go hb36
    have n6 := HN2.out.go hb36
    have HQ6 := Lib.hid fun V (hb : Below w6.heap.size w6 V) => (show (V.cell? ⟨w.heap.size, 0, none⟩ = some (.slice v.A v.n v.c) ∧ V.cell? ⟨w.heap.size, 1, none⟩ = some (.slice v.D v.m v.d) ∧ V.cell? ⟨w.heap.size, 2, none⟩ = some (.int .i64 su)) ∧ (V.cell? ⟨w.heap.size + 1, 0, none⟩ = some (.slice v2.A1 v2.n1 v2.c1) ∧ V.cell? ⟨w.heap.size + 1, 1, none⟩ = some (.slice v2.A2 v2.n2 v2.c2) ∧ V.cell? ⟨w.heap.size + 1, 2, none⟩ = some (.slice v2.A3 v2.n3 v2.c3) ∧ V.cell? ⟨w.heap.size + 1, 3, none⟩ = some (.slice v2.A4 v2.n4 v2.c4)) ∧ (V.cell? ⟨g5, 0, none⟩ = some (.slice v'.A v'.n v'.c) ∧ V.cell? ⟨g5, 1, none⟩ = some (.slice v'.D v'.m v'.d) ∧ V.cell? ⟨g5, 2, none⟩ = some (.int .i64 su)) ∧ (V.cell? ⟨g6, 0, none⟩ = some (.slice v2'.A1 v2'.n1 v2'.c1) ∧ V.cell? ⟨g6, 1, none⟩ = some (.slice v2'.A2 v2'.n2 v2'.c2) ∧ V.cell? ⟨g6, 2, none⟩ = some (.slice v2'.A3 v2'.n3 v2'.c3) ∧ V.cell? ⟨g6, 3, none⟩ = some (.slice v2'.A4 v2'.n4 v2'.c4)) ∧ (V.cell? ⟨w3.heap.size, 0, none⟩ = some (.slice x1.A x1.n x1.c) ∧ V.cell? ⟨w3.heap.size, 1, none⟩ = some (.slice x1.D x1.m x1.d) ∧ V.cell? ⟨w3.heap.size, 2, none⟩ = some (.int .i64 asu)) ∧ (V.cell? ⟨w5.heap.size, 0, none⟩ = some (.slice y1.A y1.n y1.c) ∧ V.cell? ⟨w5.heap.size, 1, none⟩ = some (.slice y1.D y1.m y1.d) ∧ V.cell? ⟨w5.heap.size, 2, none⟩ = some (.int .i64 asu)) from
      ⟨(HQ.out _ (below_then k6 (Nat.le_refl _) hb)).1, (HQ.out _ (below_then k6 (Nat.le_refl _) hb)).2, ⟨(D5'.go hb).cell 0, (D5'.go hb).cell 1, (D5'.go hb).cell 2⟩, ⟨(D6'.go hb).cell 0, (D6'.go hb).cell 1, (D6'.go hb).cell 2, (D6'.go hb).cell 3⟩, ⟨(E4.go hb).cell 0, (E4.go hb).cell 1, (E4.go hb).cell 2⟩, ⟨(E5.go hb).cell 0, (E5.go hb).cell 1, (E5.go hb).cell 2⟩⟩)
    have G1 := fun V (hb : Below w6.heap.size w6 V) => refLgSame_any x1 y1 ab ab X1 Y1 asu asu V (hx6.go hb) (hy6.go hb)
    rw [HNX1.out, hny1, lgSame_self] at G1
    have G2 := fun V (hb : Below w6.heap.size w6 V) => refLgSame_any v' v b b L' L su su V (m6.go hb) (HH.out.go (below_then k6 (Nat.le_refl _) hb))
    rw [HNL.out, lgSame_self] at G2
    have G3 := fun V (hb : Below w6.heap.size w6 V) => refNtSame_any v2' v2 x x V (n6.go hb) (HN.out.go (below_then k6 (Nat.le_refl _) hb))
    rw [ntSame_self] at G3
    have G4 := fun V (hb : Below w6.heap.size w6 V) => lgFormed_any x1 ab X1 asu V (HT.out.below (below_then k6 (Nat.le_refl _) hb)) (hx6.go hb)
    have HF := Lib.hid (show er = 0 → lgF ab X1 asu = true from fun h => by
      rw [lgF_R, ← HE1.out, ← HE3.out, HAB.out _ h, HAS.out _ h]
      exact HFO.out X1 h (by rw [HNX1.out, ← HE2.out, HAN.out _ h]))
    generalize lgF ab X1 asu = z at G4 HF
    have G1 := Lib.hid G1
    have G2 := Lib.hid G2
    have G3 := Lib.hid G3
    have G4 := Lib.hid G4
    have HFIN := Lib.hid fun V (hb : Below w6.heap.size w6 V) => below_then K1.out (Nat.le_refl _) (below_then k6 (Nat.le_refl _) hb)
    have HW6 := Lib.hid hw6.symm
    obtain ⟨⟨q0, q1, q2⟩, ⟨s0, s1, s2, s3⟩, ⟨a0, a1, a2⟩, ⟨b0, b1, b2, b3⟩, ⟨c0, c1, c2⟩, ⟨d0, d1, d2⟩⟩ := HQ6.out _ (Below.refl _ _)
    have k : Below w6.heap.size w6 w6 := Below.refl _ w6
    rw [hw6] at c0 c1 c2 d0 d1 d2
    clear hkA E5 hb56 E4 hx6 hy6 k6 hb36 D6' D5' m6 n6 hny1 hy1 hb5 hw6 q0 q1 q2 s0 s1 s2 s3 a0 a1 a2 b0 b1 b2 b3
    rcases HER.out with rfl | rfl | rfl
    · have hz := HF.out rfl
      rw [hz] at G4
      clear hz HF
      go_wp2_with fail
      rw [HW6.out]
      go_wp2_with (first
        | (go_at_call 33; (first
          | ((with_reducible refine (G1.out _ k).mono ?_); rintro e w' ⟨rfl, hb'⟩; have k := below_then k (Nat.le_refl _) hb'; clear hb'; obtain ⟨⟨q0, q1, q2⟩, ⟨s0, s1, s2, s3⟩, ⟨a0, a1, a2⟩, ⟨b0, b1, b2, b3⟩, ⟨c0, c1, c2⟩, ⟨d0, d1, d2⟩⟩ := HQ6.out _ k)
          | ((with_reducible refine (G2.out _ k).mono ?_); rintro e w' ⟨rfl, hb'⟩; have k := below_then k (Nat.le_refl _) hb'; clear hb'; obtain ⟨⟨q0, q1, q2⟩, ⟨s0, s1, s2, s3⟩, ⟨a0, a1, a2⟩, ⟨b0, b1, b2, b3⟩, ⟨c0, c1, c2⟩, ⟨d0, d1, d2⟩⟩ := HQ6.out _ k)))
        | (go_at_call 14; ((with_reducible refine (G3.out _ k).mono ?_); rintro e w' ⟨rfl, hb'⟩; have k := below_then k (Nat.le_refl _) hb'; clear hb'; obtain ⟨⟨q0, q1, q2⟩, ⟨s0, s1, s2, s3⟩, ⟨a0, a1, a2⟩, ⟨b0, b1, b2, b3⟩, ⟨c0, c1, c2⟩, ⟨d0, d1, d2⟩⟩ := HQ6.out _ k))
        | (go_at_call 29; ((with_reducible refine (G4.out _ k).mono ?_); rintro e w' ⟨rfl, hb'⟩; have k := below_then k (Nat.le_refl _) hb'; clear hb'; obtain ⟨⟨q0, q1, q2⟩, ⟨s0, s1, s2, s3⟩, ⟨a0, a1, a2⟩, ⟨b0, b1, b2, b3⟩, ⟨c0, c1, c2⟩, ⟨d0, d1, d2⟩⟩ := HQ6.out _ k)))
      go_ret
      exact ⟨rfl, HFIN.out _ k⟩
    · clear HF
      go_wp2_with fail
      rw [HW6.out]
      go_wp2_with (first
        | (go_at_call 33; (first
          | ((with_reducible refine (G1.out _ k).mono ?_); rintro e w' ⟨rfl, hb'⟩; have k := below_then k (Nat.le_refl _) hb'; clear hb'; obtain ⟨⟨q0, q1, q2⟩, ⟨s0, s1, s2, s3⟩, ⟨a0, a1, a2⟩, ⟨b0, b1, b2, b3⟩, ⟨c0, c1, c2⟩, ⟨d0, d1, d2⟩⟩ := HQ6.out _ k)
          | ((with_reducible refine (G2.out _ k).mono ?_); rintro e w' ⟨rfl, hb'⟩; have k := below_then k (Nat.le_refl _) hb'; clear hb'; obtain ⟨⟨q0, q1, q2⟩, ⟨s0, s1, s2, s3⟩, ⟨a0, a1, a2⟩, ⟨b0, b1, b2, b3⟩, ⟨c0, c1, c2⟩, ⟨d0, d1, d2⟩⟩ := HQ6.out _ k)))
        | (go_at_call 14; ((with_reducible refine (G3.out _ k).mono ?_); rintro e w' ⟨rfl, hb'⟩; have k := below_then k (Nat.le_refl _) hb'; clear hb'; obtain ⟨⟨q0, q1, q2⟩, ⟨s0, s1, s2, s3⟩, ⟨a0, a1, a2⟩, ⟨b0, b1, b2, b3⟩, ⟨c0, c1, c2⟩, ⟨d0, d1, d2⟩⟩ := HQ6.out _ k))
        | (go_at_call 29; ((with_reducible refine (G4.out _ k).mono ?_); rintro e w' ⟨rfl, hb'⟩; have k := below_then k (Nat.le_refl _) hb'; clear hb'; obtain ⟨⟨q0, q1, q2⟩, ⟨s0, s1, s2, s3⟩, ⟨a0, a1, a2⟩, ⟨b0, b1, b2, b3⟩, ⟨c0, c1, c2⟩, ⟨d0, d1, d2⟩⟩ := HQ6.out _ k)))
      go_ret
      exact ⟨rfl, HFIN.out _ k⟩
    · clear HF
      go_wp2_with fail
      rw [HW6.out]
      go_wp2_with (first
        | (go_at_call 33; (first
          | ((with_reducible refine (G1.out _ k).mono ?_); rintro e w' ⟨rfl, hb'⟩; have k := below_then k (Nat.le_refl _) hb'; clear hb'; obtain ⟨⟨q0, q1, q2⟩, ⟨s0, s1, s2, s3⟩, ⟨a0, a1, a2⟩, ⟨b0, b1, b2, b3⟩, ⟨c0, c1, c2⟩, ⟨d0, d1, d2⟩⟩ := HQ6.out _ k)
          | ((with_reducible refine (G2.out _ k).mono ?_); rintro e w' ⟨rfl, hb'⟩; have k := below_then k (Nat.le_refl _) hb'; clear hb'; obtain ⟨⟨q0, q1, q2⟩, ⟨s0, s1, s2, s3⟩, ⟨a0, a1, a2⟩, ⟨b0, b1, b2, b3⟩, ⟨c0, c1, c2⟩, ⟨d0, d1, d2⟩⟩ := HQ6.out _ k)))
        | (go_at_call 14; ((with_reducible refine (G3.out _ k).mono ?_); rintro e w' ⟨rfl, hb'⟩; have k := below_then k (Nat.le_refl _) hb'; clear hb'; obtain ⟨⟨q0, q1, q2⟩, ⟨s0, s1, s2, s3⟩, ⟨a0, a1, a2⟩, ⟨b0, b1, b2, b3⟩, ⟨c0, c1, c2⟩, ⟨d0, d1, d2⟩⟩ := HQ6.out _ k))
        | (go_at_call 29; ((with_reducible refine (G4.out _ k).mono ?_); rintro e w' ⟨rfl, hb'⟩; have k := below_then k (Nat.le_refl _) hb'; clear hb'; obtain ⟨⟨q0, q1, q2⟩, ⟨s0, s1, s2, s3⟩, ⟨a0, a1, a2⟩, ⟨b0, b1, b2, b3⟩, ⟨c0, c1, c2⟩, ⟨d0, d1, d2⟩⟩ := HQ6.out _ k)))
      go_ret
      exact ⟨rfl, HFIN.out _ k⟩
end Go.Proofs.YtldcgmnfohhjbaaDoor
