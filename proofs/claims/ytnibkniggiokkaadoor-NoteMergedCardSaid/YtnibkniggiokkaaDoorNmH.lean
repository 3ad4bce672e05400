/- Walk over the document's Merge (printed by wip/tools/genNmH.py). -/
import Derived.Test.YtnibkniggiokkaaDoorNmG
import Derived.Test.YtnibkniggiokkaaDoorNtQ
import Derived.Deep.DeepCutAuto
namespace Go.Proofs.YtnibkniggiokkaaDoor
open Go.RowKit
set_option maxRecDepth 100000

theorem blkOfT {W : World} {t : TypeId} {cs : Array Value} (_ : Below W.heap.size W (W.alloc (.cells cs t))) : Blk (W.alloc (.cells cs t)) W.heap.size t cs := Blk.new W t cs
/- A state of a region's walk that many orders come to: proved once. -/
theorem mg0 {G : World → Prop} {Goal : Prop} (Inv : World → Prop) (main : Hid (∀ W , Inv W  → G W ) → Goal) (lem : ∀ W , Inv W  → G W ) : Goal := main (Lib.hid lem)
theorem mg1 {G : World → Nat → Prop} {Goal : Prop} (Inv : World → Nat → Prop) (main : Hid (∀ W g0, Inv W g0 → G W g0) → Goal) (lem : ∀ W g0, Inv W g0 → G W g0) : Goal := main (Lib.hid lem)
theorem mg2 {G : World → Nat → Nat → Prop} {Goal : Prop} (Inv : World → Nat → Nat → Prop) (main : Hid (∀ W g0 g1, Inv W g0 g1 → G W g0 g1) → Goal) (lem : ∀ W g0 g1, Inv W g0 g1 → G W g0 g1) : Goal := main (Lib.hid lem)
theorem mg3 {G : World → Nat → Nat → Nat → Prop} {Goal : Prop} (Inv : World → Nat → Nat → Nat → Prop) (main : Hid (∀ W g0 g1 g2, Inv W g0 g1 g2 → G W g0 g1 g2) → Goal) (lem : ∀ W g0 g1 g2, Inv W g0 g1 g2 → G W g0 g1 g2) : Goal := main (Lib.hid lem)
theorem mgR {G : World → Nat → Option Addr → Nat → Option Addr → Nat → Option Addr → Nat → Prop} {Goal : Prop} (Inv : World → Nat → Option Addr → Nat → Option Addr → Nat → Option Addr → Nat → Prop) (main : Hid (∀ W g A a B b C c, Inv W g A a B b C c → G W g A a B b C c) → Goal) (lem : ∀ W g A a B b C c, Inv W g A a B b C c → G W g A a B b C c) : Goal := main (Lib.hid lem)

set_option maxHeartbeats 2000000 in
theorem refMerge_no (v v' : NV) (x y : Nt) (w : World) (hN : NtRd w w.heap.size v x) (hN' : NtRd w w.heap.size v' y) (hf : ntF x = false ∨ ntF x = true ∧ ntF y = false) :
    Calls Tryd.prog 16 #[.agg v.val, .agg v'.val] w fun e w' => e = .returned (.tuple #[.agg NV0.val, .int .i64 1]) ∧ Below w.heap.size w w' := by
  obtain ⟨A1, n1, c1, A2, n2, c2, A3, n3, c3, A4, n4, c4⟩ := v
  obtain ⟨B1, m1, d1, B2, m2, d2, B3, m3, d3, B4, m4, d4⟩ := v'
  have hb0 : Below w.heap.size w (((w.alloc (.cells #[.slice A1 n1 c1, .slice A2 n2 c2, .slice A3 n3 c3, .slice A4 n4 c4] 26)).alloc (.cells #[.slice B1 m1 d1, .slice B2 m2 d2, .slice B3 m3 d3, .slice B4 m4 d4] 26)).alloc (.cells #[.slice none 0 0, .slice none 0 0, .slice none 0 0, .slice none 0 0] 26)) := (((Below.refl _ _).alloc (Nat.le_refl _) _).alloc (by simp) _).alloc (by simp; omega) _
  have hX := ((Blk.new w 26 #[.slice A1 n1 c1, .slice A2 n2 c2, .slice A3 n3 c3, .slice A4 n4 c4]).alloc (.cells #[.slice B1 m1 d1, .slice B2 m2 d2, .slice B3 m3 d3, .slice B4 m4 d4] 26)).alloc (.cells #[.slice none 0 0, .slice none 0 0, .slice none 0 0, .slice none 0 0] 26)
  have hY := (Blk.new (w.alloc (.cells #[.slice A1 n1 c1, .slice A2 n2 c2, .slice A3 n3 c3, .slice A4 n4 c4] 26)) 26 #[.slice B1 m1 d1, .slice B2 m2 d2, .slice B3 m3 d3, .slice B4 m4 d4]).alloc (.cells #[.slice none 0 0, .slice none 0 0, .slice none 0 0, .slice none 0 0] 26)
  have hM := Blk.new ((w.alloc (.cells #[.slice A1 n1 c1, .slice A2 n2 c2, .slice A3 n3 c3, .slice A4 n4 c4] 26)).alloc (.cells #[.slice B1 m1 d1, .slice B2 m2 d2, .slice B3 m3 d3, .slice B4 m4 d4] 26)) 26 #[.slice none 0 0, .slice none 0 0, .slice none 0 0, .slice none 0 0]
  simp only [World.size_alloc] at hY hM
  obtain ⟨W0, hW0⟩ : ∃ W0, W0 = ((w.alloc (.cells #[.slice A1 n1 c1, .slice A2 n2 c2, .slice A3 n3 c3, .slice A4 n4 c4] 26)).alloc (.cells #[.slice B1 m1 d1, .slice B2 m2 d2, .slice B3 m3 d3, .slice B4 m4 d4] 26)).alloc (.cells #[.slice none 0 0, .slice none 0 0, .slice none 0 0, .slice none 0 0] 26) := ⟨_, rfl⟩
  have hs0 : W0.heap.size = w.heap.size + 1 + 1 + 1 := by rw [hW0]; simp
  rw [← hW0] at hb0 hX hY hM
  have hN0 := hN.go hb0
  have hN1 := hN'.go hb0
  have G1 := refNoteFormed_any ⟨A1, n1, c1, A2, n2, c2, A3, n3, c3, A4, n4, c4⟩ x W0 hN0
  have G2 := fun (W : World) (hb : Below W0.heap.size W0 W) => refNoteFormed_any ⟨B1, m1, d1, B2, m2, d2, B3, m3, d3, B4, m4, d4⟩ y W (hN1.go hb)
  dsimp only [NV.val] at G1 G2 ⊢
  have HB := Lib.hid hb0
  have HX := Lib.hid hX
  have HY := Lib.hid hY
  have HM := Lib.hid hM
  have HW := Lib.hid hW0.symm
  obtain ⟨zz, hii⟩ := zero_of_info notes_zero
  have HI := Lib.hid hii
  rcases hf with hf | ⟨hf, hf2⟩
  · rw [hf] at G1
    have G1 := Lib.hid G1
    clear hf hN hN' hN0 hN1 hb0 hX hY hM hW0 hii G2
    go_enter Tryd.func16, Tryd.ntmps16
    go_wp2_with fail
    rw [HW.out]
    obtain ⟨q0, q1, q2, q3⟩ := HX.out.four4
    go_wp2_with fail
    refine G1.out.mono ?_
    rintro e w1 ⟨rfl, hb1⟩
    have hM1 := HM.out.go hb1
    have hs1 := hb1.size
    go_wp2_with (refine wpList_store_blk rfl 26 _ _ rfl (w.heap.size + 1 + 1) 26 _ #[.slice none 0 0, .slice none 0 0, .slice none 0 0, .slice none 0 0] rfl rfl hM1 HI.out rfl (by simp [Value.oneCell']) ?_; intro W hblk hg)
    refine bodyPost_ret (res_ct rfl _ _ (w.heap.size + 1 + 1) 26 _ _ _ rfl hblk Tryd.underlying26 rfl (by kernel_rfl)) rfl ⟨rfl, (below_then HB.out (Nat.le_refl _) hb1).trans (grown_below hg (by omega) (fun j hj => by cases hj; omega))⟩
  · rw [hf] at G1
    rw [hf2] at G2
    have G1 := Lib.hid G1
    have G2 := Lib.hid G2
    clear hf hf2 hN hN' hN0 hN1 hb0 hX hY hM hW0 hii
    go_enter Tryd.func16, Tryd.ntmps16
    go_wp2_with fail
    rw [HW.out]
    obtain ⟨q0, q1, q2, q3⟩ := HX.out.four4
    go_wp2_with fail
    refine G1.out.mono ?_
    rintro e w1 ⟨rfl, hb1⟩
    clear q0 q1 q2 q3
    obtain ⟨q0, q1, q2, q3⟩ := (HY.out.go hb1).four4
    go_wp2_with fail
    refine (G2.out _ hb1).mono ?_
    rintro e w2 ⟨rfl, hb2⟩
    have hb2 := below_then hb1 (Nat.le_refl _) hb2
    have hM1 := HM.out.go hb2
    have hs1 := hb2.size
    go_wp2_with (refine wpList_store_blk rfl 26 _ _ rfl (w.heap.size + 1 + 1) 26 _ #[.slice none 0 0, .slice none 0 0, .slice none 0 0, .slice none 0 0] rfl rfl hM1 HI.out rfl (by simp [Value.oneCell']) ?_; intro W hblk hg)
    refine bodyPost_ret (res_ct rfl _ _ (w.heap.size + 1 + 1) 26 _ _ _ rfl hblk Tryd.underlying26 rfl (by kernel_rfl)) rfl ⟨rfl, (below_then HB.out (Nat.le_refl _) hb2).trans (grown_below hg (by omega) (fun j hj => by cases hj; omega))⟩


set_option maxHeartbeats 16000000 in
theorem refMerge_yes (v v' : NV) (x y : Nt) (w : World) (hN : NtRd w w.heap.size v x) (hN' : NtRd w w.heap.size v' y) (hf : ntF x = true) (hf2 : ntF y = true) :
    Calls Tryd.prog 16 #[.agg v.val, .agg v'.val] w fun e w' => ∃ v'' : NV, e = .returned (.tuple #[.agg v''.val, .int .i64 0]) ∧ NtRd w' w'.heap.size v'' (mrgN x y) ∧ Below w.heap.size w w' := by
  obtain ⟨A1, n1, c1, A2, n2, c2, A3, n3, c3, A4, n4, c4⟩ := v
  obtain ⟨B1, m1, d1, B2, m2, d2, B3, m3, d3, B4, m4, d4⟩ := v'
  have hb0 : Below w.heap.size w (((w.alloc (.cells #[.slice A1 n1 c1, .slice A2 n2 c2, .slice A3 n3 c3, .slice A4 n4 c4] 26)).alloc (.cells #[.slice B1 m1 d1, .slice B2 m2 d2, .slice B3 m3 d3, .slice B4 m4 d4] 26)).alloc (.cells #[.slice none 0 0, .slice none 0 0, .slice none 0 0, .slice none 0 0] 26)) := (((Below.refl _ _).alloc (Nat.le_refl _) _).alloc (by simp) _).alloc (by simp; omega) _
  have hX := ((Blk.new w 26 #[.slice A1 n1 c1, .slice A2 n2 c2, .slice A3 n3 c3, .slice A4 n4 c4]).alloc (.cells #[.slice B1 m1 d1, .slice B2 m2 d2, .slice B3 m3 d3, .slice B4 m4 d4] 26)).alloc (.cells #[.slice none 0 0, .slice none 0 0, .slice none 0 0, .slice none 0 0] 26)
  have hY := (Blk.new (w.alloc (.cells #[.slice A1 n1 c1, .slice A2 n2 c2, .slice A3 n3 c3, .slice A4 n4 c4] 26)) 26 #[.slice B1 m1 d1, .slice B2 m2 d2, .slice B3 m3 d3, .slice B4 m4 d4]).alloc (.cells #[.slice none 0 0, .slice none 0 0, .slice none 0 0, .slice none 0 0] 26)
  have hM := Blk.new ((w.alloc (.cells #[.slice A1 n1 c1, .slice A2 n2 c2, .slice A3 n3 c3, .slice A4 n4 c4] 26)).alloc (.cells #[.slice B1 m1 d1, .slice B2 m2 d2, .slice B3 m3 d3, .slice B4 m4 d4] 26)) 26 #[.slice none 0 0, .slice none 0 0, .slice none 0 0, .slice none 0 0]
  simp only [World.size_alloc] at hY hM
  obtain ⟨W0, hW0⟩ : ∃ W0, W0 = ((w.alloc (.cells #[.slice A1 n1 c1, .slice A2 n2 c2, .slice A3 n3 c3, .slice A4 n4 c4] 26)).alloc (.cells #[.slice B1 m1 d1, .slice B2 m2 d2, .slice B3 m3 d3, .slice B4 m4 d4] 26)).alloc (.cells #[.slice none 0 0, .slice none 0 0, .slice none 0 0, .slice none 0 0] 26) := ⟨_, rfl⟩
  have hs0 : W0.heap.size = w.heap.size + 1 + 1 + 1 := by rw [hW0]; simp
  rw [← hW0] at hb0 hX hY hM
  have hN0 := hN.go hb0
  have hN1 := hN'.go hb0
  have G1 := refNoteFormed_any ⟨A1, n1, c1, A2, n2, c2, A3, n3, c3, A4, n4, c4⟩ x W0 hN0
  have G2 := fun (W : World) (hb : Below W0.heap.size W0 W) => refNoteFormed_any ⟨B1, m1, d1, B2, m2, d2, B3, m3, d3, B4, m4, d4⟩ y W (hN1.go hb)
  dsimp only [NV.val] at G1 G2 ⊢
  have HB := Lib.hid hb0
  have HX := Lib.hid hX
  have HY := Lib.hid hY
  have HM := Lib.hid hM
  have HW := Lib.hid hW0.symm
  obtain ⟨zz, hii⟩ := zero_of_info notes_zero
  have HI := Lib.hid hii
  rw [hf] at G1
  rw [hf2] at G2
  have G1 := Lib.hid G1
  have G2 := Lib.hid G2
  obtain ⟨i0, hi0, hz0, hz1, hz2⟩ := info_parts writes_info
  obtain ⟨_, hi64⟩ := zero_of_info zero_array
  obtain ⟨_, hmi⟩ := zero_of_info zero_marks
  have HI64 := Lib.hid hi64
  have HMI := Lib.hid hmi
  obtain ⟨f1, f2, f3, f4, f5⟩ := ntF_parts hf
  obtain ⟨l1, r1, l2, r2, l3, r3, l4, r4⟩ := hN0
  obtain ⟨k1, s1, k2, s2, k3, s3, k4, s4⟩ := hN1
  dsimp only at l1 r1 l2 r2 l3 r3 l4 r4 k1 s1 k2 s2 k3 s3 k4 s4
  have C1 := fun (V : World) (hb : Below W0.heap.size W0 V) => refCounts_any A1 n1 c1 x.s V l1 (r1.go hb)
  have C2 := fun (V : World) (hb : Below W0.heap.size W0 V) => refCounts_any A2 n2 c2 x.e V l2 (r2.go hb)
  have C3 := fun (V : World) (hb : Below W0.heap.size W0 V) => refCounts_any B1 m1 d1 y.s V k1 (s1.go hb)
  have GT := fun (V : World) (hb : Below W0.heap.size W0 V) => refTwo_any A2 B2 n2 c2 m2 d2 x.e y.e V l2 k2 (r2.go hb) (s2.go hb)
  have GS := fun (V : World) (hb : Below W0.heap.size W0 V) => refTwoS_any A3 B3 n3 c3 m3 d3 x.b y.b V l3 k3 (r3.go hb) (s3.go hb)
  have HA1 := Lib.hid fun (V : World) (hb : Below W0.heap.size W0 V) (ob : Int) => refAt_any A4 n4 c4 x.w ob V l4 (r4.go hb)
  have HA2 := Lib.hid fun (V : World) (hb : Below W0.heap.size W0 V) (ob : Int) => refAt_any B4 m4 d4 y.w ob V k4 (s4.go hb)
  have HS := Lib.hid fun W (hb : Below W0.heap.size W0 W) => (show (W.cell? ⟨w.heap.size, 0, none⟩ = some (.slice A1 n1 c1) ∧ W.cell? ⟨w.heap.size, 1, none⟩ = some (.slice A2 n2 c2) ∧ W.cell? ⟨w.heap.size, 2, none⟩ = some (.slice A3 n3 c3) ∧ W.cell? ⟨w.heap.size, 3, none⟩ = some (.slice A4 n4 c4)) ∧
      (W.cell? ⟨w.heap.size + 1, 0, none⟩ = some (.slice B1 m1 d1) ∧ W.cell? ⟨w.heap.size + 1, 1, none⟩ = some (.slice B2 m2 d2) ∧ W.cell? ⟨w.heap.size + 1, 2, none⟩ = some (.slice B3 m3 d3) ∧ W.cell? ⟨w.heap.size + 1, 3, none⟩ = some (.slice B4 m4 d4)) from
    ⟨⟨(hX.go hb).cell 0, (hX.go hb).cell 1, (hX.go hb).cell 2, (hX.go hb).cell 3⟩, ⟨(hY.go hb).cell 0, (hY.go hb).cell 1, (hY.go hb).cell 2, (hY.go hb).cell 3⟩⟩)
  obtain ⟨EL, hEL⟩ : ∃ EL, EL = vec (jn [x.e, y.e]) := ⟨_, rfl⟩
  obtain ⟨BL, hBL⟩ : ∃ BL, BL = mrgB x y := ⟨_, rfl⟩
  have hBL2 : Sn.tidy (x.b ++ y.b) = BL := by rw [hBL]; rfl
  rw [hBL2] at GS
  simp only [← hEL] at GT
  have GT := Lib.hid GT
  have GS := Lib.hid GS
  obtain ⟨G, hG⟩ : ∃ G, G = bC x.s x.e y.s := ⟨_, rfl⟩
  have hGn : ∀ m, G m = if Vc.cnt x.e m < Vc.cnt y.s m then Vc.cnt y.s m else Vc.cnt x.s m := fun m => by rw [hG]; rfl
  obtain ⟨f1', hf1⟩ : ∃ f, f = Vc.cnt x.s := ⟨_, rfl⟩
  obtain ⟨f2', hf2'⟩ : ∃ f, f = Vc.cnt x.e := ⟨_, rfl⟩
  obtain ⟨f3', hf3⟩ : ∃ f, f = Vc.cnt y.s := ⟨_, rfl⟩
  simp only [← hf1] at C1
  simp only [← hf2'] at C2
  simp only [← hf3] at C3
  rw [← hf1, ← hf2', ← hf3] at hGn
  have C1 := Lib.hid C1
  have C2 := Lib.hid C2
  have C3 := Lib.hid C3
  have HGN := Lib.hid hGn
  obtain ⟨SL, hSL⟩ : ∃ SL, SL = vec G := ⟨_, rfl⟩
  have GO := fun (V : World) => refOf_any G V
  simp only [← hSL] at GO
  have GO := Lib.hid GO
  have hne : mrgN x y = ⟨SL, EL, BL, mUp (mrgK x y) x.w y.w 256⟩ := by rw [hSL, hG, hEL, hBL]; rfl
  have HNE := Lib.hid hne
  have HK := Lib.hid (show ∀ m : Nat, m < 256 → mrgK x y (m : Int) = !Sn.setOf BL m from fun m hm => by
    rw [hBL]
    unfold mrgK hasO Sn.setOf
    have h1 : decide ((0 : Int) ≤ (m : Int)) = true := by simp
    have h2 : decide ((m : Int) ≤ 255) = true := by simp; omega
    rw [h1, h2]; simp)
  have HU := Lib.hid (mUp_next (mrgK x y) x.w y.w)
  have HUL := Lib.hid (mUp_len (mrgK x y) x.w y.w)
  have HS0 := Lib.hid hs0
  have h1max : 1 ≤ maxLen := by unfold maxLen; omega
  clear hf hf2 hN hN' hb0 hX hY hM hW0 hii hi64 hmi f1 f2 f3 f4 f5 l1 r1 l2 r2 l3 r3 l4 r4 k1 s1 k2 s2 k3 s3 k4 s4 hEL hBL hBL2 hG hGn hf1 hf2' hf3 hSL hne hs0
  go_enter Tryd.func16, Tryd.ntmps16
  go_wp2_with fail
  rw [HW.out]
  obtain ⟨q0, q1, q2, q3⟩ := HX.out.four4
  go_wp2_with fail
  refine G1.out.mono ?_
  rintro e w1 ⟨rfl, hb1⟩
  clear q0 q1 q2 q3
  obtain ⟨q0, q1, q2, q3⟩ := (HY.out.go hb1).four4
  go_wp2_with fail
  refine (G2.out _ hb1).mono ?_
  rintro e w2 ⟨rfl, hb2⟩
  clear q0 q1 q2 q3
  have k := (below_then hb1 (Nat.le_refl _) hb2).drew
  clear hb1 hb2
  go_upto_region 3 with fail
  go_cut [6, 7, 8] (fun v6 v7 v8 wx => ∃ (g6 g7 g8 : Nat), v6 = .pointer (some ⟨g6, 0, none⟩) ∧ v7 = .pointer (some ⟨g7, 0, none⟩) ∧ v8 = .pointer (some ⟨g8, 0, none⟩) ∧ Hid (W0.heap.size ≤ g6 ∧ g6 ≠ g7 ∧ g6 ≠ g8 ∧ Below W0.heap.size W0 wx ∧ Blk wx g6 83 (a64 f1') ∧ Blk wx g7 83 (a64 f2') ∧ Blk wx g8 83 (a64 f3')))
  case first =>
    refine region_nrm fun KK hKK => ?_
    refine wp_region_held_drew (S := (fun W => (W.cell? ⟨w.heap.size, 0, none⟩ = some (.slice A1 n1 c1) ∧ W.cell? ⟨w.heap.size, 1, none⟩ = some (.slice A2 n2 c2) ∧ W.cell? ⟨w.heap.size, 2, none⟩ = some (.slice A3 n3 c3) ∧ W.cell? ⟨w.heap.size, 3, none⟩ = some (.slice A4 n4 c4)) ∧ (W.cell? ⟨w.heap.size + 1, 0, none⟩ = some (.slice B1 m1 d1) ∧ W.cell? ⟨w.heap.size + 1, 1, none⟩ = some (.slice B2 m2 d2) ∧ W.cell? ⟨w.heap.size + 1, 2, none⟩ = some (.slice B3 m3 d3) ∧ W.cell? ⟨w.heap.size + 1, 3, none⟩ = some (.slice B4 m4 d4)))) (by kernel_rfl) (by first | exact HS.out _ k) (fun hHeld => ?_)
    obtain ⟨V, hV⟩ : ∃ V, V = w2.drew := ⟨_, rfl⟩
    rw [← hV] at k ⊢
    clear hV
    refine wpAnyH_putD (i := 0) (d := 26) (v := ?_) rfl rfl (by kernel_rfl) (by kernel_rfl) (by kernel_rfl) (fun _ _ _ h => h) (Or.inl ⟨by kernel_rfl, ?_⟩) (by first | exact HS.out _ k) ?_
    rotate_left
    · (intro w hS; (try dsimp only at hS); go_simp <;> with_reducible rfl)
    try simp only [List.setIfInBounds_toArray, List.set_cons_zero, List.set_cons_succ]
    refine wpAnyH_putD (i := 1) (d := 27) (v := ?_) rfl rfl (by kernel_rfl) (by kernel_rfl) (by kernel_rfl) (fun _ _ _ h => h) (Or.inl ⟨by kernel_rfl, ?_⟩) (by first | exact HS.out _ k) ?_
    rotate_left
    · (intro w hS; (try dsimp only at hS); go_simp <;> with_reducible rfl)
    try simp only [List.setIfInBounds_toArray, List.set_cons_zero, List.set_cons_succ]
    refine wpAnyH_putD (i := 3) (d := 29) (v := ?_) rfl rfl (by kernel_rfl) (by kernel_rfl) (by kernel_rfl) (fun _ _ _ h => h) (Or.inl ⟨by kernel_rfl, ?_⟩) (by first | exact HS.out _ k) ?_
    rotate_left
    · (intro w hS; (try dsimp only at hS); go_simp <;> with_reducible rfl)
    try simp only [List.setIfInBounds_toArray, List.set_cons_zero, List.set_cons_succ]
    refine wpAnyH_putD (i := 4) (d := 30) (v := ?_) rfl rfl (by kernel_rfl) (by kernel_rfl) (by kernel_rfl) (fun _ _ _ h => h) (Or.inl ⟨by kernel_rfl, ?_⟩) (by first | exact HS.out _ k) ?_
    rotate_left
    · (intro w hS; (try dsimp only at hS); go_simp <;> with_reducible rfl)
    try simp only [List.setIfInBounds_toArray, List.set_cons_zero, List.set_cons_succ]
    refine wpAnyH_putD (i := 6) (d := 32) (v := ?_) rfl rfl (by kernel_rfl) (by kernel_rfl) (by kernel_rfl) (fun _ _ _ h => h) (Or.inl ⟨by kernel_rfl, ?_⟩) (by first | exact HS.out _ k) ?_
    rotate_left
    · (intro w hS; (try dsimp only at hS); go_simp <;> with_reducible rfl)
    try simp only [List.setIfInBounds_toArray, List.set_cons_zero, List.set_cons_succ]
    refine wpAnyH_putD (i := 7) (d := 33) (v := ?_) rfl rfl (by kernel_rfl) (by kernel_rfl) (by kernel_rfl) (fun _ _ _ h => h) (Or.inl ⟨by kernel_rfl, ?_⟩) (by first | exact HS.out _ k) ?_
    rotate_left
    · (intro w hS; (try dsimp only at hS); go_simp <;> with_reducible rfl)
    try simp only [List.setIfInBounds_toArray, List.set_cons_zero, List.set_cons_succ]
    apply mg3 (fun V g6 g7 g8 => Below W0.heap.size W0 V ∧ W0.heap.size ≤ g6 ∧ W0.heap.size ≤ g7 ∧ W0.heap.size ≤ g8 ∧ g6 ≠ g7 ∧ g6 ≠ g8 ∧ g7 ≠ g8 ∧ Blk V g6 83 (a64 fun _ => 0) ∧ Blk V g7 83 (a64 fun _ => 0) ∧ Blk V g8 83 (a64 fun _ => 0))
    intro E3_678
    apply mg2 (fun V g7 g8 => Below W0.heap.size W0 V ∧ W0.heap.size ≤ g7 ∧ W0.heap.size ≤ g8 ∧ g7 ≠ g8 ∧ Blk V g7 83 (a64 fun _ => 0) ∧ Blk V g8 83 (a64 fun _ => 0))
    intro E3_78
    apply mg2 (fun V g6 g8 => Below W0.heap.size W0 V ∧ W0.heap.size ≤ g6 ∧ W0.heap.size ≤ g8 ∧ g6 ≠ g8 ∧ Blk V g6 83 (a64 fun _ => 0) ∧ Blk V g8 83 (a64 fun _ => 0))
    intro E3_68
    apply mg2 (fun V g6 g7 => Below W0.heap.size W0 V ∧ W0.heap.size ≤ g6 ∧ W0.heap.size ≤ g7 ∧ g6 ≠ g7 ∧ Blk V g6 83 (a64 fun _ => 0) ∧ Blk V g7 83 (a64 fun _ => 0))
    intro E3_67
    apply mg3 (fun V g6 g7 g8 => Below W0.heap.size W0 V ∧ W0.heap.size ≤ g6 ∧ W0.heap.size ≤ g7 ∧ W0.heap.size ≤ g8 ∧ g6 ≠ g7 ∧ g6 ≠ g8 ∧ g7 ≠ g8 ∧ Blk V g6 83 (a64 fun _ => 0) ∧ Blk V g7 83 (a64 fun _ => 0) ∧ Blk V g8 83 (a64 fun _ => 0))
    intro E2_678
    apply mg1 (fun V g8 => Below W0.heap.size W0 V ∧ W0.heap.size ≤ g8 ∧ Blk V g8 83 (a64 fun _ => 0))
    intro E3_8
    apply mg1 (fun V g7 => Below W0.heap.size W0 V ∧ W0.heap.size ≤ g7 ∧ Blk V g7 83 (a64 fun _ => 0))
    intro E3_7
    apply mg1 (fun V g6 => Below W0.heap.size W0 V ∧ W0.heap.size ≤ g6 ∧ Blk V g6 83 (a64 fun _ => 0))
    intro E3_6
    apply mg2 (fun V g7 g8 => Below W0.heap.size W0 V ∧ W0.heap.size ≤ g7 ∧ W0.heap.size ≤ g8 ∧ g7 ≠ g8 ∧ Blk V g7 83 (a64 fun _ => 0) ∧ Blk V g8 83 (a64 fun _ => 0))
    intro E2_78
    apply mg2 (fun V g6 g8 => Below W0.heap.size W0 V ∧ W0.heap.size ≤ g6 ∧ W0.heap.size ≤ g8 ∧ g6 ≠ g8 ∧ Blk V g6 83 (a64 fun _ => 0) ∧ Blk V g8 83 (a64 fun _ => 0))
    intro E2_68
    apply mg2 (fun V g6 g7 => Below W0.heap.size W0 V ∧ W0.heap.size ≤ g6 ∧ W0.heap.size ≤ g7 ∧ g6 ≠ g7 ∧ Blk V g6 83 (a64 fun _ => 0) ∧ Blk V g7 83 (a64 fun _ => 0))
    intro E2_67
    apply mg3 (fun V g6 g7 g8 => Below W0.heap.size W0 V ∧ W0.heap.size ≤ g6 ∧ W0.heap.size ≤ g7 ∧ W0.heap.size ≤ g8 ∧ g6 ≠ g7 ∧ g6 ≠ g8 ∧ g7 ≠ g8 ∧ Blk V g6 83 (a64 fun _ => 0) ∧ Blk V g7 83 (a64 fun _ => 0) ∧ Blk V g8 83 (a64 fun _ => 0))
    intro E1_678
    apply mg0 (fun V => Below W0.heap.size W0 V)
    intro E3_
    apply mg1 (fun V g8 => Below W0.heap.size W0 V ∧ W0.heap.size ≤ g8 ∧ Blk V g8 83 (a64 fun _ => 0))
    intro E2_8
    apply mg1 (fun V g7 => Below W0.heap.size W0 V ∧ W0.heap.size ≤ g7 ∧ Blk V g7 83 (a64 fun _ => 0))
    intro E2_7
    apply mg1 (fun V g6 => Below W0.heap.size W0 V ∧ W0.heap.size ≤ g6 ∧ Blk V g6 83 (a64 fun _ => 0))
    intro E2_6
    apply mg2 (fun V g7 g8 => Below W0.heap.size W0 V ∧ W0.heap.size ≤ g7 ∧ W0.heap.size ≤ g8 ∧ g7 ≠ g8 ∧ Blk V g7 83 (a64 fun _ => 0) ∧ Blk V g8 83 (a64 fun _ => 0))
    intro E1_78
    apply mg2 (fun V g6 g8 => Below W0.heap.size W0 V ∧ W0.heap.size ≤ g6 ∧ W0.heap.size ≤ g8 ∧ g6 ≠ g8 ∧ Blk V g6 83 (a64 fun _ => 0) ∧ Blk V g8 83 (a64 fun _ => 0))
    intro E1_68
    apply mg2 (fun V g6 g7 => Below W0.heap.size W0 V ∧ W0.heap.size ≤ g6 ∧ W0.heap.size ≤ g7 ∧ g6 ≠ g7 ∧ Blk V g6 83 (a64 fun _ => 0) ∧ Blk V g7 83 (a64 fun _ => 0))
    intro E1_67
    apply mg3 (fun V g6 g7 g8 => Below W0.heap.size W0 V ∧ W0.heap.size ≤ g6 ∧ W0.heap.size ≤ g7 ∧ W0.heap.size ≤ g8 ∧ g6 ≠ g7 ∧ g6 ≠ g8 ∧ g7 ≠ g8 ∧ Blk V g6 83 (a64 fun _ => 0) ∧ Blk V g7 83 (a64 fun _ => 0) ∧ Blk V g8 83 (a64 fun _ => 0))
    intro E0_678
    apply mg0 (fun V => Below W0.heap.size W0 V)
    intro E2_
    apply mg1 (fun V g8 => Below W0.heap.size W0 V ∧ W0.heap.size ≤ g8 ∧ Blk V g8 83 (a64 fun _ => 0))
    intro E1_8
    apply mg1 (fun V g7 => Below W0.heap.size W0 V ∧ W0.heap.size ≤ g7 ∧ Blk V g7 83 (a64 fun _ => 0))
    intro E1_7
    apply mg1 (fun V g6 => Below W0.heap.size W0 V ∧ W0.heap.size ≤ g6 ∧ Blk V g6 83 (a64 fun _ => 0))
    intro E1_6
    apply mg2 (fun V g7 g8 => Below W0.heap.size W0 V ∧ W0.heap.size ≤ g7 ∧ W0.heap.size ≤ g8 ∧ g7 ≠ g8 ∧ Blk V g7 83 (a64 fun _ => 0) ∧ Blk V g8 83 (a64 fun _ => 0))
    intro E0_78
    apply mg2 (fun V g6 g8 => Below W0.heap.size W0 V ∧ W0.heap.size ≤ g6 ∧ W0.heap.size ≤ g8 ∧ g6 ≠ g8 ∧ Blk V g6 83 (a64 fun _ => 0) ∧ Blk V g8 83 (a64 fun _ => 0))
    intro E0_68
    apply mg2 (fun V g6 g7 => Below W0.heap.size W0 V ∧ W0.heap.size ≤ g6 ∧ W0.heap.size ≤ g7 ∧ g6 ≠ g7 ∧ Blk V g6 83 (a64 fun _ => 0) ∧ Blk V g7 83 (a64 fun _ => 0))
    intro E0_67
    apply mg0 (fun V => Below W0.heap.size W0 V)
    intro E1_
    apply mg1 (fun V g8 => Below W0.heap.size W0 V ∧ W0.heap.size ≤ g8 ∧ Blk V g8 83 (a64 fun _ => 0))
    intro E0_8
    apply mg1 (fun V g7 => Below W0.heap.size W0 V ∧ W0.heap.size ≤ g7 ∧ Blk V g7 83 (a64 fun _ => 0))
    intro E0_7
    apply mg1 (fun V g6 => Below W0.heap.size W0 V ∧ W0.heap.size ≤ g6 ∧ Blk V g6 83 (a64 fun _ => 0))
    intro E0_6
    refine wpAnyH_ready (rs := [2, 9, 10, 11]) (by kernel_rfl) (by simp) ?_
    refine AllReadyH.cons rfl (fun K hK => ?_) (AllReadyH.cons rfl (fun K hK => ?_) (AllReadyH.cons rfl (fun K hK => ?_) (AllReadyH.cons rfl (fun K hK => ?_) AllReadyH.nil)))
    · go_simp
      refine (C1.out _ k).mono ?_
      rintro e V ⟨rfl, hb'⟩
      have k := below_then k (Nat.le_refl _) hb'
      refine hK.out _ _ (by first | exact HS.out _ k) (fun hHeld => ?_)
      try simp only [List.setIfInBounds_toArray, List.set_cons_zero, List.set_cons_succ]
      exact E1_.out V k
    · go_simp
      have hb' := then_alloc k (.cells (a64 fun _ => 0) 83)
      have G6 := blkOfT hb'
      have b6 := k.size
      have k := below_then k (Nat.le_refl _) hb'
      refine hK.out _ _ (by first | exact HS.out _ k) (fun hHeld => ?_)
      try simp only [List.setIfInBounds_toArray, List.set_cons_zero, List.set_cons_succ]
      clear hb'
      generalize V.alloc (.cells (a64 fun _ => 0) 83) = U at *
      generalize V.heap.size = g6 at *
      exact E0_6.out U g6 ⟨k, b6, G6⟩
    · go_simp
      have hb' := then_alloc k (.cells (a64 fun _ => 0) 83)
      have G7 := blkOfT hb'
      have b7 := k.size
      have k := below_then k (Nat.le_refl _) hb'
      refine hK.out _ _ (by first | exact HS.out _ k) (fun hHeld => ?_)
      try simp only [List.setIfInBounds_toArray, List.set_cons_zero, List.set_cons_succ]
      clear hb'
      generalize V.alloc (.cells (a64 fun _ => 0) 83) = U at *
      generalize V.heap.size = g7 at *
      exact E0_7.out U g7 ⟨k, b7, G7⟩
    · go_simp
      have hb' := then_alloc k (.cells (a64 fun _ => 0) 83)
      have G8 := blkOfT hb'
      have b8 := k.size
      have k := below_then k (Nat.le_refl _) hb'
      refine hK.out _ _ (by first | exact HS.out _ k) (fun hHeld => ?_)
      try simp only [List.setIfInBounds_toArray, List.set_cons_zero, List.set_cons_succ]
      clear hb'
      generalize V.alloc (.cells (a64 fun _ => 0) 83) = U at *
      generalize V.heap.size = g8 at *
      exact E0_8.out U g8 ⟨k, b8, G8⟩
    · intro V g6 hh
      obtain ⟨k, b6, G6⟩ := hh
      refine wpAnyH_ready (rs := [2, 10, 11]) (by kernel_rfl) (by simp) ?_
      refine AllReadyH.cons rfl (fun K hK => ?_) (AllReadyH.cons rfl (fun K hK => ?_) (AllReadyH.cons rfl (fun K hK => ?_) AllReadyH.nil))
      · go_simp
        refine (C1.out _ k).mono ?_
        rintro e V ⟨rfl, hb'⟩
        have k := below_then k (Nat.le_refl _) hb'
        have G6 := G6.go hb'
        refine hK.out _ _ (by first | exact HS.out _ k) (fun hHeld => ?_)
        try simp only [List.setIfInBounds_toArray, List.set_cons_zero, List.set_cons_succ]
        exact E1_6.out V g6 ⟨k, b6, G6⟩
      · go_simp
        have hb' := then_alloc k (.cells (a64 fun _ => 0) 83)
        have G7 := blkOfT hb'
        have b7 := k.size
        have d67 : g6 ≠ V.heap.size := Nat.ne_of_lt G6.lt
        have k := below_then k (Nat.le_refl _) hb'
        have G6 := G6.go hb'
        refine hK.out _ _ (by first | exact HS.out _ k) (fun hHeld => ?_)
        try simp only [List.setIfInBounds_toArray, List.set_cons_zero, List.set_cons_succ]
        clear hb'
        generalize V.alloc (.cells (a64 fun _ => 0) 83) = U at *
        generalize V.heap.size = g7 at *
        exact E0_67.out U g6 g7 ⟨k, b6, b7, d67, G6, G7⟩
      · go_simp
        have hb' := then_alloc k (.cells (a64 fun _ => 0) 83)
        have G8 := blkOfT hb'
        have b8 := k.size
        have d68 : g6 ≠ V.heap.size := Nat.ne_of_lt G6.lt
        have k := below_then k (Nat.le_refl _) hb'
        have G6 := G6.go hb'
        refine hK.out _ _ (by first | exact HS.out _ k) (fun hHeld => ?_)
        try simp only [List.setIfInBounds_toArray, List.set_cons_zero, List.set_cons_succ]
        clear hb'
        generalize V.alloc (.cells (a64 fun _ => 0) 83) = U at *
        generalize V.heap.size = g8 at *
        exact E0_68.out U g6 g8 ⟨k, b6, b8, d68, G6, G8⟩
    · intro V g7 hh
      obtain ⟨k, b7, G7⟩ := hh
      refine wpAnyH_ready (rs := [2, 9, 11]) (by kernel_rfl) (by simp) ?_
      refine AllReadyH.cons rfl (fun K hK => ?_) (AllReadyH.cons rfl (fun K hK => ?_) (AllReadyH.cons rfl (fun K hK => ?_) AllReadyH.nil))
      · go_simp
        refine (C1.out _ k).mono ?_
        rintro e V ⟨rfl, hb'⟩
        have k := below_then k (Nat.le_refl _) hb'
        have G7 := G7.go hb'
        refine hK.out _ _ (by first | exact HS.out _ k) (fun hHeld => ?_)
        try simp only [List.setIfInBounds_toArray, List.set_cons_zero, List.set_cons_succ]
        exact E1_7.out V g7 ⟨k, b7, G7⟩
      · go_simp
        have hb' := then_alloc k (.cells (a64 fun _ => 0) 83)
        have G6 := blkOfT hb'
        have b6 := k.size
        have d67 : V.heap.size ≠ g7 := Nat.ne_of_gt G7.lt
        have k := below_then k (Nat.le_refl _) hb'
        have G7 := G7.go hb'
        refine hK.out _ _ (by first | exact HS.out _ k) (fun hHeld => ?_)
        try simp only [List.setIfInBounds_toArray, List.set_cons_zero, List.set_cons_succ]
        clear hb'
        generalize V.alloc (.cells (a64 fun _ => 0) 83) = U at *
        generalize V.heap.size = g6 at *
        exact E0_67.out U g6 g7 ⟨k, b6, b7, d67, G6, G7⟩
      · go_simp
        have hb' := then_alloc k (.cells (a64 fun _ => 0) 83)
        have G8 := blkOfT hb'
        have b8 := k.size
        have d78 : g7 ≠ V.heap.size := Nat.ne_of_lt G7.lt
        have k := below_then k (Nat.le_refl _) hb'
        have G7 := G7.go hb'
        refine hK.out _ _ (by first | exact HS.out _ k) (fun hHeld => ?_)
        try simp only [List.setIfInBounds_toArray, List.set_cons_zero, List.set_cons_succ]
        clear hb'
        generalize V.alloc (.cells (a64 fun _ => 0) 83) = U at *
        generalize V.heap.size = g8 at *
        exact E0_78.out U g7 g8 ⟨k, b7, b8, d78, G7, G8⟩
    · intro V g8 hh
      obtain ⟨k, b8, G8⟩ := hh
      refine wpAnyH_ready (rs := [2, 9, 10]) (by kernel_rfl) (by simp) ?_
      refine AllReadyH.cons rfl (fun K hK => ?_) (AllReadyH.cons rfl (fun K hK => ?_) (AllReadyH.cons rfl (fun K hK => ?_) AllReadyH.nil))
      · go_simp
        refine (C1.out _ k).mono ?_
        rintro e V ⟨rfl, hb'⟩
        have k := below_then k (Nat.le_refl _) hb'
        have G8 := G8.go hb'
        refine hK.out _ _ (by first | exact HS.out _ k) (fun hHeld => ?_)
        try simp only [List.setIfInBounds_toArray, List.set_cons_zero, List.set_cons_succ]
        exact E1_8.out V g8 ⟨k, b8, G8⟩
      · go_simp
        have hb' := then_alloc k (.cells (a64 fun _ => 0) 83)
        have G6 := blkOfT hb'
        have b6 := k.size
        have d68 : V.heap.size ≠ g8 := Nat.ne_of_gt G8.lt
        have k := below_then k (Nat.le_refl _) hb'
        have G8 := G8.go hb'
        refine hK.out _ _ (by first | exact HS.out _ k) (fun hHeld => ?_)
        try simp only [List.setIfInBounds_toArray, List.set_cons_zero, List.set_cons_succ]
        clear hb'
        generalize V.alloc (.cells (a64 fun _ => 0) 83) = U at *
        generalize V.heap.size = g6 at *
        exact E0_68.out U g6 g8 ⟨k, b6, b8, d68, G6, G8⟩
      · go_simp
        have hb' := then_alloc k (.cells (a64 fun _ => 0) 83)
        have G7 := blkOfT hb'
        have b7 := k.size
        have d78 : V.heap.size ≠ g8 := Nat.ne_of_gt G8.lt
        have k := below_then k (Nat.le_refl _) hb'
        have G8 := G8.go hb'
        refine hK.out _ _ (by first | exact HS.out _ k) (fun hHeld => ?_)
        try simp only [List.setIfInBounds_toArray, List.set_cons_zero, List.set_cons_succ]
        clear hb'
        generalize V.alloc (.cells (a64 fun _ => 0) 83) = U at *
        generalize V.heap.size = g7 at *
        exact E0_78.out U g7 g8 ⟨k, b7, b8, d78, G7, G8⟩
    · intro V hh
      have k := hh
      refine wpAnyH_ready (rs := [5, 9, 10, 11]) (by kernel_rfl) (by simp) ?_
      refine AllReadyH.cons rfl (fun K hK => ?_) (AllReadyH.cons rfl (fun K hK => ?_) (AllReadyH.cons rfl (fun K hK => ?_) (AllReadyH.cons rfl (fun K hK => ?_) AllReadyH.nil)))
      · go_simp
        refine (C2.out _ k).mono ?_
        rintro e V ⟨rfl, hb'⟩
        have k := below_then k (Nat.le_refl _) hb'
        refine hK.out _ _ (by first | exact HS.out _ k) (fun hHeld => ?_)
        try simp only [List.setIfInBounds_toArray, List.set_cons_zero, List.set_cons_succ]
        exact E2_.out V k
      · go_simp
        have hb' := then_alloc k (.cells (a64 fun _ => 0) 83)
        have G6 := blkOfT hb'
        have b6 := k.size
        have k := below_then k (Nat.le_refl _) hb'
        refine hK.out _ _ (by first | exact HS.out _ k) (fun hHeld => ?_)
        try simp only [List.setIfInBounds_toArray, List.set_cons_zero, List.set_cons_succ]
        clear hb'
        generalize V.alloc (.cells (a64 fun _ => 0) 83) = U at *
        generalize V.heap.size = g6 at *
        exact E1_6.out U g6 ⟨k, b6, G6⟩
      · go_simp
        have hb' := then_alloc k (.cells (a64 fun _ => 0) 83)
        have G7 := blkOfT hb'
        have b7 := k.size
        have k := below_then k (Nat.le_refl _) hb'
        refine hK.out _ _ (by first | exact HS.out _ k) (fun hHeld => ?_)
        try simp only [List.setIfInBounds_toArray, List.set_cons_zero, List.set_cons_succ]
        clear hb'
        generalize V.alloc (.cells (a64 fun _ => 0) 83) = U at *
        generalize V.heap.size = g7 at *
        exact E1_7.out U g7 ⟨k, b7, G7⟩
      · go_simp
        have hb' := then_alloc k (.cells (a64 fun _ => 0) 83)
        have G8 := blkOfT hb'
        have b8 := k.size
        have k := below_then k (Nat.le_refl _) hb'
        refine hK.out _ _ (by first | exact HS.out _ k) (fun hHeld => ?_)
        try simp only [List.setIfInBounds_toArray, List.set_cons_zero, List.set_cons_succ]
        clear hb'
        generalize V.alloc (.cells (a64 fun _ => 0) 83) = U at *
        generalize V.heap.size = g8 at *
        exact E1_8.out U g8 ⟨k, b8, G8⟩
    · intro V g6 g7 hh
      obtain ⟨k, b6, b7, d67, G6, G7⟩ := hh
      refine wpAnyH_ready (rs := [2, 11]) (by kernel_rfl) (by simp) ?_
      refine AllReadyH.cons rfl (fun K hK => ?_) (AllReadyH.cons rfl (fun K hK => ?_) AllReadyH.nil)
      · go_simp
        refine (C1.out _ k).mono ?_
        rintro e V ⟨rfl, hb'⟩
        have k := below_then k (Nat.le_refl _) hb'
        have G6 := G6.go hb'
        have G7 := G7.go hb'
        refine hK.out _ _ (by first | exact HS.out _ k) (fun hHeld => ?_)
        try simp only [List.setIfInBounds_toArray, List.set_cons_zero, List.set_cons_succ]
        exact E1_67.out V g6 g7 ⟨k, b6, b7, d67, G6, G7⟩
      · go_simp
        have hb' := then_alloc k (.cells (a64 fun _ => 0) 83)
        have G8 := blkOfT hb'
        have b8 := k.size
        have d68 : g6 ≠ V.heap.size := Nat.ne_of_lt G6.lt
        have d78 : g7 ≠ V.heap.size := Nat.ne_of_lt G7.lt
        have k := below_then k (Nat.le_refl _) hb'
        have G6 := G6.go hb'
        have G7 := G7.go hb'
        refine hK.out _ _ (by first | exact HS.out _ k) (fun hHeld => ?_)
        try simp only [List.setIfInBounds_toArray, List.set_cons_zero, List.set_cons_succ]
        clear hb'
        generalize V.alloc (.cells (a64 fun _ => 0) 83) = U at *
        generalize V.heap.size = g8 at *
        exact E0_678.out U g6 g7 g8 ⟨k, b6, b7, b8, d67, d68, d78, G6, G7, G8⟩
    · intro V g6 g8 hh
      obtain ⟨k, b6, b8, d68, G6, G8⟩ := hh
      refine wpAnyH_ready (rs := [2, 10]) (by kernel_rfl) (by simp) ?_
      refine AllReadyH.cons rfl (fun K hK => ?_) (AllReadyH.cons rfl (fun K hK => ?_) AllReadyH.nil)
      · go_simp
        refine (C1.out _ k).mono ?_
        rintro e V ⟨rfl, hb'⟩
        have k := below_then k (Nat.le_refl _) hb'
        have G6 := G6.go hb'
        have G8 := G8.go hb'
        refine hK.out _ _ (by first | exact HS.out _ k) (fun hHeld => ?_)
        try simp only [List.setIfInBounds_toArray, List.set_cons_zero, List.set_cons_succ]
        exact E1_68.out V g6 g8 ⟨k, b6, b8, d68, G6, G8⟩
      · go_simp
        have hb' := then_alloc k (.cells (a64 fun _ => 0) 83)
        have G7 := blkOfT hb'
        have b7 := k.size
        have d67 : g6 ≠ V.heap.size := Nat.ne_of_lt G6.lt
        have d78 : V.heap.size ≠ g8 := Nat.ne_of_gt G8.lt
        have k := below_then k (Nat.le_refl _) hb'
        have G6 := G6.go hb'
        have G8 := G8.go hb'
        refine hK.out _ _ (by first | exact HS.out _ k) (fun hHeld => ?_)
        try simp only [List.setIfInBounds_toArray, List.set_cons_zero, List.set_cons_succ]
        clear hb'
        generalize V.alloc (.cells (a64 fun _ => 0) 83) = U at *
        generalize V.heap.size = g7 at *
        exact E0_678.out U g6 g7 g8 ⟨k, b6, b7, b8, d67, d68, d78, G6, G7, G8⟩
    · intro V g7 g8 hh
      obtain ⟨k, b7, b8, d78, G7, G8⟩ := hh
      refine wpAnyH_ready (rs := [2, 9]) (by kernel_rfl) (by simp) ?_
      refine AllReadyH.cons rfl (fun K hK => ?_) (AllReadyH.cons rfl (fun K hK => ?_) AllReadyH.nil)
      · go_simp
        refine (C1.out _ k).mono ?_
        rintro e V ⟨rfl, hb'⟩
        have k := below_then k (Nat.le_refl _) hb'
        have G7 := G7.go hb'
        have G8 := G8.go hb'
        refine hK.out _ _ (by first | exact HS.out _ k) (fun hHeld => ?_)
        try simp only [List.setIfInBounds_toArray, List.set_cons_zero, List.set_cons_succ]
        exact E1_78.out V g7 g8 ⟨k, b7, b8, d78, G7, G8⟩
      · go_simp
        have hb' := then_alloc k (.cells (a64 fun _ => 0) 83)
        have G6 := blkOfT hb'
        have b6 := k.size
        have d67 : V.heap.size ≠ g7 := Nat.ne_of_gt G7.lt
        have d68 : V.heap.size ≠ g8 := Nat.ne_of_gt G8.lt
        have k := below_then k (Nat.le_refl _) hb'
        have G7 := G7.go hb'
        have G8 := G8.go hb'
        refine hK.out _ _ (by first | exact HS.out _ k) (fun hHeld => ?_)
        try simp only [List.setIfInBounds_toArray, List.set_cons_zero, List.set_cons_succ]
        clear hb'
        generalize V.alloc (.cells (a64 fun _ => 0) 83) = U at *
        generalize V.heap.size = g6 at *
        exact E0_678.out U g6 g7 g8 ⟨k, b6, b7, b8, d67, d68, d78, G6, G7, G8⟩
    · intro V g6 hh
      obtain ⟨k, b6, G6⟩ := hh
      refine wpAnyH_ready (rs := [5, 10, 11]) (by kernel_rfl) (by simp) ?_
      refine AllReadyH.cons rfl (fun K hK => ?_) (AllReadyH.cons rfl (fun K hK => ?_) (AllReadyH.cons rfl (fun K hK => ?_) AllReadyH.nil))
      · go_simp
        refine (C2.out _ k).mono ?_
        rintro e V ⟨rfl, hb'⟩
        have k := below_then k (Nat.le_refl _) hb'
        have G6 := G6.go hb'
        refine hK.out _ _ (by first | exact HS.out _ k) (fun hHeld => ?_)
        try simp only [List.setIfInBounds_toArray, List.set_cons_zero, List.set_cons_succ]
        exact E2_6.out V g6 ⟨k, b6, G6⟩
      · go_simp
        have hb' := then_alloc k (.cells (a64 fun _ => 0) 83)
        have G7 := blkOfT hb'
        have b7 := k.size
        have d67 : g6 ≠ V.heap.size := Nat.ne_of_lt G6.lt
        have k := below_then k (Nat.le_refl _) hb'
        have G6 := G6.go hb'
        refine hK.out _ _ (by first | exact HS.out _ k) (fun hHeld => ?_)
        try simp only [List.setIfInBounds_toArray, List.set_cons_zero, List.set_cons_succ]
        clear hb'
        generalize V.alloc (.cells (a64 fun _ => 0) 83) = U at *
        generalize V.heap.size = g7 at *
        exact E1_67.out U g6 g7 ⟨k, b6, b7, d67, G6, G7⟩
      · go_simp
        have hb' := then_alloc k (.cells (a64 fun _ => 0) 83)
        have G8 := blkOfT hb'
        have b8 := k.size
        have d68 : g6 ≠ V.heap.size := Nat.ne_of_lt G6.lt
        have k := below_then k (Nat.le_refl _) hb'
        have G6 := G6.go hb'
        refine hK.out _ _ (by first | exact HS.out _ k) (fun hHeld => ?_)
        try simp only [List.setIfInBounds_toArray, List.set_cons_zero, List.set_cons_succ]
        clear hb'
        generalize V.alloc (.cells (a64 fun _ => 0) 83) = U at *
        generalize V.heap.size = g8 at *
        exact E1_68.out U g6 g8 ⟨k, b6, b8, d68, G6, G8⟩
    · intro V g7 hh
      obtain ⟨k, b7, G7⟩ := hh
      refine wpAnyH_ready (rs := [5, 9, 11]) (by kernel_rfl) (by simp) ?_
      refine AllReadyH.cons rfl (fun K hK => ?_) (AllReadyH.cons rfl (fun K hK => ?_) (AllReadyH.cons rfl (fun K hK => ?_) AllReadyH.nil))
      · go_simp
        refine (C2.out _ k).mono ?_
        rintro e V ⟨rfl, hb'⟩
        have k := below_then k (Nat.le_refl _) hb'
        have G7 := G7.go hb'
        refine hK.out _ _ (by first | exact HS.out _ k) (fun hHeld => ?_)
        try simp only [List.setIfInBounds_toArray, List.set_cons_zero, List.set_cons_succ]
        exact E2_7.out V g7 ⟨k, b7, G7⟩
      · go_simp
        have hb' := then_alloc k (.cells (a64 fun _ => 0) 83)
        have G6 := blkOfT hb'
        have b6 := k.size
        have d67 : V.heap.size ≠ g7 := Nat.ne_of_gt G7.lt
        have k := below_then k (Nat.le_refl _) hb'
        have G7 := G7.go hb'
        refine hK.out _ _ (by first | exact HS.out _ k) (fun hHeld => ?_)
        try simp only [List.setIfInBounds_toArray, List.set_cons_zero, List.set_cons_succ]
        clear hb'
        generalize V.alloc (.cells (a64 fun _ => 0) 83) = U at *
        generalize V.heap.size = g6 at *
        exact E1_67.out U g6 g7 ⟨k, b6, b7, d67, G6, G7⟩
      · go_simp
        have hb' := then_alloc k (.cells (a64 fun _ => 0) 83)
        have G8 := blkOfT hb'
        have b8 := k.size
        have d78 : g7 ≠ V.heap.size := Nat.ne_of_lt G7.lt
        have k := below_then k (Nat.le_refl _) hb'
        have G7 := G7.go hb'
        refine hK.out _ _ (by first | exact HS.out _ k) (fun hHeld => ?_)
        try simp only [List.setIfInBounds_toArray, List.set_cons_zero, List.set_cons_succ]
        clear hb'
        generalize V.alloc (.cells (a64 fun _ => 0) 83) = U at *
        generalize V.heap.size = g8 at *
        exact E1_78.out U g7 g8 ⟨k, b7, b8, d78, G7, G8⟩
    · intro V g8 hh
      obtain ⟨k, b8, G8⟩ := hh
      refine wpAnyH_ready (rs := [5, 9, 10]) (by kernel_rfl) (by simp) ?_
      refine AllReadyH.cons rfl (fun K hK => ?_) (AllReadyH.cons rfl (fun K hK => ?_) (AllReadyH.cons rfl (fun K hK => ?_) AllReadyH.nil))
      · go_simp
        refine (C2.out _ k).mono ?_
        rintro e V ⟨rfl, hb'⟩
        have k := below_then k (Nat.le_refl _) hb'
        have G8 := G8.go hb'
        refine hK.out _ _ (by first | exact HS.out _ k) (fun hHeld => ?_)
        try simp only [List.setIfInBounds_toArray, List.set_cons_zero, List.set_cons_succ]
        exact E2_8.out V g8 ⟨k, b8, G8⟩
      · go_simp
        have hb' := then_alloc k (.cells (a64 fun _ => 0) 83)
        have G6 := blkOfT hb'
        have b6 := k.size
        have d68 : V.heap.size ≠ g8 := Nat.ne_of_gt G8.lt
        have k := below_then k (Nat.le_refl _) hb'
        have G8 := G8.go hb'
        refine hK.out _ _ (by first | exact HS.out _ k) (fun hHeld => ?_)
        try simp only [List.setIfInBounds_toArray, List.set_cons_zero, List.set_cons_succ]
        clear hb'
        generalize V.alloc (.cells (a64 fun _ => 0) 83) = U at *
        generalize V.heap.size = g6 at *
        exact E1_68.out U g6 g8 ⟨k, b6, b8, d68, G6, G8⟩
      · go_simp
        have hb' := then_alloc k (.cells (a64 fun _ => 0) 83)
        have G7 := blkOfT hb'
        have b7 := k.size
        have d78 : V.heap.size ≠ g8 := Nat.ne_of_gt G8.lt
        have k := below_then k (Nat.le_refl _) hb'
        have G8 := G8.go hb'
        refine hK.out _ _ (by first | exact HS.out _ k) (fun hHeld => ?_)
        try simp only [List.setIfInBounds_toArray, List.set_cons_zero, List.set_cons_succ]
        clear hb'
        generalize V.alloc (.cells (a64 fun _ => 0) 83) = U at *
        generalize V.heap.size = g7 at *
        exact E1_78.out U g7 g8 ⟨k, b7, b8, d78, G7, G8⟩
    · intro V hh
      have k := hh
      refine wpAnyH_ready (rs := [8, 9, 10, 11]) (by kernel_rfl) (by simp) ?_
      refine AllReadyH.cons rfl (fun K hK => ?_) (AllReadyH.cons rfl (fun K hK => ?_) (AllReadyH.cons rfl (fun K hK => ?_) (AllReadyH.cons rfl (fun K hK => ?_) AllReadyH.nil)))
      · go_simp
        refine (C3.out _ k).mono ?_
        rintro e V ⟨rfl, hb'⟩
        have k := below_then k (Nat.le_refl _) hb'
        refine hK.out _ _ (by first | exact HS.out _ k) (fun hHeld => ?_)
        try simp only [List.setIfInBounds_toArray, List.set_cons_zero, List.set_cons_succ]
        exact E3_.out V k
      · go_simp
        have hb' := then_alloc k (.cells (a64 fun _ => 0) 83)
        have G6 := blkOfT hb'
        have b6 := k.size
        have k := below_then k (Nat.le_refl _) hb'
        refine hK.out _ _ (by first | exact HS.out _ k) (fun hHeld => ?_)
        try simp only [List.setIfInBounds_toArray, List.set_cons_zero, List.set_cons_succ]
        clear hb'
        generalize V.alloc (.cells (a64 fun _ => 0) 83) = U at *
        generalize V.heap.size = g6 at *
        exact E2_6.out U g6 ⟨k, b6, G6⟩
      · go_simp
        have hb' := then_alloc k (.cells (a64 fun _ => 0) 83)
        have G7 := blkOfT hb'
        have b7 := k.size
        have k := below_then k (Nat.le_refl _) hb'
        refine hK.out _ _ (by first | exact HS.out _ k) (fun hHeld => ?_)
        try simp only [List.setIfInBounds_toArray, List.set_cons_zero, List.set_cons_succ]
        clear hb'
        generalize V.alloc (.cells (a64 fun _ => 0) 83) = U at *
        generalize V.heap.size = g7 at *
        exact E2_7.out U g7 ⟨k, b7, G7⟩
      · go_simp
        have hb' := then_alloc k (.cells (a64 fun _ => 0) 83)
        have G8 := blkOfT hb'
        have b8 := k.size
        have k := below_then k (Nat.le_refl _) hb'
        refine hK.out _ _ (by first | exact HS.out _ k) (fun hHeld => ?_)
        try simp only [List.setIfInBounds_toArray, List.set_cons_zero, List.set_cons_succ]
        clear hb'
        generalize V.alloc (.cells (a64 fun _ => 0) 83) = U at *
        generalize V.heap.size = g8 at *
        exact E2_8.out U g8 ⟨k, b8, G8⟩
    · intro V g6 g7 g8 hh
      obtain ⟨k, b6, b7, b8, d67, d68, d78, G6, G7, G8⟩ := hh
      refine wpAnyH_ready (rs := [2]) (by kernel_rfl) (by simp) ?_
      refine AllReadyH.cons rfl (fun K hK => ?_) AllReadyH.nil
      · go_simp
        refine (C1.out _ k).mono ?_
        rintro e V ⟨rfl, hb'⟩
        have k := below_then k (Nat.le_refl _) hb'
        have G6 := G6.go hb'
        have G7 := G7.go hb'
        have G8 := G8.go hb'
        refine hK.out _ _ (by first | exact HS.out _ k) (fun hHeld => ?_)
        try simp only [List.setIfInBounds_toArray, List.set_cons_zero, List.set_cons_succ]
        exact E1_678.out V g6 g7 g8 ⟨k, b6, b7, b8, d67, d68, d78, G6, G7, G8⟩
    · intro V g6 g7 hh
      obtain ⟨k, b6, b7, d67, G6, G7⟩ := hh
      refine wpAnyH_ready (rs := [5, 11]) (by kernel_rfl) (by simp) ?_
      refine AllReadyH.cons rfl (fun K hK => ?_) (AllReadyH.cons rfl (fun K hK => ?_) AllReadyH.nil)
      · go_simp
        refine (C2.out _ k).mono ?_
        rintro e V ⟨rfl, hb'⟩
        have k := below_then k (Nat.le_refl _) hb'
        have G6 := G6.go hb'
        have G7 := G7.go hb'
        refine hK.out _ _ (by first | exact HS.out _ k) (fun hHeld => ?_)
        try simp only [List.setIfInBounds_toArray, List.set_cons_zero, List.set_cons_succ]
        exact E2_67.out V g6 g7 ⟨k, b6, b7, d67, G6, G7⟩
      · go_simp
        have hb' := then_alloc k (.cells (a64 fun _ => 0) 83)
        have G8 := blkOfT hb'
        have b8 := k.size
        have d68 : g6 ≠ V.heap.size := Nat.ne_of_lt G6.lt
        have d78 : g7 ≠ V.heap.size := Nat.ne_of_lt G7.lt
        have k := below_then k (Nat.le_refl _) hb'
        have G6 := G6.go hb'
        have G7 := G7.go hb'
        refine hK.out _ _ (by first | exact HS.out _ k) (fun hHeld => ?_)
        try simp only [List.setIfInBounds_toArray, List.set_cons_zero, List.set_cons_succ]
        clear hb'
        generalize V.alloc (.cells (a64 fun _ => 0) 83) = U at *
        generalize V.heap.size = g8 at *
        exact E1_678.out U g6 g7 g8 ⟨k, b6, b7, b8, d67, d68, d78, G6, G7, G8⟩
    · intro V g6 g8 hh
      obtain ⟨k, b6, b8, d68, G6, G8⟩ := hh
      refine wpAnyH_ready (rs := [5, 10]) (by kernel_rfl) (by simp) ?_
      refine AllReadyH.cons rfl (fun K hK => ?_) (AllReadyH.cons rfl (fun K hK => ?_) AllReadyH.nil)
      · go_simp
        refine (C2.out _ k).mono ?_
        rintro e V ⟨rfl, hb'⟩
        have k := below_then k (Nat.le_refl _) hb'
        have G6 := G6.go hb'
        have G8 := G8.go hb'
        refine hK.out _ _ (by first | exact HS.out _ k) (fun hHeld => ?_)
        try simp only [List.setIfInBounds_toArray, List.set_cons_zero, List.set_cons_succ]
        exact E2_68.out V g6 g8 ⟨k, b6, b8, d68, G6, G8⟩
      · go_simp
        have hb' := then_alloc k (.cells (a64 fun _ => 0) 83)
        have G7 := blkOfT hb'
        have b7 := k.size
        have d67 : g6 ≠ V.heap.size := Nat.ne_of_lt G6.lt
        have d78 : V.heap.size ≠ g8 := Nat.ne_of_gt G8.lt
        have k := below_then k (Nat.le_refl _) hb'
        have G6 := G6.go hb'
        have G8 := G8.go hb'
        refine hK.out _ _ (by first | exact HS.out _ k) (fun hHeld => ?_)
        try simp only [List.setIfInBounds_toArray, List.set_cons_zero, List.set_cons_succ]
        clear hb'
        generalize V.alloc (.cells (a64 fun _ => 0) 83) = U at *
        generalize V.heap.size = g7 at *
        exact E1_678.out U g6 g7 g8 ⟨k, b6, b7, b8, d67, d68, d78, G6, G7, G8⟩
    · intro V g7 g8 hh
      obtain ⟨k, b7, b8, d78, G7, G8⟩ := hh
      refine wpAnyH_ready (rs := [5, 9]) (by kernel_rfl) (by simp) ?_
      refine AllReadyH.cons rfl (fun K hK => ?_) (AllReadyH.cons rfl (fun K hK => ?_) AllReadyH.nil)
      · go_simp
        refine (C2.out _ k).mono ?_
        rintro e V ⟨rfl, hb'⟩
        have k := below_then k (Nat.le_refl _) hb'
        have G7 := G7.go hb'
        have G8 := G8.go hb'
        refine hK.out _ _ (by first | exact HS.out _ k) (fun hHeld => ?_)
        try simp only [List.setIfInBounds_toArray, List.set_cons_zero, List.set_cons_succ]
        exact E2_78.out V g7 g8 ⟨k, b7, b8, d78, G7, G8⟩
      · go_simp
        have hb' := then_alloc k (.cells (a64 fun _ => 0) 83)
        have G6 := blkOfT hb'
        have b6 := k.size
        have d67 : V.heap.size ≠ g7 := Nat.ne_of_gt G7.lt
        have d68 : V.heap.size ≠ g8 := Nat.ne_of_gt G8.lt
        have k := below_then k (Nat.le_refl _) hb'
        have G7 := G7.go hb'
        have G8 := G8.go hb'
        refine hK.out _ _ (by first | exact HS.out _ k) (fun hHeld => ?_)
        try simp only [List.setIfInBounds_toArray, List.set_cons_zero, List.set_cons_succ]
        clear hb'
        generalize V.alloc (.cells (a64 fun _ => 0) 83) = U at *
        generalize V.heap.size = g6 at *
        exact E1_678.out U g6 g7 g8 ⟨k, b6, b7, b8, d67, d68, d78, G6, G7, G8⟩
    · intro V g6 hh
      obtain ⟨k, b6, G6⟩ := hh
      refine wpAnyH_ready (rs := [8, 10, 11]) (by kernel_rfl) (by simp) ?_
      refine AllReadyH.cons rfl (fun K hK => ?_) (AllReadyH.cons rfl (fun K hK => ?_) (AllReadyH.cons rfl (fun K hK => ?_) AllReadyH.nil))
      · go_simp
        refine (C3.out _ k).mono ?_
        rintro e V ⟨rfl, hb'⟩
        have k := below_then k (Nat.le_refl _) hb'
        have G6 := G6.go hb'
        refine hK.out _ _ (by first | exact HS.out _ k) (fun hHeld => ?_)
        try simp only [List.setIfInBounds_toArray, List.set_cons_zero, List.set_cons_succ]
        exact E3_6.out V g6 ⟨k, b6, G6⟩
      · go_simp
        have hb' := then_alloc k (.cells (a64 fun _ => 0) 83)
        have G7 := blkOfT hb'
        have b7 := k.size
        have d67 : g6 ≠ V.heap.size := Nat.ne_of_lt G6.lt
        have k := below_then k (Nat.le_refl _) hb'
        have G6 := G6.go hb'
        refine hK.out _ _ (by first | exact HS.out _ k) (fun hHeld => ?_)
        try simp only [List.setIfInBounds_toArray, List.set_cons_zero, List.set_cons_succ]
        clear hb'
        generalize V.alloc (.cells (a64 fun _ => 0) 83) = U at *
        generalize V.heap.size = g7 at *
        exact E2_67.out U g6 g7 ⟨k, b6, b7, d67, G6, G7⟩
      · go_simp
        have hb' := then_alloc k (.cells (a64 fun _ => 0) 83)
        have G8 := blkOfT hb'
        have b8 := k.size
        have d68 : g6 ≠ V.heap.size := Nat.ne_of_lt G6.lt
        have k := below_then k (Nat.le_refl _) hb'
        have G6 := G6.go hb'
        refine hK.out _ _ (by first | exact HS.out _ k) (fun hHeld => ?_)
        try simp only [List.setIfInBounds_toArray, List.set_cons_zero, List.set_cons_succ]
        clear hb'
        generalize V.alloc (.cells (a64 fun _ => 0) 83) = U at *
        generalize V.heap.size = g8 at *
        exact E2_68.out U g6 g8 ⟨k, b6, b8, d68, G6, G8⟩
    · intro V g7 hh
      obtain ⟨k, b7, G7⟩ := hh
      refine wpAnyH_ready (rs := [8, 9, 11]) (by kernel_rfl) (by simp) ?_
      refine AllReadyH.cons rfl (fun K hK => ?_) (AllReadyH.cons rfl (fun K hK => ?_) (AllReadyH.cons rfl (fun K hK => ?_) AllReadyH.nil))
      · go_simp
        refine (C3.out _ k).mono ?_
        rintro e V ⟨rfl, hb'⟩
        have k := below_then k (Nat.le_refl _) hb'
        have G7 := G7.go hb'
        refine hK.out _ _ (by first | exact HS.out _ k) (fun hHeld => ?_)
        try simp only [List.setIfInBounds_toArray, List.set_cons_zero, List.set_cons_succ]
        exact E3_7.out V g7 ⟨k, b7, G7⟩
      · go_simp
        have hb' := then_alloc k (.cells (a64 fun _ => 0) 83)
        have G6 := blkOfT hb'
        have b6 := k.size
        have d67 : V.heap.size ≠ g7 := Nat.ne_of_gt G7.lt
        have k := below_then k (Nat.le_refl _) hb'
        have G7 := G7.go hb'
        refine hK.out _ _ (by first | exact HS.out _ k) (fun hHeld => ?_)
        try simp only [List.setIfInBounds_toArray, List.set_cons_zero, List.set_cons_succ]
        clear hb'
        generalize V.alloc (.cells (a64 fun _ => 0) 83) = U at *
        generalize V.heap.size = g6 at *
        exact E2_67.out U g6 g7 ⟨k, b6, b7, d67, G6, G7⟩
      · go_simp
        have hb' := then_alloc k (.cells (a64 fun _ => 0) 83)
        have G8 := blkOfT hb'
        have b8 := k.size
        have d78 : g7 ≠ V.heap.size := Nat.ne_of_lt G7.lt
        have k := below_then k (Nat.le_refl _) hb'
        have G7 := G7.go hb'
        refine hK.out _ _ (by first | exact HS.out _ k) (fun hHeld => ?_)
        try simp only [List.setIfInBounds_toArray, List.set_cons_zero, List.set_cons_succ]
        clear hb'
        generalize V.alloc (.cells (a64 fun _ => 0) 83) = U at *
        generalize V.heap.size = g8 at *
        exact E2_78.out U g7 g8 ⟨k, b7, b8, d78, G7, G8⟩
    · intro V g8 hh
      obtain ⟨k, b8, G8⟩ := hh
      refine wpAnyH_ready (rs := [8, 9, 10]) (by kernel_rfl) (by simp) ?_
      refine AllReadyH.cons rfl (fun K hK => ?_) (AllReadyH.cons rfl (fun K hK => ?_) (AllReadyH.cons rfl (fun K hK => ?_) AllReadyH.nil))
      · go_simp
        refine (C3.out _ k).mono ?_
        rintro e V ⟨rfl, hb'⟩
        have k := below_then k (Nat.le_refl _) hb'
        have G8 := G8.go hb'
        refine hK.out _ _ (by first | exact HS.out _ k) (fun hHeld => ?_)
        try simp only [List.setIfInBounds_toArray, List.set_cons_zero, List.set_cons_succ]
        exact E3_8.out V g8 ⟨k, b8, G8⟩
      · go_simp
        have hb' := then_alloc k (.cells (a64 fun _ => 0) 83)
        have G6 := blkOfT hb'
        have b6 := k.size
        have d68 : V.heap.size ≠ g8 := Nat.ne_of_gt G8.lt
        have k := below_then k (Nat.le_refl _) hb'
        have G8 := G8.go hb'
        refine hK.out _ _ (by first | exact HS.out _ k) (fun hHeld => ?_)
        try simp only [List.setIfInBounds_toArray, List.set_cons_zero, List.set_cons_succ]
        clear hb'
        generalize V.alloc (.cells (a64 fun _ => 0) 83) = U at *
        generalize V.heap.size = g6 at *
        exact E2_68.out U g6 g8 ⟨k, b6, b8, d68, G6, G8⟩
      · go_simp
        have hb' := then_alloc k (.cells (a64 fun _ => 0) 83)
        have G7 := blkOfT hb'
        have b7 := k.size
        have d78 : V.heap.size ≠ g8 := Nat.ne_of_gt G8.lt
        have k := below_then k (Nat.le_refl _) hb'
        have G8 := G8.go hb'
        refine hK.out _ _ (by first | exact HS.out _ k) (fun hHeld => ?_)
        try simp only [List.setIfInBounds_toArray, List.set_cons_zero, List.set_cons_succ]
        clear hb'
        generalize V.alloc (.cells (a64 fun _ => 0) 83) = U at *
        generalize V.heap.size = g7 at *
        exact E2_78.out U g7 g8 ⟨k, b7, b8, d78, G7, G8⟩
    · intro V hh
      have k := hh
      refine wpAnyH_ready (rs := [9, 10, 11]) (by kernel_rfl) (by simp) ?_
      refine AllReadyH.cons rfl (fun K hK => ?_) (AllReadyH.cons rfl (fun K hK => ?_) (AllReadyH.cons rfl (fun K hK => ?_) AllReadyH.nil))
      · go_simp
        have hb' := then_alloc k (.cells (a64 fun _ => 0) 83)
        have G6 := blkOfT hb'
        have b6 := k.size
        have k := below_then k (Nat.le_refl _) hb'
        refine hK.out _ _ (by first | exact HS.out _ k) (fun hHeld => ?_)
        try simp only [List.setIfInBounds_toArray, List.set_cons_zero, List.set_cons_succ]
        clear hb'
        generalize V.alloc (.cells (a64 fun _ => 0) 83) = U at *
        generalize V.heap.size = g6 at *
        exact E3_6.out U g6 ⟨k, b6, G6⟩
      · go_simp
        have hb' := then_alloc k (.cells (a64 fun _ => 0) 83)
        have G7 := blkOfT hb'
        have b7 := k.size
        have k := below_then k (Nat.le_refl _) hb'
        refine hK.out _ _ (by first | exact HS.out _ k) (fun hHeld => ?_)
        try simp only [List.setIfInBounds_toArray, List.set_cons_zero, List.set_cons_succ]
        clear hb'
        generalize V.alloc (.cells (a64 fun _ => 0) 83) = U at *
        generalize V.heap.size = g7 at *
        exact E3_7.out U g7 ⟨k, b7, G7⟩
      · go_simp
        have hb' := then_alloc k (.cells (a64 fun _ => 0) 83)
        have G8 := blkOfT hb'
        have b8 := k.size
        have k := below_then k (Nat.le_refl _) hb'
        refine hK.out _ _ (by first | exact HS.out _ k) (fun hHeld => ?_)
        try simp only [List.setIfInBounds_toArray, List.set_cons_zero, List.set_cons_succ]
        clear hb'
        generalize V.alloc (.cells (a64 fun _ => 0) 83) = U at *
        generalize V.heap.size = g8 at *
        exact E3_8.out U g8 ⟨k, b8, G8⟩
    · intro V g6 g7 g8 hh
      obtain ⟨k, b6, b7, b8, d67, d68, d78, G6, G7, G8⟩ := hh
      refine wpAnyH_ready (rs := [5]) (by kernel_rfl) (by simp) ?_
      refine AllReadyH.cons rfl (fun K hK => ?_) AllReadyH.nil
      · go_simp
        refine (C2.out _ k).mono ?_
        rintro e V ⟨rfl, hb'⟩
        have k := below_then k (Nat.le_refl _) hb'
        have G6 := G6.go hb'
        have G7 := G7.go hb'
        have G8 := G8.go hb'
        refine hK.out _ _ (by first | exact HS.out _ k) (fun hHeld => ?_)
        try simp only [List.setIfInBounds_toArray, List.set_cons_zero, List.set_cons_succ]
        exact E2_678.out V g6 g7 g8 ⟨k, b6, b7, b8, d67, d68, d78, G6, G7, G8⟩
    · intro V g6 g7 hh
      obtain ⟨k, b6, b7, d67, G6, G7⟩ := hh
      refine wpAnyH_ready (rs := [8, 11]) (by kernel_rfl) (by simp) ?_
      refine AllReadyH.cons rfl (fun K hK => ?_) (AllReadyH.cons rfl (fun K hK => ?_) AllReadyH.nil)
      · go_simp
        refine (C3.out _ k).mono ?_
        rintro e V ⟨rfl, hb'⟩
        have k := below_then k (Nat.le_refl _) hb'
        have G6 := G6.go hb'
        have G7 := G7.go hb'
        refine hK.out _ _ (by first | exact HS.out _ k) (fun hHeld => ?_)
        try simp only [List.setIfInBounds_toArray, List.set_cons_zero, List.set_cons_succ]
        exact E3_67.out V g6 g7 ⟨k, b6, b7, d67, G6, G7⟩
      · go_simp
        have hb' := then_alloc k (.cells (a64 fun _ => 0) 83)
        have G8 := blkOfT hb'
        have b8 := k.size
        have d68 : g6 ≠ V.heap.size := Nat.ne_of_lt G6.lt
        have d78 : g7 ≠ V.heap.size := Nat.ne_of_lt G7.lt
        have k := below_then k (Nat.le_refl _) hb'
        have G6 := G6.go hb'
        have G7 := G7.go hb'
        refine hK.out _ _ (by first | exact HS.out _ k) (fun hHeld => ?_)
        try simp only [List.setIfInBounds_toArray, List.set_cons_zero, List.set_cons_succ]
        clear hb'
        generalize V.alloc (.cells (a64 fun _ => 0) 83) = U at *
        generalize V.heap.size = g8 at *
        exact E2_678.out U g6 g7 g8 ⟨k, b6, b7, b8, d67, d68, d78, G6, G7, G8⟩
    · intro V g6 g8 hh
      obtain ⟨k, b6, b8, d68, G6, G8⟩ := hh
      refine wpAnyH_ready (rs := [8, 10]) (by kernel_rfl) (by simp) ?_
      refine AllReadyH.cons rfl (fun K hK => ?_) (AllReadyH.cons rfl (fun K hK => ?_) AllReadyH.nil)
      · go_simp
        refine (C3.out _ k).mono ?_
        rintro e V ⟨rfl, hb'⟩
        have k := below_then k (Nat.le_refl _) hb'
        have G6 := G6.go hb'
        have G8 := G8.go hb'
        refine hK.out _ _ (by first | exact HS.out _ k) (fun hHeld => ?_)
        try simp only [List.setIfInBounds_toArray, List.set_cons_zero, List.set_cons_succ]
        exact E3_68.out V g6 g8 ⟨k, b6, b8, d68, G6, G8⟩
      · go_simp
        have hb' := then_alloc k (.cells (a64 fun _ => 0) 83)
        have G7 := blkOfT hb'
        have b7 := k.size
        have d67 : g6 ≠ V.heap.size := Nat.ne_of_lt G6.lt
        have d78 : V.heap.size ≠ g8 := Nat.ne_of_gt G8.lt
        have k := below_then k (Nat.le_refl _) hb'
        have G6 := G6.go hb'
        have G8 := G8.go hb'
        refine hK.out _ _ (by first | exact HS.out _ k) (fun hHeld => ?_)
        try simp only [List.setIfInBounds_toArray, List.set_cons_zero, List.set_cons_succ]
        clear hb'
        generalize V.alloc (.cells (a64 fun _ => 0) 83) = U at *
        generalize V.heap.size = g7 at *
        exact E2_678.out U g6 g7 g8 ⟨k, b6, b7, b8, d67, d68, d78, G6, G7, G8⟩
    · intro V g7 g8 hh
      obtain ⟨k, b7, b8, d78, G7, G8⟩ := hh
      refine wpAnyH_ready (rs := [8, 9]) (by kernel_rfl) (by simp) ?_
      refine AllReadyH.cons rfl (fun K hK => ?_) (AllReadyH.cons rfl (fun K hK => ?_) AllReadyH.nil)
      · go_simp
        refine (C3.out _ k).mono ?_
        rintro e V ⟨rfl, hb'⟩
        have k := below_then k (Nat.le_refl _) hb'
        have G7 := G7.go hb'
        have G8 := G8.go hb'
        refine hK.out _ _ (by first | exact HS.out _ k) (fun hHeld => ?_)
        try simp only [List.setIfInBounds_toArray, List.set_cons_zero, List.set_cons_succ]
        exact E3_78.out V g7 g8 ⟨k, b7, b8, d78, G7, G8⟩
      · go_simp
        have hb' := then_alloc k (.cells (a64 fun _ => 0) 83)
        have G6 := blkOfT hb'
        have b6 := k.size
        have d67 : V.heap.size ≠ g7 := Nat.ne_of_gt G7.lt
        have d68 : V.heap.size ≠ g8 := Nat.ne_of_gt G8.lt
        have k := below_then k (Nat.le_refl _) hb'
        have G7 := G7.go hb'
        have G8 := G8.go hb'
        refine hK.out _ _ (by first | exact HS.out _ k) (fun hHeld => ?_)
        try simp only [List.setIfInBounds_toArray, List.set_cons_zero, List.set_cons_succ]
        clear hb'
        generalize V.alloc (.cells (a64 fun _ => 0) 83) = U at *
        generalize V.heap.size = g6 at *
        exact E2_678.out U g6 g7 g8 ⟨k, b6, b7, b8, d67, d68, d78, G6, G7, G8⟩
    · intro V g6 hh
      obtain ⟨k, b6, G6⟩ := hh
      refine wpAnyH_ready (rs := [10, 11]) (by kernel_rfl) (by simp) ?_
      refine AllReadyH.cons rfl (fun K hK => ?_) (AllReadyH.cons rfl (fun K hK => ?_) AllReadyH.nil)
      · go_simp
        have hb' := then_alloc k (.cells (a64 fun _ => 0) 83)
        have G7 := blkOfT hb'
        have b7 := k.size
        have d67 : g6 ≠ V.heap.size := Nat.ne_of_lt G6.lt
        have k := below_then k (Nat.le_refl _) hb'
        have G6 := G6.go hb'
        refine hK.out _ _ (by first | exact HS.out _ k) (fun hHeld => ?_)
        try simp only [List.setIfInBounds_toArray, List.set_cons_zero, List.set_cons_succ]
        clear hb'
        generalize V.alloc (.cells (a64 fun _ => 0) 83) = U at *
        generalize V.heap.size = g7 at *
        exact E3_67.out U g6 g7 ⟨k, b6, b7, d67, G6, G7⟩
      · go_simp
        have hb' := then_alloc k (.cells (a64 fun _ => 0) 83)
        have G8 := blkOfT hb'
        have b8 := k.size
        have d68 : g6 ≠ V.heap.size := Nat.ne_of_lt G6.lt
        have k := below_then k (Nat.le_refl _) hb'
        have G6 := G6.go hb'
        refine hK.out _ _ (by first | exact HS.out _ k) (fun hHeld => ?_)
        try simp only [List.setIfInBounds_toArray, List.set_cons_zero, List.set_cons_succ]
        clear hb'
        generalize V.alloc (.cells (a64 fun _ => 0) 83) = U at *
        generalize V.heap.size = g8 at *
        exact E3_68.out U g6 g8 ⟨k, b6, b8, d68, G6, G8⟩
    · intro V g7 hh
      obtain ⟨k, b7, G7⟩ := hh
      refine wpAnyH_ready (rs := [9, 11]) (by kernel_rfl) (by simp) ?_
      refine AllReadyH.cons rfl (fun K hK => ?_) (AllReadyH.cons rfl (fun K hK => ?_) AllReadyH.nil)
      · go_simp
        have hb' := then_alloc k (.cells (a64 fun _ => 0) 83)
        have G6 := blkOfT hb'
        have b6 := k.size
        have d67 : V.heap.size ≠ g7 := Nat.ne_of_gt G7.lt
        have k := below_then k (Nat.le_refl _) hb'
        have G7 := G7.go hb'
        refine hK.out _ _ (by first | exact HS.out _ k) (fun hHeld => ?_)
        try simp only [List.setIfInBounds_toArray, List.set_cons_zero, List.set_cons_succ]
        clear hb'
        generalize V.alloc (.cells (a64 fun _ => 0) 83) = U at *
        generalize V.heap.size = g6 at *
        exact E3_67.out U g6 g7 ⟨k, b6, b7, d67, G6, G7⟩
      · go_simp
        have hb' := then_alloc k (.cells (a64 fun _ => 0) 83)
        have G8 := blkOfT hb'
        have b8 := k.size
        have d78 : g7 ≠ V.heap.size := Nat.ne_of_lt G7.lt
        have k := below_then k (Nat.le_refl _) hb'
        have G7 := G7.go hb'
        refine hK.out _ _ (by first | exact HS.out _ k) (fun hHeld => ?_)
        try simp only [List.setIfInBounds_toArray, List.set_cons_zero, List.set_cons_succ]
        clear hb'
        generalize V.alloc (.cells (a64 fun _ => 0) 83) = U at *
        generalize V.heap.size = g8 at *
        exact E3_78.out U g7 g8 ⟨k, b7, b8, d78, G7, G8⟩
    · intro V g8 hh
      obtain ⟨k, b8, G8⟩ := hh
      refine wpAnyH_ready (rs := [9, 10]) (by kernel_rfl) (by simp) ?_
      refine AllReadyH.cons rfl (fun K hK => ?_) (AllReadyH.cons rfl (fun K hK => ?_) AllReadyH.nil)
      · go_simp
        have hb' := then_alloc k (.cells (a64 fun _ => 0) 83)
        have G6 := blkOfT hb'
        have b6 := k.size
        have d68 : V.heap.size ≠ g8 := Nat.ne_of_gt G8.lt
        have k := below_then k (Nat.le_refl _) hb'
        have G8 := G8.go hb'
        refine hK.out _ _ (by first | exact HS.out _ k) (fun hHeld => ?_)
        try simp only [List.setIfInBounds_toArray, List.set_cons_zero, List.set_cons_succ]
        clear hb'
        generalize V.alloc (.cells (a64 fun _ => 0) 83) = U at *
        generalize V.heap.size = g6 at *
        exact E3_68.out U g6 g8 ⟨k, b6, b8, d68, G6, G8⟩
      · go_simp
        have hb' := then_alloc k (.cells (a64 fun _ => 0) 83)
        have G7 := blkOfT hb'
        have b7 := k.size
        have d78 : V.heap.size ≠ g8 := Nat.ne_of_gt G8.lt
        have k := below_then k (Nat.le_refl _) hb'
        have G8 := G8.go hb'
        refine hK.out _ _ (by first | exact HS.out _ k) (fun hHeld => ?_)
        try simp only [List.setIfInBounds_toArray, List.set_cons_zero, List.set_cons_succ]
        clear hb'
        generalize V.alloc (.cells (a64 fun _ => 0) 83) = U at *
        generalize V.heap.size = g7 at *
        exact E3_78.out U g7 g8 ⟨k, b7, b8, d78, G7, G8⟩
    · intro V g6 g7 g8 hh
      obtain ⟨k, b6, b7, b8, d67, d68, d78, G6, G7, G8⟩ := hh
      refine wpAnyH_ready (rs := [8]) (by kernel_rfl) (by simp) ?_
      refine AllReadyH.cons rfl (fun K hK => ?_) AllReadyH.nil
      · go_simp
        refine (C3.out _ k).mono ?_
        rintro e V ⟨rfl, hb'⟩
        have k := below_then k (Nat.le_refl _) hb'
        have G6 := G6.go hb'
        have G7 := G7.go hb'
        have G8 := G8.go hb'
        refine hK.out _ _ (by first | exact HS.out _ k) (fun hHeld => ?_)
        try simp only [List.setIfInBounds_toArray, List.set_cons_zero, List.set_cons_succ]
        exact E3_678.out V g6 g7 g8 ⟨k, b6, b7, b8, d67, d68, d78, G6, G7, G8⟩
    · intro V g6 g7 hh
      obtain ⟨k, b6, b7, d67, G6, G7⟩ := hh
      refine wpAnyH_ready (rs := [11]) (by kernel_rfl) (by simp) ?_
      refine AllReadyH.cons rfl (fun K hK => ?_) AllReadyH.nil
      · go_simp
        have hb' := then_alloc k (.cells (a64 fun _ => 0) 83)
        have G8 := blkOfT hb'
        have b8 := k.size
        have d68 : g6 ≠ V.heap.size := Nat.ne_of_lt G6.lt
        have d78 : g7 ≠ V.heap.size := Nat.ne_of_lt G7.lt
        have k := below_then k (Nat.le_refl _) hb'
        have G6 := G6.go hb'
        have G7 := G7.go hb'
        refine hK.out _ _ (by first | exact HS.out _ k) (fun hHeld => ?_)
        try simp only [List.setIfInBounds_toArray, List.set_cons_zero, List.set_cons_succ]
        clear hb'
        generalize V.alloc (.cells (a64 fun _ => 0) 83) = U at *
        generalize V.heap.size = g8 at *
        exact E3_678.out U g6 g7 g8 ⟨k, b6, b7, b8, d67, d68, d78, G6, G7, G8⟩
    · intro V g6 g8 hh
      obtain ⟨k, b6, b8, d68, G6, G8⟩ := hh
      refine wpAnyH_ready (rs := [10]) (by kernel_rfl) (by simp) ?_
      refine AllReadyH.cons rfl (fun K hK => ?_) AllReadyH.nil
      · go_simp
        have hb' := then_alloc k (.cells (a64 fun _ => 0) 83)
        have G7 := blkOfT hb'
        have b7 := k.size
        have d67 : g6 ≠ V.heap.size := Nat.ne_of_lt G6.lt
        have d78 : V.heap.size ≠ g8 := Nat.ne_of_gt G8.lt
        have k := below_then k (Nat.le_refl _) hb'
        have G6 := G6.go hb'
        have G8 := G8.go hb'
        refine hK.out _ _ (by first | exact HS.out _ k) (fun hHeld => ?_)
        try simp only [List.setIfInBounds_toArray, List.set_cons_zero, List.set_cons_succ]
        clear hb'
        generalize V.alloc (.cells (a64 fun _ => 0) 83) = U at *
        generalize V.heap.size = g7 at *
        exact E3_678.out U g6 g7 g8 ⟨k, b6, b7, b8, d67, d68, d78, G6, G7, G8⟩
    · intro V g7 g8 hh
      obtain ⟨k, b7, b8, d78, G7, G8⟩ := hh
      refine wpAnyH_ready (rs := [9]) (by kernel_rfl) (by simp) ?_
      refine AllReadyH.cons rfl (fun K hK => ?_) AllReadyH.nil
      · go_simp
        have hb' := then_alloc k (.cells (a64 fun _ => 0) 83)
        have G6 := blkOfT hb'
        have b6 := k.size
        have d67 : V.heap.size ≠ g7 := Nat.ne_of_gt G7.lt
        have d68 : V.heap.size ≠ g8 := Nat.ne_of_gt G8.lt
        have k := below_then k (Nat.le_refl _) hb'
        have G7 := G7.go hb'
        have G8 := G8.go hb'
        refine hK.out _ _ (by first | exact HS.out _ k) (fun hHeld => ?_)
        try simp only [List.setIfInBounds_toArray, List.set_cons_zero, List.set_cons_succ]
        clear hb'
        generalize V.alloc (.cells (a64 fun _ => 0) 83) = U at *
        generalize V.heap.size = g6 at *
        exact E3_678.out U g6 g7 g8 ⟨k, b6, b7, b8, d67, d68, d78, G6, G7, G8⟩
    · intro V g6 g7 g8 hh
      obtain ⟨k, b6, b7, b8, d67, d68, d78, G6, G7, G8⟩ := hh
      refine wpAnyH_ready (rs := [12]) (by kernel_rfl) (by simp) ?_
      refine AllReadyH.cons rfl (fun K hK => ?_) AllReadyH.nil
      rw [if_pos (by kernel_rfl)]
      refine wp_store_blk 83 (.tmp 6) (.tmp 28) rfl _ 83 _ (a64 f1') rfl rfl G6 (by rw [a64_size]; exact HI64.out) rfl (a64_oneCell _) ?_
      intro Ws hblk hg
      have G7 := G7.grown hg (fun e => by injection e with e; omega)
      have G8 := G8.grown hg (fun e => by injection e with e; omega)
      have k := k.trans (grown_below hg k.size (fun j hj => by cases hj; exact b6))
      have G6 := hblk
      clear hg hblk
      refine hK.out _ _ (by first | exact HS.out _ k) (fun hHeld => ?_)
      clear hK K
      refine wpAnyH_ready (rs := [13]) (by kernel_rfl) (by simp) ?_
      refine AllReadyH.cons rfl (fun K hK => ?_) AllReadyH.nil
      rw [if_pos (by kernel_rfl)]
      refine wp_store_blk 83 (.tmp 7) (.tmp 31) rfl _ 83 _ (a64 f2') rfl rfl G7 (by rw [a64_size]; exact HI64.out) rfl (a64_oneCell _) ?_
      intro Ws hblk hg
      have G6 := G6.grown hg (fun e => by injection e with e; omega)
      have G8 := G8.grown hg (fun e => by injection e with e; omega)
      have k := k.trans (grown_below hg k.size (fun j hj => by cases hj; exact b7))
      have G7 := hblk
      clear hg hblk
      refine hK.out _ _ (by first | exact HS.out _ k) (fun hHeld => ?_)
      clear hK K
      refine wpAnyH_ready (rs := [14]) (by kernel_rfl) (by simp) ?_
      refine AllReadyH.cons rfl (fun K hK => ?_) AllReadyH.nil
      rw [if_pos (by kernel_rfl)]
      refine wp_store_blk 83 (.tmp 8) (.tmp 34) rfl _ 83 _ (a64 f3') rfl rfl G8 (by rw [a64_size]; exact HI64.out) rfl (a64_oneCell _) ?_
      intro Ws hblk hg
      have G6 := G6.grown hg (fun e => by injection e with e; omega)
      have G7 := G7.grown hg (fun e => by injection e with e; omega)
      have k := k.trans (grown_below hg k.size (fun j hj => by cases hj; exact b8))
      have G8 := hblk
      clear hg hblk
      refine hK.out _ _ (by first | exact HS.out _ k) (fun hHeld => ?_)
      clear hK K
      refine wpAnyH_done (by kernel_rfl) ?_ _
      refine Nrm.out (hKK _ _ ?_)
      go_wp2_with fail
      go_meet
      exact ⟨_, _, _, rfl, rfl, rfl, b6, d67, d68, k, G6, G7, G8⟩
  case rest =>
    obtain ⟨g6, g7, g8, rfl, rfl, rfl, hh⟩ := hcut
    obtain ⟨p1, p2, p3, k, G6, G7, G8⟩ := hh.out
    clear C1 C2 C3 hh
    go_wp2_with fail
    go_loopw [9] (fun v9 wr => ∃ j : Nat, v9 = .int .i64 j ∧ j ≤ 64 ∧ Below W0.heap.size W0 wr ∧ Blk wr g6 83 (a64 (mix j f1' G)) ∧ Blk wr g7 83 (a64 f2') ∧ Blk wr g8 83 (a64 f3')) (fun v9 _ => 64 - (intOf v9).toNat)
    case atStart => exact ⟨0, rfl, by omega, k, by rw [mix_zero]; exact G6, G7, G8⟩
    case round =>
      obtain ⟨j, rfl, hj, hb, q1, q2, q3⟩ := hrel
      clear k G6 G7 G8
      by_cases hlt : j < 64
      · have d1 := q1.cell j
        have d2 := q2.cell j
        have d3 := q3.cell j
        have fj := q1.frozen j
        rw [a64_at _ _ hlt] at d1 d2 d3
        rw [mix_at] at d1
        have hgj := HGN.out j
        generalize hy1 : f1' j = y1 at d1 hgj
        generalize f2' j = y2 at d2 hgj
        generalize f3' j = y3 at d3 hgj
        have Q1 := Lib.hid q1
        have Q2 := Lib.hid q2
        have Q3 := Lib.hid q3
        have HBB := Lib.hid hb
        have HP := Lib.hid (And.intro p1 (And.intro p2 p3))
        have HGJ := Lib.hid hgj
        have HY1 := Lib.hid hy1
        clear q1 q2 q3 hb p1 p2 p3 hgj hy1
        by_cases hc : y2 < y3
        · have hM := Lib.hid (show y3 = G j by rw [HGJ.out, if_pos hc])
          have dc : decide (y3 > y2) = true := decide_eq_true hc
          go_wp2
          go_quiet (fail)
          go_wp2
          go_roundw
          case rel =>
            have h5 := fun m => Blk.set_ (w := wr.drewN m) Q1.out j (.int .i64 y3)
            rw [hM.out, a64_set _ _ _ hlt, a64_congr (fun n _ => mix_next f1' G j n)] at h5
            rw [hM.out]
            exact ⟨j + 1, by go_num, by omega, (below_drewN HBB.out _).setCell (p := ⟨g6, j, none⟩) HP.out.1 _, h5 _, Blk.far (w := wr.drewN _) (p := ⟨g6, j, none⟩) Q2.out (Ne.symm HP.out.2.1) _, Blk.far (w := wr.drewN _) (p := ⟨g6, j, none⟩) Q3.out (Ne.symm HP.out.2.2) _⟩
          case measure => simp [intOf]; omega
        · have hM := Lib.hid (show y1 = G j by rw [HGJ.out, if_neg hc])
          have dc : decide (y3 > y2) = false := decide_eq_false hc
          go_wp2
          go_quiet (fail)
          go_wp2
          go_roundw
          case rel =>
            have e : a64 (mix (j + 1) f1' G) = a64 (mix j f1' G) := a64_congr fun m _ => by
              unfold mix
              by_cases h : m = j
              · subst h; rw [if_pos (by omega), if_neg (by omega), ← hM.out, HY1.out]
              · by_cases h2 : m < j
                · rw [if_pos (by omega), if_pos h2]
                · rw [if_neg (by omega), if_neg h2]
            exact ⟨j + 1, by go_num, by omega, below_drewN HBB.out _, by rw [e]; exact Q1.out, Q2.out, Q3.out⟩
          case measure => simp [intOf]; omega
      · obtain rfl : j = 64 := by omega
        rw [a64_congr (mix_end f1' G)] at q1
        have G6 := q1.go (Below.refl wr.heap.size wr).drew
        have k := hb.drew
        clear q1 q2 q3 hb p1 p2 p3 hlt hj
        go_upto_region 9 with fail
        apply mgR (fun V g A52 a52 A57 a57 A62 a62 => Below W0.heap.size W0 V ∧ W0.heap.size ≤ g ∧ NtB V W0.heap.size g ⟨A52, SL.length, a52, A57, EL.length, a57, A62, BL.length, a62, none, 0, 0⟩ ⟨SL, EL, BL, []⟩)
        · intro EF
          refine region_nrm fun KK hKK => ?_
          refine wp_region_held_drew (S := (fun W => (W.cell? ⟨w.heap.size, 0, none⟩ = some (.slice A1 n1 c1) ∧ W.cell? ⟨w.heap.size, 1, none⟩ = some (.slice A2 n2 c2) ∧ W.cell? ⟨w.heap.size, 2, none⟩ = some (.slice A3 n3 c3) ∧ W.cell? ⟨w.heap.size, 3, none⟩ = some (.slice A4 n4 c4)) ∧ (W.cell? ⟨w.heap.size + 1, 0, none⟩ = some (.slice B1 m1 d1) ∧ W.cell? ⟨w.heap.size + 1, 1, none⟩ = some (.slice B2 m2 d2) ∧ W.cell? ⟨w.heap.size + 1, 2, none⟩ = some (.slice B3 m3 d3) ∧ W.cell? ⟨w.heap.size + 1, 3, none⟩ = some (.slice B4 m4 d4)))) (by kernel_rfl) (by first | exact HS.out _ k) (fun hHeld => ?_)
          obtain ⟨V, hV⟩ : ∃ V, V = wr.drew := ⟨_, rfl⟩
          rw [← hV] at k G6 ⊢
          clear hV
          refine wpAnyH_putD (i := 2) (d := 53) (v := ?_) rfl rfl (by kernel_rfl) (by kernel_rfl) (by kernel_rfl) (fun _ _ _ h => h) (Or.inl ⟨by kernel_rfl, ?_⟩) (by first | exact HS.out _ k) ?_
          rotate_left
          · (intro w hS; (try dsimp only at hS); go_simp <;> with_reducible rfl)
          try simp only [List.setIfInBounds_toArray, List.set_cons_zero, List.set_cons_succ]
          refine wpAnyH_putD (i := 3) (d := 54) (v := ?_) rfl rfl (by kernel_rfl) (by kernel_rfl) (by kernel_rfl) (fun _ _ _ h => h) (Or.inl ⟨by kernel_rfl, ?_⟩) (by first | exact HS.out _ k) ?_
          rotate_left
          · (intro w hS; (try dsimp only at hS); go_simp <;> with_reducible rfl)
          try simp only [List.setIfInBounds_toArray, List.set_cons_zero, List.set_cons_succ]
          refine wpAnyH_putD (i := 4) (d := 55) (v := ?_) rfl rfl (by kernel_rfl) (by kernel_rfl) (by kernel_rfl) (fun _ _ _ h => h) (Or.inl ⟨by kernel_rfl, ?_⟩) (by first | exact HS.out _ k) ?_
          rotate_left
          · (intro w hS; (try dsimp only at hS); go_simp <;> with_reducible rfl)
          try simp only [List.setIfInBounds_toArray, List.set_cons_zero, List.set_cons_succ]
          refine wpAnyH_putD (i := 5) (d := 56) (v := ?_) rfl rfl (by kernel_rfl) (by kernel_rfl) (by kernel_rfl) (fun _ _ _ h => h) (Or.inl ⟨by kernel_rfl, ?_⟩) (by first | exact HS.out _ k) ?_
          rotate_left
          · (intro w hS; (try dsimp only at hS); go_simp <;> with_reducible rfl)
          try simp only [List.setIfInBounds_toArray, List.set_cons_zero, List.set_cons_succ]
          refine wpAnyH_putD (i := 7) (d := 58) (v := ?_) rfl rfl (by kernel_rfl) (by kernel_rfl) (by kernel_rfl) (fun _ _ _ h => h) (Or.inl ⟨by kernel_rfl, ?_⟩) (by first | exact HS.out _ k) ?_
          rotate_left
          · (intro w hS; (try dsimp only at hS); go_simp <;> with_reducible rfl)
          try simp only [List.setIfInBounds_toArray, List.set_cons_zero, List.set_cons_succ]
          refine wpAnyH_putD (i := 8) (d := 59) (v := ?_) rfl rfl (by kernel_rfl) (by kernel_rfl) (by kernel_rfl) (fun _ _ _ h => h) (Or.inl ⟨by kernel_rfl, ?_⟩) (by first | exact HS.out _ k) ?_
          rotate_left
          · (intro w hS; (try dsimp only at hS); go_simp <;> with_reducible rfl)
          try simp only [List.setIfInBounds_toArray, List.set_cons_zero, List.set_cons_succ]
          refine wpAnyH_putD (i := 9) (d := 60) (v := ?_) rfl rfl (by kernel_rfl) (by kernel_rfl) (by kernel_rfl) (fun _ _ _ h => h) (Or.inl ⟨by kernel_rfl, ?_⟩) (by first | exact HS.out _ k) ?_
          rotate_left
          · (intro w hS; (try dsimp only at hS); go_simp <;> with_reducible rfl)
          try simp only [List.setIfInBounds_toArray, List.set_cons_zero, List.set_cons_succ]
          refine wpAnyH_putD (i := 10) (d := 61) (v := ?_) rfl rfl (by kernel_rfl) (by kernel_rfl) (by kernel_rfl) (fun _ _ _ h => h) (Or.inl ⟨by kernel_rfl, ?_⟩) (by first | exact HS.out _ k) ?_
          rotate_left
          · (intro w hS; (try dsimp only at hS); go_simp <;> with_reducible rfl)
          try simp only [List.setIfInBounds_toArray, List.set_cons_zero, List.set_cons_succ]
          refine wpAnyH_ready (rs := [0, 13]) (by kernel_rfl) (by simp) ?_
          refine AllReadyH.cons rfl (fun K hK => ?_) (AllReadyH.cons rfl (fun K hK => ?_) AllReadyH.nil)
          · rw [if_pos (by kernel_rfl)]
            refine wp_load_row 83 (.tmp 6) rfl g6 rfl 83 _ _ _ G6 Tryd.underlying83 rfl (by rw [a64_size]; exact HI64.out) ?_
            clear G6
            refine hK.out _ _ (by first | exact HS.out _ k) (fun hHeld => ?_)
            clear hK K
            refine wpAnyH_ready (rs := [1, 13]) (by kernel_rfl) (by simp) ?_
            refine AllReadyH.cons rfl (fun K hK => ?_) (AllReadyH.cons rfl (fun K hK => ?_) AllReadyH.nil)
            · go_simp
              refine (GO.out _).mono ?_
              rintro e V ⟨A52, a52, rfl, ho, hb'⟩
              have C1 := own_less ho k.size
              try (have GN := GN.go hb')
              have k := below_then k (Nat.le_refl _) hb'
              clear ho hb'
              refine hK.out _ _ (by first | exact HS.out _ k) (fun hHeld => ?_)
              clear hK K
              refine wpAnyH_ready (rs := [6, 13]) (by kernel_rfl) (by simp) ?_
              refine AllReadyH.cons rfl (fun K hK => ?_) (AllReadyH.cons rfl (fun K hK => ?_) AllReadyH.nil)
              · go_simp
                refine (GT.out _ k).mono ?_
                rintro e V ⟨A57, a57, rfl, ho, hb'⟩
                have C2 := own_less ho k.size
                try (have C1 := own_below C1 hb' (Nat.le_refl _))
                try (have GN := GN.go hb')
                have k := below_then k (Nat.le_refl _) hb'
                clear ho hb'
                refine hK.out _ _ (by first | exact HS.out _ k) (fun hHeld => ?_)
                clear hK K
                refine wpAnyH_ready (rs := [11, 13]) (by kernel_rfl) (by simp) ?_
                refine AllReadyH.cons rfl (fun K hK => ?_) (AllReadyH.cons rfl (fun K hK => ?_) AllReadyH.nil)
                · go_simp
                  refine (GS.out _ k).mono ?_
                  rintro e V ⟨A62, a62, rfl, ho, hb'⟩
                  have C3 := own_less ho k.size
                  try (have C1 := own_below C1 hb' (Nat.le_refl _))
                  try (have C2 := own_below C2 hb' (Nat.le_refl _))
                  try (have GN := GN.go hb')
                  have k := below_then k (Nat.le_refl _) hb'
                  clear ho hb'
                  refine hK.out _ _ (by first | exact HS.out _ k) (fun hHeld => ?_)
                  clear hK K
                  refine wpAnyH_putD (i := 12) (d := 63) (v := ?_) rfl rfl (by kernel_rfl) (by kernel_rfl) (by kernel_rfl) (fun _ _ _ h => h) (Or.inl ⟨by kernel_rfl, ?_⟩) (by first | exact HS.out _ k) ?_
                  rotate_left
                  · (intro w hS; (try dsimp only at hS); go_simp <;> with_reducible rfl)
                  try simp only [List.setIfInBounds_toArray, List.set_cons_zero, List.set_cons_succ]
                  refine wpAnyH_ready (rs := [13]) (by kernel_rfl) (by simp) ?_
                  refine AllReadyH.cons rfl (fun K hK => ?_) AllReadyH.nil
                  go_simp
                  have hb' := then_alloc k (.cells #[.slice none 0 0, .slice none 0 0, .slice none 0 0, .slice none 0 0] 26)
                  have hge := k.size
                  try (have C1 := own_below C1 hb' (Nat.le_refl _))
                  try (have C2 := own_below C2 hb' (Nat.le_refl _))
                  try (have C3 := own_below C3 hb' (Nat.le_refl _))
                  try (have G6 := G6.go hb')
                  have GN := blkOfN hb'
                  have k := below_then k (Nat.le_refl _) hb'
                  clear hb'
                  refine hK.out _ _ (by first | exact HS.out _ k) (fun hHeld => ?_)
                  clear hK K
                  generalize V.heap.size = g at *
                  generalize V.alloc (.cells #[.slice none 0 0, .slice none 0 0, .slice none 0 0, .slice none 0 0] 26) = V at *
                  refine wpAnyH_ready (rs := [14]) (by kernel_rfl) (by simp) ?_
                  refine AllReadyH.cons rfl (fun K hK => ?_) AllReadyH.nil
                  rw [if_pos (by kernel_rfl)]
                  refine wp_store_blk 26 (.tmp 10) (.tmp 63) rfl _ 26 _ #[.slice A52 SL.length a52, .slice A57 EL.length a57, .slice A62 BL.length a62, .slice none 0 0] rfl rfl GN HI.out rfl (by simp [Value.oneCell']) ?_
                  intro V hblk hg
                  have C1 := C1.kept hg (own_blk C1 GN (by decide))
                  have C2 := C2.kept hg (own_blk C2 GN (by decide))
                  have C3 := C3.kept hg (own_blk C3 GN (by decide))
                  have k := k.trans (grown_below hg k.size (fun j hj => by cases hj; exact hge))
                  clear hg GN
                  refine hK.out _ _ (by first | exact HS.out _ k) (fun hHeld => ?_)
                  clear hK K
                  refine wpAnyH_done (by kernel_rfl) ?_ _
                  refine Nrm.out (hKK _ _ ?_)
                  exact EF.out V g A52 a52 A57 a57 A62 a62 ⟨k, hge, hblk, ⟨rfl, C1, rfl, C2, rfl, C3, rfl, World.ownsRow_nil _ _ _ _⟩⟩
                · go_simp
                  have hb' := then_alloc k (.cells #[.slice none 0 0, .slice none 0 0, .slice none 0 0, .slice none 0 0] 26)
                  have hge := k.size
                  try (have C1 := own_below C1 hb' (Nat.le_refl _))
                  try (have C2 := own_below C2 hb' (Nat.le_refl _))
                  try (have C3 := own_below C3 hb' (Nat.le_refl _))
                  try (have G6 := G6.go hb')
                  have GN := blkOfN hb'
                  have k := below_then k (Nat.le_refl _) hb'
                  clear hb'
                  refine hK.out _ _ (by first | exact HS.out _ k) (fun hHeld => ?_)
                  clear hK K
                  generalize V.heap.size = g at *
                  generalize V.alloc (.cells #[.slice none 0 0, .slice none 0 0, .slice none 0 0, .slice none 0 0] 26) = V at *
                  refine wpAnyH_ready (rs := [11]) (by kernel_rfl) (by simp) ?_
                  refine AllReadyH.cons rfl (fun K hK => ?_) AllReadyH.nil
                  go_simp
                  refine (GS.out _ k).mono ?_
                  rintro e V ⟨A62, a62, rfl, ho, hb'⟩
                  have C3 := own_less ho k.size
                  try (have C1 := own_below C1 hb' (Nat.le_refl _))
                  try (have C2 := own_below C2 hb' (Nat.le_refl _))
                  try (have GN := GN.go hb')
                  have k := below_then k (Nat.le_refl _) hb'
                  clear ho hb'
                  refine hK.out _ _ (by first | exact HS.out _ k) (fun hHeld => ?_)
                  clear hK K
                  refine wpAnyH_putD (i := 12) (d := 63) (v := ?_) rfl rfl (by kernel_rfl) (by kernel_rfl) (by kernel_rfl) (fun _ _ _ h => h) (Or.inl ⟨by kernel_rfl, ?_⟩) (by first | exact HS.out _ k) ?_
                  rotate_left
                  · (intro w hS; (try dsimp only at hS); go_simp <;> with_reducible rfl)
                  try simp only [List.setIfInBounds_toArray, List.set_cons_zero, List.set_cons_succ]
                  refine wpAnyH_ready (rs := [14]) (by kernel_rfl) (by simp) ?_
                  refine AllReadyH.cons rfl (fun K hK => ?_) AllReadyH.nil
                  rw [if_pos (by kernel_rfl)]
                  refine wp_store_blk 26 (.tmp 10) (.tmp 63) rfl _ 26 _ #[.slice A52 SL.length a52, .slice A57 EL.length a57, .slice A62 BL.length a62, .slice none 0 0] rfl rfl GN HI.out rfl (by simp [Value.oneCell']) ?_
                  intro V hblk hg
                  have C1 := C1.kept hg (own_blk C1 GN (by decide))
                  have C2 := C2.kept hg (own_blk C2 GN (by decide))
                  have C3 := C3.kept hg (own_blk C3 GN (by decide))
                  have k := k.trans (grown_below hg k.size (fun j hj => by cases hj; exact hge))
                  clear hg GN
                  refine hK.out _ _ (by first | exact HS.out _ k) (fun hHeld => ?_)
                  clear hK K
                  refine wpAnyH_done (by kernel_rfl) ?_ _
                  refine Nrm.out (hKK _ _ ?_)
                  exact EF.out V g A52 a52 A57 a57 A62 a62 ⟨k, hge, hblk, ⟨rfl, C1, rfl, C2, rfl, C3, rfl, World.ownsRow_nil _ _ _ _⟩⟩
              · go_simp
                have hb' := then_alloc k (.cells #[.slice none 0 0, .slice none 0 0, .slice none 0 0, .slice none 0 0] 26)
                have hge := k.size
                try (have C1 := own_below C1 hb' (Nat.le_refl _))
                try (have C2 := own_below C2 hb' (Nat.le_refl _))
                try (have C3 := own_below C3 hb' (Nat.le_refl _))
                try (have G6 := G6.go hb')
                have GN := blkOfN hb'
                have k := below_then k (Nat.le_refl _) hb'
                clear hb'
                refine hK.out _ _ (by first | exact HS.out _ k) (fun hHeld => ?_)
                clear hK K
                generalize V.heap.size = g at *
                generalize V.alloc (.cells #[.slice none 0 0, .slice none 0 0, .slice none 0 0, .slice none 0 0] 26) = V at *
                refine wpAnyH_ready (rs := [6]) (by kernel_rfl) (by simp) ?_
                refine AllReadyH.cons rfl (fun K hK => ?_) AllReadyH.nil
                go_simp
                refine (GT.out _ k).mono ?_
                rintro e V ⟨A57, a57, rfl, ho, hb'⟩
                have C2 := own_less ho k.size
                try (have C1 := own_below C1 hb' (Nat.le_refl _))
                try (have GN := GN.go hb')
                have k := below_then k (Nat.le_refl _) hb'
                clear ho hb'
                refine hK.out _ _ (by first | exact HS.out _ k) (fun hHeld => ?_)
                clear hK K
                refine wpAnyH_ready (rs := [11]) (by kernel_rfl) (by simp) ?_
                refine AllReadyH.cons rfl (fun K hK => ?_) AllReadyH.nil
                go_simp
                refine (GS.out _ k).mono ?_
                rintro e V ⟨A62, a62, rfl, ho, hb'⟩
                have C3 := own_less ho k.size
                try (have C1 := own_below C1 hb' (Nat.le_refl _))
                try (have C2 := own_below C2 hb' (Nat.le_refl _))
                try (have GN := GN.go hb')
                have k := below_then k (Nat.le_refl _) hb'
                clear ho hb'
                refine hK.out _ _ (by first | exact HS.out _ k) (fun hHeld => ?_)
                clear hK K
                refine wpAnyH_putD (i := 12) (d := 63) (v := ?_) rfl rfl (by kernel_rfl) (by kernel_rfl) (by kernel_rfl) (fun _ _ _ h => h) (Or.inl ⟨by kernel_rfl, ?_⟩) (by first | exact HS.out _ k) ?_
                rotate_left
                · (intro w hS; (try dsimp only at hS); go_simp <;> with_reducible rfl)
                try simp only [List.setIfInBounds_toArray, List.set_cons_zero, List.set_cons_succ]
                refine wpAnyH_ready (rs := [14]) (by kernel_rfl) (by simp) ?_
                refine AllReadyH.cons rfl (fun K hK => ?_) AllReadyH.nil
                rw [if_pos (by kernel_rfl)]
                refine wp_store_blk 26 (.tmp 10) (.tmp 63) rfl _ 26 _ #[.slice A52 SL.length a52, .slice A57 EL.length a57, .slice A62 BL.length a62, .slice none 0 0] rfl rfl GN HI.out rfl (by simp [Value.oneCell']) ?_
                intro V hblk hg
                have C1 := C1.kept hg (own_blk C1 GN (by decide))
                have C2 := C2.kept hg (own_blk C2 GN (by decide))
                have C3 := C3.kept hg (own_blk C3 GN (by decide))
                have k := k.trans (grown_below hg k.size (fun j hj => by cases hj; exact hge))
                clear hg GN
                refine hK.out _ _ (by first | exact HS.out _ k) (fun hHeld => ?_)
                clear hK K
                refine wpAnyH_done (by kernel_rfl) ?_ _
                refine Nrm.out (hKK _ _ ?_)
                exact EF.out V g A52 a52 A57 a57 A62 a62 ⟨k, hge, hblk, ⟨rfl, C1, rfl, C2, rfl, C3, rfl, World.ownsRow_nil _ _ _ _⟩⟩
            · go_simp
              have hb' := then_alloc k (.cells #[.slice none 0 0, .slice none 0 0, .slice none 0 0, .slice none 0 0] 26)
              have hge := k.size
              try (have C1 := own_below C1 hb' (Nat.le_refl _))
              try (have C2 := own_below C2 hb' (Nat.le_refl _))
              try (have C3 := own_below C3 hb' (Nat.le_refl _))
              try (have G6 := G6.go hb')
              have GN := blkOfN hb'
              have k := below_then k (Nat.le_refl _) hb'
              clear hb'
              refine hK.out _ _ (by first | exact HS.out _ k) (fun hHeld => ?_)
              clear hK K
              generalize V.heap.size = g at *
              generalize V.alloc (.cells #[.slice none 0 0, .slice none 0 0, .slice none 0 0, .slice none 0 0] 26) = V at *
              refine wpAnyH_ready (rs := [1]) (by kernel_rfl) (by simp) ?_
              refine AllReadyH.cons rfl (fun K hK => ?_) AllReadyH.nil
              go_simp
              refine (GO.out _).mono ?_
              rintro e V ⟨A52, a52, rfl, ho, hb'⟩
              have C1 := own_less ho k.size
              try (have GN := GN.go hb')
              have k := below_then k (Nat.le_refl _) hb'
              clear ho hb'
              refine hK.out _ _ (by first | exact HS.out _ k) (fun hHeld => ?_)
              clear hK K
              refine wpAnyH_ready (rs := [6]) (by kernel_rfl) (by simp) ?_
              refine AllReadyH.cons rfl (fun K hK => ?_) AllReadyH.nil
              go_simp
              refine (GT.out _ k).mono ?_
              rintro e V ⟨A57, a57, rfl, ho, hb'⟩
              have C2 := own_less ho k.size
              try (have C1 := own_below C1 hb' (Nat.le_refl _))
              try (have GN := GN.go hb')
              have k := below_then k (Nat.le_refl _) hb'
              clear ho hb'
              refine hK.out _ _ (by first | exact HS.out _ k) (fun hHeld => ?_)
              clear hK K
              refine wpAnyH_ready (rs := [11]) (by kernel_rfl) (by simp) ?_
              refine AllReadyH.cons rfl (fun K hK => ?_) AllReadyH.nil
              go_simp
              refine (GS.out _ k).mono ?_
              rintro e V ⟨A62, a62, rfl, ho, hb'⟩
              have C3 := own_less ho k.size
              try (have C1 := own_below C1 hb' (Nat.le_refl _))
              try (have C2 := own_below C2 hb' (Nat.le_refl _))
              try (have GN := GN.go hb')
              have k := below_then k (Nat.le_refl _) hb'
              clear ho hb'
              refine hK.out _ _ (by first | exact HS.out _ k) (fun hHeld => ?_)
              clear hK K
              refine wpAnyH_putD (i := 12) (d := 63) (v := ?_) rfl rfl (by kernel_rfl) (by kernel_rfl) (by kernel_rfl) (fun _ _ _ h => h) (Or.inl ⟨by kernel_rfl, ?_⟩) (by first | exact HS.out _ k) ?_
              rotate_left
              · (intro w hS; (try dsimp only at hS); go_simp <;> with_reducible rfl)
              try simp only [List.setIfInBounds_toArray, List.set_cons_zero, List.set_cons_succ]
              refine wpAnyH_ready (rs := [14]) (by kernel_rfl) (by simp) ?_
              refine AllReadyH.cons rfl (fun K hK => ?_) AllReadyH.nil
              rw [if_pos (by kernel_rfl)]
              refine wp_store_blk 26 (.tmp 10) (.tmp 63) rfl _ 26 _ #[.slice A52 SL.length a52, .slice A57 EL.length a57, .slice A62 BL.length a62, .slice none 0 0] rfl rfl GN HI.out rfl (by simp [Value.oneCell']) ?_
              intro V hblk hg
              have C1 := C1.kept hg (own_blk C1 GN (by decide))
              have C2 := C2.kept hg (own_blk C2 GN (by decide))
              have C3 := C3.kept hg (own_blk C3 GN (by decide))
              have k := k.trans (grown_below hg k.size (fun j hj => by cases hj; exact hge))
              clear hg GN
              refine hK.out _ _ (by first | exact HS.out _ k) (fun hHeld => ?_)
              clear hK K
              refine wpAnyH_done (by kernel_rfl) ?_ _
              refine Nrm.out (hKK _ _ ?_)
              exact EF.out V g A52 a52 A57 a57 A62 a62 ⟨k, hge, hblk, ⟨rfl, C1, rfl, C2, rfl, C3, rfl, World.ownsRow_nil _ _ _ _⟩⟩
          · go_simp
            have hb' := then_alloc k (.cells #[.slice none 0 0, .slice none 0 0, .slice none 0 0, .slice none 0 0] 26)
            have hge := k.size
            try (have C1 := own_below C1 hb' (Nat.le_refl _))
            try (have C2 := own_below C2 hb' (Nat.le_refl _))
            try (have C3 := own_below C3 hb' (Nat.le_refl _))
            try (have G6 := G6.go hb')
            have GN := blkOfN hb'
            have k := below_then k (Nat.le_refl _) hb'
            clear hb'
            refine hK.out _ _ (by first | exact HS.out _ k) (fun hHeld => ?_)
            clear hK K
            generalize V.heap.size = g at *
            generalize V.alloc (.cells #[.slice none 0 0, .slice none 0 0, .slice none 0 0, .slice none 0 0] 26) = V at *
            refine wpAnyH_ready (rs := [0]) (by kernel_rfl) (by simp) ?_
            refine AllReadyH.cons rfl (fun K hK => ?_) AllReadyH.nil
            rw [if_pos (by kernel_rfl)]
            refine wp_load_row 83 (.tmp 6) rfl g6 rfl 83 _ _ _ G6 Tryd.underlying83 rfl (by rw [a64_size]; exact HI64.out) ?_
            clear G6
            refine hK.out _ _ (by first | exact HS.out _ k) (fun hHeld => ?_)
            clear hK K
            refine wpAnyH_ready (rs := [1]) (by kernel_rfl) (by simp) ?_
            refine AllReadyH.cons rfl (fun K hK => ?_) AllReadyH.nil
            go_simp
            refine (GO.out _).mono ?_
            rintro e V ⟨A52, a52, rfl, ho, hb'⟩
            have C1 := own_less ho k.size
            try (have GN := GN.go hb')
            have k := below_then k (Nat.le_refl _) hb'
            clear ho hb'
            refine hK.out _ _ (by first | exact HS.out _ k) (fun hHeld => ?_)
            clear hK K
            refine wpAnyH_ready (rs := [6]) (by kernel_rfl) (by simp) ?_
            refine AllReadyH.cons rfl (fun K hK => ?_) AllReadyH.nil
            go_simp
            refine (GT.out _ k).mono ?_
            rintro e V ⟨A57, a57, rfl, ho, hb'⟩
            have C2 := own_less ho k.size
            try (have C1 := own_below C1 hb' (Nat.le_refl _))
            try (have GN := GN.go hb')
            have k := below_then k (Nat.le_refl _) hb'
            clear ho hb'
            refine hK.out _ _ (by first | exact HS.out _ k) (fun hHeld => ?_)
            clear hK K
            refine wpAnyH_ready (rs := [11]) (by kernel_rfl) (by simp) ?_
            refine AllReadyH.cons rfl (fun K hK => ?_) AllReadyH.nil
            go_simp
            refine (GS.out _ k).mono ?_
            rintro e V ⟨A62, a62, rfl, ho, hb'⟩
            have C3 := own_less ho k.size
            try (have C1 := own_below C1 hb' (Nat.le_refl _))
            try (have C2 := own_below C2 hb' (Nat.le_refl _))
            try (have GN := GN.go hb')
            have k := below_then k (Nat.le_refl _) hb'
            clear ho hb'
            refine hK.out _ _ (by first | exact HS.out _ k) (fun hHeld => ?_)
            clear hK K
            refine wpAnyH_putD (i := 12) (d := 63) (v := ?_) rfl rfl (by kernel_rfl) (by kernel_rfl) (by kernel_rfl) (fun _ _ _ h => h) (Or.inl ⟨by kernel_rfl, ?_⟩) (by first | exact HS.out _ k) ?_
            rotate_left
            · (intro w hS; (try dsimp only at hS); go_simp <;> with_reducible rfl)
            try simp only [List.setIfInBounds_toArray, List.set_cons_zero, List.set_cons_succ]
            refine wpAnyH_ready (rs := [14]) (by kernel_rfl) (by simp) ?_
            refine AllReadyH.cons rfl (fun K hK => ?_) AllReadyH.nil
            rw [if_pos (by kernel_rfl)]
            refine wp_store_blk 26 (.tmp 10) (.tmp 63) rfl _ 26 _ #[.slice A52 SL.length a52, .slice A57 EL.length a57, .slice A62 BL.length a62, .slice none 0 0] rfl rfl GN HI.out rfl (by simp [Value.oneCell']) ?_
            intro V hblk hg
            have C1 := C1.kept hg (own_blk C1 GN (by decide))
            have C2 := C2.kept hg (own_blk C2 GN (by decide))
            have C3 := C3.kept hg (own_blk C3 GN (by decide))
            have k := k.trans (grown_below hg k.size (fun j hj => by cases hj; exact hge))
            clear hg GN
            refine hK.out _ _ (by first | exact HS.out _ k) (fun hHeld => ?_)
            clear hK K
            refine wpAnyH_done (by kernel_rfl) ?_ _
            refine Nrm.out (hKK _ _ ?_)
            exact EF.out V g A52 a52 A57 a57 A62 a62 ⟨k, hge, hblk, ⟨rfl, C1, rfl, C2, rfl, C3, rfl, World.ownsRow_nil _ _ _ _⟩⟩
        intro w3 g A52 a52 A57 a57 A62 a62 hh
        obtain ⟨k3, hge, hN3⟩ := hh
        have hs3 := k3.size
        obtain ⟨y0, y1, y2, y3⟩ := hN3.blk.four4
        have GB := Lib.hid (refSet_any A62 BL.length a62 BL w3 rfl (Rd.of_own hN3.own.o3))
        have HN3 := Lib.hid hN3
        have hz := HMI.out
        clear k G6 hN3 GO GT GS
        go_wp2_with fail
        refine GB.out.mono ?_
        rintro e w4 ⟨rfl, hb4⟩
        clear y0 y1 y2 y3
        have hs4 := hb4.size
        go_wp2_with (refine wpList_store_blk rfl 57 _ _ rfl w4.heap.size 57 _ (b256 (Sn.setOf BL)) rfl rfl (Blk.new w4 57 (b256 fun _ => false)) (by rw [b256_size]; exact hz) rfl (b256_oneCell _) ?_; intro w5 hk5 hg5)

        have k4 := below_then k3 (Nat.le_refl _) hb4
        have k5 := (k4.alloc k4.size (.cells (b256 fun _ => false) 57)).trans (grown_below hg5 (by have := k4.size; simp; omega) (fun j hj => by cases hj; have := k4.size; omega))
        have hb35 : Below w3.heap.size w3 w5 := (hb4.alloc (by omega) (.cells (b256 fun _ => false) 57)).trans (grown_below hg5 (by simp; omega) (fun j hj => by cases hj; omega))
        have N5 := HN3.out.go hb35
        have hgB : w4.heap.size < w5.heap.size := hk5.lt
        clear hb4 hb35 hg5 k4
        go_loopw [12] (fun v12 wr => ∃ (kk m d : Nat) (D : Option Addr), v12 = .int .i64 kk ∧ kk ≤ 256 ∧ m ≤ kk ∧ Below W0.heap.size W0 wr ∧ Hid (Blk wr w4.heap.size 57 (b256 (Sn.setOf BL))) ∧ Hid (NtB wr W0.heap.size g ⟨A52, SL.length, a52, A57, EL.length, a57, A62, BL.length, a62, D, m, d⟩ ⟨SL, EL, BL, mUp (mrgK x y) x.w y.w kk⟩)) (fun v12 _ => 256 - (intOf v12).toNat)
        case atStart => exact ⟨0, 0, 0, none, rfl, by omega, by omega, k5, hk5, N5⟩
        case round =>
          clear k5 hk5 N5 hgB
          obtain ⟨kk, m, d, D, rfl, hkk, hm, hb, BI, NX⟩ := hrel
          by_cases hlt : kk < 256
          · have hmu := HU.out kk
            have hkz := HK.out kk hlt
            have gI := BI.out.cell kk
            rw [b256_at _ _ (by omega)] at gI
            obtain ⟨z, hz⟩ : ∃ z, z = Sn.setOf BL kk := ⟨_, rfl⟩
            rw [← hz] at gI hkz
            obtain ⟨L, hL⟩ : ∃ L, L = mUp (mrgK x y) x.w y.w kk := ⟨_, rfl⟩
            rw [← hL] at hmu NX
            rw [hkz] at hmu
            obtain ⟨MA, hMA⟩ : ∃ MA, MA = mrgAt x.w y.w (kk : Int) := ⟨_, rfl⟩
            rw [← hMA] at hmu
            have EA1 := fun V hb => HA1.out V hb (kk : Int)
            have EA2 := fun V hb => HA2.out V hb (kk : Int)
            have MN := fun h1 h2 => hMA.trans (mrgAt_no (a := x.w) (b := y.w) (o := (kk : Int)) h1 h2)
            have ML := fun h1 h2 => hMA.trans (mrgAt_l (a := x.w) (b := y.w) (o := (kk : Int)) h1 h2)
            have MR := fun h1 h2 => hMA.trans (mrgAt_r (a := x.w) (b := y.w) (o := (kk : Int)) h1 h2)
            have M2 := fun h1 h2 => hMA.trans (mrgAt_2 (a := x.w) (b := y.w) (o := (kk : Int)) h1 h2)
            generalize atQ x.w (kk : Int) = Q1 at EA1 ML M2
            generalize atQ y.w (kk : Int) = Q2 at EA2 MR M2
            generalize atB x.w (kk : Int) = b1 at EA1 MN ML MR M2
            generalize atB y.w (kk : Int) = b2 at EA2 MN ML MR M2
            obtain ⟨⟨sc1, sn1⟩, ob1, gn1⟩ := Q1
            obtain ⟨⟨sc2, sn2⟩, ob2, gn2⟩ := Q2
            have EA1 := Lib.hid EA1
            have EA2 := Lib.hid EA2
            have MN := Lib.hid MN
            have ML := Lib.hid ML
            have MR := Lib.hid MR
            have M2 := Lib.hid M2
            have HMU := Lib.hid hmu
            have hln : L.length = m := NX.out.own.l4
            have HLN := Lib.hid hln
            have GI := Lib.hid gI
            have HWR := Lib.hid hb
            have hgX := NX.out.blk.lt
            have h63 : m + 1 ≤ maxLen := by unfold maxLen; omega
            have hneI : some w4.heap.size ≠ some g := blkNe BI.out NX.out.blk (by decide)
            have hsW := hb.size
            clear hmu hkz hz hL hMA hln gI
            obtain ⟨⟨_, _, _, p3⟩, _⟩ := HS.out wr hb
            go_wp2_with fail
            refine (EA1.out _ hb).mono ?_
            rintro e w6 ⟨h6, hb6⟩
            simp only [wcA] at h6
            subst h6
            have hs6 := hb6.size
            have hb7 : Below wr.heap.size wr (w6.alloc (.cells #[.int .i64 sc1, .int .i64 sn1, .int .i64 ob1, .bool gn1] 46)) := hb6.alloc hs6 _
            have k7 := below_then hb (Nat.le_refl _) hb7
            have Y1 := Blk.new w6 46 #[.int .i64 sc1, .int .i64 sn1, .int .i64 ob1, .bool gn1]
            obtain ⟨_, ⟨_, _, _, r3⟩⟩ := HS.out _ k7
            have EB := EA2.out _ k7
            obtain ⟨w7, hw7⟩ : ∃ w7, w7 = w6.alloc (.cells #[.int .i64 sc1, .int .i64 sn1, .int .i64 ob1, .bool gn1] 46) := ⟨_, rfl⟩
            rw [← hw7] at hb7 k7 Y1 EB
            have HW7 := Lib.hid hw7.symm
            have EB := Lib.hid EB
            clear p3 hw7 hb6
            go_wp2_with fail
            rw [HW7.out]
            refine EB.out.mono ?_
            rintro e w8 ⟨h8, hb8⟩
            simp only [wcA] at h8
            subst h8
            have hs8 := hb8.size
            have hs7 := hb7.size
            have Y1 := (Y1.go hb8).alloc (.cells #[.int .i64 sc2, .int .i64 sn2, .int .i64 ob2, .bool gn2] 46)
            have Y2 := Blk.new w8 46 #[.int .i64 sc2, .int .i64 sn2, .int .i64 ob2, .bool gn2]
            have hbr : Below wr.heap.size wr (w8.alloc (.cells #[.int .i64 sc2, .int .i64 sn2, .int .i64 ob2, .bool gn2] 46)) := (hb7.trans (hb8.mono hs7)).alloc (by omega) _
            obtain ⟨w9, hw9⟩ : ∃ w9, w9 = w8.alloc (.cells #[.int .i64 sc2, .int .i64 sn2, .int .i64 ob2, .bool gn2] 46) := ⟨_, rfl⟩
            rw [← hw9] at hbr Y1 Y2
            have HW9 := Lib.hid hw9.symm
            have hY1 : wr.heap.size ≤ w6.heap.size := hs6
            clear r3 hw9 hb8 EB k7 hb7
            go_upto_region 16 with fail
            rw [HW9.out]
            have HBR := Lib.hid hbr
            have HY1 := Lib.hid Y1
            have HY2 := Lib.hid Y2
            clear hbr Y1 Y2 hb
            rcases b1 with _ | _ <;> rcases b2 with _ | _
            · go_wp2
              go_roundw
              case rel => exact ⟨kk + 1, m, d, D, by go_num, by omega, by omega, below_then HWR.out (Nat.le_refl _) HBR.out, BI.out.go HBR.out, by show NtB _ _ _ _ _; rw [show mUp (mrgK x y) x.w y.w (kk + 1) = L by rw [HMU.out, MN.out rfl rfl]; simp]; exact NX.out.go HBR.out⟩
              case measure => simp [intOf]; omega
            · skip
              obtain ⟨b0, b1', b2', b3⟩ := HY2.out.four4
              obtain ⟨a0, a1, a2, a3⟩ := HY1.out.four4
              have fz0 := HY1.out.frozen 0
              have fz1 := HY1.out.frozen 1
              have fz2 := HY1.out.frozen 2
              have fz3 := HY1.out.frozen 3
              obtain ⟨wS, hwS⟩ : ∃ wS, wS = (((w9.setCell ⟨w6.heap.size, 0, none⟩ (.int .i64 sc2)).setCell ⟨w6.heap.size, 1, none⟩ (.int .i64 sn2)).setCell ⟨w6.heap.size, 2, none⟩ (.int .i64 ob2)).setCell ⟨w6.heap.size, 3, none⟩ (.bool gn2) := ⟨_, rfl⟩
              have YS : Blk wS w6.heap.size 46 #[.int .i64 sc2, .int .i64 sn2, .int .i64 ob2, .bool gn2] := by
                rw [hwS]
                exact (((HY1.out.set_ 0 (.int .i64 sc2)).set_ 1 (.int .i64 sn2)).set_ 2 (.int .i64 ob2)).set_ 3 (.bool gn2)
              have hbS : Below wr.heap.size wr wS := by
                rw [hwS]
                exact (((HBR.out.setCell (p := ⟨w6.heap.size, 0, none⟩) hY1 _).setCell (p := ⟨w6.heap.size, 1, none⟩) hY1 _).setCell (p := ⟨w6.heap.size, 2, none⟩) hY1 _).setCell (p := ⟨w6.heap.size, 3, none⟩) hY1 _
              have HYS := Lib.hid YS
              have HBS := Lib.hid hbS
              have HWS := Lib.hid hwS.symm
              clear YS hbS hwS
              go_upto_region 18 with fail
              rw [HWS.out]
              clear b0 b1' b2' b3 a0 a1 a2 a3 fz0 fz1 fz2 fz3
              rcases z with _ | _
              · skip
                have gI := (HBS.out.cell (p := ⟨w4.heap.size, kk, none⟩) BI.out.lt).trans GI.out
                obtain ⟨y0, y1, y2, y3⟩ := HYS.out.four4
                have NXX := NX.out.go HBS.out
                have x3 := NXX.blk.cell 3
                have hbA : Below wS.heap.size wS (wS.alloc (.cells #[.int .i64 sc2, .int .i64 sn2, .int .i64 ob2, .bool gn2] 46)) := (Below.refl _ _).alloc (Nat.le_refl _) _
                have NXA := NXX.go hbA
                have RN := newRowT (W := wS) (t := 46) (cs := #[.int .i64 sc2, .int .i64 sn2, .int .i64 ob2, .bool gn2]) 4 1 hbA rfl h1max
                have kA := below_then (below_then HWR.out (Nat.le_refl _) HBS.out) (Nat.le_refl _) hbA
                have BIA := (BI.out.go HBS.out).go hbA
                have HML := Lib.hid (show mUp (mrgK x y) x.w y.w (kk + 1) = L ++ [((sc2, sn2), ob2, gn2)] by rw [HMU.out, MR.out rfl rfl]; rfl)
                have HNXA := Lib.hid NXA
                have HKA := Lib.hid kA
                have HBIA := Lib.hid BIA
                have HRN := Lib.hid RN
                have hkas := kA.size
                clear NXX hbA NXA RN kA BIA
                go_wp2_with (at_builtin; go_must (refine wpList_append_rd _ rfl (.tmp 110) (.tmp 112) _ rfl W0.heap.size 46 i0 _ 4 32 Tryd.underlying24 hi0 hz0 hz1 hz2 rfl (by decide) (.slice D m d) m _ rfl HNXA.out.own.o4 _ _ 1 1 _ rfl HRN.out (wv_oneCell [((sc2, sn2), ob2, gn2)]) h63 (by omega) hkas ?_); intro D2 d2 W ho hg hat; have XB := HNXA.out.blk.grown hg (gr_ne HNXA.out.blk HNXA.out.own.o4 (by decide)); have xb3 := XB.cell 3; have xbf := XB.frozen 3; have NP := Lib.hid (NtB.push HNXA.out hg (y := L ++ [((sc2, sn2), ob2, gn2)]) (by rw [List.length_append, HLN.out] <;> rfl) (by rw [wv_app]; exact ho)); have BP := Lib.hid ((HBIA.out.grown hg (gr_ne HBIA.out HNXA.out.own.o4 (by decide))).grown (set_gr W g 3 (.slice D2 (m + 1) d2)) hneI); have KP := Lib.hid ((HKA.out.trans (grown_below hg hkas (fun j hj => own_lt HNXA.out.own.o4 j hj))).setCell (p := ⟨g, 3, none⟩) hge (.slice D2 (m + 1) d2)); clear ho hg hat XB)
                go_roundw
                case rel => exact ⟨kk + 1, m + 1, d2, D2, by go_num, by omega, by omega, KP.out, BP.out, by show NtB _ _ _ _ _; rw [HML.out]; exact NP.out⟩
                case measure => simp [intOf]; omega
              · skip
                have gI := (HBS.out.cell (p := ⟨w4.heap.size, kk, none⟩) BI.out.lt).trans GI.out
                go_wp2
                go_roundw
                case rel => exact ⟨kk + 1, m, d, D, by go_num, by omega, by omega, below_then HWR.out (Nat.le_refl _) HBS.out, BI.out.go HBS.out, by show NtB _ _ _ _ _; rw [show mUp (mrgK x y) x.w y.w (kk + 1) = L by rw [HMU.out]; simp]; exact NX.out.go HBS.out⟩
                case measure => simp [intOf]; omega
            · skip
              rcases z with _ | _
              · skip
                have gI := (HBR.out.cell (p := ⟨w4.heap.size, kk, none⟩) BI.out.lt).trans GI.out
                obtain ⟨y0, y1, y2, y3⟩ := HY1.out.four4
                have NXX := NX.out.go HBR.out
                have x3 := NXX.blk.cell 3
                have hbA : Below w9.heap.size w9 (w9.alloc (.cells #[.int .i64 sc1, .int .i64 sn1, .int .i64 ob1, .bool gn1] 46)) := (Below.refl _ _).alloc (Nat.le_refl _) _
                have NXA := NXX.go hbA
                have RN := newRowT (W := w9) (t := 46) (cs := #[.int .i64 sc1, .int .i64 sn1, .int .i64 ob1, .bool gn1]) 4 1 hbA rfl h1max
                have kA := below_then (below_then HWR.out (Nat.le_refl _) HBR.out) (Nat.le_refl _) hbA
                have BIA := (BI.out.go HBR.out).go hbA
                have HML := Lib.hid (show mUp (mrgK x y) x.w y.w (kk + 1) = L ++ [((sc1, sn1), ob1, gn1)] by rw [HMU.out, ML.out rfl rfl]; rfl)
                have HNXA := Lib.hid NXA
                have HKA := Lib.hid kA
                have HBIA := Lib.hid BIA
                have HRN := Lib.hid RN
                have hkas := kA.size
                clear NXX hbA NXA RN kA BIA
                go_wp2_with (at_builtin; go_must (refine wpList_append_rd _ rfl (.tmp 110) (.tmp 112) _ rfl W0.heap.size 46 i0 _ 4 32 Tryd.underlying24 hi0 hz0 hz1 hz2 rfl (by decide) (.slice D m d) m _ rfl HNXA.out.own.o4 _ _ 1 1 _ rfl HRN.out (wv_oneCell [((sc1, sn1), ob1, gn1)]) h63 (by omega) hkas ?_); intro D2 d2 W ho hg hat; have XB := HNXA.out.blk.grown hg (gr_ne HNXA.out.blk HNXA.out.own.o4 (by decide)); have xb3 := XB.cell 3; have xbf := XB.frozen 3; have NP := Lib.hid (NtB.push HNXA.out hg (y := L ++ [((sc1, sn1), ob1, gn1)]) (by rw [List.length_append, HLN.out] <;> rfl) (by rw [wv_app]; exact ho)); have BP := Lib.hid ((HBIA.out.grown hg (gr_ne HBIA.out HNXA.out.own.o4 (by decide))).grown (set_gr W g 3 (.slice D2 (m + 1) d2)) hneI); have KP := Lib.hid ((HKA.out.trans (grown_below hg hkas (fun j hj => own_lt HNXA.out.own.o4 j hj))).setCell (p := ⟨g, 3, none⟩) hge (.slice D2 (m + 1) d2)); clear ho hg hat XB)
                go_roundw
                case rel => exact ⟨kk + 1, m + 1, d2, D2, by go_num, by omega, by omega, KP.out, BP.out, by show NtB _ _ _ _ _; rw [HML.out]; exact NP.out⟩
                case measure => simp [intOf]; omega
              · skip
                have gI := (HBR.out.cell (p := ⟨w4.heap.size, kk, none⟩) BI.out.lt).trans GI.out
                go_wp2
                go_roundw
                case rel => exact ⟨kk + 1, m, d, D, by go_num, by omega, by omega, below_then HWR.out (Nat.le_refl _) HBR.out, BI.out.go HBR.out, by show NtB _ _ _ _ _; rw [show mUp (mrgK x y) x.w y.w (kk + 1) = L by rw [HMU.out]; simp]; exact NX.out.go HBR.out⟩
                case measure => simp [intOf]; omega
            · skip
              have M2x := Lib.hid (M2.out rfl rfl)
              obtain ⟨a0, a1, _, _⟩ := HY1.out.four4
              obtain ⟨b0, b1', _, _⟩ := HY2.out.four4
              have HC := Lib.hid (refStamp_any sc1 sn1 sc2 sn2 w9)
              go_wp2_with fail
              refine HC.out.mono ?_
              rintro e wC ⟨q, rfl, hq, hbC⟩
              have HBC := Lib.hid (below_then HBR.out (Nat.le_refl _) hbC)
              have HYC1 := Lib.hid (HY1.out.go hbC)
              have HYC2 := Lib.hid (HY2.out.go hbC)
              clear a0 a1 b0 b1' hbC HC
              rcases hst : stLt (sc1, sn1) (sc2, sn2) with _ | _
              · have hd : decide (q < 0) = false := hq.trans hst
                have M3 := Lib.hid (show MA = some ((sc1, sn1), ob1, gn1) by rw [M2x.out]; simp [hst])
                clear hq hst
                rcases z with _ | _
                · skip
                  have gI := (HBC.out.cell (p := ⟨w4.heap.size, kk, none⟩) BI.out.lt).trans GI.out
                  obtain ⟨y0, y1, y2, y3⟩ := HYC1.out.four4
                  have NXX := NX.out.go HBC.out
                  have x3 := NXX.blk.cell 3
                  have hbA : Below wC.heap.size wC (wC.alloc (.cells #[.int .i64 sc1, .int .i64 sn1, .int .i64 ob1, .bool gn1] 46)) := (Below.refl _ _).alloc (Nat.le_refl _) _
                  have NXA := NXX.go hbA
                  have RN := newRowT (W := wC) (t := 46) (cs := #[.int .i64 sc1, .int .i64 sn1, .int .i64 ob1, .bool gn1]) 4 1 hbA rfl h1max
                  have kA := below_then (below_then HWR.out (Nat.le_refl _) HBC.out) (Nat.le_refl _) hbA
                  have BIA := (BI.out.go HBC.out).go hbA
                  have HML := Lib.hid (show mUp (mrgK x y) x.w y.w (kk + 1) = L ++ [((sc1, sn1), ob1, gn1)] by rw [HMU.out, M3.out]; rfl)
                  have HNXA := Lib.hid NXA
                  have HKA := Lib.hid kA
                  have HBIA := Lib.hid BIA
                  have HRN := Lib.hid RN
                  have hkas := kA.size
                  clear NXX hbA NXA RN kA BIA
                  go_wp2_with (at_builtin; go_must (refine wpList_append_rd _ rfl (.tmp 110) (.tmp 112) _ rfl W0.heap.size 46 i0 _ 4 32 Tryd.underlying24 hi0 hz0 hz1 hz2 rfl (by decide) (.slice D m d) m _ rfl HNXA.out.own.o4 _ _ 1 1 _ rfl HRN.out (wv_oneCell [((sc1, sn1), ob1, gn1)]) h63 (by omega) hkas ?_); intro D2 d2 W ho hg hat; have XB := HNXA.out.blk.grown hg (gr_ne HNXA.out.blk HNXA.out.own.o4 (by decide)); have xb3 := XB.cell 3; have xbf := XB.frozen 3; have NP := Lib.hid (NtB.push HNXA.out hg (y := L ++ [((sc1, sn1), ob1, gn1)]) (by rw [List.length_append, HLN.out] <;> rfl) (by rw [wv_app]; exact ho)); have BP := Lib.hid ((HBIA.out.grown hg (gr_ne HBIA.out HNXA.out.own.o4 (by decide))).grown (set_gr W g 3 (.slice D2 (m + 1) d2)) hneI); have KP := Lib.hid ((HKA.out.trans (grown_below hg hkas (fun j hj => own_lt HNXA.out.own.o4 j hj))).setCell (p := ⟨g, 3, none⟩) hge (.slice D2 (m + 1) d2)); clear ho hg hat XB)
                  go_roundw
                  case rel => exact ⟨kk + 1, m + 1, d2, D2, by go_num, by omega, by omega, KP.out, BP.out, by show NtB _ _ _ _ _; rw [HML.out]; exact NP.out⟩
                  case measure => simp [intOf]; omega
                · skip
                  have gI := (HBC.out.cell (p := ⟨w4.heap.size, kk, none⟩) BI.out.lt).trans GI.out
                  go_wp2
                  go_roundw
                  case rel => exact ⟨kk + 1, m, d, D, by go_num, by omega, by omega, below_then HWR.out (Nat.le_refl _) HBC.out, BI.out.go HBC.out, by show NtB _ _ _ _ _; rw [show mUp (mrgK x y) x.w y.w (kk + 1) = L by rw [HMU.out]; simp]; exact NX.out.go HBC.out⟩
                  case measure => simp [intOf]; omega
              · have hd : decide (q < 0) = true := hq.trans hst
                have M3 := Lib.hid (show MA = some ((sc2, sn2), ob2, gn2) by rw [M2x.out]; simp [hst])
                clear hq hst
                obtain ⟨b0, b1', b2', b3⟩ := HYC2.out.four4
                obtain ⟨a0, a1, a2, a3⟩ := HYC1.out.four4
                have fz0 := HYC1.out.frozen 0
                have fz1 := HYC1.out.frozen 1
                have fz2 := HYC1.out.frozen 2
                have fz3 := HYC1.out.frozen 3
                obtain ⟨wS, hwS⟩ : ∃ wS, wS = (((wC.setCell ⟨w6.heap.size, 0, none⟩ (.int .i64 sc2)).setCell ⟨w6.heap.size, 1, none⟩ (.int .i64 sn2)).setCell ⟨w6.heap.size, 2, none⟩ (.int .i64 ob2)).setCell ⟨w6.heap.size, 3, none⟩ (.bool gn2) := ⟨_, rfl⟩
                have YS : Blk wS w6.heap.size 46 #[.int .i64 sc2, .int .i64 sn2, .int .i64 ob2, .bool gn2] := by
                  rw [hwS]
                  exact (((HYC1.out.set_ 0 (.int .i64 sc2)).set_ 1 (.int .i64 sn2)).set_ 2 (.int .i64 ob2)).set_ 3 (.bool gn2)
                have hbS : Below wr.heap.size wr wS := by
                  rw [hwS]
                  exact (((HBC.out.setCell (p := ⟨w6.heap.size, 0, none⟩) hY1 _).setCell (p := ⟨w6.heap.size, 1, none⟩) hY1 _).setCell (p := ⟨w6.heap.size, 2, none⟩) hY1 _).setCell (p := ⟨w6.heap.size, 3, none⟩) hY1 _
                have HYS := Lib.hid YS
                have HBS := Lib.hid hbS
                have HWS := Lib.hid hwS.symm
                clear YS hbS hwS
                go_upto_region 18 with fail
                rw [HWS.out]
                clear b0 b1' b2' b3 a0 a1 a2 a3 fz0 fz1 fz2 fz3
                rcases z with _ | _
                · skip
                  have gI := (HBS.out.cell (p := ⟨w4.heap.size, kk, none⟩) BI.out.lt).trans GI.out
                  obtain ⟨y0, y1, y2, y3⟩ := HYS.out.four4
                  have NXX := NX.out.go HBS.out
                  have x3 := NXX.blk.cell 3
                  have hbA : Below wS.heap.size wS (wS.alloc (.cells #[.int .i64 sc2, .int .i64 sn2, .int .i64 ob2, .bool gn2] 46)) := (Below.refl _ _).alloc (Nat.le_refl _) _
                  have NXA := NXX.go hbA
                  have RN := newRowT (W := wS) (t := 46) (cs := #[.int .i64 sc2, .int .i64 sn2, .int .i64 ob2, .bool gn2]) 4 1 hbA rfl h1max
                  have kA := below_then (below_then HWR.out (Nat.le_refl _) HBS.out) (Nat.le_refl _) hbA
                  have BIA := (BI.out.go HBS.out).go hbA
                  have HML := Lib.hid (show mUp (mrgK x y) x.w y.w (kk + 1) = L ++ [((sc2, sn2), ob2, gn2)] by rw [HMU.out, M3.out]; rfl)
                  have HNXA := Lib.hid NXA
                  have HKA := Lib.hid kA
                  have HBIA := Lib.hid BIA
                  have HRN := Lib.hid RN
                  have hkas := kA.size
                  clear NXX hbA NXA RN kA BIA
                  go_wp2_with (at_builtin; go_must (refine wpList_append_rd _ rfl (.tmp 110) (.tmp 112) _ rfl W0.heap.size 46 i0 _ 4 32 Tryd.underlying24 hi0 hz0 hz1 hz2 rfl (by decide) (.slice D m d) m _ rfl HNXA.out.own.o4 _ _ 1 1 _ rfl HRN.out (wv_oneCell [((sc2, sn2), ob2, gn2)]) h63 (by omega) hkas ?_); intro D2 d2 W ho hg hat; have XB := HNXA.out.blk.grown hg (gr_ne HNXA.out.blk HNXA.out.own.o4 (by decide)); have xb3 := XB.cell 3; have xbf := XB.frozen 3; have NP := Lib.hid (NtB.push HNXA.out hg (y := L ++ [((sc2, sn2), ob2, gn2)]) (by rw [List.length_append, HLN.out] <;> rfl) (by rw [wv_app]; exact ho)); have BP := Lib.hid ((HBIA.out.grown hg (gr_ne HBIA.out HNXA.out.own.o4 (by decide))).grown (set_gr W g 3 (.slice D2 (m + 1) d2)) hneI); have KP := Lib.hid ((HKA.out.trans (grown_below hg hkas (fun j hj => own_lt HNXA.out.own.o4 j hj))).setCell (p := ⟨g, 3, none⟩) hge (.slice D2 (m + 1) d2)); clear ho hg hat XB)
                  go_roundw
                  case rel => exact ⟨kk + 1, m + 1, d2, D2, by go_num, by omega, by omega, KP.out, BP.out, by show NtB _ _ _ _ _; rw [HML.out]; exact NP.out⟩
                  case measure => simp [intOf]; omega
                · skip
                  have gI := (HBS.out.cell (p := ⟨w4.heap.size, kk, none⟩) BI.out.lt).trans GI.out
                  go_wp2
                  go_roundw
                  case rel => exact ⟨kk + 1, m, d, D, by go_num, by omega, by omega, below_then HWR.out (Nat.le_refl _) HBS.out, BI.out.go HBS.out, by show NtB _ _ _ _ _; rw [show mUp (mrgK x y) x.w y.w (kk + 1) = L by rw [HMU.out]; simp]; exact NX.out.go HBS.out⟩
                  case measure => simp [intOf]; omega
          · obtain rfl : kk = 256 := by omega
            have NE := Lib.hid NX.out
            obtain ⟨y0, y1, y2, y3⟩ := NX.out.blk.four4
            have hM9 := HM.out.go hb
            have HB9 := Lib.hid hb
            clear hb
            go_wp2_with (refine wpList_store_blk rfl 26 _ _ rfl (w.heap.size + 1 + 1) 26 _ #[.slice A52 SL.length a52, .slice A57 EL.length a57, .slice A62 BL.length a62, .slice D m d] rfl rfl hM9 HI.out rfl (by simp [Value.oneCell']) ?_; intro Wz hblk hg)
            have NO := NE.out.own.blk hM9 (by decide) (by decide) (by decide) hg
            refine bodyPost_ret (res_ct rfl _ _ (w.heap.size + 1 + 1) 26 _ _ _ rfl hblk Tryd.underlying26 rfl (by kernel_rfl)) rfl ⟨⟨A52, SL.length, a52, A57, EL.length, a57, A62, BL.length, a62, D, m, d⟩, rfl, ?_, (below_then HB.out (Nat.le_refl _) HB9.out).trans (grown_below hg (by have := HB9.out.size; have := HS0.out; omega) (fun j hj => by cases hj; omega))⟩
            rw [HNE.out]
            exact NO.rd

end Go.Proofs.YtnibkniggiokkaaDoor
