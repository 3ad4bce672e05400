/- Walk over the document's stretched (printed by wip/tools/genTwT.py). -/
import Derived.Test.YticnfjfdeagmaaaGreatDoorTwM
import Derived.Test.YticnfjfdeagmaaaGreatDoorTwAt
import Derived.Deep.DeepCutAuto
namespace Go.Proofs.YticnfjfdeagmaaaGreatDoor
open Go.RowKit
set_option maxRecDepth 100000

theorem blkOfT {W : World} {t : TypeId} {cs : Array Value} (_ : Below W.heap.size W (W.alloc (.cells cs t))) : Blk (W.alloc (.cells cs t)) W.heap.size t cs := Blk.new W t cs
/- A state of a region's walk that many orders come to: proved once. -/
theorem mg0 {G : World → Prop} {Goal : Prop} (Inv : World → Prop) (main : Hid (∀ W , Inv W  → G W ) → Goal) (lem : ∀ W , Inv W  → G W ) : Goal := main (Lib.hid lem)
theorem mg1 {G : World → Nat → Prop} {Goal : Prop} (Inv : World → Nat → Prop) (main : Hid (∀ W g0, Inv W g0 → G W g0) → Goal) (lem : ∀ W g0, Inv W g0 → G W g0) : Goal := main (Lib.hid lem)
theorem mg2 {G : World → Nat → Nat → Prop} {Goal : Prop} (Inv : World → Nat → Nat → Prop) (main : Hid (∀ W g0 g1, Inv W g0 g1 → G W g0 g1) → Goal) (lem : ∀ W g0 g1, Inv W g0 g1 → G W g0 g1) : Goal := main (Lib.hid lem)
theorem mg3 {G : World → Nat → Nat → Nat → Prop} {Goal : Prop} (Inv : World → Nat → Nat → Nat → Prop) (main : Hid (∀ W g0 g1 g2, Inv W g0 g1 g2 → G W g0 g1 g2) → Goal) (lem : ∀ W g0 g1 g2, Inv W g0 g1 g2 → G W g0 g1 g2) : Goal := main (Lib.hid lem)
theorem strD_no {x : Nt} {o : Int} (v : List Vc.St) (h : atB x.w o = false) : strD v x o = vec (farC v x.s x.e) := by
  unfold strD; unfold atB at h
  rcases he : atO x.w o with _ | q
  · rfl
  · rw [he] at h; cases h
theorem strD_yes {x : Nt} {o : Int} (v : List Vc.St) (h : atB x.w o = true) : strD v x o = pickL (hasB (vec (farC v x.s x.e)) (atQ x.w o).1) (vec (farC v x.s x.e)) v := by
  unfold strD; unfold atB at h; unfold atQ
  rcases he : atO x.w o with _ | q
  · rw [he] at h; cases h
  · rfl
/-- A list of stamps handed back. -/
def VcOut (w w' : World) (e : Ending) (l : List Vc.St) : Prop := ∃ A' n' c', e = .returned (.slice A' n' c') ∧ l.length = n' ∧ Rd w' w'.heap.size 2 A' n' c' (sv l) ∧ Below w.heap.size w w'

set_option maxHeartbeats 16000000 in
theorem refStretched_any (A : Option Addr) (n c : Nat) (u : List Vc.St) (v : NV) (x : Nt) (ob : Int) (w : World) (hl : u.length = n) (hR : Rd w w.heap.size 2 A n c (sv u)) (hN : NtRd w w.heap.size v x) :
    Calls Tryz.prog 37 #[.slice A n c, .agg v.val, .int .i64 ob] w fun e w' => VcOut w w' e (strD u x ob) := by
  obtain ⟨A1, n1, c1, A2, n2, c2, A3, n3, c3, A4, n4, c4⟩ := v
  obtain ⟨hz, hi⟩ := zero_of_info zero_array
  obtain ⟨hzz, hiw⟩ := zero_of_info write_zero
  have HI := Lib.hid hi
  have HIW := Lib.hid hiw
  clear hi hiw
  have hb0 : Below w.heap.size w (w.alloc (.cells #[.slice A1 n1 c1, .slice A2 n2 c2, .slice A3 n3 c3, .slice A4 n4 c4] 27)) := (Below.refl _ _).alloc (Nat.le_refl _) _
  have hX := Blk.new w 27 #[.slice A1 n1 c1, .slice A2 n2 c2, .slice A3 n3 c3, .slice A4 n4 c4]
  obtain ⟨W0, hW0⟩ : ∃ W0, W0 = w.alloc (.cells #[.slice A1 n1 c1, .slice A2 n2 c2, .slice A3 n3 c3, .slice A4 n4 c4] 27) := ⟨_, rfl⟩
  rw [← hW0] at hb0 hX
  obtain ⟨l1, m1, l2, m2, l3, m3, l4, m4⟩ := hN.go hb0
  dsimp only at l1 m1 l2 m2 l3 m3 l4 m4
  have C1 := fun (V : World) (hb : Below W0.heap.size W0 V) => refCounts_any A n c u V hl ((hR.go hb0).go hb)
  have C2 := fun (V : World) (hb : Below W0.heap.size W0 V) => refCounts_any A1 n1 c1 x.s V l1 (m1.go hb)
  have C3 := fun (V : World) (hb : Below W0.heap.size W0 V) => refCounts_any A2 n2 c2 x.e V l2 (m2.go hb)
  have C4 := Lib.hid fun (V : World) (hb : Below W0.heap.size W0 V) => refAt_any A4 n4 c4 x.w ob V l4 (m4.go hb)
  have HQ := Lib.hid fun (V : World) (hb : Below W0.heap.size W0 V) => (show V.cell? ⟨w.heap.size, 0, none⟩ = some (.slice A1 n1 c1) ∧ V.cell? ⟨w.heap.size, 1, none⟩ = some (.slice A2 n2 c2) ∧ V.cell? ⟨w.heap.size, 2, none⟩ = some (.slice A3 n3 c3) ∧ V.cell? ⟨w.heap.size, 3, none⟩ = some (.slice A4 n4 c4) from ⟨(hX.go hb).cell 0, (hX.go hb).cell 1, (hX.go hb).cell 2, (hX.go hb).cell 3⟩)
  obtain ⟨G, hG⟩ : ∃ G, G = farC u x.s x.e := ⟨_, rfl⟩
  have hGn : ∀ m, G m = if Vc.cnt x.s m ≤ Vc.cnt u m then max (Vc.cnt u m) (Vc.cnt x.e m) else Vc.cnt u m := fun m => by rw [hG]; rfl
  obtain ⟨f1, hf1⟩ : ∃ f, f = Vc.cnt u := ⟨_, rfl⟩
  obtain ⟨f2, hf2⟩ : ∃ f, f = Vc.cnt x.s := ⟨_, rfl⟩
  obtain ⟨f3, hf3⟩ : ∃ f, f = Vc.cnt x.e := ⟨_, rfl⟩
  simp only [← hf1] at C1
  simp only [← hf2] at C2
  simp only [← hf3] at C3
  rw [← hf1, ← hf2, ← hf3] at hGn
  have C1 := Lib.hid C1
  have C2 := Lib.hid C2
  have C3 := Lib.hid C3
  have HGN := Lib.hid hGn
  have SN := Lib.hid (strD_no (x := x) (o := ob) u)
  have SY := Lib.hid (strD_yes (x := x) (o := ob) u)
  rw [← hG] at SN SY
  have HW := Lib.hid hW0.symm
  have HB0 := Lib.hid hb0
  have HL := Lib.hid hl
  have HR0 := Lib.hid (hR.go hb0)
  clear hf1 hf2 hf3 hG hGn hX hW0 hb0 hl hR hN l1 m1 l2 m2 l3 m3 l4 m4
  go_enter Tryz.func37, Tryz.ntmps37
  go_upto_region 1 with fail
  rw [HW.out]
  go_cut [7, 8, 9] (fun v7 v8 v9 wx => ∃ (g7 g8 g9 : Nat), v7 = .pointer (some ⟨g7, 0, none⟩) ∧ v8 = .pointer (some ⟨g8, 0, none⟩) ∧ v9 = .pointer (some ⟨g9, 0, none⟩) ∧ Hid (W0.heap.size ≤ g7 ∧ g7 ≠ g8 ∧ g7 ≠ g9 ∧ Below W0.heap.size W0 wx ∧ Blk wx g7 74 (a64 f1) ∧ Blk wx g8 74 (a64 f2) ∧ Blk wx g9 74 (a64 f3)))
  case first =>
    have k : Below W0.heap.size W0 W0.drew := (Below.refl _ W0).drew
    refine region_nrm fun KK hKK => ?_
    refine wp_region_held_drew (S := (fun V => V.cell? ⟨w.heap.size, 0, none⟩ = some (.slice A1 n1 c1) ∧ V.cell? ⟨w.heap.size, 1, none⟩ = some (.slice A2 n2 c2) ∧ V.cell? ⟨w.heap.size, 2, none⟩ = some (.slice A3 n3 c3) ∧ V.cell? ⟨w.heap.size, 3, none⟩ = some (.slice A4 n4 c4))) (by kernel_rfl) (by first | exact HQ.out _ k) (fun hHeld => ?_)
    refine wpAnyH_putD (i := 0) (d := 14) (v := ?_) rfl rfl (by kernel_rfl) (by kernel_rfl) (by kernel_rfl) (fun _ _ _ h => h) (Or.inl ⟨by kernel_rfl, ?_⟩) (by first | exact HQ.out _ k) ?_
    rotate_left
    · (intro w hS; (try dsimp only at hS); go_simp <;> with_reducible rfl)
    try simp only [List.setIfInBounds_toArray, List.set_cons_zero, List.set_cons_succ]
    refine wpAnyH_putD (i := 2) (d := 16) (v := ?_) rfl rfl (by kernel_rfl) (by kernel_rfl) (by kernel_rfl) (fun _ _ _ h => h) (Or.inl ⟨by kernel_rfl, ?_⟩) (by first | exact HQ.out _ k) ?_
    rotate_left
    · (intro w hS; (try dsimp only at hS); go_simp <;> with_reducible rfl)
    try simp only [List.setIfInBounds_toArray, List.set_cons_zero, List.set_cons_succ]
    refine wpAnyH_putD (i := 3) (d := 17) (v := ?_) rfl rfl (by kernel_rfl) (by kernel_rfl) (by kernel_rfl) (fun _ _ _ h => h) (Or.inl ⟨by kernel_rfl, ?_⟩) (by first | exact HQ.out _ k) ?_
    rotate_left
    · (intro w hS; (try dsimp only at hS); go_simp <;> with_reducible rfl)
    try simp only [List.setIfInBounds_toArray, List.set_cons_zero, List.set_cons_succ]
    refine wpAnyH_putD (i := 5) (d := 19) (v := ?_) rfl rfl (by kernel_rfl) (by kernel_rfl) (by kernel_rfl) (fun _ _ _ h => h) (Or.inl ⟨by kernel_rfl, ?_⟩) (by first | exact HQ.out _ k) ?_
    rotate_left
    · (intro w hS; (try dsimp only at hS); go_simp <;> with_reducible rfl)
    try simp only [List.setIfInBounds_toArray, List.set_cons_zero, List.set_cons_succ]
    refine wpAnyH_putD (i := 6) (d := 20) (v := ?_) rfl rfl (by kernel_rfl) (by kernel_rfl) (by kernel_rfl) (fun _ _ _ h => h) (Or.inl ⟨by kernel_rfl, ?_⟩) (by first | exact HQ.out _ k) ?_
    rotate_left
    · (intro w hS; (try dsimp only at hS); go_simp <;> with_reducible rfl)
    try simp only [List.setIfInBounds_toArray, List.set_cons_zero, List.set_cons_succ]
    apply mg3 (fun V g7 g8 g9 => Below W0.heap.size W0 V ∧ W0.heap.size ≤ g7 ∧ W0.heap.size ≤ g8 ∧ W0.heap.size ≤ g9 ∧ g7 ≠ g8 ∧ g7 ≠ g9 ∧ g8 ≠ g9 ∧ Blk V g7 74 (a64 fun _ => 0) ∧ Blk V g8 74 (a64 fun _ => 0) ∧ Blk V g9 74 (a64 fun _ => 0))
    intro E3_789
    apply mg2 (fun V g8 g9 => Below W0.heap.size W0 V ∧ W0.heap.size ≤ g8 ∧ W0.heap.size ≤ g9 ∧ g8 ≠ g9 ∧ Blk V g8 74 (a64 fun _ => 0) ∧ Blk V g9 74 (a64 fun _ => 0))
    intro E3_89
    apply mg2 (fun V g7 g9 => Below W0.heap.size W0 V ∧ W0.heap.size ≤ g7 ∧ W0.heap.size ≤ g9 ∧ g7 ≠ g9 ∧ Blk V g7 74 (a64 fun _ => 0) ∧ Blk V g9 74 (a64 fun _ => 0))
    intro E3_79
    apply mg2 (fun V g7 g8 => Below W0.heap.size W0 V ∧ W0.heap.size ≤ g7 ∧ W0.heap.size ≤ g8 ∧ g7 ≠ g8 ∧ Blk V g7 74 (a64 fun _ => 0) ∧ Blk V g8 74 (a64 fun _ => 0))
    intro E3_78
    apply mg3 (fun V g7 g8 g9 => Below W0.heap.size W0 V ∧ W0.heap.size ≤ g7 ∧ W0.heap.size ≤ g8 ∧ W0.heap.size ≤ g9 ∧ g7 ≠ g8 ∧ g7 ≠ g9 ∧ g8 ≠ g9 ∧ Blk V g7 74 (a64 fun _ => 0) ∧ Blk V g8 74 (a64 fun _ => 0) ∧ Blk V g9 74 (a64 fun _ => 0))
    intro E2_789
    apply mg1 (fun V g9 => Below W0.heap.size W0 V ∧ W0.heap.size ≤ g9 ∧ Blk V g9 74 (a64 fun _ => 0))
    intro E3_9
    apply mg1 (fun V g8 => Below W0.heap.size W0 V ∧ W0.heap.size ≤ g8 ∧ Blk V g8 74 (a64 fun _ => 0))
    intro E3_8
    apply mg1 (fun V g7 => Below W0.heap.size W0 V ∧ W0.heap.size ≤ g7 ∧ Blk V g7 74 (a64 fun _ => 0))
    intro E3_7
    apply mg2 (fun V g8 g9 => Below W0.heap.size W0 V ∧ W0.heap.size ≤ g8 ∧ W0.heap.size ≤ g9 ∧ g8 ≠ g9 ∧ Blk V g8 74 (a64 fun _ => 0) ∧ Blk V g9 74 (a64 fun _ => 0))
    intro E2_89
    apply mg2 (fun V g7 g9 => Below W0.heap.size W0 V ∧ W0.heap.size ≤ g7 ∧ W0.heap.size ≤ g9 ∧ g7 ≠ g9 ∧ Blk V g7 74 (a64 fun _ => 0) ∧ Blk V g9 74 (a64 fun _ => 0))
    intro E2_79
    apply mg2 (fun V g7 g8 => Below W0.heap.size W0 V ∧ W0.heap.size ≤ g7 ∧ W0.heap.size ≤ g8 ∧ g7 ≠ g8 ∧ Blk V g7 74 (a64 fun _ => 0) ∧ Blk V g8 74 (a64 fun _ => 0))
    intro E2_78
    apply mg3 (fun V g7 g8 g9 => Below W0.heap.size W0 V ∧ W0.heap.size ≤ g7 ∧ W0.heap.size ≤ g8 ∧ W0.heap.size ≤ g9 ∧ g7 ≠ g8 ∧ g7 ≠ g9 ∧ g8 ≠ g9 ∧ Blk V g7 74 (a64 fun _ => 0) ∧ Blk V g8 74 (a64 fun _ => 0) ∧ Blk V g9 74 (a64 fun _ => 0))
    intro E1_789
    apply mg0 (fun V => Below W0.heap.size W0 V)
    intro E3_
    apply mg1 (fun V g9 => Below W0.heap.size W0 V ∧ W0.heap.size ≤ g9 ∧ Blk V g9 74 (a64 fun _ => 0))
    intro E2_9
    apply mg1 (fun V g8 => Below W0.heap.size W0 V ∧ W0.heap.size ≤ g8 ∧ Blk V g8 74 (a64 fun _ => 0))
    intro E2_8
    apply mg1 (fun V g7 => Below W0.heap.size W0 V ∧ W0.heap.size ≤ g7 ∧ Blk V g7 74 (a64 fun _ => 0))
    intro E2_7
    apply mg2 (fun V g8 g9 => Below W0.heap.size W0 V ∧ W0.heap.size ≤ g8 ∧ W0.heap.size ≤ g9 ∧ g8 ≠ g9 ∧ Blk V g8 74 (a64 fun _ => 0) ∧ Blk V g9 74 (a64 fun _ => 0))
    intro E1_89
    apply mg2 (fun V g7 g9 => Below W0.heap.size W0 V ∧ W0.heap.size ≤ g7 ∧ W0.heap.size ≤ g9 ∧ g7 ≠ g9 ∧ Blk V g7 74 (a64 fun _ => 0) ∧ Blk V g9 74 (a64 fun _ => 0))
    intro E1_79
    apply mg2 (fun V g7 g8 => Below W0.heap.size W0 V ∧ W0.heap.size ≤ g7 ∧ W0.heap.size ≤ g8 ∧ g7 ≠ g8 ∧ Blk V g7 74 (a64 fun _ => 0) ∧ Blk V g8 74 (a64 fun _ => 0))
    intro E1_78
    apply mg3 (fun V g7 g8 g9 => Below W0.heap.size W0 V ∧ W0.heap.size ≤ g7 ∧ W0.heap.size ≤ g8 ∧ W0.heap.size ≤ g9 ∧ g7 ≠ g8 ∧ g7 ≠ g9 ∧ g8 ≠ g9 ∧ Blk V g7 74 (a64 fun _ => 0) ∧ Blk V g8 74 (a64 fun _ => 0) ∧ Blk V g9 74 (a64 fun _ => 0))
    intro E0_789
    apply mg0 (fun V => Below W0.heap.size W0 V)
    intro E2_
    apply mg1 (fun V g9 => Below W0.heap.size W0 V ∧ W0.heap.size ≤ g9 ∧ Blk V g9 74 (a64 fun _ => 0))
    intro E1_9
    apply mg1 (fun V g8 => Below W0.heap.size W0 V ∧ W0.heap.size ≤ g8 ∧ Blk V g8 74 (a64 fun _ => 0))
    intro E1_8
    apply mg1 (fun V g7 => Below W0.heap.size W0 V ∧ W0.heap.size ≤ g7 ∧ Blk V g7 74 (a64 fun _ => 0))
    intro E1_7
    apply mg2 (fun V g8 g9 => Below W0.heap.size W0 V ∧ W0.heap.size ≤ g8 ∧ W0.heap.size ≤ g9 ∧ g8 ≠ g9 ∧ Blk V g8 74 (a64 fun _ => 0) ∧ Blk V g9 74 (a64 fun _ => 0))
    intro E0_89
    apply mg2 (fun V g7 g9 => Below W0.heap.size W0 V ∧ W0.heap.size ≤ g7 ∧ W0.heap.size ≤ g9 ∧ g7 ≠ g9 ∧ Blk V g7 74 (a64 fun _ => 0) ∧ Blk V g9 74 (a64 fun _ => 0))
    intro E0_79
    apply mg2 (fun V g7 g8 => Below W0.heap.size W0 V ∧ W0.heap.size ≤ g7 ∧ W0.heap.size ≤ g8 ∧ g7 ≠ g8 ∧ Blk V g7 74 (a64 fun _ => 0) ∧ Blk V g8 74 (a64 fun _ => 0))
    intro E0_78
    apply mg0 (fun V => Below W0.heap.size W0 V)
    intro E1_
    apply mg1 (fun V g9 => Below W0.heap.size W0 V ∧ W0.heap.size ≤ g9 ∧ Blk V g9 74 (a64 fun _ => 0))
    intro E0_9
    apply mg1 (fun V g8 => Below W0.heap.size W0 V ∧ W0.heap.size ≤ g8 ∧ Blk V g8 74 (a64 fun _ => 0))
    intro E0_8
    apply mg1 (fun V g7 => Below W0.heap.size W0 V ∧ W0.heap.size ≤ g7 ∧ Blk V g7 74 (a64 fun _ => 0))
    intro E0_7
    obtain ⟨V, hV⟩ : ∃ V, V = W0.drew := ⟨_, rfl⟩
    rw [← hV] at k ⊢
    clear hV
    refine wpAnyH_ready (rs := [1, 8, 9, 10]) (by kernel_rfl) (by simp) ?_
    refine AllReadyH.cons rfl (fun K hK => ?_) (AllReadyH.cons rfl (fun K hK => ?_) (AllReadyH.cons rfl (fun K hK => ?_) (AllReadyH.cons rfl (fun K hK => ?_) AllReadyH.nil)))
    · go_simp
      refine (C1.out _ k).mono ?_
      rintro e V ⟨rfl, hb'⟩
      have k := below_then k (Nat.le_refl _) hb'
      refine hK.out _ _ (by first | exact HQ.out _ k) (fun hHeld => ?_)
      try simp only [List.setIfInBounds_toArray, List.set_cons_zero, List.set_cons_succ]
      exact E1_.out V k
    · go_simp
      have hb' := then_alloc k (.cells (a64 fun _ => 0) 74)
      have G7 := blkOfT hb'
      have b7 := k.size
      have k := below_then k (Nat.le_refl _) hb'
      refine hK.out _ _ (by first | exact HQ.out _ k) (fun hHeld => ?_)
      try simp only [List.setIfInBounds_toArray, List.set_cons_zero, List.set_cons_succ]
      clear hb'
      generalize V.alloc (.cells (a64 fun _ => 0) 74) = U at *
      generalize V.heap.size = g7 at *
      exact E0_7.out U g7 ⟨k, b7, G7⟩
    · go_simp
      have hb' := then_alloc k (.cells (a64 fun _ => 0) 74)
      have G8 := blkOfT hb'
      have b8 := k.size
      have k := below_then k (Nat.le_refl _) hb'
      refine hK.out _ _ (by first | exact HQ.out _ k) (fun hHeld => ?_)
      try simp only [List.setIfInBounds_toArray, List.set_cons_zero, List.set_cons_succ]
      clear hb'
      generalize V.alloc (.cells (a64 fun _ => 0) 74) = U at *
      generalize V.heap.size = g8 at *
      exact E0_8.out U g8 ⟨k, b8, G8⟩
    · go_simp
      have hb' := then_alloc k (.cells (a64 fun _ => 0) 74)
      have G9 := blkOfT hb'
      have b9 := k.size
      have k := below_then k (Nat.le_refl _) hb'
      refine hK.out _ _ (by first | exact HQ.out _ k) (fun hHeld => ?_)
      try simp only [List.setIfInBounds_toArray, List.set_cons_zero, List.set_cons_succ]
      clear hb'
      generalize V.alloc (.cells (a64 fun _ => 0) 74) = U at *
      generalize V.heap.size = g9 at *
      exact E0_9.out U g9 ⟨k, b9, G9⟩
    · intro V g7 hh
      obtain ⟨k, b7, G7⟩ := hh
      refine wpAnyH_ready (rs := [1, 9, 10]) (by kernel_rfl) (by simp) ?_
      refine AllReadyH.cons rfl (fun K hK => ?_) (AllReadyH.cons rfl (fun K hK => ?_) (AllReadyH.cons rfl (fun K hK => ?_) AllReadyH.nil))
      · go_simp
        refine (C1.out _ k).mono ?_
        rintro e V ⟨rfl, hb'⟩
        have k := below_then k (Nat.le_refl _) hb'
        have G7 := G7.go hb'
        refine hK.out _ _ (by first | exact HQ.out _ k) (fun hHeld => ?_)
        try simp only [List.setIfInBounds_toArray, List.set_cons_zero, List.set_cons_succ]
        exact E1_7.out V g7 ⟨k, b7, G7⟩
      · go_simp
        have hb' := then_alloc k (.cells (a64 fun _ => 0) 74)
        have G8 := blkOfT hb'
        have b8 := k.size
        have d78 : g7 ≠ V.heap.size := Nat.ne_of_lt G7.lt
        have k := below_then k (Nat.le_refl _) hb'
        have G7 := G7.go hb'
        refine hK.out _ _ (by first | exact HQ.out _ k) (fun hHeld => ?_)
        try simp only [List.setIfInBounds_toArray, List.set_cons_zero, List.set_cons_succ]
        clear hb'
        generalize V.alloc (.cells (a64 fun _ => 0) 74) = U at *
        generalize V.heap.size = g8 at *
        exact E0_78.out U g7 g8 ⟨k, b7, b8, d78, G7, G8⟩
      · go_simp
        have hb' := then_alloc k (.cells (a64 fun _ => 0) 74)
        have G9 := blkOfT hb'
        have b9 := k.size
        have d79 : g7 ≠ V.heap.size := Nat.ne_of_lt G7.lt
        have k := below_then k (Nat.le_refl _) hb'
        have G7 := G7.go hb'
        refine hK.out _ _ (by first | exact HQ.out _ k) (fun hHeld => ?_)
        try simp only [List.setIfInBounds_toArray, List.set_cons_zero, List.set_cons_succ]
        clear hb'
        generalize V.alloc (.cells (a64 fun _ => 0) 74) = U at *
        generalize V.heap.size = g9 at *
        exact E0_79.out U g7 g9 ⟨k, b7, b9, d79, G7, G9⟩
    · intro V g8 hh
      obtain ⟨k, b8, G8⟩ := hh
      refine wpAnyH_ready (rs := [1, 8, 10]) (by kernel_rfl) (by simp) ?_
      refine AllReadyH.cons rfl (fun K hK => ?_) (AllReadyH.cons rfl (fun K hK => ?_) (AllReadyH.cons rfl (fun K hK => ?_) AllReadyH.nil))
      · go_simp
        refine (C1.out _ k).mono ?_
        rintro e V ⟨rfl, hb'⟩
        have k := below_then k (Nat.le_refl _) hb'
        have G8 := G8.go hb'
        refine hK.out _ _ (by first | exact HQ.out _ k) (fun hHeld => ?_)
        try simp only [List.setIfInBounds_toArray, List.set_cons_zero, List.set_cons_succ]
        exact E1_8.out V g8 ⟨k, b8, G8⟩
      · go_simp
        have hb' := then_alloc k (.cells (a64 fun _ => 0) 74)
        have G7 := blkOfT hb'
        have b7 := k.size
        have d78 : V.heap.size ≠ g8 := Nat.ne_of_gt G8.lt
        have k := below_then k (Nat.le_refl _) hb'
        have G8 := G8.go hb'
        refine hK.out _ _ (by first | exact HQ.out _ k) (fun hHeld => ?_)
        try simp only [List.setIfInBounds_toArray, List.set_cons_zero, List.set_cons_succ]
        clear hb'
        generalize V.alloc (.cells (a64 fun _ => 0) 74) = U at *
        generalize V.heap.size = g7 at *
        exact E0_78.out U g7 g8 ⟨k, b7, b8, d78, G7, G8⟩
      · go_simp
        have hb' := then_alloc k (.cells (a64 fun _ => 0) 74)
        have G9 := blkOfT hb'
        have b9 := k.size
        have d89 : g8 ≠ V.heap.size := Nat.ne_of_lt G8.lt
        have k := below_then k (Nat.le_refl _) hb'
        have G8 := G8.go hb'
        refine hK.out _ _ (by first | exact HQ.out _ k) (fun hHeld => ?_)
        try simp only [List.setIfInBounds_toArray, List.set_cons_zero, List.set_cons_succ]
        clear hb'
        generalize V.alloc (.cells (a64 fun _ => 0) 74) = U at *
        generalize V.heap.size = g9 at *
        exact E0_89.out U g8 g9 ⟨k, b8, b9, d89, G8, G9⟩
    · intro V g9 hh
      obtain ⟨k, b9, G9⟩ := hh
      refine wpAnyH_ready (rs := [1, 8, 9]) (by kernel_rfl) (by simp) ?_
      refine AllReadyH.cons rfl (fun K hK => ?_) (AllReadyH.cons rfl (fun K hK => ?_) (AllReadyH.cons rfl (fun K hK => ?_) AllReadyH.nil))
      · go_simp
        refine (C1.out _ k).mono ?_
        rintro e V ⟨rfl, hb'⟩
        have k := below_then k (Nat.le_refl _) hb'
        have G9 := G9.go hb'
        refine hK.out _ _ (by first | exact HQ.out _ k) (fun hHeld => ?_)
        try simp only [List.setIfInBounds_toArray, List.set_cons_zero, List.set_cons_succ]
        exact E1_9.out V g9 ⟨k, b9, G9⟩
      · go_simp
        have hb' := then_alloc k (.cells (a64 fun _ => 0) 74)
        have G7 := blkOfT hb'
        have b7 := k.size
        have d79 : V.heap.size ≠ g9 := Nat.ne_of_gt G9.lt
        have k := below_then k (Nat.le_refl _) hb'
        have G9 := G9.go hb'
        refine hK.out _ _ (by first | exact HQ.out _ k) (fun hHeld => ?_)
        try simp only [List.setIfInBounds_toArray, List.set_cons_zero, List.set_cons_succ]
        clear hb'
        generalize V.alloc (.cells (a64 fun _ => 0) 74) = U at *
        generalize V.heap.size = g7 at *
        exact E0_79.out U g7 g9 ⟨k, b7, b9, d79, G7, G9⟩
      · go_simp
        have hb' := then_alloc k (.cells (a64 fun _ => 0) 74)
        have G8 := blkOfT hb'
        have b8 := k.size
        have d89 : V.heap.size ≠ g9 := Nat.ne_of_gt G9.lt
        have k := below_then k (Nat.le_refl _) hb'
        have G9 := G9.go hb'
        refine hK.out _ _ (by first | exact HQ.out _ k) (fun hHeld => ?_)
        try simp only [List.setIfInBounds_toArray, List.set_cons_zero, List.set_cons_succ]
        clear hb'
        generalize V.alloc (.cells (a64 fun _ => 0) 74) = U at *
        generalize V.heap.size = g8 at *
        exact E0_89.out U g8 g9 ⟨k, b8, b9, d89, G8, G9⟩
    · intro V hh
      have k := hh
      refine wpAnyH_ready (rs := [4, 8, 9, 10]) (by kernel_rfl) (by simp) ?_
      refine AllReadyH.cons rfl (fun K hK => ?_) (AllReadyH.cons rfl (fun K hK => ?_) (AllReadyH.cons rfl (fun K hK => ?_) (AllReadyH.cons rfl (fun K hK => ?_) AllReadyH.nil)))
      · go_simp
        refine (C2.out _ k).mono ?_
        rintro e V ⟨rfl, hb'⟩
        have k := below_then k (Nat.le_refl _) hb'
        refine hK.out _ _ (by first | exact HQ.out _ k) (fun hHeld => ?_)
        try simp only [List.setIfInBounds_toArray, List.set_cons_zero, List.set_cons_succ]
        exact E2_.out V k
      · go_simp
        have hb' := then_alloc k (.cells (a64 fun _ => 0) 74)
        have G7 := blkOfT hb'
        have b7 := k.size
        have k := below_then k (Nat.le_refl _) hb'
        refine hK.out _ _ (by first | exact HQ.out _ k) (fun hHeld => ?_)
        try simp only [List.setIfInBounds_toArray, List.set_cons_zero, List.set_cons_succ]
        clear hb'
        generalize V.alloc (.cells (a64 fun _ => 0) 74) = U at *
        generalize V.heap.size = g7 at *
        exact E1_7.out U g7 ⟨k, b7, G7⟩
      · go_simp
        have hb' := then_alloc k (.cells (a64 fun _ => 0) 74)
        have G8 := blkOfT hb'
        have b8 := k.size
        have k := below_then k (Nat.le_refl _) hb'
        refine hK.out _ _ (by first | exact HQ.out _ k) (fun hHeld => ?_)
        try simp only [List.setIfInBounds_toArray, List.set_cons_zero, List.set_cons_succ]
        clear hb'
        generalize V.alloc (.cells (a64 fun _ => 0) 74) = U at *
        generalize V.heap.size = g8 at *
        exact E1_8.out U g8 ⟨k, b8, G8⟩
      · go_simp
        have hb' := then_alloc k (.cells (a64 fun _ => 0) 74)
        have G9 := blkOfT hb'
        have b9 := k.size
        have k := below_then k (Nat.le_refl _) hb'
        refine hK.out _ _ (by first | exact HQ.out _ k) (fun hHeld => ?_)
        try simp only [List.setIfInBounds_toArray, List.set_cons_zero, List.set_cons_succ]
        clear hb'
        generalize V.alloc (.cells (a64 fun _ => 0) 74) = U at *
        generalize V.heap.size = g9 at *
        exact E1_9.out U g9 ⟨k, b9, G9⟩
    · intro V g7 g8 hh
      obtain ⟨k, b7, b8, d78, G7, G8⟩ := hh
      refine wpAnyH_ready (rs := [1, 10]) (by kernel_rfl) (by simp) ?_
      refine AllReadyH.cons rfl (fun K hK => ?_) (AllReadyH.cons rfl (fun K hK => ?_) AllReadyH.nil)
      · go_simp
        refine (C1.out _ k).mono ?_
        rintro e V ⟨rfl, hb'⟩
        have k := below_then k (Nat.le_refl _) hb'
        have G7 := G7.go hb'
        have G8 := G8.go hb'
        refine hK.out _ _ (by first | exact HQ.out _ k) (fun hHeld => ?_)
        try simp only [List.setIfInBounds_toArray, List.set_cons_zero, List.set_cons_succ]
        exact E1_78.out V g7 g8 ⟨k, b7, b8, d78, G7, G8⟩
      · go_simp
        have hb' := then_alloc k (.cells (a64 fun _ => 0) 74)
        have G9 := blkOfT hb'
        have b9 := k.size
        have d79 : g7 ≠ V.heap.size := Nat.ne_of_lt G7.lt
        have d89 : g8 ≠ V.heap.size := Nat.ne_of_lt G8.lt
        have k := below_then k (Nat.le_refl _) hb'
        have G7 := G7.go hb'
        have G8 := G8.go hb'
        refine hK.out _ _ (by first | exact HQ.out _ k) (fun hHeld => ?_)
        try simp only [List.setIfInBounds_toArray, List.set_cons_zero, List.set_cons_succ]
        clear hb'
        generalize V.alloc (.cells (a64 fun _ => 0) 74) = U at *
        generalize V.heap.size = g9 at *
        exact E0_789.out U g7 g8 g9 ⟨k, b7, b8, b9, d78, d79, d89, G7, G8, G9⟩
    · intro V g7 g9 hh
      obtain ⟨k, b7, b9, d79, G7, G9⟩ := hh
      refine wpAnyH_ready (rs := [1, 9]) (by kernel_rfl) (by simp) ?_
      refine AllReadyH.cons rfl (fun K hK => ?_) (AllReadyH.cons rfl (fun K hK => ?_) AllReadyH.nil)
      · go_simp
        refine (C1.out _ k).mono ?_
        rintro e V ⟨rfl, hb'⟩
        have k := below_then k (Nat.le_refl _) hb'
        have G7 := G7.go hb'
        have G9 := G9.go hb'
        refine hK.out _ _ (by first | exact HQ.out _ k) (fun hHeld => ?_)
        try simp only [List.setIfInBounds_toArray, List.set_cons_zero, List.set_cons_succ]
        exact E1_79.out V g7 g9 ⟨k, b7, b9, d79, G7, G9⟩
      · go_simp
        have hb' := then_alloc k (.cells (a64 fun _ => 0) 74)
        have G8 := blkOfT hb'
        have b8 := k.size
        have d78 : g7 ≠ V.heap.size := Nat.ne_of_lt G7.lt
        have d89 : V.heap.size ≠ g9 := Nat.ne_of_gt G9.lt
        have k := below_then k (Nat.le_refl _) hb'
        have G7 := G7.go hb'
        have G9 := G9.go hb'
        refine hK.out _ _ (by first | exact HQ.out _ k) (fun hHeld => ?_)
        try simp only [List.setIfInBounds_toArray, List.set_cons_zero, List.set_cons_succ]
        clear hb'
        generalize V.alloc (.cells (a64 fun _ => 0) 74) = U at *
        generalize V.heap.size = g8 at *
        exact E0_789.out U g7 g8 g9 ⟨k, b7, b8, b9, d78, d79, d89, G7, G8, G9⟩
    · intro V g8 g9 hh
      obtain ⟨k, b8, b9, d89, G8, G9⟩ := hh
      refine wpAnyH_ready (rs := [1, 8]) (by kernel_rfl) (by simp) ?_
      refine AllReadyH.cons rfl (fun K hK => ?_) (AllReadyH.cons rfl (fun K hK => ?_) AllReadyH.nil)
      · go_simp
        refine (C1.out _ k).mono ?_
        rintro e V ⟨rfl, hb'⟩
        have k := below_then k (Nat.le_refl _) hb'
        have G8 := G8.go hb'
        have G9 := G9.go hb'
        refine hK.out _ _ (by first | exact HQ.out _ k) (fun hHeld => ?_)
        try simp only [List.setIfInBounds_toArray, List.set_cons_zero, List.set_cons_succ]
        exact E1_89.out V g8 g9 ⟨k, b8, b9, d89, G8, G9⟩
      · go_simp
        have hb' := then_alloc k (.cells (a64 fun _ => 0) 74)
        have G7 := blkOfT hb'
        have b7 := k.size
        have d78 : V.heap.size ≠ g8 := Nat.ne_of_gt G8.lt
        have d79 : V.heap.size ≠ g9 := Nat.ne_of_gt G9.lt
        have k := below_then k (Nat.le_refl _) hb'
        have G8 := G8.go hb'
        have G9 := G9.go hb'
        refine hK.out _ _ (by first | exact HQ.out _ k) (fun hHeld => ?_)
        try simp only [List.setIfInBounds_toArray, List.set_cons_zero, List.set_cons_succ]
        clear hb'
        generalize V.alloc (.cells (a64 fun _ => 0) 74) = U at *
        generalize V.heap.size = g7 at *
        exact E0_789.out U g7 g8 g9 ⟨k, b7, b8, b9, d78, d79, d89, G7, G8, G9⟩
    · intro V g7 hh
      obtain ⟨k, b7, G7⟩ := hh
      refine wpAnyH_ready (rs := [4, 9, 10]) (by kernel_rfl) (by simp) ?_
      refine AllReadyH.cons rfl (fun K hK => ?_) (AllReadyH.cons rfl (fun K hK => ?_) (AllReadyH.cons rfl (fun K hK => ?_) AllReadyH.nil))
      · go_simp
        refine (C2.out _ k).mono ?_
        rintro e V ⟨rfl, hb'⟩
        have k := below_then k (Nat.le_refl _) hb'
        have G7 := G7.go hb'
        refine hK.out _ _ (by first | exact HQ.out _ k) (fun hHeld => ?_)
        try simp only [List.setIfInBounds_toArray, List.set_cons_zero, List.set_cons_succ]
        exact E2_7.out V g7 ⟨k, b7, G7⟩
      · go_simp
        have hb' := then_alloc k (.cells (a64 fun _ => 0) 74)
        have G8 := blkOfT hb'
        have b8 := k.size
        have d78 : g7 ≠ V.heap.size := Nat.ne_of_lt G7.lt
        have k := below_then k (Nat.le_refl _) hb'
        have G7 := G7.go hb'
        refine hK.out _ _ (by first | exact HQ.out _ k) (fun hHeld => ?_)
        try simp only [List.setIfInBounds_toArray, List.set_cons_zero, List.set_cons_succ]
        clear hb'
        generalize V.alloc (.cells (a64 fun _ => 0) 74) = U at *
        generalize V.heap.size = g8 at *
        exact E1_78.out U g7 g8 ⟨k, b7, b8, d78, G7, G8⟩
      · go_simp
        have hb' := then_alloc k (.cells (a64 fun _ => 0) 74)
        have G9 := blkOfT hb'
        have b9 := k.size
        have d79 : g7 ≠ V.heap.size := Nat.ne_of_lt G7.lt
        have k := below_then k (Nat.le_refl _) hb'
        have G7 := G7.go hb'
        refine hK.out _ _ (by first | exact HQ.out _ k) (fun hHeld => ?_)
        try simp only [List.setIfInBounds_toArray, List.set_cons_zero, List.set_cons_succ]
        clear hb'
        generalize V.alloc (.cells (a64 fun _ => 0) 74) = U at *
        generalize V.heap.size = g9 at *
        exact E1_79.out U g7 g9 ⟨k, b7, b9, d79, G7, G9⟩
    · intro V g8 hh
      obtain ⟨k, b8, G8⟩ := hh
      refine wpAnyH_ready (rs := [4, 8, 10]) (by kernel_rfl) (by simp) ?_
      refine AllReadyH.cons rfl (fun K hK => ?_) (AllReadyH.cons rfl (fun K hK => ?_) (AllReadyH.cons rfl (fun K hK => ?_) AllReadyH.nil))
      · go_simp
        refine (C2.out _ k).mono ?_
        rintro e V ⟨rfl, hb'⟩
        have k := below_then k (Nat.le_refl _) hb'
        have G8 := G8.go hb'
        refine hK.out _ _ (by first | exact HQ.out _ k) (fun hHeld => ?_)
        try simp only [List.setIfInBounds_toArray, List.set_cons_zero, List.set_cons_succ]
        exact E2_8.out V g8 ⟨k, b8, G8⟩
      · go_simp
        have hb' := then_alloc k (.cells (a64 fun _ => 0) 74)
        have G7 := blkOfT hb'
        have b7 := k.size
        have d78 : V.heap.size ≠ g8 := Nat.ne_of_gt G8.lt
        have k := below_then k (Nat.le_refl _) hb'
        have G8 := G8.go hb'
        refine hK.out _ _ (by first | exact HQ.out _ k) (fun hHeld => ?_)
        try simp only [List.setIfInBounds_toArray, List.set_cons_zero, List.set_cons_succ]
        clear hb'
        generalize V.alloc (.cells (a64 fun _ => 0) 74) = U at *
        generalize V.heap.size = g7 at *
        exact E1_78.out U g7 g8 ⟨k, b7, b8, d78, G7, G8⟩
      · go_simp
        have hb' := then_alloc k (.cells (a64 fun _ => 0) 74)
        have G9 := blkOfT hb'
        have b9 := k.size
        have d89 : g8 ≠ V.heap.size := Nat.ne_of_lt G8.lt
        have k := below_then k (Nat.le_refl _) hb'
        have G8 := G8.go hb'
        refine hK.out _ _ (by first | exact HQ.out _ k) (fun hHeld => ?_)
        try simp only [List.setIfInBounds_toArray, List.set_cons_zero, List.set_cons_succ]
        clear hb'
        generalize V.alloc (.cells (a64 fun _ => 0) 74) = U at *
        generalize V.heap.size = g9 at *
        exact E1_89.out U g8 g9 ⟨k, b8, b9, d89, G8, G9⟩
    · intro V g9 hh
      obtain ⟨k, b9, G9⟩ := hh
      refine wpAnyH_ready (rs := [4, 8, 9]) (by kernel_rfl) (by simp) ?_
      refine AllReadyH.cons rfl (fun K hK => ?_) (AllReadyH.cons rfl (fun K hK => ?_) (AllReadyH.cons rfl (fun K hK => ?_) AllReadyH.nil))
      · go_simp
        refine (C2.out _ k).mono ?_
        rintro e V ⟨rfl, hb'⟩
        have k := below_then k (Nat.le_refl _) hb'
        have G9 := G9.go hb'
        refine hK.out _ _ (by first | exact HQ.out _ k) (fun hHeld => ?_)
        try simp only [List.setIfInBounds_toArray, List.set_cons_zero, List.set_cons_succ]
        exact E2_9.out V g9 ⟨k, b9, G9⟩
      · go_simp
        have hb' := then_alloc k (.cells (a64 fun _ => 0) 74)
        have G7 := blkOfT hb'
        have b7 := k.size
        have d79 : V.heap.size ≠ g9 := Nat.ne_of_gt G9.lt
        have k := below_then k (Nat.le_refl _) hb'
        have G9 := G9.go hb'
        refine hK.out _ _ (by first | exact HQ.out _ k) (fun hHeld => ?_)
        try simp only [List.setIfInBounds_toArray, List.set_cons_zero, List.set_cons_succ]
        clear hb'
        generalize V.alloc (.cells (a64 fun _ => 0) 74) = U at *
        generalize V.heap.size = g7 at *
        exact E1_79.out U g7 g9 ⟨k, b7, b9, d79, G7, G9⟩
      · go_simp
        have hb' := then_alloc k (.cells (a64 fun _ => 0) 74)
        have G8 := blkOfT hb'
        have b8 := k.size
        have d89 : V.heap.size ≠ g9 := Nat.ne_of_gt G9.lt
        have k := below_then k (Nat.le_refl _) hb'
        have G9 := G9.go hb'
        refine hK.out _ _ (by first | exact HQ.out _ k) (fun hHeld => ?_)
        try simp only [List.setIfInBounds_toArray, List.set_cons_zero, List.set_cons_succ]
        clear hb'
        generalize V.alloc (.cells (a64 fun _ => 0) 74) = U at *
        generalize V.heap.size = g8 at *
        exact E1_89.out U g8 g9 ⟨k, b8, b9, d89, G8, G9⟩
    · intro V hh
      have k := hh
      refine wpAnyH_ready (rs := [7, 8, 9, 10]) (by kernel_rfl) (by simp) ?_
      refine AllReadyH.cons rfl (fun K hK => ?_) (AllReadyH.cons rfl (fun K hK => ?_) (AllReadyH.cons rfl (fun K hK => ?_) (AllReadyH.cons rfl (fun K hK => ?_) AllReadyH.nil)))
      · go_simp
        refine (C3.out _ k).mono ?_
        rintro e V ⟨rfl, hb'⟩
        have k := below_then k (Nat.le_refl _) hb'
        refine hK.out _ _ (by first | exact HQ.out _ k) (fun hHeld => ?_)
        try simp only [List.setIfInBounds_toArray, List.set_cons_zero, List.set_cons_succ]
        exact E3_.out V k
      · go_simp
        have hb' := then_alloc k (.cells (a64 fun _ => 0) 74)
        have G7 := blkOfT hb'
        have b7 := k.size
        have k := below_then k (Nat.le_refl _) hb'
        refine hK.out _ _ (by first | exact HQ.out _ k) (fun hHeld => ?_)
        try simp only [List.setIfInBounds_toArray, List.set_cons_zero, List.set_cons_succ]
        clear hb'
        generalize V.alloc (.cells (a64 fun _ => 0) 74) = U at *
        generalize V.heap.size = g7 at *
        exact E2_7.out U g7 ⟨k, b7, G7⟩
      · go_simp
        have hb' := then_alloc k (.cells (a64 fun _ => 0) 74)
        have G8 := blkOfT hb'
        have b8 := k.size
        have k := below_then k (Nat.le_refl _) hb'
        refine hK.out _ _ (by first | exact HQ.out _ k) (fun hHeld => ?_)
        try simp only [List.setIfInBounds_toArray, List.set_cons_zero, List.set_cons_succ]
        clear hb'
        generalize V.alloc (.cells (a64 fun _ => 0) 74) = U at *
        generalize V.heap.size = g8 at *
        exact E2_8.out U g8 ⟨k, b8, G8⟩
      · go_simp
        have hb' := then_alloc k (.cells (a64 fun _ => 0) 74)
        have G9 := blkOfT hb'
        have b9 := k.size
        have k := below_then k (Nat.le_refl _) hb'
        refine hK.out _ _ (by first | exact HQ.out _ k) (fun hHeld => ?_)
        try simp only [List.setIfInBounds_toArray, List.set_cons_zero, List.set_cons_succ]
        clear hb'
        generalize V.alloc (.cells (a64 fun _ => 0) 74) = U at *
        generalize V.heap.size = g9 at *
        exact E2_9.out U g9 ⟨k, b9, G9⟩
    · intro V g7 g8 g9 hh
      obtain ⟨k, b7, b8, b9, d78, d79, d89, G7, G8, G9⟩ := hh
      refine wpAnyH_ready (rs := [1]) (by kernel_rfl) (by simp) ?_
      refine AllReadyH.cons rfl (fun K hK => ?_) AllReadyH.nil
      · go_simp
        refine (C1.out _ k).mono ?_
        rintro e V ⟨rfl, hb'⟩
        have k := below_then k (Nat.le_refl _) hb'
        have G7 := G7.go hb'
        have G8 := G8.go hb'
        have G9 := G9.go hb'
        refine hK.out _ _ (by first | exact HQ.out _ k) (fun hHeld => ?_)
        try simp only [List.setIfInBounds_toArray, List.set_cons_zero, List.set_cons_succ]
        exact E1_789.out V g7 g8 g9 ⟨k, b7, b8, b9, d78, d79, d89, G7, G8, G9⟩
    · intro V g7 g8 hh
      obtain ⟨k, b7, b8, d78, G7, G8⟩ := hh
      refine wpAnyH_ready (rs := [4, 10]) (by kernel_rfl) (by simp) ?_
      refine AllReadyH.cons rfl (fun K hK => ?_) (AllReadyH.cons rfl (fun K hK => ?_) AllReadyH.nil)
      · go_simp
        refine (C2.out _ k).mono ?_
        rintro e V ⟨rfl, hb'⟩
        have k := below_then k (Nat.le_refl _) hb'
        have G7 := G7.go hb'
        have G8 := G8.go hb'
        refine hK.out _ _ (by first | exact HQ.out _ k) (fun hHeld => ?_)
        try simp only [List.setIfInBounds_toArray, List.set_cons_zero, List.set_cons_succ]
        exact E2_78.out V g7 g8 ⟨k, b7, b8, d78, G7, G8⟩
      · go_simp
        have hb' := then_alloc k (.cells (a64 fun _ => 0) 74)
        have G9 := blkOfT hb'
        have b9 := k.size
        have d79 : g7 ≠ V.heap.size := Nat.ne_of_lt G7.lt
        have d89 : g8 ≠ V.heap.size := Nat.ne_of_lt G8.lt
        have k := below_then k (Nat.le_refl _) hb'
        have G7 := G7.go hb'
        have G8 := G8.go hb'
        refine hK.out _ _ (by first | exact HQ.out _ k) (fun hHeld => ?_)
        try simp only [List.setIfInBounds_toArray, List.set_cons_zero, List.set_cons_succ]
        clear hb'
        generalize V.alloc (.cells (a64 fun _ => 0) 74) = U at *
        generalize V.heap.size = g9 at *
        exact E1_789.out U g7 g8 g9 ⟨k, b7, b8, b9, d78, d79, d89, G7, G8, G9⟩
    · intro V g7 g9 hh
      obtain ⟨k, b7, b9, d79, G7, G9⟩ := hh
      refine wpAnyH_ready (rs := [4, 9]) (by kernel_rfl) (by simp) ?_
      refine AllReadyH.cons rfl (fun K hK => ?_) (AllReadyH.cons rfl (fun K hK => ?_) AllReadyH.nil)
      · go_simp
        refine (C2.out _ k).mono ?_
        rintro e V ⟨rfl, hb'⟩
        have k := below_then k (Nat.le_refl _) hb'
        have G7 := G7.go hb'
        have G9 := G9.go hb'
        refine hK.out _ _ (by first | exact HQ.out _ k) (fun hHeld => ?_)
        try simp only [List.setIfInBounds_toArray, List.set_cons_zero, List.set_cons_succ]
        exact E2_79.out V g7 g9 ⟨k, b7, b9, d79, G7, G9⟩
      · go_simp
        have hb' := then_alloc k (.cells (a64 fun _ => 0) 74)
        have G8 := blkOfT hb'
        have b8 := k.size
        have d78 : g7 ≠ V.heap.size := Nat.ne_of_lt G7.lt
        have d89 : V.heap.size ≠ g9 := Nat.ne_of_gt G9.lt
        have k := below_then k (Nat.le_refl _) hb'
        have G7 := G7.go hb'
        have G9 := G9.go hb'
        refine hK.out _ _ (by first | exact HQ.out _ k) (fun hHeld => ?_)
        try simp only [List.setIfInBounds_toArray, List.set_cons_zero, List.set_cons_succ]
        clear hb'
        generalize V.alloc (.cells (a64 fun _ => 0) 74) = U at *
        generalize V.heap.size = g8 at *
        exact E1_789.out U g7 g8 g9 ⟨k, b7, b8, b9, d78, d79, d89, G7, G8, G9⟩
    · intro V g8 g9 hh
      obtain ⟨k, b8, b9, d89, G8, G9⟩ := hh
      refine wpAnyH_ready (rs := [4, 8]) (by kernel_rfl) (by simp) ?_
      refine AllReadyH.cons rfl (fun K hK => ?_) (AllReadyH.cons rfl (fun K hK => ?_) AllReadyH.nil)
      · go_simp
        refine (C2.out _ k).mono ?_
        rintro e V ⟨rfl, hb'⟩
        have k := below_then k (Nat.le_refl _) hb'
        have G8 := G8.go hb'
        have G9 := G9.go hb'
        refine hK.out _ _ (by first | exact HQ.out _ k) (fun hHeld => ?_)
        try simp only [List.setIfInBounds_toArray, List.set_cons_zero, List.set_cons_succ]
        exact E2_89.out V g8 g9 ⟨k, b8, b9, d89, G8, G9⟩
      · go_simp
        have hb' := then_alloc k (.cells (a64 fun _ => 0) 74)
        have G7 := blkOfT hb'
        have b7 := k.size
        have d78 : V.heap.size ≠ g8 := Nat.ne_of_gt G8.lt
        have d79 : V.heap.size ≠ g9 := Nat.ne_of_gt G9.lt
        have k := below_then k (Nat.le_refl _) hb'
        have G8 := G8.go hb'
        have G9 := G9.go hb'
        refine hK.out _ _ (by first | exact HQ.out _ k) (fun hHeld => ?_)
        try simp only [List.setIfInBounds_toArray, List.set_cons_zero, List.set_cons_succ]
        clear hb'
        generalize V.alloc (.cells (a64 fun _ => 0) 74) = U at *
        generalize V.heap.size = g7 at *
        exact E1_789.out U g7 g8 g9 ⟨k, b7, b8, b9, d78, d79, d89, G7, G8, G9⟩
    · intro V g7 hh
      obtain ⟨k, b7, G7⟩ := hh
      refine wpAnyH_ready (rs := [7, 9, 10]) (by kernel_rfl) (by simp) ?_
      refine AllReadyH.cons rfl (fun K hK => ?_) (AllReadyH.cons rfl (fun K hK => ?_) (AllReadyH.cons rfl (fun K hK => ?_) AllReadyH.nil))
      · go_simp
        refine (C3.out _ k).mono ?_
        rintro e V ⟨rfl, hb'⟩
        have k := below_then k (Nat.le_refl _) hb'
        have G7 := G7.go hb'
        refine hK.out _ _ (by first | exact HQ.out _ k) (fun hHeld => ?_)
        try simp only [List.setIfInBounds_toArray, List.set_cons_zero, List.set_cons_succ]
        exact E3_7.out V g7 ⟨k, b7, G7⟩
      · go_simp
        have hb' := then_alloc k (.cells (a64 fun _ => 0) 74)
        have G8 := blkOfT hb'
        have b8 := k.size
        have d78 : g7 ≠ V.heap.size := Nat.ne_of_lt G7.lt
        have k := below_then k (Nat.le_refl _) hb'
        have G7 := G7.go hb'
        refine hK.out _ _ (by first | exact HQ.out _ k) (fun hHeld => ?_)
        try simp only [List.setIfInBounds_toArray, List.set_cons_zero, List.set_cons_succ]
        clear hb'
        generalize V.alloc (.cells (a64 fun _ => 0) 74) = U at *
        generalize V.heap.size = g8 at *
        exact E2_78.out U g7 g8 ⟨k, b7, b8, d78, G7, G8⟩
      · go_simp
        have hb' := then_alloc k (.cells (a64 fun _ => 0) 74)
        have G9 := blkOfT hb'
        have b9 := k.size
        have d79 : g7 ≠ V.heap.size := Nat.ne_of_lt G7.lt
        have k := below_then k (Nat.le_refl _) hb'
        have G7 := G7.go hb'
        refine hK.out _ _ (by first | exact HQ.out _ k) (fun hHeld => ?_)
        try simp only [List.setIfInBounds_toArray, List.set_cons_zero, List.set_cons_succ]
        clear hb'
        generalize V.alloc (.cells (a64 fun _ => 0) 74) = U at *
        generalize V.heap.size = g9 at *
        exact E2_79.out U g7 g9 ⟨k, b7, b9, d79, G7, G9⟩
    · intro V g8 hh
      obtain ⟨k, b8, G8⟩ := hh
      refine wpAnyH_ready (rs := [7, 8, 10]) (by kernel_rfl) (by simp) ?_
      refine AllReadyH.cons rfl (fun K hK => ?_) (AllReadyH.cons rfl (fun K hK => ?_) (AllReadyH.cons rfl (fun K hK => ?_) AllReadyH.nil))
      · go_simp
        refine (C3.out _ k).mono ?_
        rintro e V ⟨rfl, hb'⟩
        have k := below_then k (Nat.le_refl _) hb'
        have G8 := G8.go hb'
        refine hK.out _ _ (by first | exact HQ.out _ k) (fun hHeld => ?_)
        try simp only [List.setIfInBounds_toArray, List.set_cons_zero, List.set_cons_succ]
        exact E3_8.out V g8 ⟨k, b8, G8⟩
      · go_simp
        have hb' := then_alloc k (.cells (a64 fun _ => 0) 74)
        have G7 := blkOfT hb'
        have b7 := k.size
        have d78 : V.heap.size ≠ g8 := Nat.ne_of_gt G8.lt
        have k := below_then k (Nat.le_refl _) hb'
        have G8 := G8.go hb'
        refine hK.out _ _ (by first | exact HQ.out _ k) (fun hHeld => ?_)
        try simp only [List.setIfInBounds_toArray, List.set_cons_zero, List.set_cons_succ]
        clear hb'
        generalize V.alloc (.cells (a64 fun _ => 0) 74) = U at *
        generalize V.heap.size = g7 at *
        exact E2_78.out U g7 g8 ⟨k, b7, b8, d78, G7, G8⟩
      · go_simp
        have hb' := then_alloc k (.cells (a64 fun _ => 0) 74)
        have G9 := blkOfT hb'
        have b9 := k.size
        have d89 : g8 ≠ V.heap.size := Nat.ne_of_lt G8.lt
        have k := below_then k (Nat.le_refl _) hb'
        have G8 := G8.go hb'
        refine hK.out _ _ (by first | exact HQ.out _ k) (fun hHeld => ?_)
        try simp only [List.setIfInBounds_toArray, List.set_cons_zero, List.set_cons_succ]
        clear hb'
        generalize V.alloc (.cells (a64 fun _ => 0) 74) = U at *
        generalize V.heap.size = g9 at *
        exact E2_89.out U g8 g9 ⟨k, b8, b9, d89, G8, G9⟩
    · intro V g9 hh
      obtain ⟨k, b9, G9⟩ := hh
      refine wpAnyH_ready (rs := [7, 8, 9]) (by kernel_rfl) (by simp) ?_
      refine AllReadyH.cons rfl (fun K hK => ?_) (AllReadyH.cons rfl (fun K hK => ?_) (AllReadyH.cons rfl (fun K hK => ?_) AllReadyH.nil))
      · go_simp
        refine (C3.out _ k).mono ?_
        rintro e V ⟨rfl, hb'⟩
        have k := below_then k (Nat.le_refl _) hb'
        have G9 := G9.go hb'
        refine hK.out _ _ (by first | exact HQ.out _ k) (fun hHeld => ?_)
        try simp only [List.setIfInBounds_toArray, List.set_cons_zero, List.set_cons_succ]
        exact E3_9.out V g9 ⟨k, b9, G9⟩
      · go_simp
        have hb' := then_alloc k (.cells (a64 fun _ => 0) 74)
        have G7 := blkOfT hb'
        have b7 := k.size
        have d79 : V.heap.size ≠ g9 := Nat.ne_of_gt G9.lt
        have k := below_then k (Nat.le_refl _) hb'
        have G9 := G9.go hb'
        refine hK.out _ _ (by first | exact HQ.out _ k) (fun hHeld => ?_)
        try simp only [List.setIfInBounds_toArray, List.set_cons_zero, List.set_cons_succ]
        clear hb'
        generalize V.alloc (.cells (a64 fun _ => 0) 74) = U at *
        generalize V.heap.size = g7 at *
        exact E2_79.out U g7 g9 ⟨k, b7, b9, d79, G7, G9⟩
      · go_simp
        have hb' := then_alloc k (.cells (a64 fun _ => 0) 74)
        have G8 := blkOfT hb'
        have b8 := k.size
        have d89 : V.heap.size ≠ g9 := Nat.ne_of_gt G9.lt
        have k := below_then k (Nat.le_refl _) hb'
        have G9 := G9.go hb'
        refine hK.out _ _ (by first | exact HQ.out _ k) (fun hHeld => ?_)
        try simp only [List.setIfInBounds_toArray, List.set_cons_zero, List.set_cons_succ]
        clear hb'
        generalize V.alloc (.cells (a64 fun _ => 0) 74) = U at *
        generalize V.heap.size = g8 at *
        exact E2_89.out U g8 g9 ⟨k, b8, b9, d89, G8, G9⟩
    · intro V hh
      have k := hh
      refine wpAnyH_ready (rs := [8, 9, 10]) (by kernel_rfl) (by simp) ?_
      refine AllReadyH.cons rfl (fun K hK => ?_) (AllReadyH.cons rfl (fun K hK => ?_) (AllReadyH.cons rfl (fun K hK => ?_) AllReadyH.nil))
      · go_simp
        have hb' := then_alloc k (.cells (a64 fun _ => 0) 74)
        have G7 := blkOfT hb'
        have b7 := k.size
        have k := below_then k (Nat.le_refl _) hb'
        refine hK.out _ _ (by first | exact HQ.out _ k) (fun hHeld => ?_)
        try simp only [List.setIfInBounds_toArray, List.set_cons_zero, List.set_cons_succ]
        clear hb'
        generalize V.alloc (.cells (a64 fun _ => 0) 74) = U at *
        generalize V.heap.size = g7 at *
        exact E3_7.out U g7 ⟨k, b7, G7⟩
      · go_simp
        have hb' := then_alloc k (.cells (a64 fun _ => 0) 74)
        have G8 := blkOfT hb'
        have b8 := k.size
        have k := below_then k (Nat.le_refl _) hb'
        refine hK.out _ _ (by first | exact HQ.out _ k) (fun hHeld => ?_)
        try simp only [List.setIfInBounds_toArray, List.set_cons_zero, List.set_cons_succ]
        clear hb'
        generalize V.alloc (.cells (a64 fun _ => 0) 74) = U at *
        generalize V.heap.size = g8 at *
        exact E3_8.out U g8 ⟨k, b8, G8⟩
      · go_simp
        have hb' := then_alloc k (.cells (a64 fun _ => 0) 74)
        have G9 := blkOfT hb'
        have b9 := k.size
        have k := below_then k (Nat.le_refl _) hb'
        refine hK.out _ _ (by first | exact HQ.out _ k) (fun hHeld => ?_)
        try simp only [List.setIfInBounds_toArray, List.set_cons_zero, List.set_cons_succ]
        clear hb'
        generalize V.alloc (.cells (a64 fun _ => 0) 74) = U at *
        generalize V.heap.size = g9 at *
        exact E3_9.out U g9 ⟨k, b9, G9⟩
    · intro V g7 g8 g9 hh
      obtain ⟨k, b7, b8, b9, d78, d79, d89, G7, G8, G9⟩ := hh
      refine wpAnyH_ready (rs := [4]) (by kernel_rfl) (by simp) ?_
      refine AllReadyH.cons rfl (fun K hK => ?_) AllReadyH.nil
      · go_simp
        refine (C2.out _ k).mono ?_
        rintro e V ⟨rfl, hb'⟩
        have k := below_then k (Nat.le_refl _) hb'
        have G7 := G7.go hb'
        have G8 := G8.go hb'
        have G9 := G9.go hb'
        refine hK.out _ _ (by first | exact HQ.out _ k) (fun hHeld => ?_)
        try simp only [List.setIfInBounds_toArray, List.set_cons_zero, List.set_cons_succ]
        exact E2_789.out V g7 g8 g9 ⟨k, b7, b8, b9, d78, d79, d89, G7, G8, G9⟩
    · intro V g7 g8 hh
      obtain ⟨k, b7, b8, d78, G7, G8⟩ := hh
      refine wpAnyH_ready (rs := [7, 10]) (by kernel_rfl) (by simp) ?_
      refine AllReadyH.cons rfl (fun K hK => ?_) (AllReadyH.cons rfl (fun K hK => ?_) AllReadyH.nil)
      · go_simp
        refine (C3.out _ k).mono ?_
        rintro e V ⟨rfl, hb'⟩
        have k := below_then k (Nat.le_refl _) hb'
        have G7 := G7.go hb'
        have G8 := G8.go hb'
        refine hK.out _ _ (by first | exact HQ.out _ k) (fun hHeld => ?_)
        try simp only [List.setIfInBounds_toArray, List.set_cons_zero, List.set_cons_succ]
        exact E3_78.out V g7 g8 ⟨k, b7, b8, d78, G7, G8⟩
      · go_simp
        have hb' := then_alloc k (.cells (a64 fun _ => 0) 74)
        have G9 := blkOfT hb'
        have b9 := k.size
        have d79 : g7 ≠ V.heap.size := Nat.ne_of_lt G7.lt
        have d89 : g8 ≠ V.heap.size := Nat.ne_of_lt G8.lt
        have k := below_then k (Nat.le_refl _) hb'
        have G7 := G7.go hb'
        have G8 := G8.go hb'
        refine hK.out _ _ (by first | exact HQ.out _ k) (fun hHeld => ?_)
        try simp only [List.setIfInBounds_toArray, List.set_cons_zero, List.set_cons_succ]
        clear hb'
        generalize V.alloc (.cells (a64 fun _ => 0) 74) = U at *
        generalize V.heap.size = g9 at *
        exact E2_789.out U g7 g8 g9 ⟨k, b7, b8, b9, d78, d79, d89, G7, G8, G9⟩
    · intro V g7 g9 hh
      obtain ⟨k, b7, b9, d79, G7, G9⟩ := hh
      refine wpAnyH_ready (rs := [7, 9]) (by kernel_rfl) (by simp) ?_
      refine AllReadyH.cons rfl (fun K hK => ?_) (AllReadyH.cons rfl (fun K hK => ?_) AllReadyH.nil)
      · go_simp
        refine (C3.out _ k).mono ?_
        rintro e V ⟨rfl, hb'⟩
        have k := below_then k (Nat.le_refl _) hb'
        have G7 := G7.go hb'
        have G9 := G9.go hb'
        refine hK.out _ _ (by first | exact HQ.out _ k) (fun hHeld => ?_)
        try simp only [List.setIfInBounds_toArray, List.set_cons_zero, List.set_cons_succ]
        exact E3_79.out V g7 g9 ⟨k, b7, b9, d79, G7, G9⟩
      · go_simp
        have hb' := then_alloc k (.cells (a64 fun _ => 0) 74)
        have G8 := blkOfT hb'
        have b8 := k.size
        have d78 : g7 ≠ V.heap.size := Nat.ne_of_lt G7.lt
        have d89 : V.heap.size ≠ g9 := Nat.ne_of_gt G9.lt
        have k := below_then k (Nat.le_refl _) hb'
        have G7 := G7.go hb'
        have G9 := G9.go hb'
        refine hK.out _ _ (by first | exact HQ.out _ k) (fun hHeld => ?_)
        try simp only [List.setIfInBounds_toArray, List.set_cons_zero, List.set_cons_succ]
        clear hb'
        generalize V.alloc (.cells (a64 fun _ => 0) 74) = U at *
        generalize V.heap.size = g8 at *
        exact E2_789.out U g7 g8 g9 ⟨k, b7, b8, b9, d78, d79, d89, G7, G8, G9⟩
    · intro V g8 g9 hh
      obtain ⟨k, b8, b9, d89, G8, G9⟩ := hh
      refine wpAnyH_ready (rs := [7, 8]) (by kernel_rfl) (by simp) ?_
      refine AllReadyH.cons rfl (fun K hK => ?_) (AllReadyH.cons rfl (fun K hK => ?_) AllReadyH.nil)
      · go_simp
        refine (C3.out _ k).mono ?_
        rintro e V ⟨rfl, hb'⟩
        have k := below_then k (Nat.le_refl _) hb'
        have G8 := G8.go hb'
        have G9 := G9.go hb'
        refine hK.out _ _ (by first | exact HQ.out _ k) (fun hHeld => ?_)
        try simp only [List.setIfInBounds_toArray, List.set_cons_zero, List.set_cons_succ]
        exact E3_89.out V g8 g9 ⟨k, b8, b9, d89, G8, G9⟩
      · go_simp
        have hb' := then_alloc k (.cells (a64 fun _ => 0) 74)
        have G7 := blkOfT hb'
        have b7 := k.size
        have d78 : V.heap.size ≠ g8 := Nat.ne_of_gt G8.lt
        have d79 : V.heap.size ≠ g9 := Nat.ne_of_gt G9.lt
        have k := below_then k (Nat.le_refl _) hb'
        have G8 := G8.go hb'
        have G9 := G9.go hb'
        refine hK.out _ _ (by first | exact HQ.out _ k) (fun hHeld => ?_)
        try simp only [List.setIfInBounds_toArray, List.set_cons_zero, List.set_cons_succ]
        clear hb'
        generalize V.alloc (.cells (a64 fun _ => 0) 74) = U at *
        generalize V.heap.size = g7 at *
        exact E2_789.out U g7 g8 g9 ⟨k, b7, b8, b9, d78, d79, d89, G7, G8, G9⟩
    · intro V g7 hh
      obtain ⟨k, b7, G7⟩ := hh
      refine wpAnyH_ready (rs := [9, 10]) (by kernel_rfl) (by simp) ?_
      refine AllReadyH.cons rfl (fun K hK => ?_) (AllReadyH.cons rfl (fun K hK => ?_) AllReadyH.nil)
      · go_simp
        have hb' := then_alloc k (.cells (a64 fun _ => 0) 74)
        have G8 := blkOfT hb'
        have b8 := k.size
        have d78 : g7 ≠ V.heap.size := Nat.ne_of_lt G7.lt
        have k := below_then k (Nat.le_refl _) hb'
        have G7 := G7.go hb'
        refine hK.out _ _ (by first | exact HQ.out _ k) (fun hHeld => ?_)
        try simp only [List.setIfInBounds_toArray, List.set_cons_zero, List.set_cons_succ]
        clear hb'
        generalize V.alloc (.cells (a64 fun _ => 0) 74) = U at *
        generalize V.heap.size = g8 at *
        exact E3_78.out U g7 g8 ⟨k, b7, b8, d78, G7, G8⟩
      · go_simp
        have hb' := then_alloc k (.cells (a64 fun _ => 0) 74)
        have G9 := blkOfT hb'
        have b9 := k.size
        have d79 : g7 ≠ V.heap.size := Nat.ne_of_lt G7.lt
        have k := below_then k (Nat.le_refl _) hb'
        have G7 := G7.go hb'
        refine hK.out _ _ (by first | exact HQ.out _ k) (fun hHeld => ?_)
        try simp only [List.setIfInBounds_toArray, List.set_cons_zero, List.set_cons_succ]
        clear hb'
        generalize V.alloc (.cells (a64 fun _ => 0) 74) = U at *
        generalize V.heap.size = g9 at *
        exact E3_79.out U g7 g9 ⟨k, b7, b9, d79, G7, G9⟩
    · intro V g8 hh
      obtain ⟨k, b8, G8⟩ := hh
      refine wpAnyH_ready (rs := [8, 10]) (by kernel_rfl) (by simp) ?_
      refine AllReadyH.cons rfl (fun K hK => ?_) (AllReadyH.cons rfl (fun K hK => ?_) AllReadyH.nil)
      · go_simp
        have hb' := then_alloc k (.cells (a64 fun _ => 0) 74)
        have G7 := blkOfT hb'
        have b7 := k.size
        have d78 : V.heap.size ≠ g8 := Nat.ne_of_gt G8.lt
        have k := below_then k (Nat.le_refl _) hb'
        have G8 := G8.go hb'
        refine hK.out _ _ (by first | exact HQ.out _ k) (fun hHeld => ?_)
        try simp only [List.setIfInBounds_toArray, List.set_cons_zero, List.set_cons_succ]
        clear hb'
        generalize V.alloc (.cells (a64 fun _ => 0) 74) = U at *
        generalize V.heap.size = g7 at *
        exact E3_78.out U g7 g8 ⟨k, b7, b8, d78, G7, G8⟩
      · go_simp
        have hb' := then_alloc k (.cells (a64 fun _ => 0) 74)
        have G9 := blkOfT hb'
        have b9 := k.size
        have d89 : g8 ≠ V.heap.size := Nat.ne_of_lt G8.lt
        have k := below_then k (Nat.le_refl _) hb'
        have G8 := G8.go hb'
        refine hK.out _ _ (by first | exact HQ.out _ k) (fun hHeld => ?_)
        try simp only [List.setIfInBounds_toArray, List.set_cons_zero, List.set_cons_succ]
        clear hb'
        generalize V.alloc (.cells (a64 fun _ => 0) 74) = U at *
        generalize V.heap.size = g9 at *
        exact E3_89.out U g8 g9 ⟨k, b8, b9, d89, G8, G9⟩
    · intro V g9 hh
      obtain ⟨k, b9, G9⟩ := hh
      refine wpAnyH_ready (rs := [8, 9]) (by kernel_rfl) (by simp) ?_
      refine AllReadyH.cons rfl (fun K hK => ?_) (AllReadyH.cons rfl (fun K hK => ?_) AllReadyH.nil)
      · go_simp
        have hb' := then_alloc k (.cells (a64 fun _ => 0) 74)
        have G7 := blkOfT hb'
        have b7 := k.size
        have d79 : V.heap.size ≠ g9 := Nat.ne_of_gt G9.lt
        have k := below_then k (Nat.le_refl _) hb'
        have G9 := G9.go hb'
        refine hK.out _ _ (by first | exact HQ.out _ k) (fun hHeld => ?_)
        try simp only [List.setIfInBounds_toArray, List.set_cons_zero, List.set_cons_succ]
        clear hb'
        generalize V.alloc (.cells (a64 fun _ => 0) 74) = U at *
        generalize V.heap.size = g7 at *
        exact E3_79.out U g7 g9 ⟨k, b7, b9, d79, G7, G9⟩
      · go_simp
        have hb' := then_alloc k (.cells (a64 fun _ => 0) 74)
        have G8 := blkOfT hb'
        have b8 := k.size
        have d89 : V.heap.size ≠ g9 := Nat.ne_of_gt G9.lt
        have k := below_then k (Nat.le_refl _) hb'
        have G9 := G9.go hb'
        refine hK.out _ _ (by first | exact HQ.out _ k) (fun hHeld => ?_)
        try simp only [List.setIfInBounds_toArray, List.set_cons_zero, List.set_cons_succ]
        clear hb'
        generalize V.alloc (.cells (a64 fun _ => 0) 74) = U at *
        generalize V.heap.size = g8 at *
        exact E3_89.out U g8 g9 ⟨k, b8, b9, d89, G8, G9⟩
    · intro V g7 g8 g9 hh
      obtain ⟨k, b7, b8, b9, d78, d79, d89, G7, G8, G9⟩ := hh
      refine wpAnyH_ready (rs := [7]) (by kernel_rfl) (by simp) ?_
      refine AllReadyH.cons rfl (fun K hK => ?_) AllReadyH.nil
      · go_simp
        refine (C3.out _ k).mono ?_
        rintro e V ⟨rfl, hb'⟩
        have k := below_then k (Nat.le_refl _) hb'
        have G7 := G7.go hb'
        have G8 := G8.go hb'
        have G9 := G9.go hb'
        refine hK.out _ _ (by first | exact HQ.out _ k) (fun hHeld => ?_)
        try simp only [List.setIfInBounds_toArray, List.set_cons_zero, List.set_cons_succ]
        exact E3_789.out V g7 g8 g9 ⟨k, b7, b8, b9, d78, d79, d89, G7, G8, G9⟩
    · intro V g7 g8 hh
      obtain ⟨k, b7, b8, d78, G7, G8⟩ := hh
      refine wpAnyH_ready (rs := [10]) (by kernel_rfl) (by simp) ?_
      refine AllReadyH.cons rfl (fun K hK => ?_) AllReadyH.nil
      · go_simp
        have hb' := then_alloc k (.cells (a64 fun _ => 0) 74)
        have G9 := blkOfT hb'
        have b9 := k.size
        have d79 : g7 ≠ V.heap.size := Nat.ne_of_lt G7.lt
        have d89 : g8 ≠ V.heap.size := Nat.ne_of_lt G8.lt
        have k := below_then k (Nat.le_refl _) hb'
        have G7 := G7.go hb'
        have G8 := G8.go hb'
        refine hK.out _ _ (by first | exact HQ.out _ k) (fun hHeld => ?_)
        try simp only [List.setIfInBounds_toArray, List.set_cons_zero, List.set_cons_succ]
        clear hb'
        generalize V.alloc (.cells (a64 fun _ => 0) 74) = U at *
        generalize V.heap.size = g9 at *
        exact E3_789.out U g7 g8 g9 ⟨k, b7, b8, b9, d78, d79, d89, G7, G8, G9⟩
    · intro V g7 g9 hh
      obtain ⟨k, b7, b9, d79, G7, G9⟩ := hh
      refine wpAnyH_ready (rs := [9]) (by kernel_rfl) (by simp) ?_
      refine AllReadyH.cons rfl (fun K hK => ?_) AllReadyH.nil
      · go_simp
        have hb' := then_alloc k (.cells (a64 fun _ => 0) 74)
        have G8 := blkOfT hb'
        have b8 := k.size
        have d78 : g7 ≠ V.heap.size := Nat.ne_of_lt G7.lt
        have d89 : V.heap.size ≠ g9 := Nat.ne_of_gt G9.lt
        have k := below_then k (Nat.le_refl _) hb'
        have G7 := G7.go hb'
        have G9 := G9.go hb'
        refine hK.out _ _ (by first | exact HQ.out _ k) (fun hHeld => ?_)
        try simp only [List.setIfInBounds_toArray, List.set_cons_zero, List.set_cons_succ]
        clear hb'
        generalize V.alloc (.cells (a64 fun _ => 0) 74) = U at *
        generalize V.heap.size = g8 at *
        exact E3_789.out U g7 g8 g9 ⟨k, b7, b8, b9, d78, d79, d89, G7, G8, G9⟩
    · intro V g8 g9 hh
      obtain ⟨k, b8, b9, d89, G8, G9⟩ := hh
      refine wpAnyH_ready (rs := [8]) (by kernel_rfl) (by simp) ?_
      refine AllReadyH.cons rfl (fun K hK => ?_) AllReadyH.nil
      · go_simp
        have hb' := then_alloc k (.cells (a64 fun _ => 0) 74)
        have G7 := blkOfT hb'
        have b7 := k.size
        have d78 : V.heap.size ≠ g8 := Nat.ne_of_gt G8.lt
        have d79 : V.heap.size ≠ g9 := Nat.ne_of_gt G9.lt
        have k := below_then k (Nat.le_refl _) hb'
        have G8 := G8.go hb'
        have G9 := G9.go hb'
        refine hK.out _ _ (by first | exact HQ.out _ k) (fun hHeld => ?_)
        try simp only [List.setIfInBounds_toArray, List.set_cons_zero, List.set_cons_succ]
        clear hb'
        generalize V.alloc (.cells (a64 fun _ => 0) 74) = U at *
        generalize V.heap.size = g7 at *
        exact E3_789.out U g7 g8 g9 ⟨k, b7, b8, b9, d78, d79, d89, G7, G8, G9⟩
    · intro V g7 g8 g9 hh
      obtain ⟨k, b7, b8, b9, d78, d79, d89, G7, G8, G9⟩ := hh
      refine wpAnyH_ready (rs := [11]) (by kernel_rfl) (by simp) ?_
      refine AllReadyH.cons rfl (fun K hK => ?_) AllReadyH.nil
      rw [if_pos (by kernel_rfl)]
      refine wp_store_blk 74 (.tmp 7) (.tmp 15) rfl _ 74 _ (a64 f1) rfl rfl G7 (by rw [a64_size]; exact HI.out) rfl (a64_oneCell _) ?_
      intro Ws hblk hg
      have G8 := G8.grown hg (fun e => by injection e with e; omega)
      have G9 := G9.grown hg (fun e => by injection e with e; omega)
      have k := k.trans (grown_below hg k.size (fun j hj => by cases hj; exact b7))
      have G7 := hblk
      clear hg hblk
      refine hK.out _ _ (by first | exact HQ.out _ k) (fun hHeld => ?_)
      clear hK K
      refine wpAnyH_ready (rs := [12]) (by kernel_rfl) (by simp) ?_
      refine AllReadyH.cons rfl (fun K hK => ?_) AllReadyH.nil
      rw [if_pos (by kernel_rfl)]
      refine wp_store_blk 74 (.tmp 8) (.tmp 18) rfl _ 74 _ (a64 f2) rfl rfl G8 (by rw [a64_size]; exact HI.out) rfl (a64_oneCell _) ?_
      intro Ws hblk hg
      have G7 := G7.grown hg (fun e => by injection e with e; omega)
      have G9 := G9.grown hg (fun e => by injection e with e; omega)
      have k := k.trans (grown_below hg k.size (fun j hj => by cases hj; exact b8))
      have G8 := hblk
      clear hg hblk
      refine hK.out _ _ (by first | exact HQ.out _ k) (fun hHeld => ?_)
      clear hK K
      refine wpAnyH_ready (rs := [13]) (by kernel_rfl) (by simp) ?_
      refine AllReadyH.cons rfl (fun K hK => ?_) AllReadyH.nil
      rw [if_pos (by kernel_rfl)]
      refine wp_store_blk 74 (.tmp 9) (.tmp 21) rfl _ 74 _ (a64 f3) rfl rfl G9 (by rw [a64_size]; exact HI.out) rfl (a64_oneCell _) ?_
      intro Ws hblk hg
      have G7 := G7.grown hg (fun e => by injection e with e; omega)
      have G8 := G8.grown hg (fun e => by injection e with e; omega)
      have k := k.trans (grown_below hg k.size (fun j hj => by cases hj; exact b9))
      have G9 := hblk
      clear hg hblk
      refine hK.out _ _ (by first | exact HQ.out _ k) (fun hHeld => ?_)
      clear hK K
      refine wpAnyH_done (by kernel_rfl) ?_ _
      refine Nrm.out (hKK _ _ ?_)
      go_wp2_with fail
      go_meet
      exact ⟨_, _, _, rfl, rfl, rfl, b7, d78, d79, k, G7, G8, G9⟩
  case rest =>
    obtain ⟨g7, g8, g9, rfl, rfl, rfl, hh⟩ := hcut
    obtain ⟨p1, p2, p3, k, G7, G8, G9⟩ := hh.out
    clear C1 C2 C3 hh
    go_wp2_with fail
    go_loopw [10] (fun v10 wr => ∃ j : Nat, v10 = .int .i64 j ∧ j ≤ 64 ∧ Below W0.heap.size W0 wr ∧ Blk wr g7 74 (a64 (mix j f1 G)) ∧ Blk wr g8 74 (a64 f2) ∧ Blk wr g9 74 (a64 f3)) (fun v10 _ => 64 - (intOf v10).toNat)
    case atStart => exact ⟨0, rfl, by omega, k, by rw [mix_zero]; exact G7, G8, G9⟩
    case round =>
      obtain ⟨j, rfl, hj, hb, q1, q2, q3⟩ := hrel
      clear k G7 G8 G9
      by_cases hlt : j < 64
      · have d1 := q1.cell j
        have d2 := q2.cell j
        have d3 := q3.cell j
        have fj := q1.frozen j
        rw [a64_at _ _ hlt] at d1 d2 d3
        rw [mix_at] at d1
        have hgj := HGN.out j
        generalize hy1 : f1 j = y1 at d1 hgj
        generalize f2 j = y2 at d2 hgj
        generalize f3 j = y3 at d3 hgj
        have Q1 := Lib.hid q1
        have Q2 := Lib.hid q2
        have Q3 := Lib.hid q3
        have HB := Lib.hid hb
        have HP := Lib.hid (And.intro p1 (And.intro p2 p3))
        have HGJ := Lib.hid hgj
        have HY1 := Lib.hid hy1
        clear q1 q2 q3 hb p1 p2 p3 hgj hy1
        by_cases hc : y2 ≤ y1
        · have hM := Lib.hid (show max y1 y3 = G j by rw [HGJ.out, if_pos hc])
          have dc : decide (y1 ≥ y2) = true := decide_eq_true hc
          go_wp2
          go_quiet (fail)
          go_wp2
          go_region
          go_wp2
          go_roundw
          case rel =>
            have h5 := fun m => Blk.set_ (w := wr.drewN m) Q1.out j (.int .i64 (max y1 y3))
            rw [hM.out, a64_set _ _ _ hlt, a64_congr (fun n _ => mix_next f1 G j n)] at h5
            rw [hM.out]
            exact ⟨j + 1, by go_num, by omega, (below_drewN HB.out _).setCell (p := ⟨g7, j, none⟩) HP.out.1 _, h5 _, Blk.far (w := wr.drewN _) (p := ⟨g7, j, none⟩) Q2.out (Ne.symm HP.out.2.1) _, Blk.far (w := wr.drewN _) (p := ⟨g7, j, none⟩) Q3.out (Ne.symm HP.out.2.2) _⟩
          case measure => simp [intOf]; omega
        · have hM := Lib.hid (show y1 = G j by rw [HGJ.out, if_neg hc])
          have dc : decide (y1 ≥ y2) = false := decide_eq_false hc
          go_wp2
          go_quiet (fail)
          go_wp2
          go_roundw
          case rel =>
            have e : a64 (mix (j + 1) f1 G) = a64 (mix j f1 G) := a64_congr fun m _ => by
              unfold mix
              by_cases h : m = j
              · subst h; rw [if_pos (by omega), if_neg (by omega), ← hM.out, HY1.out]
              · by_cases h2 : m < j
                · rw [if_pos (by omega), if_pos h2]
                · rw [if_neg (by omega), if_neg h2]
            exact ⟨j + 1, by go_num, by omega, below_drewN HB.out _, by rw [e]; exact Q1.out, Q2.out, Q3.out⟩
          case measure => simp [intOf]; omega
      · obtain rfl : j = 64 := by omega
        rw [a64_congr (mix_end f1 G)] at q1
        have HK := Lib.hid q1
        have HB := Lib.hid hb
        clear q1 q2 q3 hb p1 p2 p3
        obtain ⟨X, hX⟩ : ∃ X, X = vec G := ⟨_, rfl⟩
        obtain ⟨nX, hnX⟩ : ∃ m, m = X.length := ⟨_, rfl⟩
        have O1 := refOf_any G wr
        obtain ⟨Q, hQ⟩ : ∃ Q, Q = atQ x.w ob := ⟨_, rfl⟩
        obtain ⟨B, hB⟩ : ∃ B, B = atB x.w ob := ⟨_, rfl⟩
        rw [← hX] at SN SY O1
        rw [← hnX] at O1
        rw [← hQ, ← hB] at SY C4
        rw [← hB] at SN
        obtain ⟨⟨sc, sn⟩, obj, gn⟩ := Q
        have O1 := Lib.hid O1
        have HNX := Lib.hid hnX.symm
        clear hX hnX hQ hB
        rcases B with _ | _
        · have SN2 := Lib.hid (SN.out rfl)
          clear SY SN C1 C2 C3
          go_wp2_with (first
            | (refine wpList_load_row rfl 74 _ rfl g7 rfl 74 _ _ _ HK.out Tryz.underlying74 rfl (by rw [a64_size]; exact HI.out) ?_)
            | (go_at_call 63; go_must (refine O1.out.mono ?_); rintro e w5 ⟨A5, c5, rfl, ho5, hb5⟩; have hb5 := below_then HB.out (Nat.le_refl _) hb5; obtain ⟨z0, z1, z2, z3⟩ := HQ.out _ hb5)
            | (go_at_call 64; go_must (refine (C4.out _ hb5).mono ?_); rintro e w6 ⟨h6, hb6⟩; simp only [wcA] at h6; subst h6)
            | (refine wpList_store_blk rfl 57 _ _ rfl w6.heap.size 57 _ #[.int .i64 sc, .int .i64 sn, .int .i64 obj, .bool gn] rfl rfl (Blk.new w6 _ _) HIW.out rfl (by simp [Value.oneCell']) ?_; intro w7 hk7 hg7))
          have hb7 : Below w6.heap.size w6 w7 := ((Below.refl _ _).alloc (Nat.le_refl _) _).trans (grown_below hg7 (by simp) (fun k hk => by cases hk; exact Nat.le_refl _))
          go_ret
          rw [SN2.out]
          exact ⟨A5, nX, c5, rfl, HNX.out, ((Rd.of_own ho5).go hb6).go hb7, below_then HB0.out (Nat.le_refl _) (below_then (below_then hb5 (Nat.le_refl _) hb6) (Nat.le_refl _) hb7)⟩
        · have SY2 := SY.out rfl
          obtain ⟨h, hh⟩ : ∃ h, h = hasB X (sc, sn) := ⟨_, rfl⟩
          have H5 := fun (V : World) (D : Option Addr) (d : Nat) (hR : Rd V V.heap.size 2 D nX d (sv X)) => refHas_any D nX d X (sc, sn) V HNX.out hR
          dsimp only at SY2 H5
          rw [← hh] at SY2
          simp only [← hh] at H5
          have SY2 := Lib.hid SY2
          have H5 := Lib.hid H5
          clear SN SY hh C1 C2 C3
          go_wp2_with (first
            | (refine wpList_load_row rfl 74 _ rfl g7 rfl 74 _ _ _ HK.out Tryz.underlying74 rfl (by rw [a64_size]; exact HI.out) ?_)
            | (go_at_call 63; go_must (refine O1.out.mono ?_); rintro e w5 ⟨A5, c5, rfl, ho5, hb5⟩; have hb5 := below_then HB.out (Nat.le_refl _) hb5; obtain ⟨z0, z1, z2, z3⟩ := HQ.out _ hb5)
            | (go_at_call 64; go_must (refine (C4.out _ hb5).mono ?_); rintro e w6 ⟨h6, hb6⟩; simp only [wcA] at h6; subst h6)
            | (refine wpList_store_blk rfl 57 _ _ rfl w6.heap.size 57 _ #[.int .i64 sc, .int .i64 sn, .int .i64 obj, .bool gn] rfl rfl (Blk.new w6 _ _) HIW.out rfl (by simp [Value.oneCell']) ?_; intro w7 hk7 hg7; have y0 := hk7.cell 0; have y1 := hk7.cell 1; have hb7 : Below w6.heap.size w6 w7 := ((Below.refl _ _).alloc (Nat.le_refl _) _).trans (grown_below hg7 (by simp) (fun k hk => by cases hk; exact Nat.le_refl _)))
            | (go_at_call 59; go_must (refine (H5.out _ _ _ (((Rd.of_own ho5).go hb6).go hb7)).mono ?_); rintro e w8 ⟨rfl, hb8⟩; rcases h with _ | _))
          · go_ret
            rw [SY2.out]
            have hb57 := below_then (below_then (below_then hb5 (Nat.le_refl _) hb6) (Nat.le_refl _) hb7) (Nat.le_refl _) hb8
            exact ⟨A, n, c, rfl, HL.out, HR0.out.go hb57, below_then HB0.out (Nat.le_refl _) hb57⟩
          · go_ret
            rw [SY2.out]
            exact ⟨A5, nX, c5, rfl, HNX.out, (((Rd.of_own ho5).go hb6).go hb7).go hb8, below_then HB0.out (Nat.le_refl _) (below_then (below_then (below_then hb5 (Nat.le_refl _) hb6) (Nat.le_refl _) hb7) (Nat.le_refl _) hb8)⟩
end Go.Proofs.YticnfjfdeagmaaaGreatDoor
