/- Walk over the document's Take (printed by wip/tools/genTwU.py). -/
import Derived.Test.YticnfjfdeagmaaaGreatDoorTwT
import Derived.Test.YticnfjfdeagmaaaGreatDoorTwM
import Derived.Test.YticnfjfdeagmaaaGreatDoorNtC
import Derived.Test.YticnfjfdeagmaaaGreatDoorMVec
import Derived.Test.YticnfjfdeagmaaaGreatDoorSpE
namespace Go.Proofs.YticnfjfdeagmaaaGreatDoor
open Go.RowKit
set_option maxRecDepth 100000

theorem set_grU (w : World) (X i : Nat) (u : Value) : w.grownBy (w.setCell ⟨X, i, none⟩ u) (some X) :=
  ⟨rfl, rfl, rfl, by simp, fun k _ hne => Below.heap_setCell w ⟨X, i, none⟩ u k (by rintro rfl; exact hne rfl)⟩
theorem hasO_nat (l : List Sn.Sp) (k : Nat) (h : k < 256) : hasO l (k : Int) = Sn.setOf l k := by
  unfold hasO Sn.setOf
  simp
  intro _; omega
theorem rls_none {f : Int → Option (List Vc.St)} {k : Nat} (h : f k = none) : rls f (k + 1) = rls f k := by simp [rls, rl, h]
theorem rls_zero (f : Int → Option (List Vc.St)) : rls f 0 = [] := rfl
theorem rls_nil {f : Int → Option (List Vc.St)} {k : Nat} {v : List Vc.St} (h : f k = some v) (h0 : rls f k = []) : rls f (k + 1) = rls f k ++ [(((k : Int), (k : Int)), v)] := by
  unfold rls at h0 ⊢
  rw [List.append_eq_nil_iff] at h0
  rcases hc : (rl f k).2 with _ | x
  · rw [rl, h, hc]; simp [h0.1]
  · rw [hc] at h0; simp at h0
theorem rls_snoc {f : Int → Option (List Vc.St)} (hf : ∀ o v, f o = some v → fm (-1) v = true) {k : Nat} (hk : k ≤ 256) {v : List Vc.St} (h : f k = some v) {D : List Zn} {y : Zn} (h0 : rls f k = D ++ [y]) :
    rls f (k + 1) = if y.1.2 = (k : Int) - 1 ∧ y.2 = v then D ++ [((y.1.1, (k : Int)), v)] else (D ++ [y]) ++ [(((k : Int), (k : Int)), v)] := by
  have ok := rl_ok f hf k hk
  rcases hc : (rl f k).2 with _ | x
  · have h1 := ok.none hc
    unfold rls at h0
    rw [hc] at h0
    simp only [Option.toList_none, List.append_nil] at h0
    rw [h0, endE_snoc, endP_snoc] at h1
    have h2 : ¬ (y.1.2 = (k : Int) - 1 ∧ y.2 = v) := by
      rintro ⟨h2, _⟩
      rcases h1 with h1 | ⟨h1, _⟩
      · omega
      · cases h1
    rw [if_neg h2]
    unfold rls
    rw [rl, h]
    simp [hc, h0]
  · have h1 := ok.some x hc
    unfold rls at h0
    rw [hc] at h0
    simp only [Option.toList_some] at h0
    obtain ⟨e1, e2⟩ := List.append_inj' h0 rfl
    injection e2 with e2
    subst e2
    unfold rls
    rw [rl, h]
    by_cases hv : x.2 = v
    · rw [if_pos ⟨by omega, hv⟩]; simp [hc, hv, e1]
    · rw [if_neg (fun h => hv h.2)]; simp [hc, hv, e1]
theorem rls_len {f : Int → Option (List Vc.St)} (hf : ∀ o v, f o = some v → fm (-1) v = true) {k : Nat} (hk : k ≤ 256) : (rls f k).length ≤ 256 := zF_256 (rl_ok f hf k hk).fm
theorem tkF_none {z : List Zn} {known : List Vc.St} {x : Nt} {o : Int} (h : cov2 (newD z known x o) (nowOf known x) = true) : tkF z known x o = none := if_pos h
theorem tkF_some {z : List Zn} {known : List Vc.St} {x : Nt} {o : Int} (h : cov2 (newD z known x o) (nowOf known x) = false) : tkF z known x o = some (newD z known x o) := if_neg (by rw [h]; simp)
theorem newD_blur {z : List Zn} {known : List Vc.St} {x : Nt} {o : Int} (h : hasO x.b o = true) : newD z known x o = reach z known o := if_pos h
theorem newD_str {z : List Zn} {known : List Vc.St} {x : Nt} {o : Int} (h : hasO x.b o = false) : newD z known x o = strD (reach z known o) x o := if_neg (by rw [h]; simp)
theorem reach_found {z : List Zn} {known : List Vc.St} {o : Int} {y : Zn} (h : z.find? (inZ o) = some y) : reach z known o = y.2 := by unfold reach; rw [h]
theorem reach_lost {z : List Zn} {known : List Vc.St} {o : Int} (h : z.find? (inZ o) = none) : reach z known o = known := by unfold reach; rw [h]
theorem tkE_one {z : List Zn} {known : List Vc.St} {x : Nt} (h : (zF (-1) none z && (fm (-1) known && ntF x)) = false) : tkE z known x = 1 ∧ tkZ' z known x = [] ∧ tkK z known x = [] := by
  have : tkE z known x = 1 := by unfold tkE; rw [h]; simp
  exact ⟨this, by unfold tkZ'; rw [this]; simp, by unfold tkK; rw [this]; simp⟩
theorem tkE_three {z : List Zn} {known : List Vc.St} {x : Nt} (h : (zF (-1) none z && (fm (-1) known && ntF x)) = true) (h2 : ntFits x known = false) : tkE z known x = 3 ∧ tkZ' z known x = [] ∧ tkK z known x = [] := by
  have : tkE z known x = 3 := by unfold tkE; rw [h, h2]; simp
  exact ⟨this, by unfold tkZ'; rw [this]; simp, by unfold tkK; rw [this]; simp⟩
theorem tkE_ok {z : List Zn} {known : List Vc.St} {x : Nt} (h : (zF (-1) none z && (fm (-1) known && ntF x)) = true) (h2 : ntFits x known = true) : tkE z known x = 0 ∧ tkZ' z known x = tkZ z known x ∧ tkK z known x = nowOf known x := by
  have : tkE z known x = 0 := by unfold tkE; rw [h, h2]; simp
  exact ⟨this, by unfold tkZ'; rw [this]; simp, by unfold tkK; rw [this]; simp⟩

set_option maxHeartbeats 16000000 in
theorem refTake_any (A D : Option Addr) (n c q d : Nat) (L : List (ZV × Zn)) (u0 : List Vc.St) (v : NV) (x : Nt) (w : World) (hR : RdZ w w.heap.size A n c L) (hl : u0.length = q) (hR2 : Rd w w.heap.size 2 D q d (sv u0)) (hN : NtRd w w.heap.size v x) :
    Calls Tryz.prog 8 #[.slice A n c, .slice D q d, .agg v.val] w fun e w' => TkOut w w' e (tkE (zns L) u0 x) (tkZ' (zns L) u0 x) (tkK (zns L) u0 x) := by
  obtain ⟨A1, n1, c1, A2, n2, c2, A3, n3, c3, A4, n4, c4⟩ := v
  obtain ⟨hz, hi⟩ := zero_of_info zero_marks
  obtain ⟨i0, hi0, hz0, hz1, hz2⟩ := info_parts zone_info
  have h1max : 1 ≤ maxLen := by unfold maxLen; omega
  have HI := Lib.hid hi
  clear hi
  have hb0 : Below w.heap.size w (w.alloc (.cells #[.slice A1 n1 c1, .slice A2 n2 c2, .slice A3 n3 c3, .slice A4 n4 c4] 27)) := (Below.refl _ _).alloc (Nat.le_refl _) _
  have hX := Blk.new w 27 #[.slice A1 n1 c1, .slice A2 n2 c2, .slice A3 n3 c3, .slice A4 n4 c4]
  obtain ⟨W0, hW0⟩ : ∃ W0, W0 = w.alloc (.cells #[.slice A1 n1 c1, .slice A2 n2 c2, .slice A3 n3 c3, .slice A4 n4 c4] 27) := ⟨_, rfl⟩
  rw [← hW0] at hb0 hX
  have hN0 := hN.go hb0
  have G1 := fun (V : World) (hb : Below W0.heap.size W0 V) => refZonesFormed_any A n c L V ((hR.go hb0).go hb)
  have G2 := fun (V : World) (hb : Below W0.heap.size W0 V) => refFormed_any D q d u0 V hl ((hR2.go hb0).go hb)
  have G3 := fun (V : World) (hb : Below W0.heap.size W0 V) => refNoteFormed_any ⟨A1, n1, c1, A2, n2, c2, A3, n3, c3, A4, n4, c4⟩ x V (hN0.go hb)
  have G4 := fun (V : World) (hb : Below W0.heap.size W0 V) => refFits_any ⟨A1, n1, c1, A2, n2, c2, A3, n3, c3, A4, n4, c4⟩ x D q d u0 V (hN0.go hb) hl ((hR2.go hb0).go hb)
  have G5 := fun (V : World) (hb : Below W0.heap.size W0 V) => refTwo_any D A2 q d n2 c2 u0 x.e V hl hN0.l2 ((hR2.go hb0).go hb) (hN0.go hb).r2
  have G6 := fun (V : World) (hb : Below W0.heap.size W0 V) => refSet_any A3 n3 c3 x.b V hN0.l3 (hN0.go hb).r3
  simp only [NV.val] at G3 G4 ⊢
  rw [show vec (jn [u0, x.e]) = nowOf u0 x from rfl] at G5
  have HQ := Lib.hid fun (V : World) (hb : Below W0.heap.size W0 V) => (show V.cell? ⟨w.heap.size, 0, none⟩ = some (.slice A1 n1 c1) ∧ V.cell? ⟨w.heap.size, 1, none⟩ = some (.slice A2 n2 c2) ∧ V.cell? ⟨w.heap.size, 2, none⟩ = some (.slice A3 n3 c3) ∧ V.cell? ⟨w.heap.size, 3, none⟩ = some (.slice A4 n4 c4) from ⟨(hX.go hb).cell 0, (hX.go hb).cell 1, (hX.go hb).cell 2, (hX.go hb).cell 3⟩)
  have HW := Lib.hid hW0.symm
  have HB0 := Lib.hid hb0
  have HL := Lib.hid hl
  have HR0 := Lib.hid (hR.go hb0)
  have HD0 := Lib.hid (hR2.go hb0)
  have HN0 := Lib.hid hN0
  have k := Below.refl W0.heap.size W0
  have G6 := Lib.hid G6
  clear hX hW0 hb0 hl hR hR2 hN hN0

  rcases hf1 : zF (-1) none (zns L) with _ | _
  · obtain ⟨e1, e2, e3⟩ := tkE_one (z := zns L) (known := u0) (x := x) (by rw [hf1]; rfl)
    rw [e1, e2, e3]
    simp only [hf1] at G1
    have G1 := Lib.hid G1
    clear e1 e2 e3 hf1
    obtain ⟨q0, q1, q2, q3⟩ := HQ.out _ k
    go_enter Tryz.func8, Tryz.ntmps8
    go_upto_region 1 with fail
    rw [HW.out]
    go_wp2_with (first | (go_at_call 30; go_must (refine (G1.out _ k).mono ?_); rintro e w1 ⟨rfl, hb'⟩; have k := below_then k (Nat.le_refl _) hb'; clear hb'; obtain ⟨q0, q1, q2, q3⟩ := HQ.out _ k))
    go_ret3
    exact TkOut.no (below_then HB0.out (Nat.le_refl _) k)
  rcases hf2 : fm (-1) u0 with _ | _
  · obtain ⟨e1, e2, e3⟩ := tkE_one (z := zns L) (known := u0) (x := x) (by rw [hf2]; simp)
    rw [e1, e2, e3]
    simp only [hf1] at G1
    simp only [hf2] at G2
    have G1 := Lib.hid G1
    have G2 := Lib.hid G2
    clear e1 e2 e3 hf1 hf2
    obtain ⟨q0, q1, q2, q3⟩ := HQ.out _ k
    go_enter Tryz.func8, Tryz.ntmps8
    go_upto_region 1 with fail
    rw [HW.out]
    go_wp2_with (first | (go_at_call 30; go_must (refine (G1.out _ k).mono ?_); rintro e w1 ⟨rfl, hb'⟩; have k := below_then k (Nat.le_refl _) hb'; clear hb'; obtain ⟨q0, q1, q2, q3⟩ := HQ.out _ k) | (go_at_call 31; go_must (refine (G2.out _ k).mono ?_); rintro e w2 ⟨rfl, hb'⟩; have k := below_then k (Nat.le_refl _) hb'; clear hb'; obtain ⟨q0, q1, q2, q3⟩ := HQ.out _ k))
    go_ret3
    exact TkOut.no (below_then HB0.out (Nat.le_refl _) k)
  rcases hf3 : ntF x with _ | _
  · obtain ⟨e1, e2, e3⟩ := tkE_one (z := zns L) (known := u0) (x := x) (by rw [hf3]; simp)
    rw [e1, e2, e3]
    simp only [hf1] at G1
    simp only [hf2] at G2
    simp only [hf3] at G3
    have G1 := Lib.hid G1
    have G2 := Lib.hid G2
    have G3 := Lib.hid G3
    clear e1 e2 e3 hf1 hf2 hf3
    obtain ⟨q0, q1, q2, q3⟩ := HQ.out _ k
    go_enter Tryz.func8, Tryz.ntmps8
    go_upto_region 1 with fail
    rw [HW.out]
    go_wp2_with (first | (go_at_call 30; go_must (refine (G1.out _ k).mono ?_); rintro e w1 ⟨rfl, hb'⟩; have k := below_then k (Nat.le_refl _) hb'; clear hb'; obtain ⟨q0, q1, q2, q3⟩ := HQ.out _ k) | (go_at_call 31; go_must (refine (G2.out _ k).mono ?_); rintro e w2 ⟨rfl, hb'⟩; have k := below_then k (Nat.le_refl _) hb'; clear hb'; obtain ⟨q0, q1, q2, q3⟩ := HQ.out _ k) | (go_at_call 32; go_must (refine (G3.out _ k).mono ?_); rintro e w3 ⟨rfl, hb'⟩; have k := below_then k (Nat.le_refl _) hb'; clear hb'; obtain ⟨q0, q1, q2, q3⟩ := HQ.out _ k))
    go_ret3
    exact TkOut.no (below_then HB0.out (Nat.le_refl _) k)
  rcases hf4 : ntFits x u0 with _ | _
  · obtain ⟨e1, e2, e3⟩ := tkE_three (z := zns L) (known := u0) (x := x) (by rw [hf1, hf2, hf3]; rfl) hf4
    rw [e1, e2, e3]
    simp only [hf1] at G1
    simp only [hf2] at G2
    simp only [hf3] at G3
    simp only [hf4] at G4
    have G1 := Lib.hid G1
    have G2 := Lib.hid G2
    have G3 := Lib.hid G3
    have G4 := Lib.hid G4
    clear e1 e2 e3 hf1 hf2 hf3 hf4
    obtain ⟨q0, q1, q2, q3⟩ := HQ.out _ k
    go_enter Tryz.func8, Tryz.ntmps8
    go_upto_region 1 with fail
    rw [HW.out]
    go_wp2_with (first | (go_at_call 30; go_must (refine (G1.out _ k).mono ?_); rintro e w1 ⟨rfl, hb'⟩; have k := below_then k (Nat.le_refl _) hb'; clear hb'; obtain ⟨q0, q1, q2, q3⟩ := HQ.out _ k) | (go_at_call 31; go_must (refine (G2.out _ k).mono ?_); rintro e w2 ⟨rfl, hb'⟩; have k := below_then k (Nat.le_refl _) hb'; clear hb'; obtain ⟨q0, q1, q2, q3⟩ := HQ.out _ k) | (go_at_call 32; go_must (refine (G3.out _ k).mono ?_); rintro e w3 ⟨rfl, hb'⟩; have k := below_then k (Nat.le_refl _) hb'; clear hb'; obtain ⟨q0, q1, q2, q3⟩ := HQ.out _ k) | (go_at_call 33; go_must (refine (G4.out _ k).mono ?_); rintro e w4 ⟨rfl, hb'⟩; have k := below_then k (Nat.le_refl _) hb'; clear hb'; obtain ⟨q0, q1, q2, q3⟩ := HQ.out _ k))
    go_ret3
    exact TkOut.no (below_then HB0.out (Nat.le_refl _) k)
  obtain ⟨e1, e2, e3⟩ := tkE_ok (z := zns L) (known := u0) (x := x) (by rw [hf1, hf2, hf3]; rfl) hf4
  rw [e1, e2, e3]
  simp only [hf1] at G1
  simp only [hf2] at G2
  simp only [hf3] at G3
  simp only [hf4] at G4
  have HFM := Lib.hid fun o v e => tkF_fm hf1 hf2 x o v e
  have HFN := Lib.hid fun (o : Int) => tkF_none (z := zns L) (known := u0) (x := x) (o := o)
  have HFS := Lib.hid fun (o : Int) => tkF_some (z := zns L) (known := u0) (x := x) (o := o)
  obtain ⟨K, hK⟩ : ∃ K, K = nowOf u0 x := ⟨_, rfl⟩
  obtain ⟨nK, hnK⟩ : ∃ m, m = K.length := ⟨_, rfl⟩
  obtain ⟨f, hf⟩ : ∃ f, f = tkF (zns L) u0 x := ⟨_, rfl⟩
  obtain ⟨Z, hZ⟩ : ∃ Z, Z = tkZ (zns L) u0 x := ⟨_, rfl⟩
  rw [← hK] at G5 HFN HFS ⊢
  rw [← hnK] at G5
  rw [← hf] at HFM HFN HFS
  rw [← hZ]
  have HZ := Lib.hid (show rls f 256 = Z by rw [hZ, hf]; rfl)
  have HNK := Lib.hid hnK.symm
  have G1 := Lib.hid G1
  have G2 := Lib.hid G2
  have G3 := Lib.hid G3
  have G4 := Lib.hid G4
  have G5 := Lib.hid G5
  clear e1 e2 e3 hf1 hf2 hf3 hf4 hK hnK hf hZ
  obtain ⟨q0, q1, q2, q3⟩ := HQ.out _ k
  go_enter Tryz.func8, Tryz.ntmps8
  go_upto_region 1 with fail
  rw [HW.out]
  go_wp2_with (first
    | (go_at_call 30; go_must (refine (G1.out _ k).mono ?_); rintro e w1 ⟨rfl, hb'⟩; have k := below_then k (Nat.le_refl _) hb'; clear hb'; obtain ⟨q0, q1, q2, q3⟩ := HQ.out _ k) | (go_at_call 31; go_must (refine (G2.out _ k).mono ?_); rintro e w2 ⟨rfl, hb'⟩; have k := below_then k (Nat.le_refl _) hb'; clear hb'; obtain ⟨q0, q1, q2, q3⟩ := HQ.out _ k) | (go_at_call 32; go_must (refine (G3.out _ k).mono ?_); rintro e w3 ⟨rfl, hb'⟩; have k := below_then k (Nat.le_refl _) hb'; clear hb'; obtain ⟨q0, q1, q2, q3⟩ := HQ.out _ k) | (go_at_call 33; go_must (refine (G4.out _ k).mono ?_); rintro e w4 ⟨rfl, hb'⟩; have k := below_then k (Nat.le_refl _) hb'; clear hb'; obtain ⟨q0, q1, q2, q3⟩ := HQ.out _ k)
    | (go_at_call 34; go_must (refine (G5.out _ k).mono ?_); rintro e w5 ⟨A9, c9, rfl, ho9, hb'⟩; have k := below_then k (Nat.le_refl _) hb'; clear hb'; obtain ⟨q0, q1, q2, q3⟩ := HQ.out _ k)
    | (go_at_call 35; go_must (refine (G6.out _ k).mono ?_); rintro e w6 ⟨rfl, hb6⟩; have k := below_then k (Nat.le_refl _) hb6)
    | (refine wpList_store_blk rfl 63 _ _ rfl w6.heap.size 63 _ (b256 (Sn.setOf x.b)) rfl rfl (Blk.new w6 _ _) (by rw [b256_size]; exact HI.out) rfl (b256_oneCell _) ?_; intro w8 hk8 hg8))
  have hb8 : Below w6.heap.size w6 w8 := ((Below.refl _ _).alloc (Nat.le_refl _) _).trans (grown_below hg8 (by simp) (fun k hk => by cases hk; exact Nat.le_refl _))
  have k8 := below_then k (Nat.le_refl _) hb8
  obtain ⟨g10, hg10⟩ : ∃ g, g = w6.heap.size := ⟨_, rfl⟩
  rw [← hg10] at hk8 ⊢
  have HK := Lib.hid (((Rd.of_own ho9).go hb6).go hb8)
  have HR := Lib.hid (HR0.out.go k8)
  have HD := Lib.hid (HD0.out.go k8)
  have HN := Lib.hid (HN0.out.go k8)
  have HS := Lib.hid fun (V : World) (j : Nat) (hj : j < 256) (hb : Below w8.heap.size w8 V) => ((hk8.go hb).cell j).trans (b256_at (Sn.setOf x.b) j hj)
  have HBB := Lib.hid (below_then HB0.out (Nat.le_refl _) k8)
  have HNB := Lib.hid fun (V : World) (hb : Below w8.heap.size w8 V) => HQ.out V (below_then k8 (Nat.le_refl _) hb)
  clear G1 G2 G3 G4 G5 G6 HQ HB0 HR0 HD0 HN0 hk8 hg8 hb8 k8 k hb6 ho9 hg10 q0 q1 q2 q3
  go_loopw [11, 12] (fun v11 v12 wr => ∃ (k m c' : Nat) (A' : Option Addr), v12 = .int .i64 k ∧ v11 = .slice A' m c' ∧ k ≤ 256 ∧ Below w8.heap.size w8 wr ∧ Hid (∃ M, OwnZ wr w8.heap.size A' m c' M ∧ zns M = rls f k)) (fun _ v12 _ => 256 - (intOf v12).toNat)
  case atStart => exact ⟨0, 0, 0, none, rfl, rfl, by omega, Below.refl _ _, [], OwnZ.nil _ _, rfl⟩
  case round =>
    obtain ⟨k, m, c', A', rfl, rfl, hk, hb, hq⟩ := hrel
    obtain ⟨M, hM, hMz⟩ := hq.out
    clear hq
    by_cases hlt : k < 256
    · have AT := Lib.hid (refAtZ_any A n c L (k : Int) wr (HR.out.go hb))
      have gs := HS.out wr k hlt hb
      have hsb := hasO_nat x.b k hlt
      obtain ⟨sb, hsb2⟩ : ∃ b, b = Sn.setOf x.b k := ⟨_, rfl⟩
      rw [← hsb2] at gs hsb
      have hml : m ≤ 256 := by
        have := rls_len HFM.out hk
        rw [← hMz, zns_len, hM.len] at this
        exact this
      have HB := Lib.hid hb
      have HM := Lib.hid hM
      have HMZ := Lib.hid hMz
      have HSB := Lib.hid hsb
      have ek : IntKind.i64.wrap ((k : Int) - 1) = (k : Int) - 1 := IntWalk.i64_in _ (by omega)
      have h63 : m + 1 ≤ maxLen := by unfold maxLen; omega
      clear hb hM hMz hsb hsb2
      go_wp2_with fail
      refine AT.out.mono ?_
      rintro e w9 ⟨rfl, hat⟩
      rcases hat with ⟨i, hi, rfl, hfd⟩ | ⟨rfl, hfd⟩
      · obtain ⟨b, oo, rfl, hab, g0, g1, g2⟩ := (HR.out.below HB.out).zone hi
        obtain ⟨hvl, hRv⟩ := HR.out.each _ (List.getElem_mem hi)
        have hin : (0 : Int) ≤ (i : Int) ∧ (i : Int) < (n : Int) := by have := HR.out.len; omega
        have hil : i < n := by have := HR.out.len; omega
        generalize L[i] = qq at g0 g1 g2 hvl hRv hfd
        obtain ⟨⟨Av, nv, cv⟩, ⟨lo, hi2⟩, u⟩ := qq
        dsimp only at g0 g1 g2 hvl hRv hfd
        have HRX := Lib.hid (reach_found (known := u0) hfd)
        dsimp only at HRX
        have HVL := Lib.hid hvl
        have HRV := Lib.hid (hRv.go HB.out)
        clear hvl hRv hfd hab g0 g1
        rcases sb with _ | _
        · have ST := refStretched_any Av nv cv u ⟨A1, n1, c1, A2, n2, c2, A3, n3, c3, A4, n4, c4⟩ x (k : Int) wr HVL.out HRV.out (HN.out.go HB.out)
          simp only [NV.val] at ST
          have hnd := newD_str (z := zns L) (known := u0) HSB.out
          rw [HRX.out] at hnd
          obtain ⟨y, hy⟩ : ∃ y, y = strD u x (k : Int) := ⟨_, rfl⟩
          rw [← hy] at ST hnd
          have ST := Lib.hid ST
          have HND := Lib.hid hnd
          obtain ⟨q0, q1, q2, q3⟩ := HNB.out wr HB.out
          clear hy hnd
          go_wp2_with fail
          refine ST.out.mono ?_
          rintro e W4 ⟨Ax, nx, cx, rfl, hly, hRy, hb4⟩
          have hnd := HND.out
          have HY := Lib.hid (And.intro hly hRy)
          have KW := Lib.hid (below_then HB.out (Nat.le_refl _) hb4)
          have OZ := Lib.hid (HM.out.below hb4)
          clear hly hRy hb4 ST HND q0 q1 q2 q3
          have HFN1 := HFN.out (k : Int)
          have HFS1 := HFS.out (k : Int)
          rw [hnd] at HFN1 HFS1
          obtain ⟨cb, hcb⟩ : ∃ b, b = cov2 y K := ⟨_, rfl⟩
          have CV := refCovers_any Ax A9 nx cx nK c9 y K W4 HY.out.1 HNK.out HY.out.2 (HK.out.go KW.out)
          rw [show covB (Vc.cnt y) (Vc.cnt K) = cb from hcb.symm] at CV
          rw [← hcb] at HFN1 HFS1
          have CV := Lib.hid CV
          have HFN1 := Lib.hid HFN1
          have HFS1 := Lib.hid HFS1
          clear hcb hnd
          go_wp2_with fail
          refine CV.out.mono ?_
          rintro e W5 ⟨rfl, hb5⟩
          have HY := Lib.hid (And.intro HY.out.1 (HY.out.2.go hb5))
          have KW := Lib.hid (below_then KW.out (Nat.le_refl _) hb5)
          have OZ := Lib.hid (OZ.out.below hb5)
          clear hb5 CV
          rcases cb with _ | _
          · have hfs := HFS1.out rfl
            have hnx : nx ≤ 8796093022208 := by
              have h1 := HY.out.1
              have h2 := stl_len (HFM.out _ _ hfs)
              omega
            have HFK := Lib.hid hfs
            clear hfs HFN1 HFS1
            rcases List.eq_nil_or_concat M with hMn | ⟨M0, yy, hMy⟩
            · obtain rfl : m = 0 := by rw [← OZ.out.len, hMn]; rfl
              have HJ := Lib.hid fun Ac cc => (show zns (M ++ [((⟨Ac, nx, cc⟩ : ZV), ((k : Int), (k : Int)), y)]) = rls f (k + 1) by rw [zns_app, HMZ.out, rls_nil HFK.out (by rw [← HMZ.out, hMn]; rfl)]; rfl)
              clear hMn
              have CP := Lib.hid (vcopy_any Ax nx cx (sv y) W5 (HY.out.2) (sv_oneCell _) hnx)
              go_wp2_with (first
                | (go_at_call 13; go_must (refine CP.out.mono ?_); rintro e Wc ⟨Ac, cc, rfl, ho7, hb7⟩; have KC := Lib.hid (below_then KW.out (Nat.le_refl _) hb7); have OC := Lib.hid (OZ.out.below hb7); have CV7 := Lib.hid (own_less ho7 KW.out.size); clear ho7 hb7)
                | (at_builtin; go_must (refine wpList_append_rd _ rfl (.tmp 99) (.tmp 106) _ rfl w8.heap.size 44 i0 _ 3 40 Tryz.underlying22 hi0 hz0 hz1 hz2 rfl (by decide) (.slice A' 0 c') 0 _ rfl (OC.out.row.alloc _) _ (some ⟨_, 0, none⟩) 1 1 [.int .i64 (k : Int), .int .i64 (k : Int), .slice Ac nx cc] rfl (Rd.new _ 44 3 1 #[.int .i64 (k : Int), .int .i64 (k : Int), .slice Ac nx cc] rfl h1max) (zvl_oneCell (⟨Ac, nx, cc⟩, ((k : Int), (k : Int)), y)) h63 (by omega) (by have := KC.out.size; simp; omega) ?_); intro A3 c3 W3 ho3 hg3 hat3))
              go_roundw
              case rel =>
                have hba := (Below.refl Wc.heap.size Wc).alloc (Nat.le_refl _) (.cells #[.int .i64 (k : Int), .int .i64 (k : Int), .slice Ac nx cc] 44)
                have kka := below_then KC.out (Nat.le_refl _) hba
                exact ⟨k + 1, 0 + 1, c3, A3, by go_num, rfl, by omega, kka.trans (grown_below hg3 kka.size (fun g hg => own_lt OC.out.row g hg)), _, OwnZ.push (p := (⟨Ac, nx, cc⟩, ((k : Int), (k : Int)), y)) (OC.out.below hba) ⟨HY.out.1, own_below CV7.out hba (Nat.le_refl _)⟩ hg3 ho3, HJ.out Ac cc⟩
              case measure => simp [intOf]; omega
            · rw [List.concat_eq_append] at hMy
              subst hMy
              obtain ⟨j, rfl⟩ : ∃ j, m = j + 1 := ⟨m - 1, by rw [← OZ.out.len, List.length_append, List.length_singleton]; omega⟩
              have hM0 : M0.length = j := by have := OZ.out.len; rw [List.length_append, List.length_singleton] at this; omega
              obtain ⟨⟨Ay, ny, cy⟩, ⟨ylo, yhi⟩, yu⟩ := yy
              have hsn := rls_snoc HFM.out hk HFK.out (D := zns M0) (y := ((ylo, yhi), yu)) (by rw [← HMZ.out, zns_app]; rfl)
              dsimp only at hsn
              obtain ⟨Aq, cq, hvq, _, hfq⟩ := own_form OZ.out.row
              injection hvq with hv1 _ hv3
              subst hv1 hv3
              have hrz := OZ.out.rd
              obtain ⟨g', o', hA', hgl, p0, p1, p2⟩ := hrz.zone (k := j) (by rw [hrz.len]; omega)
              have hgj : (M0 ++ [((⟨Ay, ny, cy⟩ : ZV), (ylo, yhi), yu)])[j]'(by rw [hrz.len]; omega) = (⟨Ay, ny, cy⟩, (ylo, yhi), yu) := by
                rw [List.getElem_append_right (by omega)]; simp [hM0]
              rw [hgj] at p0 p1 p2
              dsimp only at p0 p1 p2
              obtain ⟨g, hga, hg1, _⟩ := hfq _ hA'
              injection hga with h1 h2
              subst h1 h2
              subst hA'
              simp only [Nat.zero_add] at p0 p1 p2
              have hye := OZ.out.el (⟨Ay, ny, cy⟩, (ylo, yhi), yu) (by simp)
              have EQ := same_q Ay Ax ny cy nx cx yu y W5 hye.1 HY.out.1 (Rd.of_own hye.2) HY.out.2
              have e8 : IntKind.i64.wrap (j : Int) = (j : Int) := IntWalk.i64_in _ (by omega)
              have e9 : (((j + 1 : Nat) : Int) - 1) = (j : Int) := by omega
              have e10 : IntKind.i64.wrap (((j + 1 : Nat) : Int) - 1) = (j : Int) := by rw [e9]; exact e8
              have hin2 : (0 : Int) ≤ (j : Int) ∧ (j : Int) < ((j + 1 : Nat) : Int) := by omega
              have dk : decide (0 < j + 1) = true := by simp
              have HG1 := Lib.hid hg1
              have HM0 := Lib.hid hM0
              clear hrz hgj hfq hg1 hye hM0
              by_cases h4 : yhi = (k : Int) - 1
              · by_cases h5 : yu = y
                · rw [if_pos ⟨h4, h5⟩] at hsn
                  have HSN := Lib.hid hsn
                  rw [decide_eq_true h5] at EQ
                  have EQ := Lib.hid EQ
                  have H5 := Lib.hid h5
                  subst h4
                  clear hsn h5 HFK
                  go_wp2_with fail
                  refine EQ.out.mono ?_
                  rintro e W6 ⟨rfl, hq6⟩
                  have hb6 : Below W5.heap.size W5 W6 := by obtain ⟨q6, rfl⟩ := hq6; exact below_drewN (Below.refl _ _) _
                  have KW := Lib.hid (below_then KW.out (Nat.le_refl _) hb6)
                  have OZ := Lib.hid (OZ.out.below hb6)
                  obtain ⟨oc1, oc2, oc3⟩ := own_cell OZ.out.row (j := j * 3 + 1) (by omega) (.int .i64 (k : Int))
                  rw [← HM0.out, zvv_set_last, HM0.out] at oc1
                  have HOC := Lib.hid (And.intro oc1 oc2)
                  have p1 := (hb6.cell (p := ⟨g', j * 3 + 1, none⟩) hgl).trans p1
                  clear hq6 hb6 oc1 oc2 p0 p2 hgl EQ
                  go_wp2
                  go_roundw
                  case rel =>
                    refine ⟨k + 1, j + 1, c', some ⟨g', 0, none⟩, by go_num, rfl, by omega, KW.out.setCell (p := ⟨g', j * 3 + 1, none⟩) HG1.out _, M0 ++ [((⟨Ay, ny, cy⟩ : ZV), (ylo, (k : Int)), yu)], ⟨HOC.out.1, fun p hp => ?_⟩, ?_⟩
                    · have key : ∀ p ∈ M0 ++ [((⟨Ay, ny, cy⟩ : ZV), (ylo, (k : Int) - 1), yu)], p.2.2.length = p.1.n ∧ (W6.setCell ⟨g', j * 3 + 1, none⟩ (.int .i64 (k : Int))).ownsRow w8.heap.size 40 2 (.slice p.1.A p.1.n p.1.c) p.1.n (sv p.2.2) := fun p hp => ⟨(OZ.out.el p hp).1, (OZ.out.el p hp).2.kept HOC.out.2 (own_two (OZ.out.el p hp).2 OZ.out.row (by decide))⟩
                      rcases List.mem_append.1 hp with hp | hp
                      · exact key p (List.mem_append_left _ hp)
                      · rw [List.mem_singleton] at hp; subst hp; exact key (⟨Ay, ny, cy⟩, (ylo, (k : Int) - 1), yu) (by simp)
                    · rw [HSN.out, zns_app, H5.out]; rfl
                  case measure => simp [intOf]; omega
                · rw [if_neg (fun h => h5 h.2)] at hsn
                  have HJ := Lib.hid fun Ac cc => (show zns ((M0 ++ [((⟨Ay, ny, cy⟩ : ZV), (ylo, yhi), yu)]) ++ [((⟨Ac, nx, cc⟩ : ZV), ((k : Int), (k : Int)), y)]) = rls f (k + 1) by rw [hsn, zns_app, zns_app]; rfl)
                  rw [decide_eq_false h5] at EQ
                  have EQ := Lib.hid EQ
                  subst h4
                  clear hsn h5 HFK
                  go_wp2_with fail
                  refine EQ.out.mono ?_
                  rintro e W6 ⟨rfl, hq6⟩
                  have hb6 : Below W5.heap.size W5 W6 := by obtain ⟨q6, rfl⟩ := hq6; exact below_drewN (Below.refl _ _) _
                  have HY := Lib.hid (And.intro HY.out.1 (HY.out.2.go hb6))
                  have KW := Lib.hid (below_then KW.out (Nat.le_refl _) hb6)
                  have OZ := Lib.hid (OZ.out.below hb6)
                  clear hq6 hb6 p0 p1 p2 hgl EQ
                  have CP := Lib.hid (vcopy_any Ax nx cx (sv y) W6 (HY.out.2) (sv_oneCell _) hnx)
                  go_wp2_with (first
                    | (go_at_call 13; go_must (refine CP.out.mono ?_); rintro e Wc ⟨Ac, cc, rfl, ho7, hb7⟩; have KC := Lib.hid (below_then KW.out (Nat.le_refl _) hb7); have OC := Lib.hid (OZ.out.below hb7); have CV7 := Lib.hid (own_less ho7 KW.out.size); clear ho7 hb7)
                    | (at_builtin; go_must (refine wpList_append_rd _ rfl (.tmp 99) (.tmp 106) _ rfl w8.heap.size 44 i0 _ 3 40 Tryz.underlying22 hi0 hz0 hz1 hz2 rfl (by decide) (.slice (some ⟨g', 0, none⟩) (j + 1) c') (j + 1) _ rfl (OC.out.row.alloc _) _ (some ⟨_, 0, none⟩) 1 1 [.int .i64 (k : Int), .int .i64 (k : Int), .slice Ac nx cc] rfl (Rd.new _ 44 3 1 #[.int .i64 (k : Int), .int .i64 (k : Int), .slice Ac nx cc] rfl h1max) (zvl_oneCell (⟨Ac, nx, cc⟩, ((k : Int), (k : Int)), y)) h63 (by omega) (by have := KC.out.size; simp; omega) ?_); intro A3 c3 W3 ho3 hg3 hat3))
                  go_roundw
                  case rel =>
                    have hba := (Below.refl Wc.heap.size Wc).alloc (Nat.le_refl _) (.cells #[.int .i64 (k : Int), .int .i64 (k : Int), .slice Ac nx cc] 44)
                    have kka := below_then KC.out (Nat.le_refl _) hba
                    exact ⟨k + 1, (j + 1) + 1, c3, A3, by go_num, rfl, by omega, kka.trans (grown_below hg3 kka.size (fun g hg => own_lt OC.out.row g hg)), _, OwnZ.push (p := (⟨Ac, nx, cc⟩, ((k : Int), (k : Int)), y)) (OC.out.below hba) ⟨HY.out.1, own_below CV7.out hba (Nat.le_refl _)⟩ hg3 ho3, HJ.out Ac cc⟩
                  case measure => simp [intOf]; omega
              · rw [if_neg (fun h => h4 h.1)] at hsn
                have HJ := Lib.hid fun Ac cc => (show zns ((M0 ++ [((⟨Ay, ny, cy⟩ : ZV), (ylo, yhi), yu)]) ++ [((⟨Ac, nx, cc⟩ : ZV), ((k : Int), (k : Int)), y)]) = rls f (k + 1) by rw [hsn, zns_app, zns_app]; rfl)
                have b4 : (yhi == (k : Int) - 1) = false := by simpa using h4
                clear hsn h4 HFK EQ p0 p2 hgl
                have CP := Lib.hid (vcopy_any Ax nx cx (sv y) W5 (HY.out.2) (sv_oneCell _) hnx)
                go_wp2_with (first
                  | (go_at_call 13; go_must (refine CP.out.mono ?_); rintro e Wc ⟨Ac, cc, rfl, ho7, hb7⟩; have KC := Lib.hid (below_then KW.out (Nat.le_refl _) hb7); have OC := Lib.hid (OZ.out.below hb7); have CV7 := Lib.hid (own_less ho7 KW.out.size); clear ho7 hb7)
                  | (at_builtin; go_must (refine wpList_append_rd _ rfl (.tmp 99) (.tmp 106) _ rfl w8.heap.size 44 i0 _ 3 40 Tryz.underlying22 hi0 hz0 hz1 hz2 rfl (by decide) (.slice (some ⟨g', 0, none⟩) (j + 1) c') (j + 1) _ rfl (OC.out.row.alloc _) _ (some ⟨_, 0, none⟩) 1 1 [.int .i64 (k : Int), .int .i64 (k : Int), .slice Ac nx cc] rfl (Rd.new _ 44 3 1 #[.int .i64 (k : Int), .int .i64 (k : Int), .slice Ac nx cc] rfl h1max) (zvl_oneCell (⟨Ac, nx, cc⟩, ((k : Int), (k : Int)), y)) h63 (by omega) (by have := KC.out.size; simp; omega) ?_); intro A3 c3 W3 ho3 hg3 hat3))
                go_roundw
                case rel =>
                  have hba := (Below.refl Wc.heap.size Wc).alloc (Nat.le_refl _) (.cells #[.int .i64 (k : Int), .int .i64 (k : Int), .slice Ac nx cc] 44)
                  have kka := below_then KC.out (Nat.le_refl _) hba
                  exact ⟨k + 1, (j + 1) + 1, c3, A3, by go_num, rfl, by omega, kka.trans (grown_below hg3 kka.size (fun g hg => own_lt OC.out.row g hg)), _, OwnZ.push (p := (⟨Ac, nx, cc⟩, ((k : Int), (k : Int)), y)) (OC.out.below hba) ⟨HY.out.1, own_below CV7.out hba (Nat.le_refl _)⟩ hg3 ho3, HJ.out Ac cc⟩
                case measure => simp [intOf]; omega
          · have HFK := Lib.hid (HFN1.out rfl)
            clear HFN1 HFS1 HY
            go_wp2
            go_roundw
            case rel => exact ⟨k + 1, m, c', A', by go_num, rfl, by omega, KW.out, M, OZ.out, by rw [rls_none HFK.out]; exact HMZ.out⟩
            case measure => simp [intOf]; omega
        · have hnd := newD_blur (z := zns L) (known := u0) HSB.out
          rw [HRX.out] at hnd
          have HY := Lib.hid (And.intro HVL.out HRV.out)
          have KW := Lib.hid HB.out
          have OZ := Lib.hid HM.out
          have HFN1 := HFN.out (k : Int)
          have HFS1 := HFS.out (k : Int)
          rw [hnd] at HFN1 HFS1
          obtain ⟨cb, hcb⟩ : ∃ b, b = cov2 u K := ⟨_, rfl⟩
          have CV := refCovers_any Av A9 nv cv nK c9 u K wr HY.out.1 HNK.out HY.out.2 (HK.out.go KW.out)
          rw [show covB (Vc.cnt u) (Vc.cnt K) = cb from hcb.symm] at CV
          rw [← hcb] at HFN1 HFS1
          have CV := Lib.hid CV
          have HFN1 := Lib.hid HFN1
          have HFS1 := Lib.hid HFS1
          clear hcb hnd
          go_wp2_with fail
          refine CV.out.mono ?_
          rintro e W5 ⟨rfl, hb5⟩
          have HY := Lib.hid (And.intro HY.out.1 (HY.out.2.go hb5))
          have KW := Lib.hid (below_then KW.out (Nat.le_refl _) hb5)
          have OZ := Lib.hid (OZ.out.below hb5)
          clear hb5 CV
          rcases cb with _ | _
          · have hfs := HFS1.out rfl
            have hnx : nv ≤ 8796093022208 := by
              have h1 := HY.out.1
              have h2 := stl_len (HFM.out _ _ hfs)
              omega
            have HFK := Lib.hid hfs
            clear hfs HFN1 HFS1
            rcases List.eq_nil_or_concat M with hMn | ⟨M0, yy, hMy⟩
            · obtain rfl : m = 0 := by rw [← OZ.out.len, hMn]; rfl
              have HJ := Lib.hid fun Ac cc => (show zns (M ++ [((⟨Ac, nv, cc⟩ : ZV), ((k : Int), (k : Int)), u)]) = rls f (k + 1) by rw [zns_app, HMZ.out, rls_nil HFK.out (by rw [← HMZ.out, hMn]; rfl)]; rfl)
              clear hMn
              have CP := Lib.hid (vcopy_any Av nv cv (sv u) W5 (HY.out.2) (sv_oneCell _) hnx)
              go_wp2_with (first
                | (go_at_call 13; go_must (refine CP.out.mono ?_); rintro e Wc ⟨Ac, cc, rfl, ho7, hb7⟩; have KC := Lib.hid (below_then KW.out (Nat.le_refl _) hb7); have OC := Lib.hid (OZ.out.below hb7); have CV7 := Lib.hid (own_less ho7 KW.out.size); clear ho7 hb7)
                | (at_builtin; go_must (refine wpList_append_rd _ rfl (.tmp 99) (.tmp 106) _ rfl w8.heap.size 44 i0 _ 3 40 Tryz.underlying22 hi0 hz0 hz1 hz2 rfl (by decide) (.slice A' 0 c') 0 _ rfl (OC.out.row.alloc _) _ (some ⟨_, 0, none⟩) 1 1 [.int .i64 (k : Int), .int .i64 (k : Int), .slice Ac nv cc] rfl (Rd.new _ 44 3 1 #[.int .i64 (k : Int), .int .i64 (k : Int), .slice Ac nv cc] rfl h1max) (zvl_oneCell (⟨Ac, nv, cc⟩, ((k : Int), (k : Int)), u)) h63 (by omega) (by have := KC.out.size; simp; omega) ?_); intro A3 c3 W3 ho3 hg3 hat3))
              go_roundw
              case rel =>
                have hba := (Below.refl Wc.heap.size Wc).alloc (Nat.le_refl _) (.cells #[.int .i64 (k : Int), .int .i64 (k : Int), .slice Ac nv cc] 44)
                have kka := below_then KC.out (Nat.le_refl _) hba
                exact ⟨k + 1, 0 + 1, c3, A3, by go_num, rfl, by omega, kka.trans (grown_below hg3 kka.size (fun g hg => own_lt OC.out.row g hg)), _, OwnZ.push (p := (⟨Ac, nv, cc⟩, ((k : Int), (k : Int)), u)) (OC.out.below hba) ⟨HY.out.1, own_below CV7.out hba (Nat.le_refl _)⟩ hg3 ho3, HJ.out Ac cc⟩
              case measure => simp [intOf]; omega
            · rw [List.concat_eq_append] at hMy
              subst hMy
              obtain ⟨j, rfl⟩ : ∃ j, m = j + 1 := ⟨m - 1, by rw [← OZ.out.len, List.length_append, List.length_singleton]; omega⟩
              have hM0 : M0.length = j := by have := OZ.out.len; rw [List.length_append, List.length_singleton] at this; omega
              obtain ⟨⟨Ay, ny, cy⟩, ⟨ylo, yhi⟩, yu⟩ := yy
              have hsn := rls_snoc HFM.out hk HFK.out (D := zns M0) (y := ((ylo, yhi), yu)) (by rw [← HMZ.out, zns_app]; rfl)
              dsimp only at hsn
              obtain ⟨Aq, cq, hvq, _, hfq⟩ := own_form OZ.out.row
              injection hvq with hv1 _ hv3
              subst hv1 hv3
              have hrz := OZ.out.rd
              obtain ⟨g', o', hA', hgl, p0, p1, p2⟩ := hrz.zone (k := j) (by rw [hrz.len]; omega)
              have hgj : (M0 ++ [((⟨Ay, ny, cy⟩ : ZV), (ylo, yhi), yu)])[j]'(by rw [hrz.len]; omega) = (⟨Ay, ny, cy⟩, (ylo, yhi), yu) := by
                rw [List.getElem_append_right (by omega)]; simp [hM0]
              rw [hgj] at p0 p1 p2
              dsimp only at p0 p1 p2
              obtain ⟨g, hga, hg1, _⟩ := hfq _ hA'
              injection hga with h1 h2
              subst h1 h2
              subst hA'
              simp only [Nat.zero_add] at p0 p1 p2
              have hye := OZ.out.el (⟨Ay, ny, cy⟩, (ylo, yhi), yu) (by simp)
              have EQ := same_q Ay Av ny cy nv cv yu u W5 hye.1 HY.out.1 (Rd.of_own hye.2) HY.out.2
              have e8 : IntKind.i64.wrap (j : Int) = (j : Int) := IntWalk.i64_in _ (by omega)
              have e9 : (((j + 1 : Nat) : Int) - 1) = (j : Int) := by omega
              have e10 : IntKind.i64.wrap (((j + 1 : Nat) : Int) - 1) = (j : Int) := by rw [e9]; exact e8
              have hin2 : (0 : Int) ≤ (j : Int) ∧ (j : Int) < ((j + 1 : Nat) : Int) := by omega
              have dk : decide (0 < j + 1) = true := by simp
              have HG1 := Lib.hid hg1
              have HM0 := Lib.hid hM0
              clear hrz hgj hfq hg1 hye hM0
              by_cases h4 : yhi = (k : Int) - 1
              · by_cases h5 : yu = u
                · rw [if_pos ⟨h4, h5⟩] at hsn
                  have HSN := Lib.hid hsn
                  rw [decide_eq_true h5] at EQ
                  have EQ := Lib.hid EQ
                  have H5 := Lib.hid h5
                  subst h4
                  clear hsn h5 HFK
                  go_wp2_with fail
                  refine EQ.out.mono ?_
                  rintro e W6 ⟨rfl, hq6⟩
                  have hb6 : Below W5.heap.size W5 W6 := by obtain ⟨q6, rfl⟩ := hq6; exact below_drewN (Below.refl _ _) _
                  have KW := Lib.hid (below_then KW.out (Nat.le_refl _) hb6)
                  have OZ := Lib.hid (OZ.out.below hb6)
                  obtain ⟨oc1, oc2, oc3⟩ := own_cell OZ.out.row (j := j * 3 + 1) (by omega) (.int .i64 (k : Int))
                  rw [← HM0.out, zvv_set_last, HM0.out] at oc1
                  have HOC := Lib.hid (And.intro oc1 oc2)
                  have p1 := (hb6.cell (p := ⟨g', j * 3 + 1, none⟩) hgl).trans p1
                  clear hq6 hb6 oc1 oc2 p0 p2 hgl EQ
                  go_wp2
                  go_roundw
                  case rel =>
                    refine ⟨k + 1, j + 1, c', some ⟨g', 0, none⟩, by go_num, rfl, by omega, KW.out.setCell (p := ⟨g', j * 3 + 1, none⟩) HG1.out _, M0 ++ [((⟨Ay, ny, cy⟩ : ZV), (ylo, (k : Int)), yu)], ⟨HOC.out.1, fun p hp => ?_⟩, ?_⟩
                    · have key : ∀ p ∈ M0 ++ [((⟨Ay, ny, cy⟩ : ZV), (ylo, (k : Int) - 1), yu)], p.2.2.length = p.1.n ∧ (W6.setCell ⟨g', j * 3 + 1, none⟩ (.int .i64 (k : Int))).ownsRow w8.heap.size 40 2 (.slice p.1.A p.1.n p.1.c) p.1.n (sv p.2.2) := fun p hp => ⟨(OZ.out.el p hp).1, (OZ.out.el p hp).2.kept HOC.out.2 (own_two (OZ.out.el p hp).2 OZ.out.row (by decide))⟩
                      rcases List.mem_append.1 hp with hp | hp
                      · exact key p (List.mem_append_left _ hp)
                      · rw [List.mem_singleton] at hp; subst hp; exact key (⟨Ay, ny, cy⟩, (ylo, (k : Int) - 1), yu) (by simp)
                    · rw [HSN.out, zns_app, H5.out]; rfl
                  case measure => simp [intOf]; omega
                · rw [if_neg (fun h => h5 h.2)] at hsn
                  have HJ := Lib.hid fun Ac cc => (show zns ((M0 ++ [((⟨Ay, ny, cy⟩ : ZV), (ylo, yhi), yu)]) ++ [((⟨Ac, nv, cc⟩ : ZV), ((k : Int), (k : Int)), u)]) = rls f (k + 1) by rw [hsn, zns_app, zns_app]; rfl)
                  rw [decide_eq_false h5] at EQ
                  have EQ := Lib.hid EQ
                  subst h4
                  clear hsn h5 HFK
                  go_wp2_with fail
                  refine EQ.out.mono ?_
                  rintro e W6 ⟨rfl, hq6⟩
                  have hb6 : Below W5.heap.size W5 W6 := by obtain ⟨q6, rfl⟩ := hq6; exact below_drewN (Below.refl _ _) _
                  have HY := Lib.hid (And.intro HY.out.1 (HY.out.2.go hb6))
                  have KW := Lib.hid (below_then KW.out (Nat.le_refl _) hb6)
                  have OZ := Lib.hid (OZ.out.below hb6)
                  clear hq6 hb6 p0 p1 p2 hgl EQ
                  have CP := Lib.hid (vcopy_any Av nv cv (sv u) W6 (HY.out.2) (sv_oneCell _) hnx)
                  go_wp2_with (first
                    | (go_at_call 13; go_must (refine CP.out.mono ?_); rintro e Wc ⟨Ac, cc, rfl, ho7, hb7⟩; have KC := Lib.hid (below_then KW.out (Nat.le_refl _) hb7); have OC := Lib.hid (OZ.out.below hb7); have CV7 := Lib.hid (own_less ho7 KW.out.size); clear ho7 hb7)
                    | (at_builtin; go_must (refine wpList_append_rd _ rfl (.tmp 99) (.tmp 106) _ rfl w8.heap.size 44 i0 _ 3 40 Tryz.underlying22 hi0 hz0 hz1 hz2 rfl (by decide) (.slice (some ⟨g', 0, none⟩) (j + 1) c') (j + 1) _ rfl (OC.out.row.alloc _) _ (some ⟨_, 0, none⟩) 1 1 [.int .i64 (k : Int), .int .i64 (k : Int), .slice Ac nv cc] rfl (Rd.new _ 44 3 1 #[.int .i64 (k : Int), .int .i64 (k : Int), .slice Ac nv cc] rfl h1max) (zvl_oneCell (⟨Ac, nv, cc⟩, ((k : Int), (k : Int)), u)) h63 (by omega) (by have := KC.out.size; simp; omega) ?_); intro A3 c3 W3 ho3 hg3 hat3))
                  go_roundw
                  case rel =>
                    have hba := (Below.refl Wc.heap.size Wc).alloc (Nat.le_refl _) (.cells #[.int .i64 (k : Int), .int .i64 (k : Int), .slice Ac nv cc] 44)
                    have kka := below_then KC.out (Nat.le_refl _) hba
                    exact ⟨k + 1, (j + 1) + 1, c3, A3, by go_num, rfl, by omega, kka.trans (grown_below hg3 kka.size (fun g hg => own_lt OC.out.row g hg)), _, OwnZ.push (p := (⟨Ac, nv, cc⟩, ((k : Int), (k : Int)), u)) (OC.out.below hba) ⟨HY.out.1, own_below CV7.out hba (Nat.le_refl _)⟩ hg3 ho3, HJ.out Ac cc⟩
                  case measure => simp [intOf]; omega
              · rw [if_neg (fun h => h4 h.1)] at hsn
                have HJ := Lib.hid fun Ac cc => (show zns ((M0 ++ [((⟨Ay, ny, cy⟩ : ZV), (ylo, yhi), yu)]) ++ [((⟨Ac, nv, cc⟩ : ZV), ((k : Int), (k : Int)), u)]) = rls f (k + 1) by rw [hsn, zns_app, zns_app]; rfl)
                have b4 : (yhi == (k : Int) - 1) = false := by simpa using h4
                clear hsn h4 HFK EQ p0 p2 hgl
                have CP := Lib.hid (vcopy_any Av nv cv (sv u) W5 (HY.out.2) (sv_oneCell _) hnx)
                go_wp2_with (first
                  | (go_at_call 13; go_must (refine CP.out.mono ?_); rintro e Wc ⟨Ac, cc, rfl, ho7, hb7⟩; have KC := Lib.hid (below_then KW.out (Nat.le_refl _) hb7); have OC := Lib.hid (OZ.out.below hb7); have CV7 := Lib.hid (own_less ho7 KW.out.size); clear ho7 hb7)
                  | (at_builtin; go_must (refine wpList_append_rd _ rfl (.tmp 99) (.tmp 106) _ rfl w8.heap.size 44 i0 _ 3 40 Tryz.underlying22 hi0 hz0 hz1 hz2 rfl (by decide) (.slice (some ⟨g', 0, none⟩) (j + 1) c') (j + 1) _ rfl (OC.out.row.alloc _) _ (some ⟨_, 0, none⟩) 1 1 [.int .i64 (k : Int), .int .i64 (k : Int), .slice Ac nv cc] rfl (Rd.new _ 44 3 1 #[.int .i64 (k : Int), .int .i64 (k : Int), .slice Ac nv cc] rfl h1max) (zvl_oneCell (⟨Ac, nv, cc⟩, ((k : Int), (k : Int)), u)) h63 (by omega) (by have := KC.out.size; simp; omega) ?_); intro A3 c3 W3 ho3 hg3 hat3))
                go_roundw
                case rel =>
                  have hba := (Below.refl Wc.heap.size Wc).alloc (Nat.le_refl _) (.cells #[.int .i64 (k : Int), .int .i64 (k : Int), .slice Ac nv cc] 44)
                  have kka := below_then KC.out (Nat.le_refl _) hba
                  exact ⟨k + 1, (j + 1) + 1, c3, A3, by go_num, rfl, by omega, kka.trans (grown_below hg3 kka.size (fun g hg => own_lt OC.out.row g hg)), _, OwnZ.push (p := (⟨Ac, nv, cc⟩, ((k : Int), (k : Int)), u)) (OC.out.below hba) ⟨HY.out.1, own_below CV7.out hba (Nat.le_refl _)⟩ hg3 ho3, HJ.out Ac cc⟩
                case measure => simp [intOf]; omega
          · have HFK := Lib.hid (HFN1.out rfl)
            clear HFN1 HFS1 HY
            go_wp2
            go_roundw
            case rel => exact ⟨k + 1, m, c', A', by go_num, rfl, by omega, KW.out, M, OZ.out, by rw [rls_none HFK.out]; exact HMZ.out⟩
            case measure => simp [intOf]; omega
      · have HRX := Lib.hid (reach_lost (known := u0) hfd)
        have HVL := Lib.hid HL.out
        have HRV := Lib.hid (HD.out.go HB.out)
        clear hfd
        rcases sb with _ | _
        · have ST := refStretched_any D q d u0 ⟨A1, n1, c1, A2, n2, c2, A3, n3, c3, A4, n4, c4⟩ x (k : Int) wr HVL.out HRV.out (HN.out.go HB.out)
          simp only [NV.val] at ST
          have hnd := newD_str (z := zns L) (known := u0) HSB.out
          rw [HRX.out] at hnd
          obtain ⟨y, hy⟩ : ∃ y, y = strD u0 x (k : Int) := ⟨_, rfl⟩
          rw [← hy] at ST hnd
          have ST := Lib.hid ST
          have HND := Lib.hid hnd
          obtain ⟨q0, q1, q2, q3⟩ := HNB.out wr HB.out
          clear hy hnd
          go_wp2_with fail
          refine ST.out.mono ?_
          rintro e W4 ⟨Ax, nx, cx, rfl, hly, hRy, hb4⟩
          have hnd := HND.out
          have HY := Lib.hid (And.intro hly hRy)
          have KW := Lib.hid (below_then HB.out (Nat.le_refl _) hb4)
          have OZ := Lib.hid (HM.out.below hb4)
          clear hly hRy hb4 ST HND q0 q1 q2 q3
          have HFN1 := HFN.out (k : Int)
          have HFS1 := HFS.out (k : Int)
          rw [hnd] at HFN1 HFS1
          obtain ⟨cb, hcb⟩ : ∃ b, b = cov2 y K := ⟨_, rfl⟩
          have CV := refCovers_any Ax A9 nx cx nK c9 y K W4 HY.out.1 HNK.out HY.out.2 (HK.out.go KW.out)
          rw [show covB (Vc.cnt y) (Vc.cnt K) = cb from hcb.symm] at CV
          rw [← hcb] at HFN1 HFS1
          have CV := Lib.hid CV
          have HFN1 := Lib.hid HFN1
          have HFS1 := Lib.hid HFS1
          clear hcb hnd
          go_wp2_with fail
          refine CV.out.mono ?_
          rintro e W5 ⟨rfl, hb5⟩
          have HY := Lib.hid (And.intro HY.out.1 (HY.out.2.go hb5))
          have KW := Lib.hid (below_then KW.out (Nat.le_refl _) hb5)
          have OZ := Lib.hid (OZ.out.below hb5)
          clear hb5 CV
          rcases cb with _ | _
          · have hfs := HFS1.out rfl
            have hnx : nx ≤ 8796093022208 := by
              have h1 := HY.out.1
              have h2 := stl_len (HFM.out _ _ hfs)
              omega
            have HFK := Lib.hid hfs
            clear hfs HFN1 HFS1
            rcases List.eq_nil_or_concat M with hMn | ⟨M0, yy, hMy⟩
            · obtain rfl : m = 0 := by rw [← OZ.out.len, hMn]; rfl
              have HJ := Lib.hid fun Ac cc => (show zns (M ++ [((⟨Ac, nx, cc⟩ : ZV), ((k : Int), (k : Int)), y)]) = rls f (k + 1) by rw [zns_app, HMZ.out, rls_nil HFK.out (by rw [← HMZ.out, hMn]; rfl)]; rfl)
              clear hMn
              have CP := Lib.hid (vcopy_any Ax nx cx (sv y) W5 (HY.out.2) (sv_oneCell _) hnx)
              go_wp2_with (first
                | (go_at_call 13; go_must (refine CP.out.mono ?_); rintro e Wc ⟨Ac, cc, rfl, ho7, hb7⟩; have KC := Lib.hid (below_then KW.out (Nat.le_refl _) hb7); have OC := Lib.hid (OZ.out.below hb7); have CV7 := Lib.hid (own_less ho7 KW.out.size); clear ho7 hb7)
                | (at_builtin; go_must (refine wpList_append_rd _ rfl (.tmp 99) (.tmp 106) _ rfl w8.heap.size 44 i0 _ 3 40 Tryz.underlying22 hi0 hz0 hz1 hz2 rfl (by decide) (.slice A' 0 c') 0 _ rfl (OC.out.row.alloc _) _ (some ⟨_, 0, none⟩) 1 1 [.int .i64 (k : Int), .int .i64 (k : Int), .slice Ac nx cc] rfl (Rd.new _ 44 3 1 #[.int .i64 (k : Int), .int .i64 (k : Int), .slice Ac nx cc] rfl h1max) (zvl_oneCell (⟨Ac, nx, cc⟩, ((k : Int), (k : Int)), y)) h63 (by omega) (by have := KC.out.size; simp; omega) ?_); intro A3 c3 W3 ho3 hg3 hat3))
              go_roundw
              case rel =>
                have hba := (Below.refl Wc.heap.size Wc).alloc (Nat.le_refl _) (.cells #[.int .i64 (k : Int), .int .i64 (k : Int), .slice Ac nx cc] 44)
                have kka := below_then KC.out (Nat.le_refl _) hba
                exact ⟨k + 1, 0 + 1, c3, A3, by go_num, rfl, by omega, kka.trans (grown_below hg3 kka.size (fun g hg => own_lt OC.out.row g hg)), _, OwnZ.push (p := (⟨Ac, nx, cc⟩, ((k : Int), (k : Int)), y)) (OC.out.below hba) ⟨HY.out.1, own_below CV7.out hba (Nat.le_refl _)⟩ hg3 ho3, HJ.out Ac cc⟩
              case measure => simp [intOf]; omega
            · rw [List.concat_eq_append] at hMy
              subst hMy
              obtain ⟨j, rfl⟩ : ∃ j, m = j + 1 := ⟨m - 1, by rw [← OZ.out.len, List.length_append, List.length_singleton]; omega⟩
              have hM0 : M0.length = j := by have := OZ.out.len; rw [List.length_append, List.length_singleton] at this; omega
              obtain ⟨⟨Ay, ny, cy⟩, ⟨ylo, yhi⟩, yu⟩ := yy
              have hsn := rls_snoc HFM.out hk HFK.out (D := zns M0) (y := ((ylo, yhi), yu)) (by rw [← HMZ.out, zns_app]; rfl)
              dsimp only at hsn
              obtain ⟨Aq, cq, hvq, _, hfq⟩ := own_form OZ.out.row
              injection hvq with hv1 _ hv3
              subst hv1 hv3
              have hrz := OZ.out.rd
              obtain ⟨g', o', hA', hgl, p0, p1, p2⟩ := hrz.zone (k := j) (by rw [hrz.len]; omega)
              have hgj : (M0 ++ [((⟨Ay, ny, cy⟩ : ZV), (ylo, yhi), yu)])[j]'(by rw [hrz.len]; omega) = (⟨Ay, ny, cy⟩, (ylo, yhi), yu) := by
                rw [List.getElem_append_right (by omega)]; simp [hM0]
              rw [hgj] at p0 p1 p2
              dsimp only at p0 p1 p2
              obtain ⟨g, hga, hg1, _⟩ := hfq _ hA'
              injection hga with h1 h2
              subst h1 h2
              subst hA'
              simp only [Nat.zero_add] at p0 p1 p2
              have hye := OZ.out.el (⟨Ay, ny, cy⟩, (ylo, yhi), yu) (by simp)
              have EQ := same_q Ay Ax ny cy nx cx yu y W5 hye.1 HY.out.1 (Rd.of_own hye.2) HY.out.2
              have e8 : IntKind.i64.wrap (j : Int) = (j : Int) := IntWalk.i64_in _ (by omega)
              have e9 : (((j + 1 : Nat) : Int) - 1) = (j : Int) := by omega
              have e10 : IntKind.i64.wrap (((j + 1 : Nat) : Int) - 1) = (j : Int) := by rw [e9]; exact e8
              have hin2 : (0 : Int) ≤ (j : Int) ∧ (j : Int) < ((j + 1 : Nat) : Int) := by omega
              have dk : decide (0 < j + 1) = true := by simp
              have HG1 := Lib.hid hg1
              have HM0 := Lib.hid hM0
              clear hrz hgj hfq hg1 hye hM0
              by_cases h4 : yhi = (k : Int) - 1
              · by_cases h5 : yu = y
                · rw [if_pos ⟨h4, h5⟩] at hsn
                  have HSN := Lib.hid hsn
                  rw [decide_eq_true h5] at EQ
                  have EQ := Lib.hid EQ
                  have H5 := Lib.hid h5
                  subst h4
                  clear hsn h5 HFK
                  go_wp2_with fail
                  refine EQ.out.mono ?_
                  rintro e W6 ⟨rfl, hq6⟩
                  have hb6 : Below W5.heap.size W5 W6 := by obtain ⟨q6, rfl⟩ := hq6; exact below_drewN (Below.refl _ _) _
                  have KW := Lib.hid (below_then KW.out (Nat.le_refl _) hb6)
                  have OZ := Lib.hid (OZ.out.below hb6)
                  obtain ⟨oc1, oc2, oc3⟩ := own_cell OZ.out.row (j := j * 3 + 1) (by omega) (.int .i64 (k : Int))
                  rw [← HM0.out, zvv_set_last, HM0.out] at oc1
                  have HOC := Lib.hid (And.intro oc1 oc2)
                  have p1 := (hb6.cell (p := ⟨g', j * 3 + 1, none⟩) hgl).trans p1
                  clear hq6 hb6 oc1 oc2 p0 p2 hgl EQ
                  go_wp2
                  go_roundw
                  case rel =>
                    refine ⟨k + 1, j + 1, c', some ⟨g', 0, none⟩, by go_num, rfl, by omega, KW.out.setCell (p := ⟨g', j * 3 + 1, none⟩) HG1.out _, M0 ++ [((⟨Ay, ny, cy⟩ : ZV), (ylo, (k : Int)), yu)], ⟨HOC.out.1, fun p hp => ?_⟩, ?_⟩
                    · have key : ∀ p ∈ M0 ++ [((⟨Ay, ny, cy⟩ : ZV), (ylo, (k : Int) - 1), yu)], p.2.2.length = p.1.n ∧ (W6.setCell ⟨g', j * 3 + 1, none⟩ (.int .i64 (k : Int))).ownsRow w8.heap.size 40 2 (.slice p.1.A p.1.n p.1.c) p.1.n (sv p.2.2) := fun p hp => ⟨(OZ.out.el p hp).1, (OZ.out.el p hp).2.kept HOC.out.2 (own_two (OZ.out.el p hp).2 OZ.out.row (by decide))⟩
                      rcases List.mem_append.1 hp with hp | hp
                      · exact key p (List.mem_append_left _ hp)
                      · rw [List.mem_singleton] at hp; subst hp; exact key (⟨Ay, ny, cy⟩, (ylo, (k : Int) - 1), yu) (by simp)
                    · rw [HSN.out, zns_app, H5.out]; rfl
                  case measure => simp [intOf]; omega
                · rw [if_neg (fun h => h5 h.2)] at hsn
                  have HJ := Lib.hid fun Ac cc => (show zns ((M0 ++ [((⟨Ay, ny, cy⟩ : ZV), (ylo, yhi), yu)]) ++ [((⟨Ac, nx, cc⟩ : ZV), ((k : Int), (k : Int)), y)]) = rls f (k + 1) by rw [hsn, zns_app, zns_app]; rfl)
                  rw [decide_eq_false h5] at EQ
                  have EQ := Lib.hid EQ
                  subst h4
                  clear hsn h5 HFK
                  go_wp2_with fail
                  refine EQ.out.mono ?_
                  rintro e W6 ⟨rfl, hq6⟩
                  have hb6 : Below W5.heap.size W5 W6 := by obtain ⟨q6, rfl⟩ := hq6; exact below_drewN (Below.refl _ _) _
                  have HY := Lib.hid (And.intro HY.out.1 (HY.out.2.go hb6))
                  have KW := Lib.hid (below_then KW.out (Nat.le_refl _) hb6)
                  have OZ := Lib.hid (OZ.out.below hb6)
                  clear hq6 hb6 p0 p1 p2 hgl EQ
                  have CP := Lib.hid (vcopy_any Ax nx cx (sv y) W6 (HY.out.2) (sv_oneCell _) hnx)
                  go_wp2_with (first
                    | (go_at_call 13; go_must (refine CP.out.mono ?_); rintro e Wc ⟨Ac, cc, rfl, ho7, hb7⟩; have KC := Lib.hid (below_then KW.out (Nat.le_refl _) hb7); have OC := Lib.hid (OZ.out.below hb7); have CV7 := Lib.hid (own_less ho7 KW.out.size); clear ho7 hb7)
                    | (at_builtin; go_must (refine wpList_append_rd _ rfl (.tmp 99) (.tmp 106) _ rfl w8.heap.size 44 i0 _ 3 40 Tryz.underlying22 hi0 hz0 hz1 hz2 rfl (by decide) (.slice (some ⟨g', 0, none⟩) (j + 1) c') (j + 1) _ rfl (OC.out.row.alloc _) _ (some ⟨_, 0, none⟩) 1 1 [.int .i64 (k : Int), .int .i64 (k : Int), .slice Ac nx cc] rfl (Rd.new _ 44 3 1 #[.int .i64 (k : Int), .int .i64 (k : Int), .slice Ac nx cc] rfl h1max) (zvl_oneCell (⟨Ac, nx, cc⟩, ((k : Int), (k : Int)), y)) h63 (by omega) (by have := KC.out.size; simp; omega) ?_); intro A3 c3 W3 ho3 hg3 hat3))
                  go_roundw
                  case rel =>
                    have hba := (Below.refl Wc.heap.size Wc).alloc (Nat.le_refl _) (.cells #[.int .i64 (k : Int), .int .i64 (k : Int), .slice Ac nx cc] 44)
                    have kka := below_then KC.out (Nat.le_refl _) hba
                    exact ⟨k + 1, (j + 1) + 1, c3, A3, by go_num, rfl, by omega, kka.trans (grown_below hg3 kka.size (fun g hg => own_lt OC.out.row g hg)), _, OwnZ.push (p := (⟨Ac, nx, cc⟩, ((k : Int), (k : Int)), y)) (OC.out.below hba) ⟨HY.out.1, own_below CV7.out hba (Nat.le_refl _)⟩ hg3 ho3, HJ.out Ac cc⟩
                  case measure => simp [intOf]; omega
              · rw [if_neg (fun h => h4 h.1)] at hsn
                have HJ := Lib.hid fun Ac cc => (show zns ((M0 ++ [((⟨Ay, ny, cy⟩ : ZV), (ylo, yhi), yu)]) ++ [((⟨Ac, nx, cc⟩ : ZV), ((k : Int), (k : Int)), y)]) = rls f (k + 1) by rw [hsn, zns_app, zns_app]; rfl)
                have b4 : (yhi == (k : Int) - 1) = false := by simpa using h4
                clear hsn h4 HFK EQ p0 p2 hgl
                have CP := Lib.hid (vcopy_any Ax nx cx (sv y) W5 (HY.out.2) (sv_oneCell _) hnx)
                go_wp2_with (first
                  | (go_at_call 13; go_must (refine CP.out.mono ?_); rintro e Wc ⟨Ac, cc, rfl, ho7, hb7⟩; have KC := Lib.hid (below_then KW.out (Nat.le_refl _) hb7); have OC := Lib.hid (OZ.out.below hb7); have CV7 := Lib.hid (own_less ho7 KW.out.size); clear ho7 hb7)
                  | (at_builtin; go_must (refine wpList_append_rd _ rfl (.tmp 99) (.tmp 106) _ rfl w8.heap.size 44 i0 _ 3 40 Tryz.underlying22 hi0 hz0 hz1 hz2 rfl (by decide) (.slice (some ⟨g', 0, none⟩) (j + 1) c') (j + 1) _ rfl (OC.out.row.alloc _) _ (some ⟨_, 0, none⟩) 1 1 [.int .i64 (k : Int), .int .i64 (k : Int), .slice Ac nx cc] rfl (Rd.new _ 44 3 1 #[.int .i64 (k : Int), .int .i64 (k : Int), .slice Ac nx cc] rfl h1max) (zvl_oneCell (⟨Ac, nx, cc⟩, ((k : Int), (k : Int)), y)) h63 (by omega) (by have := KC.out.size; simp; omega) ?_); intro A3 c3 W3 ho3 hg3 hat3))
                go_roundw
                case rel =>
                  have hba := (Below.refl Wc.heap.size Wc).alloc (Nat.le_refl _) (.cells #[.int .i64 (k : Int), .int .i64 (k : Int), .slice Ac nx cc] 44)
                  have kka := below_then KC.out (Nat.le_refl _) hba
                  exact ⟨k + 1, (j + 1) + 1, c3, A3, by go_num, rfl, by omega, kka.trans (grown_below hg3 kka.size (fun g hg => own_lt OC.out.row g hg)), _, OwnZ.push (p := (⟨Ac, nx, cc⟩, ((k : Int), (k : Int)), y)) (OC.out.below hba) ⟨HY.out.1, own_below CV7.out hba (Nat.le_refl _)⟩ hg3 ho3, HJ.out Ac cc⟩
                case measure => simp [intOf]; omega
          · have HFK := Lib.hid (HFN1.out rfl)
            clear HFN1 HFS1 HY
            go_wp2
            go_roundw
            case rel => exact ⟨k + 1, m, c', A', by go_num, rfl, by omega, KW.out, M, OZ.out, by rw [rls_none HFK.out]; exact HMZ.out⟩
            case measure => simp [intOf]; omega
        · have hnd := newD_blur (z := zns L) (known := u0) HSB.out
          rw [HRX.out] at hnd
          have HY := Lib.hid (And.intro HVL.out HRV.out)
          have KW := Lib.hid HB.out
          have OZ := Lib.hid HM.out
          have HFN1 := HFN.out (k : Int)
          have HFS1 := HFS.out (k : Int)
          rw [hnd] at HFN1 HFS1
          obtain ⟨cb, hcb⟩ : ∃ b, b = cov2 u0 K := ⟨_, rfl⟩
          have CV := refCovers_any D A9 q d nK c9 u0 K wr HY.out.1 HNK.out HY.out.2 (HK.out.go KW.out)
          rw [show covB (Vc.cnt u0) (Vc.cnt K) = cb from hcb.symm] at CV
          rw [← hcb] at HFN1 HFS1
          have CV := Lib.hid CV
          have HFN1 := Lib.hid HFN1
          have HFS1 := Lib.hid HFS1
          clear hcb hnd
          go_wp2_with fail
          refine CV.out.mono ?_
          rintro e W5 ⟨rfl, hb5⟩
          have HY := Lib.hid (And.intro HY.out.1 (HY.out.2.go hb5))
          have KW := Lib.hid (below_then KW.out (Nat.le_refl _) hb5)
          have OZ := Lib.hid (OZ.out.below hb5)
          clear hb5 CV
          rcases cb with _ | _
          · have hfs := HFS1.out rfl
            have hnx : q ≤ 8796093022208 := by
              have h1 := HY.out.1
              have h2 := stl_len (HFM.out _ _ hfs)
              omega
            have HFK := Lib.hid hfs
            clear hfs HFN1 HFS1
            rcases List.eq_nil_or_concat M with hMn | ⟨M0, yy, hMy⟩
            · obtain rfl : m = 0 := by rw [← OZ.out.len, hMn]; rfl
              have HJ := Lib.hid fun Ac cc => (show zns (M ++ [((⟨Ac, q, cc⟩ : ZV), ((k : Int), (k : Int)), u0)]) = rls f (k + 1) by rw [zns_app, HMZ.out, rls_nil HFK.out (by rw [← HMZ.out, hMn]; rfl)]; rfl)
              clear hMn
              have CP := Lib.hid (vcopy_any D q d (sv u0) W5 (HY.out.2) (sv_oneCell _) hnx)
              go_wp2_with (first
                | (go_at_call 13; go_must (refine CP.out.mono ?_); rintro e Wc ⟨Ac, cc, rfl, ho7, hb7⟩; have KC := Lib.hid (below_then KW.out (Nat.le_refl _) hb7); have OC := Lib.hid (OZ.out.below hb7); have CV7 := Lib.hid (own_less ho7 KW.out.size); clear ho7 hb7)
                | (at_builtin; go_must (refine wpList_append_rd _ rfl (.tmp 99) (.tmp 106) _ rfl w8.heap.size 44 i0 _ 3 40 Tryz.underlying22 hi0 hz0 hz1 hz2 rfl (by decide) (.slice A' 0 c') 0 _ rfl (OC.out.row.alloc _) _ (some ⟨_, 0, none⟩) 1 1 [.int .i64 (k : Int), .int .i64 (k : Int), .slice Ac q cc] rfl (Rd.new _ 44 3 1 #[.int .i64 (k : Int), .int .i64 (k : Int), .slice Ac q cc] rfl h1max) (zvl_oneCell (⟨Ac, q, cc⟩, ((k : Int), (k : Int)), u0)) h63 (by omega) (by have := KC.out.size; simp; omega) ?_); intro A3 c3 W3 ho3 hg3 hat3))
              go_roundw
              case rel =>
                have hba := (Below.refl Wc.heap.size Wc).alloc (Nat.le_refl _) (.cells #[.int .i64 (k : Int), .int .i64 (k : Int), .slice Ac q cc] 44)
                have kka := below_then KC.out (Nat.le_refl _) hba
                exact ⟨k + 1, 0 + 1, c3, A3, by go_num, rfl, by omega, kka.trans (grown_below hg3 kka.size (fun g hg => own_lt OC.out.row g hg)), _, OwnZ.push (p := (⟨Ac, q, cc⟩, ((k : Int), (k : Int)), u0)) (OC.out.below hba) ⟨HY.out.1, own_below CV7.out hba (Nat.le_refl _)⟩ hg3 ho3, HJ.out Ac cc⟩
              case measure => simp [intOf]; omega
            · rw [List.concat_eq_append] at hMy
              subst hMy
              obtain ⟨j, rfl⟩ : ∃ j, m = j + 1 := ⟨m - 1, by rw [← OZ.out.len, List.length_append, List.length_singleton]; omega⟩
              have hM0 : M0.length = j := by have := OZ.out.len; rw [List.length_append, List.length_singleton] at this; omega
              obtain ⟨⟨Ay, ny, cy⟩, ⟨ylo, yhi⟩, yu⟩ := yy
              have hsn := rls_snoc HFM.out hk HFK.out (D := zns M0) (y := ((ylo, yhi), yu)) (by rw [← HMZ.out, zns_app]; rfl)
              dsimp only at hsn
              obtain ⟨Aq, cq, hvq, _, hfq⟩ := own_form OZ.out.row
              injection hvq with hv1 _ hv3
              subst hv1 hv3
              have hrz := OZ.out.rd
              obtain ⟨g', o', hA', hgl, p0, p1, p2⟩ := hrz.zone (k := j) (by rw [hrz.len]; omega)
              have hgj : (M0 ++ [((⟨Ay, ny, cy⟩ : ZV), (ylo, yhi), yu)])[j]'(by rw [hrz.len]; omega) = (⟨Ay, ny, cy⟩, (ylo, yhi), yu) := by
                rw [List.getElem_append_right (by omega)]; simp [hM0]
              rw [hgj] at p0 p1 p2
              dsimp only at p0 p1 p2
              obtain ⟨g, hga, hg1, _⟩ := hfq _ hA'
              injection hga with h1 h2
              subst h1 h2
              subst hA'
              simp only [Nat.zero_add] at p0 p1 p2
              have hye := OZ.out.el (⟨Ay, ny, cy⟩, (ylo, yhi), yu) (by simp)
              have EQ := same_q Ay D ny cy q d yu u0 W5 hye.1 HY.out.1 (Rd.of_own hye.2) HY.out.2
              have e8 : IntKind.i64.wrap (j : Int) = (j : Int) := IntWalk.i64_in _ (by omega)
              have e9 : (((j + 1 : Nat) : Int) - 1) = (j : Int) := by omega
              have e10 : IntKind.i64.wrap (((j + 1 : Nat) : Int) - 1) = (j : Int) := by rw [e9]; exact e8
              have hin2 : (0 : Int) ≤ (j : Int) ∧ (j : Int) < ((j + 1 : Nat) : Int) := by omega
              have dk : decide (0 < j + 1) = true := by simp
              have HG1 := Lib.hid hg1
              have HM0 := Lib.hid hM0
              clear hrz hgj hfq hg1 hye hM0
              by_cases h4 : yhi = (k : Int) - 1
              · by_cases h5 : yu = u0
                · rw [if_pos ⟨h4, h5⟩] at hsn
                  have HSN := Lib.hid hsn
                  rw [decide_eq_true h5] at EQ
                  have EQ := Lib.hid EQ
                  have H5 := Lib.hid h5
                  subst h4
                  clear hsn h5 HFK
                  go_wp2_with fail
                  refine EQ.out.mono ?_
                  rintro e W6 ⟨rfl, hq6⟩
                  have hb6 : Below W5.heap.size W5 W6 := by obtain ⟨q6, rfl⟩ := hq6; exact below_drewN (Below.refl _ _) _
                  have KW := Lib.hid (below_then KW.out (Nat.le_refl _) hb6)
                  have OZ := Lib.hid (OZ.out.below hb6)
                  obtain ⟨oc1, oc2, oc3⟩ := own_cell OZ.out.row (j := j * 3 + 1) (by omega) (.int .i64 (k : Int))
                  rw [← HM0.out, zvv_set_last, HM0.out] at oc1
                  have HOC := Lib.hid (And.intro oc1 oc2)
                  have p1 := (hb6.cell (p := ⟨g', j * 3 + 1, none⟩) hgl).trans p1
                  clear hq6 hb6 oc1 oc2 p0 p2 hgl EQ
                  go_wp2
                  go_roundw
                  case rel =>
                    refine ⟨k + 1, j + 1, c', some ⟨g', 0, none⟩, by go_num, rfl, by omega, KW.out.setCell (p := ⟨g', j * 3 + 1, none⟩) HG1.out _, M0 ++ [((⟨Ay, ny, cy⟩ : ZV), (ylo, (k : Int)), yu)], ⟨HOC.out.1, fun p hp => ?_⟩, ?_⟩
                    · have key : ∀ p ∈ M0 ++ [((⟨Ay, ny, cy⟩ : ZV), (ylo, (k : Int) - 1), yu)], p.2.2.length = p.1.n ∧ (W6.setCell ⟨g', j * 3 + 1, none⟩ (.int .i64 (k : Int))).ownsRow w8.heap.size 40 2 (.slice p.1.A p.1.n p.1.c) p.1.n (sv p.2.2) := fun p hp => ⟨(OZ.out.el p hp).1, (OZ.out.el p hp).2.kept HOC.out.2 (own_two (OZ.out.el p hp).2 OZ.out.row (by decide))⟩
                      rcases List.mem_append.1 hp with hp | hp
                      · exact key p (List.mem_append_left _ hp)
                      · rw [List.mem_singleton] at hp; subst hp; exact key (⟨Ay, ny, cy⟩, (ylo, (k : Int) - 1), yu) (by simp)
                    · rw [HSN.out, zns_app, H5.out]; rfl
                  case measure => simp [intOf]; omega
                · rw [if_neg (fun h => h5 h.2)] at hsn
                  have HJ := Lib.hid fun Ac cc => (show zns ((M0 ++ [((⟨Ay, ny, cy⟩ : ZV), (ylo, yhi), yu)]) ++ [((⟨Ac, q, cc⟩ : ZV), ((k : Int), (k : Int)), u0)]) = rls f (k + 1) by rw [hsn, zns_app, zns_app]; rfl)
                  rw [decide_eq_false h5] at EQ
                  have EQ := Lib.hid EQ
                  subst h4
                  clear hsn h5 HFK
                  go_wp2_with fail
                  refine EQ.out.mono ?_
                  rintro e W6 ⟨rfl, hq6⟩
                  have hb6 : Below W5.heap.size W5 W6 := by obtain ⟨q6, rfl⟩ := hq6; exact below_drewN (Below.refl _ _) _
                  have HY := Lib.hid (And.intro HY.out.1 (HY.out.2.go hb6))
                  have KW := Lib.hid (below_then KW.out (Nat.le_refl _) hb6)
                  have OZ := Lib.hid (OZ.out.below hb6)
                  clear hq6 hb6 p0 p1 p2 hgl EQ
                  have CP := Lib.hid (vcopy_any D q d (sv u0) W6 (HY.out.2) (sv_oneCell _) hnx)
                  go_wp2_with (first
                    | (go_at_call 13; go_must (refine CP.out.mono ?_); rintro e Wc ⟨Ac, cc, rfl, ho7, hb7⟩; have KC := Lib.hid (below_then KW.out (Nat.le_refl _) hb7); have OC := Lib.hid (OZ.out.below hb7); have CV7 := Lib.hid (own_less ho7 KW.out.size); clear ho7 hb7)
                    | (at_builtin; go_must (refine wpList_append_rd _ rfl (.tmp 99) (.tmp 106) _ rfl w8.heap.size 44 i0 _ 3 40 Tryz.underlying22 hi0 hz0 hz1 hz2 rfl (by decide) (.slice (some ⟨g', 0, none⟩) (j + 1) c') (j + 1) _ rfl (OC.out.row.alloc _) _ (some ⟨_, 0, none⟩) 1 1 [.int .i64 (k : Int), .int .i64 (k : Int), .slice Ac q cc] rfl (Rd.new _ 44 3 1 #[.int .i64 (k : Int), .int .i64 (k : Int), .slice Ac q cc] rfl h1max) (zvl_oneCell (⟨Ac, q, cc⟩, ((k : Int), (k : Int)), u0)) h63 (by omega) (by have := KC.out.size; simp; omega) ?_); intro A3 c3 W3 ho3 hg3 hat3))
                  go_roundw
                  case rel =>
                    have hba := (Below.refl Wc.heap.size Wc).alloc (Nat.le_refl _) (.cells #[.int .i64 (k : Int), .int .i64 (k : Int), .slice Ac q cc] 44)
                    have kka := below_then KC.out (Nat.le_refl _) hba
                    exact ⟨k + 1, (j + 1) + 1, c3, A3, by go_num, rfl, by omega, kka.trans (grown_below hg3 kka.size (fun g hg => own_lt OC.out.row g hg)), _, OwnZ.push (p := (⟨Ac, q, cc⟩, ((k : Int), (k : Int)), u0)) (OC.out.below hba) ⟨HY.out.1, own_below CV7.out hba (Nat.le_refl _)⟩ hg3 ho3, HJ.out Ac cc⟩
                  case measure => simp [intOf]; omega
              · rw [if_neg (fun h => h4 h.1)] at hsn
                have HJ := Lib.hid fun Ac cc => (show zns ((M0 ++ [((⟨Ay, ny, cy⟩ : ZV), (ylo, yhi), yu)]) ++ [((⟨Ac, q, cc⟩ : ZV), ((k : Int), (k : Int)), u0)]) = rls f (k + 1) by rw [hsn, zns_app, zns_app]; rfl)
                have b4 : (yhi == (k : Int) - 1) = false := by simpa using h4
                clear hsn h4 HFK EQ p0 p2 hgl
                have CP := Lib.hid (vcopy_any D q d (sv u0) W5 (HY.out.2) (sv_oneCell _) hnx)
                go_wp2_with (first
                  | (go_at_call 13; go_must (refine CP.out.mono ?_); rintro e Wc ⟨Ac, cc, rfl, ho7, hb7⟩; have KC := Lib.hid (below_then KW.out (Nat.le_refl _) hb7); have OC := Lib.hid (OZ.out.below hb7); have CV7 := Lib.hid (own_less ho7 KW.out.size); clear ho7 hb7)
                  | (at_builtin; go_must (refine wpList_append_rd _ rfl (.tmp 99) (.tmp 106) _ rfl w8.heap.size 44 i0 _ 3 40 Tryz.underlying22 hi0 hz0 hz1 hz2 rfl (by decide) (.slice (some ⟨g', 0, none⟩) (j + 1) c') (j + 1) _ rfl (OC.out.row.alloc _) _ (some ⟨_, 0, none⟩) 1 1 [.int .i64 (k : Int), .int .i64 (k : Int), .slice Ac q cc] rfl (Rd.new _ 44 3 1 #[.int .i64 (k : Int), .int .i64 (k : Int), .slice Ac q cc] rfl h1max) (zvl_oneCell (⟨Ac, q, cc⟩, ((k : Int), (k : Int)), u0)) h63 (by omega) (by have := KC.out.size; simp; omega) ?_); intro A3 c3 W3 ho3 hg3 hat3))
                go_roundw
                case rel =>
                  have hba := (Below.refl Wc.heap.size Wc).alloc (Nat.le_refl _) (.cells #[.int .i64 (k : Int), .int .i64 (k : Int), .slice Ac q cc] 44)
                  have kka := below_then KC.out (Nat.le_refl _) hba
                  exact ⟨k + 1, (j + 1) + 1, c3, A3, by go_num, rfl, by omega, kka.trans (grown_below hg3 kka.size (fun g hg => own_lt OC.out.row g hg)), _, OwnZ.push (p := (⟨Ac, q, cc⟩, ((k : Int), (k : Int)), u0)) (OC.out.below hba) ⟨HY.out.1, own_below CV7.out hba (Nat.le_refl _)⟩ hg3 ho3, HJ.out Ac cc⟩
                case measure => simp [intOf]; omega
          · have HFK := Lib.hid (HFN1.out rfl)
            clear HFN1 HFS1 HY
            go_wp2
            go_roundw
            case rel => exact ⟨k + 1, m, c', A', by go_num, rfl, by omega, KW.out, M, OZ.out, by rw [rls_none HFK.out]; exact HMZ.out⟩
            case measure => simp [intOf]; omega
    · obtain rfl : k = 256 := by omega
      have HB := Lib.hid hb
      have HM := Lib.hid hM
      have HMZ := Lib.hid hMz
      clear hb hM hMz
      go_wp2
      go_ret3
      exact ⟨A', m, c', M, A9, nK, c9, rfl, HM.out.rd, by rw [HMZ.out, HZ.out], HNK.out, HK.out.go HB.out, below_then HBB.out (Nat.le_refl _) HB.out⟩
end Go.Proofs.YticnfjfdeagmaaaGreatDoor
