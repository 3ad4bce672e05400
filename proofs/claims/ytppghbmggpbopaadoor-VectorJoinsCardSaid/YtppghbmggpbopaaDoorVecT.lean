/- Walks over the laws VectorCounts, VectorCovers, VectorWiths. -/
import Derived.Test.YtppghbmggpbopaaDoorVecS
namespace Go.Proofs.YtppghbmggpbopaaDoor
open Go.RowKit
set_option maxRecDepth 100000

set_option maxHeartbeats 2000000 in
theorem vectorCounts_walk (A : Option Addr) (n c : Nat) (v : List Vc.St) (x sc sn : Int) (w : World) (hT : Tab w) (hl : v.length = n) (hR : Rd w w.heap.size 2 A n c (sv v)) (hn : n ≤ 8796093022208) :
    Calls Tryd.prog 6 #[.slice A n c, .int .i64 x, .agg #[.int .i64 sc, .int .i64 sn]] w fun e w' => e = .returned (.bool true) ∧ Below w.heap.size w w' := by
  have hb0 : Below w.heap.size w (w.alloc (.cells #[.int .i64 sc, .int .i64 sn] 29)) := (Below.refl _ _).alloc (Nat.le_refl _) _
  have hBx := Blk.new w 29 #[.int .i64 sc, .int .i64 sn]
  have hT0 := hT.below hb0
  have hR0 := hR.go hb0
  have HN := Lib.hid hn
  obtain ⟨w0, hw0⟩ : ∃ w0, w0 = w.alloc (.cells #[.int .i64 sc, .int .i64 sn] 29) := ⟨_, rfl⟩
  rw [← hw0] at hb0 hBx hT0 hR0
  have HW := Lib.hid hw0.symm
  have hs0 : w.heap.size < w0.heap.size := hBx.lt
  have HL := Lib.hid hl
  clear hw0 hR hT hl hn
  go_enter Tryd.func6, Tryd.ntmps6
  go_wp2_with fail
  rw [HW.out]
  refine (alive_any w0 hT0).mono ?_
  rintro e w1 ⟨rfl, hb1⟩
  have hR1 := hR0.go hb1
  have hT1 := hT0.below hb1
  have hBx1 := hBx.go hb1
  have hb01 := below_then hb0 (Nat.le_refl _) hb1
  clear hb0 hBx hT0 hR0 HW hb1
  go_wp2_with fail
  refine (vcopy_any A n c (sv v) w1 hR1 (sv_oneCell v) HN.out).mono ?_
  rintro e w2 ⟨A', c', rfl, ho2, hb2⟩
  have hR2 := hR1.go hb2
  have hT2 := hT1.below hb2
  have hBx2 := hBx1.go hb2
  have hb02 := below_then hb01 (Nat.le_refl _) hb2
  have hO := Rd.of_own ho2
  have hs2 := hBx2.lt
  have HQ := Lib.hid fun (W : World) (hb : Below w2.heap.size w2 W) => (show W.cell? ⟨w.heap.size, 0, none⟩ = some (.int .i64 sc) ∧ W.cell? ⟨w.heap.size, 1, none⟩ = some (.int .i64 sn) from ⟨(hBx2.go hb).cell 0, (hBx2.go hb).cell 1⟩)
  have H1 := Lib.hid fun (W : World) (hb : Below w2.heap.size w2 W) => count_any A' n c' v x W HL.out (hO.go hb)
  have H2 := Lib.hid fun (W : World) (hb : Below w2.heap.size w2 W) => refCount_any A n c v x W HL.out (hR2.go hb)
  have H3 := Lib.hid fun (W : World) (hb : Below w2.heap.size w2 W) => has_any A' n c' v (sc, sn) W HL.out (hO.go hb)
  have H4 := Lib.hid fun (W : World) (hb : Below w2.heap.size w2 W) => refHas_any A n c v (sc, sn) W HL.out (hR2.go hb)
  have H5 := Lib.hid fun (W : World) (hb : Below w2.heap.size w2 W) => formed_any A' n c' v W HL.out (hO.go hb)
  have H6 := Lib.hid fun (W : World) (hb : Below w2.heap.size w2 W) => refFormed_any A n c v W HL.out (hR2.go hb)
  have H7 := Lib.hid fun (W : World) (hb : Below w2.heap.size w2 W) => greatest_any A' n c' v W (hT2.below hb) HL.out (hO.go hb)
  have H8 := Lib.hid fun (W : World) (hb : Below w2.heap.size w2 W) => refGreatest_any A n c v W HL.out (hR2.go hb)
  have H9 := fun (W : World) (hb : Below w2.heap.size w2 W) => same_any A' A n c' n c v v W HL.out HL.out (hO.go hb) (hR2.go hb)
  rw [decide_eq_true rfl] at H9
  have H9 := Lib.hid H9
  generalize cntZ v x = z1 at H1 H2
  generalize hasB v (sc, sn) = z2 at H3 H4
  generalize fm (-1) v = z3 at H5 H6
  generalize grTo (Vc.cnt v) 64 = z4 at H7 H8
  have k0 : Below w2.heap.size w2 w2.drew := (Below.refl _ w2).drew
  clear hR1 hT1 hBx1 hb01 hb2 hR2 hT2 hBx2 ho2 hO HL
  go_wp2_with fail
  refine region_nrm fun K hK => ?_
  go_region_held3 (fun w' => w'.cell? ⟨w.heap.size, 0, none⟩ = some (.int .i64 sc) ∧ w'.cell? ⟨w.heap.size, 1, none⟩ = some (.int .i64 sn)) (first | exact HQ.out _ ‹_› | go_keep) (first
    | (go_at_call 21; go_must (refine (H1.out _ k0).mono ?_); rintro e w3 ⟨rfl, hb3⟩; have k1 := below_then k0 (Nat.le_refl _) hb3)
    | (go_at_call 22; go_must (refine (H2.out _ k1).mono ?_); rintro e w4 ⟨rfl, hb4⟩; have k2 := below_then k1 (Nat.le_refl _) hb4)
    | (go_at_call 23; go_must (refine (H3.out _ k2).mono ?_); rintro e w5 ⟨rfl, hb5⟩; have k3 := below_then k2 (Nat.le_refl _) hb5)
    | (go_at_call 24; go_must (refine (H4.out _ k3).mono ?_); rintro e w6 ⟨rfl, hb6⟩; have k4 := below_then k3 (Nat.le_refl _) hb6)
    | (go_at_call 15; go_must (refine (H5.out _ k4).mono ?_); rintro e w7 ⟨rfl, hb7⟩; have k5 := below_then k4 (Nat.le_refl _) hb7)
    | (go_at_call 25; go_must (refine (H6.out _ k5).mono ?_); rintro e w8 ⟨rfl, hb8⟩; have k6 := below_then k5 (Nat.le_refl _) hb8)
    | (go_at_call 26; go_must (refine (H7.out _ k6).mono ?_); rintro e w9 ⟨rfl, hb9⟩; have k7 := below_then k6 (Nat.le_refl _) hb9)
    | (go_at_call 27; go_must (refine (H8.out _ k7).mono ?_); rintro e w10 ⟨rfl, hb10⟩; have k8 := below_then k7 (Nat.le_refl _) hb10)
    | (go_at_call 13; go_must (refine (H9.out _ k8).mono ?_); rintro e w11 ⟨rfl, hb11⟩; have k9 := below_then k8 (Nat.le_refl _) hb11))
  refine Nrm.out (hK _ _ ?_)
  go_wp2
  go_ret
  exact ⟨ret_bool (by simp), below_then hb02 (Nat.le_refl _) k9⟩

set_option maxHeartbeats 2000000 in
theorem vectorCovers_walk (A D : Option Addr) (n c m d : Nat) (u v : List Vc.St) (w : World) (hT : Tab w) (hl : u.length = n) (hl2 : v.length = m) (hR : Rd w w.heap.size 2 A n c (sv u)) (hR2 : Rd w w.heap.size 2 D m d (sv v)) :
    Calls Tryd.prog 7 #[.slice A n c, .slice D m d] w fun e w' => e = .returned (.bool true) ∧ Below w.heap.size w w' := by
  have HA := Lib.hid fun (W : World) (hb : Below w.heap.size w W) => alive_any W (hT.below hb)
  have H1 := Lib.hid fun (W : World) (hb : Below w.heap.size w W) => covers_any A D n c m d u v W (hT.below hb) hl hl2 (hR.go hb) (hR2.go hb)
  have H2 := Lib.hid fun (W : World) (hb : Below w.heap.size w W) => refCovers_any A D n c m d u v W hl hl2 (hR.go hb) (hR2.go hb)
  have H3 := Lib.hid fun (W : World) (hb : Below w.heap.size w W) => compare_any A D n c m d u v W (hT.below hb) hl hl2 (hR.go hb) (hR2.go hb)
  have H4 := Lib.hid fun (W : World) (hb : Below w.heap.size w W) => refCompare_any A D n c m d u v W hl hl2 (hR.go hb) (hR2.go hb)
  generalize standB _ _ = z2 at H3 H4
  generalize covB _ _ = z1 at H1 H2
  have k0 : Below w.heap.size w w := Below.refl _ w
  clear hT hl hl2 hR hR2
  go_enter Tryd.func7, Tryd.ntmps7
  go_wp2_with (first
    | (go_at_call 9; go_must (refine (HA.out _ k0).mono ?_); rintro e w1 ⟨rfl, hb1⟩; have k1 := below_then k0 (Nat.le_refl _) hb1)
    | (go_at_call 28; go_must (refine (H1.out _ k1).mono ?_); rintro e w3 ⟨rfl, hb3⟩; have k2 := below_then k1 (Nat.le_refl _) hb3)
    | (go_at_call 29; go_must (refine (H2.out _ k2).mono ?_); rintro e w4 ⟨rfl, hb4⟩; have k3 := below_then k2 (Nat.le_refl _) hb4)
    | (go_at_call 30; go_must (refine (H3.out _ k3).mono ?_); rintro e w5 ⟨rfl, hb5⟩; have k4 := below_then k3 (Nat.le_refl _) hb5)
    | (go_at_call 31; go_must (refine (H4.out _ k4).mono ?_); rintro e w6 ⟨rfl, hb6⟩; have k5 := below_then k4 (Nat.le_refl _) hb6))
  go_ret
  exact ⟨ret_bool (by simp), k5⟩

/-- What is made of counts is formed. -/
def lastN : Int → List Vc.St → Int
  | l, [] => l
  | _, t :: r => lastN t.2 r
theorem lastN_snoc (last : Int) (v : List Vc.St) (s : Vc.St) : lastN last (v ++ [s]) = s.2 := by
  induction v generalizing last with
  | nil => rfl
  | cons t r ih => rw [List.cons_append, lastN, ih]
theorem fm_snoc (last : Int) (v : List Vc.St) (s : Vc.St) : fm last (v ++ [s]) = (fm last v && (Vc.right s && decide (lastN last v < s.2))) := by
  induction v generalizing last with
  | nil => rw [List.nil_append, fm, fm, fm, lastN, Bool.and_true, Bool.true_and]
  | cons t r ih => rw [List.cons_append, fm, fm, ih, lastN, Bool.and_assoc, Bool.and_assoc]
theorem vec_formed (f : Nat → Int) : ∀ k, k ≤ 64 → fm (-1) (vecTo f (pos f) k) = true ∧ lastN (-1) (vecTo f (pos f) k) < k := by
  intro k
  induction k with
  | zero => intro _; exact ⟨rfl, by show lastN (-1) [] < ((0 : Nat) : Int); decide⟩
  | succ k ih =>
    intro hk
    obtain ⟨h1, h2⟩ := ih (by omega)
    by_cases hp : pos f k = true
    · rw [vecTo_hit f _ k hp, fm_snoc, h1, lastN_snoc]
      have h0 : 0 < f k := by simpa [pos] using hp
      have hr : Vc.right (f k, (k : Int)) = true := (Vc.right_iff _).2 ⟨h0, by simp, by simp; omega⟩
      rw [hr]
      exact ⟨by simpa using h2, by simp only; omega⟩
    · rw [vecTo_miss f _ k (by simpa using hp)]
      exact ⟨h1, by omega⟩

set_option maxHeartbeats 2000000 in
theorem vectorWiths_walk (A : Option Addr) (n c : Nat) (v : List Vc.St) (sc sn : Int) (w : World) (hT : Tab w) (hl : v.length = n) (hR : Rd w w.heap.size 2 A n c (sv v)) :
    Calls Tryd.prog 4 #[.slice A n c, .agg #[.int .i64 sc, .int .i64 sn]] w fun e w' => e = .returned (.bool true) ∧ Below w.heap.size w w' := by
  have hb0 : Below w.heap.size w (w.alloc (.cells #[.int .i64 sc, .int .i64 sn] 29)) := (Below.refl _ _).alloc (Nat.le_refl _) _
  have hBx := Blk.new w 29 #[.int .i64 sc, .int .i64 sn]
  have hT0 := hT.below hb0
  have hR0 := hR.go hb0
  obtain ⟨w0, hw0⟩ : ∃ w0, w0 = w.alloc (.cells #[.int .i64 sc, .int .i64 sn] 29) := ⟨_, rfl⟩
  rw [← hw0] at hb0 hBx hT0 hR0
  have HW := Lib.hid hw0.symm
  have q0 := hBx.cell 0
  have q1 := hBx.cell 1
  rw [show (#[Value.int .i64 sc, Value.int .i64 sn])[0]? = some (.int .i64 sc) from rfl] at q0
  rw [show (#[Value.int .i64 sc, Value.int .i64 sn])[1]? = some (.int .i64 sn) from rfl] at q1
  have HL := Lib.hid hl
  clear hR hT hl
  go_enter Tryd.func4, Tryd.ntmps4
  rw [hw0] at q0 q1
  clear hw0
  go_wp2_with fail
  rw [HW.out]
  refine (with_any A n c v (sc, sn) w0 hT0 HL.out hR0).mono ?_
  rintro e w2 ⟨A', c', rfl, ho2, hb2⟩
  clear q0 q1
  have hR2 := hR0.go hb2
  have hT2 := hT0.below hb2
  have hBx2 := hBx.go hb2
  have hb02 := below_then hb0 (Nat.le_refl _) hb2
  have hO := Rd.of_own ho2
  have hf := (vec_formed (jn [v, [(sc, sn)]]) 64 (by omega)).1
  have HQ := Lib.hid fun (W : World) (hb : Below w2.heap.size w2 W) => (show W.cell? ⟨w.heap.size, 0, none⟩ = some (.int .i64 sc) ∧ W.cell? ⟨w.heap.size, 1, none⟩ = some (.int .i64 sn) from ⟨(hBx2.go hb).cell 0, (hBx2.go hb).cell 1⟩)
  have HA := Lib.hid fun (W : World) (hb : Below w2.heap.size w2 W) => alive_any W (hT2.below hb)
  have H1 := fun (W : World) (hb : Below w2.heap.size w2 W) => refWith_any A n c v (sc, sn) W HL.out (hR2.go hb)
  have hf2 : fm (-1) (vec (jn [v, [(sc, sn)]])) = true := hf
  obtain ⟨r, hr⟩ : ∃ r, r = vec (jn [v, [(sc, sn)]]) := ⟨_, rfl⟩
  rw [← hr] at H1 hO hf2 ⊢
  obtain ⟨m, hm⟩ : ∃ m, m = r.length := ⟨_, rfl⟩
  rw [← hm] at H1 hO ⊢
  have H3 := fun (W : World) (hb : Below w2.heap.size w2 W) => formed_any A' m c' r W hm.symm (hO.go hb)
  rw [hf2] at H3
  have H2 := fun (W : World) (D : Option Addr) (d : Nat) (hb : Below w2.heap.size w2 W) (hD : Rd W W.heap.size 2 D m d (sv r)) => same_any A' D m c' m d r r W hm.symm hm.symm (hO.go hb) hD
  rw [decide_eq_true rfl] at H2
  have H1 := Lib.hid H1
  have H2 := Lib.hid H2
  have H3 := Lib.hid H3
  have k0 : Below w2.heap.size w2 w2 := Below.refl _ w2
  clear hR0 hT0 hBx hb0 hb2 hR2 hT2 hBx2 ho2 hO HL hf hf2 hr hm HW
  go_wp2_with (first
    | (go_at_call 9; go_must (refine (HA.out _ k0).mono ?_); rintro e w1 ⟨rfl, hb1⟩; have k1 := below_then k0 (Nat.le_refl _) hb1; obtain ⟨q0, q1⟩ := HQ.out _ k1)
    | (go_at_call 14; go_must (refine (H1.out _ k1).mono ?_); rintro e w3 ⟨D, d, rfl, ho3, hb3⟩; have k2 := below_then k1 (Nat.le_refl _) hb3)
    | (go_at_call 13; go_must (refine (H2.out _ _ _ k2 (Rd.of_own ho3)).mono ?_); rintro e w5 ⟨rfl, hb5⟩; have k4 := below_then k2 (Nat.le_refl _) hb5)
    | (go_at_call 15; go_must (refine (H3.out _ k4).mono ?_); rintro e w6 ⟨rfl, hb6⟩; have k5 := below_then k4 (Nat.le_refl _) hb6))
  go_ret
  exact ⟨rfl, below_then hb02 (Nat.le_refl _) k5⟩
end Go.Proofs.YtppghbmggpbopaaDoor
