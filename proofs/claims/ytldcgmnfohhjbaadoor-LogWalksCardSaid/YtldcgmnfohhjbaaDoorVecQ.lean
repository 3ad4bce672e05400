/- Walks over Has, the program's and the document's; the document's Formed and Same. -/
import Derived.Test.YtldcgmnfohhjbaaDoorVecP
import Derived.Deep.RegionHeld3
import Derived.Deep.RegionWith
namespace Go.Proofs.YtldcgmnfohhjbaaDoor
open Go.RowKit
set_option maxRecDepth 100000

/-- Is a stamp in it? -/
def hasB (v : List Vc.St) (s : Vc.St) : Bool := Vc.right s && decide (s.1 ≤ cntZ v s.2)

set_option maxHeartbeats 2000000 in
theorem has_any (A : Option Addr) (n c : Nat) (v : List Vc.St) (s : Vc.St) (w : World) (hl : v.length = n) (hR : Rd w w.heap.size 2 A n c (sv v)) :
    Calls Tryd.prog 44 #[.slice A n c, .agg #[.int .i64 s.1, .int .i64 s.2]] w fun e w' => e = .returned (.bool (hasB v s)) ∧ Below w.heap.size w w' := by
  obtain ⟨sc, sn⟩ := s
  have hb1 : Below w.heap.size w (w.alloc (.cells #[.int .i64 sc, .int .i64 sn] 24)) := (Below.refl _ _).alloc (Nat.le_refl _) _
  have hB := Blk.new w 24 #[.int .i64 sc, .int .i64 sn]
  have HR := Lib.hid hR
  have H2 := Lib.hid fun (W : World) hR => count_any A n c v sn W hl hR
  clear hR hl
  have HRt := right_any sc sn
  have hX0 : hasB v (sc, sn) = (Vc.right (sc, sn) && decide (sc ≤ cntZ v sn)) := rfl
  generalize cntZ v sn = z at H2 hX0
  generalize Vc.right (sc, sn) = rv at HRt hX0
  have HX := Lib.hid hX0
  have HR1 := Lib.hid HRt
  clear HRt hX0
  cases rv
  · go_enter Tryd.func44, Tryd.ntmps44
    go_wp2_with fail
    have q0 : (World.drew (w.alloc (.cells #[.int .i64 sc, .int .i64 sn] 24))).cell? ⟨w.heap.size, 0, none⟩ = some (.int .i64 sc) := hB.cell 0
    have q1 : (World.drew (w.alloc (.cells #[.int .i64 sc, .int .i64 sn] 24))).cell? ⟨w.heap.size, 1, none⟩ = some (.int .i64 sn) := hB.cell 1
    refine wp_region_any (by kernel_rfl) ?_
    change wpAny _ _ _ _ _ _ _ (World.drew _)
    refine wpAny_ready (rs := [0]) (by kernel_rfl) (by simp) ?_
    refine AllReady.cons rfl (fun K hK => ?_) AllReady.nil
    go_simp
    refine hK _ _ ?_
    clear hK K
    refine wpAny_ready (rs := [1]) (by kernel_rfl) (by simp) ?_
    refine AllReady.cons rfl (fun K hK => ?_) AllReady.nil
    go_simp
    refine (HR1.out _).mono ?_
    rintro e w3 ⟨rfl, hb3⟩
    refine hK _ _ ?_
    clear hK K
    refine wpAny_take (i := 2) (v := .bool false) rfl (by kernel_rfl) (by kernel_rfl) (by kernel_rfl) (fun _ _ _ h => h) (Or.inl ⟨by rfl, fun w => ?_⟩) ?_
    · go_simp
    refine wpAny_take (i := 3) (v := undef) rfl (by kernel_rfl) (by kernel_rfl) (by kernel_rfl) (fun _ _ _ h => h) (Or.inr ⟨by rfl, rfl⟩) ?_
    refine wpAny_take (i := 4) (v := undef) rfl (by kernel_rfl) (by kernel_rfl) (by kernel_rfl) (fun _ _ _ h => h) (Or.inr ⟨by rfl, rfl⟩) ?_
    refine wpAny_take (i := 7) (v := undef) rfl (by kernel_rfl) (by kernel_rfl) (by kernel_rfl) (fun _ _ _ h => h) (Or.inr ⟨by rfl, rfl⟩) ?_
    refine wpAny_ready (rs := [5, 8]) (by kernel_rfl) (by simp) ?_
    refine AllReady.cons rfl (fun K hK => ?_) (AllReady.cons rfl (fun K hK => ?_) AllReady.nil)
    · go_simp
      refine hK _ _ ?_
      clear hK K
      refine wpAny_ready (rs := [6, 8]) (by kernel_rfl) (by simp) ?_
      refine AllReady.cons rfl (fun K hK => ?_) (AllReady.cons rfl (fun K hK => ?_) AllReady.nil)
      · go_simp
        refine hK _ _ ?_
        clear hK K
        refine wpAny_ready (rs := [8]) (by kernel_rfl) (by simp) ?_
        refine AllReady.cons rfl (fun K hK => ?_) AllReady.nil
        go_simp
        refine hK _ _ ?_
        clear hK K
        refine wpAny_take (i := 9) (v := undef) rfl (by kernel_rfl) (by kernel_rfl) (by kernel_rfl) (fun _ _ _ h => h) (Or.inr ⟨by rfl, rfl⟩) ?_
        refine wpAny_take (i := 10) (v := .bool false) rfl (by kernel_rfl) (by kernel_rfl) (by kernel_rfl) (fun _ _ _ h => h) (Or.inl ⟨by rfl, fun w => ?_⟩) ?_
        · go_simp
        refine wpAny_take (i := 11) (v := .bool false) rfl (by kernel_rfl) (by kernel_rfl) (by kernel_rfl) (fun _ _ _ h => h) (Or.inl ⟨by rfl, fun w => ?_⟩) ?_
        · go_simp
        refine wpAny_done (by kernel_rfl) ?_ _
        go_wp2
        go_ret
        exact ⟨by rw [HX.out]; rfl, below_then hb1.drew (Nat.le_refl _) hb3⟩
      · go_simp
        refine hK _ _ ?_
        clear hK K
        refine wpAny_ready (rs := [6]) (by kernel_rfl) (by simp) ?_
        refine AllReady.cons rfl (fun K hK => ?_) AllReady.nil
        go_simp
        refine hK _ _ ?_
        clear hK K
        refine wpAny_take (i := 9) (v := undef) rfl (by kernel_rfl) (by kernel_rfl) (by kernel_rfl) (fun _ _ _ h => h) (Or.inr ⟨by rfl, rfl⟩) ?_
        refine wpAny_take (i := 10) (v := .bool false) rfl (by kernel_rfl) (by kernel_rfl) (by kernel_rfl) (fun _ _ _ h => h) (Or.inl ⟨by rfl, fun w => ?_⟩) ?_
        · go_simp
        refine wpAny_take (i := 11) (v := .bool false) rfl (by kernel_rfl) (by kernel_rfl) (by kernel_rfl) (fun _ _ _ h => h) (Or.inl ⟨by rfl, fun w => ?_⟩) ?_
        · go_simp
        refine wpAny_done (by kernel_rfl) ?_ _
        go_wp2
        go_ret
        exact ⟨by rw [HX.out]; rfl, below_then hb1.drew (Nat.le_refl _) hb3⟩
    · go_simp
      refine hK _ _ ?_
      clear hK K
      refine wpAny_ready (rs := [5]) (by kernel_rfl) (by simp) ?_
      refine AllReady.cons rfl (fun K hK => ?_) AllReady.nil
      go_simp
      refine hK _ _ ?_
      clear hK K
      refine wpAny_ready (rs := [6]) (by kernel_rfl) (by simp) ?_
      refine AllReady.cons rfl (fun K hK => ?_) AllReady.nil
      go_simp
      refine hK _ _ ?_
      clear hK K
      refine wpAny_take (i := 9) (v := undef) rfl (by kernel_rfl) (by kernel_rfl) (by kernel_rfl) (fun _ _ _ h => h) (Or.inr ⟨by rfl, rfl⟩) ?_
      refine wpAny_take (i := 10) (v := .bool false) rfl (by kernel_rfl) (by kernel_rfl) (by kernel_rfl) (fun _ _ _ h => h) (Or.inl ⟨by rfl, fun w => ?_⟩) ?_
      · go_simp
      refine wpAny_take (i := 11) (v := .bool false) rfl (by kernel_rfl) (by kernel_rfl) (by kernel_rfl) (fun _ _ _ h => h) (Or.inl ⟨by rfl, fun w => ?_⟩) ?_
      · go_simp
      refine wpAny_done (by kernel_rfl) ?_ _
      go_wp2
      go_ret
      exact ⟨by rw [HX.out]; rfl, below_then hb1.drew (Nat.le_refl _) hb3⟩
  · go_enter Tryd.func44, Tryd.ntmps44
    go_wp2_with fail
    have q0 : (World.drew (w.alloc (.cells #[.int .i64 sc, .int .i64 sn] 24))).cell? ⟨w.heap.size, 0, none⟩ = some (.int .i64 sc) := hB.cell 0
    have q1 : (World.drew (w.alloc (.cells #[.int .i64 sc, .int .i64 sn] 24))).cell? ⟨w.heap.size, 1, none⟩ = some (.int .i64 sn) := hB.cell 1
    refine region_nrm fun K hK => ?_
    go_region_held3 (fun w' => w'.cell? ⟨w.heap.size, 0, none⟩ = some (.int .i64 sc) ∧ w'.cell? ⟨w.heap.size, 1, none⟩ = some (.int .i64 sn)) (first | exact ⟨q4, q5⟩ | exact ⟨q2, q3⟩ | exact ⟨q0, q1⟩ | go_keep) (first
      | (go_at_call 42; go_must (refine (HR1.out _).mono ?_); rintro e w3 ⟨rfl, hb3⟩; have hb4 := below_then hb1.drew (Nat.le_refl _) hb3; have q2 := (hb3.cell (p := ⟨w.heap.size, 0, none⟩) (by simp)).trans q0; have q3 := (hb3.cell (p := ⟨w.heap.size, 1, none⟩) (by simp)).trans q1)
      | (go_at_call 68; go_must (refine (H2.out _ (HR.out.go hb4)).mono ?_); rintro e w4 ⟨rfl, hb5⟩; have hb6 := below_then hb4 (Nat.le_refl _) hb5; have q4 := (hb5.cell (p := ⟨w.heap.size, 0, none⟩) (World.block_lt_of_cell? _ _ q2)).trans q2; have q5 := (hb5.cell (p := ⟨w.heap.size, 1, none⟩) (World.block_lt_of_cell? _ _ q3)).trans q3))
    refine Nrm.out (hK _ _ ?_)
    go_wp2
    go_ret
    exact ⟨ret_bool (by rw [HX.out]; simp), hb6⟩
set_option maxHeartbeats 2000000 in
theorem refHas_any (A : Option Addr) (n c : Nat) (v : List Vc.St) (s : Vc.St) (w : World) (hl : v.length = n) (hR : Rd w w.heap.size 2 A n c (sv v)) :
    Calls Tryd.prog 49 #[.slice A n c, .agg #[.int .i64 s.1, .int .i64 s.2]] w fun e w' => e = .returned (.bool (hasB v s)) ∧ Below w.heap.size w w' := by
  obtain ⟨sc, sn⟩ := s
  have hb1 : Below w.heap.size w (w.alloc (.cells #[.int .i64 sc, .int .i64 sn] 24)) := (Below.refl _ _).alloc (Nat.le_refl _) _
  have hB := Blk.new w 24 #[.int .i64 sc, .int .i64 sn]
  have HR := Lib.hid hR
  have H2 := Lib.hid fun (W : World) hR => refCount_any A n c v sn W hl hR
  clear hR hl
  have HRt := refRight_any sc sn
  have hX0 : hasB v (sc, sn) = (Vc.right (sc, sn) && decide (sc ≤ cntZ v sn)) := rfl
  generalize cntZ v sn = z at H2 hX0
  generalize Vc.right (sc, sn) = rv at HRt hX0
  have HX := Lib.hid hX0
  have HR1 := Lib.hid HRt
  clear HRt hX0
  cases rv
  · go_enter Tryd.func49, Tryd.ntmps49
    go_wp2_with fail
    have q0 : (World.drew (w.alloc (.cells #[.int .i64 sc, .int .i64 sn] 24))).cell? ⟨w.heap.size, 0, none⟩ = some (.int .i64 sc) := hB.cell 0
    have q1 : (World.drew (w.alloc (.cells #[.int .i64 sc, .int .i64 sn] 24))).cell? ⟨w.heap.size, 1, none⟩ = some (.int .i64 sn) := hB.cell 1
    refine wp_region_any (by kernel_rfl) ?_
    change wpAny _ _ _ _ _ _ _ (World.drew _)
    refine wpAny_ready (rs := [0]) (by kernel_rfl) (by simp) ?_
    refine AllReady.cons rfl (fun K hK => ?_) AllReady.nil
    go_simp
    refine hK _ _ ?_
    clear hK K
    refine wpAny_ready (rs := [1]) (by kernel_rfl) (by simp) ?_
    refine AllReady.cons rfl (fun K hK => ?_) AllReady.nil
    go_simp
    refine (HR1.out _).mono ?_
    rintro e w3 ⟨rfl, hb3⟩
    refine hK _ _ ?_
    clear hK K
    refine wpAny_take (i := 2) (v := .bool false) rfl (by kernel_rfl) (by kernel_rfl) (by kernel_rfl) (fun _ _ _ h => h) (Or.inl ⟨by rfl, fun w => ?_⟩) ?_
    · go_simp
    refine wpAny_take (i := 3) (v := undef) rfl (by kernel_rfl) (by kernel_rfl) (by kernel_rfl) (fun _ _ _ h => h) (Or.inr ⟨by rfl, rfl⟩) ?_
    refine wpAny_take (i := 5) (v := undef) rfl (by kernel_rfl) (by kernel_rfl) (by kernel_rfl) (fun _ _ _ h => h) (Or.inr ⟨by rfl, rfl⟩) ?_
    refine wpAny_take (i := 6) (v := undef) rfl (by kernel_rfl) (by kernel_rfl) (by kernel_rfl) (fun _ _ _ h => h) (Or.inr ⟨by rfl, rfl⟩) ?_
    refine wpAny_ready (rs := [4, 7]) (by kernel_rfl) (by simp) ?_
    refine AllReady.cons rfl (fun K hK => ?_) (AllReady.cons rfl (fun K hK => ?_) AllReady.nil)
    · go_simp
      refine hK _ _ ?_
      clear hK K
      refine wpAny_ready (rs := [7]) (by kernel_rfl) (by simp) ?_
      refine AllReady.cons rfl (fun K hK => ?_) AllReady.nil
      go_simp
      refine hK _ _ ?_
      clear hK K
      refine wpAny_ready (rs := [8]) (by kernel_rfl) (by simp) ?_
      refine AllReady.cons rfl (fun K hK => ?_) AllReady.nil
      go_simp
      refine hK _ _ ?_
      clear hK K
      refine wpAny_take (i := 9) (v := undef) rfl (by kernel_rfl) (by kernel_rfl) (by kernel_rfl) (fun _ _ _ h => h) (Or.inr ⟨by rfl, rfl⟩) ?_
      refine wpAny_take (i := 10) (v := .bool false) rfl (by kernel_rfl) (by kernel_rfl) (by kernel_rfl) (fun _ _ _ h => h) (Or.inl ⟨by rfl, fun w => ?_⟩) ?_
      · go_simp
      refine wpAny_take (i := 11) (v := .bool false) rfl (by kernel_rfl) (by kernel_rfl) (by kernel_rfl) (fun _ _ _ h => h) (Or.inl ⟨by rfl, fun w => ?_⟩) ?_
      · go_simp
      refine wpAny_done (by kernel_rfl) ?_ _
      go_wp2
      go_ret
      exact ⟨by rw [HX.out]; rfl, below_then hb1.drew (Nat.le_refl _) hb3⟩
    · go_simp
      refine hK _ _ ?_
      clear hK K
      refine wpAny_ready (rs := [4, 8]) (by kernel_rfl) (by simp) ?_
      refine AllReady.cons rfl (fun K hK => ?_) (AllReady.cons rfl (fun K hK => ?_) AllReady.nil)
      · go_simp
        refine hK _ _ ?_
        clear hK K
        refine wpAny_ready (rs := [8]) (by kernel_rfl) (by simp) ?_
        refine AllReady.cons rfl (fun K hK => ?_) AllReady.nil
        go_simp
        refine hK _ _ ?_
        clear hK K
        refine wpAny_take (i := 9) (v := undef) rfl (by kernel_rfl) (by kernel_rfl) (by kernel_rfl) (fun _ _ _ h => h) (Or.inr ⟨by rfl, rfl⟩) ?_
        refine wpAny_take (i := 10) (v := .bool false) rfl (by kernel_rfl) (by kernel_rfl) (by kernel_rfl) (fun _ _ _ h => h) (Or.inl ⟨by rfl, fun w => ?_⟩) ?_
        · go_simp
        refine wpAny_take (i := 11) (v := .bool false) rfl (by kernel_rfl) (by kernel_rfl) (by kernel_rfl) (fun _ _ _ h => h) (Or.inl ⟨by rfl, fun w => ?_⟩) ?_
        · go_simp
        refine wpAny_done (by kernel_rfl) ?_ _
        go_wp2
        go_ret
        exact ⟨by rw [HX.out]; rfl, below_then hb1.drew (Nat.le_refl _) hb3⟩
      · go_simp
        refine hK _ _ ?_
        clear hK K
        refine wpAny_ready (rs := [4]) (by kernel_rfl) (by simp) ?_
        refine AllReady.cons rfl (fun K hK => ?_) AllReady.nil
        go_simp
        refine hK _ _ ?_
        clear hK K
        refine wpAny_take (i := 9) (v := undef) rfl (by kernel_rfl) (by kernel_rfl) (by kernel_rfl) (fun _ _ _ h => h) (Or.inr ⟨by rfl, rfl⟩) ?_
        refine wpAny_take (i := 10) (v := .bool false) rfl (by kernel_rfl) (by kernel_rfl) (by kernel_rfl) (fun _ _ _ h => h) (Or.inl ⟨by rfl, fun w => ?_⟩) ?_
        · go_simp
        refine wpAny_take (i := 11) (v := .bool false) rfl (by kernel_rfl) (by kernel_rfl) (by kernel_rfl) (fun _ _ _ h => h) (Or.inl ⟨by rfl, fun w => ?_⟩) ?_
        · go_simp
        refine wpAny_done (by kernel_rfl) ?_ _
        go_wp2
        go_ret
        exact ⟨by rw [HX.out]; rfl, below_then hb1.drew (Nat.le_refl _) hb3⟩
  · go_enter Tryd.func49, Tryd.ntmps49
    go_wp2_with fail
    have q0 : (World.drew (w.alloc (.cells #[.int .i64 sc, .int .i64 sn] 24))).cell? ⟨w.heap.size, 0, none⟩ = some (.int .i64 sc) := hB.cell 0
    have q1 : (World.drew (w.alloc (.cells #[.int .i64 sc, .int .i64 sn] 24))).cell? ⟨w.heap.size, 1, none⟩ = some (.int .i64 sn) := hB.cell 1
    refine region_nrm fun K hK => ?_
    go_region_held3 (fun w' => w'.cell? ⟨w.heap.size, 0, none⟩ = some (.int .i64 sc) ∧ w'.cell? ⟨w.heap.size, 1, none⟩ = some (.int .i64 sn)) (first | exact ⟨q4, q5⟩ | exact ⟨q2, q3⟩ | exact ⟨q0, q1⟩ | go_keep) (first
      | (go_at_call 48; go_must (refine (HR1.out _).mono ?_); rintro e w3 ⟨rfl, hb3⟩; have hb4 := below_then hb1.drew (Nat.le_refl _) hb3; have q2 := (hb3.cell (p := ⟨w.heap.size, 0, none⟩) (by simp)).trans q0; have q3 := (hb3.cell (p := ⟨w.heap.size, 1, none⟩) (by simp)).trans q1)
      | (go_at_call 70; go_must (refine (H2.out _ (HR.out.go hb4)).mono ?_); rintro e w4 ⟨rfl, hb5⟩; have hb6 := below_then hb4 (Nat.le_refl _) hb5; have q4 := (hb5.cell (p := ⟨w.heap.size, 0, none⟩) (World.block_lt_of_cell? _ _ q2)).trans q2; have q5 := (hb5.cell (p := ⟨w.heap.size, 1, none⟩) (World.block_lt_of_cell? _ _ q3)).trans q3))
    refine Nrm.out (hK _ _ ?_)
    go_wp2
    go_ret
    exact ⟨ret_bool (by rw [HX.out]; simp), hb6⟩

theorem dec_drop {u v : List Vc.St} {k : Nat} (h1 : k < u.length) (h2 : k < v.length) (h : u[k] = v[k]) : decide (u.drop k = v.drop k) = decide (u.drop (k + 1) = v.drop (k + 1)) := by
  refine decide_eq_decide.2 ?_
  rw [List.drop_eq_getElem_cons h1, List.drop_eq_getElem_cons h2, h]
  exact ⟨fun e => (List.cons.inj e).2, fun e => by rw [e]⟩

set_option maxHeartbeats 2000000 in
theorem same_any (A D : Option Addr) (n c m d : Nat) (u v : List Vc.St) (w : World) (hl : u.length = n) (hl2 : v.length = m) (hR : Rd w w.heap.size 2 A n c (sv u)) (hR2 : Rd w w.heap.size 2 D m d (sv v)) :
    Calls Tryd.prog 15 #[.slice A n c, .slice D m d] w fun e w' => e = .returned (.bool (decide (u = v))) ∧ Below w.heap.size w w' := by
  have hmax : n ≤ 9223372036854775807 := by have h1 := hR.cap; have h2 := hR.max; unfold maxLen at h2; omega
  by_cases hnm : n = m
  · subst hnm
    go_enter Tryd.func15, Tryd.ntmps15
    go_wp2
    go_loopw [5] (fun i wr => ∃ (k : Nat), k ≤ n ∧ i = .int .i64 k ∧ decide (u = v) = decide (u.drop k = v.drop k) ∧ Below w.heap.size w wr) (fun i _ => n - (intOf i).toNat)
    case atStart => exact ⟨0, by omega, rfl, rfl, Below.refl _ _⟩
    case round =>
      obtain ⟨k, hk, rfl, hdd, hb⟩ := hrel
      by_cases hlt : k < n
      · have hk1 : k < u.length := by omega
        have hk2 : k < v.length := by omega
        obtain ⟨b, o, rfl, hab, h0, h1⟩ := (hR.below hb).stamp hl hlt
        obtain ⟨b2, o2, rfl, hab2, h02, h12⟩ := (hR2.below hb).stamp hl2 hlt
        have HD := Lib.hid hdd
        have HE := Lib.hid (show u[k] = ((u[k]'hk1).1, (u[k]'hk1).2) from rfl)
        have HE2 := Lib.hid (show v[k] = ((v[k]'hk2).1, (v[k]'hk2).2) from rfl)
        generalize (u[k]'hk1).1 = sc at h0 HE
        generalize (u[k]'hk1).2 = sn at h1 HE
        generalize (v[k]'hk2).1 = tc at h02 HE2
        generalize (v[k]'hk2).2 = tn at h12 HE2
        have HB := Lib.hid hb
        clear hdd hb hR hR2
        by_cases e1 : sc = tc
        · subst e1
          by_cases e2 : sn = tn
          · subst e2
            have HN := Lib.hid (dec_drop hk1 hk2 (by rw [HE.out, HE2.out]))
            go_wp2
            go_quiet (fail)
            go_wp2
            go_roundw
            case rel => exact ⟨k + 1, by omega, by go_num, by rw [HD.out, HN.out], below_drewN HB.out _⟩
            case measure => simp [intOf]; omega
          · have HN := Lib.hid (show decide (u = v) = false by
              rw [decide_eq_false_iff_not]; intro h; subst h; exact e2 (congrArg Prod.snd (HE.out.symm.trans HE2.out)))
            go_wp2
            go_quiet (fail)
            go_wp2
            go_ret
            exact ⟨by rw [HN.out]; rfl, below_drewN HB.out _⟩
        · have HN := Lib.hid (show decide (u = v) = false by
            rw [decide_eq_false_iff_not]; intro h; subst h; exact e1 (congrArg Prod.fst (HE.out.symm.trans HE2.out)))
          go_wp2
          go_quiet (fail)
          go_wp2
          go_ret
          exact ⟨by rw [HN.out]; rfl, below_drewN HB.out _⟩
      · obtain rfl : k = n := by omega
        have HX := Lib.hid (show decide (u = v) = true by rw [hdd, List.drop_of_length_le (by omega), List.drop_of_length_le (by omega)]; simp)
        clear hdd
        go_wp2
        go_ret
        exact ⟨by rw [HX.out]; rfl, hb⟩
  · have HN := Lib.hid (show decide (u = v) = false by rw [decide_eq_false_iff_not]; intro h; subst h; omega)
    have hne : ¬ ((n : Int) = (m : Int)) := by omega
    go_enter Tryd.func15, Tryd.ntmps15
    go_wp2
    all_goals first
      | (exfalso; omega)
      | (go_ret; exact ⟨by rw [HN.out]; rfl, Below.refl _ _⟩)
end Go.Proofs.YtldcgmnfohhjbaaDoor
