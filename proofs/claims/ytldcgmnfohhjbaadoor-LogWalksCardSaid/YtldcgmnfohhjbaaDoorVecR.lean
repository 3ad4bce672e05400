/- Walks over the document's Formed. -/
import Derived.Test.YtldcgmnfohhjbaaDoorVecQ
namespace Go.Proofs.YtldcgmnfohhjbaaDoor
open Go.RowKit
set_option maxRecDepth 100000

theorem wpAny_putD {P : Program} {ops : Array Oper} {Q : Exit → Act → World → Prop} {md : Region.Mode} {i d : Nat} {oi : Oper} {v : Value} {fuel : Nat} {listed : Array Bool} {a : Act} {w : World} (hi : ops[i]? = some oi) (hd : oi.dst = some d)
    (hs : Region.noSelect ops = true) (hf : Region.free md ops listed i = true) (hr : (Region.ready md ops listed).contains i = true)
    (hQ : ∀ c a w, Q (.panic c) (a.put oi.dst v) w → Q (.panic c) a w) (hy : Yields P ops oi v a)
    (h : wpAny P md ops Q fuel (listed.setIfInBounds i true) { tmps := a.tmps.setIfInBounds d v, defers := a.defers } w) : wpAny P md ops Q (fuel + 1) listed a w :=
  wpAny_take hi hs hf hr hQ hy (by rw [hd]; exact h)

/-- The node ahead. -/
def ahead (v : List Vc.St) (k : Nat) : Int := if h : k ≠ 0 ∧ k - 1 < v.length then (v[k - 1]'h.2).2 else -1
theorem ahead_next (v : List Vc.St) (k : Nat) (h : k < v.length) : ahead v (k + 1) = v[k].2 := by
  unfold ahead
  rw [dif_pos ⟨by omega, by simpa using h⟩]
  simp

set_option maxHeartbeats 4000000 in
theorem refFormed_any (A : Option Addr) (n c : Nat) (v : List Vc.St) (w : World) (hl : v.length = n) (hR : Rd w w.heap.size 2 A n c (sv v)) :
    Calls Tryd.prog 47 #[.slice A n c] w fun e w' => e = .returned (.bool (fm (-1) v)) ∧ Below w.heap.size w w' := by
  have hmax : n ≤ 9223372036854775807 := by have h1 := hR.cap; have h2 := hR.max; unfold maxLen at h2; omega
  go_enter Tryd.func47, Tryd.ntmps47
  go_wp2
  go_loopw [3] (fun i wr => ∃ (k : Nat), k ≤ n ∧ i = .int .i64 k ∧ fm (-1) v = fm (ahead v k) (v.drop k) ∧ Below w.heap.size w wr) (fun i _ => n - (intOf i).toNat)
  case atStart => exact ⟨0, by omega, rfl, rfl, Below.refl _ _⟩
  case round =>
    obtain ⟨k, hk, rfl, hfm, hb⟩ := hrel
    by_cases hlt : k < n
    · have hkv : k < v.length := by omega
      have hRb := hR.below hb
      obtain ⟨b, o, rfl, hab, h0, h1⟩ := hRb.stamp hl hlt
      have HF := Lib.hid (hfm.trans (fm_drop (ahead v k) v k hkv))
      have HA := Lib.hid (ahead_next v k hkv)
      generalize hs1 : (v[k]'hkv).1 = sc at h0
      generalize hs2 : (v[k]'hkv).2 = sn at h1
      have HE := Lib.hid (show v[k]'hkv = (sc, sn) by rw [← hs1, ← hs2])
      have HB := Lib.hid hb
      have HX0 := Lib.hid (show fm (-1) v = (Vc.right (sc, sn) && (decide (ahead v k < sn) && fm (ahead v (k + 1)) (v.drop (k + 1)))) by
        have h3 := HF.out
        have h4 := HA.out
        rw [HE.out] at h3 h4
        rw [h4]
        exact h3)
      have hRt := refRight_any sc sn
      have HRI := Lib.hid (Vc.right_iff (sc, sn))
      have q0 : (World.drew wr).cell? ⟨b, o + k * 2, none⟩ = some (.int .i64 sc) := h0
      have q1 : (World.drew wr).cell? ⟨b, o + k * 2 + 1, none⟩ = some (.int .i64 sn) := h1
      clear hs1 hs2 hb hfm HF
      rcases hr : Vc.right (sc, sn) with _ | _
      · have HX := Lib.hid (show fm (-1) v = false by rw [HX0.out, hr]; rfl)
        rw [hr] at hRt
        have HRt := Lib.hid hRt
        clear hr hRt hR hRb HX0
        go_wp2
        refine wp_region_any (by kernel_rfl) ?_
        change wpAny _ _ _ _ _ _ _ (World.drew _)
        refine wpAny_putD (i := 0) (d := 10) (v := .slice (some ⟨b, o, none⟩) n c) rfl rfl (by kernel_rfl) (by kernel_rfl) (by kernel_rfl) (fun _ _ _ h => h) (Or.inl ⟨by kernel_rfl, fun w => ?_⟩) ?_
        · go_simp
        refine wpAny_putD (i := 1) (d := 11) (v := .int .i64 (k : Int)) rfl rfl (by kernel_rfl) (by kernel_rfl) (by kernel_rfl) (fun _ _ _ h => h) (Or.inl ⟨by kernel_rfl, fun w => ?_⟩) ?_
        · go_simp
        refine wpAny_putD (i := 2) (d := 12) (v := .pointer (some ⟨b, o + k * 2, none⟩)) rfl rfl (by kernel_rfl) (by kernel_rfl) (by kernel_rfl) (fun _ _ _ h => h) (Or.inl ⟨by kernel_rfl, fun w => ?_⟩) ?_
        · go_simp
          try omega
          try (intro h; omega)
        refine wpAny_ready (rs := [3]) (by kernel_rfl) (by simp) ?_
        refine AllReady.cons rfl (fun K hK => ?_) AllReady.nil
        go_simp
        refine hK _ _ ?_
        clear hK K
        refine wpAny_ready (rs := [4]) (by kernel_rfl) (by simp) ?_
        refine AllReady.cons rfl (fun K hK => ?_) AllReady.nil
        go_simp
        refine (HRt.out _).mono ?_
        rintro e w3 ⟨rfl, hb3⟩
        refine hK _ _ ?_
        clear hK K
        refine wpAny_putD (i := 5) (d := 15) (v := .bool true) rfl rfl (by kernel_rfl) (by kernel_rfl) (by kernel_rfl) (fun _ _ _ h => h) (Or.inl ⟨by kernel_rfl, fun w => ?_⟩) ?_
        · go_simp
        refine wpAny_putD (i := 6) (d := 16) (v := .bool true) rfl rfl (by kernel_rfl) (by kernel_rfl) (by kernel_rfl) (fun _ _ _ h => h) (Or.inl ⟨by kernel_rfl, fun w => ?_⟩) ?_
        · go_simp
        refine wpAny_putD (i := 7) (d := 17) (v := undef) rfl rfl (by kernel_rfl) (by kernel_rfl) (by kernel_rfl) (fun _ _ _ h => h) (Or.inr ⟨by kernel_rfl, rfl⟩) ?_
        simp only [List.setIfInBounds_toArray, List.set_cons_zero, List.set_cons_succ]
        refine wpAny_putD (i := 8) (d := 18) (v := undef) rfl rfl (by kernel_rfl) (by kernel_rfl) (by kernel_rfl) (fun _ _ _ h => h) (Or.inr ⟨by kernel_rfl, rfl⟩) ?_
        simp only [List.setIfInBounds_toArray, List.set_cons_zero, List.set_cons_succ]
        refine wpAny_putD (i := 9) (d := 19) (v := undef) rfl rfl (by kernel_rfl) (by kernel_rfl) (by kernel_rfl) (fun _ _ _ h => h) (Or.inr ⟨by kernel_rfl, rfl⟩) ?_
        simp only [List.setIfInBounds_toArray, List.set_cons_zero, List.set_cons_succ]
        refine wpAny_putD (i := 10) (d := 20) (v := undef) rfl rfl (by kernel_rfl) (by kernel_rfl) (by kernel_rfl) (fun _ _ _ h => h) (Or.inr ⟨by kernel_rfl, rfl⟩) ?_
        simp only [List.setIfInBounds_toArray, List.set_cons_zero, List.set_cons_succ]
        refine wpAny_putD (i := 11) (d := 21) (v := undef) rfl rfl (by kernel_rfl) (by kernel_rfl) (by kernel_rfl) (fun _ _ _ h => h) (Or.inr ⟨by kernel_rfl, rfl⟩) ?_
        simp only [List.setIfInBounds_toArray, List.set_cons_zero, List.set_cons_succ]
        refine wpAny_putD (i := 12) (d := 22) (v := undef) rfl rfl (by kernel_rfl) (by kernel_rfl) (by kernel_rfl) (fun _ _ _ h => h) (Or.inr ⟨by kernel_rfl, rfl⟩) ?_
        simp only [List.setIfInBounds_toArray, List.set_cons_zero, List.set_cons_succ]
        refine wpAny_putD (i := 13) (d := 23) (v := undef) rfl rfl (by kernel_rfl) (by kernel_rfl) (by kernel_rfl) (fun _ _ _ h => h) (Or.inr ⟨by kernel_rfl, rfl⟩) ?_
        simp only [List.setIfInBounds_toArray, List.set_cons_zero, List.set_cons_succ]
        refine wpAny_putD (i := 14) (d := 24) (v := undef) rfl rfl (by kernel_rfl) (by kernel_rfl) (by kernel_rfl) (fun _ _ _ h => h) (Or.inr ⟨by kernel_rfl, rfl⟩) ?_
        simp only [List.setIfInBounds_toArray, List.set_cons_zero, List.set_cons_succ]
        refine wpAny_putD (i := 15) (d := 25) (v := undef) rfl rfl (by kernel_rfl) (by kernel_rfl) (by kernel_rfl) (fun _ _ _ h => h) (Or.inr ⟨by kernel_rfl, rfl⟩) ?_
        simp only [List.setIfInBounds_toArray, List.set_cons_zero, List.set_cons_succ]
        refine wpAny_putD (i := 16) (d := 26) (v := undef) rfl rfl (by kernel_rfl) (by kernel_rfl) (by kernel_rfl) (fun _ _ _ h => h) (Or.inr ⟨by kernel_rfl, rfl⟩) ?_
        simp only [List.setIfInBounds_toArray, List.set_cons_zero, List.set_cons_succ]
        refine wpAny_putD (i := 17) (d := 27) (v := undef) rfl rfl (by kernel_rfl) (by kernel_rfl) (by kernel_rfl) (fun _ _ _ h => h) (Or.inr ⟨by kernel_rfl, rfl⟩) ?_
        simp only [List.setIfInBounds_toArray, List.set_cons_zero, List.set_cons_succ]
        refine wpAny_putD (i := 18) (d := 28) (v := undef) rfl rfl (by kernel_rfl) (by kernel_rfl) (by kernel_rfl) (fun _ _ _ h => h) (Or.inr ⟨by kernel_rfl, rfl⟩) ?_
        simp only [List.setIfInBounds_toArray, List.set_cons_zero, List.set_cons_succ]
        refine wpAny_putD (i := 19) (d := 29) (v := undef) rfl rfl (by kernel_rfl) (by kernel_rfl) (by kernel_rfl) (fun _ _ _ h => h) (Or.inr ⟨by kernel_rfl, rfl⟩) ?_
        simp only [List.setIfInBounds_toArray, List.set_cons_zero, List.set_cons_succ]
        refine wpAny_putD (i := 20) (d := 30) (v := undef) rfl rfl (by kernel_rfl) (by kernel_rfl) (by kernel_rfl) (fun _ _ _ h => h) (Or.inr ⟨by kernel_rfl, rfl⟩) ?_
        simp only [List.setIfInBounds_toArray, List.set_cons_zero, List.set_cons_succ]
        refine wpAny_putD (i := 21) (d := 31) (v := undef) rfl rfl (by kernel_rfl) (by kernel_rfl) (by kernel_rfl) (fun _ _ _ h => h) (Or.inr ⟨by kernel_rfl, rfl⟩) ?_
        simp only [List.setIfInBounds_toArray, List.set_cons_zero, List.set_cons_succ]
        refine wpAny_putD (i := 22) (d := 32) (v := undef) rfl rfl (by kernel_rfl) (by kernel_rfl) (by kernel_rfl) (fun _ _ _ h => h) (Or.inr ⟨by kernel_rfl, rfl⟩) ?_
        simp only [List.setIfInBounds_toArray, List.set_cons_zero, List.set_cons_succ]
        refine wpAny_putD (i := 23) (d := 33) (v := .bool true) rfl rfl (by kernel_rfl) (by kernel_rfl) (by kernel_rfl) (fun _ _ _ h => h) (Or.inl ⟨by kernel_rfl, fun w => ?_⟩) ?_
        · go_simp
        refine wpAny_done (by kernel_rfl) ?_ _
        go_wp2
        go_ret
        exact ⟨by rw [HX.out]; rfl, below_then HB.out.drew (Nat.le_refl _) hb3⟩
      · have HX1 := Lib.hid (show fm (-1) v = (decide (ahead v k < sn) && fm (ahead v (k + 1)) (v.drop (k + 1))) by rw [HX0.out, hr]; rfl)
        have hsn : 0 ≤ sn := (HRI.out.1 hr).2.1
        have HSN := Lib.hid hsn
        rw [hr] at hRt
        have HRt := Lib.hid hRt
        clear hr hRt HX0 hsn
        by_cases hk0 : k = 0
        · have HX := Lib.hid (show fm (-1) v = fm (ahead v (k + 1)) (v.drop (k + 1)) by
            rw [HX1.out]
            have : decide (ahead v k < sn) = true := by
              have e : ahead v k = -1 := by unfold ahead; rw [dif_neg (by omega)]
              have := HSN.out
              rw [e]; simp; omega
            rw [this]; rfl)
          subst hk0
          have p0 : (World.drew wr).cell? ⟨b, o, none⟩ = some (.int .i64 sc) := by simpa using q0
          have p1 : (World.drew wr).cell? ⟨b, o + 1, none⟩ = some (.int .i64 sn) := by simpa using q1
          clear hR hRb HX1 q0 q1 h0 h1
          go_wp2
          refine wp_region_any (by kernel_rfl) ?_
          change wpAny _ _ _ _ _ _ _ (World.drew _)
          refine wpAny_putD (i := 0) (d := 10) (v := .slice (some ⟨b, o, none⟩) n c) rfl rfl (by kernel_rfl) (by kernel_rfl) (by kernel_rfl) (fun _ _ _ h => h) (Or.inl ⟨by kernel_rfl, fun w => ?_⟩) ?_
          · go_simp
          refine wpAny_putD (i := 1) (d := 11) (v := .int .i64 0) rfl rfl (by kernel_rfl) (by kernel_rfl) (by kernel_rfl) (fun _ _ _ h => h) (Or.inl ⟨by kernel_rfl, fun w => ?_⟩) ?_
          · go_simp
          refine wpAny_putD (i := 2) (d := 12) (v := .pointer (some ⟨b, o, none⟩)) rfl rfl (by kernel_rfl) (by kernel_rfl) (by kernel_rfl) (fun _ _ _ h => h) (Or.inl ⟨by kernel_rfl, fun w => ?_⟩) ?_
          · go_simp
            try omega
            try (intro h; omega)
          refine wpAny_ready (rs := [3]) (by kernel_rfl) (by simp) ?_
          refine AllReady.cons rfl (fun K hK => ?_) AllReady.nil
          go_simp
          refine hK _ _ ?_
          clear hK K
          refine wpAny_ready (rs := [4]) (by kernel_rfl) (by simp) ?_
          refine AllReady.cons rfl (fun K hK => ?_) AllReady.nil
          go_simp
          refine (HRt.out _).mono ?_
          rintro e w3 ⟨rfl, hb3⟩
          refine hK _ _ ?_
          clear hK K
          refine wpAny_putD (i := 5) (d := 15) (v := .bool false) rfl rfl (by kernel_rfl) (by kernel_rfl) (by kernel_rfl) (fun _ _ _ h => h) (Or.inl ⟨by kernel_rfl, fun w => ?_⟩) ?_
          · go_simp
          refine wpAny_putD (i := 6) (d := 16) (v := .bool false) rfl rfl (by kernel_rfl) (by kernel_rfl) (by kernel_rfl) (fun _ _ _ h => h) (Or.inl ⟨by kernel_rfl, fun w => ?_⟩) ?_
          · go_simp
          refine wpAny_putD (i := 7) (d := 17) (v := .int .i64 0) rfl rfl (by kernel_rfl) (by kernel_rfl) (by kernel_rfl) (fun _ _ _ h => h) (Or.inl ⟨by kernel_rfl, fun w => ?_⟩) ?_
          · go_simp
          refine wpAny_putD (i := 8) (d := 18) (v := .bool false) rfl rfl (by kernel_rfl) (by kernel_rfl) (by kernel_rfl) (fun _ _ _ h => h) (Or.inl ⟨by kernel_rfl, fun w => ?_⟩) ?_
          · go_simp
          refine wpAny_putD (i := 9) (d := 19) (v := .bool false) rfl rfl (by kernel_rfl) (by kernel_rfl) (by kernel_rfl) (fun _ _ _ h => h) (Or.inl ⟨by kernel_rfl, fun w => ?_⟩) ?_
          · go_simp
          refine wpAny_putD (i := 10) (d := 20) (v := undef) rfl rfl (by kernel_rfl) (by kernel_rfl) (by kernel_rfl) (fun _ _ _ h => h) (Or.inr ⟨by kernel_rfl, rfl⟩) ?_
          simp only [List.setIfInBounds_toArray, List.set_cons_zero, List.set_cons_succ]
          refine wpAny_putD (i := 11) (d := 21) (v := undef) rfl rfl (by kernel_rfl) (by kernel_rfl) (by kernel_rfl) (fun _ _ _ h => h) (Or.inr ⟨by kernel_rfl, rfl⟩) ?_
          simp only [List.setIfInBounds_toArray, List.set_cons_zero, List.set_cons_succ]
          refine wpAny_putD (i := 12) (d := 22) (v := undef) rfl rfl (by kernel_rfl) (by kernel_rfl) (by kernel_rfl) (fun _ _ _ h => h) (Or.inr ⟨by kernel_rfl, rfl⟩) ?_
          simp only [List.setIfInBounds_toArray, List.set_cons_zero, List.set_cons_succ]
          refine wpAny_putD (i := 13) (d := 23) (v := undef) rfl rfl (by kernel_rfl) (by kernel_rfl) (by kernel_rfl) (fun _ _ _ h => h) (Or.inr ⟨by kernel_rfl, rfl⟩) ?_
          simp only [List.setIfInBounds_toArray, List.set_cons_zero, List.set_cons_succ]
          refine wpAny_putD (i := 14) (d := 24) (v := undef) rfl rfl (by kernel_rfl) (by kernel_rfl) (by kernel_rfl) (fun _ _ _ h => h) (Or.inr ⟨by kernel_rfl, rfl⟩) ?_
          simp only [List.setIfInBounds_toArray, List.set_cons_zero, List.set_cons_succ]
          refine wpAny_putD (i := 15) (d := 25) (v := undef) rfl rfl (by kernel_rfl) (by kernel_rfl) (by kernel_rfl) (fun _ _ _ h => h) (Or.inr ⟨by kernel_rfl, rfl⟩) ?_
          simp only [List.setIfInBounds_toArray, List.set_cons_zero, List.set_cons_succ]
          refine wpAny_putD (i := 16) (d := 26) (v := undef) rfl rfl (by kernel_rfl) (by kernel_rfl) (by kernel_rfl) (fun _ _ _ h => h) (Or.inr ⟨by kernel_rfl, rfl⟩) ?_
          simp only [List.setIfInBounds_toArray, List.set_cons_zero, List.set_cons_succ]
          refine wpAny_putD (i := 17) (d := 27) (v := undef) rfl rfl (by kernel_rfl) (by kernel_rfl) (by kernel_rfl) (fun _ _ _ h => h) (Or.inr ⟨by kernel_rfl, rfl⟩) ?_
          simp only [List.setIfInBounds_toArray, List.set_cons_zero, List.set_cons_succ]
          refine wpAny_putD (i := 18) (d := 28) (v := undef) rfl rfl (by kernel_rfl) (by kernel_rfl) (by kernel_rfl) (fun _ _ _ h => h) (Or.inr ⟨by kernel_rfl, rfl⟩) ?_
          simp only [List.setIfInBounds_toArray, List.set_cons_zero, List.set_cons_succ]
          refine wpAny_putD (i := 19) (d := 29) (v := undef) rfl rfl (by kernel_rfl) (by kernel_rfl) (by kernel_rfl) (fun _ _ _ h => h) (Or.inr ⟨by kernel_rfl, rfl⟩) ?_
          simp only [List.setIfInBounds_toArray, List.set_cons_zero, List.set_cons_succ]
          refine wpAny_putD (i := 20) (d := 30) (v := undef) rfl rfl (by kernel_rfl) (by kernel_rfl) (by kernel_rfl) (fun _ _ _ h => h) (Or.inr ⟨by kernel_rfl, rfl⟩) ?_
          simp only [List.setIfInBounds_toArray, List.set_cons_zero, List.set_cons_succ]
          refine wpAny_putD (i := 21) (d := 31) (v := undef) rfl rfl (by kernel_rfl) (by kernel_rfl) (by kernel_rfl) (fun _ _ _ h => h) (Or.inr ⟨by kernel_rfl, rfl⟩) ?_
          simp only [List.setIfInBounds_toArray, List.set_cons_zero, List.set_cons_succ]
          refine wpAny_putD (i := 22) (d := 32) (v := .bool false) rfl rfl (by kernel_rfl) (by kernel_rfl) (by kernel_rfl) (fun _ _ _ h => h) (Or.inl ⟨by kernel_rfl, fun w => ?_⟩) ?_
          · go_simp
          refine wpAny_putD (i := 23) (d := 33) (v := .bool false) rfl rfl (by kernel_rfl) (by kernel_rfl) (by kernel_rfl) (fun _ _ _ h => h) (Or.inl ⟨by kernel_rfl, fun w => ?_⟩) ?_
          · go_simp
          refine wpAny_done (by kernel_rfl) ?_ _
          go_wp2
          go_roundw
          case rel => exact ⟨0 + 1, by omega, by go_num, HX.out, below_then HB.out.drew (Nat.le_refl _) hb3⟩
          case measure => simp [intOf]; omega
        · have hR2 := hRb
          obtain ⟨b', o', hA2, _, _, hp1⟩ := hR2.stamp hl (show k - 1 < n by omega)
          injection hA2 with hA2
          injection hA2 with hb' ho' _
          subst hb' ho'
          have hah : ahead v k = (v[k - 1]'(by omega)).2 := by unfold ahead; rw [dif_pos ⟨hk0, by omega⟩]
          rw [← hah] at hp1
          generalize ahead v k = sl at hp1 HX1
          have q2 : (World.drew wr).cell? ⟨b, o + (k - 1) * 2 + 1, none⟩ = some (.int .i64 sl) := hp1
          have hw : IntKind.i64.wrap ((k : Int) - 1) = ((k - 1 : Nat) : Int) := by rw [IntKind.wrap_i64]; omega
          have hkp : (0 : Int) < (k : Int) := by omega
          have hk1 : ((k - 1 : Nat) : Int) < (n : Int) := by omega
          clear hR hRb hah hp1 hR2 h0 h1
          by_cases hle : sn ≤ sl
          · have HX := Lib.hid (show fm (-1) v = false by
              rw [HX1.out]
              rw [show decide (sl < sn) = false by simp; omega]
              rfl)
            clear HX1
            go_wp2
            refine wp_region_any (by kernel_rfl) ?_
            change wpAny _ _ _ _ _ _ _ (World.drew _)
            refine wpAny_putD (i := 0) (d := 10) (v := .slice (some ⟨b, o, none⟩) n c) rfl rfl (by kernel_rfl) (by kernel_rfl) (by kernel_rfl) (fun _ _ _ h => h) (Or.inl ⟨by kernel_rfl, fun w => ?_⟩) ?_
            · go_simp
            refine wpAny_putD (i := 1) (d := 11) (v := .int .i64 (k : Int)) rfl rfl (by kernel_rfl) (by kernel_rfl) (by kernel_rfl) (fun _ _ _ h => h) (Or.inl ⟨by kernel_rfl, fun w => ?_⟩) ?_
            · go_simp
            refine wpAny_putD (i := 2) (d := 12) (v := .pointer (some ⟨b, o + k * 2, none⟩)) rfl rfl (by kernel_rfl) (by kernel_rfl) (by kernel_rfl) (fun _ _ _ h => h) (Or.inl ⟨by kernel_rfl, fun w => ?_⟩) ?_
            · go_simp
              try omega
              try (intro h; omega)
            refine wpAny_ready (rs := [3]) (by kernel_rfl) (by simp) ?_
            refine AllReady.cons rfl (fun K hK => ?_) AllReady.nil
            go_simp
            refine hK _ _ ?_
            clear hK K
            refine wpAny_ready (rs := [4]) (by kernel_rfl) (by simp) ?_
            refine AllReady.cons rfl (fun K hK => ?_) AllReady.nil
            go_simp
            refine (HRt.out _).mono ?_
            rintro e w3 ⟨rfl, hb3⟩
            have hb4 := below_then HB.out.drew (Nat.le_refl _) hb3
            have q4 := (hb3.cell (World.block_lt_of_cell? _ _ q1)).trans q1
            have q5 := (hb3.cell (World.block_lt_of_cell? _ _ q2)).trans q2
            refine hK _ _ ?_
            clear hK K
            refine wpAny_putD (i := 5) (d := 15) (v := .bool false) rfl rfl (by kernel_rfl) (by kernel_rfl) (by kernel_rfl) (fun _ _ _ h => h) (Or.inl ⟨by kernel_rfl, fun w => ?_⟩) ?_
            · go_simp
            refine wpAny_putD (i := 6) (d := 16) (v := .bool false) rfl rfl (by kernel_rfl) (by kernel_rfl) (by kernel_rfl) (fun _ _ _ h => h) (Or.inl ⟨by kernel_rfl, fun w => ?_⟩) ?_
            · go_simp
            refine wpAny_putD (i := 7) (d := 17) (v := .int .i64 (k : Int)) rfl rfl (by kernel_rfl) (by kernel_rfl) (by kernel_rfl) (fun _ _ _ h => h) (Or.inl ⟨by kernel_rfl, fun w => ?_⟩) ?_
            · go_simp
            refine wpAny_putD (i := 8) (d := 18) (v := .bool true) rfl rfl (by kernel_rfl) (by kernel_rfl) (by kernel_rfl) (fun _ _ _ h => h) (Or.inl ⟨by kernel_rfl, fun w => ?_⟩) ?_
            · go_simp
              try omega
              try (intro h; omega)
            refine wpAny_putD (i := 9) (d := 19) (v := .bool true) rfl rfl (by kernel_rfl) (by kernel_rfl) (by kernel_rfl) (fun _ _ _ h => h) (Or.inl ⟨by kernel_rfl, fun w => ?_⟩) ?_
            · go_simp
            refine wpAny_putD (i := 10) (d := 20) (v := .slice (some ⟨b, o, none⟩) n c) rfl rfl (by kernel_rfl) (by kernel_rfl) (by kernel_rfl) (fun _ _ _ h => h) (Or.inl ⟨by kernel_rfl, fun w => ?_⟩) ?_
            · go_simp
            refine wpAny_putD (i := 11) (d := 21) (v := .int .i64 (k : Int)) rfl rfl (by kernel_rfl) (by kernel_rfl) (by kernel_rfl) (fun _ _ _ h => h) (Or.inl ⟨by kernel_rfl, fun w => ?_⟩) ?_
            · go_simp
            refine wpAny_putD (i := 12) (d := 22) (v := .int .i64 ((k - 1 : Nat) : Int)) rfl rfl (by kernel_rfl) (by kernel_rfl) (by kernel_rfl) (fun _ _ _ h => h) (Or.inl ⟨by kernel_rfl, fun w => ?_⟩) ?_
            · go_simp
              try omega
              try (intro h; omega)
            refine wpAny_putD (i := 13) (d := 23) (v := .pointer (some ⟨b, o + (k - 1) * 2, none⟩)) rfl rfl (by kernel_rfl) (by kernel_rfl) (by kernel_rfl) (fun _ _ _ h => h) (Or.inl ⟨by kernel_rfl, fun w => ?_⟩) ?_
            · go_simp
              try omega
              try (intro h; omega)
            refine wpAny_putD (i := 14) (d := 24) (v := .pointer (some ⟨b, o + (k - 1) * 2 + 1, none⟩)) rfl rfl (by kernel_rfl) (by kernel_rfl) (by kernel_rfl) (fun _ _ _ h => h) (Or.inl ⟨by kernel_rfl, fun w => ?_⟩) ?_
            · go_simp
            refine wpAny_putD (i := 16) (d := 26) (v := .slice (some ⟨b, o, none⟩) n c) rfl rfl (by kernel_rfl) (by kernel_rfl) (by kernel_rfl) (fun _ _ _ h => h) (Or.inl ⟨by kernel_rfl, fun w => ?_⟩) ?_
            · go_simp
            refine wpAny_putD (i := 17) (d := 27) (v := .int .i64 (k : Int)) rfl rfl (by kernel_rfl) (by kernel_rfl) (by kernel_rfl) (fun _ _ _ h => h) (Or.inl ⟨by kernel_rfl, fun w => ?_⟩) ?_
            · go_simp
            refine wpAny_putD (i := 18) (d := 28) (v := .pointer (some ⟨b, o + k * 2, none⟩)) rfl rfl (by kernel_rfl) (by kernel_rfl) (by kernel_rfl) (fun _ _ _ h => h) (Or.inl ⟨by kernel_rfl, fun w => ?_⟩) ?_
            · go_simp
              try omega
              try (intro h; omega)
            refine wpAny_putD (i := 19) (d := 29) (v := .pointer (some ⟨b, o + k * 2 + 1, none⟩)) rfl rfl (by kernel_rfl) (by kernel_rfl) (by kernel_rfl) (fun _ _ _ h => h) (Or.inl ⟨by kernel_rfl, fun w => ?_⟩) ?_
            · go_simp
            refine wpAny_ready (rs := [15, 20]) (by kernel_rfl) (by simp) ?_
            refine AllReady.cons rfl (fun K hK => ?_) (AllReady.cons rfl (fun K hK => ?_) AllReady.nil)
            · go_simp
              refine hK _ _ ?_
              clear hK K
              refine wpAny_ready (rs := [20]) (by kernel_rfl) (by simp) ?_
              refine AllReady.cons rfl (fun K hK => ?_) AllReady.nil
              go_simp
              refine hK _ _ ?_
              clear hK K
              refine wpAny_putD (i := 21) (d := 31) (v := .bool true) rfl rfl (by kernel_rfl) (by kernel_rfl) (by kernel_rfl) (fun _ _ _ h => h) (Or.inl ⟨by kernel_rfl, fun w => ?_⟩) ?_
              · go_simp
              refine wpAny_putD (i := 22) (d := 32) (v := .bool true) rfl rfl (by kernel_rfl) (by kernel_rfl) (by kernel_rfl) (fun _ _ _ h => h) (Or.inl ⟨by kernel_rfl, fun w => ?_⟩) ?_
              · go_simp
              refine wpAny_putD (i := 23) (d := 33) (v := .bool true) rfl rfl (by kernel_rfl) (by kernel_rfl) (by kernel_rfl) (fun _ _ _ h => h) (Or.inl ⟨by kernel_rfl, fun w => ?_⟩) ?_
              · go_simp
              refine wpAny_done (by kernel_rfl) ?_ _
              go_wp2
              go_ret
              exact ⟨by rw [HX.out]; rfl, hb4⟩
            · go_simp
              refine hK _ _ ?_
              clear hK K
              refine wpAny_ready (rs := [15]) (by kernel_rfl) (by simp) ?_
              refine AllReady.cons rfl (fun K hK => ?_) AllReady.nil
              go_simp
              refine hK _ _ ?_
              clear hK K
              refine wpAny_putD (i := 21) (d := 31) (v := .bool true) rfl rfl (by kernel_rfl) (by kernel_rfl) (by kernel_rfl) (fun _ _ _ h => h) (Or.inl ⟨by kernel_rfl, fun w => ?_⟩) ?_
              · go_simp
              refine wpAny_putD (i := 22) (d := 32) (v := .bool true) rfl rfl (by kernel_rfl) (by kernel_rfl) (by kernel_rfl) (fun _ _ _ h => h) (Or.inl ⟨by kernel_rfl, fun w => ?_⟩) ?_
              · go_simp
              refine wpAny_putD (i := 23) (d := 33) (v := .bool true) rfl rfl (by kernel_rfl) (by kernel_rfl) (by kernel_rfl) (fun _ _ _ h => h) (Or.inl ⟨by kernel_rfl, fun w => ?_⟩) ?_
              · go_simp
              refine wpAny_done (by kernel_rfl) ?_ _
              go_wp2
              go_ret
              exact ⟨by rw [HX.out]; rfl, hb4⟩
          · have HX := Lib.hid (show fm (-1) v = fm (ahead v (k + 1)) (v.drop (k + 1)) by
              rw [HX1.out]
              rw [show decide (sl < sn) = true by simp; omega]
              rfl)
            clear HX1
            go_wp2
            refine wp_region_any (by kernel_rfl) ?_
            change wpAny _ _ _ _ _ _ _ (World.drew _)
            refine wpAny_putD (i := 0) (d := 10) (v := .slice (some ⟨b, o, none⟩) n c) rfl rfl (by kernel_rfl) (by kernel_rfl) (by kernel_rfl) (fun _ _ _ h => h) (Or.inl ⟨by kernel_rfl, fun w => ?_⟩) ?_
            · go_simp
            refine wpAny_putD (i := 1) (d := 11) (v := .int .i64 (k : Int)) rfl rfl (by kernel_rfl) (by kernel_rfl) (by kernel_rfl) (fun _ _ _ h => h) (Or.inl ⟨by kernel_rfl, fun w => ?_⟩) ?_
            · go_simp
            refine wpAny_putD (i := 2) (d := 12) (v := .pointer (some ⟨b, o + k * 2, none⟩)) rfl rfl (by kernel_rfl) (by kernel_rfl) (by kernel_rfl) (fun _ _ _ h => h) (Or.inl ⟨by kernel_rfl, fun w => ?_⟩) ?_
            · go_simp
              try omega
              try (intro h; omega)
            refine wpAny_ready (rs := [3]) (by kernel_rfl) (by simp) ?_
            refine AllReady.cons rfl (fun K hK => ?_) AllReady.nil
            go_simp
            refine hK _ _ ?_
            clear hK K
            refine wpAny_ready (rs := [4]) (by kernel_rfl) (by simp) ?_
            refine AllReady.cons rfl (fun K hK => ?_) AllReady.nil
            go_simp
            refine (HRt.out _).mono ?_
            rintro e w3 ⟨rfl, hb3⟩
            have hb4 := below_then HB.out.drew (Nat.le_refl _) hb3
            have q4 := (hb3.cell (World.block_lt_of_cell? _ _ q1)).trans q1
            have q5 := (hb3.cell (World.block_lt_of_cell? _ _ q2)).trans q2
            refine hK _ _ ?_
            clear hK K
            refine wpAny_putD (i := 5) (d := 15) (v := .bool false) rfl rfl (by kernel_rfl) (by kernel_rfl) (by kernel_rfl) (fun _ _ _ h => h) (Or.inl ⟨by kernel_rfl, fun w => ?_⟩) ?_
            · go_simp
            refine wpAny_putD (i := 6) (d := 16) (v := .bool false) rfl rfl (by kernel_rfl) (by kernel_rfl) (by kernel_rfl) (fun _ _ _ h => h) (Or.inl ⟨by kernel_rfl, fun w => ?_⟩) ?_
            · go_simp
            refine wpAny_putD (i := 7) (d := 17) (v := .int .i64 (k : Int)) rfl rfl (by kernel_rfl) (by kernel_rfl) (by kernel_rfl) (fun _ _ _ h => h) (Or.inl ⟨by kernel_rfl, fun w => ?_⟩) ?_
            · go_simp
            refine wpAny_putD (i := 8) (d := 18) (v := .bool true) rfl rfl (by kernel_rfl) (by kernel_rfl) (by kernel_rfl) (fun _ _ _ h => h) (Or.inl ⟨by kernel_rfl, fun w => ?_⟩) ?_
            · go_simp
              try omega
              try (intro h; omega)
            refine wpAny_putD (i := 9) (d := 19) (v := .bool true) rfl rfl (by kernel_rfl) (by kernel_rfl) (by kernel_rfl) (fun _ _ _ h => h) (Or.inl ⟨by kernel_rfl, fun w => ?_⟩) ?_
            · go_simp
            refine wpAny_putD (i := 10) (d := 20) (v := .slice (some ⟨b, o, none⟩) n c) rfl rfl (by kernel_rfl) (by kernel_rfl) (by kernel_rfl) (fun _ _ _ h => h) (Or.inl ⟨by kernel_rfl, fun w => ?_⟩) ?_
            · go_simp
            refine wpAny_putD (i := 11) (d := 21) (v := .int .i64 (k : Int)) rfl rfl (by kernel_rfl) (by kernel_rfl) (by kernel_rfl) (fun _ _ _ h => h) (Or.inl ⟨by kernel_rfl, fun w => ?_⟩) ?_
            · go_simp
            refine wpAny_putD (i := 12) (d := 22) (v := .int .i64 ((k - 1 : Nat) : Int)) rfl rfl (by kernel_rfl) (by kernel_rfl) (by kernel_rfl) (fun _ _ _ h => h) (Or.inl ⟨by kernel_rfl, fun w => ?_⟩) ?_
            · go_simp
              try omega
              try (intro h; omega)
            refine wpAny_putD (i := 13) (d := 23) (v := .pointer (some ⟨b, o + (k - 1) * 2, none⟩)) rfl rfl (by kernel_rfl) (by kernel_rfl) (by kernel_rfl) (fun _ _ _ h => h) (Or.inl ⟨by kernel_rfl, fun w => ?_⟩) ?_
            · go_simp
              try omega
              try (intro h; omega)
            refine wpAny_putD (i := 14) (d := 24) (v := .pointer (some ⟨b, o + (k - 1) * 2 + 1, none⟩)) rfl rfl (by kernel_rfl) (by kernel_rfl) (by kernel_rfl) (fun _ _ _ h => h) (Or.inl ⟨by kernel_rfl, fun w => ?_⟩) ?_
            · go_simp
            refine wpAny_putD (i := 16) (d := 26) (v := .slice (some ⟨b, o, none⟩) n c) rfl rfl (by kernel_rfl) (by kernel_rfl) (by kernel_rfl) (fun _ _ _ h => h) (Or.inl ⟨by kernel_rfl, fun w => ?_⟩) ?_
            · go_simp
            refine wpAny_putD (i := 17) (d := 27) (v := .int .i64 (k : Int)) rfl rfl (by kernel_rfl) (by kernel_rfl) (by kernel_rfl) (fun _ _ _ h => h) (Or.inl ⟨by kernel_rfl, fun w => ?_⟩) ?_
            · go_simp
            refine wpAny_putD (i := 18) (d := 28) (v := .pointer (some ⟨b, o + k * 2, none⟩)) rfl rfl (by kernel_rfl) (by kernel_rfl) (by kernel_rfl) (fun _ _ _ h => h) (Or.inl ⟨by kernel_rfl, fun w => ?_⟩) ?_
            · go_simp
              try omega
              try (intro h; omega)
            refine wpAny_putD (i := 19) (d := 29) (v := .pointer (some ⟨b, o + k * 2 + 1, none⟩)) rfl rfl (by kernel_rfl) (by kernel_rfl) (by kernel_rfl) (fun _ _ _ h => h) (Or.inl ⟨by kernel_rfl, fun w => ?_⟩) ?_
            · go_simp
            refine wpAny_ready (rs := [15, 20]) (by kernel_rfl) (by simp) ?_
            refine AllReady.cons rfl (fun K hK => ?_) (AllReady.cons rfl (fun K hK => ?_) AllReady.nil)
            · go_simp
              refine hK _ _ ?_
              clear hK K
              refine wpAny_ready (rs := [20]) (by kernel_rfl) (by simp) ?_
              refine AllReady.cons rfl (fun K hK => ?_) AllReady.nil
              go_simp
              refine hK _ _ ?_
              clear hK K
              refine wpAny_putD (i := 21) (d := 31) (v := .bool false) rfl rfl (by kernel_rfl) (by kernel_rfl) (by kernel_rfl) (fun _ _ _ h => h) (Or.inl ⟨by kernel_rfl, fun w => ?_⟩) ?_
              · go_simp
              refine wpAny_putD (i := 22) (d := 32) (v := .bool false) rfl rfl (by kernel_rfl) (by kernel_rfl) (by kernel_rfl) (fun _ _ _ h => h) (Or.inl ⟨by kernel_rfl, fun w => ?_⟩) ?_
              · go_simp
              refine wpAny_putD (i := 23) (d := 33) (v := .bool false) rfl rfl (by kernel_rfl) (by kernel_rfl) (by kernel_rfl) (fun _ _ _ h => h) (Or.inl ⟨by kernel_rfl, fun w => ?_⟩) ?_
              · go_simp
              refine wpAny_done (by kernel_rfl) ?_ _
              go_wp2
              go_roundw
              case rel => exact ⟨k + 1, by omega, by go_num, HX.out, hb4⟩
              case measure => simp [intOf]; omega
            · go_simp
              refine hK _ _ ?_
              clear hK K
              refine wpAny_ready (rs := [15]) (by kernel_rfl) (by simp) ?_
              refine AllReady.cons rfl (fun K hK => ?_) AllReady.nil
              go_simp
              refine hK _ _ ?_
              clear hK K
              refine wpAny_putD (i := 21) (d := 31) (v := .bool false) rfl rfl (by kernel_rfl) (by kernel_rfl) (by kernel_rfl) (fun _ _ _ h => h) (Or.inl ⟨by kernel_rfl, fun w => ?_⟩) ?_
              · go_simp
              refine wpAny_putD (i := 22) (d := 32) (v := .bool false) rfl rfl (by kernel_rfl) (by kernel_rfl) (by kernel_rfl) (fun _ _ _ h => h) (Or.inl ⟨by kernel_rfl, fun w => ?_⟩) ?_
              · go_simp
              refine wpAny_putD (i := 23) (d := 33) (v := .bool false) rfl rfl (by kernel_rfl) (by kernel_rfl) (by kernel_rfl) (fun _ _ _ h => h) (Or.inl ⟨by kernel_rfl, fun w => ?_⟩) ?_
              · go_simp
              refine wpAny_done (by kernel_rfl) ?_ _
              go_wp2
              go_roundw
              case rel => exact ⟨k + 1, by omega, by go_num, HX.out, hb4⟩
              case measure => simp [intOf]; omega
    · obtain rfl : k = n := by omega
      have HX := Lib.hid (show fm (-1) v = true by rw [hfm, List.drop_of_length_le (by omega)]; rfl)
      clear hfm
      go_wp2
      go_ret
      exact ⟨ret_bool (by rw [HX.out]), hb⟩
end Go.Proofs.YtldcgmnfohhjbaaDoor
