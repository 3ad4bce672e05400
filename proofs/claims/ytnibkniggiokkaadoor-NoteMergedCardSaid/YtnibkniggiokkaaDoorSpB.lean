/- Walks over the document's Same, Copy, Formed, Has at spans, and over span.Formed, span.Has. -/
import Derived.Test.YtnibkniggiokkaaDoorSpA
import Derived.Test.YtnibkniggiokkaaDoorNt0
namespace Go.Proofs.YtnibkniggiokkaaDoor
open Go.RowKit
set_option maxRecDepth 100000

/-- telltaleref03.Copy. -/
theorem copyS_any (A : Option Addr) (n c : Nat) (xs : List Value) (w : World) (hR : Rd w w.heap.size 2 A n c xs) (h1 : ∀ u ∈ xs, u.oneCell' = true) (hn : n ≤ 8796093022208) :
    Calls Tryd.prog 24 #[.slice A n c] w fun e w' => ∃ A' c', e = .returned (.slice A' n c') ∧ w'.ownsRow w.heap.size 37 2 (.slice A' n c') n xs ∧ Below w.heap.size w w' := by
  have hmax := hR.max
  have hcap := hR.cap
  obtain ⟨i0, hi0, hz0, hz1, hz2⟩ := info_parts span_info
  have h63 : 0 + n ≤ maxLen := by omega
  go_enter Tryd.func24, Tryd.ntmps24
  go_wp2_with (at_builtin; go_must (refine wpList_append_rd _ rfl (.tmp 3) (.tmp 4) _ rfl w.heap.size 37 i0 _ 2 16 Tryd.underlying23 hi0 hz0 hz1 hz2 rfl (by decide) (.slice (some ⟨w.heap.size, 0, none⟩) 0 0) 0 [] rfl (own_empty w _ _) w.heap.size A n c xs rfl (hR.alloc (Nat.le_refl _) _) h1 h63 (by omega) (by simp) ?_); intro A' c' w1 hown hg hat)
  go_ret
  exact ⟨A', c', rfl, by simpa using hown, ((Below.refl _ _).alloc (Nat.le_refl _) _).trans (grown_below hg (by simp) (by simp [Value.ownBlock]))⟩


set_option maxHeartbeats 2000000 in
theorem sameS_any (A D : Option Addr) (n c m d : Nat) (u v : List Vc.St) (w : World) (hl : u.length = n) (hl2 : v.length = m) (hR : Rd w w.heap.size 2 A n c (sv u)) (hR2 : Rd w w.heap.size 2 D m d (sv v)) :
    Calls Tryd.prog 32 #[.slice A n c, .slice D m d] w fun e w' => e = .returned (.bool (decide (u = v))) ∧ Below w.heap.size w w' := by
  have hmax : n ≤ 9223372036854775807 := by have h1 := hR.cap; have h2 := hR.max; unfold maxLen at h2; omega
  by_cases hnm : n = m
  · subst hnm
    go_enter Tryd.func32, Tryd.ntmps32
    go_wp2
    go_loopw [5] (fun i wr => ∃ (k : Nat), k ≤ n ∧ i = .int .i64 k ∧ decide (u = v) = decide (u.drop k = v.drop k) ∧ Below w.heap.size w wr) (fun i _ => n - (intOf i).toNat)
    case atStart => exact ⟨0, by omega, rfl, rfl, Below.refl _ _⟩
    case round =>
      obtain ⟨k, hk, rfl, hdd, hb⟩ := hrel
      by_cases hlt : k < n
      · have hk1 : k < u.length := by omega
        have hk2 : k < v.length := by omega
        obtain ⟨b, o, rfl, hab, h0, h1⟩ := (hR.below hb).stamp hl hlt
        obtain ⟨b2, o2, rfl, hab2, h02, h12⟩ := (hR2.below hb).stamp hl2 hlt
        have HD := Lib.hid hdd
        have HE := Lib.hid (show u[k] = ((u[k]'hk1).1, (u[k]'hk1).2) from rfl)
        have HE2 := Lib.hid (show v[k] = ((v[k]'hk2).1, (v[k]'hk2).2) from rfl)
        generalize (u[k]'hk1).1 = sc at h0 HE
        generalize (u[k]'hk1).2 = sn at h1 HE
        generalize (v[k]'hk2).1 = tc at h02 HE2
        generalize (v[k]'hk2).2 = tn at h12 HE2
        have HB := Lib.hid hb
        clear hdd hb hR hR2
        by_cases e1 : sc = tc
        · subst e1
          by_cases e2 : sn = tn
          · subst e2
            have HN := Lib.hid (dec_drop hk1 hk2 (by rw [HE.out, HE2.out]))
            go_wp2
            go_quiet (fail)
            go_wp2
            go_roundw
            case rel => exact ⟨k + 1, by omega, by go_num, by rw [HD.out, HN.out], below_drewN HB.out _⟩
            case measure => simp [intOf]; omega
          · have HN := Lib.hid (show decide (u = v) = false by
              rw [decide_eq_false_iff_not]; intro h; subst h; exact e2 (congrArg Prod.snd (HE.out.symm.trans HE2.out)))
            go_wp2
            go_quiet (fail)
            go_wp2
            go_ret
            exact ⟨by rw [HN.out]; rfl, below_drewN HB.out _⟩
        · have HN := Lib.hid (show decide (u = v) = false by
            rw [decide_eq_false_iff_not]; intro h; subst h; exact e1 (congrArg Prod.fst (HE.out.symm.trans HE2.out)))
          go_wp2
          go_quiet (fail)
          go_wp2
          go_ret
          exact ⟨by rw [HN.out]; rfl, below_drewN HB.out _⟩
      · obtain rfl : k = n := by omega
        have HX := Lib.hid (show decide (u = v) = true by rw [hdd, List.drop_of_length_le (by omega), List.drop_of_length_le (by omega)]; simp)
        clear hdd
        go_wp2
        go_ret
        exact ⟨by rw [HX.out]; rfl, hb⟩
  · have HN := Lib.hid (show decide (u = v) = false by rw [decide_eq_false_iff_not]; intro h; subst h; omega)
    have hne : ¬ ((n : Int) = (m : Int)) := by omega
    go_enter Tryd.func32, Tryd.ntmps32
    go_wp2
    all_goals first
      | (exfalso; omega)
      | (go_ret; exact ⟨by rw [HN.out]; rfl, Below.refl _ _⟩)


set_option maxHeartbeats 1000000 in
theorem refFormedS_any (A : Option Addr) (n c : Nat) (l : List Sn.Sp) (w : World) (hl : l.length = n) (hR : Rd w w.heap.size 2 A n c (sv l)) :
    Calls Tryd.prog 41 #[.slice A n c] w fun e w' => e = .returned (.bool (Sn.fmS (-2) l)) ∧ Below w.heap.size w w' := by
  have HF := Lib.hid (Sn.formed_both l)
  by_cases h128 : n ≤ 128
  · have HR := Lib.hid hR
    have H1 := Lib.hid (refSet_any A n c l w hl hR)
    obtain ⟨r, hr⟩ : ∃ r, r = Sn.of (Sn.setOf l) := ⟨_, rfl⟩
    have H2 := fun W => refOfS_any (Sn.setOf l) W
    rw [← hr] at H2
    obtain ⟨m, hm⟩ : ∃ m, m = r.length := ⟨_, rfl⟩
    rw [← hm] at H2
    have H3 := Lib.hid fun (W : World) D d hR hD => sameS_any A D n c m d l r W hl hm.symm hR hD
    have HX := Lib.hid (show decide (l = r) = Sn.fmS (-2) l by rw [HF.out, hl, decide_eq_true h128, Bool.true_and, hr])
    rw [HX.out] at H3
    have H2 := Lib.hid H2
    generalize Sn.fmS (-2) l = z at H3 ⊢
    generalize Sn.setOf l = q at H1 H2
    clear hR hl hr hm HF HX
    go_enter Tryd.func41, Tryd.ntmps41
    go_wp2_with fail
    refine H1.out.mono ?_
    rintro e w1 ⟨rfl, hb1⟩
    go_wp2_with fail
    refine (H2.out w1).mono ?_
    rintro e w2 ⟨D, d, rfl, ho, hb2⟩
    have hb := below_then hb1 (Nat.le_refl _) hb2
    go_wp2_with fail
    refine (H3.out w2 D d (HR.out.go hb) (Rd.of_own ho)).mono ?_
    rintro e w3 ⟨rfl, hb3⟩
    go_wp2
    go_ret
    exact ⟨rfl, below_then hb (Nat.le_refl _) hb3⟩
  · have HN := Lib.hid (show Sn.fmS (-2) l = false by rw [HF.out, hl, decide_eq_false h128]; rfl)
    have hd : decide ((n : Int) ≤ 128) = false := by simp; omega
    clear HF hR hl
    go_enter Tryd.func41, Tryd.ntmps41
    go_wp2
    go_ret
    exact ⟨by rw [HN.out]; rfl, Below.refl _ _⟩

set_option maxHeartbeats 1000000 in
theorem refHasS_any (A : Option Addr) (n c : Nat) (l : List Sn.Sp) (x : Int) (w : World) (hl : l.length = n) (hR : Rd w w.heap.size 2 A n c (sv l)) :
    Calls Tryd.prog 43 #[.slice A n c, .int .i64 x] w fun e w' => e = .returned (.bool (hasO l x)) ∧ Below w.heap.size w w' := by
  by_cases h : 0 ≤ x ∧ x ≤ 255
  · have HX := Lib.hid (show hasO l x = Sn.inB l x by unfold hasO; simp [h.1, h.2])
    obtain ⟨h1, h2⟩ := h
    obtain ⟨k, rfl⟩ := Int.eq_ofNat_of_zero_le h1
    have H1 := refSet_any A n c l w hl hR
    have hY : Sn.inB l (k : Int) = Sn.setOf l k := rfl
    rw [hY] at HX
    generalize Sn.setOf l = q at H1 HX
    have H1 := Lib.hid H1
    have hix : ∀ W, (Instr.index 57 (.agg (b256 q)) (.int .i64 (k : Int))).run Tryd.prog W = .ok (.bool (q k)) W := by
      intro W
      have hk : k < 256 := by omega
      have hk2 : 0 ≤ (k : Int) ∧ (k : Int) < ((256 : Nat) : Int) := by omega
      have hat := b256_at q k hk
      simp [Instr.index, run_underlying Tryd.underlying57, asIntOf, hk, hk2, hat, go_sem]
    clear hY hl hR
    go_enter Tryd.func43, Tryd.ntmps43
    go_wp2_with (go_at_call 29; go_must (refine H1.out.mono ?_); rintro e w1 ⟨rfl, hb1⟩)
    go_ret
    exact ⟨by rw [HX.out]; rfl, hb1⟩
  · have HX := Lib.hid (show hasO l x = false by unfold hasO; simp; omega)
    clear hl hR
    by_cases h1 : 0 ≤ x
    · have h2 : 255 < x := by omega
      have hd : decide (x ≤ 255) = false := by simp; omega
      clear h
      go_enter Tryd.func43, Tryd.ntmps43
      go_wp2
      go_ret
      exact ⟨by rw [HX.out]; rfl, Below.refl _ _⟩
    · have hd : decide (0 ≤ x) = false := by simp; omega
      clear h
      go_enter Tryd.func43, Tryd.ntmps43
      go_wp2
      go_ret
      exact ⟨by rw [HX.out]; rfl, Below.refl _ _⟩

theorem fmS_drop (e : Int) (l : List Sn.Sp) (k : Nat) (h : k < l.length) : Sn.fmS e (l.drop k) = (decide (l[k].1 ≤ l[k].2) && (decide (l[k].2 ≤ 255) && (decide (0 ≤ l[k].1) && (decide (e + 1 < l[k].1) && Sn.fmS l[k].2 (l.drop (k + 1)))))) := by
  rw [List.drop_eq_getElem_cons h, Sn.fmS]

set_option maxHeartbeats 2000000 in
theorem formedS_any (A : Option Addr) (n c : Nat) (l : List Sn.Sp) (w : World) (hl : l.length = n) (hR : Rd w w.heap.size 2 A n c (sv l)) :
    Calls Tryd.prog 36 #[.slice A n c] w fun e w' => e = .returned (.bool (Sn.fmS (-2) l)) ∧ Below w.heap.size w w' := by
  have hmax : n ≤ 9223372036854775807 := by have h1 := hR.cap; have h2 := hR.max; unfold maxLen at h2; omega
  go_enter Tryd.func36, Tryd.ntmps36
  go_wp2
  go_loopw [3, 8] (fun x i wr => ∃ (k : Nat) (e : Int), k ≤ n ∧ i = .int .i64 k ∧ x = .int .i64 e ∧ -2 ≤ e ∧ e ≤ 255 ∧ Below w.heap.size w wr ∧ Hid (Sn.fmS (-2) l = Sn.fmS e (l.drop k))) (fun _ i _ => n - (intOf i).toNat)
  case atStart => exact ⟨0, -2, by omega, rfl, rfl, by omega, by omega, Below.refl _ _, rfl⟩
  case round =>
    obtain ⟨k, e, hk, rfl, rfl, he1, he2, hb, hf⟩ := hrel
    by_cases hlt : k < n
    · have hkl : k < l.length := by omega
      obtain ⟨b, o, rfl, hab, h0, h1⟩ := (hR.below hb).stamp hl hlt
      have HD := Lib.hid (fmS_drop e l k hkl)
      generalize hlo : (l[k]'hkl).1 = lo at h0 HD
      generalize hhi : (l[k]'hkl).2 = hi at h1 HD
      have HB := Lib.hid (hb.alloc hb.size (.cells #[.int .i64 lo, .int .i64 hi] 37))
      have HF := Lib.hid (hf.out.trans HD.out)
      clear hlo hhi hb hf HD hR hl
      by_cases c1 : lo ≤ hi
      · by_cases c2 : hi ≤ 255
        · by_cases c3 : 0 ≤ lo
          · by_cases c4 : e + 1 < lo
            · have HN := Lib.hid (show Sn.fmS (-2) l = Sn.fmS hi (l.drop (k + 1)) by rw [HF.out]; simp [c1, c2, c3, c4])
              have d1 : decide (lo > hi) = false := by simp; omega
              have d2 : decide (hi > 255) = false := by simp; omega
              have d3 : decide (lo < 0) = false := by simp; omega
              go_wp2
              go_roundw
              case rel => exact ⟨k + 1, hi, by omega, by go_num, rfl, by omega, by omega, HB.out, HN.out⟩
              case measure => simp [intOf]; omega
            · have HN := Lib.hid (show Sn.fmS (-2) l = false by rw [HF.out]; simp [c4])
              go_wp2
              go_ret
              exact ⟨by rw [HN.out]; rfl, HB.out⟩
          · have HN := Lib.hid (show Sn.fmS (-2) l = false by rw [HF.out]; simp [c3])
            have d3 : decide (lo < 0) = true := by simp; omega
            go_wp2
            go_ret
            exact ⟨by rw [HN.out]; rfl, HB.out⟩
        · have HN := Lib.hid (show Sn.fmS (-2) l = false by rw [HF.out]; simp [c2])
          have d3 : decide (hi > 255) = true := by simp; omega
          go_wp2
          go_ret
          exact ⟨by rw [HN.out]; rfl, HB.out⟩
      · have HN := Lib.hid (show Sn.fmS (-2) l = false by rw [HF.out]; simp [c1])
        have d3 : decide (lo > hi) = true := by simp; omega
        go_wp2
        go_ret
        exact ⟨by rw [HN.out]; rfl, HB.out⟩
    · obtain rfl : k = n := by omega
      have HN := Lib.hid (show Sn.fmS (-2) l = true by rw [hf.out, List.drop_of_length_le (by omega)]; rfl)
      have HB := Lib.hid hb
      clear hb hf hR hl
      go_wp2
      go_ret
      exact ⟨by rw [HN.out]; rfl, HB.out⟩

/-- The test that span.Has hands on: is the object that lies in a box within a span? -/
theorem hasTest_any (lo hi x : Int) (Bx : Nat) (w : World) (hx : w.cell? ⟨Bx, 0, none⟩ = some (.int .i64 x)) :
    Calls Tryd.prog 69 #[.agg #[.int .i64 lo, .int .i64 hi], .pointer (some ⟨Bx, 0, none⟩)] w fun e w' => e = .returned (.bool (decide (lo ≤ x) && decide (x ≤ hi))) ∧ Below w.heap.size w w' := by
  have hlt := World.block_lt_of_cell? _ _ hx
  have hb : Below w.heap.size w (w.alloc (.cells #[.int .i64 lo, .int .i64 hi] 37)) := (Below.refl _ _).alloc (Nat.le_refl _) _
  by_cases c1 : lo ≤ x
  · have HX := Lib.hid (show (decide (lo ≤ x) && decide (x ≤ hi)) = decide (x ≤ hi) by simp [c1])
    rw [HX.out]
    go_enter Tryd.func69, Tryd.ntmps69
    go_wp2
    go_ret
    exact ⟨rfl, hb⟩
  · have HX := Lib.hid (show (decide (lo ≤ x) && decide (x ≤ hi)) = false by simp [c1])
    rw [HX.out]
    have hd : decide (lo ≤ x) = false := by simpa using c1
    go_enter Tryd.func69, Tryd.ntmps69
    go_wp2
    go_ret
    exact ⟨rfl, hb⟩
end Go.Proofs.YtnibkniggiokkaaDoor
