/- Walks over the document's Number (package telltaleref05). -/
import Derived.Test.YtndlcimckfndiaaDoorPackA
namespace Go.Proofs.YtndlcimckfndiaaDoor
open Go.RowKit
set_option maxRecDepth 100000

theorem val_bound (l : List UInt8) (k j : Nat) (hk : k < 9) (hj : 0 < j) (hjk : j ≤ k + 1) : Pk.val (l.drop j) (k + 1 - j) ≤ 72057594037927935 := by
  have h1 := Pk.val_lt (l.drop j) (k + 1 - j)
  have h2 : 128 ^ (k + 1 - j) ≤ 128 ^ 8 := Nat.pow_le_pow_right (by omega) (by omega)
  have e8 : 128 ^ 8 = 72057594037927936 := by decide
  omega
theorem val_step (l : List UInt8) (k j : Nat) (hj : j < k + 1) (hl : j < l.length) : Pk.val (l.drop j) (k + 1 - j) = l[j].toNat % 128 + 128 * Pk.val (l.drop (j + 1)) (k + 1 - (j + 1)) := by
  obtain ⟨m, hm⟩ : ∃ m, k + 1 - j = m + 1 := ⟨k - j, by omega⟩
  rw [hm, Pk.val_drop l j m hl, show k + 1 - (j + 1) = m by omega]

set_option maxHeartbeats 400000 in
theorem refNumber_any (A : Option Addr) (n c : Nat) (l : List UInt8) (w : World) (hl : l.length = n) (hR : Rd w w.heap.size 1 A n c (bv l)) :
    Calls Tryd.prog 81 #[.slice A n c] w fun e w' => e = .returned (.tuple #[.int .i64 (Pk.num l 0 l).1, .int .i64 (Pk.num l 0 l).2.1, .int .i64 (Pk.num l 0 l).2.2]) ∧ w = w' := by
  have HL := Lib.hid hl
  clear hl
  go_enter Tryd.func81, Tryd.ntmps81
  go_wp2
  go_loop [5] (fun i => ∃ k : Nat, k ≤ n ∧ k ≤ 9 ∧ i = .int .i64 k ∧ Hid (Pk.num l 0 l = Pk.num l k (l.drop k))) (fun i => 9 - (intOf i).toNat)
  case atStart => exact ⟨0, by omega, by omega, rfl, rfl⟩
  case round =>
    obtain ⟨k, hkn, hk9, rfl, hd⟩ := hrel
    by_cases h9 : k = 9
    · subst h9
      clear hR
      go_wp2
      go_ret3
      exact ⟨by rw [hd.out, num_end4 _ _ _ (by omega)]; rfl, rfl⟩
    have hk9' : k < 9 := by omega
    clear hk9
    by_cases hn : k = n
    · have he : ((k : Int) == (n : Int)) = true := beq_iff_eq.2 (by omega)
      clear hR
      have HN := Lib.hid hn
      clear hn
      go_wp2
      go_ret3
      exact ⟨by rw [hd.out, List.drop_of_length_le (by have := HL.out; have := HN.out; omega), num_end5 _ _ hk9']; rfl, rfl⟩
    have hkn' : k < n := by omega
    have hkl : k < l.length := by have := HL.out; omega
    have hne : ((k : Int) == (n : Int)) = false := beq_eq_false_iff_ne.2 (by omega)
    clear hn hkn
    obtain ⟨ad, hA, hbk, hcells⟩ := hR.at0 (by omega)
    subst hA
    clear hR
    have hcell : ∀ (j : Nat) (hj : j < l.length), w.cell? (ad.add j) = some (.int .u8 (l[j].toNat : Int)) := fun j hj => hcells j _ (bv_at l j hj)
    have HC := Lib.hid hcell
    clear hcells hcell
    have hc := HC.out k hkl
    obtain ⟨b, hb'⟩ : ∃ b, b = l[k].toNat := ⟨_, rfl⟩
    have hb256 : b < 256 := by have := UInt8.toNat_lt l[k]; omega
    rw [← hb'] at hc
    have HB := Lib.hid hb'
    clear hb'
    by_cases h128 : 128 ≤ b
    · go_wp2
      go_round
      case rel =>
        refine ⟨k + 1, by omega, by omega, by go_num, ?_⟩
        show _ = _
        rw [hd.out, num_on l k hkl hk9' (by rw [← HB.out]; exact h128)]
      case measure => simp [intOf]; omega
    · by_cases h0 : b = 0 ∧ 0 < k
      · obtain ⟨h0, hk0⟩ := h0
        subst h0
        have hd0 : decide ((0 : Int) < (k : Int)) = true := by simpa using hk0
        go_wp2
        go_ret3
        exact ⟨by rw [hd.out, num_zero l k hkl hk9' HB.out.symm hk0]; rfl, rfl⟩
      · have hlast := Lib.hid (num_last l k hkl hk9' (by rw [← HB.out]; omega) (by rw [← HB.out]; exact h0))
        by_cases hb0 : b = 0
        · have hk0 : ¬ 0 < k := fun h => h0 ⟨hb0, h⟩
          have hd0 : decide ((0 : Int) < (k : Int)) = false := by simpa using hk0
          subst hb0
          clear h0
          go_wp2
          go_loop [6, 7] (fun x j => ∃ i : Nat, i ≤ k + 1 ∧ j = .int .i64 ((i : Int) - 1) ∧ x = .int .i64 (Pk.val (l.drop i) (k + 1 - i))) (fun _ j => (intOf j + 1).toNat)
          case atStart => exact ⟨k + 1, by omega, by go_num, by rw [Nat.sub_self, Pk.val_zero]; rfl⟩
          case round =>
            obtain ⟨i, hi, rfl, rfl⟩ := hrel
            rcases i with _ | i
            · go_wp2
              go_ret3
              exact ⟨by rw [hd.out, hlast.out]; exact ret3 rfl rfl rfl, rfl⟩
            · have hil : i < l.length := by omega
              have hc2 := HC.out i hil
              have HV := Lib.hid (val_step l k i (by omega) hil)
              have hvb := val_bound l k (i + 1) hk9' (by omega) hi
              obtain ⟨d, hd'⟩ : ∃ d, d = l[i].toNat := ⟨_, rfl⟩
              have hd256 : d < 256 := by have := UInt8.toNat_lt l[i]; omega
              rw [← hd'] at hc2
              have HD := Lib.hid hd'
              clear hd'
              obtain ⟨x, hx⟩ : ∃ x, x = Pk.val (l.drop (i + 1)) (k + 1 - (i + 1)) := ⟨_, rfl⟩
              rw [← hx] at hvb ⊢
              have HX := Lib.hid hx
              clear hx
              have e1 : (((i + 1 : Nat) : Int) - 1) = (i : Int) := by omega
              rw [e1]
              clear e1
              go_wp2
              go_round
              case rel =>
                refine ⟨i, by omega, by go_num, ?_⟩
                rw [HV.out, ← HD.out, ← HX.out]
                go_num
              case measure => simp [intOf]
        · have hbe : ((b : Int) == 0) = false := by simpa using hb0
          clear h0 hb0
          go_wp2
          go_loop [6, 7] (fun x j => ∃ i : Nat, i ≤ k + 1 ∧ j = .int .i64 ((i : Int) - 1) ∧ x = .int .i64 (Pk.val (l.drop i) (k + 1 - i))) (fun _ j => (intOf j + 1).toNat)
          case atStart => exact ⟨k + 1, by omega, by go_num, by rw [Nat.sub_self, Pk.val_zero]; rfl⟩
          case round =>
            obtain ⟨i, hi, rfl, rfl⟩ := hrel
            rcases i with _ | i
            · go_wp2
              go_ret3
              exact ⟨by rw [hd.out, hlast.out]; exact ret3 rfl rfl rfl, rfl⟩
            · have hil : i < l.length := by omega
              have hc2 := HC.out i hil
              have HV := Lib.hid (val_step l k i (by omega) hil)
              have hvb := val_bound l k (i + 1) hk9' (by omega) hi
              obtain ⟨d, hd'⟩ : ∃ d, d = l[i].toNat := ⟨_, rfl⟩
              have hd256 : d < 256 := by have := UInt8.toNat_lt l[i]; omega
              rw [← hd'] at hc2
              have HD := Lib.hid hd'
              clear hd'
              obtain ⟨x, hx⟩ : ∃ x, x = Pk.val (l.drop (i + 1)) (k + 1 - (i + 1)) := ⟨_, rfl⟩
              rw [← hx] at hvb ⊢
              have HX := Lib.hid hx
              clear hx
              have e1 : (((i + 1 : Nat) : Int) - 1) = (i : Int) := by omega
              rw [e1]
              clear e1
              go_wp2
              go_round
              case rel =>
                refine ⟨i, by omega, by go_num, ?_⟩
                rw [HV.out, ← HD.out, ← HX.out]
                go_num
              case measure => simp [intOf]
end Go.Proofs.YtndlcimckfndiaaDoor
