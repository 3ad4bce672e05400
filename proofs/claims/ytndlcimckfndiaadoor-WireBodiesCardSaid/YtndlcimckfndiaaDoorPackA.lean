/- Walks over the functions of package pack that only compute with numbers: Len and Number, and the document's Number. -/
import Derived.Test.YtndlcimckfndiaaDoorRows
import Derived.Test.YtndlcimckfndiaaDoorWords
import Derived.Test.YtndlcimckfndiaaDoorPack0
import Derived.Deep.QuietTactic
import Derived.BigQuiet
namespace Go.Proofs.YtndlcimckfndiaaDoor
open Go.RowKit
set_option maxRecDepth 100000

theorem ret_int {k : IntKind} {a b : Int} (h : a = b) : Ending.returned (.int k a) = .returned (.int k b) := by rw [h]

theorem ofInt_i64 (a : Nat) (ha : a < 9223372036854775808) : (BitVec.ofInt 64 (a : Int)).toNat = a := by
  rw [BitVec.ofInt_natCast, BitVec.toNat_ofNat]; exact Nat.mod_eq_of_lt (by omega)
theorem i64_or_nat (a b : Nat) (ha : a < 9223372036854775808) (hb : b < 9223372036854775808) : bits .or .i64 (a : Int) (b : Int) = ((a ||| b : Nat) : Int) := by
  have hx : a ||| b < 2 ^ 63 := Nat.or_lt_two_pow (by omega) (by omega)
  show IntKind.i64.wrap ((BitVec.ofInt 64 (a : Int) ||| BitVec.ofInt 64 (b : Int)).toNat : Int) = _
  rw [BitVec.toNat_or, ofInt_i64 a ha, ofInt_i64 b hb, IntKind.wrap_i64]
  omega
theorem andNot128 : ∀ b : Nat, b < 256 → bits .andNot .u8 (b : Int) 128 = ((b % 128 : Nat) : Int) := by decide +kernel
theorem and128_hi : ∀ b : Nat, b < 256 → 128 ≤ b → bits .and .u8 (b : Int) 128 = 128 := by decide +kernel
theorem and128_lo : ∀ b : Nat, b < 256 → b < 128 → bits .and .u8 (b : Int) 128 = 0 := by decide +kernel
theorem or_shift (x y j : Nat) (hx : x < 2 ^ j) : x ||| (y * 2 ^ j) = x + y * 2 ^ j := by
  rw [Nat.or_comm, ← Nat.shiftLeft_eq, ← Nat.shiftLeft_add_eq_or_of_lt hx, Nat.add_comm]
theorem pow7 (k : Nat) : (2 : Nat) ^ (7 * k) = 128 ^ k := by rw [Nat.pow_mul]
/-- 'n |= int(c &^ 128) << (7*k)'. -/
theorem step_bits (x b k : Nat) (hb : b < 256) (hk : k < 9) (hx : x < 128 ^ k) :
    bits .or .i64 (x : Int) (wrap64 (wrap64 (bits .andNot .u8 (b : Int) 128) * 2 ^ (7 * k))) = ((x + b % 128 * 128 ^ k : Nat) : Int) := by
  have hp : 128 ^ k ≤ 128 ^ 8 := Nat.pow_le_pow_right (by omega) (by omega)
  have e8 : 128 ^ 8 = 72057594037927936 := by decide
  have hm : b % 128 * 128 ^ k ≤ 127 * 128 ^ k := Nat.mul_le_mul_right _ (by omega)
  have w1 : wrap64 ((b % 128 : Nat) : Int) = ((b % 128 : Nat) : Int) := IntWalk.wrap64_in _ (by omega)
  have e2 : ((b % 128 : Nat) : Int) * 2 ^ (7 * k) = ((b % 128 * 128 ^ k : Nat) : Int) := by rw [← pow7]; simp
  have w2 : wrap64 ((b % 128 * 128 ^ k : Nat) : Int) = ((b % 128 * 128 ^ k : Nat) : Int) := IntWalk.wrap64_in _ (by omega)
  rw [andNot128 b hb, w1, e2, w2, i64_or_nat _ _ (by omega) (by omega), ← pow7, or_shift _ _ _ (by rw [pow7]; exact hx)]

theorem num_end4 (l r : List UInt8) (k : Nat) (h : 9 ≤ k) : Pk.num l k r = (0, 0, 4) := by
  cases r with
  | nil => rw [Pk.num, if_neg (by omega)]
  | cons c r => rw [Pk.num, if_pos h]
theorem num_end5 (l : List UInt8) (k : Nat) (h : k < 9) : Pk.num l k [] = (0, 0, 5) := by rw [Pk.num, if_pos h]
theorem num_on (l : List UInt8) (k : Nat) (hl : k < l.length) (hk : k < 9) (h : 128 ≤ l[k].toNat) : Pk.num l k (l.drop k) = Pk.num l (k + 1) (l.drop (k + 1)) := by
  rw [List.drop_eq_getElem_cons hl, Pk.num, if_neg (by omega), if_pos h]
theorem num_zero (l : List UInt8) (k : Nat) (hl : k < l.length) (hk : k < 9) (h : l[k].toNat = 0) (h0 : 0 < k) : Pk.num l k (l.drop k) = (0, 0, 4) := by
  rw [List.drop_eq_getElem_cons hl, Pk.num, if_neg (by omega), if_neg (by omega), if_pos ⟨h, h0⟩]
theorem num_last (l : List UInt8) (k : Nat) (hl : k < l.length) (hk : k < 9) (h : l[k].toNat < 128) (h0 : ¬ (l[k].toNat = 0 ∧ 0 < k)) : Pk.num l k (l.drop k) = (Pk.val l (k + 1), k + 1, 0) := by
  rw [List.drop_eq_getElem_cons hl, Pk.num, if_neg (by omega), if_neg (by omega), if_neg h0]
theorem ret3 {a b c a' b' c' : Int} (h1 : a = a') (h2 : b = b') (h3 : c = c') : Ending.returned (.tuple #[.int .i64 a, .int .i64 b, .int .i64 c]) = .returned (.tuple #[.int .i64 a', .int .i64 b', .int .i64 c']) := by rw [h1, h2, h3]

theorem size_u8 : ∀ w, (Go.sizeOf 5).run Tryd.prog w = .ok 1 w := fun _ => by kernel_rfl

set_option maxHeartbeats 400000 in
/-- pack.Number: the number that bytes begin with. -/
theorem number_any (A : Option Addr) (n c : Nat) (l : List UInt8) (w : World) (hl : l.length = n) (hR : Rd w w.heap.size 1 A n c (bv l)) :
    Calls Tryd.prog 82 #[.slice A n c] w fun e w' => e = .returned (.tuple #[.int .i64 (Pk.num l 0 l).1, .int .i64 (Pk.num l 0 l).2.1, .int .i64 (Pk.num l 0 l).2.2]) ∧ w = w' := by
  obtain ⟨m, hm⟩ : ∃ m, m = min n 9 := ⟨_, rfl⟩
  have hcap := hR.cap
  have hmin : (if (9 : Int) < (n : Int) then (9 : Int) else (n : Int)) = m := by split <;> omega
  have hs : ∀ W, (Instr.slice 23 (.slice A n c) none (some (.int .i64 (m : Int))) none).run Tryd.prog W = .ok (.slice A m c) W :=
    fun W => run_upto W 23 5 1 Tryd.underlying23 size_u8 A n c .i64 m m rfl (by omega)
  have hm9 : m ≤ 9 := by omega
  have hmn : m ≤ n := by omega
  have HM := Lib.hid hm
  have HL := Lib.hid hl
  clear hm
  go_enter Tryd.func82, Tryd.ntmps82
  go_wp2
  go_loop [2, 13] (fun x i => ∃ k : Nat, k ≤ m ∧ i = .int .i64 k ∧ x = .int .i64 (Pk.val l k) ∧ Hid (Pk.num l 0 l = Pk.num l k (l.drop k))) (fun _ i => m - (intOf i).toNat)
  case atStart => exact ⟨0, by omega, rfl, by rw [Pk.val_zero]; rfl, rfl⟩
  case round =>
    obtain ⟨k, hk, rfl, rfl, hd⟩ := hrel
    by_cases hlt : k < m
    · have hkl : k < l.length := by omega
      have hk9 : k < 9 := by omega
      obtain ⟨ad, u, rfl, hb, hx, hc⟩ := hR.at_ (k := k) (by omega)
      rw [bv_at l k hkl] at hx
      obtain rfl : Value.int .u8 (l[k].toNat : Int) = u := by simpa using hx
      clear hx
      obtain ⟨b, hb'⟩ : ∃ b, b = l[k].toNat := ⟨_, rfl⟩
      have hb256 : b < 256 := by have := UInt8.toNat_lt l[k]; omega
      rw [← hb'] at hc
      have HB := Lib.hid hb'
      clear hb' hs hmin hR
      obtain ⟨x, hx⟩ : ∃ x, x = Pk.val l k := ⟨_, rfl⟩
      rw [← hx]
      have HX := Lib.hid hx
      clear hx
      have hxl : x < 128 ^ k := by rw [HX.out]; exact Pk.val_lt l k
      have HS := Lib.hid (step_bits x b k hb256 hk9 hxl)
      have HV := Lib.hid (Pk.val_snoc l k hkl)
      clear hxl
      by_cases h128 : 128 ≤ b
      · have h1 := and128_hi b hb256 h128
        go_wp2
        go_round
        case rel =>
          refine ⟨k + 1, by omega, by go_num, ?_, ?_⟩
          · rw [HS.out, HV.out, ← HB.out, ← HX.out]
          · show _ = _
            rw [hd.out, num_on l k hkl hk9 (by rw [← HB.out]; exact h128)]
        case measure => simp [intOf]; omega
      · have h1 := and128_lo b hb256 (by omega)
        by_cases h0 : b = 0
        · subst h0
          by_cases hk0 : 0 < k
          · have hd0 : decide ((0 : Int) < (k : Int)) = true := by simpa using hk0
            go_wp2
            go_ret3
            exact ⟨by rw [hd.out, num_zero l k hkl hk9 HB.out.symm hk0]; rfl, rfl⟩
          · have hd0 : decide ((0 : Int) < (k : Int)) = false := by simpa using hk0
            go_wp2
            go_ret3
            exact ⟨by rw [hd.out, num_last l k hkl hk9 (by rw [← HB.out]; omega) (by omega)]; exact ret3 (by rw [HV.out, ← HB.out, ← HX.out]; exact HS.out) rfl rfl, rfl⟩
        · have hb0 : ((b : Int) == 0) = false := by simpa using h0
          go_wp2
          go_ret3
          exact ⟨by rw [hd.out, num_last l k hkl hk9 (by rw [← HB.out]; omega) (by rw [← HB.out]; omega)]; exact ret3 (by rw [HV.out, ← HB.out, ← HX.out]; exact HS.out) rfl rfl, rfl⟩
    · obtain rfl : k = m := by omega
      clear hs hmin hR
      by_cases hn9 : n < 9
      · go_wp2
        go_ret3
        exact ⟨by rw [hd.out, List.drop_of_length_le (by have := HL.out; have := HM.out; omega), num_end5 _ _ (by have := HM.out; omega)]; rfl, rfl⟩
      · go_wp2
        go_ret3
        exact ⟨by rw [hd.out, num_end4 _ _ _ (by have := HM.out; omega)]; rfl, rfl⟩
end Go.Proofs.YtndlcimckfndiaaDoor
