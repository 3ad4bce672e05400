/- Walk over vector.read: a list's counts. -/
import Derived.Test.YtldcgmnfohhjbaaDoorVecB
namespace Go.Proofs.YtldcgmnfohhjbaaDoor
open Go.RowKit
set_option maxRecDepth 100000

theorem zero_counts : (Tryd.prog.info? 89).map (fun i => (i.zero, i.size)) = some (some (.agg (cc (fun _ => 0) 0)), 65) := by kernel_rfl

/-- A counts' block, so far as a list was read. -/
def has_ (f : Nat → Int) : Nat := Vc.msk fun n => decide (0 < f n)

theorem has_none : has_ (Vc.cnt []) = 0 := by
  unfold has_
  rw [← Vc.msk_none]
  exact Vc.msk_congr fun n _ => by simp [Vc.cnt]
theorem ask_bit (H m : Nat) (hH : H < 18446744073709551616) : bits BinOp.and .u64 ((H : Int) / 2 ^ m) 1 = ((H / 2 ^ m % 2 : Nat) : Int) := by
  have e : ((H : Int) / 2 ^ m) = ((H / 2 ^ m : Nat) : Int) := by simp
  have hlt : H / 2 ^ m < 18446744073709551616 := Nat.lt_of_le_of_lt (Nat.div_le_self _ _) hH
  rw [e]
  have := bits_and_u64_nat (H / 2 ^ m) 1 hlt (by omega)
  rw [Nat.and_one_is_mod] at this
  exact this

theorem or_bit (H m : Nat) (hH : H < 18446744073709551616) (hm : m < 64) : bits BinOp.or .u64 (H : Int) (IntKind.u64.wrap (2 ^ m)) = ((H ||| 2 ^ m : Nat) : Int) := by
  have h2 : 2 ^ m < 18446744073709551616 := Nat.pow_lt_pow_right (n := 64) (by omega) hm
  have e : IntKind.u64.wrap ((2 : Int) ^ m) = ((2 ^ m : Nat) : Int) := by
    rw [show ((2 : Int) ^ m) = ((2 ^ m : Nat) : Int) by simp]
    generalize 2 ^ m = q at h2 ⊢
    rw [IntKind.wrap_u64]; omega
  rw [e]
  exact bits_or_u64_nat H (2 ^ m) hH h2

theorem take_next (v : List Vc.St) (k : Nat) (h : k < v.length) : v.take (k + 1) = v.take k ++ [v[k]] := by
  rw [List.take_succ_eq_append_getElem h]
theorem cnt_skip (v : List Vc.St) (k : Nat) (sc sn : Int) (h : k < v.length) (h1 : v[k].1 = sc) (h2 : v[k].2 = sn) (hr : Vc.right (sc, sn) = false) : Vc.cnt (v.take (k + 1)) = Vc.cnt (v.take k) := by
  funext n
  have e : v[k] = (sc, sn) := by rw [← h1, ← h2]
  rw [take_next v k h, Vc.cnt_snoc, e, if_neg (by rw [hr]; simp)]
theorem cnt_keep (v : List Vc.St) (k : Nat) (m : Nat) (h : k < v.length) (h2 : v[k].2 = (m : Int)) (hx : Vc.cnt (v.take k) m ≠ 0) : Vc.cnt (v.take (k + 1)) = Vc.cnt (v.take k) := by
  funext n
  rw [take_next v k h, Vc.cnt_snoc, if_neg]
  rintro ⟨c1, _, c3⟩
  rw [h2] at c3
  obtain rfl : m = n := by omega
  exact hx c1
theorem cnt_next (v : List Vc.St) (k : Nat) (sc : Int) (m : Nat) (h : k < v.length) (h1 : v[k].1 = sc) (h2 : v[k].2 = (m : Int)) (r1 : 0 < sc) (hm : m < 64) (hx : Vc.cnt (v.take k) m = 0) :
    (∀ n, n < 64 → upd (Vc.cnt (v.take k)) m sc n = Vc.cnt (v.take (k + 1)) n) ∧ has_ (Vc.cnt (v.take (k + 1))) = has_ (Vc.cnt (v.take k)) ||| 2 ^ m := by
  have e : v[k] = (sc, (m : Int)) := by rw [← h1, ← h2]
  have hr : Vc.right (sc, (m : Int)) = true := (Vc.right_iff _).2 ⟨r1, by simp, by simp; omega⟩
  have h3 : ∀ n, upd (Vc.cnt (v.take k)) m sc n = Vc.cnt (v.take (k + 1)) n := fun n => by
    rw [take_next v k h, Vc.cnt_snoc, e, upd]
    by_cases hn : n = m
    · subst hn; rw [if_pos rfl, if_pos ⟨hx, hr, rfl⟩]
    · rw [if_neg hn, if_neg]
      rintro ⟨_, _, c3⟩
      simp only at c3
      omega
  refine ⟨fun n _ => h3 n, ?_⟩
  unfold has_
  rw [Vc.msk_add _ _ hm]
  refine Vc.msk_congr fun n _ => ?_
  rw [← h3 n, upd]
  by_cases hn : n = m
  · simp [hn, r1]
  · simp [hn]

set_option maxHeartbeats 1000000 in
theorem read_any (A : Option Addr) (n c : Nat) (v : List Vc.St) (w : World) (hl : v.length = n) (hR : Rd w w.heap.size 2 A n c (sv v)) :
    Calls Tryd.prog 71 #[.slice A n c] w fun e w' => e = .returned (.agg (cc (Vc.cnt v) (has_ (Vc.cnt v)))) ∧ Below w.heap.size w w' := by
  obtain ⟨hz, hi⟩ := zero_of_info zero_counts
  have HI := Lib.hid hi
  clear hi
  have hmax : n ≤ 9223372036854775807 := by have h1 := hR.cap; have h2 := hR.max; unfold maxLen at h2; omega
  go_enter Tryd.func71, Tryd.ntmps71
  go_wp2
  go_loopw [7] (fun i wr => ∃ k : Nat, k ≤ n ∧ i = .int .i64 k ∧ Below w.heap.size w wr ∧ Blk wr w.heap.size 89 (cc (Vc.cnt (v.take k)) (has_ (Vc.cnt (v.take k))))) (fun i _ => n - (intOf i).toNat)
  case atStart =>
    exact ⟨0, by omega, rfl, (Below.refl _ _).alloc (Nat.le_refl _) _, by rw [show has_ (Vc.cnt (v.take 0)) = 0 from has_none]; exact Blk.new _ _ _⟩
  case round =>
    obtain ⟨k, hk, rfl, hb, hblk⟩ := hrel
    by_cases hlt : k < n
    · have hkv : k < v.length := by omega
      obtain ⟨b, o, rfl, hab, h0, h1⟩ := (hR.below hb).stamp hl hlt
      generalize hs1 : (v[k]'hkv).1 = sc at h0
      generalize hs2 : (v[k]'hkv).2 = sn at h1
      have HS1 := Lib.hid hs1
      have HS2 := Lib.hid hs2
      clear hs1 hs2 hR
      have HB := Lib.hid hb
      have hB := hblk.lt
      have HK := Lib.hid hblk
      clear hb hblk hl
      go_wp2_with fail
      refine (right_any sc sn _).mono ?_
      rintro e w3 ⟨rfl, hb3⟩
      have HK3 := Lib.hid ((HK.out.alloc (.cells #[.int .i64 sc, .int .i64 sn] 24)).go hb3)
      have hs3 := Blk.go (Blk.new wr 24 #[.int .i64 sc, .int .i64 sn]) hb3
      have g0 := hs3.cell 0
      have g1 := hs3.cell 1
      rw [show (#[Value.int .i64 sc, Value.int .i64 sn])[0]? = some (.int .i64 sc) from rfl] at g0
      rw [show (#[Value.int .i64 sc, Value.int .i64 sn])[1]? = some (.int .i64 sn) from rfl] at g1
      have hb4 := below_then HB.out (Nat.le_refl _) (((Below.refl wr.heap.size wr).alloc (Nat.le_refl _) _).trans (hb3.mono (by simp)))
      have HB4 := Lib.hid hb4
      clear hb3 hs3 hb4 HB HK
      by_cases hr : Vc.right (sc, sn) = true
      · obtain ⟨r1, r2, r3⟩ := (Vc.right_iff (sc, sn)).1 hr
        simp only at r1 r2 r3
        obtain ⟨m, rfl⟩ := Int.eq_ofNat_of_zero_le r2
        obtain ⟨H, hH⟩ : ∃ H, H = has_ (Vc.cnt (v.take k)) := ⟨_, rfl⟩
        have hHlt : H < 18446744073709551616 := by rw [hH]; exact Vc.msk_lt _
        have hmk : H / 2 ^ m % 2 = if (0 : Int) < Vc.cnt (v.take k) m then 1 else 0 := by
          rw [hH]; unfold has_; rw [Vc.msk_ask _ _ (by omega)]; simp
        rw [← hH] at HK3
        have gh := HK3.out.cell 64
        rw [cc_has] at gh
        have gm := HK3.out.cell m
        rw [cc_at _ _ _ (by omega)] at gm
        have fm := HK3.out.frozen m
        have fh := HK3.out.frozen 64
        have HH := Lib.hid hH
        have hbit : bits BinOp.and .u64 ((H : Int) / 2 ^ m) 1 = ((H / 2 ^ m % 2 : Nat) : Int) := ask_bit H m hHlt
        generalize hfm : Vc.cnt (v.take k) m = x at gm hmk
        have HX := Lib.hid hfm
        have HL := Lib.hid hHlt
        clear hH hfm hHlt
        rw [hr]
        by_cases hx : 0 < x
        · rw [if_pos hx] at hmk
          rw [hmk] at hbit
          clear hmk
          have HS := Lib.hid (cnt_keep v k m hkv HS2.out (by rw [HX.out]; omega))
          go_wp2
          go_roundw
          case rel =>
            refine ⟨k + 1, by omega, by go_num, HB4.out, ?_⟩
            rw [HS.out, ← HH.out]
            exact HK3.out
          case measure => simp [intOf]; omega
        · rw [if_neg hx] at hmk
          rw [hmk] at hbit
          clear hmk
          have hx0 : x = 0 := by
            have := Vc.cnt_nonneg (v.take k) m
            rw [HX.out] at this
            omega
          have HS := Lib.hid (cnt_next v k sc m hkv HS1.out HS2.out r1 (by omega) (by rw [HX.out]; exact hx0))
          clear hx0
          go_wp2
          go_roundw
          case rel =>
            refine ⟨k + 1, by omega, by go_num, (HB4.out.setCell (p := ⟨w.heap.size, m, none⟩) (Nat.le_refl _) _).setCell (p := ⟨w.heap.size, 64, none⟩) (Nat.le_refl _) _, ?_⟩
            have h5 := (HK3.out.set_ m (.int .i64 sc)).set_ 64 (.int .u64 ((H ||| 2 ^ m : Nat) : Int))
            rw [cc_set _ _ _ _ (by omega), cc_sethas] at h5
            rw [or_bit H m HL.out (by omega)]
            rw [HH.out] at h5 ⊢
            rw [HS.out.2, ← cc_congr HS.out.1]
            exact h5
          case measure => simp [intOf]; omega
      · have hr' : Vc.right (sc, sn) = false := by simpa using hr
        have HS := Lib.hid (cnt_skip v k sc sn hkv HS1.out HS2.out hr')
        clear hr
        rw [hr']
        go_wp2
        go_roundw
        case rel =>
          refine ⟨k + 1, by omega, by go_num, HB4.out, ?_⟩
          rw [HS.out]
          exact HK3.out
        case measure => simp [intOf]; omega
    · obtain rfl : k = n := by omega
      have ht : v.take k = v := List.take_of_length_le (by omega)
      rw [ht] at hblk
      have HK := Lib.hid hblk
      have hty := Tryd.underlying89
      clear hR hblk ht hl
      go_wp2_with (first
        | (refine wpList_load_row rfl 89 _ rfl w.heap.size rfl 89 _ _ _ HK.out Tryd.underlying89 rfl (by rw [cc_size]; exact HI.out) ?_)
        | (refine wpList_store_blk rfl 89 _ _ rfl w.heap.size 89 _ (cc (Vc.cnt v) (has_ (Vc.cnt v))) rfl rfl HK.out (by rw [cc_size]; exact HI.out) rfl (cc_oneCell _ _) ?_; intro w4 hk4 hg4))
      refine bodyPost_ret (results_cell_row rfl _ _ w.heap.size 89 _ _ _ rfl hk4 Tryd.underlying89 rfl (by rw [cc_size]; exact HI.out)) rfl ⟨rfl, hb.trans (grown_below hg4 hb.size (fun k hk => by cases hk; exact Nat.le_refl _))⟩
end Go.Proofs.YtldcgmnfohhjbaaDoor
