/- Walk over the document's Counts. -/
import Derived.Test.YtldcgmnfohhjbaaDoorVecC
import Derived.BigRegion
import Derived.Deep.RegionHeld3
namespace Go.Proofs.YtldcgmnfohhjbaaDoor
open Go.RowKit
set_option maxRecDepth 100000

/-- The 64 counts as an array. -/
def a64 (f : Nat → Int) : Array Value := (c64 f).toArray
theorem a64_size (f : Nat → Int) : (a64 f).size = 64 := by simp [a64, c64]
theorem a64_at (f : Nat → Int) (n : Nat) (hn : n < 64) : (a64 f)[n]? = some (.int .i64 (f n)) := by simp [a64, c64, hn]
theorem a64_set (f : Nat → Int) (m : Nat) (x : Int) (hm : m < 64) : (a64 f).setIfInBounds m (.int .i64 x) = a64 (upd f m x) := by
  apply Array.ext_getElem?
  intro i
  rw [Array.getElem?_setIfInBounds]
  by_cases hi : i < 64
  · rw [a64_at (upd f m x) i hi]
    by_cases he : m = i
    · subst he; simp [a64_size, upd]; omega
    · rw [if_neg he, a64_at f i hi, upd, if_neg (by omega)]
  · rw [if_neg (by omega), Array.getElem?_eq_none (by rw [a64_size]; omega), Array.getElem?_eq_none (by rw [a64_size]; omega)]
theorem a64_congr {f g : Nat → Int} (e : ∀ n, n < 64 → f n = g n) : a64 f = a64 g := by
  unfold a64 c64
  congr 1
  exact List.map_congr_left fun n hn => by rw [e n (by simpa using hn)]
theorem a64_oneCell (f : Nat → Int) : (a64 f).all (·.oneCell') = true := by
  rw [Array.all_eq_true']
  intro x hx
  simp only [a64, c64, List.mem_toArray, List.mem_map] at hx
  obtain ⟨n, _, rfl⟩ := hx
  rfl
theorem zero_array : (Tryd.prog.info? 86).map (fun i => (i.zero, i.size)) = some (some (.agg (a64 (fun _ => 0))), 64) := by kernel_rfl

theorem cnt_cons_hit (v : List Vc.St) (k : Nat) (sc : Int) (m : Nat) (h : k < v.length) (h1 : v[k].1 = sc) (h2 : v[k].2 = (m : Int)) (hr : Vc.right (sc, (m : Int)) = true) :
    ∀ n, upd (Vc.cnt (v.drop (k + 1))) m sc n = Vc.cnt (v.drop k) n := fun n => by
  have e : v[k] = (sc, (m : Int)) := by rw [← h1, ← h2]
  rw [List.drop_eq_getElem_cons h, Vc.cnt, e, upd]
  by_cases hn : n = m
  · subst hn; rw [if_pos rfl, if_pos ⟨hr, rfl⟩]
  · rw [if_neg hn, if_neg]
    rintro ⟨_, c⟩
    simp only at c
    omega
theorem cnt_cons_miss (v : List Vc.St) (k : Nat) (sc sn : Int) (h : k < v.length) (h1 : v[k].1 = sc) (h2 : v[k].2 = sn) (hr : Vc.right (sc, sn) = false) :
    Vc.cnt (v.drop (k + 1)) = Vc.cnt (v.drop k) := by
  funext n
  have e : v[k] = (sc, sn) := by rw [← h1, ← h2]
  rw [List.drop_eq_getElem_cons h, Vc.cnt, e, if_neg (by rw [hr]; simp)]

set_option maxHeartbeats 1000000 in
theorem refCounts_any (A : Option Addr) (n c : Nat) (v : List Vc.St) (w : World) (hl : v.length = n) (hR : Rd w w.heap.size 2 A n c (sv v)) :
    Calls Tryd.prog 75 #[.slice A n c] w fun e w' => e = .returned (.agg (a64 (Vc.cnt v))) ∧ Below w.heap.size w w' := by
  obtain ⟨hz, hi⟩ := zero_of_info zero_array
  have HI := Lib.hid hi
  clear hi
  have hmax : n ≤ 9223372036854775807 := by have h1 := hR.cap; have h2 := hR.max; unfold maxLen at h2; omega
  go_enter Tryd.func75, Tryd.ntmps75
  go_wp2
  go_loopw [4] (fun i wr => ∃ j : Nat, j ≤ n ∧ i = .int .i64 ((j : Int) - 1) ∧ Below w.heap.size w wr ∧ Blk wr w.heap.size 86 (a64 fun _ => 0) ∧ Blk wr (w.heap.size + 1) 86 (a64 (Vc.cnt (v.drop j)))) (fun i _ => (intOf i + 1).toNat)
  case atStart =>
    refine ⟨n, Nat.le_refl _, rfl, ((Below.refl _ _).alloc (Nat.le_refl _) _).alloc (by simp) _, (Blk.new _ _ _).alloc _, ?_⟩
    rw [List.drop_of_length_le (by omega)]
    have := Blk.new (w.alloc (.cells (a64 fun _ => 0) 86)) 86 (a64 fun _ => 0)
    rw [World.size_alloc] at this
    exact this
  case round =>
    obtain ⟨j, hj, rfl, hb, hz2, hblk⟩ := hrel
    rcases j with _ | k
    · have HK := Lib.hid hblk
      have HZ := Lib.hid hz2
      clear hR hblk hz2 hl
      rw [List.drop_zero] at HK
      go_wp2_with (first
        | (refine wpList_load_row rfl 86 _ rfl (w.heap.size + 1) rfl 86 _ _ _ HK.out Tryd.underlying86 rfl (by rw [a64_size]; exact HI.out) ?_)
        | (refine wpList_store_blk rfl 86 _ _ rfl w.heap.size 86 _ (a64 (Vc.cnt v)) rfl rfl HZ.out (by rw [a64_size]; exact HI.out) rfl (a64_oneCell _) ?_; intro w4 hk4 hg4))
      refine bodyPost_ret (results_cell_row rfl _ _ w.heap.size 86 _ _ _ rfl hk4 Tryd.underlying86 rfl (by rw [a64_size]; exact HI.out)) rfl ⟨rfl, hb.trans (grown_below hg4 hb.size (fun k hk => by cases hk; exact Nat.le_refl _))⟩
    · have hkv : k < v.length := by omega
      obtain ⟨b, o, rfl, hab, h0, h1⟩ := (hR.below hb).stamp hl (k := k) (by omega)
      generalize hs1 : (v[k]'hkv).1 = sc at h0
      generalize hs2 : (v[k]'hkv).2 = sn at h1
      have HS1 := Lib.hid hs1
      have HS2 := Lib.hid hs2
      clear hs1 hs2 hR
      have HB := Lib.hid hb
      have hB := hblk.lt
      have HK := Lib.hid hblk
      have HZ := Lib.hid hz2
      have e1 : (((k + 1 : Nat) : Int) - 1) = (k : Int) := by omega
      rw [e1]
      clear hb hblk hz2 hl e1
      go_wp2_with fail
      refine (refRight_any sc sn _).mono ?_
      rintro e w3 ⟨rfl, hb3⟩
      have HK3 := Lib.hid (HK.out.go hb3)
      have HZ3 := Lib.hid (HZ.out.go hb3)
      have HB4 := Lib.hid (below_then HB.out (Nat.le_refl _) hb3)
      have k0 : w3.cell? ⟨b, o + k * 2, none⟩ = some (.int .i64 sc) := by rw [hb3.cell (p := ⟨b, o + k * 2, none⟩) (by simp only; omega)]; exact h0
      have k1 : w3.cell? ⟨b, o + k * 2 + 1, none⟩ = some (.int .i64 sn) := by rw [hb3.cell (p := ⟨b, o + k * 2 + 1, none⟩) (by simp only; omega)]; exact h1
      clear hb3 HB HK HZ h0 h1
      rcases hr : Vc.right (sc, sn) with _ | _
      · have HS := Lib.hid (cnt_cons_miss v k sc sn hkv HS1.out HS2.out hr)
        clear hr
        go_wp2
        go_roundw
        case rel =>
          refine ⟨k, by omega, by go_num, HB4.out, HZ3.out, ?_⟩
          rw [← HS.out]
          exact HK3.out
        case measure => simp [intOf]
      · obtain ⟨r1, r2, r3⟩ := (Vc.right_iff (sc, sn)).1 hr
        simp only at r1 r2 r3
        obtain ⟨m, rfl⟩ := Int.eq_ofNat_of_zero_le r2
        have HS := Lib.hid (cnt_cons_hit v k sc m hkv HS1.out HS2.out hr)
        clear hr
        have gm := HK3.out.cell m
        rw [a64_at _ _ (by omega)] at gm
        have fm := HK3.out.frozen m
        go_wp2
        go_region
        go_wp2
        go_roundw
        case rel =>
          refine ⟨k, by omega, by go_num, (HB4.out.drew).setCell (p := ⟨w.heap.size + 1, m, none⟩) (by simp) _, Blk.far (w := w3.drew) HZ3.out (by simp) _, ?_⟩
          have h5 := Blk.set_ (w := w3.drew) HK3.out m (.int .i64 sc)
          rw [a64_set _ _ _ (by omega), a64_congr (fun n _ => HS.out n)] at h5
          exact h5
        case measure => simp [intOf]
end Go.Proofs.YtldcgmnfohhjbaaDoor
