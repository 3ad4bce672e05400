/- Walk over the document's Size at spans. -/
import Derived.Test.YtafbaagjokomcaaSpI
namespace Go.Proofs.Ytafbaagjokomcaa
open Go.RowKit
set_option maxRecDepth 100000

/-- How many of the first k objects are in a set. -/
def numTo (p : Nat → Bool) (k : Nat) : Nat := ((List.range k).filter p).length
theorem numTo_hit (p : Nat → Bool) (k : Nat) (h : p k = true) : numTo p (k + 1) = numTo p k + 1 := by unfold numTo; rw [List.range_succ, List.filter_append, List.length_append]; simp [h]
theorem numTo_miss (p : Nat → Bool) (k : Nat) (h : p k = false) : numTo p (k + 1) = numTo p k := by unfold numTo; rw [List.range_succ, List.filter_append, List.length_append]; simp [h]
theorem numTo_le (p : Nat → Bool) (k : Nat) : numTo p k ≤ k := by
  have := List.length_filter_le p (List.range k)
  rw [List.length_range] at this
  exact this
set_option maxHeartbeats 2000000 in
theorem refSizeS_any (A : Option Addr) (n c : Nat) (l : List Sn.Sp) (w : World) (hl : l.length = n) (hR : Rd w w.heap.size 2 A n c (sv l)) :
    Calls Try.prog 15 #[.slice A n c] w fun e w' => e = .returned (.int .i64 (numTo (Sn.setOf l) 256 : Nat)) ∧ Below w.heap.size w w' := by
  obtain ⟨hz, hi⟩ := zero_of_info zero_marks
  have HI := Lib.hid hi
  have HT := Lib.hid (refSet_any A n c l w hl hR)
  clear hi hR hl
  generalize Sn.setOf l = p at HT
  go_enter Try.func15, Try.ntmps15
  go_wp2_with (first
    | (go_at_call 13; go_must (refine HT.out.mono ?_); rintro e w1 ⟨rfl, hb1⟩)
    | (refine wpList_store_blk rfl 29 _ _ rfl w1.heap.size 29 _ (b256 p) rfl rfl (Blk.new w1 29 (b256 fun _ => false)) (by rw [b256_size]; exact HI.out) rfl (b256_oneCell _) ?_; intro w4 hk4 hg4))
  have hb4 := (hb1.alloc hb1.size _).trans (grown_below hg4 (by simp; exact Nat.le_succ_of_le hb1.size) (fun k hk => by cases hk; exact hb1.size))
  have HB := Lib.hid hb4
  have HK := Lib.hid hk4
  clear hb4 hk4 hg4 HT
  go_loopw [4, 5] (fun v4 v5 wr => ∃ k : Nat, k ≤ 256 ∧ v4 = .int .i64 (numTo p k : Nat) ∧ v5 = .int .i64 k ∧ Below w.heap.size w wr ∧ Blk wr w1.heap.size 29 (b256 p)) (fun _ v5 _ => 256 - (intOf v5).toNat)
  case atStart => exact ⟨0, by omega, rfl, rfl, HB.out, HK.out⟩
  case round =>
    obtain ⟨k, hk, rfl, rfl, hb, hblk⟩ := hrel
    have hnl := numTo_le p k
    by_cases hlt : k < 256
    · have gk := hblk.cell k
      rw [b256_at _ _ hlt] at gk
      have HBB := Lib.hid hb
      have HKK := Lib.hid hblk
      clear hb hblk
      rcases hp : p k with _ | _
      · have HN := Lib.hid (numTo_miss p k hp)
        rw [hp] at gk
        clear hp
        go_wp2
        go_roundw
        case rel => exact ⟨k + 1, by omega, by rw [HN.out], by go_num, HBB.out, HKK.out⟩
        case measure => simp [intOf]; omega
      · have HN := Lib.hid (numTo_hit p k hp)
        rw [hp] at gk
        clear hp
        generalize hq : numTo p k = q at HN hnl
        have HQ := Lib.hid hq
        clear hq
        go_wp2
        go_roundw
        case rel => exact ⟨k + 1, by omega, by rw [HN.out]; go_num, by go_num, HBB.out, HKK.out⟩
        case measure => simp [intOf]; omega
    · obtain rfl : k = 256 := by omega
      go_wp2
      go_ret
      exact ⟨rfl, hb⟩
end Go.Proofs.Ytafbaagjokomcaa
