/- Walks over the document's Some and Join at spans. -/
import Derived.Test.YticnfjfdeagmaaaDoorSpM
namespace Go.Proofs.YticnfjfdeagmaaaDoor
open Go.RowKit
set_option maxRecDepth 100000

theorem setOf_ones (L : List Int) (k : Nat) (h : k < L.length) (o : Nat) : Sn.setOf (ones (L.take (k + 1))) o = (Sn.setOf (ones (L.take k)) o || decide (L[k] = (o : Int))) := by
  rw [List.take_succ_eq_append_getElem h]
  unfold ones Sn.setOf
  rw [List.map_append, Sn.inB_app]
  simp only [List.map_cons, List.map_nil, Sn.inB, List.any_cons, List.any_nil, Bool.or_false]
  congr 1
  rw [Bool.eq_iff_iff]; simp; omega
theorem updB_hit (p q : Nat → Bool) (m : Nat) (h : ∀ o, q o = (p o || decide ((m : Int) = (o : Int)))) : ∀ n, updB p m true n = q n := fun n => by
  rw [h n]; unfold updB
  by_cases e : n = m
  · subst e; simp
  · rw [if_neg e, decide_eq_false (by omega), Bool.or_false]

theorem setOf_flat (vs : List (List Sn.Sp)) (k : Nat) (h : k < vs.length) (o : Nat) : Sn.setOf (vs.take (k + 1)).flatten o = (Sn.setOf (vs.take k).flatten o || Sn.setOf vs[k] o) := by
  rw [List.take_succ_eq_append_getElem h, List.flatten_append]
  unfold Sn.setOf
  rw [Sn.inB_app]
  simp

set_option maxHeartbeats 8000000 in
theorem refJoinS_any (A : Option Addr) (n c : Nat) (vs : List (List Sn.Sp)) (w : World) (hR : RdL w w.heap.size A n c vs) :
    Calls Tryd.prog 53 #[.slice A n c] w fun e w' => SpOut w w' e (Sn.tidy vs.flatten) := by
  obtain ⟨hz, hi⟩ := zero_of_info zero_marks
  have HI := Lib.hid hi
  have hmx : n ≤ 9223372036854775807 := by have h1 := hR.cap; have h2 := hR.max; unfold maxLen at h2; omega
  have HL := Lib.hid hR.len
  have HR := Lib.hid hR
  clear hi hR
  go_enter Tryd.func53, Tryd.ntmps53
  go_wp2
  go_loopw [4] (fun v4 wr => ∃ k : Nat, k ≤ n ∧ v4 = .int .i64 k ∧ Below w.heap.size w wr ∧ Blk wr w.heap.size 70 (b256 (Sn.setOf (vs.take k).flatten))) (fun v4 _ => n - (intOf v4).toNat)
  case atStart => exact ⟨0, by omega, rfl, (Below.refl _ _).alloc (Nat.le_refl _) _, Blk.new w 70 (b256 fun _ => false)⟩
  case round =>
    obtain ⟨k, hk, rfl, hb, hs⟩ := hrel
    have hbs := hb.size
    by_cases hlt : k < n
    · have hkv : k < vs.length := by rw [HL.out]; exact hlt
      obtain ⟨b, o, Ak, nk, ck, rfl, hbB, hcell, hvl, hRk⟩ := (HR.out.below hb).at_ k hkv
      have hsz := hs.lt
      have H1 := Lib.hid (refSet_any Ak nk ck vs[k] wr hvl (hRk.more hb.size))
      have HT := Lib.hid (setOf_flat vs k hkv)
      obtain ⟨q2, hq2⟩ : ∃ q2, q2 = Sn.setOf (vs.take (k + 1)).flatten := ⟨_, rfl⟩
      rw [← hq2] at HT
      have HQ2 := Lib.hid hq2
      clear hq2
      generalize Sn.setOf (vs.take k).flatten = q at HT hs
      generalize Sn.setOf vs[k] = t at HT H1
      have HK := Lib.hid hs
      have HB := Lib.hid hb
      clear hRk hs hb hvl hkv
      go_wp2_with (first
        | (go_at_call 48; go_must (refine H1.out.mono ?_); rintro e w1 ⟨rfl, hb1⟩; have hw1 := hb1.size; have HN := Lib.hid (Blk.new w1 70 (b256 fun _ => false)))
        | (refine wpList_store_blk rfl 70 _ _ rfl w1.heap.size 70 _ (b256 t) rfl rfl HN.out (by rw [b256_size]; exact HI.out) rfl (b256_oneCell _) ?_; intro w3 hk3 hg3))
      have hb3 : Below w.heap.size w w3 := (below_then HB.out (Nat.le_refl _) hb1 |>.alloc (by omega) _).trans (grown_below hg3 (by simp; omega) (fun k hk => by cases hk; omega))
      have hk4 : Blk w3 w.heap.size 70 (b256 q) := ((HK.out.go hb1).alloc _).grown hg3 (by simp; omega)
      have hlt1 : w.heap.size < w1.heap.size := by omega
      clear hg3 HN HK HB hb1 H1
      go_loopw [6] (fun v6 wr => ∃ j : Nat, j ≤ 256 ∧ v6 = .int .i64 j ∧ Below w.heap.size w wr ∧ Blk wr w1.heap.size 70 (b256 t) ∧ Blk wr w.heap.size 70 (b256 (mixB q2 q j))) (fun v6 _ => 256 - (intOf v6).toNat)
      case atStart => exact ⟨0, by omega, rfl, hb3, hk3, by rw [b256_congr fun n _ => mixB_start q2 q n]; exact hk4⟩
      case round =>
        obtain ⟨j, hj, rfl, hb5, p1, p2⟩ := hrel
        clear hb3 hk3 hk4
        by_cases hj6 : j < 256
        · have g1 := p1.cell j
          have g2 := p2.cell j
          have fj := p2.frozen j
          rw [b256_at _ _ hj6] at g1 g2
          rw [mixB_at] at g2
          have HM := Lib.hid (HT.out j)
          have HNX := Lib.hid (fun n (_ : n < 256) => mixB_next q2 q j n)
          generalize hx : q j = x at g2 HM
          generalize hy : t j = y at g1 HM
          have P1 := Lib.hid p1
          have P2 := Lib.hid p2
          have HB := Lib.hid hb5
          have hsz2 := p2.lt
          clear hx hy p1 p2 hb5
          rcases x with _ | _ <;> rcases y with _ | _
          all_goals
            go_wp2
            go_roundw
            case rel =>
              refine ⟨j + 1, by omega, by go_num, HB.out.setCell (p := ⟨w.heap.size, j, none⟩) (Nat.le_refl _) _, Blk.far P1.out (by simp; omega) _, ?_⟩
              have h5 := P2.out.set_ j (.bool (q2 j))
              rw [b256_set _ _ _ hj6, b256_congr HNX.out, HM.out] at h5
              exact h5
            case measure => simp [intOf]; omega
        · obtain rfl : j = 256 := by omega
          have P2 := Lib.hid p2
          have HB := Lib.hid hb5
          clear p1 p2 hb5
          go_wp2
          go_roundw
          case rel =>
            refine ⟨k + 1, by omega, by go_num, HB.out, ?_⟩
            rw [← HQ2.out, ← b256_congr (mixB_end q2 q)]
            exact P2.out
          case measure => simp [intOf]; omega
    · obtain rfl : k = n := by omega
      rw [List.take_of_length_le (by rw [HL.out]; exact Nat.le_refl _)] at hs
      have HS := Lib.hid hs
      have HM := Lib.hid (show Sn.tidy vs.flatten = Sn.of (Sn.setOf vs.flatten) from rfl)
      clear hs
      generalize Sn.setOf vs.flatten = p at HS HM
      go_wp2_with (first
        | (refine wpList_load_row rfl 70 _ rfl w.heap.size rfl 70 _ _ _ HS.out Tryd.underlying70 rfl (by rw [b256_size]; exact HI.out) ?_)
        | (go_at_call 47; go_must (refine (refOfS_any _ _).mono ?_); rintro e w6 ⟨A6, c6, rfl, ho6, hb6⟩))
      go_ret
      refine ⟨A6, c6, by rw [HM.out] <;> rfl, ?_, below_then hb (Nat.le_refl _) hb6⟩
      rw [HM.out]
      exact own_less ho6 hbs
end Go.Proofs.YticnfjfdeagmaaaDoor
