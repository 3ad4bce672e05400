/- Walk over the document's Meet at spans. -/
import Derived.Test.YticnfjfdeagmaaaDoorSpJ
namespace Go.Proofs.YticnfjfdeagmaaaDoor
open Go.RowKit
set_option maxRecDepth 100000

/-- The first k places of one, the others of another. -/
def mixB (r p : Nat → Bool) (k : Nat) : Nat → Bool := fun o => if o < k then r o else p o
theorem mixB_next (r p : Nat → Bool) (k : Nat) : ∀ n, updB (mixB r p k) k (r k) n = mixB r p (k + 1) n := fun n => by
  unfold updB mixB
  by_cases h : n = k
  · subst h; simp
  · rw [if_neg h]
    by_cases h2 : n < k
    · rw [if_pos h2, if_pos (by omega)]
    · rw [if_neg h2, if_neg (by omega)]
theorem mixB_at (r p : Nat → Bool) (k : Nat) : mixB r p k k = p k := by unfold mixB; rw [if_neg (by omega)]
theorem mixB_start (r p : Nat → Bool) : ∀ n, mixB r p 0 n = p n := fun n => by unfold mixB; rw [if_neg (by omega)]
theorem mixB_end (r p : Nat → Bool) : ∀ n, n < 256 → mixB r p 256 n = r n := fun n h => by unfold mixB; rw [if_pos h]
set_option maxHeartbeats 4000000 in
theorem refMeetS_any (A : Option Addr) (n c : Nat) (l : List Sn.Sp) (B : Option Addr) (m d : Nat) (l2 : List Sn.Sp) (w : World) (hl : l.length = n) (hR : Rd w w.heap.size 2 A n c (sv l)) (hl2 : l2.length = m) (hR2 : Rd w w.heap.size 2 B m d (sv l2)) :
    Calls Tryd.prog 55 #[.slice A n c, .slice B m d] w fun e w' => SpOut w w' e (Sn.meetL l l2) := by
  obtain ⟨hz, hi⟩ := zero_of_info zero_marks
  have HI := Lib.hid hi
  have HT := Lib.hid (refSet_any A n c l w hl hR)
  have HT2 := Lib.hid (fun (V : World) (hb : Below w.heap.size w V) => refSet_any B m d l2 V hl2 (hR2.go hb))
  have HM := Lib.hid (show Sn.meetL l l2 = Sn.of fun o => Sn.setOf l o && Sn.setOf l2 o from rfl)
  clear hi hR hl hR2 hl2
  generalize Sn.setOf l = p at HT HM
  generalize Sn.setOf l2 = q at HT2 HM
  go_enter Tryd.func55, Tryd.ntmps55
  go_wp2_with (first
    | (go_at_call 48; have hbx := hb1; go_must (refine (HT2.out _ hbx).mono ?_); clear hbx; rintro e w2 ⟨rfl, hb2⟩; have hZ := Blk.new (w2.alloc (.cells (b256 fun _ => false) 70)) 70 (b256 fun _ => false); rw [World.size_alloc] at hZ; have HZ := Lib.hid hZ; clear hZ)
    | (go_at_call 48; go_must (refine HT.out.mono ?_); rintro e w1 ⟨rfl, hb1⟩)
    | (have hh := hk4; refine wpList_store_blk rfl 70 _ _ rfl (w2.heap.size + 1) 70 _ (b256 q) rfl rfl (HZ.out.grown hg4 (by simp)) (by rw [b256_size]; exact HI.out) rfl (b256_oneCell _) ?_; clear hh; intro w5 hk5 hg5)
    | (refine wpList_store_blk rfl 70 _ _ rfl w2.heap.size 70 _ (b256 p) rfl rfl ((Blk.new w2 70 (b256 fun _ => false)).alloc _) (by rw [b256_size]; exact HI.out) rfl (b256_oneCell _) ?_; intro w4 hk4 hg4))
  have hb6 := below_then hb1 (Nat.le_refl _) hb2
  have hw2 := hb6.size
  have hb5 := (((hb6.alloc hw2 (.cells (b256 fun _ => false) 70)).alloc (by simp; omega) (.cells (b256 fun _ => false) 70)).trans (grown_below hg4 (by simp; omega) (fun k hk => by cases hk; exact hw2))).trans (grown_below hg5 (by have := hg4.size; simp at this; omega) (fun k hk => by cases hk; omega))
  have HB := Lib.hid hb5
  have HS := Lib.hid (hk4.grown hg5 (by simp))
  have HQ := Lib.hid hk5
  clear hb5 hb6 hb1 hb2 hk4 hk5 hg4 hg5 HZ HT HT2
  go_loopw [7] (fun v7 wr => ∃ k : Nat, k ≤ 256 ∧ v7 = .int .i64 k ∧ Below w.heap.size w wr ∧ Blk wr w2.heap.size 70 (b256 (mixB (fun o => p o && q o) p k)) ∧ Blk wr (w2.heap.size + 1) 70 (b256 q)) (fun v7 _ => 256 - (intOf v7).toNat)
  case atStart => exact ⟨0, by omega, rfl, HB.out, by rw [b256_congr fun n _ => mixB_start _ p n]; exact HS.out, HQ.out⟩
  case round =>
    obtain ⟨k, hk, rfl, hb, hs, ht⟩ := hrel
    by_cases hlt : k < 256
    · have gp := hs.cell k
      rw [b256_at _ _ hlt, mixB_at] at gp
      have gq := ht.cell k
      rw [b256_at _ _ hlt] at gq
      have fk := hs.frozen k
      have hsz := hs.lt
      have H1 := Lib.hid hb
      have H2 := Lib.hid hs
      have H3 := Lib.hid ht
      have HN := Lib.hid (fun n (_ : n < 256) => mixB_next (fun o => p o && q o) p k n)
      clear hb hs ht
      generalize hpk : p k = x at gp
      generalize hqk : q k = y at gq
      have HPK := Lib.hid hpk
      have HQK := Lib.hid hqk
      clear hpk hqk
      rcases x with _ | _ <;> rcases y with _ | _
      all_goals
        go_wp2
        go_roundw
        case rel =>
          refine ⟨k + 1, by omega, by go_num, H1.out.setCell (p := ⟨w2.heap.size, k, none⟩) hw2 _, ?_, Blk.far H3.out (by simp) _⟩
          rw [← b256_congr HN.out, ← b256_set _ _ _ hlt, HPK.out, HQK.out]
          exact H2.out.set_ k _
        case measure => simp [intOf]; omega
    · obtain rfl : k = 256 := by omega
      rw [b256_congr (mixB_end _ p)] at hs
      have HSS := Lib.hid hs
      have hbs := hb.size
      go_wp2_with (first
        | (refine wpList_load_row rfl 70 _ rfl w2.heap.size rfl 70 _ _ _ HSS.out Tryd.underlying70 rfl (by rw [b256_size]; exact HI.out) ?_)
        | (go_at_call 47; go_must (refine (refOfS_any _ _).mono ?_); rintro e w6 ⟨A6, c6, rfl, ho6, hb6⟩))
      go_ret
      refine ⟨A6, c6, by rw [HM.out] <;> rfl, ?_, below_then hb (Nat.le_refl _) hb6⟩
      rw [HM.out]
      exact own_less ho6 hbs
end Go.Proofs.YticnfjfdeagmaaaDoor
