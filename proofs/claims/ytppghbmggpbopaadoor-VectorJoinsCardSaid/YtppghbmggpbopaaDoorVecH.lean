/- The document's Meet. -/
import Derived.Test.YtppghbmggpbopaaDoorVecG
namespace Go.Proofs.YtppghbmggpbopaaDoor
open Go.RowKit
set_option maxRecDepth 100000

/-- The least counts. -/
def mt : List (List Vc.St) → Nat → Int
  | [], _ => 0
  | v :: r, n => r.foldl (fun a u => min a (Vc.cnt u n)) (Vc.cnt v n)
theorem mt_snoc (vs : List (List Vc.St)) (v : List Vc.St) (n : Nat) (h : vs ≠ []) : mt (vs ++ [v]) n = min (mt vs n) (Vc.cnt v n) := by
  cases vs with
  | nil => exact absurd rfl h
  | cons u r => simp [mt]
theorem vec_zero : vec (fun _ => 0) = [] := by
  have : Vc.upto (pos fun _ => 0) 64 = [] := by
    rw [Vc.upto, List.filter_eq_nil_iff]; intro a _; simp [pos]
  rw [vec, vecTo, this]; rfl
theorem mt_nil : vec (mt []) = [] := by rw [show mt [] = fun _ => 0 from rfl, vec_zero]

theorem refMeet_nil (w : World) : Calls Tryd.prog 20 #[.slice none 0 0] w fun e w' => e = .returned (.slice none 0 0) ∧ w = w' := by
  go_enter Tryd.func20, Tryd.ntmps20
  go_wp2
  go_ret
  exact ⟨rfl, rfl⟩
theorem refMeet_zero (a : Addr) (c : Nat) (w : World) : Calls Tryd.prog 20 #[.slice (some a) 0 c] w fun e w' => e = .returned (.slice none 0 0) ∧ w = w' := by
  go_enter Tryd.func20, Tryd.ntmps20
  go_wp2
  go_ret
  exact ⟨rfl, rfl⟩

set_option maxHeartbeats 2000000 in
theorem refMeet_ne (A : Option Addr) (n c : Nat) (vs : List (List Vc.St)) (w : World) (hR : RdL w w.heap.size A n c vs) (hn : 0 < n) :
    Calls Tryd.prog 20 #[.slice A n c] w fun e w' => ∃ A' c', e = .returned (.slice A' (vec (mt vs)).length c') ∧
      w'.ownsRow w.heap.size 29 2 (.slice A' (vec (mt vs)).length c') (vec (mt vs)).length (sv (vec (mt vs))) ∧ Below w.heap.size w w' := by
  obtain ⟨hz, hi⟩ := zero_of_info zero_array
  have HI := Lib.hid hi
  clear hi
  have hlen := hR.len
  have hmax : n ≤ 9223372036854775807 := by have h1 := hR.cap; have h2 := hR.max; unfold maxLen at h2; omega
  obtain ⟨b0, o0, A0, n0, c0, rfl, hb0, hcell0, hvl0, hR0⟩ := hR.at_ 0 (by omega)
  rw [Nat.add_zero] at hcell0
  have hv0 : 0 < vs.length := by omega
  have H0 := Lib.hid (refCounts_any A0 n0 c0 (vs[0]'hv0) w hvl0 hR0)
  have hbe : ((n : Int) == 0) = false := beq_eq_false_iff_ne.2 (by omega)
  have HRR := Lib.hid hR
  clear hR hR0 hvl0
  go_enter Tryd.func20, Tryd.ntmps20
  go_wp2_with fail
  refine H0.out.mono ?_
  rintro e w0 ⟨rfl, hb00⟩
  have HN0 := Lib.hid (Blk.new w0 45 (a64 fun _ => 0))
  have HB00 := Lib.hid hb00
  have hs0 := hb00.size
  clear H0 hb00 hcell0
  go_wp2_with (refine wpList_store_blk rfl 45 _ _ rfl w0.heap.size 45 _ (a64 (Vc.cnt (vs[0]'hv0))) rfl rfl HN0.out (by rw [a64_size]; exact HI.out) rfl (a64_oneCell _) ?_; intro wz hkz hgz)
  have hbz : Below w.heap.size w wz := (HB00.out.alloc hs0 _).trans (grown_below hgz (by simp; omega) (fun k hk => by cases hk; omega))
  have HRz := Lib.hid (HRR.out.below hbz)
  obtain ⟨Z, hZ⟩ : ∃ Z, Z = w0.heap.size := ⟨_, rfl⟩
  rw [← hZ] at hkz hs0 ⊢
  clear hgz HN0 HB00 HRR hZ
  go_loopw [4] (fun i wr => ∃ k : Nat, 1 ≤ k ∧ k ≤ n ∧ i = .int .i64 k ∧ Below w.heap.size w wr ∧ RdL wr w.heap.size (some ⟨b0, o0, none⟩) n c vs ∧ Blk wr Z 45 (a64 (mt (vs.take k)))) (fun i _ => n - (intOf i).toNat)
  case atStart =>
    refine ⟨1, by omega, by omega, rfl, hbz, HRz.out, ?_⟩
    have e : mt (vs.take 1) = Vc.cnt (vs[0]'hv0) := by
      rw [take_nextL vs 0 hv0]; rfl
    rw [e]; exact hkz
  case round =>
    obtain ⟨k, hk1, hk, rfl, hb, hR, hblk⟩ := hrel
    clear hbz HRz hkz
    by_cases hlt : k < n
    · have hkv : k < vs.length := by omega
      obtain ⟨b, o, Ak, nk, ck, hA, hbB, hcell, hvl, hRk⟩ := hR.at_ k hkv
      injection hA with hA
      injection hA with hA1 hA2
      subst hA1 hA2
      have hsz := hblk.lt
      have H1 := Lib.hid (refCounts_any Ak nk ck vs[k] wr hvl (hRk.more hb.size))
      obtain ⟨g, hg⟩ : ∃ g, g = Vc.cnt vs[k] := ⟨_, rfl⟩
      rw [← hg] at H1
      have HG := Lib.hid hg
      have HK := Lib.hid hblk
      have HB := Lib.hid hb
      have HR := Lib.hid hR
      have hsb := hb.size
      clear hR hRk hblk hb hvl hg
      go_wp2_with fail
      refine H1.out.mono ?_
      rintro e w1 ⟨rfl, hb1⟩
      have HK1 := Lib.hid (HK.out.go hb1)
      have HB1 := Lib.hid (below_then HB.out (Nat.le_refl _) hb1)
      have HR1 := Lib.hid (HR.out.below (hb1.mono hsb))
      have hs1 := hb1.size
      have HN := Lib.hid (Blk.new w1 45 (a64 fun _ => 0))
      clear hb1 H1 HK HB HR
      go_wp2_with (refine wpList_store_blk rfl 45 _ _ rfl w1.heap.size 45 _ (a64 g) rfl rfl HN.out (by rw [a64_size]; exact HI.out) rfl (a64_oneCell _) ?_; intro w3 hk3 hg3)
      have hb13 : Below w.heap.size w1 w3 := ((Below.refl w.heap.size w1).alloc (by omega) _).trans (grown_below hg3 (by simp; omega) (fun k hk => by cases hk; omega))
      have hb3 : Below w.heap.size w w3 := HB1.out.trans hb13
      have hk4 : Blk w3 Z 45 (a64 (mt (vs.take k))) := (HK1.out.alloc _).grown hg3 (by simp; omega)
      have hR3 := HR1.out.below hb13
      have hlt1 : Z < w1.heap.size := by omega
      clear hg3 HN HK1 HB1 HR1 hb13
      go_loopw [6] (fun i wr => ∃ j : Nat, j ≤ 64 ∧ i = .int .i64 j ∧ Below w.heap.size w wr ∧ RdL wr w.heap.size (some ⟨b0, o0, none⟩) n c vs ∧ Blk wr w1.heap.size 45 (a64 g) ∧ Blk wr Z 45 (a64 (mix j (mt (vs.take k)) (mt (vs.take (k + 1)))))) (fun i _ => 64 - (intOf i).toNat)
      case atStart => exact ⟨0, by omega, rfl, hb3, hR3, hk3, by rw [mix_zero]; exact hk4⟩
      case round =>
        obtain ⟨j, hj, rfl, hb5, hR5, q1, q2⟩ := hrel
        clear hb3 hk3 hk4 hR3
        by_cases hj6 : j < 64
        · have g1 := q1.cell j
          have g2 := q2.cell j
          have fj := q2.frozen j
          rw [a64_at _ _ hj6] at g1 g2
          rw [mix_at] at g2
          generalize hx : mt (vs.take k) j = x at g2
          generalize hy : g j = y at g1
          have HX := Lib.hid hx
          have HY := Lib.hid hy
          have Q1 := Lib.hid q1
          have Q2 := Lib.hid q2
          have HB := Lib.hid hb5
          have HR := Lib.hid hR5
          have HM := Lib.hid (show (if y < x then y else x) = mt (vs.take (k + 1)) j by rw [take_nextL vs k hkv, mt_snoc _ _ _ (by intro e; have := congrArg List.length e; rw [List.length_take, List.length_nil] at this; omega), ← HG.out, HX.out, HY.out]; split <;> omega)
          clear hx hy q1 q2 hb5 hR5
          go_wp2
          first | go_region | skip
          go_wp2
          go_roundw
          case rel =>
            have hbs : Below w.heap.size w (wr.drew.setCell ⟨Z, j, none⟩ (.int .i64 (if y < x then y else x))) := (HB.out.drew).setCell (p := ⟨Z, j, none⟩) (by simp; omega) _
            have hbw : Below w.heap.size wr (wr.setCell ⟨Z, j, none⟩ (.int .i64 (if y < x then y else x))) := (Below.refl _ _).setCell (p := ⟨Z, j, none⟩) (by simp; omega) _
            refine ⟨j + 1, by omega, by go_num, ⟨hbs.os, hbs.tape, hbs.output, hbs.size, hbs.block⟩, HR.out.below ⟨hbw.os, hbw.tape, hbw.output, hbw.size, hbw.block⟩, Blk.far (w := wr) (p := ⟨Z, j, none⟩) Q1.out (by simp only; omega) _, ?_⟩
            have h5 := Q2.out.set_ j (.int .i64 (mt (vs.take (k + 1)) j))
            rw [a64_set _ _ _ hj6, a64_congr (fun n _ => mix_next _ _ j n)] at h5
            rw [HM.out]
            exact h5
          case measure => simp [intOf]; omega
        · obtain rfl : j = 64 := by omega
          have Q2 := Lib.hid q2
          have HB := Lib.hid hb5
          have HR := Lib.hid hR5
          clear q1 q2 hb5 hR5
          go_wp2
          go_roundw
          case rel =>
            refine ⟨k + 1, by omega, by omega, by go_num, HB.out, HR.out, ?_⟩
            rw [← a64_congr (mix_end (mt (vs.take k)) (mt (vs.take (k + 1))))]
            exact Q2.out
          case measure => simp [intOf]; omega
    · obtain rfl : k = n := by omega
      have ht : vs.take k = vs := List.take_of_length_le (by omega)
      rw [ht] at hblk
      have HK := Lib.hid hblk
      have HB := Lib.hid hb
      have hsz := hblk.lt
      have hsb := hb.size
      clear hR hblk ht hb
      go_wp2_with (first
        | (refine wpList_load_row rfl 45 _ rfl Z rfl 45 _ _ _ HK.out Tryd.underlying45 rfl (by rw [a64_size]; exact HI.out) ?_)
        | (go_at_call 37; go_must (refine (refOf_any (mt vs) _).mono ?_); rintro e w5 ⟨A5, c5, rfl, ho5, hb5⟩))
      go_ret
      exact ⟨A5, c5, rfl, own_less ho5 (by omega), below_then HB.out (Nat.le_refl _) hb5⟩
end Go.Proofs.YtppghbmggpbopaaDoor
