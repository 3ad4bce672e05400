/- Walks over the document's Copy, Covers, Compare. -/
import Derived.Test.YtldcgmnfohhjbaaDoorVecE
namespace Go.Proofs.YtldcgmnfohhjbaaDoor
open Go.RowKit
set_option maxRecDepth 100000

/-- telltaleref02.Copy. -/
theorem vcopy_any (A : Option Addr) (n c : Nat) (xs : List Value) (w : World) (hR : Rd w w.heap.size 2 A n c xs) (h1 : ∀ u ∈ xs, u.oneCell' = true) (hn : n ≤ 8796093022208) :
    Calls Tryd.prog 11 #[.slice A n c] w fun e w' => ∃ A' c', e = .returned (.slice A' n c') ∧ w'.ownsRow w.heap.size 24 2 (.slice A' n c') n xs ∧ Below w.heap.size w w' := by
  have hmax := hR.max
  have hcap := hR.cap
  obtain ⟨i0, hi0, hz0, hz1, hz2⟩ := info_parts stamp_info
  have h63 : 0 + n ≤ maxLen := by omega
  go_enter Tryd.func11, Tryd.ntmps11
  go_wp2_with (at_builtin; go_must (refine wpList_append_rd _ rfl (.tmp 3) (.tmp 4) _ rfl w.heap.size 24 i0 _ 2 16 Tryd.underlying22 hi0 hz0 hz1 hz2 rfl (by decide) (.slice (some ⟨w.heap.size, 0, none⟩) 0 0) 0 [] rfl (own_empty w _ _) w.heap.size A n c xs rfl (hR.alloc (Nat.le_refl _) _) h1 h63 (by omega) (by simp) ?_); intro A' c' w1 hown hg hat)
  go_ret
  exact ⟨A', c', rfl, by simpa using hown, ((Below.refl _ _).alloc (Nat.le_refl _) _).trans (grown_below hg (by simp) (by simp [Value.ownBlock]))⟩

/-- No count of the second is greater. -/
def covB (f g : Nat → Int) : Bool := (List.range 64).all fun n => decide (g n ≤ f n)
theorem covB_iff (f g : Nat → Int) : covB f g = true ↔ ∀ n, n < 64 → g n ≤ f n := by simp [covB]
theorem covB_false {f g : Nat → Int} {n : Nat} (hn : n < 64) (h : f n < g n) : covB f g = false := by
  rcases hc : covB f g with _ | _
  · rfl
  · have := (covB_iff f g).1 hc n hn; omega

set_option maxHeartbeats 1000000 in
theorem refCovers_any (A D : Option Addr) (n c m d : Nat) (u v : List Vc.St) (w : World) (hl : u.length = n) (hl2 : v.length = m) (hR : Rd w w.heap.size 2 A n c (sv u)) (hR2 : Rd w w.heap.size 2 D m d (sv v)) :
    Calls Tryd.prog 57 #[.slice A n c, .slice D m d] w fun e w' => e = .returned (.bool (covB (Vc.cnt u) (Vc.cnt v))) ∧ Below w.heap.size w w' := by
  obtain ⟨hz, hi⟩ := zero_of_info zero_array
  have HI := Lib.hid hi
  have H1 := Lib.hid (refCounts_any A n c u w hl hR)
  have H2 := Lib.hid fun (W : World) (hR : Rd W W.heap.size 2 D m d (sv v)) => refCounts_any D m d v W hl2 hR
  have HR2 := Lib.hid hR2
  obtain ⟨f, hf⟩ : ∃ f, f = Vc.cnt u := ⟨_, rfl⟩
  obtain ⟨g, hg⟩ : ∃ g, g = Vc.cnt v := ⟨_, rfl⟩
  rw [← hf, ← hg]
  rw [← hf] at H1
  rw [← hg] at H2
  clear hi hR hR2 hl hl2 hf hg
  go_enter Tryd.func57, Tryd.ntmps57
  go_wp2_with fail
  refine H1.out.mono ?_
  rintro e w1 ⟨rfl, hb1⟩
  go_wp2_with fail
  refine (H2.out w1 (HR2.out.go hb1)).mono ?_
  rintro e w2 ⟨rfl, hb2⟩
  have hb := below_then hb1 (Nat.le_refl _) hb2
  have B1 : Blk ((w2.alloc (.cells (a64 fun _ => 0) 86)).alloc (.cells (a64 fun _ => 0) 86)) w2.heap.size 86 (a64 fun _ => 0) := (Blk.new _ _ _).alloc _
  have B2 : Blk ((w2.alloc (.cells (a64 fun _ => 0) 86)).alloc (.cells (a64 fun _ => 0) 86)) (w2.heap.size + 1) 86 (a64 fun _ => 0) := by
    have := Blk.new (w2.alloc (.cells (a64 fun _ => 0) 86)) 86 (a64 fun _ => 0)
    rwa [World.size_alloc] at this
  have HB1 := Lib.hid B1
  have HB2 := Lib.hid B2
  have HB := Lib.hid hb
  have hsz := hb.size
  clear B1 B2 hb hb1 hb2 H1 H2 HR2
  go_wp2_with (first
    | (refine wpList_store_blk rfl 86 _ _ rfl w2.heap.size 86 _ (a64 f) rfl rfl HB1.out (by rw [a64_size]; exact HI.out) rfl (a64_oneCell _) ?_; intro w3 hk3 hg3; have hk4 := HB2.out.grown hg3 (by simp); have HG3 := Lib.hid hg3; have HK3 := Lib.hid hk3; have HK4 := Lib.hid hk4; clear hg3 hk3 hk4)
    | (refine wpList_store_blk rfl 86 _ _ rfl (w2.heap.size + 1) 86 _ (a64 g) rfl rfl HK4.out (by rw [a64_size]; exact HI.out) rfl (a64_oneCell _) ?_; intro w5 hk5 hg5; have hk6 := HK3.out.grown hg5 (by simp)))
  have hbw : Below w.heap.size w w5 := by
    have h0 : Below w.heap.size w ((w2.alloc (.cells (a64 fun _ => 0) 86)).alloc (.cells (a64 fun _ => 0) 86)) := (HB.out.alloc hsz _).alloc (by simp; omega) _
    refine h0.trans ?_
    exact (grown_below HG3.out (by simp; omega) (fun k hk => by cases hk; exact hsz)).trans (grown_below hg5 (by have := HG3.out.size; simp at this; omega) (fun k hk => by cases hk; omega))
  clear hg5 HG3 HK3 HK4 HB1 HB2 HB
  go_loopw [7] (fun i wr => ∃ k : Nat, k ≤ 64 ∧ i = .int .i64 k ∧ Below w.heap.size w wr ∧ Blk wr w2.heap.size 86 (a64 f) ∧ Blk wr (w2.heap.size + 1) 86 (a64 g) ∧ Hid (∀ j, j < k → g j ≤ f j)) (fun i _ => 64 - (intOf i).toNat)
  case atStart => exact ⟨0, by omega, rfl, hbw, hk6, hk5, fun j hj => by omega⟩
  case round =>
    obtain ⟨k, hk, rfl, hb, q1, q2, hh⟩ := hrel
    clear hbw hk6 hk5
    by_cases hlt : k < 64
    · have g1 := q1.cell k
      have g2 := q2.cell k
      rw [a64_at _ _ hlt] at g1 g2
      generalize hx : f k = x at g1
      generalize hy : g k = y at g2
      have HX := Lib.hid hx
      have HY := Lib.hid hy
      have Q1 := Lib.hid q1
      have Q2 := Lib.hid q2
      have HB := Lib.hid hb
      clear hx hy q1 q2 hb
      by_cases hxy : x < y
      · have HF := Lib.hid (covB_false (f := f) (g := g) hlt (by rw [HX.out, HY.out]; exact hxy))
        go_wp2
        go_quiet (fail)
        go_wp2
        go_ret
        exact ⟨by rw [HF.out]; rfl, below_drewN HB.out _⟩
      · go_wp2
        go_quiet (fail)
        go_wp2
        go_roundw
        case rel =>
          refine ⟨k + 1, by omega, by go_num, below_drewN HB.out _, Q1.out, Q2.out, fun j hj => ?_⟩
          by_cases hjk : j = k
          · subst hjk; rw [HX.out, HY.out]; omega
          · exact hh.out j (by omega)
        case measure => simp [intOf]; omega
    · obtain rfl : k = 64 := by omega
      have HF := Lib.hid ((covB_iff f g).2 hh.out)
      clear q1 q2
      go_wp2
      go_ret
      exact ⟨by rw [HF.out]; rfl, hb⟩
end Go.Proofs.YtldcgmnfohhjbaaDoor
