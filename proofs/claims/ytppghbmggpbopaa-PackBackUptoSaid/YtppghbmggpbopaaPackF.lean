/- Walks over the laws' own helpers: alive, spare, kept. -/
import Derived.Test.YtppghbmggpbopaaPackE
namespace Go.Proofs.Ytppghbmggpbopaa
open Go.RowKit
set_option maxRecDepth 100000

theorem lay300 : Pk.lay 300 = [172, 2] := by rw [Pk.lay_more (by omega), Pk.lay_small (by omega)]; decide

/-- A row of the call's own that holds something: its block, and its cells. -/
theorem own_at {w : World} {base : Nat} {e : TypeId} {n c : Nat} {A : Option Addr} {xs : List Value} (h : w.ownsRow base e 1 (.slice A n c) n xs) (hn : 0 < n) :
    ∃ g, A = some ⟨g, 0, none⟩ ∧ base ≤ g ∧ ∀ j, j < n → w.cell? ⟨g, j, none⟩ = xs[j]? := by
  obtain ⟨g, cap, hv, hb, _⟩ := h.form hn
  injection hv with hA hm hc
  subst hA hc
  exact ⟨g, rfl, hb, fun j hj => h.cellAt j (by omega)⟩

set_option maxHeartbeats 400000 in
theorem alive_any (w : World) : Calls Try.prog 9 #[] w fun e w' => e = .returned (.bool true) ∧ Below w.heap.size w w' := by
  have h1max : 1 ≤ maxLen := by unfold maxLen; omega
  have hR := Rd.new w 5 1 1 #[.int .u8 7] rfl h1max
  have H1 := Lib.hid (appendNumber_any (some ⟨w.heap.size, 0, none⟩) 1 1 300 [7] (w.alloc (.cells #[.int .u8 7] 5)) rfl (by rw [World.size_alloc]; exact hR) (by omega) (by rw [lay300]; decide))
  rw [lay300] at H1
  clear hR
  go_enter Try.func9, Try.ntmps9
  go_wp2_with fail
  refine H1.out.mono ?_
  clear H1
  rintro e w1 ⟨A1, c1, rfl, ho1, hb1⟩
  have hb : Below w.heap.size w w1 := ((Below.refl _ _).alloc (Nat.le_refl _) _).trans (hb1.mono (by simp))
  obtain ⟨g, rfl, _, hc⟩ := own_at ho1 (by decide)
  have g0 := hc 0 (by decide)
  have g1 := hc 1 (by decide)
  have g2 := hc 2 (by decide)
  have e0 : (bv ([7] ++ [172, 2]))[0]? = some (.int .u8 7) := rfl
  have e1 : (bv ([7] ++ [172, 2]))[1]? = some (.int .u8 172) := rfl
  have e2 : (bv ([7] ++ [172, 2]))[2]? = some (.int .u8 2) := rfl
  rw [e0] at g0
  rw [e1] at g1
  rw [e2] at g2
  clear ho1 hb1 hc e0 e1 e2
  go_wp2
  go_ret
  exact ⟨rfl, hb⟩

set_option maxHeartbeats 400000 in
/-- spare: the bytes, and a mark behind them. -/
theorem spare_any (A : Option Addr) (n c : Nat) (l : List UInt8) (w : World) (hR : Rd w w.heap.size 1 A n c (bv l)) (hn : n + 4 ≤ 140737488355328) :
    Calls Try.prog 10 #[.slice A n c] w fun e w' => ∃ A' c', e = .returned (.slice A' n c') ∧ w'.ownsRow w.heap.size 5 1 (.slice A' (n + 1) c') (n + 1) (bv (l ++ [90])) ∧ Below w.heap.size w w' := by
  obtain ⟨i0, hi0, hz0, hz1, hz2⟩ := info_parts u8_info
  have h63 : 0 + n ≤ maxLen := by unfold maxLen; omega
  have h63a : n + 1 ≤ maxLen := by unfold maxLen; omega
  have h63b : n + 4 ≤ maxLen := by unfold maxLen; omega
  have h1max : 1 ≤ maxLen := by unfold maxLen; omega
  go_enter Try.func10, Try.ntmps10
  go_wp2_with (first
    | (at_make; go_must (refine wpList_make_own _ rfl _ _ _ rfl w.heap.size 5 i0 _ 1 Try.underlying22 hi0 hz0 hz1 .i64 .i64 ((n : Int) + 4) (n + 4) rfl rfl (by omega) (by rw [hz2]; omega) h63b (Nat.le_refl _) ?_); intro w1 ho1 hg1; have hb1 : Below w.heap.size w w1 := grown_below hg1 (Nat.le_refl _) (by simp))
    | (at_builtin; refine wpList_append_rd _ rfl (.tmp 6) (.tmp 7) _ rfl w.heap.size 5 i0 _ 1 1 Try.underlying22 hi0 hz0 hz1 hz2 rfl (by decide) _ _ _ rfl ho1 w.heap.size A n c (bv l) rfl (hR.below hb1) (bv_oneCell l) h63 (by omega) hb1.size ?_; intro A2 c2 w2 ho2 hg2 hat2; have hb2 : Below w.heap.size w w2 := hb1.trans (grown_below hg2 hb1.size (own_lt ho1)); simp only [Nat.zero_add, List.nil_append] at ho2)
    | (at_builtin; go_must (refine wpList_append_rd _ rfl (.tmp 8) (.tmp 9) _ rfl w.heap.size 5 i0 _ 1 1 Try.underlying22 hi0 hz0 hz1 hz2 rfl (by decide) _ _ _ rfl (ho2.alloc _) (w2.heap.size + 1) (some ⟨w2.heap.size, 0, none⟩) 1 1 [.int .u8 90] rfl (Rd.new w2 _ 1 1 #[.int .u8 90] rfl h1max) (one_oneCell _ _) h63a (by omega) (by have := hb2.size; simp; omega) ?_); intro A3 c3 w3 ho3 hg3 hat3; have hc3 := (Rd.of_own ho3).cap; have hb3 : Below w.heap.size w w3 := (hb2.alloc hb2.size _).trans (grown_below hg3 (by have := hb2.size; simp; omega) (own_lt ho2))))
  go_ret
  exact ⟨A3, c3, rfl, by rw [bv_app]; exact ho3, hb3⟩

set_option maxHeartbeats 400000 in
/-- kept: the mark still stands. -/
theorem kept_any (A A2 : Option Addr) (n c c2 B B2 : Nat) (l : List UInt8) (w : World) (hn : n + 1 ≤ 140737488355328) (hl : l.length = n) (hR : Rd w B 1 A (n + 1) c (bv (l ++ [90]))) (hR2 : Rd w B2 1 A2 n c2 (bv l)) :
    Calls Try.prog 13 #[.slice A n c, .slice A2 n c2] w fun e w' => e = .returned (.bool true) ∧ w = w' := by
  have hcap := hR.cap
  have hR1 := hR.upto (m := n) (by omega)
  rw [Nat.mul_one, ← bv_take, List.take_left' hl] at hR1
  have H1 := same_any A A2 n c n c2 B B2 l l w hR1 hR2
  rw [beq_self_eq_true] at H1
  have HS := Lib.hid H1
  obtain ⟨ad, u, rfl, _, hu, hc⟩ := hR.at_ (k := n) (by omega)
  rw [bv_at _ n (by simp [hl])] at hu
  obtain rfl : Value.int .u8 90 = u := by simpa [hl] using hu
  have hsl : ∀ W, (Instr.slice 22 (.slice (some ad) n c) none (some (.int .i64 ((n : Int) + 1))) none).run Try.prog W = .ok (.slice (some ad) (n + 1) c) W := fun W =>
    run_upto W 22 5 1 Try.underlying22 size_u8 (some ad) n c .i64 _ (n + 1) (by omega) hcap
  clear H1 hR hR2 hR1 hu hl
  go_enter Try.func13, Try.ntmps13
  go_wp2_with (go_at_call 14; go_must (refine HS.out.mono ?_); rintro e w1 ⟨rfl, rfl⟩)
  go_ret
  exact ⟨rfl, rfl⟩
end Go.Proofs.Ytppghbmggpbopaa
