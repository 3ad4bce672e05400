/- Walks over pack.AppendRow and pack.Row, and the document's Bytes, Copy, Row and Laid. -/
import Derived.Test.YtndlcimckfndiaaDoorPackB
import Derived.Test.YtndlcimckfndiaaDoorPackC
namespace Go.Proofs.YtndlcimckfndiaaDoor
open Go.RowKit
set_option maxRecDepth 100000

theorem lay_len_max {m c : Nat} (h : m ≤ c) (hc : c ≤ maxLen) : (Pk.lay m).length ≤ 9 := Pk.lay_len9 (by unfold maxLen at hc; omega)

theorem appendNumber_neg (A : Option Addr) (n c : Nat) (x : Int) (w : World) (hx : x < 0) :
    Calls Tryd.prog 80 #[.slice A n c, .int .i64 x] w fun e w' => e = .returned (.tuple #[.slice none 0 0, .int .i64 1]) ∧ w = w' := by
  go_enter Tryd.func80, Tryd.ntmps80
  go_wp2
  go_ret2
  exact ⟨rfl, rfl⟩

set_option maxHeartbeats 400000 in
/-- pack.AppendRow. -/
theorem appendRow_any (A A2 : Option Addr) (n c m c2 : Nat) (l r : List UInt8) (w : World) (hl : l.length = n) (hR : Rd w w.heap.size 1 A n c (bv l)) (hR2 : Rd w w.heap.size 1 A2 m c2 (bv r)) (hn : n + 9 + m ≤ 140737488355328) :
    Calls Tryd.prog 68 #[.slice A n c, .slice A2 m c2] w fun e w' => ∃ A' c', e = .returned (.slice A' (n + (Pk.lay m).length + m) c') ∧
      w'.ownsRow w.heap.size 5 1 (.slice A' (n + (Pk.lay m).length + m) c') (n + (Pk.lay m).length + m) (bv (l ++ Pk.lay m ++ r)) ∧ Below w.heap.size w w' := by
  obtain ⟨i0, hi0, hz0, hz1, hz2⟩ := info_parts u8_info
  have h9 := lay_len_max hR2.cap hR2.max
  have H1 := Lib.hid (appendNumber_any A n c m l w hl hR (by omega) h9)
  have HR2 := Lib.hid hR2
  clear hR hR2 hl
  go_enter Tryd.func68, Tryd.ntmps68
  go_wp2_with fail
  refine H1.out.mono ?_
  clear H1
  rintro e w1 ⟨A1, c1, rfl, ho1, hb1⟩
  have h63 : n + (Pk.lay m).length + m ≤ maxLen := by unfold maxLen; omega
  go_wp2_with (at_builtin; go_must (refine wpList_append_rd _ rfl (.tmp 14) (.tmp 15) _ rfl w.heap.size 5 i0 _ 1 1 Tryd.underlying23 hi0 hz0 hz1 hz2 rfl (by decide) _ _ _ rfl ho1 w.heap.size A2 m c2 (bv r) rfl (HR2.out.below hb1) (bv_oneCell r) h63 (by omega) hb1.size ?_); intro A3 c3 w3 ho3 hg3 hat3)
  go_ret
  exact ⟨A3, c3, rfl, by rw [bv_app]; exact ho3, hb1.trans (grown_below hg3 hb1.size (own_lt ho1))⟩

/-- telltaleref05.Copy. -/
theorem copy_any (A : Option Addr) (n c : Nat) (xs : List Value) (w : World) (hR : Rd w w.heap.size 1 A n c xs) (h1 : ∀ u ∈ xs, u.oneCell' = true) (hn : n ≤ 140737488355328) :
    Calls Tryd.prog 42 #[.slice A n c] w fun e w' => ∃ A' c', e = .returned (.slice A' n c') ∧ w'.ownsRow w.heap.size 5 1 (.slice A' n c') n xs ∧ Below w.heap.size w w' := by
  have hmax := hR.max
  have hcap := hR.cap
  obtain ⟨i0, hi0, hz0, hz1, hz2⟩ := info_parts u8_info
  have h63 : 0 + n ≤ maxLen := by omega
  go_enter Tryd.func42, Tryd.ntmps42
  go_wp2_with (at_builtin; go_must (refine wpList_append_rd _ rfl (.tmp 3) (.tmp 4) _ rfl w.heap.size 5 i0 _ 1 1 Tryd.underlying23 hi0 hz0 hz1 hz2 rfl (by decide) (.slice (some ⟨w.heap.size, 0, none⟩) 0 0) 0 [] rfl (own_empty w _ _) w.heap.size A n c xs rfl (hR.alloc (Nat.le_refl _) _) h1 h63 (by omega) (by simp) ?_); intro A' c' w1 hown hg hat)
  go_ret
  exact ⟨A', c', rfl, by simpa using hown, ((Below.refl _ _).alloc (Nat.le_refl _) _).trans (grown_below hg (by simp) (by simp [Value.ownBlock]))⟩

set_option maxHeartbeats 1000000 in
/-- telltaleref05.Bytes. -/
theorem refBytes_any (x : Nat) (w : World) (hx63 : x < 9223372036854775808) :
    Calls Tryd.prog 47 #[.int .i64 x] w fun e w' => ∃ A' c', e = .returned (.slice A' (Pk.lay x).length c') ∧
      w'.ownsRow w.heap.size 5 1 (.slice A' (Pk.lay x).length c') (Pk.lay x).length (bv (Pk.lay x)) ∧ Below w.heap.size w w' := by
  obtain ⟨i0, hi0, hz0, hz1, hz2⟩ := info_parts u8_info
  have HX := Lib.hid (Pk.lay_len9 hx63)
  have H63 := Lib.hid hx63
  clear hx63
  go_enter Tryd.func47, Tryd.ntmps47
  go_wp2_with fail
  go_loopw [0, 3] (fun x' v wr => ∃ (m k c' : Nat) (A' : Option Addr) (pre : List UInt8), x' = .int .i64 m ∧ v = .slice A' k c' ∧ wr.ownsRow w.heap.size 5 1 (.slice A' k c') k (bv pre) ∧ Below w.heap.size w wr ∧ k ≤ 8 ∧ Hid (Pk.lay x = pre ++ Pk.lay m ∧ pre.length = k ∧ m ≤ x)) (fun x' _ _ => (intOf x').toNat)
  case atStart =>
    exact ⟨x, 0, 0, none, [], rfl, rfl, World.ownsRow_nil _ _ _ _, Below.refl _ _, by omega, by simp [Hid]⟩
  case round =>
    obtain ⟨m, k, c', A', pre, rfl, rfl, ho, hb, hk, hh⟩ := hrel
    have HR2 := Lib.hid ho
    clear ho
    have h1max : 1 ≤ maxLen := by unfold maxLen; omega
    have h63 : k + 1 ≤ maxLen := by unfold maxLen; omega
    by_cases hm : 128 ≤ m
    · obtain ⟨d, hd⟩ : ∃ d, d = UInt8.ofNat (m % 128 + 128) := ⟨_, rfl⟩
      have hq : (d.toNat : Int) = (m : Int) % 128 + 128 := by rw [hd, Pk.toNat_ofNat (by omega)]; omega
      have HD := Lib.hid hd
      have HQ := Lib.hid hq
      clear hd hq
      go_wp2_with (at_builtin; go_must (refine wpList_append_rd _ rfl (.tmp 6) (.tmp 11) _ rfl w.heap.size 5 i0 _ 1 1 Tryd.underlying23 hi0 hz0 hz1 hz2 rfl (by decide) (.slice A' k c') k (bv pre) rfl (HR2.out.alloc _) (wr.heap.size + 1) (some ⟨wr.heap.size, 0, none⟩) 1 1 [.int .u8 ((m : Int) % 128 + 128)] rfl (Rd.new wr _ 1 1 #[.int .u8 ((m : Int) % 128 + 128)] rfl h1max) (one_oneCell _ _) h63 (by omega) (by have := hb.size; simp; omega) ?_); intro A3 c3 w3 ho3 hg3 hat3)
      have hw : wrap64 ((m : Int) / 128) = (m : Int) / 128 := IntWalk.wrap64_in _ (by have := hh.out.2.2; have := H63.out; omega)
      go_roundw
      case rel =>
        refine ⟨m / 128, k + 1, c3, A3, pre ++ [d], by rw [hw]; go_num, rfl, ?_, ?_, ?_, ?_⟩
        · have := ho3
          rw [← HQ.out, ← bv_one, ← bv_app] at this
          exact this
        · exact (hb.alloc hb.size _).trans (grown_below hg3 (by have := hb.size; simp; omega) (own_lt HR2.out))
        · obtain ⟨e1, e2, e5⟩ := hh.out
          have e3 := HX.out
          rw [e1, List.length_append, Pk.lay_more hm, List.length_cons] at e3
          have := Pk.lay_pos (m / 128)
          omega
        · obtain ⟨e1, e2, e5⟩ := hh.out
          exact ⟨by rw [e1, Pk.lay_more hm, HD.out]; simp, by simp [e2], by omega⟩
      case measure => rw [hw]; simp [intOf]; omega
    · obtain ⟨d, hd⟩ : ∃ d, d = UInt8.ofNat m := ⟨_, rfl⟩
      have hq : (d.toNat : Int) = m := by rw [hd, Pk.toNat_ofNat (by omega)]
      have HD := Lib.hid hd
      have HQ := Lib.hid hq
      clear hd hq
      go_wp2_with (at_builtin; go_must (refine wpList_append_rd _ rfl (.tmp 15) (.tmp 18) _ rfl w.heap.size 5 i0 _ 1 1 Tryd.underlying23 hi0 hz0 hz1 hz2 rfl (by decide) (.slice A' k c') k (bv pre) rfl (HR2.out.alloc _) (wr.heap.size + 1) (some ⟨wr.heap.size, 0, none⟩) 1 1 [.int .u8 (m : Int)] rfl (Rd.new wr _ 1 1 #[.int .u8 (m : Int)] rfl h1max) (one_oneCell _ _) h63 (by omega) (by have := hb.size; simp; omega) ?_); intro A3 c3 w3 ho3 hg3 hat3)
      go_ret
      obtain ⟨e1, e2, e5⟩ := hh.out
      have e3 : Pk.lay x = pre ++ [d] := by rw [e1, Pk.lay_small (by omega), HD.out]
      have e4 : (Pk.lay x).length = k + 1 := by rw [e3]; simp [e2]
      rw [e4]
      refine ⟨A3, c3, rfl, ?_, ?_⟩
      · have := ho3
        rw [← HQ.out, ← bv_one, ← bv_app, ← e3] at this
        exact this
      · exact (hb.alloc hb.size _).trans (grown_below hg3 (by have := hb.size; simp; omega) (own_lt HR2.out))

set_option maxHeartbeats 400000 in
/-- telltaleref05.Laid. -/
theorem refLaid_any (A2 : Option Addr) (m c2 : Nat) (r : List UInt8) (w : World) (hR2 : Rd w w.heap.size 1 A2 m c2 (bv r)) (hn : 9 + m ≤ 140737488355328) :
    Calls Tryd.prog 66 #[.slice A2 m c2] w fun e w' => ∃ A' c', e = .returned (.slice A' ((Pk.lay m).length + m) c') ∧
      w'.ownsRow w.heap.size 5 1 (.slice A' ((Pk.lay m).length + m) c') ((Pk.lay m).length + m) (bv (Pk.lay m ++ r)) ∧ Below w.heap.size w w' := by
  obtain ⟨i0, hi0, hz0, hz1, hz2⟩ := info_parts u8_info
  have h9 := lay_len_max hR2.cap hR2.max
  have hm63 : m < 9223372036854775808 := by have := hR2.cap; have := hR2.max; unfold maxLen at this; omega
  have H1 := Lib.hid (refBytes_any m w hm63)
  clear hm63
  have HR2 := Lib.hid hR2
  clear hR2
  go_enter Tryd.func66, Tryd.ntmps66
  go_wp2_with fail
  refine H1.out.mono ?_
  clear H1
  rintro e w1 ⟨A1, c1, rfl, ho1, hb1⟩
  have h63 : (Pk.lay m).length + m ≤ maxLen := by unfold maxLen; omega
  go_wp2_with (at_builtin; go_must (refine wpList_append_rd _ rfl (.tmp 5) (.tmp 6) _ rfl w.heap.size 5 i0 _ 1 1 Tryd.underlying23 hi0 hz0 hz1 hz2 rfl (by decide) _ _ _ rfl ho1 w.heap.size A2 m c2 (bv r) rfl (HR2.out.below hb1) (bv_oneCell r) h63 (by omega) hb1.size ?_); intro A3 c3 w3 ho3 hg3 hat3)
  go_ret
  exact ⟨A3, c3, rfl, by rw [bv_app]; exact ho3, hb1.trans (grown_below hg3 hb1.size (own_lt ho1))⟩

/-- The row that bytes begin with: the row, its size, the error. -/
def rowOf (l : List UInt8) (most : Int) : List UInt8 × Nat × Nat :=
  if most < 0 then ([], 0, 1) else
  if (Pk.num l 0 l).2.2 ≠ 0 then ([], 0, (Pk.num l 0 l).2.2) else
  if most < ((Pk.num l 0 l).1 : Int) then ([], 0, 4) else
  if (l.length : Int) - ((Pk.num l 0 l).2.1 : Int) < ((Pk.num l 0 l).1 : Int) then ([], 0, 5) else
  ((l.drop (Pk.num l 0 l).2.1).take (Pk.num l 0 l).1, (Pk.num l 0 l).2.1 + (Pk.num l 0 l).1, 0)
end Go.Proofs.YtndlcimckfndiaaDoor
