/- Walks over the document's Of, Copy and Covers, and vector.list's plain side. -/
import Derived.Test.YtldcgmnfohhjbaaDoorVecD
namespace Go.Proofs.YtldcgmnfohhjbaaDoor
open Go.RowKit
set_option maxRecDepth 100000

/-- The vector of counts. -/
def vecTo (f : Nat → Int) (p : Nat → Bool) (k : Nat) : List Vc.St := (Vc.upto p k).map fun n => (f n, (n : Int))
def pos (f : Nat → Int) : Nat → Bool := fun n => decide (0 < f n)
def vec (f : Nat → Int) : List Vc.St := vecTo f (pos f) 64
theorem vecTo_hit (f : Nat → Int) (p : Nat → Bool) (k : Nat) (h : p k = true) : vecTo f p (k + 1) = vecTo f p k ++ [(f k, (k : Int))] := by
  rw [vecTo, Vc.upto_hit p k k (Nat.le_refl _) (fun j h1 h2 => by omega) h, List.map_append]; rfl
theorem vecTo_miss (f : Nat → Int) (p : Nat → Bool) (k : Nat) (h : p k = false) : vecTo f p (k + 1) = vecTo f p k := by
  rw [vecTo, Vc.upto_skip p k (k + 1) (by omega) (fun j h1 h2 => by obtain rfl : j = k := by omega
                                                                    exact h)]; rfl
theorem vecTo_len (f : Nat → Int) (p : Nat → Bool) (k : Nat) : (vecTo f p k).length ≤ k := by rw [vecTo, List.length_map]; exact Vc.upto_len p k
theorem sv_one (s : Vc.St) : sv [s] = [.int .i64 s.1, .int .i64 s.2] := rfl
theorem sv_oneCell (v : List Vc.St) : ∀ u ∈ sv v, u.oneCell' = true := by
  intro u hu
  simp only [sv, List.mem_flatMap, List.mem_cons, List.not_mem_nil, or_false] at hu
  obtain ⟨s, _, h | h⟩ := hu <;> subst h <;> rfl
theorem stamp_info : (Tryd.prog.info? 24).map (fun i => (i.zero, i.size, i.bytes)) = some (some (.agg #[.int .i64 0, .int .i64 0]), 2, 16) := by kernel_rfl

set_option maxHeartbeats 1000000 in
theorem refOf_any (f : Nat → Int) (w : World) :
    Calls Tryd.prog 89 #[.agg (a64 f)] w fun e w' => ∃ A' c', e = .returned (.slice A' (vec f).length c') ∧
      w'.ownsRow w.heap.size 24 2 (.slice A' (vec f).length c') (vec f).length (sv (vec f)) ∧ Below w.heap.size w w' := by
  obtain ⟨i0, hi0, hz0, hz1, hz2⟩ := info_parts stamp_info
  go_enter Tryd.func89, Tryd.ntmps89
  go_wp2
  go_loopw [3, 4] (fun s i wr => ∃ (k m c' : Nat) (A' : Option Addr), k ≤ 64 ∧ i = .int .i64 k ∧ s = .slice A' m c' ∧ m ≤ 64 ∧ Below w.heap.size w wr ∧ Blk wr w.heap.size 86 (a64 f) ∧
    Hid ((vecTo f (pos f) k).length = m) ∧ wr.ownsRow (w.heap.size + 1) 24 2 (.slice A' m c') m (sv (vecTo f (pos f) k))) (fun _ i _ => 64 - (intOf i).toNat)
  case atStart => exact ⟨0, 0, 0, none, by omega, rfl, rfl, by omega, (Below.refl _ _).alloc (Nat.le_refl _) _, Blk.new _ _ _, rfl, World.ownsRow_nil _ _ _ _⟩
  case round =>
    obtain ⟨k, m, c', A', hk, rfl, rfl, hm, hb, hblk, hlen, ho⟩ := hrel
    have HO := Lib.hid ho
    have HK := Lib.hid hblk
    have HB := Lib.hid hb
    have hsz := hblk.lt
    clear ho hb
    by_cases hlt : k < 64
    · have gk := hblk.cell k
      rw [a64_at _ _ hlt] at gk
      clear hblk
      generalize hx : f k = x at gk
      have HX := Lib.hid hx
      clear hx
      by_cases hpos : 0 < x
      · have h63 : m + 1 ≤ maxLen := by unfold maxLen; omega
        have h1max : 1 ≤ maxLen := by unfold maxLen; omega
        go_wp2_with (at_builtin; go_must (refine wpList_append_rd _ rfl (.tmp 13) (.tmp 19) _ rfl (w.heap.size + 1) 24 i0 _ 2 16 Tryd.underlying22 hi0 hz0 hz1 hz2 rfl (by decide) (.slice A' m c') m _ rfl (HO.out.alloc _) (wr.heap.size + 1) (some ⟨wr.heap.size, 0, none⟩) 1 1 [.int .i64 x, .int .i64 (k : Int)] rfl (Rd.new wr _ 2 1 #[.int .i64 x, .int .i64 (k : Int)] rfl h1max) (sv_oneCell [(x, (k : Int))]) h63 (by omega) (by simp; omega) ?_); intro A3 c3 w3 ho3 hg3 hat3)
        go_roundw
        case rel =>
          have hp : pos f k = true := by unfold pos; rw [HX.out]; simpa using hpos
          refine ⟨k + 1, m + 1, c3, A3, by omega, by go_num, rfl, by have := vecTo_len f (pos f) (k + 1); rw [vecTo_hit f _ k hp, List.length_append, hlen.out] at this; simp at this; omega, (HB.out.alloc (by omega) _).trans (grown_below hg3 (by simp; omega) (fun g hg => by have := own_lt HO.out g hg; omega)), (HK.out.alloc _).grown hg3 (fun e => by have := own_lt HO.out _ e.symm; omega), ?_, ?_⟩
          · show _ = _
            rw [vecTo_hit f _ k hp, List.length_append, hlen.out]; rfl
          · rw [vecTo_hit f _ k hp, sv_app, HX.out]
            exact ho3
        case measure => simp [intOf]; omega
      · go_wp2
        go_roundw
        case rel =>
          have hp : pos f k = false := by unfold pos; rw [HX.out]; simpa using hpos
          refine ⟨k + 1, m, c', A', by omega, by go_num, rfl, hm, HB.out, HK.out, ?_, ?_⟩
          · show _ = _
            rw [vecTo_miss f _ k hp, hlen.out]
          · rw [vecTo_miss f _ k hp]
            exact HO.out
        case measure => simp [intOf]; omega
    · obtain rfl : k = 64 := by omega
      clear hblk
      go_wp2
      go_ret
      have hl : (vec f).length = m := hlen.out
      exact ⟨A', c', by rw [hl]; rfl, by rw [hl]; exact own_less HO.out (by omega), HB.out⟩
end Go.Proofs.YtldcgmnfohhjbaaDoor
