/- Walks over slices.Clone and slices.Grow at bytes, and pack.AppendNumber. -/
import Derived.Test.YtndlcimckfndiaaDoorPackA
namespace Go.Proofs.YtndlcimckfndiaaDoor
open Go.RowKit
set_option maxRecDepth 100000

theorem u8_info : (Tryd.prog.info? 5).map (fun i => (i.zero, i.size, i.bytes)) = some (some (.int .u8 0), 1, 1) := by kernel_rfl

/-- slices.Clone: a row of the call's own with the same bytes. -/
theorem clone_any (A : Option Addr) (n c : Nat) (xs : List Value) (w : World) (hR : Rd w w.heap.size 1 A n c xs) (h1 : ∀ u ∈ xs, u.oneCell' = true) (hn : n ≤ 140737488355328) :
    Calls Tryd.prog 91 #[.slice A n c] w fun e w' => ∃ A' c', e = .returned (.slice A' n c') ∧ w'.ownsRow w.heap.size 5 1 (.slice A' n c') n xs ∧ Below w.heap.size w w' := by
  have hmax := hR.max
  have hcap := hR.cap
  rcases A with _ | ad
  · have hc0 := hR.nil rfl
    obtain rfl : n = 0 := by omega
    subst hc0
    have hx : xs = [] := List.eq_nil_of_length_eq_zero (by simpa using hR.len)
    subst hx
    have ht := fun W => Lib.run_eql_slice_nil (P := Tryd.prog) W 23 5 none 0 0 0 0 Tryd.underlying23
    clear hR h1
    go_enter Tryd.func91, Tryd.ntmps91
    go_wp2
    go_ret
    exact ⟨none, 0, rfl, World.ownsRow_nil _ _ _ _, Below.refl _ _⟩
  · have ht := fun W => Lib.run_eql_slice_nil (P := Tryd.prog) W 23 5 (some ad) n c 0 0 Tryd.underlying23
    obtain ⟨i0, hi0, hz0, hz1, hz2⟩ := info_parts u8_info
    have h63 : 0 + n ≤ maxLen := by omega
    go_enter Tryd.func91, Tryd.ntmps91
    go_wp2_with (at_builtin; go_must (refine wpList_append_rd _ rfl (.tmp 5) (.tmp 6) _ rfl w.heap.size 5 i0 _ 1 1 Tryd.underlying23 hi0 hz0 hz1 hz2 rfl (by decide) (.slice (some ⟨w.heap.size, 0, none⟩) 0 0) 0 [] rfl (own_empty w _ _) w.heap.size (some ad) n c xs rfl (hR.alloc (Nat.le_refl _) _) h1 h63 (by omega) (by simp) ?_); intro A' c' w1 hown hg hat)
    go_ret
    exact ⟨A', c', rfl, by simpa using hown, ((Below.refl _ _).alloc (Nat.le_refl _) _).trans (grown_below hg (by simp) (by simp [Value.ownBlock]))⟩

/-- What lies in a row of the call's own, up to its capacity. -/
theorem own_first {P : Program} {w : World} {base : Nat} {e : TypeId} {n c : Nat} {A : Option Addr} {xs : List Value} (h : w.ownsRow base e 1 (.slice A n c) n xs) :
    ∃ olds : List Value, olds.length = c ∧ olds.take n = xs ∧ n ≤ c ∧ c ≤ maxLen ∧ ∀ W : World, (∀ k, k < w.heap.size → W.heap[k]? = w.heap[k]?) → (Builtin.firstCells 1 c (.slice A c c)).run P W = .ok olds.toArray W := by
  rcases h.2 with ⟨hv, h0⟩ | ⟨g, cap, cur, hv, hb, hh, hn, hm, hs, ht⟩
  · injection hv with h1 h2 h3
    subst h1 h2 h3
    refine ⟨[], rfl, ?_, Nat.le_refl _, by simp [maxLen], fun W _ => by simp [Builtin.firstCells]⟩
    have := h.1
    rw [List.take_nil]; exact (List.eq_nil_of_length_eq_zero (by simpa using this)).symm
  · injection hv with h1 h2 h3
    subst h1 h3
    refine ⟨cur.toList, by simpa using hs, by simpa using ht, hn, hm, fun W hW => ?_⟩
    have hg : W.heap[g]? = some (.cells cur e (0, 0)) := by rw [hW g (Array.getElem?_eq_some_iff.1 hh).1]; exact hh
    refine run_firstCells_some (P := P) W 1 c ⟨g, 0, none⟩ c c cur.toList (by simpa using hs) fun j u hu => ?_
    have hadd : (⟨g, 0, none⟩ : Addr).add j = ⟨g, j, none⟩ := by unfold Addr.add; split <;> simp_all
    rw [hadd, cell_of_row _ g j cur e (0, 0) hg]
    simpa using hu

set_option maxHeartbeats 400000 in
/-- slices.Grow at a row of the call's own. -/
theorem grow_any (A : Option Addr) (n c base : Nat) (xs : List Value) (w : World) (hown : w.ownsRow base 5 1 (.slice A n c) n xs) (hn : n + 9 ≤ 140737488355328) (hbase : base ≤ w.heap.size) :
    Calls Tryd.prog 92 #[.slice A n c, .int .i64 9] w fun e w' => ∃ A' c', e = .returned (.slice A' n c') ∧ w'.ownsRow base 5 1 (.slice A' n c') n xs ∧ Below w.heap.size w w' := by
  obtain ⟨olds, ho1, ho2, hnc, hcm, ho3⟩ := own_first (P := Tryd.prog) hown
  unfold maxLen at hcm
  by_cases hroom : n + 9 ≤ c
  · clear ho3 ho2
    go_enter Tryd.func92, Tryd.ntmps92
    go_wp2
    go_ret
    exact ⟨A, c, rfl, hown, Below.refl _ _⟩
  · obtain ⟨k, hk⟩ : ∃ k : Nat, 9 - ((c : Int) - (n : Int)) = (k : Int) := ⟨n + 9 - c, by omega⟩
    obtain ⟨i0, hi0, hz0, hz1, hz2⟩ := info_parts u8_info
    have hk0 : 0 < k := by omega
    have hu : ∀ W, (Instr.slice 23 (.slice A n c) none (some (.int .i64 (c : Int))) none).run Tryd.prog W = .ok (.slice A c c) W :=
      fun W => run_upto W 23 5 1 Tryd.underlying23 size_u8 A n c .i64 c c rfl (Nat.le_refl _)
    have hfit : Builtin.nextslicecap (c + k) c * i0.bytes ≤ 281474976710656 := growslice_fits (by omega) (by rw [hz2]; omega)
    have hz := Lib.run_append_grow_zeros (P := Tryd.prog) w 23 3 23 5 i0 (.int .u8 0) .i64 .i64 Tryd.underlying23 Tryd.underlying3 hi0 hz0 A c c olds
      (by rw [hz1]; exact ho3 w.drew (fun _ _ => rfl)) k hk0 (by rw [hz1]; decide) (by omega) (by omega) (by rw [hz2]; omega) hfit
    have hge := grownCap_ge w (c + k) c 5
    have hgm := grownCap_le_maxLen w (c + k) c 5 (by unfold maxLen; omega)
    have HO := Lib.hid ho1
    have HT := Lib.hid ho2
    generalize grownCap w (c + k) c 5 = N at hz hge hgm
    have Hz := Lib.hid hz
    have HM := Lib.hid hgm
    clear hz ho3 hfit ho1 ho2 hgm
    go_enter Tryd.func92, Tryd.ntmps92
    go_wp2_with (at_builtin; go_must (refine Lib.wpList_append_run _ rfl _ _ _ _ rfl _ _ rfl rfl _ _ Hz.out ?_))
    go_ret
    have h1 := hown.1
    have h2 := HO.out
    refine ⟨_, _, rfl, ⟨h1, .inr ⟨w.heap.size, N, _, rfl, hbase, heap_alloc_new w.drew _, by omega, HM.out, ?_, ?_⟩⟩, ((Below.refl _ _).drew).alloc (Nat.le_refl _) _⟩
    · simp only [Array.size_append, List.size_toArray, size_zeroCells, h2]
      simp
      omega
    · simp only [Array.toList_append]
      rw [List.take_append_of_le_length (by omega), Nat.mul_one]
      exact HT.out

theorem or128_fin : ∀ m : Nat, m < 256 → bits BinOp.or .u8 (m : Int) 128 = ((m % 128 + 128 : Nat) : Int) := by decide +kernel
theorem or128 (m : Nat) : bits BinOp.or .u8 ((m : Int) % 256) 128 = ((UInt8.ofNat (m % 128 + 128)).toNat : Int) := by
  rw [Pk.toNat_ofNat (by omega), show ((m : Int) % 256) = ((m % 256 : Nat) : Int) by omega, or128_fin _ (by omega)]
  omega
theorem one_oneCell (k : IntKind) (x : Int) : ∀ u ∈ [Value.int k x], u.oneCell' = true := by
  intro u hu
  rw [List.mem_singleton] at hu
  subst hu
  rfl

set_option maxHeartbeats 1000000 in
/-- pack.AppendNumber. -/
theorem appendNumber_any (A : Option Addr) (n c x : Nat) (l : List UInt8) (w : World) (hl : l.length = n) (hR : Rd w w.heap.size 1 A n c (bv l)) (hn : n + 9 ≤ 140737488355328) (hx : (Pk.lay x).length ≤ 9) :
    Calls Tryd.prog 80 #[.slice A n c, .int .i64 x] w fun e w' => ∃ A' c', e = .returned (.tuple #[.slice A' (n + (Pk.lay x).length) c', .int .i64 0]) ∧
      w'.ownsRow w.heap.size 5 1 (.slice A' (n + (Pk.lay x).length) c') (n + (Pk.lay x).length) (bv (l ++ Pk.lay x)) ∧ Below w.heap.size w w' := by
  obtain ⟨i0, hi0, hz0, hz1, hz2⟩ := info_parts u8_info
  have HX := Lib.hid hx
  have HL := Lib.hid hl
  clear hx hl
  have H1 := Lib.hid (clone_any A n c (bv l) w hR (bv_oneCell l) (by omega))
  have HR := Lib.hid hR
  clear hR
  go_enter Tryd.func80, Tryd.ntmps80
  go_wp2_with fail
  refine H1.out.mono ?_
  rintro e w1 ⟨A1, c1, rfl, ho1, hb1⟩
  go_wp2_with fail
  refine (grow_any A1 n c1 w.heap.size (bv l) w1 ho1 hn hb1.size).mono ?_
  rintro e w2 ⟨A2, c2, rfl, ho2, hb2⟩
  have hb12 : Below w.heap.size w w2 := hb1.trans (hb2.mono hb1.size)
  clear hb1 hb2 ho1 H1
  go_wp2_with fail
  go_loopw [1, 6] (fun x' v wr => ∃ (m k c' : Nat) (A' : Option Addr) (pre : List UInt8), x' = .int .i64 m ∧ v = .slice A' (n + k) c' ∧ wr.ownsRow w.heap.size 5 1 (.slice A' (n + k) c') (n + k) (bv (l ++ pre)) ∧ Below w.heap.size w wr ∧ k ≤ 8 ∧ Hid (Pk.lay x = pre ++ Pk.lay m ∧ pre.length = k)) (fun x' _ _ => (intOf x').toNat)
  case atStart =>
    exact ⟨x, 0, c2, A2, [], rfl, rfl, by simpa using ho2, hb12, by omega, by simp [Hid]⟩
  case round =>
    obtain ⟨m, k, c', A', pre, rfl, rfl, ho, hb, hk, hh⟩ := hrel
    have HR2 := Lib.hid ho
    clear ho
    have h1max : 1 ≤ maxLen := by unfold maxLen; omega
    have h63 : n + k + 1 ≤ maxLen := by unfold maxLen; omega
    by_cases hm : 128 ≤ m
    · obtain ⟨d, hd⟩ : ∃ d, d = UInt8.ofNat (m % 128 + 128) := ⟨_, rfl⟩
      have hbits : bits BinOp.or .u8 ((m : Int) % 256) 128 = ((d.toNat : Nat) : Int) := by rw [hd]; exact or128 m
      obtain ⟨q, hq⟩ : ∃ q, q = d.toNat := ⟨_, rfl⟩
      rw [← hq] at hbits
      have HD := Lib.hid hd
      have HQ := Lib.hid hq
      clear hd hq
      go_wp2_with (at_builtin; go_must (refine wpList_append_rd _ rfl (.tmp 16) (.tmp 20) _ rfl w.heap.size 5 i0 _ 1 1 Tryd.underlying23 hi0 hz0 hz1 hz2 rfl (by decide) (.slice A' (n + k) c') (n + k) (bv (l ++ pre)) rfl (HR2.out.alloc _) (wr.heap.size + 1) (some ⟨wr.heap.size, 0, none⟩) 1 1 [.int .u8 (q : Int)] rfl (Rd.new wr _ 1 1 #[.int .u8 (q : Int)] rfl h1max) (one_oneCell _ _) h63 (by omega) (by have := hb.size; simp; omega) ?_); intro A3 c3 w3 ho3 hg3 hat3)
      go_roundw
      case rel =>
        refine ⟨m / 128, k + 1, c3, A3, pre ++ [d], by go_num, rfl, ?_, ?_, ?_, ?_⟩
        · have := ho3
          rw [HQ.out, ← bv_one, ← bv_app, List.append_assoc] at this
          exact this
        · exact (hb.alloc hb.size _).trans (grown_below hg3 (by have := hb.size; simp; omega) (own_lt HR2.out))
        · obtain ⟨e1, e2⟩ := hh.out
          have e3 := HX.out
          rw [e1, List.length_append, Pk.lay_more hm, List.length_cons] at e3
          have := Pk.lay_pos (m / 128)
          omega
        · obtain ⟨e1, e2⟩ := hh.out
          exact ⟨by rw [e1, Pk.lay_more hm, HD.out]; simp, by simp [e2]⟩
      case measure => simp [intOf]; omega
    · obtain ⟨d, hd⟩ : ∃ d, d = UInt8.ofNat m := ⟨_, rfl⟩
      have hq : (d.toNat : Int) = m := by rw [hd, Pk.toNat_ofNat (by omega)]
      have HD := Lib.hid hd
      have HQ := Lib.hid hq
      clear hd hq
      go_wp2_with (at_builtin; go_must (refine wpList_append_rd _ rfl (.tmp 22) (.tmp 25) _ rfl w.heap.size 5 i0 _ 1 1 Tryd.underlying23 hi0 hz0 hz1 hz2 rfl (by decide) (.slice A' (n + k) c') (n + k) (bv (l ++ pre)) rfl (HR2.out.alloc _) (wr.heap.size + 1) (some ⟨wr.heap.size, 0, none⟩) 1 1 [.int .u8 (m : Int)] rfl (Rd.new wr _ 1 1 #[.int .u8 (m : Int)] rfl h1max) (one_oneCell _ _) h63 (by omega) (by have := hb.size; simp; omega) ?_); intro A3 c3 w3 ho3 hg3 hat3)
      go_ret2
      obtain ⟨e1, e2⟩ := hh.out
      have e3 : Pk.lay x = pre ++ [d] := by rw [e1, Pk.lay_small (by omega), HD.out]
      have e4 : (Pk.lay x).length = k + 1 := by rw [e3]; simp [e2]
      rw [e4]
      refine ⟨A3, c3, rfl, ?_, ?_⟩
      · have := ho3
        rw [← HQ.out, ← bv_one, ← bv_app, List.append_assoc, ← e3] at this
        exact this
      · exact (hb.alloc hb.size _).trans (grown_below hg3 (by have := hb.size; simp; omega) (own_lt HR2.out))
end Go.Proofs.YtndlcimckfndiaaDoor
