/- Walks over slices.Grow, slices.Concat at writes. -/
import Derived.Test.YtnibkniggiokkaaDoorNmC
import Derived.Lib.AppendZerosOnto
namespace Go.Proofs.YtnibkniggiokkaaDoor
open Go.RowKit
set_option maxRecDepth 100000

/-- A slice of lists of writes. -/
structure RdLw (w : World) (B : Nat) (A : Option Addr) (n c : Nat) (vs : List (List Wr)) : Prop where
  len : vs.length = n
  cap : n ≤ c
  max : c ≤ maxLen
  at_ : ∀ k (hk : k < vs.length), ∃ b o Ak nk ck, A = some ⟨b, o, none⟩ ∧ b < B ∧ w.cell? ⟨b, o + k, none⟩ = some (.slice Ak nk ck) ∧ vs[k].length = nk ∧ Rd w B 4 Ak nk ck (wv vs[k])
theorem RdLw.below {w w' : World} {B n c : Nat} {A : Option Addr} {vs : List (List Wr)} (h : RdLw w B A n c vs) (hb : Below B w w') : RdLw w' B A n c vs :=
  ⟨h.len, h.cap, h.max, fun k hk => by
    obtain ⟨b, o, Ak, nk, ck, h1, h2, h3, h4, h5⟩ := h.at_ k hk
    exact ⟨b, o, Ak, nk, ck, h1, h2, by rw [hb.cell (p := ⟨b, o + k, none⟩) h2]; exact h3, h4, h5.below hb⟩⟩
theorem RdLw.two {w : World} {A D : Option Addr} {n c m d : Nat} {u v : List Wr} (hl : u.length = n) (hl2 : v.length = m) (hR : Rd w w.heap.size 4 A n c (wv u)) (hR2 : Rd w w.heap.size 4 D m d (wv v)) (t : TypeId) :
    RdLw (w.alloc (.cells #[.slice A n c, .slice D m d] t)) (w.alloc (.cells #[.slice A n c, .slice D m d] t)).heap.size (some ⟨w.heap.size, 0, none⟩) 2 2 [u, v] := by
  have hb : Below w.heap.size w (w.alloc (.cells #[.slice A n c, .slice D m d] t)) := (Below.refl _ _).alloc (Nat.le_refl _) _
  have hB := Blk.new w t #[.slice A n c, .slice D m d]
  refine ⟨rfl, Nat.le_refl _, by decide, fun k hk => ?_⟩
  rcases k with _ | _ | k
  · exact ⟨_, _, A, n, c, rfl, hB.lt, by simp, hl, hR.go hb⟩
  · exact ⟨_, _, D, m, d, rfl, hB.lt, by simp, hl2, hR2.go hb⟩
  · simp at hk; omega

set_option maxHeartbeats 1000000 in
/-- slices.Grow at nil. -/
theorem growW_any (m : Nat) (hm : m ≤ 4398046511104) (w : World) :
    Calls Tryd.prog 78 #[.slice none 0 0, .int .i64 m] w fun e w' => ∃ A' c', e = .returned (.slice A' 0 c') ∧ w'.ownsRow w.heap.size 46 4 (.slice A' 0 c') 0 [] ∧ Below w.heap.size w w' := by
  by_cases h0 : m = 0
  · subst h0
    go_enter Tryd.func78, Tryd.ntmps78
    go_wp2
    go_ret
    exact ⟨none, 0, rfl, World.ownsRow_nil _ _ _ _, Below.refl _ _⟩
  · obtain ⟨i0, hi0, hz0, hz1, hz2⟩ := info_parts writes_info
    have hk0 : 0 < m := by omega
    have hk1 : (0 : Int) < (m : Int) := by omega
    have hu : ∀ W, (Instr.slice 24 (.slice none 0 0) none (some (.int .i64 0)) none).run Tryd.prog W = .ok (.slice none 0 0) W :=
      fun W => run_upto W 24 46 4 Tryd.underlying24 (fun _ => by kernel_rfl) none 0 0 .i64 0 0 rfl (Nat.le_refl _)
    have hfit : Builtin.nextslicecap (0 + m) 0 * i0.bytes ≤ 281474976710656 := growslice_fits (by omega) (by rw [hz2]; omega)
    have hz := Lib.run_append_grow_zeros (P := Tryd.prog) w 24 3 24 46 i0 _ .i64 .i64 Tryd.underlying24 Tryd.underlying3 hi0 hz0 none 0 0 []
      (by simp [Builtin.firstCells]) m hk0 (by rw [hz1]; decide) (by omega) (by omega) (by rw [hz2]; omega) hfit
    have hge := grownCap_ge w (0 + m) 0 46
    have hgm := grownCap_le_maxLen w (0 + m) 0 46 (by unfold maxLen; omega)
    generalize grownCap w (0 + m) 0 46 = N at hz hge hgm
    rw [Nat.zero_add] at hz hge
    have Hz := Lib.hid hz
    have HM := Lib.hid hgm
    have hnn : 0 ≤ N := Nat.zero_le _
    clear hz hfit hgm
    go_enter Tryd.func78, Tryd.ntmps78
    go_wp2_with (at_builtin; go_must (refine Lib.wpList_append_run _ rfl _ _ _ _ rfl _ _ rfl rfl _ _ Hz.out ?_))
    go_ret
    refine ⟨_, _, rfl, ⟨rfl, .inr ⟨w.heap.size, N, _, rfl, Nat.le_refl _, heap_alloc_new w.drew _, by omega, HM.out, ?_, ?_⟩⟩, ((Below.refl _ _).drew).alloc (Nat.le_refl _) _⟩
    · simp only [Array.size_append, List.size_toArray, size_zeroCells]
      simp
      omega
    · simp

theorem flatW_take_le (vs : List (List Wr)) (k : Nat) : (vs.take k).flatten.length ≤ vs.flatten.length := by
  have e : vs.flatten = (vs.take k).flatten ++ (vs.drop k).flatten := by rw [← List.flatten_append, List.take_append_drop]
  rw [e, List.length_append]
  omega
theorem flatW_next (vs : List (List Wr)) (k : Nat) (h : k < vs.length) : (vs.take (k + 1)).flatten = (vs.take k).flatten ++ vs[k] := by
  rw [List.take_succ_eq_append_getElem h, List.flatten_append]; simp

set_option maxHeartbeats 4000000 in
theorem concatW_any (A : Option Addr) (n c : Nat) (vs : List (List Wr)) (w : World) (hR : RdLw w w.heap.size A n c vs) (hsz : vs.flatten.length ≤ 4398046511104) :
    Calls Tryd.prog 49 #[.slice A n c] w fun e w' => ∃ A' c', e = .returned (.slice A' vs.flatten.length c') ∧ w'.ownsRow w.heap.size 46 4 (.slice A' vs.flatten.length c') vs.flatten.length (wv vs.flatten) ∧ Below w.heap.size w w' := by
  obtain ⟨i0, hi0, hz0, hz1, hz2⟩ := info_parts writes_info
  have hmx : n ≤ 9223372036854775807 := by have h1 := hR.cap; have h2 := hR.max; unfold maxLen at h2; omega
  have HL := Lib.hid hR.len
  have HR := Lib.hid hR
  have HZ := Lib.hid fun k => Nat.le_trans (flatW_take_le vs k) hsz
  clear hR hsz
  go_enter Tryd.func49, Tryd.ntmps49
  go_wp2
  go_loopw [3, 11] (fun v3 v11 wr => ∃ k : Nat, k ≤ n ∧ v11 = .int .i64 k ∧ v3 = .int .i64 ((vs.take k).flatten.length : Nat) ∧ w = wr) (fun _ v11 _ => n - (intOf v11).toNat)
  case atStart => exact ⟨0, by omega, rfl, rfl, rfl⟩
  case round =>
    obtain ⟨k, hk, rfl, rfl, rfl⟩ := hrel
    have hq := HZ.out k
    have hq2 := HZ.out (k + 1)
    by_cases hlt : k < n
    · have hkv : k < vs.length := by rw [HL.out]; exact hlt
      obtain ⟨b, o, Ak, nk, ck, rfl, hbB, hcell, hvl, hRk⟩ := HR.out.at_ k hkv
      rw [flatW_next vs k hkv, List.length_append, hvl] at hq2
      have HN := Lib.hid (show (vs.take (k + 1)).flatten.length = (vs.take k).flatten.length + nk by rw [flatW_next vs k hkv, List.length_append, hvl])
      clear hRk hvl hkv
      generalize (vs.take k).flatten.length = q at hq hq2 HN
      go_wp2
      go_roundw
      case rel => exact ⟨k + 1, by omega, by go_num, by rw [HN.out]; go_num, by first | rfl | trivial⟩
      case measure => simp [intOf]; omega
    · obtain rfl : k = n := by omega
      generalize (vs.take k).flatten.length = q at hq
      go_wp2_with (go_at_call 78; go_must (refine (growW_any q hq _).mono ?_); rintro e w1 ⟨A1, c1, rfl, ho1, hb1⟩)
      have HO1 := Lib.hid ho1
      have hs1 := hb1.size
      clear ho1
      go_loopw [6, 27] (fun v6 v27 wx => ∃ (j q c' : Nat) (A' : Option Addr), j ≤ k ∧ v27 = .int .i64 j ∧ v6 = .slice A' q c' ∧ Below w.heap.size w wx ∧ Hid ((vs.take j).flatten.length = q) ∧ Hid (wx.ownsRow w.heap.size 46 4 (.slice A' q c') q (wv (vs.take j).flatten))) (fun _ v27 _ => k - (intOf v27).toNat)
      case atStart => exact ⟨0, 0, c1, A1, by omega, rfl, rfl, hb1, rfl, HO1.out⟩
      case round =>
        obtain ⟨j, q, c', A', hj, rfl, rfl, hb, hlen, ho⟩ := hrel
        have hbs := hb.size
        have hq2 := HZ.out (j + 1)
        by_cases hlt : j < k
        · have hkv : j < vs.length := by rw [HL.out]; exact hlt
          obtain ⟨b, o, Ak, nk, ck, rfl, hbB, hcell, hvl, hRk⟩ := (HR.out.below hb).at_ j hkv
          rw [flatW_next vs j hkv, List.length_append, hvl, hlen.out] at hq2
          have HN := Lib.hid (flatW_next vs j hkv)
          have HV := Lib.hid hvl
          have HRK := Lib.hid hRk
          have h63 : q + nk ≤ maxLen := by unfold maxLen; omega
          clear hRk hvl
          go_wp2_with (at_builtin; go_must (refine wpList_append_rd _ rfl (.tmp 31) (.tmp 32) _ rfl w.heap.size 46 i0 _ 4 32 Tryd.underlying24 hi0 hz0 hz1 hz2 rfl (by decide) (.slice A' q c') q _ rfl ho.out w.heap.size Ak nk ck (wv (vs[j]'hkv)) rfl HRK.out (wv_oneCell _) h63 (by omega) (by omega) ?_); intro A3 c3 w3 ho3 hg3 hat3)
          go_roundw
          case rel =>
            refine ⟨j + 1, q + nk, c3, A3, by omega, by go_num, rfl, hb.trans (grown_below hg3 hbs (fun j hj => own_lt ho.out j hj)), by show _ = _; rw [HN.out, List.length_append, HV.out, hlen.out], ?_⟩
            rw [HN.out, wv_app]
            exact ho3
          case measure => simp [intOf]; omega
        · obtain rfl : j = k := by omega
          have ho2 := ho.out
          have hl2 := hlen.out
          rw [List.take_of_length_le (by rw [HL.out]; exact Nat.le_refl _)] at ho2 hl2
          subst hl2
          go_wp2
          go_ret
          exact ⟨A', c', rfl, ho2, hb⟩

end Go.Proofs.YtnibkniggiokkaaDoor
