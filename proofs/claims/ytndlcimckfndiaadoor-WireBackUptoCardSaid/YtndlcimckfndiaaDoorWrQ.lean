/- Walk over wire.AppendNote. -/
import Derived.Test.YtndlcimckfndiaaDoorWrP
import Derived.Test.YtndlcimckfndiaaDoorMWg
namespace Go.Proofs.YtndlcimckfndiaaDoor
open Go.RowKit
set_option maxRecDepth 100000

set_option maxHeartbeats 1000000 in
theorem appendNote_no (A : Option Addr) (n c : Nat) (v : NV) (x : Nt) (w : World) (hT : Tab w) (hN : NtRd w w.heap.size v x) (hf : ntF x = false) :
    Calls Tryd.prog 27 #[.slice A n c, .agg v.val] w fun e w' => e = .returned (.tuple #[.slice none 0 0, .int .i64 1]) ∧ Below w.heap.size w w' := by
  have hb0 : Below w.heap.size w (w.alloc (.cells v.val 51)) := (Below.refl _ _).alloc (Nat.le_refl _) _
  have G1 := noteFormed_any v x _ (hT.below hb0) (hN.go hb0)
  rw [hf] at G1
  obtain ⟨A1, n1, c1, A2, n2, c2, A3, n3, c3, A4, n4, c4⟩ := v
  have G1 := Lib.hid G1
  have HB := Lib.hid hb0
  clear hf hb0 hT hN
  go_enter Tryd.func27, Tryd.ntmps27
  go_wp2_with (go_at_call 61; go_must (refine G1.out.mono ?_); rintro e w1 ⟨rfl, hb1⟩)
  go_ret2
  exact ⟨rfl, below_then HB.out (Nat.le_refl _) hb1⟩

theorem lV_len {v : List Vc.St} (h : fm (-1) v = true) (hc : Wq.cts v) : (Wq.lV v).length ≤ 1161 := by
  have h1 := Wq.fm_len h
  have h3 : (Pk.lay v.length).length ≤ 9 := Pk.lay_len9 (by omega)
  have h2 : ∀ u : List (Int × Int), (∀ s ∈ u, Wq.u63 s.1 ∧ Wq.u63 s.2) → (Wq.lP u).length ≤ 18 * u.length := by
    intro u
    induction u with
    | nil => intro _; simp [Wq.lP]
    | cons s r ih =>
      intro hs
      have a := hs s (by simp)
      have a1 := u63_len a.1
      have a2 := u63_len a.2
      have a3 := ih fun t ht => hs t (by simp [ht])
      rw [Wq.lP_cons, List.length_append, List.length_append, List.length_cons]; omega
  have h4 := h2 (v.map Wq.sw) (Wq.fm_sw h hc)
  rw [List.length_map] at h4
  unfold Wq.lV
  rw [List.length_append]; omega
def wNums (w : Wr) : List Int := [w.2.1, w.1.2, w.1.1, (Wq.gn w.2.2 : Nat)]
theorem lW1_nums (w : Wr) : Wq.lW1 w = layAll (wNums w) := by unfold Wq.lW1 layAll wNums; simp
theorem lW_take (l : List Wr) (k : Nat) (h : k < l.length) : Wq.lW (l.take (k + 1)) = Wq.lW (l.take k) ++ layAll (wNums l[k]) := by
  unfold Wq.lW
  rw [List.take_succ_eq_append_getElem h, List.flatMap_append, ← lW1_nums]; simp
theorem wNums_u63 {w : Wr} (h : Wq.wU w) : ∀ z ∈ wNums w, Wq.u63 z := by
  intro z hz
  simp only [wNums, List.mem_cons, List.not_mem_nil, or_false] at hz
  rcases hz with rfl | rfl | rfl | rfl
  · exact h.1
  · exact h.2.1
  · exact h.2.2
  · unfold Wq.gn; split <;> exact ⟨by decide, by decide⟩

set_option maxHeartbeats 8000000 in
theorem appendNote_any (A : Option Addr) (n c : Nat) (l : List UInt8) (v : NV) (x : Nt) (w : World) (hT : Tab w) (hl : l.length = n) (hR : Rd w w.heap.size 1 A n c (bv l)) (hN : NtRd w w.heap.size v x) (hf : ntF x = true) (hc : Wq.ntC x) (hn : n + 20000 ≤ 140737488355328) :
    Calls Tryd.prog 27 #[.slice A n c, .agg v.val] w fun e w' => ∃ u, e = .returned (.tuple #[u, .int .i64 0]) ∧ BytesAre w.heap.size w (l ++ Wq.lNt x) u w' := by
  obtain ⟨f1, f2, f3, f4⟩ := Wq.ntF_parts hf
  have hwl := Wq.ntW_len f4
  have HWU := Lib.hid (Wq.ntW_u hf hc)
  have hb0 : Below w.heap.size w (w.alloc (.cells v.val 51)) := (Below.refl _ _).alloc (Nat.le_refl _) _
  have G1 := noteFormed_any v x _ (hT.below hb0) (hN.go hb0)
  rw [hf] at G1
  have hX := Blk.new w 51 v.val
  have HN := Lib.hid (hN.go hb0)
  obtain ⟨A1, n1, c1, A2, n2, c2, A3, n3, c3, A4, n4, c4⟩ := v
  obtain ⟨xs, xe, xb, xw⟩ := x
  dsimp only at *
  have z1 := lV_len f1 hc.1
  have z2 := lV_len f2 hc.2.1
  have z3 := Wq.lS_len f3
  have hm4 := hN.l4
  dsimp only at hm4
  obtain ⟨W0, hW0⟩ : ∃ W0, W0 = w.alloc (.cells (NV.val ⟨A1, n1, c1, A2, n2, c2, A3, n3, c3, A4, n4, c4⟩) 51) := ⟨_, rfl⟩
  have hs0 : W0.heap.size = w.heap.size + 1 := by rw [hW0]; simp
  rw [← hW0] at hb0 hX HN G1
  have HW0 := Lib.hid hW0.symm
  have HR := Lib.hid (hR.go hb0)
  have G1 := Lib.hid G1
  have HB := Lib.hid hb0
  have HX := Lib.hid hX
  have HL := Lib.hid hl
  have h1max : 1 ≤ maxLen := by unfold maxLen; omega
  have h4max : 4 ≤ maxLen := by unfold maxLen; omega
  have HF := Lib.hid (show fm (-1) xs = true ∧ fm (-1) xe = true ∧ Sn.fmS (-2) xb = true ∧ Wq.cts xs ∧ Wq.cts xe from ⟨f1, f2, f3, hc.1, hc.2.1⟩)
  clear hT hl hR hN hf hc f1 f2 f3 f4 hb0 hX hW0
  go_enter Tryd.func27, Tryd.ntmps27
  go_wp2_with fail
  rw [HW0.out]
  refine G1.out.mono ?_
  rintro e w1 ⟨rfl, hb1⟩
  have hbw1 := below_then HB.out (by omega) hb1
  obtain ⟨q0, q1, q2, q3⟩ := (HX.out.go hb1).four
  have hN1 := HN.out.go hb1
  have G2 := Lib.hid (appendVec_any A A1 n c n1 c1 l xs w1 HL.out (HR.out.go hb1) hN1.l1 hN1.r1 HF.out.1 HF.out.2.2.2.1 (by omega))
  clear G1
  go_wp2_with fail
  refine G2.out.mono ?_
  rintro e w2 ⟨u2, rfl, D2, d2, rfl, ho2, hb2⟩
  have hbw2 := below_then hbw1 (Nat.le_refl _) hb2
  have hN2 := hN1.go hb2
  obtain ⟨l2, hl2⟩ : ∃ q, q = l ++ Wq.lV xs := ⟨_, rfl⟩
  have z4 : l2.length ≤ n + 1161 := by rw [hl2, List.length_append, HL.out]; omega
  rw [← hl2] at ho2 ⊢
  have HL2 := Lib.hid hl2
  have G3 := Lib.hid (appendVec_any D2 A2 l2.length d2 n2 c2 l2 xe w2 rfl (Rd.of_own ho2) hN2.l2 hN2.r2 HF.out.2.1 HF.out.2.2.2.2 (by omega))
  have q1 := (hb2.cell (p := ⟨w.heap.size, 1, none⟩) (World.block_lt_of_cell? _ _ q1)).trans q1
  have q2 := (hb2.cell (p := ⟨w.heap.size, 2, none⟩) (World.block_lt_of_cell? _ _ q2)).trans q2
  have q3 := (hb2.cell (p := ⟨w.heap.size, 3, none⟩) (World.block_lt_of_cell? _ _ q3)).trans q3
  clear G2 hl2 hN1 ho2 q0
  go_wp2_with fail
  refine G3.out.mono ?_
  rintro e w3 ⟨u3, rfl, D3, d3, rfl, ho3, hb3⟩
  have hbw3 := below_then hbw2 (Nat.le_refl _) hb3
  have hN3 := hN2.go hb3
  obtain ⟨l3, hl3⟩ : ∃ q, q = l2 ++ Wq.lV xe := ⟨_, rfl⟩
  have z5 : l3.length ≤ n + 2322 := by rw [hl3, List.length_append]; omega
  rw [← hl3] at ho3 ⊢
  have HL3 := Lib.hid hl3
  have G4 := Lib.hid (appendSet_any D3 A3 l3.length d3 n3 c3 l3 xb w3 rfl (Rd.of_own ho3) hN3.l3 hN3.r3 HF.out.2.2.1 (by omega))
  have q2 := (hb3.cell (p := ⟨w.heap.size, 2, none⟩) (World.block_lt_of_cell? _ _ q2)).trans q2
  have q3 := (hb3.cell (p := ⟨w.heap.size, 3, none⟩) (World.block_lt_of_cell? _ _ q3)).trans q3
  clear G3 hl3 hN2 ho3 q1
  go_wp2_with fail
  refine G4.out.mono ?_
  rintro e w4 ⟨u4, rfl, D4, d4, rfl, ho4, hb4⟩
  have hbw4 := below_then hbw3 (Nat.le_refl _) hb4
  have hN4 := hN3.go hb4
  obtain ⟨l4, hl4⟩ : ∃ q, q = l3 ++ Wq.lS xb := ⟨_, rfl⟩
  have z6 : l4.length ≤ n + 2836 := by rw [hl4, List.length_append]; omega
  rw [← hl4] at ho4 ⊢
  have HL4 := Lib.hid hl4
  have q3 := (hb4.cell (p := ⟨w.heap.size, 3, none⟩) (World.block_lt_of_cell? _ _ q3)).trans q3
  have hum : ∀ z ∈ [(n4 : Int)], Wq.u63 z := by
    intro z hz
    rw [List.mem_singleton] at hz
    subst hz
    exact ⟨by omega, by omega⟩
  have hbA : Below w4.heap.size w4 (w4.alloc (.cells #[.int .i64 n4] 3)) := (Below.refl _ _).alloc (Nat.le_refl _) _
  have hRn := Rd.new w4 3 1 1 #[.int .i64 n4] rfl h1max
  have G5 := Lib.hid (lay_any D4 (some ⟨w4.heap.size, 0, none⟩) l4.length d4 1 1 l4 [(n4 : Int)] (w4.alloc (.cells #[.int .i64 n4] 3)) rfl ((Rd.of_own ho4).go hbA) rfl (by rw [World.size_alloc]; exact hRn) hum (by omega) (by omega))
  have hE5 := layAll_len [(n4 : Int)] hum
  have HBA := Lib.hid hbA
  clear G4 hl4 hN3 ho4 hRn hbA hum
  go_wp2_with fail
  refine G5.out.mono ?_
  rintro e w5 ⟨u5, rfl, D5, d5, rfl, ho5, hb5⟩
  have hbwA := below_then hbw4 (Nat.le_refl _) HBA.out
  have hbw5 := below_then hbwA (Nat.le_refl _) hb5
  have hN5 := (hN4.go HBA.out).go hb5
  obtain ⟨l5, hl5⟩ : ∃ q, q = l4 ++ layAll [(n4 : Int)] := ⟨_, rfl⟩
  have z7 : l5.length ≤ n + 2845 := by rw [hl5, List.length_append]; simp at hE5; omega
  rw [← hl5] at ho5 ⊢
  have HL5 := Lib.hid hl5
  have q3 := ((HBA.out.trans (hb5.mono (by simp))).cell (p := ⟨w.heap.size, 3, none⟩) (World.block_lt_of_cell? _ _ q3)).trans q3
  have HN5 := Lib.hid hN5
  have HO5 := Lib.hid ho5
  have HM4 := Lib.hid hm4
  clear G5 hl5 hN4 ho5 hN5 hE5 hb1 hb2 hb3 hb4 hbw1 hbw2 hbw3 hbw4
  go_wp2_with fail
  have hw4s : w.heap.size ≤ (w4.alloc (.cells #[.int .i64 n4] 3)).heap.size := hbwA.size
  go_loopw [6, 9, 10, 44] (fun v6 _ _ v44 wr => ∃ (k N c' : Nat) (A' : Option Addr), v44 = .int .i64 k ∧ v6 = .slice A' N c' ∧ k ≤ n4 ∧ N ≤ l5.length + 36 * k ∧ Hid (wr.ownsRow w.heap.size 5 1 (.slice A' N c') N (bv (l5 ++ Wq.lW (xw.take k)))) ∧ Hid ((l5 ++ Wq.lW (xw.take k)).length = N) ∧ Below w5.heap.size w5 wr) (fun _ _ _ v44 _ => n4 - (intOf v44).toNat)
  case atStart => exact ⟨0, l5.length, d5, D5, rfl, rfl, by omega, by omega, by show World.ownsRow _ _ _ _ _ _ _; simpa [Wq.lW] using own_less HO5.out hw4s, by show _ = _; simp [Wq.lW], Below.refl _ _⟩
  case round =>
    obtain ⟨k, N, c', A', rfl, rfl, hk, hN, ho, hq, hb⟩ := hrel
    have hbs := hb.size
    by_cases hlt : k < n4
    · have hks : k < xw.length := by rw [HM4.out]; exact hlt
      obtain ⟨bb, o, hA4, hab, g0, g1, g2, g3⟩ := (HN5.out.r4.below hb).write HN5.out.l4 hks
      dsimp only at hA4
      subst hA4
      have HTK := Lib.hid (lW_take xw k hks)
      have HUK := Lib.hid (wNums_u63 (HWU.out _ (List.getElem_mem hks)))
      generalize xw[k]'hks = wk at g0 g1 g2 g3 HTK HUK
      obtain ⟨⟨ct, nd⟩, ob, gb⟩ := wk
      dsimp only at g0 g1 g2 g3
      have hbX : Below wr.heap.size wr ((wr.alloc (.cells #[.int .i64 ct, .int .i64 nd, .int .i64 ob, .bool gb] 100)).alloc (.cells #[.int .i64 ob, .int .i64 nd, .int .i64 ct, .int .i64 (Wq.gn gb : Nat)] 3)) := ((Below.refl _ _).alloc (Nat.le_refl _) _).alloc (by simp) _
      have hRn := Rd.new (wr.alloc (.cells #[.int .i64 ct, .int .i64 nd, .int .i64 ob, .bool gb] 100)) 3 1 4 #[.int .i64 ob, .int .i64 nd, .int .i64 ct, .int .i64 (Wq.gn gb : Nat)] rfl h4max
      have G6 := lay_any A' (some ⟨wr.heap.size + 1, 0, none⟩) N c' 4 4 (l5 ++ Wq.lW (xw.take k)) (wNums ((ct, nd), ob, gb)) _ hq.out ((Rd.of_own ho.out).go hbX) rfl (by rw [World.size_alloc] at hRn; rw [World.size_alloc, World.size_alloc]; exact hRn) HUK.out (by omega) (by omega)
      have hE6 := layAll_len (wNums ((ct, nd), ob, gb)) HUK.out
      have e1 : (l5 ++ Wq.lW (xw.take k)) ++ layAll (wNums ((ct, nd), ob, gb)) = l5 ++ Wq.lW (xw.take (k + 1)) := by rw [HTK.out, List.append_assoc]
      have hlen : ((l5 ++ Wq.lW (xw.take k)) ++ layAll (wNums ((ct, nd), ob, gb))).length ≤ N + 36 := by
        rw [List.length_append, hq.out]; simp [wNums] at hE6; simp [wNums]; omega
      rw [e1] at G6 hlen
      obtain ⟨N6, hN6⟩ : ∃ q, q = (l5 ++ Wq.lW (xw.take (k + 1))).length := ⟨_, rfl⟩
      unfold BytesAre at G6
      rw [← hN6] at G6 hlen
      have HN6 := Lib.hid hN6.symm
      have G6 := Lib.hid G6
      have HBX := Lib.hid hbX
      clear hRn hbX hE6 e1 ho hks hN6
      rcases gb with _ | _
      all_goals
        go_wp2_with (go_at_call 49; go_must (refine G6.out.mono ?_); rintro e w6 ⟨u6, rfl, D6, d6, rfl, ho6, hb6⟩)
        go_roundw
        case rel => exact ⟨k + 1, N6, d6, D6, by go_num, rfl, by omega, by omega, own_less ho6 (by have := hbw5.size; simp; omega), HN6.out, hb.trans ((HBX.out.trans (hb6.mono (by simp; omega))).mono hbs)⟩
        case measure => simp [intOf]; omega
    · obtain rfl : k = n4 := by omega
      have e0 : xw.take k = xw := List.take_of_length_le (by rw [HM4.out]; exact Nat.le_refl _)
      have q1 := hq.out
      have q3 := ho.out
      rw [e0] at q1 q3
      have e2 : l5 ++ Wq.lW xw = l ++ Wq.lNt ⟨xs, xe, xb, xw⟩ := by
        rw [HL5.out, HL4.out, HL3.out, HL2.out]
        unfold Wq.lNt
        rw [HM4.out]
        simp [layAll]
      rw [e2] at q1 q3
      clear ho hq
      go_wp2
      go_ret2
      exact ⟨_, rfl, A', c', by rw [q1] <;> rfl, by rw [q1]; exact q3, hbw5.trans (hb.mono hbw5.size)⟩
end Go.Proofs.YtndlcimckfndiaaDoor
