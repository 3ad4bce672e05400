/- Walk over the law ScriptDecodes (printed by wip/tools/genScJ.py). -/
import Derived.Test.YtldcgmnfohhjbacScI
namespace Go.Proofs.Ytldcgmnfohhjbac
open Go.RowKit
set_option maxRecDepth 100000

theorem dec_ways (l : List UInt8) : (Sc.decX l = ⟨0, 0, 0, 0, 0, [], []⟩ ∧ Sc.decE l = 14) ∨ (∃ x, Sc.decX l = x ∧ Sc.decE l = 0 ∧ Sc.enc x = l ∧ Sc.fmB x = true ∧ Sc.small x) := by
  rcases h : Sc.dec l with _ | x
  · exact .inl (Sc.decX_no h)
  · obtain ⟨h1, h2, h3⟩ := Sc.dec_back h
    refine .inr ⟨x, (Sc.decX_yes h).1, (Sc.decX_yes h).2, h1, fmB_iff.2 h2, h3⟩

set_option maxHeartbeats 8000000 in
theorem scriptDecodes_walk (A : Option Addr) (n c : Nat) (l : List UInt8) (w : World) (hl : l.length = n) (hR : Rd w w.heap.size 1 A n c (bv l)) (hn : n ≤ 4294967296) :
    Calls Try.prog 4 #[.slice A n c] w (TrueP w) := by
  have C1 := Lib.hid fun (W : World) (h : Rd W W.heap.size 1 A n c (bv l)) => copy_any A n c (bv l) W h (bv_oneCell l) (by omega)
  have D1 := Lib.hid fun (W : World) A' c' (h : Rd W W.heap.size 1 A' n c' (bv l)) => scDecode_any A' n c' l W hl h hn
  have D2 := Lib.hid fun (W : World) (h : Rd W W.heap.size 1 A n c (bv l)) => refScDecode_any A n c l W hl h hn
  have HR := Lib.hid hR
  have HL := Lib.hid hl
  clear hR hl
  have hS : ∀ (W : World) (v u : SV) x (h : StpRd W W.heap.size v x) (k : StpRd W W.heap.size u x), Calls Try.prog 17 #[.agg (v.val x), .agg (u.val x)] W fun e w' => e = .returned (.bool true) ∧ Below W.heap.size W w' := fun W v u x h k => by
    have := refScSame_any v u x x W h k
    rwa [decide_eq_true rfl] at this
  rcases dec_ways l with ⟨e1, e2⟩ | ⟨x, e1, e2, e3, e4, e5⟩
  · rw [e1, e2] at D1 D2
    have HS := Lib.hid fun W vv uu => hS W vv uu ⟨0, 0, 0, 0, 0, [], []⟩
    clear hS e1 e2
    go_enter Try.func4, Try.ntmps4
    go_wp2_with fail
    refine (alive_any _).mono ?_
    rintro e w1 ⟨rfl, hb1⟩
    go_wp2_with fail
    refine (C1.out w1 (HR.out.go hb1)).mono ?_
    rintro e w2 ⟨A1, c1, rfl, ho1, hb2⟩
    have hbw2 := below_then hb1 (Nat.le_refl _) hb2
    clear C1
    go_wp2_with fail
    refine (D1.out w2 A1 c1 (Rd.of_own ho1)).mono ?_
    rintro e w3 ⟨⟨P1, p1, q1, P2, p2, q2⟩, rfl, hst, hb3⟩
    have hbw3 := below_then hbw2 (Nat.le_refl _) hb3
    have hbA : Below w3.heap.size w3 (w3.alloc (.cells (SV.val ⟨P1, p1, q1, P2, p2, q2⟩ ⟨0, 0, 0, 0, 0, [], []⟩) 25)) := (Below.refl _ _).alloc (Nat.le_refl _) _
    have hX := Blk.new w3 25 (SV.val ⟨P1, p1, q1, P2, p2, q2⟩ ⟨0, 0, 0, 0, 0, [], []⟩)
    have ho3 := own_below (own_below ho1 hb3 (Nat.le_refl _)) hbA (Nat.le_refl _)
    have hst3 := hst.go hbA
    have hbw4 := below_then hbw3 (Nat.le_refl _) hbA
    have HO := Lib.hid ho3
    have HX := Lib.hid hX
    have HST := Lib.hid hst3
    have G2 := Lib.hid (D2.out _ (HR.out.go hbw4))
    have HBW := Lib.hid hbw4
    clear ho1 ho3 hst hst3 hX hb1 hb2 hb3 hbA hbw2 hbw3 hbw4 D1 D2
    simp only [SV.val]
    go_wp2_with fail
    refine G2.out.mono ?_
    rintro e w5 ⟨⟨R1, r1, s1, R2, r2, s2⟩, rfl, hst5, hb5⟩
    have hbA : Below w5.heap.size w5 (w5.alloc (.cells (SV.val ⟨R1, r1, s1, R2, r2, s2⟩ ⟨0, 0, 0, 0, 0, [], []⟩) 25)) := (Below.refl _ _).alloc (Nat.le_refl _) _
    have hY := Blk.new w5 25 (SV.val ⟨R1, r1, s1, R2, r2, s2⟩ ⟨0, 0, 0, 0, 0, [], []⟩)
    have hbw6 := below_then (below_then HBW.out (Nat.le_refl _) hb5) (Nat.le_refl _) hbA
    have hX6 := (HX.out.go hb5).go hbA
    have hst6 := (HST.out.go hb5).go hbA
    have hst7 := hst5.go hbA
    have ho6 := own_below (own_below HO.out hb5 (Nat.le_refl _)) hbA (Nat.le_refl _)
    have GS := Lib.hid (HS.out _ _ _ hst6 hst7)
    have HR6 := Lib.hid (HR.out.go hbw6)
    have hw5 := hb5.size
    rw [World.size_alloc] at hw5
    obtain ⟨w6, hw6⟩ : ∃ w6, w6 = w5.alloc (.cells (SV.val ⟨R1, r1, s1, R2, r2, s2⟩ ⟨0, 0, 0, 0, 0, [], []⟩) 25) := ⟨_, rfl⟩
    rw [← hw6] at hY hbw6 hX6 hst6 ho6 GS HR6
    have HW6 := Lib.hid hw6.symm
    have HX6 := Lib.hid hX6
    have HST6 := Lib.hid hst6
    have HO6 := Lib.hid ho6
    have x0 : (w5.alloc (.cells (SV.val ⟨R1, r1, s1, R2, r2, s2⟩ ⟨0, 0, 0, 0, 0, [], []⟩) 25)).cell? ⟨w3.heap.size, 0, none⟩ = some (.int .i64 0) := by rw [HW6.out]; exact HX6.out.cell 0
    have x1 : (w5.alloc (.cells (SV.val ⟨R1, r1, s1, R2, r2, s2⟩ ⟨0, 0, 0, 0, 0, [], []⟩) 25)).cell? ⟨w3.heap.size, 1, none⟩ = some (.int .i64 0) := by rw [HW6.out]; exact HX6.out.cell 1
    have x2 : (w5.alloc (.cells (SV.val ⟨R1, r1, s1, R2, r2, s2⟩ ⟨0, 0, 0, 0, 0, [], []⟩) 25)).cell? ⟨w3.heap.size, 2, none⟩ = some (.int .i64 0) := by rw [HW6.out]; exact HX6.out.cell 2
    have x3 : (w5.alloc (.cells (SV.val ⟨R1, r1, s1, R2, r2, s2⟩ ⟨0, 0, 0, 0, 0, [], []⟩) 25)).cell? ⟨w3.heap.size, 3, none⟩ = some (.int .i64 0) := by rw [HW6.out]; exact HX6.out.cell 3
    have x4 : (w5.alloc (.cells (SV.val ⟨R1, r1, s1, R2, r2, s2⟩ ⟨0, 0, 0, 0, 0, [], []⟩) 25)).cell? ⟨w3.heap.size, 4, none⟩ = some (.int .i64 0) := by rw [HW6.out]; exact HX6.out.cell 4
    have x5 : (w5.alloc (.cells (SV.val ⟨R1, r1, s1, R2, r2, s2⟩ ⟨0, 0, 0, 0, 0, [], []⟩) 25)).cell? ⟨w3.heap.size, 5, none⟩ = some (.slice P1 p1 q1) := by rw [HW6.out]; exact HX6.out.cell 5
    have x6 : (w5.alloc (.cells (SV.val ⟨R1, r1, s1, R2, r2, s2⟩ ⟨0, 0, 0, 0, 0, [], []⟩) 25)).cell? ⟨w3.heap.size, 6, none⟩ = some (.slice P2 p2 q2) := by rw [HW6.out]; exact HX6.out.cell 6
    clear hY hX6 hst5 hst6 hst7 ho6 hw6 hb5 hbA HX HST HO HBW G2 HS
    simp only [SV.val] at x0 x1 x2 x3 x4 x5 x6 ⊢
    simp only [SV.val] at HW6 GS
    go_wp2_with fail
    rw [HW6.out]
    refine GS.out.mono ?_
    rintro e w7 ⟨rfl, hb7⟩
    have hbw7 := below_then hbw6 (Nat.le_refl _) hb7
    have GB := Lib.hid (sameB_any A1 A n c1 n c w7.heap.size w7.heap.size l l w7 (Rd.of_own (own_below HO6.out hb7 (Nat.le_refl _))) (HR6.out.go hb7))
    rw [beq_self_eq_true] at GB
    clear x0 x1 x2 x3 x4 x5 x6
    go_wp2_with fail
    refine GB.out.mono ?_
    rintro e w8 ⟨rfl, rfl⟩
    go_wp2
    go_ret
    exact ⟨rfl, hbw7⟩
  · obtain ⟨k, a, b, o, nn, s, v⟩ := x
    have E1 := Lib.hid fun (W : World) (u : SV) (h : StpRd W W.heap.size u ⟨k, a, b, o, nn, s, v⟩) => scEncode_any u _ W h e5
    rw [e3, e4] at E1
    clear e3 e4 e5
    rw [e1, e2] at D1 D2
    have HS := Lib.hid fun W vv uu => hS W vv uu ⟨k, a, b, o, nn, s, v⟩
    clear hS e1 e2
    go_enter Try.func4, Try.ntmps4
    go_wp2_with fail
    refine (alive_any _).mono ?_
    rintro e w1 ⟨rfl, hb1⟩
    go_wp2_with fail
    refine (C1.out w1 (HR.out.go hb1)).mono ?_
    rintro e w2 ⟨A1, c1, rfl, ho1, hb2⟩
    have hbw2 := below_then hb1 (Nat.le_refl _) hb2
    clear C1
    go_wp2_with fail
    refine (D1.out w2 A1 c1 (Rd.of_own ho1)).mono ?_
    rintro e w3 ⟨⟨P1, p1, q1, P2, p2, q2⟩, rfl, hst, hb3⟩
    have hbw3 := below_then hbw2 (Nat.le_refl _) hb3
    have hbA : Below w3.heap.size w3 (w3.alloc (.cells (SV.val ⟨P1, p1, q1, P2, p2, q2⟩ ⟨k, a, b, o, nn, s, v⟩) 25)) := (Below.refl _ _).alloc (Nat.le_refl _) _
    have hX := Blk.new w3 25 (SV.val ⟨P1, p1, q1, P2, p2, q2⟩ ⟨k, a, b, o, nn, s, v⟩)
    have ho3 := own_below (own_below ho1 hb3 (Nat.le_refl _)) hbA (Nat.le_refl _)
    have hst3 := hst.go hbA
    have hbw4 := below_then hbw3 (Nat.le_refl _) hbA
    have HO := Lib.hid ho3
    have HX := Lib.hid hX
    have HST := Lib.hid hst3
    have G2 := Lib.hid (D2.out _ (HR.out.go hbw4))
    have HBW := Lib.hid hbw4
    clear ho1 ho3 hst hst3 hX hb1 hb2 hb3 hbA hbw2 hbw3 hbw4 D1 D2
    simp only [SV.val]
    go_wp2_with fail
    refine G2.out.mono ?_
    rintro e w5 ⟨⟨R1, r1, s1, R2, r2, s2⟩, rfl, hst5, hb5⟩
    have hbA : Below w5.heap.size w5 (w5.alloc (.cells (SV.val ⟨R1, r1, s1, R2, r2, s2⟩ ⟨k, a, b, o, nn, s, v⟩) 25)) := (Below.refl _ _).alloc (Nat.le_refl _) _
    have hY := Blk.new w5 25 (SV.val ⟨R1, r1, s1, R2, r2, s2⟩ ⟨k, a, b, o, nn, s, v⟩)
    have hbw6 := below_then (below_then HBW.out (Nat.le_refl _) hb5) (Nat.le_refl _) hbA
    have hX6 := (HX.out.go hb5).go hbA
    have hst6 := (HST.out.go hb5).go hbA
    have hst7 := hst5.go hbA
    have ho6 := own_below (own_below HO.out hb5 (Nat.le_refl _)) hbA (Nat.le_refl _)
    have GS := Lib.hid (HS.out _ _ _ hst6 hst7)
    have HR6 := Lib.hid (HR.out.go hbw6)
    have hw5 := hb5.size
    rw [World.size_alloc] at hw5
    obtain ⟨w6, hw6⟩ : ∃ w6, w6 = w5.alloc (.cells (SV.val ⟨R1, r1, s1, R2, r2, s2⟩ ⟨k, a, b, o, nn, s, v⟩) 25) := ⟨_, rfl⟩
    rw [← hw6] at hY hbw6 hX6 hst6 ho6 GS HR6
    have HW6 := Lib.hid hw6.symm
    have HX6 := Lib.hid hX6
    have HST6 := Lib.hid hst6
    have HO6 := Lib.hid ho6
    have x0 : (w5.alloc (.cells (SV.val ⟨R1, r1, s1, R2, r2, s2⟩ ⟨k, a, b, o, nn, s, v⟩) 25)).cell? ⟨w3.heap.size, 0, none⟩ = some (.int .i64 k) := by rw [HW6.out]; exact HX6.out.cell 0
    have x1 : (w5.alloc (.cells (SV.val ⟨R1, r1, s1, R2, r2, s2⟩ ⟨k, a, b, o, nn, s, v⟩) 25)).cell? ⟨w3.heap.size, 1, none⟩ = some (.int .i64 a) := by rw [HW6.out]; exact HX6.out.cell 1
    have x2 : (w5.alloc (.cells (SV.val ⟨R1, r1, s1, R2, r2, s2⟩ ⟨k, a, b, o, nn, s, v⟩) 25)).cell? ⟨w3.heap.size, 2, none⟩ = some (.int .i64 b) := by rw [HW6.out]; exact HX6.out.cell 2
    have x3 : (w5.alloc (.cells (SV.val ⟨R1, r1, s1, R2, r2, s2⟩ ⟨k, a, b, o, nn, s, v⟩) 25)).cell? ⟨w3.heap.size, 3, none⟩ = some (.int .i64 o) := by rw [HW6.out]; exact HX6.out.cell 3
    have x4 : (w5.alloc (.cells (SV.val ⟨R1, r1, s1, R2, r2, s2⟩ ⟨k, a, b, o, nn, s, v⟩) 25)).cell? ⟨w3.heap.size, 4, none⟩ = some (.int .i64 nn) := by rw [HW6.out]; exact HX6.out.cell 4
    have x5 : (w5.alloc (.cells (SV.val ⟨R1, r1, s1, R2, r2, s2⟩ ⟨k, a, b, o, nn, s, v⟩) 25)).cell? ⟨w3.heap.size, 5, none⟩ = some (.slice P1 p1 q1) := by rw [HW6.out]; exact HX6.out.cell 5
    have x6 : (w5.alloc (.cells (SV.val ⟨R1, r1, s1, R2, r2, s2⟩ ⟨k, a, b, o, nn, s, v⟩) 25)).cell? ⟨w3.heap.size, 6, none⟩ = some (.slice P2 p2 q2) := by rw [HW6.out]; exact HX6.out.cell 6
    clear hY hX6 hst5 hst6 hst7 ho6 hw6 hb5 hbA HX HST HO HBW G2 HS
    simp only [SV.val] at x0 x1 x2 x3 x4 x5 x6 ⊢
    simp only [SV.val] at HW6 GS
    go_wp2_with fail
    rw [HW6.out]
    refine GS.out.mono ?_
    rintro e w7 ⟨rfl, hb7⟩
    have hbw7 := below_then hbw6 (Nat.le_refl _) hb7
    have GB := Lib.hid (sameB_any A1 A n c1 n c w7.heap.size w7.heap.size l l w7 (Rd.of_own (own_below HO6.out hb7 (Nat.le_refl _))) (HR6.out.go hb7))
    rw [beq_self_eq_true] at GB
    clear x0 x1 x2 x3 x4 x5 x6
    go_wp2_with fail
    refine GB.out.mono ?_
    rintro e w8 ⟨rfl, rfl⟩
    have hX8 := HX6.out.go hb7
    have x0 := hX8.cell 0
    have x1 := hX8.cell 1
    have x2 := hX8.cell 2
    have x3 := hX8.cell 3
    have x4 := hX8.cell 4
    have x5 := hX8.cell 5
    have x6 := hX8.cell 6
    have GE := Lib.hid (E1.out w7 _ (HST6.out.go hb7))
    have hR7 := HR6.out.go hb7
    have hBe : ∀ (W w' : World) (v : Value), BytesAre W.heap.size W l v w' → ∃ A' c', v = .slice A' n c' ∧ w'.ownsRow W.heap.size 5 1 (.slice A' n c') n (bv l) ∧ Below W.heap.size W w' := fun W w' v h => by rw [← HL.out]; exact h
    have HBE := Lib.hid hBe
    have HR7 := Lib.hid hR7
    clear hX8 hBe hR7 GB E1
    go_wp2_with fail
    refine GE.out.mono ?_
    rintro e w9 (⟨_, v9, rfl, hby⟩ | ⟨h, _⟩)
    rotate_left
    · cases h
    obtain ⟨A9, c9, rfl, ho9, hb9⟩ := HBE.out _ _ _ hby
    have GC := Lib.hid (sameB_any A9 A n c9 n c w9.heap.size w9.heap.size l l w9 (Rd.of_own ho9) (HR7.out.go hb9))
    rw [beq_self_eq_true] at GC
    have hbw9 := below_then hbw7 (Nat.le_refl _) hb9
    clear x0 x1 x2 x3 x4 x5 x6 hby ho9 hb9
    go_wp2_with fail
    refine GC.out.mono ?_
    rintro e w10 ⟨rfl, rfl⟩
    go_wp2
    go_ret
    exact ⟨rfl, hbw9⟩
end Go.Proofs.Ytldcgmnfohhjbac
