/- Walks over wire.part at notes and bodies (printed by wip/tools/genWrO.py). -/
import Derived.Test.YtndlcimckfndiaaDoorWrN
namespace Go.Proofs.YtndlcimckfndiaaDoor
open Go.RowKit
set_option maxRecDepth 100000

set_option maxHeartbeats 4000000 in
theorem partNote_any (g T : Nat) (s : Option (List UInt8)) (w : World) (hTb : Tab w) (h : PR w g T s) (hT32 : T ≤ 4294967296) :
    Calls Tryd.prog 76 #[.pointer (some ⟨g, 0, none⟩), .func (.func 29) #[] #[]] w fun e w' => ∃ v : NV, e = .returned (.agg v.val) ∧ NtOwn w' w.heap.size v (Wq.vl Wq.pNt ⟨[], [], [], []⟩ s) ∧ PR w' g T (Wq.st Wq.pNt s) ∧ But g w w' := by
  have hb0 : Below w.heap.size w (w.alloc (.cells #[.slice none 0 0, .slice none 0 0, .slice none 0 0, .slice none 0 0] 51)) := (Below.refl _ _).alloc (Nat.le_refl _) _
  have hlt := h.lt
  have hR0 := Blk.new w 51 #[.slice none 0 0, .slice none 0 0, .slice none 0 0, .slice none 0 0]
  rcases s with _ | l
  · have HP := Lib.hid h
    obtain ⟨A, n, c, k, hB⟩ := h
    have d2 := (hB.go hb0).cell 2
    have HR0 := Lib.hid hR0
    clear hB hR0
    go_enter Tryd.func76, Tryd.ntmps76
    go_wp2
    have hF := HR0.out.alloc (.cells #[.slice none 0 0, .slice none 0 0, .slice none 0 0, .slice none 0 0] 51)
    refine bodyPost_ret (results_cell_row rfl _ _ w.heap.size 51 _ _ _ rfl hF Tryd.underlying51 rfl (by kernel_rfl)) rfl ⟨NV0, rfl, ⟨rfl, World.ownsRow_nil _ _ _ _, rfl, World.ownsRow_nil _ _ _ _, rfl, World.ownsRow_nil _ _ _ _, rfl, World.ownsRow_nil _ _ _ _⟩, HP.out.go (hb0.alloc (by simp) _), But.of (hb0.alloc (by simp) _)⟩
  · obtain ⟨A, n, c, hB, hR, hl, hT, hm⟩ := h
    have hbg := hb0.mono (Nat.le_of_lt hlt)
    have kc0 := (hB.go hb0).cell 0
    have kc2 := (hB.go hb0).cell 2
    obtain ⟨W0, hW0⟩ : ∃ W0, W0 = w.alloc (.cells #[.slice none 0 0, .slice none 0 0, .slice none 0 0, .slice none 0 0] 51) := ⟨_, rfl⟩
    have hs0 : W0.heap.size = w.heap.size + 1 := by rw [hW0]; simp
    rw [← hW0] at hb0 hR0 hbg
    have H1 := wireNote_any A n c l W0 (hTb.below hb0) hl ((hR.below hbg).more (by omega)) (by omega)
    have hB0 := hB.go hb0
    unfold maxLen at hm
    have HW0 := Lib.hid hW0.symm
    have hgv : Wq.vl Wq.pNt ⟨[], [], [], []⟩ (some l) = gV Wq.pNt ⟨[], [], [], []⟩ l := rfl
    rw [hgv]
    rcases hp : Wq.pNt l with _ | ⟨v0, r⟩
    · obtain ⟨e1, e2, e3⟩ := g_no (d := (⟨[], [], [], []⟩ : Nt)) hp
      rw [e1, e2, e3] at H1
      rw [e1, gS_no hp]
      have G1 := Lib.hid H1
      have G2 := Lib.hid fun (W : World) hB => took_bad g (.slice A n c) (.int .i64 ((T - l.length : Nat) : Int)) 0 4 W hB (by omega)
      have HB := Lib.hid hB0
      have HR0 := Lib.hid hR0
      have HBB := Lib.hid hb0
      clear H1 hR hl hp hB hB0 e1 e2 e3 hgv hR0 hb0 hW0 hbg
      go_enter Tryd.func76, Tryd.ntmps76
      go_wp2_with fail
      rw [HW0.out]
      refine G1.out.mono ?_
      rintro e w1 ⟨v, rfl, hno, hb1⟩
      obtain ⟨A1, n1, c1, A2, n2, c2, A3, n3, c3, A4, n4, c4⟩ := v
      have hs1 := hb1.size
      have hbX : Below w1.heap.size w1 (w1.alloc (.cells #[.slice A1 n1 c1, .slice A2 n2 c2, .slice A3 n3 c3, .slice A4 n4 c4] 51)) := (Below.refl _ _).alloc (Nat.le_refl _) _
      have hX := Blk.new w1 51 #[.slice A1 n1 c1, .slice A2 n2 c2, .slice A3 n3 c3, .slice A4 n4 c4]
      have hB1 := (HB.out.go hb1).go hbX
      have hR1 := (HR0.out.go hb1).go hbX
      obtain ⟨W2, hW2⟩ : ∃ W2, W2 = w1.alloc (.cells #[.slice A1 n1 c1, .slice A2 n2 c2, .slice A3 n3 c3, .slice A4 n4 c4] 51) := ⟨_, rfl⟩
      have hs2 : W2.heap.size = w1.heap.size + 1 := by rw [hW2]; simp
      have HW2 := Lib.hid hW2.symm
      rw [← hW2] at hbX hX hB1 hR1
      clear kc0 kc2 hW2
      go_wp2_with fail
      rw [HW2.out]
      refine (G2.out W2 hB1).mono ?_
      rintro e w3 ⟨rfl, hB3, hu3⟩
      have hs3 := hu3.size
      have hX3 := hX.but hu3 (by omega)
      have hR3 := hR1.but hu3 (by omega)
      obtain ⟨x0, x1, x2, x3⟩ := hX3.four
      obtain ⟨z0, z1, z2, z3⟩ := hR3.four
      have y0 := hR3.frozen 0
      have y1 := hR3.frozen 1
      have y2 := hR3.frozen 2
      have y3 := hR3.frozen 3
      clear hX hR1 hB1
      go_wp2
      have hF := (((hR3.set_ 0 (.slice A1 n1 c1)).set_ 1 (.slice A2 n2 c2)).set_ 2 (.slice A3 n3 c3)).set_ 3 (.slice A4 n4 c4)
      have hu : But w.heap.size w3 ((((w3.setCell ⟨w.heap.size, 0, none⟩ (.slice A1 n1 c1)).setCell ⟨w.heap.size, 1, none⟩ (.slice A2 n2 c2)).setCell ⟨w.heap.size, 2, none⟩ (.slice A3 n3 c3)).setCell ⟨w.heap.size, 3, none⟩ (.slice A4 n4 c4)) :=
        (((But.set_ (g := w.heap.size) _ (p := ⟨w.heap.size, 0, none⟩) rfl _).trans (But.set_ (g := w.heap.size) _ (p := ⟨w.heap.size, 1, none⟩) rfl _)).trans (But.set_ (g := w.heap.size) _ (p := ⟨w.heap.size, 2, none⟩) rfl _)).trans (But.set_ (g := w.heap.size) _ (p := ⟨w.heap.size, 3, none⟩) rfl _)
      have hbw := below_then (below_then HBB.out (by omega) hb1) (by omega) hbX
      have hbut : But g w _ := ((But.of hbw).trans hu3).below ((((Below.refl w.heap.size w3).setCell (p := ⟨w.heap.size, 0, none⟩) (Nat.le_refl _) (.slice A1 n1 c1)).setCell (p := ⟨w.heap.size, 1, none⟩) (Nat.le_refl _) (.slice A2 n2 c2)).setCell (p := ⟨w.heap.size, 2, none⟩) (Nat.le_refl _) (.slice A3 n3 c3) |>.setCell (p := ⟨w.heap.size, 3, none⟩) (Nat.le_refl _) (.slice A4 n4 c4))
      have hP3 : PR w3 g T none := ⟨_, _, _, _, hB3⟩
      refine bodyPost_ret (results_cell_row rfl _ _ w.heap.size 51 _ _ _ rfl hF Tryd.underlying51 rfl (by kernel_rfl)) rfl ⟨⟨A1, n1, c1, A2, n2, c2, A3, n3, c3, A4, n4, c4⟩, rfl, (((hno.below hbX).but hu3 (by omega)).but hu (by omega)).less (by omega), hP3.but hu (by omega), hbut⟩
    · obtain ⟨e1, e2, e3⟩ := g_yes (d := (⟨[], [], [], []⟩ : Nt)) hp
      obtain ⟨d1, d2⟩ := drop_back (Wq.pNt_back hp).1
      rw [e1, e2, e3] at H1
      rw [e1, gS_some hp]
      obtain ⟨k, hk⟩ : ∃ k, k = l.length - r.length := ⟨_, rfl⟩
      rw [← hk] at H1 d1
      have G1 := Lib.hid H1
      have G2 := Lib.hid fun (W : World) hB => took_ok g k n c A ((T - l.length : Nat) : Int) W hB (by omega) (by omega) (by omega)
      have HB := Lib.hid hB0
      have HR := Lib.hid (hR.from_ (k := k) (by omega))
      have HE := Lib.hid (show (((T - l.length : Nat) : Int) + k) = ((T - r.length : Nat) : Int) by omega)
      have HD := Lib.hid d1
      have hrl : r.length = n - k := by omega
      have hrt : r.length ≤ T := by omega
      have HR0 := Lib.hid hR0
      have HBB := Lib.hid hb0
      clear H1 hR hl hp hB hB0 e1 e2 e3 hgv d1 hk hR0 hb0 hW0 hbg
      go_enter Tryd.func76, Tryd.ntmps76
      go_wp2_with fail
      rw [HW0.out]
      refine G1.out.mono ?_
      rintro e w1 ⟨v, rfl, hno, hb1⟩
      obtain ⟨A1, n1, c1, A2, n2, c2, A3, n3, c3, A4, n4, c4⟩ := v
      have hs1 := hb1.size
      have hbX : Below w1.heap.size w1 (w1.alloc (.cells #[.slice A1 n1 c1, .slice A2 n2 c2, .slice A3 n3 c3, .slice A4 n4 c4] 51)) := (Below.refl _ _).alloc (Nat.le_refl _) _
      have hX := Blk.new w1 51 #[.slice A1 n1 c1, .slice A2 n2 c2, .slice A3 n3 c3, .slice A4 n4 c4]
      have hB1 := (HB.out.go hb1).go hbX
      have hR1 := (HR0.out.go hb1).go hbX
      obtain ⟨W2, hW2⟩ : ∃ W2, W2 = w1.alloc (.cells #[.slice A1 n1 c1, .slice A2 n2 c2, .slice A3 n3 c3, .slice A4 n4 c4] 51) := ⟨_, rfl⟩
      have hs2 : W2.heap.size = w1.heap.size + 1 := by rw [hW2]; simp
      have HW2 := Lib.hid hW2.symm
      rw [← hW2] at hbX hX hB1 hR1
      clear kc0 kc2 hW2
      go_wp2_with fail
      rw [HW2.out]
      refine (G2.out W2 hB1).mono ?_
      rintro e w3 ⟨rfl, hB3, hu3⟩
      have hs3 := hu3.size
      have hX3 := hX.but hu3 (by omega)
      have hR3 := hR1.but hu3 (by omega)
      obtain ⟨x0, x1, x2, x3⟩ := hX3.four
      obtain ⟨z0, z1, z2, z3⟩ := hR3.four
      have y0 := hR3.frozen 0
      have y1 := hR3.frozen 1
      have y2 := hR3.frozen 2
      have y3 := hR3.frozen 3
      clear hX hR1 hB1
      go_wp2
      have hF := (((hR3.set_ 0 (.slice A1 n1 c1)).set_ 1 (.slice A2 n2 c2)).set_ 2 (.slice A3 n3 c3)).set_ 3 (.slice A4 n4 c4)
      have hu : But w.heap.size w3 ((((w3.setCell ⟨w.heap.size, 0, none⟩ (.slice A1 n1 c1)).setCell ⟨w.heap.size, 1, none⟩ (.slice A2 n2 c2)).setCell ⟨w.heap.size, 2, none⟩ (.slice A3 n3 c3)).setCell ⟨w.heap.size, 3, none⟩ (.slice A4 n4 c4)) :=
        (((But.set_ (g := w.heap.size) _ (p := ⟨w.heap.size, 0, none⟩) rfl _).trans (But.set_ (g := w.heap.size) _ (p := ⟨w.heap.size, 1, none⟩) rfl _)).trans (But.set_ (g := w.heap.size) _ (p := ⟨w.heap.size, 2, none⟩) rfl _)).trans (But.set_ (g := w.heap.size) _ (p := ⟨w.heap.size, 3, none⟩) rfl _)
      have hbw := below_then (below_then HBB.out (by omega) hb1) (by omega) hbX
      have hbut : But g w _ := ((But.of hbw).trans hu3).below ((((Below.refl w.heap.size w3).setCell (p := ⟨w.heap.size, 0, none⟩) (Nat.le_refl _) (.slice A1 n1 c1)).setCell (p := ⟨w.heap.size, 1, none⟩) (Nat.le_refl _) (.slice A2 n2 c2)).setCell (p := ⟨w.heap.size, 2, none⟩) (Nat.le_refl _) (.slice A3 n3 c3) |>.setCell (p := ⟨w.heap.size, 3, none⟩) (Nat.le_refl _) (.slice A4 n4 c4))
      have h2 := HR.out
      rw [Nat.mul_one, ← bv_drop, HD.out] at h2
      rw [HE.out] at hB3
      have h3 := (((((h2.below (HBB.out.mono (Nat.le_of_lt hlt))).below (hb1.mono (by omega))).below (hbX.mono (by omega))).but hu3 (by omega) (Nat.le_refl _)))
      have hP3 : PR w3 g T (some r) := ⟨_, _, _, hB3, h3, hrl, hrt, by unfold maxLen; exact hm⟩
      refine bodyPost_ret (results_cell_row rfl _ _ w.heap.size 51 _ _ _ rfl hF Tryd.underlying51 rfl (by kernel_rfl)) rfl ⟨⟨A1, n1, c1, A2, n2, c2, A3, n3, c3, A4, n4, c4⟩, rfl, (((hno.below hbX).but hu3 (by omega)).but hu (by omega)).less (by omega), hP3.but hu (by omega), hbut⟩

set_option maxHeartbeats 4000000 in
theorem partBody_any (g T : Nat) (s : Option (List UInt8)) (w : World) (h : PR w g T s) (hT32 : T ≤ 140737488355328) :
    Calls Tryd.prog 77 #[.pointer (some ⟨g, 0, none⟩), .func (.func 35) #[] #[]] w fun e w' => ∃ A' c', e = .returned (.agg (bval (Wq.vl Wq.pB Wq.bd0 s) A' c')) ∧ w'.ownsRow w.heap.size 5 1 (.slice A' (Wq.vl Wq.pB Wq.bd0 s).v.length c') (Wq.vl Wq.pB Wq.bd0 s).v.length (bv (Wq.vl Wq.pB Wq.bd0 s).v) ∧ PR w' g T (Wq.st Wq.pB s) ∧ But g w w' := by
  have hb0 : Below w.heap.size w (w.alloc (.cells #[.int .i64 0, .int .i64 0, .int .i64 0, .slice none 0 0] 63)) := (Below.refl _ _).alloc (Nat.le_refl _) _
  have hlt := h.lt
  have hR0 := Blk.new w 63 #[.int .i64 0, .int .i64 0, .int .i64 0, .slice none 0 0]
  rcases s with _ | l
  · have HP := Lib.hid h
    obtain ⟨A, n, c, k, hB⟩ := h
    have d2 := (hB.go hb0).cell 2
    have HR0 := Lib.hid hR0
    clear hB hR0
    go_enter Tryd.func77, Tryd.ntmps77
    go_wp2
    have hF := HR0.out.alloc (.cells #[.int .i64 0, .int .i64 0, .int .i64 0, .slice none 0 0] 63)
    refine bodyPost_ret (results_cell_row rfl _ _ w.heap.size 63 _ _ _ rfl hF Tryd.underlying63 rfl (by kernel_rfl)) rfl ⟨none, 0, rfl, World.ownsRow_nil _ _ _ _, HP.out.go (hb0.alloc (by simp) _), But.of (hb0.alloc (by simp) _)⟩
  · obtain ⟨A, n, c, hB, hR, hl, hT, hm⟩ := h
    have hbg := hb0.mono (Nat.le_of_lt hlt)
    have kc0 := (hB.go hb0).cell 0
    have kc2 := (hB.go hb0).cell 2
    obtain ⟨W0, hW0⟩ : ∃ W0, W0 = w.alloc (.cells #[.int .i64 0, .int .i64 0, .int .i64 0, .slice none 0 0] 63) := ⟨_, rfl⟩
    have hs0 : W0.heap.size = w.heap.size + 1 := by rw [hW0]; simp
    rw [← hW0] at hb0 hR0 hbg
    have H1 := wireBody_any A n c l W0 hl ((hR.below hbg).more (by omega)) (by omega)
    have hB0 := hB.go hb0
    unfold maxLen at hm
    have HW0 := Lib.hid hW0.symm
    have hgv : Wq.vl Wq.pB Wq.bd0 (some l) = gV Wq.pB Wq.bd0 l := rfl
    rw [hgv]
    rcases hp : Wq.pB l with _ | ⟨v0, r⟩
    · obtain ⟨e1, e2, e3⟩ := g_no (d := Wq.bd0) hp
      rw [e1, e2, e3] at H1
      rw [e1, gS_no hp]
      have G1 := Lib.hid H1
      have G2 := Lib.hid fun (W : World) hB => took_bad g (.slice A n c) (.int .i64 ((T - l.length : Nat) : Int)) 0 4 W hB (by omega)
      have HB := Lib.hid hB0
      have HR0 := Lib.hid hR0
      have HBB := Lib.hid hb0
      clear H1 hR hl hp hB hB0 e1 e2 e3 hgv hR0 hb0 hW0 hbg
      go_enter Tryd.func77, Tryd.ntmps77
      go_wp2_with fail
      rw [HW0.out]
      refine G1.out.mono ?_
      rintro e w1 ⟨A4, c4, rfl, hno, hb1⟩
      unfold bval
      have hs1 := hb1.size
      have hbX : Below w1.heap.size w1 (w1.alloc (.cells #[.int .i64 Wq.bd0.o, .int .i64 Wq.bd0.s.1, .int .i64 Wq.bd0.s.2, .slice A4 Wq.bd0.v.length c4] 63)) := (Below.refl _ _).alloc (Nat.le_refl _) _
      have hX := Blk.new w1 63 #[.int .i64 Wq.bd0.o, .int .i64 Wq.bd0.s.1, .int .i64 Wq.bd0.s.2, .slice A4 Wq.bd0.v.length c4]
      have hB1 := (HB.out.go hb1).go hbX
      have hR1 := (HR0.out.go hb1).go hbX
      obtain ⟨W2, hW2⟩ : ∃ W2, W2 = w1.alloc (.cells #[.int .i64 Wq.bd0.o, .int .i64 Wq.bd0.s.1, .int .i64 Wq.bd0.s.2, .slice A4 Wq.bd0.v.length c4] 63) := ⟨_, rfl⟩
      have hs2 : W2.heap.size = w1.heap.size + 1 := by rw [hW2]; simp
      have HW2 := Lib.hid hW2.symm
      rw [← hW2] at hbX hX hB1 hR1
      clear kc0 kc2 hW2
      go_wp2_with fail
      rw [HW2.out]
      refine (G2.out W2 hB1).mono ?_
      rintro e w3 ⟨rfl, hB3, hu3⟩
      have hs3 := hu3.size
      have hX3 := hX.but hu3 (by omega)
      have hR3 := hR1.but hu3 (by omega)
      obtain ⟨x0, x1, x2, x3⟩ := hX3.four
      obtain ⟨z0, z1, z2, z3⟩ := hR3.four
      have y0 := hR3.frozen 0
      have y1 := hR3.frozen 1
      have y2 := hR3.frozen 2
      have y3 := hR3.frozen 3
      clear hX hR1 hB1
      go_wp2
      have hF := (((hR3.set_ 0 (.int .i64 Wq.bd0.o)).set_ 1 (.int .i64 Wq.bd0.s.1)).set_ 2 (.int .i64 Wq.bd0.s.2)).set_ 3 (.slice A4 Wq.bd0.v.length c4)
      have hu : But w.heap.size w3 ((((w3.setCell ⟨w.heap.size, 0, none⟩ (.int .i64 Wq.bd0.o)).setCell ⟨w.heap.size, 1, none⟩ (.int .i64 Wq.bd0.s.1)).setCell ⟨w.heap.size, 2, none⟩ (.int .i64 Wq.bd0.s.2)).setCell ⟨w.heap.size, 3, none⟩ (.slice A4 Wq.bd0.v.length c4)) :=
        (((But.set_ (g := w.heap.size) _ (p := ⟨w.heap.size, 0, none⟩) rfl _).trans (But.set_ (g := w.heap.size) _ (p := ⟨w.heap.size, 1, none⟩) rfl _)).trans (But.set_ (g := w.heap.size) _ (p := ⟨w.heap.size, 2, none⟩) rfl _)).trans (But.set_ (g := w.heap.size) _ (p := ⟨w.heap.size, 3, none⟩) rfl _)
      have hbw := below_then (below_then HBB.out (by omega) hb1) (by omega) hbX
      have hbut : But g w _ := ((But.of hbw).trans hu3).below ((((Below.refl w.heap.size w3).setCell (p := ⟨w.heap.size, 0, none⟩) (Nat.le_refl _) (.int .i64 Wq.bd0.o)).setCell (p := ⟨w.heap.size, 1, none⟩) (Nat.le_refl _) (.int .i64 Wq.bd0.s.1)).setCell (p := ⟨w.heap.size, 2, none⟩) (Nat.le_refl _) (.int .i64 Wq.bd0.s.2) |>.setCell (p := ⟨w.heap.size, 3, none⟩) (Nat.le_refl _) (.slice A4 Wq.bd0.v.length c4))
      have hP3 : PR w3 g T none := ⟨_, _, _, _, hB3⟩
      refine bodyPost_ret (results_cell_row rfl _ _ w.heap.size 63 _ _ _ rfl hF Tryd.underlying63 rfl (by kernel_rfl)) rfl ⟨A4, c4, rfl, own_less (own_but (own_but (own_below hno hbX (Nat.le_refl _)) hu3 (by omega)) hu (by omega)) (by omega), hP3.but hu (by omega), hbut⟩
    · obtain ⟨e1, e2, e3⟩ := g_yes (d := Wq.bd0) hp
      obtain ⟨d1, d2⟩ := drop_back (Wq.pB_back hp).1
      rw [e1, e2, e3] at H1
      rw [e1, gS_some hp]
      obtain ⟨k, hk⟩ : ∃ k, k = l.length - r.length := ⟨_, rfl⟩
      rw [← hk] at H1 d1
      have G1 := Lib.hid H1
      have G2 := Lib.hid fun (W : World) hB => took_ok g k n c A ((T - l.length : Nat) : Int) W hB (by omega) (by omega) (by omega)
      have HB := Lib.hid hB0
      have HR := Lib.hid (hR.from_ (k := k) (by omega))
      have HE := Lib.hid (show (((T - l.length : Nat) : Int) + k) = ((T - r.length : Nat) : Int) by omega)
      have HD := Lib.hid d1
      have hrl : r.length = n - k := by omega
      have hrt : r.length ≤ T := by omega
      have HR0 := Lib.hid hR0
      have HBB := Lib.hid hb0
      clear H1 hR hl hp hB hB0 e1 e2 e3 hgv d1 hk hR0 hb0 hW0 hbg
      go_enter Tryd.func77, Tryd.ntmps77
      go_wp2_with fail
      rw [HW0.out]
      refine G1.out.mono ?_
      rintro e w1 ⟨A4, c4, rfl, hno, hb1⟩
      unfold bval
      have hs1 := hb1.size
      have hbX : Below w1.heap.size w1 (w1.alloc (.cells #[.int .i64 v0.o, .int .i64 v0.s.1, .int .i64 v0.s.2, .slice A4 v0.v.length c4] 63)) := (Below.refl _ _).alloc (Nat.le_refl _) _
      have hX := Blk.new w1 63 #[.int .i64 v0.o, .int .i64 v0.s.1, .int .i64 v0.s.2, .slice A4 v0.v.length c4]
      have hB1 := (HB.out.go hb1).go hbX
      have hR1 := (HR0.out.go hb1).go hbX
      obtain ⟨W2, hW2⟩ : ∃ W2, W2 = w1.alloc (.cells #[.int .i64 v0.o, .int .i64 v0.s.1, .int .i64 v0.s.2, .slice A4 v0.v.length c4] 63) := ⟨_, rfl⟩
      have hs2 : W2.heap.size = w1.heap.size + 1 := by rw [hW2]; simp
      have HW2 := Lib.hid hW2.symm
      rw [← hW2] at hbX hX hB1 hR1
      clear kc0 kc2 hW2
      go_wp2_with fail
      rw [HW2.out]
      refine (G2.out W2 hB1).mono ?_
      rintro e w3 ⟨rfl, hB3, hu3⟩
      have hs3 := hu3.size
      have hX3 := hX.but hu3 (by omega)
      have hR3 := hR1.but hu3 (by omega)
      obtain ⟨x0, x1, x2, x3⟩ := hX3.four
      obtain ⟨z0, z1, z2, z3⟩ := hR3.four
      have y0 := hR3.frozen 0
      have y1 := hR3.frozen 1
      have y2 := hR3.frozen 2
      have y3 := hR3.frozen 3
      clear hX hR1 hB1
      go_wp2
      have hF := (((hR3.set_ 0 (.int .i64 v0.o)).set_ 1 (.int .i64 v0.s.1)).set_ 2 (.int .i64 v0.s.2)).set_ 3 (.slice A4 v0.v.length c4)
      have hu : But w.heap.size w3 ((((w3.setCell ⟨w.heap.size, 0, none⟩ (.int .i64 v0.o)).setCell ⟨w.heap.size, 1, none⟩ (.int .i64 v0.s.1)).setCell ⟨w.heap.size, 2, none⟩ (.int .i64 v0.s.2)).setCell ⟨w.heap.size, 3, none⟩ (.slice A4 v0.v.length c4)) :=
        (((But.set_ (g := w.heap.size) _ (p := ⟨w.heap.size, 0, none⟩) rfl _).trans (But.set_ (g := w.heap.size) _ (p := ⟨w.heap.size, 1, none⟩) rfl _)).trans (But.set_ (g := w.heap.size) _ (p := ⟨w.heap.size, 2, none⟩) rfl _)).trans (But.set_ (g := w.heap.size) _ (p := ⟨w.heap.size, 3, none⟩) rfl _)
      have hbw := below_then (below_then HBB.out (by omega) hb1) (by omega) hbX
      have hbut : But g w _ := ((But.of hbw).trans hu3).below ((((Below.refl w.heap.size w3).setCell (p := ⟨w.heap.size, 0, none⟩) (Nat.le_refl _) (.int .i64 v0.o)).setCell (p := ⟨w.heap.size, 1, none⟩) (Nat.le_refl _) (.int .i64 v0.s.1)).setCell (p := ⟨w.heap.size, 2, none⟩) (Nat.le_refl _) (.int .i64 v0.s.2) |>.setCell (p := ⟨w.heap.size, 3, none⟩) (Nat.le_refl _) (.slice A4 v0.v.length c4))
      have h2 := HR.out
      rw [Nat.mul_one, ← bv_drop, HD.out] at h2
      rw [HE.out] at hB3
      have h3 := (((((h2.below (HBB.out.mono (Nat.le_of_lt hlt))).below (hb1.mono (by omega))).below (hbX.mono (by omega))).but hu3 (by omega) (Nat.le_refl _)))
      have hP3 : PR w3 g T (some r) := ⟨_, _, _, hB3, h3, hrl, hrt, by unfold maxLen; exact hm⟩
      refine bodyPost_ret (results_cell_row rfl _ _ w.heap.size 63 _ _ _ rfl hF Tryd.underlying63 rfl (by kernel_rfl)) rfl ⟨A4, c4, rfl, own_less (own_but (own_but (own_below hno hbX (Nat.le_refl _)) hu3 (by omega)) hu (by omega)) (by omega), hP3.but hu (by omega), hbut⟩

end Go.Proofs.YtndlcimckfndiaaDoor
