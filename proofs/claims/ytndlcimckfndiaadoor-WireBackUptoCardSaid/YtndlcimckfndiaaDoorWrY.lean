/- Walk: the document's Reader.Body. -/
import Derived.Test.YtndlcimckfndiaaDoorWrX
namespace Go.Proofs.YtndlcimckfndiaaDoor
open Go.RowKit
set_option maxRecDepth 100000

theorem st_no {α : Type} {p : List UInt8 → Option (α × List UInt8)} {l : List UInt8} (h : p l = none) : Wq.st p (some l) = none := by simp only [Wq.st, h]
theorem st_yes {α : Type} {p : List UInt8 → Option (α × List UInt8)} {d : α} {l r : List UInt8} {v : α} (h : p l = some (v, r)) : Wq.st p (some l) = some r ∧ Wq.vl p d (some l) = v := ⟨by simp only [Wq.st, h], by simp only [Wq.vl, h]⟩
theorem rowV_vl (s : Option (List UInt8)) : rowV 256 s = Wq.vl (Wq.pR 256) [] s := by
  rcases s with _ | l
  · rfl
  · rcases h : Wq.pR 256 l with _ | ⟨_, _⟩ <;> simp only [rowV, Wq.vl, h]
theorem rowS_st (s : Option (List UInt8)) : rowS 256 s = Wq.st (Wq.pR 256) s := by
  rcases s with _ | l
  · rfl
  · rcases h : Wq.pR 256 l with _ | ⟨_, _⟩ <;> simp only [rowS, Wq.st, h]
/-- What a body's parts say of the body. -/
theorem stB_all (s : Option (List UInt8)) (x : Wq.Bd) (hx : x = ⟨(numV s : Nat), ((numV (numS (numS s)) : Nat), (numV (numS s) : Nat)), rowV 256 (numS (numS (numS s)))⟩) :
    (rowS 256 (numS (numS (numS s))) = none → Wq.st Wq.pB s = none) ∧
    (∀ r, rowS 256 (numS (numS (numS s))) = some r → (Wq.bdF x = true → Wq.st Wq.pB s = some r ∧ x = Wq.vl Wq.pB Wq.bd0 s) ∧ (Wq.bdF x = false → Wq.st Wq.pB s = none)) := by
  simp only [numV_vl, numS_st, rowV_vl, rowS_st] at hx ⊢
  rcases s with _ | l
  · exact ⟨fun _ => rfl, fun r h => by simp [Wq.st] at h⟩
  · have h := Wq.pB_all l
    rw [← hx] at h
    refine ⟨fun h4 => ?_, fun r h4 => ⟨fun hb => ?_, fun hb => ?_⟩⟩
    · rw [h4] at h; exact st_no h
    · rw [h4] at h; simp only [hb, if_true] at h; exact ⟨(st_yes (d := Wq.bd0) h).1, (st_yes (d := Wq.bd0) h).2.symm⟩
    · rw [h4] at h; simp only [hb] at h; exact st_no h

theorem RR.spoil {w : World} {g : Nat} {L : List UInt8} {s : Option (List UInt8)} (h : RR w g L s) : RR (w.setCell ⟨g, 2, none⟩ (.bool true)) g L none := by
  cases s with
  | none => obtain ⟨A, n, c, k, h⟩ := h; exact ⟨A, n, c, k, h.set_ 2 (.bool true)⟩
  | some l => obtain ⟨A, n, c, h, _⟩ := h; exact ⟨A, n, c, _, h.set_ 2 (.bool true)⟩
theorem RR.same {w : World} {g : Nat} {L r : List UInt8} (h : RR w g L (some r)) : RR (w.setCell ⟨g, 2, none⟩ (.bool false)) g L (some r) := by
  obtain ⟨A, n, c, h, hR, h2⟩ := h
  exact ⟨A, n, c, h.set_ 2 (.bool false), hR.but (But.set_ (g := g) w (p := ⟨g, 2, none⟩) rfl _) (Nat.le_of_lt h.lt) (Nat.le_refl _), h2⟩
theorem RR.bad {w : World} {g : Nat} {L : List UInt8} {s : Option (List UInt8)} (h : RR w g L s) : w.cell? ⟨g, 2, none⟩ = some (.bool s.isNone) ∧ w.frozen? ⟨g, 2, none⟩ = false := by
  cases s with
  | none => obtain ⟨A, n, c, k, h⟩ := h; exact ⟨h.cell 2, h.frozen 2⟩
  | some l => obtain ⟨A, n, c, h, _⟩ := h; exact ⟨h.cell 2, h.frozen 2⟩

set_option maxHeartbeats 8000000 in
theorem refRdBody_any (g : Nat) (L : List UInt8) (s : Option (List UInt8)) (w : World) (h : RR w g L s) (hL : L.length ≤ 140737488355328) :
    Calls Tryd.prog 34 #[.pointer (some ⟨g, 0, none⟩)] w fun e w' => ∃ (x : Wq.Bd) (A' : Option Addr) (c' : Nat), e = .returned (.agg (bval x A' c')) ∧
      w'.ownsRow w.heap.size 5 1 (.slice A' x.v.length c') x.v.length (bv x.v) ∧ RR w' g L (Wq.st Wq.pB s) ∧ But g w w' ∧ (∀ q, Wq.st Wq.pB s = some q → x = Wq.vl Wq.pB Wq.bd0 s) := by
  have hg := h.lt
  have hb0 : Below w.heap.size w (w.alloc (.cells #[.int .i64 0, .int .i64 0, .int .i64 0, .slice none 0 0] 63)) := (Below.refl _ _).alloc (Nat.le_refl _) _
  have hR0 := Blk.new w 63 #[.int .i64 0, .int .i64 0, .int .i64 0, .slice none 0 0]
  obtain ⟨W0, hW0⟩ : ∃ W0, W0 = w.alloc (.cells #[.int .i64 0, .int .i64 0, .int .i64 0, .slice none 0 0] 63) := ⟨_, rfl⟩
  have hs0 : W0.heap.size = w.heap.size + 1 := by rw [hW0]; simp
  rw [← hW0] at hb0 hR0
  have hP0 := h.go hb0
  have k0 := (But.refl g w).below hb0
  have HW := Lib.hid hW0.symm
  have G1 := Lib.hid fun (W : World) (s : Option (List UInt8)) (h : RR W g L s) => refRdNum_any g L s W h
  have G3 := Lib.hid fun (W : World) (s : Option (List UInt8)) (h : RR W g L s) => refRdRow_any g 256 L s W h hL
  clear h hb0 hW0
  go_enter Tryd.func34, Tryd.ntmps34
  go_wp2_with fail
  rw [HW.out]
  refine (G1.out _ _ hP0).mono ?_
  rintro e w1 ⟨rfl, hP1, hu1⟩
  have hs1 := hu1.size
  have hR1 := hR0.but hu1 (by omega)
  have k1 := k0.trans hu1
  obtain ⟨o, ho⟩ : ∃ o, o = numV s := ⟨_, rfl⟩
  obtain ⟨s1, hs1e⟩ : ∃ t, t = numS s := ⟨_, rfl⟩
  rw [← hs1e] at hP1
  rw [← ho]
  have HO := Lib.hid ho
  have HS1 := Lib.hid hs1e
  have hbX : Below w1.heap.size w1 (w1.alloc (.cells #[.int .i64 o, .int .i64 0, .int .i64 0, .slice none 0 0] 63)) := (Below.refl _ _).alloc (Nat.le_refl _) _
  have hX := Blk.new w1 63 #[.int .i64 o, .int .i64 0, .int .i64 0, .slice none 0 0]
  obtain ⟨W2, hW2⟩ : ∃ W2, W2 = w1.alloc (.cells #[.int .i64 o, .int .i64 0, .int .i64 0, .slice none 0 0] 63) := ⟨_, rfl⟩
  have hs2 : W2.heap.size = w1.heap.size + 1 := by rw [hW2]; simp
  rw [← hW2] at hbX hX
  have HW2 := Lib.hid hW2.symm
  have hP2 := hP1.go hbX
  have hR2 := hR1.go hbX
  have k2 := k1.below (hbX.mono (by omega))
  clear hP0 hu1 hR0 hP1 hR1 k0 k1 ho hs1e hW2 hbX
  go_wp2_with fail
  rw [HW2.out]
  refine (G1.out _ _ hP2).mono ?_
  rintro e w3 ⟨rfl, hP3, hu3⟩
  have hs3 := hu3.size
  obtain ⟨nd, hnd⟩ : ∃ x, x = numV s1 := ⟨_, rfl⟩
  obtain ⟨s2, hs2e⟩ : ∃ t, t = numS s1 := ⟨_, rfl⟩
  rw [← hs2e] at hP3
  rw [← hnd]
  have HND := Lib.hid hnd
  have HS2 := Lib.hid hs2e
  have hX3 := hX.but hu3 (by omega)
  have hR3 := hR2.but hu3 (by omega)
  have k3 := k2.trans hu3
  have fX2 := hX3.frozen 2
  have cX2 := hX3.cell 2
  have hu4 : But w1.heap.size w3 (w3.setCell ⟨w1.heap.size, 2, none⟩ (.int .i64 nd)) := But.set_ (g := w1.heap.size) w3 (p := ⟨w1.heap.size, 2, none⟩) rfl _
  have hX4 : Blk (w3.setCell ⟨w1.heap.size, 2, none⟩ (.int .i64 nd)) w1.heap.size 63 #[.int .i64 o, .int .i64 0, .int .i64 nd, .slice none 0 0] := hX3.set_ 2 (.int .i64 nd)
  have hP4 := hP3.but hu4 (by omega)
  have hR4 := hR3.but hu4 (by omega)
  have k4 : But g w (w3.setCell ⟨w1.heap.size, 2, none⟩ (.int .i64 nd)) := k3.below ((Below.refl _ _).setCell (by show w.heap.size ≤ w1.heap.size; omega) _)
  obtain ⟨W4, hW4⟩ : ∃ W4, W4 = w3.setCell ⟨w1.heap.size, 2, none⟩ (.int .i64 nd) := ⟨_, rfl⟩
  have hs4 : W4.heap.size = w3.heap.size := by rw [hW4]; simp
  rw [← hW4] at hX4 hP4 hR4 k4
  have HW4 := Lib.hid hW4.symm
  clear hP2 hu3 hX hR2 k2 hnd hs2e hP3 hX3 hR3 k3 hu4 hW4
  go_wp2_with fail
  rw [HW4.out]
  refine (G1.out _ _ hP4).mono ?_
  rintro e w5 ⟨rfl, hP5, hu5⟩
  have hs5 := hu5.size
  obtain ⟨ct, hct⟩ : ∃ x, x = numV s2 := ⟨_, rfl⟩
  obtain ⟨s3, hs3e⟩ : ∃ t, t = numS s2 := ⟨_, rfl⟩
  rw [← hs3e] at hP5
  rw [← hct]
  have HCT := Lib.hid hct
  have HS3 := Lib.hid hs3e
  have hX5 := hX4.but hu5 (by omega)
  have hR5 := hR4.but hu5 (by omega)
  have k5 := k4.trans hu5
  have fX1 := hX5.frozen 1
  have cX1 := hX5.cell 1
  have hu6 : But w1.heap.size w5 (w5.setCell ⟨w1.heap.size, 1, none⟩ (.int .i64 ct)) := But.set_ (g := w1.heap.size) w5 (p := ⟨w1.heap.size, 1, none⟩) rfl _
  have hX6 : Blk (w5.setCell ⟨w1.heap.size, 1, none⟩ (.int .i64 ct)) w1.heap.size 63 #[.int .i64 o, .int .i64 ct, .int .i64 nd, .slice none 0 0] := hX5.set_ 1 (.int .i64 ct)
  have hP6 := hP5.but hu6 (by omega)
  have hR6 := hR5.but hu6 (by omega)
  have k6 : But g w (w5.setCell ⟨w1.heap.size, 1, none⟩ (.int .i64 ct)) := k5.below ((Below.refl _ _).setCell (by show w.heap.size ≤ w1.heap.size; omega) _)
  obtain ⟨W6, hW6⟩ : ∃ W6, W6 = w5.setCell ⟨w1.heap.size, 1, none⟩ (.int .i64 ct) := ⟨_, rfl⟩
  have hs6 : W6.heap.size = w5.heap.size := by rw [hW6]; simp
  rw [← hW6] at hX6 hP6 hR6 k6
  have HW6 := Lib.hid hW6.symm
  clear hP4 hu5 hX4 hR4 k4 hct hs3e hP5 hX5 hR5 k5 hu6 hW6 fX2 cX2
  go_wp2_with fail
  rw [HW6.out]
  refine (G3.out _ _ hP6).mono ?_
  rintro e w7 ⟨Av, cv, rfl, ho7, hP7, hu7⟩
  have hs7 := hu7.size
  obtain ⟨v, hv⟩ : ∃ v, v = rowV 256 s3 := ⟨_, rfl⟩
  obtain ⟨s4, hs4e⟩ : ∃ t, t = rowS 256 s3 := ⟨_, rfl⟩
  rw [← hs4e] at hP7
  rw [← hv] at ho7
  rw [← hv]
  have hX7 := hX6.but hu7 (by omega)
  have hR7 := hR6.but hu7 (by omega)
  have k7 := k6.trans hu7
  have fX3 := hX7.frozen 3
  have cX3 := hX7.cell 3
  have hu8 : But w1.heap.size w7 (w7.setCell ⟨w1.heap.size, 3, none⟩ (.slice Av v.length cv)) := But.set_ (g := w1.heap.size) w7 (p := ⟨w1.heap.size, 3, none⟩) rfl _
  have hX8 : Blk (w7.setCell ⟨w1.heap.size, 3, none⟩ (.slice Av v.length cv)) w1.heap.size 63 #[.int .i64 o, .int .i64 ct, .int .i64 nd, .slice Av v.length cv] := hX7.set_ 3 (.slice Av v.length cv)
  have hP8 := hP7.but hu8 (by omega)
  have hR8 := hR7.but hu8 (by omega)
  have ho8 := own_less (own_but ho7 hu8 (by omega)) (show w1.heap.size + 1 ≤ _ by omega)
  have k8 : But g w (w7.setCell ⟨w1.heap.size, 3, none⟩ (.slice Av v.length cv)) := k7.below ((Below.refl _ _).setCell (by show w.heap.size ≤ w1.heap.size; omega) _)
  obtain ⟨x, hx⟩ : ∃ x : Wq.Bd, x = ⟨(o : Int), ((ct : Int), (nd : Int)), v⟩ := ⟨_, rfl⟩
  have HST := stB_all s x (by rw [hx, HO.out, hv, HCT.out, HND.out]; simp only [HS1.out, HS2.out, HS3.out])
  rw [← HS1.out, ← HS2.out, ← HS3.out, ← hs4e] at HST
  have FIN : ∀ (WB : World) (t : Option (List UInt8)), Blk WB w.heap.size 63 #[.int .i64 0, .int .i64 0, .int .i64 0, .slice none 0 0] → But g w WB → RR WB g L t → WB.ownsRow (w1.heap.size + 1) 5 1 (.slice Av v.length cv) v.length (bv v) →
      Blk ((((WB.setCell ⟨w.heap.size, 0, none⟩ (.int .i64 o)).setCell ⟨w.heap.size, 1, none⟩ (.int .i64 ct)).setCell ⟨w.heap.size, 2, none⟩ (.int .i64 nd)).setCell ⟨w.heap.size, 3, none⟩ (.slice Av v.length cv)) w.heap.size 63 #[.int .i64 o, .int .i64 ct, .int .i64 nd, .slice Av v.length cv] ∧
      ((((WB.setCell ⟨w.heap.size, 0, none⟩ (.int .i64 o)).setCell ⟨w.heap.size, 1, none⟩ (.int .i64 ct)).setCell ⟨w.heap.size, 2, none⟩ (.int .i64 nd)).setCell ⟨w.heap.size, 3, none⟩ (.slice Av v.length cv)).ownsRow w.heap.size 5 1 (.slice Av v.length cv) v.length (bv v) ∧
      RR ((((WB.setCell ⟨w.heap.size, 0, none⟩ (.int .i64 o)).setCell ⟨w.heap.size, 1, none⟩ (.int .i64 ct)).setCell ⟨w.heap.size, 2, none⟩ (.int .i64 nd)).setCell ⟨w.heap.size, 3, none⟩ (.slice Av v.length cv)) g L t ∧
      But g w ((((WB.setCell ⟨w.heap.size, 0, none⟩ (.int .i64 o)).setCell ⟨w.heap.size, 1, none⟩ (.int .i64 ct)).setCell ⟨w.heap.size, 2, none⟩ (.int .i64 nd)).setCell ⟨w.heap.size, 3, none⟩ (.slice Av v.length cv)) := by
    intro WB t hB hk hP ho
    have hu : But w.heap.size WB ((((WB.setCell ⟨w.heap.size, 0, none⟩ (.int .i64 o)).setCell ⟨w.heap.size, 1, none⟩ (.int .i64 ct)).setCell ⟨w.heap.size, 2, none⟩ (.int .i64 nd)).setCell ⟨w.heap.size, 3, none⟩ (.slice Av v.length cv)) :=
      (((But.set_ (g := w.heap.size) _ (p := ⟨w.heap.size, 0, none⟩) rfl _).trans (But.set_ (g := w.heap.size) _ (p := ⟨w.heap.size, 1, none⟩) rfl _)).trans (But.set_ (g := w.heap.size) _ (p := ⟨w.heap.size, 2, none⟩) rfl _)).trans (But.set_ (g := w.heap.size) _ (p := ⟨w.heap.size, 3, none⟩) rfl _)
    exact ⟨(((hB.set_ 0 (.int .i64 o)).set_ 1 (.int .i64 ct)).set_ 2 (.int .i64 nd)).set_ 3 (.slice Av v.length cv), own_less (own_but ho hu (by omega)) (by omega), hP.but hu hg,
      hk.below ((((((Below.refl _ _).setCell (p := ⟨w.heap.size, 0, none⟩) (Nat.le_refl _) _).setCell (p := ⟨w.heap.size, 1, none⟩) (Nat.le_refl _) _).setCell (p := ⟨w.heap.size, 2, none⟩) (Nat.le_refl _) _).setCell (p := ⟨w.heap.size, 3, none⟩) (Nat.le_refl _) _))⟩
  have HFIN := Lib.hid FIN
  have HX := Lib.hid hx
  have HSTH := Lib.hid HST
  clear FIN HST hv hs4e hP6 hX6 hR6 k6 hu7 ho7 hP7 hX7 hR7 k7 hu8 G1 G3 hx fX1 cX1
  have hg1 : w1.heap.size ≠ g := by omega
  have hg0 : w.heap.size ≠ g := by omega
  rcases s4 with _ | r
  · have hb2 := hP8.bad
    obtain ⟨b2, f2⟩ := hb2
    have b2 : (w7.setCell ⟨w1.heap.size, 3, none⟩ (.slice Av v.length cv)).cell? ⟨g, 2, none⟩ = some (.bool true) := b2
    have hR9 := hR8.far (p := ⟨g, 2, none⟩) hg0 (.bool true)
    obtain ⟨x0, x1, x2, x3⟩ := (hX8.far (p := ⟨g, 2, none⟩) hg1 (.bool true)).four
    obtain ⟨z0, z1, z2, z3⟩ := hR9.four
    have y0 := hR9.frozen 0
    have y1 := hR9.frozen 1
    have y2 := hR9.frozen 2
    have y3 := hR9.frozen 3
    have k9 := k8.trans (But.set_ (g := g) _ (p := ⟨g, 2, none⟩) rfl (.bool true))
    have P9 := hP8.spoil
    have o9 := own_but ho8 (But.set_ (g := g) _ (p := ⟨g, 2, none⟩) rfl (.bool true)) (by omega)
    have F := Lib.hid (HFIN.out _ none hR9 k9 P9 o9)
    have HN := Lib.hid (HSTH.out.1 rfl)
    clear hR9 k9 P9 o9 hP8 hX8 hR8 ho8 k8
    go_wp2
    obtain ⟨F1, F2, F3, F4⟩ := F.out
    refine bodyPost_ret (results_cell_row rfl _ _ w.heap.size 63 _ _ _ rfl F1 Tryd.underlying63 rfl (by kernel_rfl)) rfl ⟨x, Av, cv, by rw [HX.out]; rfl, by rw [HX.out]; exact F2, by rw [HN.out]; exact F3, F4, fun q hq => by rw [HN.out] at hq; cases hq⟩
  · rcases hz : Wq.bdF x with _ | _
    · have HR1 := fun (W : World) => refBodyRight_any x Av cv W
      rw [hz] at HR1
      rw [HX.out] at HR1
      have HR1 := Lib.hid fun (W : World) => (show Calls Tryd.prog 31 #[.agg #[.int .i64 o, .int .i64 ct, .int .i64 nd, .slice Av v.length cv]] W fun e w' => e = .returned (.bool false) ∧ Below W.heap.size W w' from HR1 W)
      have HN := Lib.hid ((HSTH.out.2 r rfl).2 hz)
      obtain ⟨b2, f2⟩ := hP8.bad
      have b2 : (w7.setCell ⟨w1.heap.size, 3, none⟩ (.slice Av v.length cv)).cell? ⟨g, 2, none⟩ = some (.bool false) := b2
      obtain ⟨q0, q1, q2, q3⟩ := hX8.four
      have HP8 := Lib.hid hP8
      have HX8 := Lib.hid hX8
      have HR8 := Lib.hid hR8
      have HO8 := Lib.hid ho8
      have HK8 := Lib.hid k8
      clear hz hP8 hX8 hR8 ho8 k8
      go_wp2_with (first
        | (go_at_call 31; go_must (refine (HR1.out _).mono ?_); rintro e w9 ⟨rfl, hb9⟩
           have hP9 := HP8.out.go hb9
           obtain ⟨b3, f3⟩ := hP9.bad
           have b3 : w9.cell? ⟨g, 2, none⟩ = some (.bool false) := b3
           have hR9 := (HR8.out.go hb9).far (p := ⟨g, 2, none⟩) hg0 (.bool true)
           obtain ⟨x0, x1, x2, x3⟩ := ((HX8.out.go hb9).far (p := ⟨g, 2, none⟩) hg1 (.bool true)).four
           obtain ⟨z0, z1, z2, z3⟩ := hR9.four
           have y0 := hR9.frozen 0
           have y1 := hR9.frozen 1
           have y2 := hR9.frozen 2
           have y3 := hR9.frozen 3
           have k9 := (HK8.out.below (hb9.mono (by simp; omega))).trans (But.set_ (g := g) _ (p := ⟨g, 2, none⟩) rfl (.bool true))
           have P9 := hP9.spoil
           have o9 := own_but (own_below HO8.out hb9 (Nat.le_refl _)) (But.set_ (g := g) _ (p := ⟨g, 2, none⟩) rfl (.bool true)) (by omega)
           have F := Lib.hid (HFIN.out _ none hR9 k9 P9 o9)
           clear hR9 k9 P9 o9 hP9))
      obtain ⟨F1, F2, F3, F4⟩ := F.out
      refine bodyPost_ret (results_cell_row rfl _ _ w.heap.size 63 _ _ _ rfl F1 Tryd.underlying63 rfl (by kernel_rfl)) rfl ⟨x, Av, cv, by rw [HX.out]; rfl, by rw [HX.out]; exact F2, by rw [HN.out]; exact F3, F4, fun q hq => by rw [HN.out] at hq; cases hq⟩
    · have HR1 := fun (W : World) => refBodyRight_any x Av cv W
      rw [hz] at HR1
      rw [HX.out] at HR1
      have HR1 := Lib.hid fun (W : World) => (show Calls Tryd.prog 31 #[.agg #[.int .i64 o, .int .i64 ct, .int .i64 nd, .slice Av v.length cv]] W fun e w' => e = .returned (.bool true) ∧ Below W.heap.size W w' from HR1 W)
      have HN := Lib.hid ((HSTH.out.2 r rfl).1 hz)
      obtain ⟨b2, f2⟩ := hP8.bad
      have b2 : (w7.setCell ⟨w1.heap.size, 3, none⟩ (.slice Av v.length cv)).cell? ⟨g, 2, none⟩ = some (.bool false) := b2
      obtain ⟨q0, q1, q2, q3⟩ := hX8.four
      have HP8 := Lib.hid hP8
      have HX8 := Lib.hid hX8
      have HR8 := Lib.hid hR8
      have HO8 := Lib.hid ho8
      have HK8 := Lib.hid k8
      clear hz hP8 hX8 hR8 ho8 k8
      go_wp2_with (first
        | (go_at_call 31; go_must (refine (HR1.out _).mono ?_); rintro e w9 ⟨rfl, hb9⟩
           have hP9 := HP8.out.go hb9
           obtain ⟨b3, f3⟩ := hP9.bad
           have b3 : w9.cell? ⟨g, 2, none⟩ = some (.bool false) := b3
           have hR9 := (HR8.out.go hb9).far (p := ⟨g, 2, none⟩) hg0 (.bool false)
           obtain ⟨x0, x1, x2, x3⟩ := ((HX8.out.go hb9).far (p := ⟨g, 2, none⟩) hg1 (.bool false)).four
           obtain ⟨z0, z1, z2, z3⟩ := hR9.four
           have y0 := hR9.frozen 0
           have y1 := hR9.frozen 1
           have y2 := hR9.frozen 2
           have y3 := hR9.frozen 3
           have k9 := (HK8.out.below (hb9.mono (by simp; omega))).trans (But.set_ (g := g) _ (p := ⟨g, 2, none⟩) rfl (.bool false))
           have P9 := hP9.same
           have o9 := own_but (own_below HO8.out hb9 (Nat.le_refl _)) (But.set_ (g := g) _ (p := ⟨g, 2, none⟩) rfl (.bool false)) (by omega)
           have F := Lib.hid (HFIN.out _ (some r) hR9 k9 P9 o9)
           clear hR9 k9 P9 o9 hP9))
      obtain ⟨F1, F2, F3, F4⟩ := F.out
      refine bodyPost_ret (results_cell_row rfl _ _ w.heap.size 63 _ _ _ rfl F1 Tryd.underlying63 rfl (by kernel_rfl)) rfl ⟨x, Av, cv, by rw [HX.out]; rfl, by rw [HX.out]; exact F2, by rw [HN.out.1]; exact F3, F4, fun q _ => HN.out.2⟩
end Go.Proofs.YtndlcimckfndiaaDoor
