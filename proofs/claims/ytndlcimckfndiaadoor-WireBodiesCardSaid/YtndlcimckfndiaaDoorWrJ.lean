/- Walks over wire.part: vectors, sets, rows. -/
import Derived.Test.YtndlcimckfndiaaDoorWrG
import Derived.Test.YtndlcimckfndiaaDoorPackNil
namespace Go.Proofs.YtndlcimckfndiaaDoor
open Go.RowKit
set_option maxRecDepth 100000

theorem drop_back {l x r : List UInt8} (h : l = x ++ r) : l.drop (l.length - r.length) = r ∧ r.length ≤ l.length := by
  subst h
  exact ⟨by simp, by simp⟩
theorem gS_some {α : Type} {p : List UInt8 → Option (α × List UInt8)} {l r : List UInt8} {v : α} (h : p l = some (v, r)) : Wq.st p (some l) = some r := by unfold Wq.st; simp only [h]
theorem gS_no {α : Type} {p : List UInt8 → Option (α × List UInt8)} {l : List UInt8} (h : p l = none) : Wq.st p (some l) = none := by unfold Wq.st; simp only [h]

theorem wireSet_g (A : Option Addr) (n c : Nat) (l : List UInt8) (w : World) (hl : l.length = n) (hR : Rd w w.heap.size 1 A n c (bv l)) (hn : n ≤ 4294967296) :
    Calls Tryd.prog 23 #[.slice A n c] w fun e w' => ∃ A' c', e = .returned (.tuple #[.slice A' (gV Wq.pS [] l).length c', .int .i64 (gK Wq.pS l), .int .i64 (gE Wq.pS l)]) ∧
      w'.ownsRow w.heap.size 97 2 (.slice A' (gV Wq.pS [] l).length c') (gV Wq.pS [] l).length (sv (gV Wq.pS [] l)) ∧ Below w.heap.size w w' := by
  have h := wireSet_any A n c l w hl hR hn
  have e1 : setV l = gV Wq.pS [] l := by unfold setV gV; rcases Wq.pS l with _ | ⟨_, _⟩ <;> rfl
  have e2 : setK l = gK Wq.pS l := by unfold setK gK; rcases Wq.pS l with _ | ⟨_, _⟩ <;> rfl
  have e3 : setE l = gE Wq.pS l := by unfold setE gE; rcases Wq.pS l with _ | ⟨_, _⟩ <;> rfl
  rw [e1, e2, e3] at h
  exact h


set_option maxHeartbeats 2000000 in
theorem partVec_any (g T : Nat) (s : Option (List UInt8)) (w : World) (h : PR w g T s) (hT32 : T ≤ 4294967296) :
    Calls Tryd.prog 62 #[.pointer (some ⟨g, 0, none⟩), .func (.func 15) #[] #[]] w fun e w' => ∃ A' c', e = .returned (.slice A' (Wq.vl Wq.pV [] s).length c') ∧
      w'.ownsRow w.heap.size 61 2 (.slice A' (Wq.vl Wq.pV [] s).length c') (Wq.vl Wq.pV [] s).length (sv (Wq.vl Wq.pV [] s)) ∧ PR w' g T (Wq.st Wq.pV s) ∧ But g w w' := by
  rcases s with _ | l
  · have h' := h
    obtain ⟨A, n, c, k, hB⟩ := h
    have c2 := hB.cell 2
    have H := Lib.hid h'
    clear hB h'
    go_enter Tryd.func62, Tryd.ntmps62
    go_wp2
    go_ret
    exact ⟨none, 0, rfl, World.ownsRow_nil _ _ _ _, H.out, But.refl _ _⟩
  · obtain ⟨A, n, c, hB, hR, hl, hT, hm⟩ := h
    have H1 := wireVec_any A n c l w hl (hR.more (Nat.le_of_lt hB.lt)) (by omega)
    have c0 := hB.cell 0
    have c2 := hB.cell 2
    have hlt := hB.lt
    unfold maxLen at hm
    have hgv : Wq.vl Wq.pV [] (some l) = gV Wq.pV [] l := rfl
    rw [hgv]
    rcases hp : Wq.pV l with _ | ⟨v, r⟩
    · obtain ⟨e1, e2, e3⟩ := g_no (d := []) hp
      rw [e1, e2, e3] at H1
      rw [e1, gS_no hp]
      have G1 := Lib.hid H1
      have G2 := Lib.hid fun (W : World) hB => took_bad g (.slice A n c) (.int .i64 ((T - l.length : Nat) : Int)) 0 4 W hB (by omega)
      have HB := Lib.hid hB
      clear H1 hR hl hp hB e1 e2 e3 hgv
      go_enter Tryd.func62, Tryd.ntmps62
      go_wp2_with fail
      refine G1.out.mono ?_
      rintro e w1 ⟨A1, c1, rfl, ho1, hb1⟩
      have hB1 := HB.out.go hb1
      clear c0 c2
      go_wp2_with fail
      refine (G2.out w1 hB1).mono ?_
      rintro e w2 ⟨rfl, hB2, hu2⟩
      go_wp2
      go_ret
      exact ⟨A1, c1, rfl, own_but ho1 hu2 hlt, ⟨_, _, _, _, hB2⟩, (But.of hb1).trans hu2⟩
    · obtain ⟨e1, e2, e3⟩ := g_yes (d := []) hp
      obtain ⟨d1, d2⟩ := drop_back (Wq.pV_back hp).1
      rw [e1, e2, e3] at H1
      rw [e1, gS_some hp]
      obtain ⟨k, hk⟩ : ∃ k, k = l.length - r.length := ⟨_, rfl⟩
      rw [← hk] at H1 d1
      have G1 := Lib.hid H1
      have G2 := Lib.hid fun (W : World) hB => took_ok g k n c A ((T - l.length : Nat) : Int) W hB (by omega) (by omega) (by omega)
      have HB := Lib.hid hB
      have HR := Lib.hid (hR.from_ (k := k) (by omega))
      have HE := Lib.hid (show (((T - l.length : Nat) : Int) + k) = ((T - r.length : Nat) : Int) by omega)
      have HD := Lib.hid d1
      have hrl : r.length = n - k := by omega
      have hrt : r.length ≤ T := by omega
      clear H1 hR hl hp hB e1 e2 e3 hgv d1 hk
      go_enter Tryd.func62, Tryd.ntmps62
      go_wp2_with fail
      refine G1.out.mono ?_
      rintro e w1 ⟨A1, c1, rfl, ho1, hb1⟩
      have hB1 := HB.out.go hb1
      have hs1 := hb1.size
      clear c0 c2
      go_wp2_with fail
      refine (G2.out w1 hB1).mono ?_
      rintro e w2 ⟨rfl, hB2, hu2⟩
      go_wp2
      go_ret
      have h2 := HR.out
      rw [Nat.mul_one, ← bv_drop, HD.out] at h2
      rw [HE.out] at hB2
      exact ⟨A1, c1, rfl, own_but ho1 hu2 hlt, ⟨_, _, _, hB2, ((h2.below (hb1.mono (Nat.le_of_lt hlt))).but hu2 (by omega) (Nat.le_refl _)), hrl, hrt, by unfold maxLen; exact hm⟩, (But.of hb1).trans hu2⟩

set_option maxHeartbeats 2000000 in
theorem partSet_any (g T : Nat) (s : Option (List UInt8)) (w : World) (h : PR w g T s) (hT32 : T ≤ 4294967296) :
    Calls Tryd.prog 63 #[.pointer (some ⟨g, 0, none⟩), .func (.func 23) #[] #[]] w fun e w' => ∃ A' c', e = .returned (.slice A' (Wq.vl Wq.pS [] s).length c') ∧
      w'.ownsRow w.heap.size 97 2 (.slice A' (Wq.vl Wq.pS [] s).length c') (Wq.vl Wq.pS [] s).length (sv (Wq.vl Wq.pS [] s)) ∧ PR w' g T (Wq.st Wq.pS s) ∧ But g w w' := by
  rcases s with _ | l
  · have h' := h
    obtain ⟨A, n, c, k, hB⟩ := h
    have c2 := hB.cell 2
    have H := Lib.hid h'
    clear hB h'
    go_enter Tryd.func63, Tryd.ntmps63
    go_wp2
    go_ret
    exact ⟨none, 0, rfl, World.ownsRow_nil _ _ _ _, H.out, But.refl _ _⟩
  · obtain ⟨A, n, c, hB, hR, hl, hT, hm⟩ := h
    have H1 := wireSet_g A n c l w hl (hR.more (Nat.le_of_lt hB.lt)) (by omega)
    have c0 := hB.cell 0
    have c2 := hB.cell 2
    have hlt := hB.lt
    unfold maxLen at hm
    have hgv : Wq.vl Wq.pS [] (some l) = gV Wq.pS [] l := rfl
    rw [hgv]
    rcases hp : Wq.pS l with _ | ⟨v, r⟩
    · obtain ⟨e1, e2, e3⟩ := g_no (d := []) hp
      rw [e1, e2, e3] at H1
      rw [e1, gS_no hp]
      have G1 := Lib.hid H1
      have G2 := Lib.hid fun (W : World) hB => took_bad g (.slice A n c) (.int .i64 ((T - l.length : Nat) : Int)) 0 4 W hB (by omega)
      have HB := Lib.hid hB
      clear H1 hR hl hp hB e1 e2 e3 hgv
      go_enter Tryd.func63, Tryd.ntmps63
      go_wp2_with fail
      refine G1.out.mono ?_
      rintro e w1 ⟨A1, c1, rfl, ho1, hb1⟩
      have hB1 := HB.out.go hb1
      clear c0 c2
      go_wp2_with fail
      refine (G2.out w1 hB1).mono ?_
      rintro e w2 ⟨rfl, hB2, hu2⟩
      go_wp2
      go_ret
      exact ⟨A1, c1, rfl, own_but ho1 hu2 hlt, ⟨_, _, _, _, hB2⟩, (But.of hb1).trans hu2⟩
    · obtain ⟨e1, e2, e3⟩ := g_yes (d := []) hp
      obtain ⟨d1, d2⟩ := drop_back (Wq.pS_back hp).1
      rw [e1, e2, e3] at H1
      rw [e1, gS_some hp]
      obtain ⟨k, hk⟩ : ∃ k, k = l.length - r.length := ⟨_, rfl⟩
      rw [← hk] at H1 d1
      have G1 := Lib.hid H1
      have G2 := Lib.hid fun (W : World) hB => took_ok g k n c A ((T - l.length : Nat) : Int) W hB (by omega) (by omega) (by omega)
      have HB := Lib.hid hB
      have HR := Lib.hid (hR.from_ (k := k) (by omega))
      have HE := Lib.hid (show (((T - l.length : Nat) : Int) + k) = ((T - r.length : Nat) : Int) by omega)
      have HD := Lib.hid d1
      have hrl : r.length = n - k := by omega
      have hrt : r.length ≤ T := by omega
      clear H1 hR hl hp hB e1 e2 e3 hgv d1 hk
      go_enter Tryd.func63, Tryd.ntmps63
      go_wp2_with fail
      refine G1.out.mono ?_
      rintro e w1 ⟨A1, c1, rfl, ho1, hb1⟩
      have hB1 := HB.out.go hb1
      have hs1 := hb1.size
      clear c0 c2
      go_wp2_with fail
      refine (G2.out w1 hB1).mono ?_
      rintro e w2 ⟨rfl, hB2, hu2⟩
      go_wp2
      go_ret
      have h2 := HR.out
      rw [Nat.mul_one, ← bv_drop, HD.out] at h2
      rw [HE.out] at hB2
      exact ⟨A1, c1, rfl, own_but ho1 hu2 hlt, ⟨_, _, _, hB2, ((h2.below (hb1.mono (Nat.le_of_lt hlt))).but hu2 (by omega) (Nat.le_refl _)), hrl, hrt, by unfold maxLen; exact hm⟩, (But.of hb1).trans hu2⟩

/-- The row of a body. -/
theorem bodyRow_is {A : Option Addr} {n c : Nat} {l : List UInt8} {w : World} {r : List UInt8} {j er m : Nat} (h : rowOf l (256 : Nat) = (r, j, er)) (hm : r.length = m) (hl : l.length = n) (hR : Rd w w.heap.size 1 A n c (bv l)) (hn : n ≤ 140737488355328) :
    Calls Tryd.prog 71 #[.slice A n c] w fun e w' => ∃ A' c', e = .returned (.tuple #[.slice A' m c', .int .i64 j, .int .i64 er]) ∧ w'.ownsRow w.heap.size 5 1 (.slice A' m c') m (bv r) ∧ Below w.heap.size w w' := by
  have G1 := Lib.hid (row_is h hm hl hR hn)
  clear h hl hR
  go_enter Tryd.func71, Tryd.ntmps71
  go_wp2_with (go_at_call 72; go_must (refine G1.out.mono ?_); rintro e w1 ⟨A1, c1, rfl, ho1, hb1⟩)
  go_ret3
  exact ⟨A1, c1, rfl, ho1, hb1⟩

set_option maxHeartbeats 2000000 in
theorem partRow_any (g T : Nat) (s : Option (List UInt8)) (w : World) (h : PR w g T s) (hT32 : T ≤ 140737488355328) :
    Calls Tryd.prog 70 #[.pointer (some ⟨g, 0, none⟩), .func (.func 71) #[] #[]] w fun e w' => ∃ A' c', e = .returned (.slice A' (Wq.vl (Wq.pR 256) [] s).length c') ∧
      w'.ownsRow w.heap.size 5 1 (.slice A' (Wq.vl (Wq.pR 256) [] s).length c') (Wq.vl (Wq.pR 256) [] s).length (bv (Wq.vl (Wq.pR 256) [] s)) ∧ PR w' g T (Wq.st (Wq.pR 256) s) ∧ But g w w' := by
  rcases s with _ | l
  · have h' := h
    obtain ⟨A, n, c, k, hB⟩ := h
    have c2 := hB.cell 2
    have H := Lib.hid h'
    clear hB h'
    go_enter Tryd.func70, Tryd.ntmps70
    go_wp2
    go_ret
    exact ⟨none, 0, rfl, World.ownsRow_nil _ _ _ _, H.out, But.refl _ _⟩
  · obtain ⟨A, n, c, hB, hR, hl, hT, hm⟩ := h
    have c0 := hB.cell 0
    have c2 := hB.cell 2
    have hlt := hB.lt
    unfold maxLen at hm
    have hgv : Wq.vl (Wq.pR 256) [] (some l) = gV (Wq.pR 256) [] l := rfl
    rw [hgv]
    rcases rowOf_pR l 256 with ⟨v, k0, hr, hk0, hp⟩ | ⟨er, her, hr, hp⟩
    rotate_left
    · have H1 := bodyRow_is hr rfl hl (hR.more (Nat.le_of_lt hB.lt)) (by omega)
      obtain ⟨e1, e2, e3⟩ := g_no (d := []) hp
      rw [e1, gS_no hp]
      have he2 : (er : Int) ≠ 0 := by omega
      have G1 := Lib.hid H1
      have G2 := Lib.hid fun (W : World) hB => took_bad g (.slice A n c) (.int .i64 ((T - l.length : Nat) : Int)) 0 er W hB he2
      have HB := Lib.hid hB
      clear H1 hR hl hp hB e1 e2 e3 hgv hr
      go_enter Tryd.func70, Tryd.ntmps70
      go_wp2_with fail
      refine G1.out.mono ?_
      rintro e w1 ⟨A1, c1, rfl, ho1, hb1⟩
      have hB1 := HB.out.go hb1
      clear c0 c2
      go_wp2_with fail
      refine (G2.out w1 hB1).mono ?_
      rintro e w2 ⟨rfl, hB2, hu2⟩
      go_wp2
      go_ret
      exact ⟨A1, c1, rfl, own_but ho1 hu2 hlt, ⟨_, _, _, _, hB2⟩, (But.of hb1).trans hu2⟩
    · have H1 := bodyRow_is hr rfl hl (hR.more (Nat.le_of_lt hB.lt)) (by omega)
      obtain ⟨e1, e2, e3⟩ := g_yes (d := []) hp
      obtain ⟨r, hre⟩ : ∃ r, r = l.drop k0 := ⟨_, rfl⟩
      rw [← hre] at hp
      have d1 := hre.symm
      have d2 : r.length ≤ l.length := by rw [hre, List.length_drop]; omega
      have hk : k0 = l.length - r.length := by rw [hre, List.length_drop]; omega
      rw [e1, gS_some hp]
      obtain ⟨k, rfl⟩ : ∃ k, k = k0 := ⟨_, rfl⟩
      have G1 := Lib.hid H1
      have G2 := Lib.hid fun (W : World) hB => took_ok g k n c A ((T - l.length : Nat) : Int) W hB (by omega) (by omega) (by omega)
      have HB := Lib.hid hB
      have HR := Lib.hid (hR.from_ (k := k) (by omega))
      have HE := Lib.hid (show (((T - l.length : Nat) : Int) + k) = ((T - r.length : Nat) : Int) by omega)
      have HD := Lib.hid d1
      have hrl : r.length = n - k := by omega
      have hrt : r.length ≤ T := by omega
      clear H1 hR hl hp hB e1 e2 e3 hgv d1 hk hr hre
      go_enter Tryd.func70, Tryd.ntmps70
      go_wp2_with fail
      refine G1.out.mono ?_
      rintro e w1 ⟨A1, c1, rfl, ho1, hb1⟩
      have hB1 := HB.out.go hb1
      have hs1 := hb1.size
      clear c0 c2
      go_wp2_with fail
      refine (G2.out w1 hB1).mono ?_
      rintro e w2 ⟨rfl, hB2, hu2⟩
      go_wp2
      go_ret
      have h2 := HR.out
      rw [Nat.mul_one, ← bv_drop, HD.out] at h2
      rw [HE.out] at hB2
      exact ⟨A1, c1, rfl, own_but ho1 hu2 hlt, ⟨_, _, _, hB2, ((h2.below (hb1.mono (Nat.le_of_lt hlt))).but hu2 (by omega) (Nat.le_refl _)), hrl, hrt, by unfold maxLen; exact hm⟩, (But.of hb1).trans hu2⟩
end Go.Proofs.YtndlcimckfndiaaDoor
