/- Walks over the document's reader: Number, Row. -/
import Derived.Test.YtndlcimckfndiaaDoorWrA
import Derived.Deep.QuietTactic
import Derived.BigQuiet
namespace Go.Proofs.YtndlcimckfndiaaDoor
open Go.RowKit
set_option maxRecDepth 100000

set_option maxHeartbeats 1000000 in
/-- The document's next number. -/
theorem refRdNum_any (g : Nat) (L : List UInt8) (s : Option (List UInt8)) (w : World) (h : RR w g L s) :
    Calls Tryd.prog 50 #[.pointer (some ⟨g, 0, none⟩)] w fun e w' => e = .returned (.int .i64 (numV s)) ∧ RR w' g L (numS s) ∧ But g w w' := by
  rcases s with _ | l
  · have h' := h
    obtain ⟨A, n, c, k, hB⟩ := h
    have c2 := hB.cell 2
    have H := Lib.hid h'
    clear hB h'
    go_enter Tryd.func50, Tryd.ntmps50
    go_wp2
    go_ret
    exact ⟨rfl, H.out, But.refl _ _⟩
  · obtain ⟨A, n, c, hB, hR, hn, hd, hle⟩ := h
    obtain ⟨at_, hat⟩ : ∃ at_, at_ = L.length - l.length := ⟨_, rfl⟩
    rw [← hat] at hB hd
    have hcap := hR.cap
    have hmax := hR.max
    unfold maxLen at hmax
    have hll : l.length = n - at_ := by omega
    obtain ⟨x, k, er, hx⟩ : ∃ x k er, Pk.num l 0 l = (x, k, er) := ⟨_, _, _, rfl⟩
    have hR1 := hR.from_ (k := at_) (by omega)
    rw [Nat.mul_one, ← bv_drop, ← hd] at hR1
    have hs := fun W => run_from (P := Tryd.prog) W 23 5 1 Tryd.underlying23 size_u8 A n c .i64 at_ at_ rfl (by omega)
    have HQ := Lib.hid fun (i : Nat) => (refNumber_is (w := w.drewN i) hx hll ((hR1.more (Nat.le_of_lt hB.lt)).drewN i)).mono fun e w' ⟨he, hw⟩ => (⟨he, hw.symm⟩ : e = _ ∧ w' = w.drewN i)
    have c0 := hB.cell 0
    have c1 := hB.cell 1
    have c2 := hB.cell 2
    have f1 := hB.frozen 1
    have f2 := hB.frozen 2
    by_cases he : er = 0
    · subst he
      obtain ⟨b1, b2, b3, b4, b5⟩ := Pk.num_back hx
      have hp := Wq.pN_some hx
      have hv : numV (some l) = x := by simp only [numV, hp]
      have hss : numS (some l) = some (l.drop k) := by simp only [numS, hp]
      rw [hv, hss]
      have hb1 : (at_ : Int) + k ≤ 9223372036854775807 := by omega
      have HD := Lib.hid (show L.length - (l.drop k).length = at_ + k ∧ l.drop k = L.drop (at_ + k) ∧ (l.drop k).length ≤ L.length by
        refine ⟨by rw [List.length_drop]; omega, by rw [hd, List.drop_drop], by rw [List.length_drop]; omega⟩)
      have HR := Lib.hid hR
      have HN := Lib.hid hn
      have HB := Lib.hid hB
      clear hR hR1 hn hd hle hat hll hx hp hv hss b1 b2 b3 b4 b5 hB
      go_enter Tryd.func50, Tryd.ntmps50
      go_wp2
      go_quiet ((go_at_call 81; exact Calls.quiet_of_same (HQ.out _)))
      go_wp2
      go_ret
      obtain ⟨d1, d2, d3⟩ := HD.out
      refine ⟨rfl, ⟨A, n, c, ?_, HR.out.but ?_ (Nat.le_of_lt HB.out.lt) (Nat.le_refl _), HN.out, by rw [d1]; exact d2, d3⟩, ?_⟩
      · rw [d1]
        exact ((show Blk (w.drewN nq) g _ _ from HB.out).set_ 1 (.int .i64 ((at_ : Int) + k))).set_ 2 (.bool false)
      all_goals exact ((But.drewN w nq).trans (But.set_ _ (p := ⟨g, 1, none⟩) rfl _)).trans (But.set_ _ (p := ⟨g, 2, none⟩) rfl _)
    · have hp := Wq.pN_none hx he
      have hv : numV (some l) = 0 := by simp only [numV, hp]
      have hss : numS (some l) = none := by simp only [numS, hp]
      rw [hv, hss]
      obtain ⟨rfl, rfl⟩ : x = 0 ∧ k = 0 := by
        rcases Pk.num_err l l 0 with h3 | h3 | h3 <;> rw [hx] at h3
        · exact absurd h3 he
        · exact ⟨(Prod.mk.inj h3).1, (Prod.mk.inj (Prod.mk.inj h3).2).1⟩
        · exact ⟨(Prod.mk.inj h3).1, (Prod.mk.inj (Prod.mk.inj h3).2).1⟩
      have he2 : ((er : Int) != 0) = true := bne_iff_ne.2 (by omega)
      have hz : (at_ : Int) ≤ 9223372036854775807 := by omega
      have HB := Lib.hid hB
      clear hR hR1 hn hd hle hat hll hx hp hv hss hB
      go_enter Tryd.func50, Tryd.ntmps50
      go_wp2
      go_quiet ((go_at_call 81; exact Calls.quiet_of_same (HQ.out _)))
      go_wp2
      go_ret
      have e0 := ((show Blk (w.drewN nq) g _ _ from HB.out).set_ 1 (.int .i64 at_)).set_ 2 (.bool true)
      refine ⟨rfl, ⟨A, n, c, (at_ : Int), ?_⟩, ?_⟩
      · simpa using e0
      · exact ((But.drewN w nq).trans (But.set_ _ (p := ⟨g, 1, none⟩) rfl _)).trans (But.set_ _ (p := ⟨g, 2, none⟩) rfl _)

/-- A row that a reader says next, and what is left. -/
def rowV (most : Nat) : Option (List UInt8) → List UInt8
  | none => []
  | some l => match Wq.pR most l with | none => [] | some (v, _) => v
def rowS (most : Nat) : Option (List UInt8) → Option (List UInt8)
  | none => none
  | some l => match Wq.pR most l with | none => none | some (_, r) => some r
theorem rowOf_pR (l : List UInt8) (most : Nat) : (∃ v k, rowOf l most = (v, k, 0) ∧ k ≤ l.length ∧ Wq.pR most l = some (v, l.drop k)) ∨ (∃ er, er ≠ 0 ∧ rowOf l most = ([], 0, er) ∧ Wq.pR most l = none) := by
  obtain ⟨x, k, er, hx⟩ : ∃ x k er, Pk.num l 0 l = (x, k, er) := ⟨_, _, _, rfl⟩
  have h0 : ¬ ((most : Int) < 0) := by omega
  by_cases he : er = 0
  · subst he
    obtain ⟨b1, b2, b3, b4, b5⟩ := Pk.num_back hx
    have hp := Wq.pN_some hx
    by_cases hm : (most : Int) < (x : Int)
    · refine .inr ⟨4, by omega, rowOf_most h0 hx hm, ?_⟩
      unfold Wq.pR; rw [hp]; simp only; rw [if_neg (by omega)]
    · by_cases hs : (l.length : Int) - (k : Int) < (x : Int)
      · refine .inr ⟨5, by omega, rowOf_short h0 hx hm hs, ?_⟩
        unfold Wq.pR; rw [hp]; simp only; rw [if_neg (by rw [List.length_drop]; omega)]
      · refine .inl ⟨_, _, rowOf_ok h0 hx hm hs, by omega, ?_⟩
        unfold Wq.pR; rw [hp]; simp only; rw [if_pos (by rw [List.length_drop]; omega), List.drop_drop]
  · refine .inr ⟨er, he, rowOf_err h0 hx he, ?_⟩
    unfold Wq.pR; rw [Wq.pN_none hx he]

set_option maxHeartbeats 2000000 in
/-- The document's next row. -/
theorem refRdRow_any (g most : Nat) (L : List UInt8) (s : Option (List UInt8)) (w : World) (h : RR w g L s) (hL : L.length ≤ 140737488355328) :
    Calls Tryd.prog 69 #[.pointer (some ⟨g, 0, none⟩), .int .i64 most] w fun e w' => ∃ A' c', e = .returned (.slice A' (rowV most s).length c') ∧
      w'.ownsRow w.heap.size 5 1 (.slice A' (rowV most s).length c') (rowV most s).length (bv (rowV most s)) ∧ RR w' g L (rowS most s) ∧ But g w w' := by
  rcases s with _ | l
  · have h' := h
    obtain ⟨A, n, c, k, hB⟩ := h
    have c2 := hB.cell 2
    have H := Lib.hid h'
    clear hB h'
    go_enter Tryd.func69, Tryd.ntmps69
    go_wp2
    go_ret
    exact ⟨none, 0, rfl, World.ownsRow_nil _ _ _ _, H.out, But.refl _ _⟩
  · obtain ⟨A, n, c, hB, hR, hn, hd, hle⟩ := h
    obtain ⟨at_, hat⟩ : ∃ at_, at_ = L.length - l.length := ⟨_, rfl⟩
    rw [← hat] at hB hd
    have hcap := hR.cap
    have hmax := hR.max
    unfold maxLen at hmax
    have hll : l.length = n - at_ := by omega
    have hR1 := hR.from_ (k := at_) (by omega)
    rw [Nat.mul_one, ← bv_drop, ← hd] at hR1
    have hs := fun W => run_from (P := Tryd.prog) W 23 5 1 Tryd.underlying23 size_u8 A n c .i64 at_ at_ rfl (by omega)
    rcases rowOf_pR l most with ⟨v, k, hx, hkl, hp⟩ | ⟨er, her, hx, hp⟩
    · have hv : rowV most (some l) = v := by simp only [rowV, hp]
      have hss : rowS most (some l) = some (l.drop k) := by simp only [rowS, hp]
      rw [hv, hss]
      have hz : (at_ : Int) + k ≤ 9223372036854775807 := by omega
      have HD := Lib.hid (show L.length - (l.drop k).length = at_ + k ∧ l.drop k = L.drop (at_ + k) ∧ (l.drop k).length ≤ L.length by
        refine ⟨by rw [List.length_drop]; omega, by rw [hd, List.drop_drop], by rw [List.length_drop]; omega⟩)
      have HN := Lib.hid hn
      clear hv hss hp
      have HC := Lib.hid fun (W : World) (hr : Rd W g 1 (cutAt 1 A c at_) (n - at_) (c - at_) (bv l)) (hg : g < W.heap.size) => refRow_any (cutAt 1 A c at_) (n - at_) (c - at_) l most W hll (hr.more (Nat.le_of_lt hg)) (by omega)
      rw [hx] at HC
      have c0 := hB.cell 0
      have c1 := hB.cell 1
      have c2 := hB.cell 2
      have f1 := hB.frozen 1
      have f2 := hB.frozen 2
      have HR := Lib.hid hR
      have HR1 := Lib.hid hR1
      have HB := Lib.hid hB
      have HX := Lib.hid hx
      clear hR hR1 hB hcap hmax hat hll hn hd hle hL hx
      go_enter Tryd.func69, Tryd.ntmps69
      go_wp2
      refine region_nrm fun K hK => ?_
      go_region_held3 (fun W => W.cell? ⟨g, 0, none⟩ = some (.slice A n c) ∧ W.cell? ⟨g, 1, none⟩ = some (.int .i64 at_)) (first | exact ⟨c0, c1⟩ | exact ⟨K0, K1⟩ | go_keep) (first
        | (go_at_call 90; refine (HC.out _ (HR1.out.drewN _) HB.out.lt).mono ?_; rintro e w1 ⟨A', c', rfl, ho, hb⟩; have K0 := (hb.cell (p := ⟨g, 0, none⟩) HB.out.lt).trans c0; have K1 := (hb.cell (p := ⟨g, 1, none⟩) HB.out.lt).trans c1))
      refine Nrm.out (hK _ _ ?_)
      have hB1 := (show Blk (w.drewN 1) g _ _ from HB.out).go hb
      have b1 : But g w w1 := (But.drewN w 1).trans (But.of hb)
      have HO := Lib.hid ho
      have F1 := hB1.frozen 1
      have F2 := hB1.frozen 2
      have F3 := hB1.cell 2
      clear c0 c1 c2 f1 f2 hb ho HC
      go_wp2
      go_ret
      obtain ⟨d1, d2, d3⟩ := HD.out
      have b2 : But g w ((w1.setCell ⟨g, 1, none⟩ (.int .i64 ((at_ : Int) + k))).setCell ⟨g, 2, none⟩ (.bool false)) := (b1.trans (But.set_ _ (p := ⟨g, 1, none⟩) rfl _)).trans (But.set_ _ (p := ⟨g, 2, none⟩) rfl _)
      refine ⟨A', c', rfl, ?_, ⟨A, n, c, ?_, HR.out.but b2 (Nat.le_of_lt HB.out.lt) (Nat.le_refl _), HN.out, by rw [d1]; exact d2, d3⟩, b2⟩
      · exact own_but (own_but HO.out (But.set_ _ (p := ⟨g, 1, none⟩) rfl _) HB.out.lt) (But.set_ _ (p := ⟨g, 2, none⟩) rfl _) HB.out.lt
      · rw [d1]
        exact (hB1.set_ 1 (.int .i64 ((at_ : Int) + k))).set_ 2 (.bool false)
    · have hv : rowV most (some l) = [] := by simp only [rowV, hp]
      have hss : rowS most (some l) = none := by simp only [rowS, hp]
      rw [hv, hss]
      have he2 : ((er : Int) != 0) = true := bne_iff_ne.2 (by omega)
      have hz : (at_ : Int) ≤ 9223372036854775807 := by omega
      clear hv hss hp her
      have HC := Lib.hid fun (W : World) (hr : Rd W g 1 (cutAt 1 A c at_) (n - at_) (c - at_) (bv l)) (hg : g < W.heap.size) => refRow_any (cutAt 1 A c at_) (n - at_) (c - at_) l most W hll (hr.more (Nat.le_of_lt hg)) (by omega)
      rw [hx] at HC
      have c0 := hB.cell 0
      have c1 := hB.cell 1
      have c2 := hB.cell 2
      have f1 := hB.frozen 1
      have f2 := hB.frozen 2
      have HR := Lib.hid hR
      have HR1 := Lib.hid hR1
      have HB := Lib.hid hB
      have HX := Lib.hid hx
      clear hR hR1 hB hcap hmax hat hll hn hd hle hL hx
      go_enter Tryd.func69, Tryd.ntmps69
      go_wp2
      refine region_nrm fun K hK => ?_
      go_region_held3 (fun W => W.cell? ⟨g, 0, none⟩ = some (.slice A n c) ∧ W.cell? ⟨g, 1, none⟩ = some (.int .i64 at_)) (first | exact ⟨c0, c1⟩ | exact ⟨K0, K1⟩ | go_keep) (first
        | (go_at_call 90; refine (HC.out _ (HR1.out.drewN _) HB.out.lt).mono ?_; rintro e w1 ⟨A', c', rfl, ho, hb⟩; have K0 := (hb.cell (p := ⟨g, 0, none⟩) HB.out.lt).trans c0; have K1 := (hb.cell (p := ⟨g, 1, none⟩) HB.out.lt).trans c1))
      refine Nrm.out (hK _ _ ?_)
      have hB1 := (show Blk (w.drewN 1) g _ _ from HB.out).go hb
      have b1 : But g w w1 := (But.drewN w 1).trans (But.of hb)
      have HO := Lib.hid ho
      have F1 := hB1.frozen 1
      have F2 := hB1.frozen 2
      have F3 := hB1.cell 2
      clear c0 c1 c2 f1 f2 hb ho HC
      go_wp2
      go_ret
      have b2 : But g w ((w1.setCell ⟨g, 1, none⟩ (.int .i64 (at_ : Int))).setCell ⟨g, 2, none⟩ (.bool true)) := (b1.trans (But.set_ _ (p := ⟨g, 1, none⟩) rfl _)).trans (But.set_ _ (p := ⟨g, 2, none⟩) rfl _)
      refine ⟨A', c', rfl, ?_, ⟨A, n, c, (at_ : Int), ?_⟩, b2⟩
      · exact own_but (own_but HO.out (But.set_ _ (p := ⟨g, 1, none⟩) rfl _) HB.out.lt) (But.set_ _ (p := ⟨g, 2, none⟩) rfl _) HB.out.lt
      · exact (hB1.set_ 1 (.int .i64 (at_ : Int))).set_ 2 (.bool true)
end Go.Proofs.YtndlcimckfndiaaDoor
