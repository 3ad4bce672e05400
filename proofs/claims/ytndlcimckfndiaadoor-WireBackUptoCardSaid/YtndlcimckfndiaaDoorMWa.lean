/- Texts of one layer in one file: WrA, WrB, WrC, WrD, WrE, WrF. -/
import Derived.Test.YtndlcimckfndiaaDoorMPk
import Derived.Test.YtndlcimckfndiaaDoorMWp
import Derived.Test.YtndlcimckfndiaaDoorMTl
import Derived.Test.YtndlcimckfndiaaDoorReg
import Derived.BigRegion
import Derived.Deep.QuietTactic
import Derived.BigQuiet
import Derived.Test.YtndlcimckfndiaaDoorSpB
namespace Go.Proofs.YtndlcimckfndiaaDoor
open Go.RowKit
set_option maxRecDepth 100000

/-- What a reader says next, and what is left of it (none: it gave up). -/
def numV : Option (List UInt8) → Nat
  | none => 0
  | some l => match Wq.pN l with | none => 0 | some (x, _) => x
def numS : Option (List UInt8) → Option (List UInt8)
  | none => none
  | some l => match Wq.pN l with | none => none | some (_, r) => some r
theorem numV_some {l r : List UInt8} {x : Nat} (h : Wq.pN l = some (x, r)) : numV (some l) = x := by simp only [numV, h]
theorem numS_some {l r : List UInt8} {x : Nat} (h : Wq.pN l = some (x, r)) : numS (some l) = some r := by simp only [numS, h]
theorem numV_no {l : List UInt8} (h : Wq.pN l = none) : numV (some l) = 0 := by simp only [numV, h]
theorem numS_no {l : List UInt8} (h : Wq.pN l = none) : numS (some l) = none := by simp only [numS, h]
theorem numV_lt (s : Option (List UInt8)) : numV s < 9223372036854775808 := by
  cases s with
  | none => show 0 < _; omega
  | some l =>
    unfold numV
    simp only
    split
    · omega
    · rename_i x r h; exact (Wq.pN_back h).2

/-- The reader of wire in memory: block g; T bytes in all. -/
def PR (w : World) (g T : Nat) : Option (List UInt8) → Prop
  | some l => ∃ A n c, Blk w g 90 #[.slice A n c, .int .i64 (((T - l.length : Nat)) : Int), .bool false] ∧ Rd w g 1 A n c (bv l) ∧ l.length = n ∧ l.length ≤ T ∧ T ≤ maxLen
  | none => ∃ A n c k, Blk w g 90 #[.slice A n c, .int .i64 k, .bool true]

theorem PR.lt {w : World} {g T : Nat} {s : Option (List UInt8)} (h : PR w g T s) : g < w.heap.size := by
  cases s with
  | none => obtain ⟨A, n, c, k, h⟩ := h; exact h.lt
  | some l => obtain ⟨A, n, c, h, _⟩ := h; exact h.lt
theorem PR.go {w w' : World} {g T : Nat} {s : Option (List UInt8)} (h : PR w g T s) (hb : Below w.heap.size w w') : PR w' g T s := by
  cases s with
  | none => obtain ⟨A, n, c, k, h⟩ := h; exact ⟨A, n, c, k, h.go hb⟩
  | some l => obtain ⟨A, n, c, h, h2, h3⟩ := h; exact ⟨A, n, c, h.go hb, h2.below (hb.mono (Nat.le_of_lt h.lt)), h3⟩
theorem PR.below {w w' : World} {g T B : Nat} {s : Option (List UInt8)} (h : PR w g T s) (hb : Below B w w') (hg : g < B) : PR w' g T s := by
  cases s with
  | none => obtain ⟨A, n, c, k, h⟩ := h; exact ⟨A, n, c, k, h.below hb hg⟩
  | some l => obtain ⟨A, n, c, h, h2, h3⟩ := h; exact ⟨A, n, c, h.below hb hg, h2.below (hb.mono (by omega)), h3⟩
theorem PR.but {w w' : World} {g q T : Nat} {s : Option (List UInt8)} (h : PR w g T s) (hb : But q w w') (hq : g < q) : PR w' g T s := by
  cases s with
  | none => obtain ⟨A, n, c, k, h⟩ := h; exact ⟨A, n, c, k, h.but hb (by omega)⟩
  | some l => obtain ⟨A, n, c, h, h2, h3⟩ := h; exact ⟨A, n, c, h.but hb (by omega), h2.but hb (Nat.le_of_lt h.lt) (by omega), h3⟩

set_option maxHeartbeats 1000000 in
/-- took, where there was no error. -/
theorem took_ok (g k n c : Nat) (A : Option Addr) (z : Int) (w : World) (hB : Blk w g 90 #[.slice A n c, .int .i64 z, .bool false]) (hk : k ≤ n) (h0 : 0 ≤ z) (hz : z + k ≤ 9223372036854775807) :
    Calls Tryd.prog 83 #[.pointer (some ⟨g, 0, none⟩), .int .i64 k, .int .i64 0] w fun e w' => e = .returned (.bool true) ∧
      Blk w' g 90 #[.slice (cutAt 1 A c k) (n - k) (c - k), .int .i64 (z + k), .bool false] ∧ But g w w' := by
  have hs := fun W => run_from (P := Tryd.prog) W 23 5 1 Tryd.underlying23 size_u8 A n c .i64 k k rfl hk
  have f0 := hB.frozen 0
  have c0 := hB.cell 0
  have f1 := hB.frozen 1
  have c1 := hB.cell 1
  have HB := Lib.hid hB
  clear hB
  go_enter Tryd.func83, Tryd.ntmps83
  go_wp2
  go_region
  go_wp2
  go_ret
  exact ⟨rfl, ((HB.out.set_ 0 (.slice (cutAt 1 A c k) (n - k) (c - k))).set_ 1 (.int .i64 (z + k))), ((But.set_ w (p := ⟨g, 0, none⟩) rfl _).trans (But.set_ _ (p := ⟨g, 1, none⟩) rfl _)).trans (But.drew _)⟩
set_option maxHeartbeats 1000000 in
/-- took, where there was an error. -/
theorem took_bad (g : Nat) (v z : Value) (k er : Int) (w : World) (hB : Blk w g 90 #[v, z, .bool false]) (he : er ≠ 0) :
    Calls Tryd.prog 83 #[.pointer (some ⟨g, 0, none⟩), .int .i64 k, .int .i64 er] w fun e w' => e = .returned (.bool false) ∧
      Blk w' g 90 #[v, z, .bool true] ∧ But g w w' := by
  have f2 := hB.frozen 2
  have c2 := hB.cell 2
  have HB := Lib.hid hB
  clear hB
  go_enter Tryd.func83, Tryd.ntmps83
  go_wp2
  go_ret
  exact ⟨rfl, HB.out.set_ 2 (.bool true), But.set_ w (p := ⟨g, 2, none⟩) rfl _⟩

set_option maxHeartbeats 1000000 in
/-- The reader's next number. -/
theorem rdNum_any (g T : Nat) (s : Option (List UInt8)) (w : World) (h : PR w g T s) :
    Calls Tryd.prog 51 #[.pointer (some ⟨g, 0, none⟩)] w fun e w' => e = .returned (.int .i64 (numV s)) ∧ PR w' g T (numS s) ∧ But g w w' := by
  rcases s with _ | l
  · have h' := h
    obtain ⟨A, n, c, k, hB⟩ := h
    have c2 := hB.cell 2
    have H := Lib.hid h'
    clear hB h'
    go_enter Tryd.func51, Tryd.ntmps51
    go_wp2
    go_ret
    exact ⟨rfl, H.out, But.refl _ _⟩
  · obtain ⟨A, n, c, hB, hR, hl, hT, hm⟩ := h
    obtain ⟨x, k, er, hx⟩ : ∃ x k er, Pk.num l 0 l = (x, k, er) := ⟨_, _, _, rfl⟩
    have H1 := Lib.hid (number_is hx hl (hR.more (Nat.le_of_lt hB.lt)))
    have c0 := hB.cell 0
    have c2 := hB.cell 2
    unfold maxLen at hm
    by_cases he : er = 0
    · subst he
      obtain ⟨b1, b2, b3, b4, b5⟩ := Pk.num_back hx
      have hp := Wq.pN_some hx
      have hv : numV (some l) = x := by simp only [numV, hp]
      have hss : numS (some l) = some (l.drop k) := by simp only [numS, hp]
      rw [hv, hss]
      have H2 := Lib.hid (took_ok g k n c A ((T - l.length : Nat) : Int) w hB (by omega) (by omega) (by omega))
      have HR := Lib.hid (hR.from_ (k := k) (by omega))
      have HE := Lib.hid (show (((T - l.length : Nat) : Int) + k) = ((T - (l.drop k).length : Nat) : Int) by rw [List.length_drop]; omega)
      have HL := Lib.hid (show (l.drop k).length = n - k by rw [List.length_drop]; omega)
      have HM := Lib.hid (show (l.drop k).length ≤ T by rw [List.length_drop]; omega)
      clear hR hl hx hp hv hss b1 b2 b3 b4 b5 hT
      go_enter Tryd.func51, Tryd.ntmps51
      go_wp2_with fail
      refine H1.out.mono ?_
      rintro e w1 ⟨rfl, rfl⟩
      go_wp2_with fail
      refine H2.out.mono ?_
      rintro e w2 ⟨rfl, hB2, hb2⟩
      go_wp2
      go_ret
      have h2 := HR.out
      rw [Nat.mul_one, ← bv_drop] at h2
      rw [HE.out] at hB2
      exact ⟨rfl, ⟨_, _, _, hB2, (h2.but hb2 (Nat.le_of_lt hB.lt) (Nat.le_refl _)), HL.out, HM.out, by unfold maxLen; exact hm⟩, hb2⟩
    · have hp := Wq.pN_none hx he
      have hv : numV (some l) = 0 := by simp only [numV, hp]
      have hss : numS (some l) = none := by simp only [numS, hp]
      rw [hv, hss]
      have he2 : (er : Int) ≠ 0 := by omega
      have hx0 : x = 0 := by
        rcases Pk.num_err l l 0 with h3 | h3 | h3 <;> rw [hx] at h3
        · exact absurd h3 he
        · exact (Prod.mk.inj h3).1
        · exact (Prod.mk.inj h3).1
      subst hx0
      have H2 := Lib.hid (took_bad g (.slice A n c) (.int .i64 ((T - l.length : Nat) : Int)) k er w hB he2)
      clear hR hl hx hp hv hss hT he he2
      go_enter Tryd.func51, Tryd.ntmps51
      go_wp2_with fail
      refine H1.out.mono ?_
      rintro e w1 ⟨rfl, rfl⟩
      go_wp2_with fail
      refine H2.out.mono ?_
      rintro e w2 ⟨rfl, hB2, hb2⟩
      go_wp2
      go_ret
      exact ⟨rfl, ⟨_, _, _, _, hB2⟩, hb2⟩

/-- The document's reader in memory: block g; L: all its bytes. -/
def RR (w : World) (g : Nat) (L : List UInt8) : Option (List UInt8) → Prop
  | some l => ∃ A n c, Blk w g 32 #[.slice A n c, .int .i64 ((L.length - l.length : Nat) : Int), .bool false] ∧ Rd w g 1 A n c (bv L) ∧ L.length = n ∧ l = L.drop (L.length - l.length) ∧ l.length ≤ L.length
  | none => ∃ A n c k, Blk w g 32 #[.slice A n c, .int .i64 k, .bool true]
theorem RR.lt {w : World} {g : Nat} {L : List UInt8} {s : Option (List UInt8)} (h : RR w g L s) : g < w.heap.size := by
  cases s with
  | none => obtain ⟨A, n, c, k, h⟩ := h; exact h.lt
  | some l => obtain ⟨A, n, c, h, _⟩ := h; exact h.lt
theorem RR.go {w w' : World} {g : Nat} {L : List UInt8} {s : Option (List UInt8)} (h : RR w g L s) (hb : Below w.heap.size w w') : RR w' g L s := by
  cases s with
  | none => obtain ⟨A, n, c, k, h⟩ := h; exact ⟨A, n, c, k, h.go hb⟩
  | some l => obtain ⟨A, n, c, h, h2, h3⟩ := h; exact ⟨A, n, c, h.go hb, h2.below (hb.mono (Nat.le_of_lt h.lt)), h3⟩
theorem RR.below {w w' : World} {g B : Nat} {L : List UInt8} {s : Option (List UInt8)} (h : RR w g L s) (hb : Below B w w') (hg : g < B) : RR w' g L s := by
  cases s with
  | none => obtain ⟨A, n, c, k, h⟩ := h; exact ⟨A, n, c, k, h.below hb hg⟩
  | some l => obtain ⟨A, n, c, h, h2, h3⟩ := h; exact ⟨A, n, c, h.below hb hg, h2.below (hb.mono (by omega)), h3⟩
theorem RR.but {w w' : World} {g q : Nat} {L : List UInt8} {s : Option (List UInt8)} (h : RR w g L s) (hb : But q w w') (hq : g < q) : RR w' g L s := by
  cases s with
  | none => obtain ⟨A, n, c, k, h⟩ := h; exact ⟨A, n, c, k, h.but hb (by omega)⟩
  | some l => obtain ⟨A, n, c, h, h2, h3⟩ := h; exact ⟨A, n, c, h.but hb (by omega), h2.but hb (Nat.le_of_lt h.lt) (by omega), h3⟩
end Go.Proofs.YtndlcimckfndiaaDoor

namespace Go.Proofs.YtndlcimckfndiaaDoor
open Go.RowKit
set_option maxRecDepth 100000

set_option maxHeartbeats 1000000 in
/-- The document's next number. -/
theorem refRdNum_any (g : Nat) (L : List UInt8) (s : Option (List UInt8)) (w : World) (h : RR w g L s) :
    Calls Tryd.prog 50 #[.pointer (some ⟨g, 0, none⟩)] w fun e w' => e = .returned (.int .i64 (numV s)) ∧ RR w' g L (numS s) ∧ But g w w' := by
  rcases s with _ | l
  · have h' := h
    obtain ⟨A, n, c, k, hB⟩ := h
    have c2 := hB.cell 2
    have H := Lib.hid h'
    clear hB h'
    go_enter Tryd.func50, Tryd.ntmps50
    go_wp2
    go_ret
    exact ⟨rfl, H.out, But.refl _ _⟩
  · obtain ⟨A, n, c, hB, hR, hn, hd, hle⟩ := h
    obtain ⟨at_, hat⟩ : ∃ at_, at_ = L.length - l.length := ⟨_, rfl⟩
    rw [← hat] at hB hd
    have hcap := hR.cap
    have hmax := hR.max
    unfold maxLen at hmax
    have hll : l.length = n - at_ := by omega
    obtain ⟨x, k, er, hx⟩ : ∃ x k er, Pk.num l 0 l = (x, k, er) := ⟨_, _, _, rfl⟩
    have hR1 := hR.from_ (k := at_) (by omega)
    rw [Nat.mul_one, ← bv_drop, ← hd] at hR1
    have hs := fun W => run_from (P := Tryd.prog) W 23 5 1 Tryd.underlying23 size_u8 A n c .i64 at_ at_ rfl (by omega)
    have HQ := Lib.hid fun (i : Nat) => (refNumber_is (w := w.drewN i) hx hll ((hR1.more (Nat.le_of_lt hB.lt)).drewN i)).mono fun e w' ⟨he, hw⟩ => (⟨he, hw.symm⟩ : e = _ ∧ w' = w.drewN i)
    have c0 := hB.cell 0
    have c1 := hB.cell 1
    have c2 := hB.cell 2
    have f1 := hB.frozen 1
    have f2 := hB.frozen 2
    by_cases he : er = 0
    · subst he
      obtain ⟨b1, b2, b3, b4, b5⟩ := Pk.num_back hx
      have hp := Wq.pN_some hx
      have hv : numV (some l) = x := by simp only [numV, hp]
      have hss : numS (some l) = some (l.drop k) := by simp only [numS, hp]
      rw [hv, hss]
      have hb1 : (at_ : Int) + k ≤ 9223372036854775807 := by omega
      have HD := Lib.hid (show L.length - (l.drop k).length = at_ + k ∧ l.drop k = L.drop (at_ + k) ∧ (l.drop k).length ≤ L.length by
        refine ⟨by rw [List.length_drop]; omega, by rw [hd, List.drop_drop], by rw [List.length_drop]; omega⟩)
      have HR := Lib.hid hR
      have HN := Lib.hid hn
      have HB := Lib.hid hB
      clear hR hR1 hn hd hle hat hll hx hp hv hss b1 b2 b3 b4 b5 hB
      go_enter Tryd.func50, Tryd.ntmps50
      go_wp2
      go_quiet ((go_at_call 81; exact Calls.quiet_of_same (HQ.out _)))
      go_wp2
      go_ret
      obtain ⟨d1, d2, d3⟩ := HD.out
      refine ⟨rfl, ⟨A, n, c, ?_, HR.out.but ?_ (Nat.le_of_lt HB.out.lt) (Nat.le_refl _), HN.out, by rw [d1]; exact d2, d3⟩, ?_⟩
      · rw [d1]
        exact ((show Blk (w.drewN nq) g _ _ from HB.out).set_ 1 (.int .i64 ((at_ : Int) + k))).set_ 2 (.bool false)
      all_goals exact ((But.drewN w nq).trans (But.set_ _ (p := ⟨g, 1, none⟩) rfl _)).trans (But.set_ _ (p := ⟨g, 2, none⟩) rfl _)
    · have hp := Wq.pN_none hx he
      have hv : numV (some l) = 0 := by simp only [numV, hp]
      have hss : numS (some l) = none := by simp only [numS, hp]
      rw [hv, hss]
      obtain ⟨rfl, rfl⟩ : x = 0 ∧ k = 0 := by
        rcases Pk.num_err l l 0 with h3 | h3 | h3 <;> rw [hx] at h3
        · exact absurd h3 he
        · exact ⟨(Prod.mk.inj h3).1, (Prod.mk.inj (Prod.mk.inj h3).2).1⟩
        · exact ⟨(Prod.mk.inj h3).1, (Prod.mk.inj (Prod.mk.inj h3).2).1⟩
      have he2 : ((er : Int) != 0) = true := bne_iff_ne.2 (by omega)
      have hz : (at_ : Int) ≤ 9223372036854775807 := by omega
      have HB := Lib.hid hB
      clear hR hR1 hn hd hle hat hll hx hp hv hss hB
      go_enter Tryd.func50, Tryd.ntmps50
      go_wp2
      go_quiet ((go_at_call 81; exact Calls.quiet_of_same (HQ.out _)))
      go_wp2
      go_ret
      have e0 := ((show Blk (w.drewN nq) g _ _ from HB.out).set_ 1 (.int .i64 at_)).set_ 2 (.bool true)
      refine ⟨rfl, ⟨A, n, c, (at_ : Int), ?_⟩, ?_⟩
      · simpa using e0
      · exact ((But.drewN w nq).trans (But.set_ _ (p := ⟨g, 1, none⟩) rfl _)).trans (But.set_ _ (p := ⟨g, 2, none⟩) rfl _)

/-- A row that a reader says next, and what is left. -/
def rowV (most : Nat) : Option (List UInt8) → List UInt8
  | none => []
  | some l => match Wq.pR most l with | none => [] | some (v, _) => v
def rowS (most : Nat) : Option (List UInt8) → Option (List UInt8)
  | none => none
  | some l => match Wq.pR most l with | none => none | some (_, r) => some r
theorem rowOf_pR (l : List UInt8) (most : Nat) : (∃ v k, rowOf l most = (v, k, 0) ∧ k ≤ l.length ∧ Wq.pR most l = some (v, l.drop k)) ∨ (∃ er, er ≠ 0 ∧ rowOf l most = ([], 0, er) ∧ Wq.pR most l = none) := by
  obtain ⟨x, k, er, hx⟩ : ∃ x k er, Pk.num l 0 l = (x, k, er) := ⟨_, _, _, rfl⟩
  have h0 : ¬ ((most : Int) < 0) := by omega
  by_cases he : er = 0
  · subst he
    obtain ⟨b1, b2, b3, b4, b5⟩ := Pk.num_back hx
    have hp := Wq.pN_some hx
    by_cases hm : (most : Int) < (x : Int)
    · refine .inr ⟨4, by omega, rowOf_most h0 hx hm, ?_⟩
      unfold Wq.pR; rw [hp]; simp only; rw [if_neg (by omega)]
    · by_cases hs : (l.length : Int) - (k : Int) < (x : Int)
      · refine .inr ⟨5, by omega, rowOf_short h0 hx hm hs, ?_⟩
        unfold Wq.pR; rw [hp]; simp only; rw [if_neg (by rw [List.length_drop]; omega)]
      · refine .inl ⟨_, _, rowOf_ok h0 hx hm hs, by omega, ?_⟩
        unfold Wq.pR; rw [hp]; simp only; rw [if_pos (by rw [List.length_drop]; omega), List.drop_drop]
  · refine .inr ⟨er, he, rowOf_err h0 hx he, ?_⟩
    unfold Wq.pR; rw [Wq.pN_none hx he]

set_option maxHeartbeats 2000000 in
/-- The document's next row. -/
theorem refRdRow_any (g most : Nat) (L : List UInt8) (s : Option (List UInt8)) (w : World) (h : RR w g L s) (hL : L.length ≤ 140737488355328) :
    Calls Tryd.prog 69 #[.pointer (some ⟨g, 0, none⟩), .int .i64 most] w fun e w' => ∃ A' c', e = .returned (.slice A' (rowV most s).length c') ∧
      w'.ownsRow w.heap.size 5 1 (.slice A' (rowV most s).length c') (rowV most s).length (bv (rowV most s)) ∧ RR w' g L (rowS most s) ∧ But g w w' := by
  rcases s with _ | l
  · have h' := h
    obtain ⟨A, n, c, k, hB⟩ := h
    have c2 := hB.cell 2
    have H := Lib.hid h'
    clear hB h'
    go_enter Tryd.func69, Tryd.ntmps69
    go_wp2
    go_ret
    exact ⟨none, 0, rfl, World.ownsRow_nil _ _ _ _, H.out, But.refl _ _⟩
  · obtain ⟨A, n, c, hB, hR, hn, hd, hle⟩ := h
    obtain ⟨at_, hat⟩ : ∃ at_, at_ = L.length - l.length := ⟨_, rfl⟩
    rw [← hat] at hB hd
    have hcap := hR.cap
    have hmax := hR.max
    unfold maxLen at hmax
    have hll : l.length = n - at_ := by omega
    have hR1 := hR.from_ (k := at_) (by omega)
    rw [Nat.mul_one, ← bv_drop, ← hd] at hR1
    have hs := fun W => run_from (P := Tryd.prog) W 23 5 1 Tryd.underlying23 size_u8 A n c .i64 at_ at_ rfl (by omega)
    rcases rowOf_pR l most with ⟨v, k, hx, hkl, hp⟩ | ⟨er, her, hx, hp⟩
    · have hv : rowV most (some l) = v := by simp only [rowV, hp]
      have hss : rowS most (some l) = some (l.drop k) := by simp only [rowS, hp]
      rw [hv, hss]
      have hz : (at_ : Int) + k ≤ 9223372036854775807 := by omega
      have HD := Lib.hid (show L.length - (l.drop k).length = at_ + k ∧ l.drop k = L.drop (at_ + k) ∧ (l.drop k).length ≤ L.length by
        refine ⟨by rw [List.length_drop]; omega, by rw [hd, List.drop_drop], by rw [List.length_drop]; omega⟩)
      have HN := Lib.hid hn
      clear hv hss hp
      have HC := Lib.hid fun (W : World) (hr : Rd W g 1 (cutAt 1 A c at_) (n - at_) (c - at_) (bv l)) (hg : g < W.heap.size) => refRow_any (cutAt 1 A c at_) (n - at_) (c - at_) l most W hll (hr.more (Nat.le_of_lt hg)) (by omega)
      rw [hx] at HC
      have c0 := hB.cell 0
      have c1 := hB.cell 1
      have c2 := hB.cell 2
      have f1 := hB.frozen 1
      have f2 := hB.frozen 2
      have HR := Lib.hid hR
      have HR1 := Lib.hid hR1
      have HB := Lib.hid hB
      have HX := Lib.hid hx
      clear hR hR1 hB hcap hmax hat hll hn hd hle hL hx
      go_enter Tryd.func69, Tryd.ntmps69
      go_wp2
      refine region_nrm fun K hK => ?_
      go_region_held3 (fun W => W.cell? ⟨g, 0, none⟩ = some (.slice A n c) ∧ W.cell? ⟨g, 1, none⟩ = some (.int .i64 at_)) (first | exact ⟨c0, c1⟩ | exact ⟨K0, K1⟩ | go_keep) (first
        | (go_at_call 90; refine (HC.out _ (HR1.out.drewN _) HB.out.lt).mono ?_; rintro e w1 ⟨A', c', rfl, ho, hb⟩; have K0 := (hb.cell (p := ⟨g, 0, none⟩) HB.out.lt).trans c0; have K1 := (hb.cell (p := ⟨g, 1, none⟩) HB.out.lt).trans c1))
      refine Nrm.out (hK _ _ ?_)
      have hB1 := (show Blk (w.drewN 1) g _ _ from HB.out).go hb
      have b1 : But g w w1 := (But.drewN w 1).trans (But.of hb)
      have HO := Lib.hid ho
      have F1 := hB1.frozen 1
      have F2 := hB1.frozen 2
      have F3 := hB1.cell 2
      clear c0 c1 c2 f1 f2 hb ho HC
      go_wp2
      go_ret
      obtain ⟨d1, d2, d3⟩ := HD.out
      have b2 : But g w ((w1.setCell ⟨g, 1, none⟩ (.int .i64 ((at_ : Int) + k))).setCell ⟨g, 2, none⟩ (.bool false)) := (b1.trans (But.set_ _ (p := ⟨g, 1, none⟩) rfl _)).trans (But.set_ _ (p := ⟨g, 2, none⟩) rfl _)
      refine ⟨A', c', rfl, ?_, ⟨A, n, c, ?_, HR.out.but b2 (Nat.le_of_lt HB.out.lt) (Nat.le_refl _), HN.out, by rw [d1]; exact d2, d3⟩, b2⟩
      · exact own_but (own_but HO.out (But.set_ _ (p := ⟨g, 1, none⟩) rfl _) HB.out.lt) (But.set_ _ (p := ⟨g, 2, none⟩) rfl _) HB.out.lt
      · rw [d1]
        exact (hB1.set_ 1 (.int .i64 ((at_ : Int) + k))).set_ 2 (.bool false)
    · have hv : rowV most (some l) = [] := by simp only [rowV, hp]
      have hss : rowS most (some l) = none := by simp only [rowS, hp]
      rw [hv, hss]
      have he2 : ((er : Int) != 0) = true := bne_iff_ne.2 (by omega)
      have hz : (at_ : Int) ≤ 9223372036854775807 := by omega
      clear hv hss hp her
      have HC := Lib.hid fun (W : World) (hr : Rd W g 1 (cutAt 1 A c at_) (n - at_) (c - at_) (bv l)) (hg : g < W.heap.size) => refRow_any (cutAt 1 A c at_) (n - at_) (c - at_) l most W hll (hr.more (Nat.le_of_lt hg)) (by omega)
      rw [hx] at HC
      have c0 := hB.cell 0
      have c1 := hB.cell 1
      have c2 := hB.cell 2
      have f1 := hB.frozen 1
      have f2 := hB.frozen 2
      have HR := Lib.hid hR
      have HR1 := Lib.hid hR1
      have HB := Lib.hid hB
      have HX := Lib.hid hx
      clear hR hR1 hB hcap hmax hat hll hn hd hle hL hx
      go_enter Tryd.func69, Tryd.ntmps69
      go_wp2
      refine region_nrm fun K hK => ?_
      go_region_held3 (fun W => W.cell? ⟨g, 0, none⟩ = some (.slice A n c) ∧ W.cell? ⟨g, 1, none⟩ = some (.int .i64 at_)) (first | exact ⟨c0, c1⟩ | exact ⟨K0, K1⟩ | go_keep) (first
        | (go_at_call 90; refine (HC.out _ (HR1.out.drewN _) HB.out.lt).mono ?_; rintro e w1 ⟨A', c', rfl, ho, hb⟩; have K0 := (hb.cell (p := ⟨g, 0, none⟩) HB.out.lt).trans c0; have K1 := (hb.cell (p := ⟨g, 1, none⟩) HB.out.lt).trans c1))
      refine Nrm.out (hK _ _ ?_)
      have hB1 := (show Blk (w.drewN 1) g _ _ from HB.out).go hb
      have b1 : But g w w1 := (But.drewN w 1).trans (But.of hb)
      have HO := Lib.hid ho
      have F1 := hB1.frozen 1
      have F2 := hB1.frozen 2
      have F3 := hB1.cell 2
      clear c0 c1 c2 f1 f2 hb ho HC
      go_wp2
      go_ret
      have b2 : But g w ((w1.setCell ⟨g, 1, none⟩ (.int .i64 (at_ : Int))).setCell ⟨g, 2, none⟩ (.bool true)) := (b1.trans (But.set_ _ (p := ⟨g, 1, none⟩) rfl _)).trans (But.set_ _ (p := ⟨g, 2, none⟩) rfl _)
      refine ⟨A', c', rfl, ?_, ⟨A, n, c, (at_ : Int), ?_⟩, b2⟩
      · exact own_but (own_but HO.out (But.set_ _ (p := ⟨g, 1, none⟩) rfl _) HB.out.lt) (But.set_ _ (p := ⟨g, 2, none⟩) rfl _) HB.out.lt
      · exact (hB1.set_ 1 (.int .i64 (at_ : Int))).set_ 2 (.bool true)
end Go.Proofs.YtndlcimckfndiaaDoor

namespace Go.Proofs.YtndlcimckfndiaaDoor
open Go.RowKit
set_option maxRecDepth 100000

/-- What is read of pairs so far. -/
def Inv2 (k : Nat) (s : Option (List UInt8)) (acc : List (Int × Int)) (F : Option (List (Int × Int) × List UInt8)) : Prop := match s with
  | none => F = none
  | some l => F = match Wq.pP k l with | none => none | some (v, r) => some (acc ++ v, r)
def all2 (l : List UInt8) : Option (List (Int × Int) × List UInt8) := match Wq.pN l with | none => none | some (n, r) => Wq.pP n r
theorem Inv2.start (l : List UInt8) : Inv2 (numV (some l)) (numS (some l)) [] (all2 l) := by
  rcases h : Wq.pN l with _ | ⟨n, r⟩
  · rw [numS_no h]
    show all2 l = none
    unfold all2; rw [h]
  · rw [numS_some h, numV_some h]
    show all2 l = match Wq.pP n r with | none => none | some (v, r) => some ([] ++ v, r)
    unfold all2; rw [h]
    simp only [List.nil_append]
    rcases Wq.pP n r with _ | ⟨v, q⟩ <;> rfl
theorem Inv2.next {k : Nat} {l : List UInt8} {acc : List (Int × Int)} {F : Option (List (Int × Int) × List UInt8)} (h : Inv2 (k + 1) (some l) acc F) :
    Inv2 k (numS (numS (some l))) (acc ++ [((numV (some l) : Int), (numV (numS (some l)) : Int))]) F := by
  have h' : F = match Wq.pP (k + 1) l with | none => none | some (v, r) => some (acc ++ v, r) := h
  rw [Wq.pP] at h'
  rcases h1 : Wq.pN l with _ | ⟨a, r⟩
  · rw [numS_no h1]
    rw [h1] at h'
    exact h'
  · rw [numS_some h1, numV_some h1]
    rw [h1] at h'
    rcases h2 : Wq.pN r with _ | ⟨b, q⟩
    · rw [numS_no h2]
      simp only [h2] at h'
      exact h'
    · rw [numS_some h2, numV_some h2]
      simp only [h2] at h'
      show F = match Wq.pP k q with | none => none | some (v, r) => some (_ ++ v, r)
      rw [h']
      rcases Wq.pP k q with _ | ⟨v, t⟩
      · rfl
      · simp
theorem Inv2.done {l : List UInt8} {acc : List (Int × Int)} {F : Option (List (Int × Int) × List UInt8)} (h : Inv2 0 (some l) acc F) : F = some (acc, l) := by
  have : F = some (acc ++ [], l) := h
  rwa [List.append_nil] at this
/-- How many pairs there can be. -/
def Cap2 (m : Nat) (s : Option (List UInt8)) (N : Nat) : Prop := match s with | none => m ≤ N + 1 | some l => m + l.length ≤ N
theorem numS_cap {s : Option (List UInt8)} {m N : Nat} (h : Cap2 m s N) : Cap2 m (numS s) N := by
  cases s with
  | none => exact h
  | some l =>
    have h' : m + l.length ≤ N := h
    rcases h1 : Wq.pN l with _ | ⟨a, r⟩
    · rw [numS_no h1]; show m ≤ N + 1; omega
    · have := Wq.pN_len h1
      rw [numS_some h1]; show m + r.length ≤ N; omega
theorem numS_cap1 {l : List UInt8} {m N : Nat} (h : Cap2 m (some l) N) : Cap2 (m + 1) (numS (some l)) N := by
  have h' : m + l.length ≤ N := h
  rcases h1 : Wq.pN l with _ | ⟨a, r⟩
  · rw [numS_no h1]; show m + 1 ≤ N + 1; omega
  · have := Wq.pN_len h1
    rw [numS_some h1]; show m + 1 + r.length ≤ N; omega
theorem Cap2.le {s : Option (List UInt8)} {m N : Nat} (h : Cap2 m s N) : m ≤ N + 1 := by
  cases s with
  | none => exact h
  | some l => have h' : m + l.length ≤ N := h; omega

/-- The set that bytes begin with: its spans, its size, the error. -/
def setV (l : List UInt8) : List Sn.Sp := match Wq.pS l with | none => [] | some (v, _) => v
def setK (l : List UInt8) : Nat := match Wq.pS l with | none => 0 | some (_, r) => l.length - r.length
def setE (l : List UInt8) : Nat := match Wq.pS l with | none => 4 | some _ => 0
theorem set_no {l : List UInt8} (h : Wq.pS l = none) : setV l = [] ∧ setK l = 0 ∧ setE l = 4 := by unfold setV setK setE; rw [h]; exact ⟨rfl, rfl, rfl⟩
theorem set_yes {l r : List UInt8} {v : List Sn.Sp} (h : Wq.pS l = some (v, r)) : setV l = v ∧ setK l = l.length - r.length ∧ setE l = 0 := by unfold setV setK setE; rw [h]; exact ⟨rfl, rfl, rfl⟩
theorem pS_all {l : List UInt8} : Wq.pS l = match all2 l with | none => none | some (v, q) => if Sn.fmS (-2) v = true then some (v, q) else none := by
  unfold Wq.pS all2
  rcases Wq.pN l with _ | ⟨n, r⟩ <;> rfl

set_option maxHeartbeats 1000000 in
/-- end: all that was read. -/
theorem endS_ok (g T : Nat) (v : Value) (l : List UInt8) (w : World) (h : PR w g T (some l)) :
    Calls Tryd.prog 57 #[.pointer (some ⟨g, 0, none⟩), v, .bool true] w fun e w' => e = .returned (.tuple #[v, .int .i64 ((T - l.length : Nat) : Int), .int .i64 0]) ∧ ∃ n, w' = w.drewN n := by
  obtain ⟨A, n, c, hB, hq⟩ := h
  have c1 := hB.cell 1
  have c2 := hB.cell 2
  clear hB hq
  go_enter Tryd.func57, Tryd.ntmps57
  go_wp2
  go_quiet (fail)
  go_wp2
  go_ret3
  exact ⟨rfl, _, rfl⟩
set_option maxHeartbeats 1000000 in
/-- end: nothing. -/
theorem endS_bad (g T : Nat) (v : Value) (f : Bool) (s : Option (List UInt8)) (w : World) (h : PR w g T s) (hs : s = none ∨ f = false) :
    Calls Tryd.prog 57 #[.pointer (some ⟨g, 0, none⟩), v, .bool f] w fun e w' => e = .returned (.tuple #[.slice none 0 0, .int .i64 0, .int .i64 4]) ∧ PR w' g T none ∧ But g w w' := by
  rcases s with _ | l
  · obtain ⟨A, n, c, k, hB⟩ := h
    have c2 := hB.cell 2
    have f2 := hB.frozen 2
    have HB := Lib.hid hB
    clear hB hs
    go_enter Tryd.func57, Tryd.ntmps57
    go_wp2
    go_ret3
    exact ⟨rfl, ⟨A, n, c, k, HB.out.set_ 2 (.bool true)⟩, But.set_ w (p := ⟨g, 2, none⟩) rfl _⟩
  · obtain rfl : f = false := by
      rcases hs with h | h
      · cases h
      · exact h
    obtain ⟨A, n, c, hB, _⟩ := h
    have c2 := hB.cell 2
    have f2 := hB.frozen 2
    have HB := Lib.hid hB
    clear hB hs
    go_enter Tryd.func57, Tryd.ntmps57
    go_wp2
    go_ret3
    exact ⟨rfl, ⟨A, n, c, _, HB.out.set_ 2 (.bool true)⟩, But.set_ w (p := ⟨g, 2, none⟩) rfl _⟩

set_option maxHeartbeats 4000000 in
/-- wire.Set. -/
theorem wireSet_any (A : Option Addr) (n c : Nat) (l : List UInt8) (w : World) (hl : l.length = n) (hR : Rd w w.heap.size 1 A n c (bv l)) (hn : n ≤ 4294967296) :
    Calls Tryd.prog 23 #[.slice A n c] w fun e w' => ∃ A' c', e = .returned (.tuple #[.slice A' (setV l).length c', .int .i64 (setK l), .int .i64 (setE l)]) ∧
      w'.ownsRow w.heap.size 97 2 (.slice A' (setV l).length c') (setV l).length (sv (setV l)) ∧ Below w.heap.size w w' := by
  obtain ⟨i0, hi0, hz0, hz1, hz2⟩ := info_parts span_info
  have hP0 : PR (w.alloc (.cells #[.slice A n c, .int .i64 0, .bool false] 90)) w.heap.size n (some l) := by
    refine ⟨A, n, c, ?_, hR.alloc (Nat.le_refl _) _, hl, by omega, by have := hR.cap; have := hR.max; omega⟩
    rw [hl, Nat.sub_self]
    exact Blk.new w _ _
  have hb0 : Below w.heap.size w (w.alloc (.cells #[.slice A n c, .int .i64 0, .bool false] 90)) := (Below.refl _ _).alloc (Nat.le_refl _) _
  obtain ⟨w0, hw0⟩ : ∃ w0, w0 = w.alloc (.cells #[.slice A n c, .int .i64 0, .bool false] 90) := ⟨_, rfl⟩
  rw [← hw0] at hP0 hb0
  have HW := Lib.hid hw0.symm
  have HL := Lib.hid hl
  have hcap := Lib.hid (show Cap2 0 (numS (some l)) n from numS_cap (show 0 + l.length ≤ n by omega))
  have hinv := Lib.hid (Inv2.start l)
  have hk0 := numV_lt (some l)
  obtain ⟨k0, hk0e⟩ : ∃ k0, k0 = numV (some l) := ⟨_, rfl⟩
  have H1 := Lib.hid fun (W : World) (s : Option (List UInt8)) (h : PR W w.heap.size n s) => rdNum_any w.heap.size n s W h
  have H10 := H1.out w0 (some l) hP0
  rw [← hk0e] at H10 hk0 hinv
  have H0 := Lib.hid H10
  clear H10 hk0e hl hR hw0
  go_enter Tryd.func23, Tryd.ntmps23
  go_wp2_with fail
  rw [HW.out]
  refine H0.out.mono ?_
  rintro e w1 ⟨rfl, hP1, hu1⟩
  have hs0 := hP0.lt
  have hs1 := hu1.size
  have hb1 := below_but hb0 hu1 (by omega) (Nat.le_refl _)
  clear H0 hu1 hP0 hb0
  go_wp2_with fail
  go_loopw [6, 7, 8] (fun v6 v7 _ wr => ∃ (k m c' : Nat) (A' : Option Addr) (s : Option (List UInt8)) (acc : List (Int × Int)), v7 = .int .i64 k ∧ v6 = .slice A' m c' ∧ k ≤ k0 ∧ PR wr w.heap.size n s ∧ Below w.heap.size w wr ∧
    wr.ownsRow (w.heap.size + 1) 97 2 (.slice A' m c') m (sv acc) ∧ Hid (acc.length = m) ∧ Hid (Cap2 m s n) ∧ Hid (Inv2 k s acc (all2 l))) (fun _ v7 _ _ => (intOf v7).toNat)
  case atStart => exact ⟨k0, 0, 0, none, _, [], rfl, rfl, Nat.le_refl _, hP1, hb1, World.ownsRow_nil _ _ _ _, rfl, hcap, hinv⟩
  case round =>
    obtain ⟨k, m, c', A', s, acc, rfl, rfl, hk, hP, hb, ho, hacc, hca, hin⟩ := hrel
    have hlt := hP.lt
    have HP := Lib.hid hP
    have HO := Lib.hid ho
    clear hP ho
    by_cases hgo : 0 < k ∧ s ≠ none
    · obtain ⟨hk1, hs⟩ := hgo
      obtain ⟨l1, rfl⟩ : ∃ l1, s = some l1 := by
        cases s with
        | none => exact absurd rfl hs
        | some l1 => exact ⟨l1, rfl⟩
      obtain ⟨Ar, nr, cr, hBr, hqr⟩ := HP.out
      have c2 := hBr.cell 2
      clear hBr hqr hs
      obtain ⟨lo, hlo⟩ : ∃ lo, lo = numV (some l1) := ⟨_, rfl⟩
      obtain ⟨s1, hs1⟩ : ∃ s1, s1 = numS (some l1) := ⟨_, rfl⟩
      obtain ⟨hi, hhi⟩ : ∃ hi, hi = numV s1 := ⟨_, rfl⟩
      obtain ⟨s2, hs2⟩ : ∃ s2, s2 = numS s1 := ⟨_, rfl⟩
      have hcap1 : m + l1.length ≤ n := hca.out
      have HIN := Lib.hid (show Inv2 (k - 1) s2 (acc ++ [((lo : Int), (hi : Int))]) (all2 l) by
        have h := hin.out
        rw [show k = (k - 1) + 1 by omega] at h
        rw [hs2, hlo, hhi, hs1]
        exact h.next)
      have HCA := Lib.hid (show Cap2 (m + 1) s2 n by rw [hs2]; exact numS_cap (by rw [hs1]; exact numS_cap1 hca.out))
      have C1 := H1.out wr (some l1) HP.out
      rw [← hlo, ← hs1] at C1
      have C2 := H1.out
      have G1 := Lib.hid C1
      have G2 := Lib.hid fun (W : World) (h : PR W w.heap.size n s1) => H1.out W s1 h
      rw [← hhi, ← hs2] at G2
      have h63 : m + 1 ≤ maxLen := by unfold maxLen; omega
      have h1max : 1 ≤ maxLen := by unfold maxLen; omega
      have hbs := hb.size
      have hm32 : m ≤ 4294967296 := by omega
      clear C1 C2 hlo hs1 hhi hs2 hin hca hcap1
      go_wp2_with fail
      refine G1.out.mono ?_
      rintro e w2 ⟨rfl, hP2, hu2⟩
      have hs2 := hu2.size
      go_wp2_with fail
      refine (G2.out w2 hP2).mono ?_
      rintro e w3 ⟨rfl, hP3, hu3⟩
      have hs3 := hu3.size
      have ho3 := own_but (own_but HO.out hu2 (by omega)) hu3 (by omega)
      have hb3 := below_but (below_but hb hu2 (by omega) (Nat.le_refl _)) hu3 (by omega) (Nat.le_refl _)
      clear hu2 hu3 hP2 HO hb HP c2 G1 G2
      go_wp2_with (at_builtin; go_must (refine wpList_append_rd _ rfl (.tmp 27) (.tmp 32) _ rfl (w.heap.size + 1) 97 i0 _ 2 16 Tryd.underlying40 hi0 hz0 hz1 hz2 rfl (by decide) (.slice A' m c') m _ rfl (ho3.alloc _) (w3.heap.size + 1) (some ⟨w3.heap.size, 0, none⟩) 1 1 [.int .i64 (lo : Int), .int .i64 (hi : Int)] rfl (Rd.new w3 _ 2 1 #[.int .i64 (lo : Int), .int .i64 (hi : Int)] rfl h1max) (sv_oneCell [((lo : Int), (hi : Int))]) h63 (by omega) (by simp; omega) ?_); intro A3 c3 w4 ho4 hg4 hat4)
      have hbg : Below (w.heap.size + 1) w3 w4 := ((Below.refl _ _).alloc (by omega) _).trans (grown_below hg4 (by simp; omega) (fun g hg => own_lt ho3 g hg))
      go_roundw
      case rel =>
        exact ⟨k - 1, m + 1, c3, A3, s2, acc ++ [((lo : Int), (hi : Int))], by rw [show ((k : Int) - 1) = ((k - 1 : Nat) : Int) by omega], rfl, by omega, hP3.below hbg (by omega), hb3.trans (hbg.mono (by omega)), by rw [sv_app]; exact ho4,
          by show _ = _; rw [List.length_append, hacc.out]; rfl, HCA, HIN⟩
      case measure => simp [intOf]; omega
    · have HF := Lib.hid fun (W : World) (hR : Rd W W.heap.size 2 A' m c' (sv acc)) => formedS_any A' m c' acc W hacc.out hR
      have hbs := hb.size
      rcases s with _ | r
      · have hpS : Wq.pS l = none := by
          have h : all2 l = none := hin.out
          rw [pS_all, h]
        have HE := Lib.hid (set_no hpS)
        obtain ⟨Ar, nr, cr, kr, hBr⟩ := HP.out
        have c2 := hBr.cell 2
        clear hBr hpS hgo hinv hcap
        by_cases hk0 : 0 < k
        all_goals
          go_wp2_with fail
          refine (HF.out wr (Rd.of_own HO.out)).mono ?_
          rintro e w5 ⟨rfl, hb5⟩
          go_wp2_with fail
          refine (endS_bad w.heap.size n (.slice A' m c') (Sn.fmS (-2) acc) none w5 (HP.out.go hb5) (.inl rfl)).mono ?_
          rintro e w6 ⟨rfl, hP6, hu6⟩
          go_wp2
          go_ret3
          obtain ⟨e1, e2, e3⟩ := HE.out
          rw [e1, e2, e3]
          exact ⟨none, 0, rfl, World.ownsRow_nil _ _ _ _, below_but (below_then hb (Nat.le_refl _) hb5) hu6 (by have := hb5.size; omega) (Nat.le_refl _)⟩
      · obtain rfl : k = 0 := by
          rcases Nat.eq_zero_or_pos k with h | h
          · exact h
          · exact absurd ⟨h, by simp⟩ hgo
        have hF := hin.out.done
        obtain ⟨Ar, nr, cr, hBr, hqr⟩ := HP.out
        have c2 := hBr.cell 2
        by_cases hf : Sn.fmS (-2) acc = true
        · have hpS : Wq.pS l = some (acc, r) := by rw [pS_all, hF]; simp only; rw [if_pos hf]
          have HE := Lib.hid (set_yes hpS)
          have HA := Lib.hid hacc.out
          rw [hf] at HF
          clear hBr hqr hpS hgo hinv hcap hF hf
          go_wp2_with fail
          refine (HF.out wr (Rd.of_own HO.out)).mono ?_
          rintro e w5 ⟨rfl, hb5⟩
          have ho5 := own_below HO.out hb5 (Nat.le_refl _)
          go_wp2_with fail
          refine (endS_ok w.heap.size n (.slice A' m c') r w5 (HP.out.go hb5)).mono ?_
          rintro e w6 ⟨rfl, n6, rfl⟩
          go_wp2
          go_ret3
          obtain ⟨e1, e2, e3⟩ := HE.out
          rw [e1, e2, e3, HL.out, HA.out]
          exact ⟨A', c', rfl, own_less (own_drewN ho5 n6) (by omega), below_drewN (below_then hb (Nat.le_refl _) hb5) n6⟩
        · have hf' : Sn.fmS (-2) acc = false := by simpa using hf
          have hpS : Wq.pS l = none := by rw [pS_all, hF]; simp only; rw [if_neg hf]
          have HE := Lib.hid (set_no hpS)
          rw [hf'] at HF
          clear hBr hqr hpS hgo hinv hcap hF hf hf'
          go_wp2_with fail
          refine (HF.out wr (Rd.of_own HO.out)).mono ?_
          rintro e w5 ⟨rfl, hb5⟩
          go_wp2_with fail
          refine (endS_bad w.heap.size n (.slice A' m c') false (some r) w5 (HP.out.go hb5) (.inr rfl)).mono ?_
          rintro e w6 ⟨rfl, hP6, hu6⟩
          go_wp2
          go_ret3
          obtain ⟨e1, e2, e3⟩ := HE.out
          rw [e1, e2, e3]
          exact ⟨none, 0, rfl, World.ownsRow_nil _ _ _ _, below_but (below_then hb (Nat.le_refl _) hb5) hu6 (by have := hb5.size; omega) (Nat.le_refl _)⟩
end Go.Proofs.YtndlcimckfndiaaDoor

namespace Go.Proofs.YtndlcimckfndiaaDoor
open Go.RowKit
set_option maxRecDepth 100000

def all2S : Option (List UInt8) → Option (List (Int × Int) × List UInt8)
  | none => none
  | some l => all2 l
theorem Inv2.startS (s : Option (List UInt8)) : Inv2 (numV s) (numS s) [] (all2S s) := by
  cases s with
  | none => exact rfl
  | some l => exact Inv2.start l
/-- What is left behind a set. -/
def setS : Option (List UInt8) → Option (List UInt8)
  | none => none
  | some l => match Wq.pS l with | none => none | some (_, r) => some r
def setVS : Option (List UInt8) → List Sn.Sp
  | none => []
  | some l => setV l
theorem setS_of {s : Option (List UInt8)} : setS s = match all2S s with | none => none | some (v, q) => if Sn.fmS (-2) v = true then some q else none := by
  cases s with
  | none => rfl
  | some l =>
    show (match Wq.pS l with | none => none | some (_, r) => some r) = _
    rw [pS_all]
    show _ = match all2 l with | none => none | some (v, q) => if Sn.fmS (-2) v = true then some q else none
    rcases all2 l with _ | ⟨v, q⟩
    · rfl
    · simp only
      by_cases h : Sn.fmS (-2) v = true
      · rw [if_pos h, if_pos h]
      · rw [if_neg h, if_neg h]
theorem setVS_of {s : Option (List UInt8)} {v : List Sn.Sp} {q : List UInt8} (h : all2S s = some (v, q)) (hf : Sn.fmS (-2) v = true) : setVS s = v := by
  cases s with
  | none => cases h
  | some l =>
    have h' : all2 l = some (v, q) := h
    have : Wq.pS l = some (v, q) := by rw [pS_all, h']; simp only; rw [if_pos hf]
    exact (set_yes this).1
theorem setS_some {l q : List UInt8} (h : setS (some l) = some q) : Wq.pS l = some (setV l, q) := by
  have h' : (match Wq.pS l with | none => none | some (_, r) => some r) = some q := h
  rcases hp : Wq.pS l with _ | ⟨v, r⟩
  · rw [hp] at h'; cases h'
  · rw [hp] at h'
    rw [(set_yes hp).1]
    simp only [Option.some.injEq] at h'
    rw [h']

set_option maxHeartbeats 4000000 in
/-- The document's next set. -/
theorem refRdSet_any (g : Nat) (L : List UInt8) (s0 : Option (List UInt8)) (w : World) (h : RR w g L s0) (hn : L.length ≤ 4294967296) :
    Calls Tryd.prog 22 #[.pointer (some ⟨g, 0, none⟩)] w fun e w' => ∃ v A' c', e = .returned (.slice A' v.length c') ∧
      w'.ownsRow w.heap.size 97 2 (.slice A' v.length c') v.length (sv v) ∧ RR w' g L (setS s0) ∧ But g w w' ∧ (∀ q, setS s0 = some q → v = setVS s0) := by
  obtain ⟨i0, hi0, hz0, hz1, hz2⟩ := info_parts span_info
  have hlt0 := h.lt
  have HC0 : Cap2 0 s0 L.length := by
    cases s0 with
    | none => show 0 ≤ _; omega
    | some l => obtain ⟨A, n, c, _, _, _, _, hle⟩ := h; show 0 + l.length ≤ _; omega
  have hcap := Lib.hid (numS_cap HC0)
  have hinv := Lib.hid (Inv2.startS s0)
  have hk0 := numV_lt s0
  obtain ⟨k0, hk0e⟩ : ∃ k0, k0 = numV s0 := ⟨_, rfl⟩
  have H1 := Lib.hid fun (W : World) (s : Option (List UInt8)) (h : RR W g L s) => refRdNum_any g L s W h
  have H10 := H1.out w s0 h
  rw [← hk0e] at H10 hk0 hinv
  have H0 := Lib.hid H10
  obtain ⟨N, hN⟩ : ∃ N, N = L.length := ⟨_, rfl⟩
  rw [← hN] at hn hcap
  clear H10 hk0e h HC0 hN
  go_enter Tryd.func22, Tryd.ntmps22
  go_wp2_with fail
  refine H0.out.mono ?_
  rintro e w1 ⟨rfl, hP1, hu1⟩
  have hs1 := hu1.size
  clear H0
  go_wp2_with fail
  go_loopw [3, 4, 5] (fun v6 v7 _ wr => ∃ (k m c' : Nat) (A' : Option Addr) (s : Option (List UInt8)) (acc : List (Int × Int)), v7 = .int .i64 k ∧ v6 = .slice A' m c' ∧ k ≤ k0 ∧ RR wr g L s ∧ But g w wr ∧
    wr.ownsRow w.heap.size 97 2 (.slice A' m c') m (sv acc) ∧ Hid (acc.length = m) ∧ Hid (Cap2 m s N) ∧ Hid (Inv2 k s acc (all2S s0))) (fun _ v7 _ _ => (intOf v7).toNat)
  case atStart => exact ⟨k0, 0, 0, none, _, [], rfl, rfl, Nat.le_refl _, hP1, hu1, World.ownsRow_nil _ _ _ _, rfl, hcap, hinv⟩
  case round =>
    obtain ⟨k, m, c', A', s, acc, rfl, rfl, hk, hP, hb, ho, hacc, hca, hin⟩ := hrel
    have hlt := hP.lt
    have HP := Lib.hid hP
    have HO := Lib.hid ho
    have hbs := hb.size
    clear hP ho
    by_cases hgo : 0 < k ∧ s ≠ none
    · obtain ⟨hk1, hs⟩ := hgo
      obtain ⟨l1, rfl⟩ : ∃ l1, s = some l1 := by
        cases s with
        | none => exact absurd rfl hs
        | some l1 => exact ⟨l1, rfl⟩
      obtain ⟨Ar, nr, cr, hBr, hqr⟩ := HP.out
      have c2 := hBr.cell 2
      clear hBr hs hqr
      obtain ⟨lo, hlo⟩ : ∃ lo, lo = numV (some l1) := ⟨_, rfl⟩
      obtain ⟨s1, hs1⟩ : ∃ s1, s1 = numS (some l1) := ⟨_, rfl⟩
      obtain ⟨hi, hhi⟩ : ∃ hi, hi = numV s1 := ⟨_, rfl⟩
      obtain ⟨s2, hs2⟩ : ∃ s2, s2 = numS s1 := ⟨_, rfl⟩
      have hcap1 : m + l1.length ≤ N := hca.out
      have HIN := Lib.hid (show Inv2 (k - 1) s2 (acc ++ [((lo : Int), (hi : Int))]) (all2S s0) by
        have h := hin.out
        rw [show k = (k - 1) + 1 by omega] at h
        rw [hs2, hlo, hhi, hs1]
        exact h.next)
      have HCA := Lib.hid (show Cap2 (m + 1) s2 N by rw [hs2]; exact numS_cap (by rw [hs1]; exact numS_cap1 hca.out))
      have C1 := H1.out wr (some l1) HP.out
      rw [← hlo, ← hs1] at C1
      have G1 := Lib.hid C1
      have G2 := Lib.hid fun (W : World) (h : RR W g L s1) => H1.out W s1 h
      rw [← hhi, ← hs2] at G2
      have h63 : m + 1 ≤ maxLen := by unfold maxLen; omega
      have h1max : 1 ≤ maxLen := by unfold maxLen; omega
      have hm32 : m ≤ 4294967296 := by omega
      clear C1 hlo hs1 hhi hs2 hin hca hcap1
      go_wp2_with fail
      refine G1.out.mono ?_
      rintro e w2 ⟨rfl, hP2, hu2⟩
      have hs2 := hu2.size
      have hx2 := Blk.new w2 97 #[.int .i64 (lo : Int), .int .i64 0]
      have hb2 : Below w2.heap.size w2 (w2.alloc (.cells #[.int .i64 (lo : Int), .int .i64 0] 97)) := (Below.refl _ _).alloc (Nat.le_refl _) _
      go_wp2_with fail
      refine (G2.out _ (hP2.go hb2)).mono ?_
      rintro e w3 ⟨rfl, hP3, hu3⟩
      have hs3 := hu3.size
      rw [World.size_alloc] at hs3
      have hne : (Value.slice A' m c').ownBlock ≠ some w2.heap.size := fun e => by have := (HO.out.lt _ e).2; omega
      have hx3 := hx2.but hu3 (by omega)
      have ho3 := own_butN (own_but ((own_but HO.out hu2 (by omega)).alloc (.cells #[.int .i64 (lo : Int), .int .i64 0] 97)) hu3 (by omega)) (But.set_ (g := w2.heap.size) w3 (p := ⟨w2.heap.size, 1, none⟩) rfl (.int .i64 hi)) hne
      have hb3 : But g w w3 := ((hb.trans hu2).trans (But.of hb2)).trans hu3
      have hP4 : RR (w3.setCell ⟨w2.heap.size, 1, none⟩ (.int .i64 hi)) g L s2 := hP3.but (But.set_ (g := w2.heap.size) w3 (p := ⟨w2.heap.size, 1, none⟩) rfl (.int .i64 hi)) (by omega)
      have hb4 : Below w.heap.size w3 (w3.setCell ⟨w2.heap.size, 1, none⟩ (.int .i64 hi)) := (Below.refl _ _).setCell (p := ⟨w2.heap.size, 1, none⟩) (by show _ ≤ w2.heap.size; omega) _
      have d0 := hx3.cell 0
      have d1 := hx3.cell 1
      have d2 := hx3.frozen 1
      have HX3 := Lib.hid hx3
      clear hx2 hb2 hu2 hu3 hP2 hP3 HO HP hb hx3 c2 G1 G2
      go_wp2_with (at_builtin; go_must (refine wpList_append_rd _ rfl (.tmp 25) (.tmp 27) _ rfl w.heap.size 97 i0 _ 2 16 Tryd.underlying40 hi0 hz0 hz1 hz2 rfl (by decide) (.slice A' m c') m _ rfl (ho3.alloc _) _ (some ⟨w3.heap.size, 0, none⟩) 1 1 [.int .i64 (lo : Int), .int .i64 (hi : Int)] rfl (by have := Rd.new (w3.setCell ⟨w2.heap.size, 1, none⟩ (.int .i64 hi)) 97 2 1 #[.int .i64 (lo : Int), .int .i64 (hi : Int)] rfl h1max; simpa using this) (sv_oneCell [((lo : Int), (hi : Int))]) h63 (by omega) (by simp; omega) ?_); intro A3 c3 w4 ho4 hg4 hat4)
      have hbg : Below w.heap.size (w3.setCell ⟨w2.heap.size, 1, none⟩ (.int .i64 hi)) w4 := ((Below.refl _ _).alloc (by simp; omega) _).trans (grown_below hg4 (by simp; omega) (fun g hg => own_lt ho3 g hg))
      go_roundw
      case rel =>
        exact ⟨k - 1, m + 1, c3, A3, s2, acc ++ [((lo : Int), (hi : Int))], by rw [show ((k : Int) - 1) = ((k - 1 : Nat) : Int) by omega], rfl, by omega, hP4.below hbg (by omega), hb3.below (hb4.trans hbg),
          by rw [sv_app]; exact ho4, by show _ = _; rw [List.length_append, hacc.out]; rfl, HCA, HIN⟩
      case measure => simp [intOf]; omega
    · have HF := Lib.hid fun (W : World) (hR : Rd W W.heap.size 2 A' m c' (sv acc)) => refFormedS_any A' m c' acc W hacc.out hR
      have HA := Lib.hid hacc.out
      rcases s with _ | r
      · have hpS : setS s0 = none := by
          have h : all2S s0 = none := hin.out
          rw [setS_of, h]
        have HE := Lib.hid hpS
        obtain ⟨Ar, nr, cr, kr, hBr⟩ := HP.out
        have c2 := hBr.cell 2
        have f2 := hBr.frozen 2
        have HB := Lib.hid hBr
        clear hBr hpS hgo hinv hcap
        by_cases hk0 : 0 < k
        all_goals
          go_wp2
          go_ret
          have hu := But.set_ (g := g) wr (p := ⟨g, 2, none⟩) rfl (.bool true)
          refine ⟨acc, A', c', by rw [HA.out]; rfl, by rw [HA.out]; exact own_but HO.out hu (by omega), ?_, hb.trans hu, fun q hq => by rw [HE.out] at hq; cases hq⟩
          rw [HE.out]
          exact ⟨Ar, nr, cr, kr, HB.out.set_ 2 (.bool true)⟩
      · obtain rfl : k = 0 := by
          rcases Nat.eq_zero_or_pos k with h | h
          · exact h
          · exact absurd ⟨h, by simp⟩ hgo
        have hF := hin.out.done
        obtain ⟨Ar, nr, cr, hBr, hqr⟩ := HP.out
        have HQ := Lib.hid hqr
        have c2 := hBr.cell 2
        by_cases hf : Sn.fmS (-2) acc = true
        · have hpS : setS s0 = some r := by rw [setS_of, hF]; simp only; rw [if_pos hf]
          have HE := Lib.hid hpS
          have HV := Lib.hid (setVS_of hF hf)
          rw [hf] at HF
          have HB := Lib.hid hBr
          clear hBr hqr hpS hgo hinv hcap hF hf
          go_wp2_with fail
          refine (HF.out wr (Rd.of_own HO.out)).mono ?_
          rintro e w5 ⟨rfl, hb5⟩
          have ho5 := own_below HO.out hb5 (Nat.le_refl _)
          have hB5 := HB.out.go hb5
          have f2 := hB5.frozen 2
          have d2 := hB5.cell 2
          have hP5 := HP.out.go hb5
          have hb6 := hb.below (hb5.mono hbs)
          have HB5 := Lib.hid hB5
          clear HB c2 hB5
          go_wp2
          go_ret
          have hu := But.set_ (g := g) w5 (p := ⟨g, 2, none⟩) rfl (.bool false)
          refine ⟨acc, A', c', by rw [HA.out]; rfl, by rw [HA.out]; exact own_but ho5 hu (by omega), ?_, hb6.trans hu, fun q hq => HV.out.symm⟩
          rw [HE.out]
          obtain ⟨q1, q2, q3, q4⟩ := HQ.out
          exact ⟨Ar, nr, cr, HB5.out.set_ 2 (.bool false), (q1.below (hb5.mono (by omega))).but hu (by have := hb5.size; omega) (Nat.le_refl _), q2, q3, q4⟩
        · have hf' : Sn.fmS (-2) acc = false := by simpa using hf
          have hpS : setS s0 = none := by rw [setS_of, hF]; simp only; rw [if_neg hf]
          have HE := Lib.hid hpS
          rw [hf'] at HF
          have HB := Lib.hid hBr
          clear hBr hqr hpS hgo hinv hcap hF hf hf'
          go_wp2_with fail
          refine (HF.out wr (Rd.of_own HO.out)).mono ?_
          rintro e w5 ⟨rfl, hb5⟩
          have ho5 := own_below HO.out hb5 (Nat.le_refl _)
          have hB5 := HB.out.go hb5
          have f2 := hB5.frozen 2
          have d2 := hB5.cell 2
          have hb6 := hb.below (hb5.mono hbs)
          have HB5 := Lib.hid hB5
          clear HB c2 hB5
          go_wp2
          go_ret
          have hu := But.set_ (g := g) w5 (p := ⟨g, 2, none⟩) rfl (.bool true)
          refine ⟨acc, A', c', by rw [HA.out]; rfl, by rw [HA.out]; exact own_but ho5 hu (by omega), ?_, hb6.trans hu, fun q hq => by rw [HE.out] at hq; cases hq⟩
          rw [HE.out]
          exact ⟨Ar, nr, cr, _, HB5.out.set_ 2 (.bool true)⟩
end Go.Proofs.YtndlcimckfndiaaDoor

namespace Go.Proofs.YtndlcimckfndiaaDoor
open Go.RowKit
set_option maxRecDepth 100000

/-- Ints as cells. -/
def iv (l : List Int) : List Value := l.map fun x => .int .i64 x
theorem iv_len (l : List Int) : (iv l).length = l.length := by simp [iv]
theorem iv_at (l : List Int) (k : Nat) (h : k < l.length) : (iv l)[k]? = some (.int .i64 l[k]) := by simp [iv, List.getElem?_map, List.getElem?_eq_getElem h]
/-- Numbers laid one behind another. -/
def layAll (xs : List Int) : List UInt8 := xs.flatMap fun x => Pk.lay x.toNat
theorem layAll_take (xs : List Int) (k : Nat) (h : k < xs.length) : layAll (xs.take (k + 1)) = layAll (xs.take k) ++ Pk.lay (xs[k]).toNat := by
  unfold layAll
  rw [List.take_succ_eq_append_getElem h, List.flatMap_append]; simp
theorem layAll_nil : layAll [] = [] := rfl
theorem layAll_cons (x : Int) (xs : List Int) : layAll (x :: xs) = Pk.lay x.toNat ++ layAll xs := by simp [layAll]
theorem u63_len {x : Int} (h : Wq.u63 x) : (Pk.lay x.toNat).length ≤ 9 := Pk.lay_len9 (by have := h.1; have := h.2; omega)
theorem layAll_len : ∀ (xs : List Int), (∀ x ∈ xs, Wq.u63 x) → (layAll xs).length ≤ 9 * xs.length
  | [], _ => by simp [layAll]
  | x :: r, h => by
    have := layAll_len r fun y hy => h y (by simp [hy])
    have := u63_len (h x (by simp))
    rw [layAll_cons, List.length_append, List.length_cons]; omega

/-- Bytes handed back in a row of the call's own. -/
def BytesAre (base : Nat) (w : World) (bs : List UInt8) (v : Value) (w' : World) : Prop :=
  ∃ A' c', v = .slice A' bs.length c' ∧ w'.ownsRow base 5 1 (.slice A' bs.length c') bs.length (bv bs) ∧ Below base w w'

set_option maxHeartbeats 2000000 in
/-- wire.lay. -/
theorem lay_any (A A2 : Option Addr) (n c m c2 : Nat) (l : List UInt8) (xs : List Int) (w : World) (hl : l.length = n) (hR : Rd w w.heap.size 1 A n c (bv l)) (hx : xs.length = m) (hR2 : Rd w w.heap.size 1 A2 m c2 (iv xs))
    (hu : ∀ x ∈ xs, Wq.u63 x) (h0 : 0 < m) (hn : n + 9 * m ≤ 140737488355328) :
    Calls Tryd.prog 49 #[.slice A n c, .slice A2 m c2] w fun e w' => ∃ v, e = .returned v ∧ BytesAre w.heap.size w (l ++ layAll xs) v w' := by
  have hmax : m ≤ 9223372036854775807 := by have h1 := hR2.cap; have h2 := hR2.max; unfold maxLen at h2; omega
  have HLA := Lib.hid (layAll_len)
  have HL := Lib.hid hl
  have HX := Lib.hid hx
  have HU := Lib.hid hu
  have HR := Lib.hid hR
  clear hl hu hR
  go_enter Tryd.func49, Tryd.ntmps49
  go_wp2
  go_loopw [0, 6, 9] (fun v0 _ v9 wr => ∃ (k N c' : Nat) (A' : Option Addr), v9 = .int .i64 k ∧ v0 = .slice A' N c' ∧ k ≤ m ∧ N ≤ n + 9 * k ∧ Rd wr wr.heap.size 1 A' N c' (bv (l ++ layAll (xs.take k))) ∧ Below w.heap.size w wr ∧
    Hid ((l ++ layAll (xs.take k)).length = N ∧ (0 < k → wr.ownsRow w.heap.size 5 1 (.slice A' N c') N (bv (l ++ layAll (xs.take k)))))) (fun _ _ v9 _ => m - (intOf v9).toNat)
  case atStart => exact ⟨0, n, c, A, rfl, rfl, by omega, by omega, by simpa [layAll] using HR.out, Below.refl _ _, by simp [layAll, HL.out], fun h => absurd h (by omega)⟩
  case round =>
    obtain ⟨k, N, c', A', rfl, rfl, hk, hN, hR1, hb, hq⟩ := hrel
    have hbs := hb.size
    by_cases hlt : k < m
    · have hkx : k < xs.length := by rw [HX.out]; exact hlt
      obtain ⟨ad, u, rfl, hab, hu1, hc1⟩ := hR2.at_ hlt
      rw [iv_at xs k hkx] at hu1
      obtain ⟨y, hy⟩ : ∃ y : Nat, xs[k] = (y : Int) := ⟨xs[k].toNat, by have := (HU.out _ (List.getElem_mem hkx)).1; omega⟩
      have hylt : y < 9223372036854775808 := by have := (HU.out _ (List.getElem_mem hkx)).2; omega
      have hy9 := Pk.lay_len9 hylt
      have ht := layAll_take xs k hkx
      rw [hy, Int.toNat_natCast] at ht
      have HT := Lib.hid ht
      rw [hy] at hu1
      simp only [Option.some.injEq] at hu1
      subst hu1
      have q1 := (hb.cell (p := ad.add k) (by rw [block_of_add]; exact hab)).trans hc1
      have G := Lib.hid (appendNumber_any A' N c' y (l ++ layAll (xs.take k)) wr hq.out.1 hR1 (by omega) hy9)
      have HY9 := Lib.hid hy9
      obtain ⟨ly, hly⟩ : ∃ ly, ly = (Pk.lay y).length := ⟨_, rfl⟩
      rw [← hly] at G hy9
      have HLY := Lib.hid hly
      clear hR1 ht hy hkx hylt hly hc1 hR2
      go_wp2_with fail
      refine G.out.mono ?_
      rintro e w2 ⟨A2, c3, rfl, ho2, hb2⟩
      go_wp2
      go_roundw
      case rel =>
        have e1 : l ++ layAll (xs.take (k + 1)) = l ++ layAll (xs.take k) ++ Pk.lay y := by rw [HT.out, List.append_assoc]
        refine ⟨k + 1, N + ly, c3, A2, by go_num, rfl, by omega, by omega, by rw [e1]; exact Rd.of_own ho2, below_then hb (Nat.le_refl _) hb2, ?_, fun _ => ?_⟩
        · rw [e1, List.length_append, hq.out.1, HLY.out]
        · rw [e1]; exact own_less ho2 hbs
      case measure => simp [intOf]; omega
    · obtain rfl : k = m := by omega
      clear hR1 hR2
      go_wp2
      go_ret
      have e0 : xs.take k = xs := List.take_of_length_le (by rw [HX.out]; exact Nat.le_refl _)
      obtain ⟨q1, q2⟩ := hq.out
      have q3 := q2 h0
      rw [e0] at q1 q3
      exact ⟨_, rfl, A', c', by rw [q1]; rfl, by rw [q1]; exact q3, hb⟩

theorem appendSet_no (A D : Option Addr) (n c m d : Nat) (sp : List Sn.Sp) (w : World) (hl2 : sp.length = m) (hR2 : Rd w w.heap.size 2 D m d (sv sp)) (hf : Sn.fmS (-2) sp = false) :
    Calls Tryd.prog 21 #[.slice A n c, .slice D m d] w fun e w' => e = .returned (.tuple #[.slice none 0 0, .int .i64 1]) ∧ Below w.heap.size w w' := by
  have H1 := formedS_any D m d sp w hl2 hR2
  rw [hf] at H1
  have G1 := Lib.hid H1
  clear H1 hR2 hl2
  go_enter Tryd.func21, Tryd.ntmps21
  go_wp2_with fail
  refine G1.out.mono ?_
  rintro e w1 ⟨rfl, hb1⟩
  go_wp2
  go_ret2
  exact ⟨rfl, hb1⟩

theorem lS_take (sp : List Sn.Sp) (k : Nat) (h : k < sp.length) : Wq.lP (sp.take (k + 1)) = Wq.lP (sp.take k) ++ layAll [sp[k].1, sp[k].2] := by
  unfold Wq.lP
  rw [List.take_succ_eq_append_getElem h, List.flatMap_append]; simp [layAll]

set_option maxHeartbeats 4000000 in
/-- wire.AppendSet. -/
theorem appendSet_any (A D : Option Addr) (n c m d : Nat) (l : List UInt8) (sp : List Sn.Sp) (w : World) (hl : l.length = n) (hR : Rd w w.heap.size 1 A n c (bv l)) (hl2 : sp.length = m) (hR2 : Rd w w.heap.size 2 D m d (sv sp)) (hf : Sn.fmS (-2) sp = true) (hn : n + 2400 ≤ 140737488355328) :
    Calls Tryd.prog 21 #[.slice A n c, .slice D m d] w fun e w' => ∃ v, e = .returned (.tuple #[v, .int .i64 0]) ∧ BytesAre w.heap.size w (l ++ Wq.lS sp) v w' := by
  have H1 := formedS_any D m d sp w hl2 hR2
  rw [hf] at H1
  have G1 := Lib.hid H1
  have hm := Sn.fmS_128 hf
  rw [hl2] at hm
  have HU := Lib.hid (Wq.fmS_u63 hf)
  have HL2 := Lib.hid hl2
  have HR := Lib.hid hR
  have HL := Lib.hid hl
  have hum : Wq.u63 (m : Int) := ⟨by omega, by omega⟩
  have h1max : 1 ≤ maxLen := by unfold maxLen; omega
  have h2max : 2 ≤ maxLen := by unfold maxLen; omega
  clear H1 hl2 hR hl hf
  go_enter Tryd.func21, Tryd.ntmps21
  go_wp2_with fail
  refine G1.out.mono ?_
  rintro e w1 ⟨rfl, hb1⟩
  have hs1 := hb1.size
  have hbA : Below w.heap.size w (w1.alloc (.cells #[.int .i64 m] 3)) := hb1.alloc hs1 _
  have hRn := Rd.new w1 3 1 1 #[.int .i64 m] rfl h1max
  have hRb := HR.out.go hbA
  have G2 := Lib.hid (lay_any A (some ⟨w1.heap.size, 0, none⟩) n c 1 1 l [(m : Int)] (w1.alloc (.cells #[.int .i64 m] 3)) HL.out hRb rfl (by rw [World.size_alloc]; exact hRn) (by simpa using hum) (by omega) (by omega))
  clear G1 hRn hRb hb1
  go_wp2_with fail
  refine G2.out.mono ?_
  rintro e w2 ⟨v2, rfl, A2, c2, rfl, ho2, hb2⟩
  have hbw2 := below_then hbA (Nat.le_refl _) hb2
  have HHL := Lib.hid (show (l ++ layAll [(m : Int)]).length ≤ n + 9 by
    rw [List.length_append, HL.out]
    have := layAll_len [(m : Int)] (by simpa using hum)
    simp at this; omega)
  obtain ⟨l2, hl2⟩ : ∃ l2, l2 = l ++ layAll [(m : Int)] := ⟨_, rfl⟩
  rw [← hl2] at ho2 HHL
  obtain ⟨n2, hn2⟩ : ∃ n2, n2 = l2.length := ⟨_, rfl⟩
  rw [← hn2] at ho2 HHL
  have hn2le := HHL.out
  have HL22 := Lib.hid hl2
  have HN2 := Lib.hid hn2
  rw [← hl2, ← hn2]
  clear G2 hb2 hbA hl2 hn2
  go_wp2_with fail
  go_loopw [6, 8, 19] (fun v6 _ v19 wr => ∃ (k N c' : Nat) (A' : Option Addr), v19 = .int .i64 k ∧ v6 = .slice A' N c' ∧ k ≤ m ∧ N ≤ n2 + 18 * k ∧ wr.ownsRow w.heap.size 5 1 (.slice A' N c') N (bv (l2 ++ Wq.lP (sp.take k))) ∧ Below w.heap.size w wr ∧
    Hid ((l2 ++ Wq.lP (sp.take k)).length = N)) (fun _ _ v19 _ => m - (intOf v19).toNat)
  case atStart => exact ⟨0, n2, c2, A2, rfl, rfl, by omega, by omega, by simpa [Wq.lP] using own_less ho2 (by simp; omega), hbw2, by show _ = _; simp [Wq.lP, HN2.out]⟩
  case round =>
    obtain ⟨k, N, c', A', rfl, rfl, hk, hN, ho, hb, hq⟩ := hrel
    have hbs := hb.size
    have HO := Lib.hid ho
    by_cases hlt : k < m
    · have hks : k < sp.length := by rw [HL2.out]; exact hlt
      obtain ⟨b, o, rfl, hab, g0, g1⟩ := hR2.stamp HL2.out hlt
      have h0 := (hb.cell (p := ⟨b, o + k * 2, none⟩) hab).trans g0
      have h1 := (hb.cell (p := ⟨b, o + k * 2 + 1, none⟩) hab).trans g1
      have HT := Lib.hid (lS_take sp k hks)
      have HUk := Lib.hid (HU.out _ (List.getElem_mem hks))
      generalize hlo : (sp[k]'hks).1 = lo at h0 g0 HT HUk
      generalize hhi : (sp[k]'hks).2 = hi at h1 g1 HT HUk
      have hbA : Below w.heap.size w ((wr.alloc (.cells #[.int .i64 lo, .int .i64 hi] 97)).alloc (.cells #[.int .i64 lo, .int .i64 hi] 3)) := (hb.alloc hbs _).alloc (by simp; omega) _
      have hRn := Rd.new (wr.alloc (.cells #[.int .i64 lo, .int .i64 hi] 97)) 3 1 2 #[.int .i64 lo, .int .i64 hi] rfl h2max
      have hRb := ((Rd.of_own ho).alloc (Nat.le_refl _) (.cells #[.int .i64 lo, .int .i64 hi] 97)).alloc (by simp) (.cells #[.int .i64 lo, .int .i64 hi] 3)
      have hu2 : ∀ x ∈ [lo, hi], Wq.u63 x := by
        intro x hx
        simp only [List.mem_cons, List.not_mem_nil, or_false] at hx
        rcases hx with rfl | rfl
        · exact HUk.out.1
        · exact HUk.out.2
      have G3 := Lib.hid (lay_any A' (some ⟨wr.heap.size + 1, 0, none⟩) N c' 2 2 (l2 ++ Wq.lP (sp.take k)) [lo, hi] _ hq.out (hRb.more (by simp; omega)) rfl (by rw [World.size_alloc] at hRn; rw [World.size_alloc, World.size_alloc]; exact hRn) hu2 (by omega) (by omega))
      have HE := Lib.hid (layAll_len [lo, hi] hu2)
      have HBA := Lib.hid hbA
      clear hlo hhi ho hRn hRb hu2 hks hb hbA g0 g1 hR2 HUk
      go_wp2_with fail
      refine G3.out.mono ?_
      rintro e w3 ⟨v3, rfl, A3, c3, rfl, ho3, hb3⟩
      have hb4 := below_then HBA.out (Nat.le_refl _) hb3
      have e1 : l2 ++ Wq.lP (sp.take k) ++ layAll [lo, hi] = l2 ++ Wq.lP (sp.take (k + 1)) := by rw [HT.out, List.append_assoc]
      have hlen : (l2 ++ Wq.lP (sp.take k) ++ layAll [lo, hi]).length ≤ N + 18 := by
        have := HE.out
        rw [List.length_append, hq.out]; simp at this; omega
      obtain ⟨N3, hN3⟩ : ∃ N3, N3 = (l2 ++ Wq.lP (sp.take k) ++ layAll [lo, hi]).length := ⟨_, rfl⟩
      rw [← hN3] at ho3 hlen ⊢
      rw [e1] at hN3 ho3
      have HN3 := Lib.hid hN3
      clear G3 hb3 e1 hN3
      go_wp2
      go_roundw
      case rel =>
        exact ⟨k + 1, N3, c3, A3, by go_num, rfl, by omega, by omega, own_less ho3 (by simp; omega), hb4, HN3.out.symm⟩
      case measure => simp [intOf]; omega
    · obtain rfl : k = m := by omega
      clear hR2 ho
      go_wp2
      go_ret2
      have e0 : sp.take k = sp := List.take_of_length_le (by rw [HL2.out]; exact Nat.le_refl _)
      have q1 := hq.out
      have q3 := HO.out
      rw [e0, HL22.out] at q1 q3
      have e2 : l ++ layAll [(k : Int)] ++ Wq.lP sp = l ++ Wq.lS sp := by
        unfold Wq.lS; rw [HL2.out]; simp [layAll]
      rw [e2] at q1 q3
      exact ⟨_, rfl, A', c', by rw [q1]; rfl, by rw [q1]; exact q3, hb⟩
end Go.Proofs.YtndlcimckfndiaaDoor

namespace Go.Proofs.YtndlcimckfndiaaDoor
open Go.RowKit
set_option maxRecDepth 100000

/-- Two rows of the call's own, the one made behind the other. -/
theorem own_apart {w : World} {base size n : Nat} {e : TypeId} {v v' : Value} {xs : List Value} (h : w.ownsRow base e size v n xs) (hlt : ∀ k, v'.ownBlock = some k → k < base) : v.ownBlock = none ∨ v.ownBlock ≠ v'.ownBlock := by
  rcases hv : v.ownBlock with _ | k
  · exact .inl rfl
  · refine .inr fun e => ?_
    have h1 := (h.lt k hv).1
    have h2 := hlt k e.symm
    omega

set_option maxHeartbeats 8000000 in
theorem refSetBytes_any (D : Option Addr) (m d : Nat) (sp : List Sn.Sp) (w : World) (hl2 : sp.length = m) (hR2 : Rd w w.heap.size 2 D m d (sv sp)) (hf : Sn.fmS (-2) sp = true) :
    Calls Tryd.prog 20 #[.slice D m d] w fun e w' => ∃ v, e = .returned v ∧ BytesAre w.heap.size w (Wq.lS sp) v w' := by
  obtain ⟨i0, hi0, hz0, hz1, hz2⟩ := info_parts u8_info
  have hm := Sn.fmS_128 hf
  rw [hl2] at hm
  have HU := Lib.hid (Wq.fmS_u63 hf)
  have HL2 := Lib.hid hl2
  have G1 := Lib.hid (refBytes_any m w (by omega))
  obtain ⟨n2, hn2⟩ : ∃ n2, n2 = (Pk.lay m).length := ⟨_, rfl⟩
  have hn9 : n2 ≤ 9 := by rw [hn2]; exact Pk.lay_len9 (by omega)
  rw [← hn2] at G1
  have HN2 := Lib.hid hn2
  clear hl2 hf hn2
  go_enter Tryd.func20, Tryd.ntmps20
  go_wp2_with fail
  refine G1.out.mono ?_
  rintro e w1 ⟨A2, c2, rfl, ho2, hb1⟩
  clear G1
  go_wp2_with fail
  go_loopw [3, 4] (fun v6 v19 wr => ∃ (k N c' : Nat) (A' : Option Addr), v19 = .int .i64 k ∧ v6 = .slice A' N c' ∧ k ≤ m ∧ N ≤ n2 + 18 * k ∧ wr.ownsRow w.heap.size 5 1 (.slice A' N c') N (bv (Pk.lay m ++ Wq.lP (sp.take k))) ∧ Below w.heap.size w wr ∧
    Hid ((Pk.lay m ++ Wq.lP (sp.take k)).length = N)) (fun _ v19 _ => m - (intOf v19).toNat)
  case atStart => exact ⟨0, n2, c2, A2, rfl, rfl, by omega, by omega, by simpa [Wq.lP] using ho2, hb1, by show _ = _; simp [Wq.lP, HN2.out]⟩
  case round =>
    obtain ⟨k, N, c', A', rfl, rfl, hk, hN, ho, hb, hq⟩ := hrel
    by_cases hlt : k < m
    · have hks : k < sp.length := by rw [HL2.out]; exact hlt
      obtain ⟨b, o, rfl, hab, g0, g1⟩ := hR2.stamp HL2.out hlt
      have HT := Lib.hid (lS_take sp k hks)
      have HUk := Lib.hid (HU.out _ (List.getElem_mem hks))
      generalize (sp[k]'hks).1 = lo at g0 HT HUk
      generalize (sp[k]'hks).2 = hi at g1 HT HUk
      obtain ⟨x, hx⟩ : ∃ x : Nat, lo = (x : Int) := ⟨lo.toNat, by have := HUk.out.1.1; omega⟩
      obtain ⟨y, hy⟩ : ∃ y : Nat, hi = (y : Int) := ⟨hi.toNat, by have := HUk.out.2.1; omega⟩
      subst hx hy
      have hx9 := u63_len HUk.out.1
      have hy9 := u63_len HUk.out.2
      rw [Int.toNat_natCast] at hx9 hy9
      have G2 := Lib.hid fun W => refBytes_any x W (by have := HUk.out.1.2; omega)
      have G3 := Lib.hid fun W => refBytes_any y W (by have := HUk.out.2.2; omega)
      obtain ⟨lx, hlx⟩ : ∃ lx, lx = (Pk.lay x).length := ⟨_, rfl⟩
      obtain ⟨ly, hly⟩ : ∃ ly, ly = (Pk.lay y).length := ⟨_, rfl⟩
      rw [← hlx] at G2 hx9
      rw [← hly] at G3 hy9
      have HLX := Lib.hid hlx
      have HLY := Lib.hid hly
      have HS := Lib.hid fun W (hb : Below w.heap.size w W) => (show (W.cell? ⟨b, o + k * 2, none⟩ = some (.int .i64 (x : Int)) ∧ W.cell? ⟨b, o + k * 2 + 1, none⟩ = some (.int .i64 (y : Int))) from
        ⟨(hb.cell (p := ⟨b, o + k * 2, none⟩) hab).trans g0, (hb.cell (p := ⟨b, o + k * 2 + 1, none⟩) hab).trans g1⟩)
      obtain ⟨l2, hl2⟩ : ∃ l2, l2 = Pk.lay m ++ Wq.lP (sp.take k) := ⟨_, rfl⟩
      rw [← hl2] at ho hq
      have HL := Lib.hid hl2
      have E := Lib.hid (show wr.drew.ownsRow w.heap.size 5 1 (.slice A' N c') N (bv l2) from ho)
      have kw : Below w.heap.size w wr.drew := hb.drew
      have h63 : N + lx ≤ maxLen := by unfold maxLen; omega
      have h63b : N + lx + ly ≤ maxLen := by unfold maxLen; omega
      clear ho hb hlx hly hks g0 g1 hl2 hR2
      go_wp2_with fail
      refine region_nrm fun KK hKK => ?_
      refine wp_region_held_drew (S := (fun W => W.cell? ⟨b, o + k * 2, none⟩ = some (.int .i64 (x : Int)) ∧ W.cell? ⟨b, o + k * 2 + 1, none⟩ = some (.int .i64 (y : Int)))) (by kernel_rfl) (by first | exact HS.out _ kw) (fun hHeld => ?_)
      refine wpAnyH_putD (i := 0) (d := 14) (v := ?_) rfl rfl (by kernel_rfl) (by kernel_rfl) (by kernel_rfl) (fun _ _ _ h => h) (Or.inl ⟨by kernel_rfl, ?_⟩) (by first | exact HS.out _ kw) ?_
      rotate_left
      · (intro w hS; (try dsimp only at hS); go_simp <;> with_reducible rfl)
      try simp only [List.setIfInBounds_toArray, List.set_cons_zero, List.set_cons_succ]
      refine wpAnyH_putD (i := 1) (d := 15) (v := ?_) rfl rfl (by kernel_rfl) (by kernel_rfl) (by kernel_rfl) (fun _ _ _ h => h) (Or.inl ⟨by kernel_rfl, ?_⟩) (by first | exact HS.out _ kw) ?_
      rotate_left
      · (intro w hS; (try dsimp only at hS); go_simp <;> with_reducible rfl)
      try simp only [List.setIfInBounds_toArray, List.set_cons_zero, List.set_cons_succ]
      refine wpAnyH_putD (i := 2) (d := 16) (v := ?_) rfl rfl (by kernel_rfl) (by kernel_rfl) (by kernel_rfl) (fun _ _ _ h => h) (Or.inl ⟨by kernel_rfl, ?_⟩) (by first | exact HS.out _ kw) ?_
      rotate_left
      · (intro w hS; (try dsimp only at hS); go_simp <;> with_reducible rfl)
      try simp only [List.setIfInBounds_toArray, List.set_cons_zero, List.set_cons_succ]
      refine wpAnyH_putD (i := 3) (d := 17) (v := ?_) rfl rfl (by kernel_rfl) (by kernel_rfl) (by kernel_rfl) (fun _ _ _ h => h) (Or.inl ⟨by kernel_rfl, ?_⟩) (by first | exact HS.out _ kw) ?_
      rotate_left
      · (intro w hS; (try dsimp only at hS); go_simp <;> with_reducible rfl)
      try simp only [List.setIfInBounds_toArray, List.set_cons_zero, List.set_cons_succ]
      refine wpAnyH_putD (i := 4) (d := 18) (v := ?_) rfl rfl (by kernel_rfl) (by kernel_rfl) (by kernel_rfl) (fun _ _ _ h => h) (Or.inl ⟨by kernel_rfl, ?_⟩) (by first | exact HS.out _ kw) ?_
      rotate_left
      · (intro w hS; (try dsimp only at hS); go_simp <;> with_reducible rfl)
      try simp only [List.setIfInBounds_toArray, List.set_cons_zero, List.set_cons_succ]
      refine wpAnyH_putD (i := 5) (d := 19) (v := ?_) rfl rfl (by kernel_rfl) (by kernel_rfl) (by kernel_rfl) (fun _ _ _ h => h) (Or.inl ⟨by kernel_rfl, ?_⟩) (by first | exact HS.out _ kw) ?_
      rotate_left
      · (intro w hS; (try dsimp only at hS); go_simp <;> with_reducible rfl)
      try simp only [List.setIfInBounds_toArray, List.set_cons_zero, List.set_cons_succ]
      refine wpAnyH_putD (i := 8) (d := 22) (v := ?_) rfl rfl (by kernel_rfl) (by kernel_rfl) (by kernel_rfl) (fun _ _ _ h => h) (Or.inl ⟨by kernel_rfl, ?_⟩) (by first | exact HS.out _ kw) ?_
      rotate_left
      · (intro w hS; (try dsimp only at hS); go_simp <;> with_reducible rfl)
      try simp only [List.setIfInBounds_toArray, List.set_cons_zero, List.set_cons_succ]
      refine wpAnyH_putD (i := 9) (d := 23) (v := ?_) rfl rfl (by kernel_rfl) (by kernel_rfl) (by kernel_rfl) (fun _ _ _ h => h) (Or.inl ⟨by kernel_rfl, ?_⟩) (by first | exact HS.out _ kw) ?_
      rotate_left
      · (intro w hS; (try dsimp only at hS); go_simp <;> with_reducible rfl)
      try simp only [List.setIfInBounds_toArray, List.set_cons_zero, List.set_cons_succ]
      refine wpAnyH_putD (i := 10) (d := 24) (v := ?_) rfl rfl (by kernel_rfl) (by kernel_rfl) (by kernel_rfl) (fun _ _ _ h => h) (Or.inl ⟨by kernel_rfl, ?_⟩) (by first | exact HS.out _ kw) ?_
      rotate_left
      · (intro w hS; (try dsimp only at hS); go_simp <;> with_reducible rfl)
      try simp only [List.setIfInBounds_toArray, List.set_cons_zero, List.set_cons_succ]
      refine wpAnyH_putD (i := 11) (d := 25) (v := ?_) rfl rfl (by kernel_rfl) (by kernel_rfl) (by kernel_rfl) (fun _ _ _ h => h) (Or.inl ⟨by kernel_rfl, ?_⟩) (by first | exact HS.out _ kw) ?_
      rotate_left
      · (intro w hS; (try dsimp only at hS); go_simp <;> with_reducible rfl)
      try simp only [List.setIfInBounds_toArray, List.set_cons_zero, List.set_cons_succ]
      refine wpAnyH_putD (i := 12) (d := 26) (v := ?_) rfl rfl (by kernel_rfl) (by kernel_rfl) (by kernel_rfl) (fun _ _ _ h => h) (Or.inl ⟨by kernel_rfl, ?_⟩) (by first | exact HS.out _ kw) ?_
      rotate_left
      · (intro w hS; (try dsimp only at hS); go_simp <;> with_reducible rfl)
      try simp only [List.setIfInBounds_toArray, List.set_cons_zero, List.set_cons_succ]
      refine wpAnyH_ready (rs := [6]) (by kernel_rfl) (by simp) ?_
      refine AllReadyH.cons rfl (fun K hK => ?_) AllReadyH.nil
      go_simp
      refine (G2.out _).mono ?_
      rintro e W1 ⟨D1, d1, rfl, ho1, hb'⟩
      have C := Lib.hid ho1
      have E := Lib.hid (own_below E.out hb' (Nat.le_refl _))
      have kw := below_then kw (Nat.le_refl _) hb'
      clear ho1 hb'
      refine hK.out _ _ (by first | exact HS.out _ kw) (fun hHeld => ?_)
      clear hK K
      refine wpAnyH_ready (rs := [7]) (by kernel_rfl) (by simp) ?_
      refine AllReadyH.cons rfl (fun K hK => ?_) AllReadyH.nil
      rw [if_pos (by kernel_rfl)]
      refine wp_append_rd _ (.tmp 14) (.tmp 20) _ rfl w.heap.size 5 i0 _ 1 1 Tryd.underlying23 hi0 hz0 hz1 hz2 rfl (by decide) _ N (bv l2) rfl E.out _ D1 lx d1 (bv (Pk.lay x)) rfl (Rd.of_own C.out) (bv_oneCell _) h63 (by omega) kw.size ?_
      intro A14 c14 V14 ho hg hat
      have kw := kw.trans (grown_below hg kw.size (fun g hg' => (E.out.lt g hg').1))
      have E := Lib.hid ho
      clear ho hg hat C
      refine hK.out _ _ (by first | exact HS.out _ kw) (fun hHeld => ?_)
      clear hK K
      refine wpAnyH_ready (rs := [13]) (by kernel_rfl) (by simp) ?_
      refine AllReadyH.cons rfl (fun K hK => ?_) AllReadyH.nil
      go_simp
      refine (G3.out _).mono ?_
      rintro e W2 ⟨D2, d2, rfl, ho1, hb'⟩
      have C := Lib.hid ho1
      have E := Lib.hid (own_below E.out hb' (Nat.le_refl _))
      have kw := below_then kw (Nat.le_refl _) hb'
      clear ho1 hb'
      refine hK.out _ _ (by first | exact HS.out _ kw) (fun hHeld => ?_)
      clear hK K
      refine wpAnyH_ready (rs := [14]) (by kernel_rfl) (by simp) ?_
      refine AllReadyH.cons rfl (fun K hK => ?_) AllReadyH.nil
      rw [if_pos (by kernel_rfl)]
      refine wp_append_rd _ (.tmp 21) (.tmp 27) _ rfl w.heap.size 5 i0 _ 1 1 Tryd.underlying23 hi0 hz0 hz1 hz2 rfl (by decide) _ (N + lx) (bv l2 ++ bv (Pk.lay x)) rfl E.out _ D2 ly d2 (bv (Pk.lay y)) rfl (Rd.of_own C.out) (bv_oneCell _) h63b (by omega) kw.size ?_
      intro A21 c21 V21 ho hg hat
      have kw := kw.trans (grown_below hg kw.size (fun g hg' => (E.out.lt g hg').1))
      have E := Lib.hid ho
      clear ho hg hat C
      refine hK.out _ _ (by first | exact HS.out _ kw) (fun hHeld => ?_)
      clear hK K
      refine wpAnyH_putD (i := 15) (d := 3) (v := ?_) rfl rfl (by kernel_rfl) (by kernel_rfl) (by kernel_rfl) (fun _ _ _ h => h) (Or.inl ⟨by kernel_rfl, ?_⟩) (by first | exact HS.out _ kw) ?_
      rotate_left
      · (intro w hS; (try dsimp only at hS); go_simp <;> with_reducible rfl)
      try simp only [List.setIfInBounds_toArray, List.set_cons_zero, List.set_cons_succ]
      refine wpAnyH_done (by kernel_rfl) ?_ _
      refine Nrm.out (hKK _ _ ?_)
      go_wp2
      go_roundw
      case rel =>
        have e3 : Pk.lay m ++ Wq.lP (sp.take (k + 1)) = l2 ++ Pk.lay x ++ Pk.lay y := by rw [HT.out, HL.out]; simp [layAll]
        refine ⟨k + 1, N + lx + ly, c21, A21, by go_num, rfl, by omega, by omega, ?_, kw, ?_⟩
        · rw [e3, bv_app, bv_app]; exact E.out
        · show _ = _
          rw [e3, List.length_append, List.length_append, hq.out, HLX.out, HLY.out]
      case measure => simp [intOf]; omega
    · obtain rfl : k = m := by omega
      have HO := Lib.hid ho
      clear hR2 ho
      go_wp2
      go_ret
      have e0 : sp.take k = sp := List.take_of_length_le (by rw [HL2.out]; exact Nat.le_refl _)
      have q1 := hq.out
      have q3 := HO.out
      rw [e0] at q1 q3
      have e2 : Pk.lay k ++ Wq.lP sp = Wq.lS sp := by unfold Wq.lS; rw [HL2.out]
      rw [e2] at q1 q3
      exact ⟨_, rfl, A', c', by rw [q1]; rfl, by rw [q1]; exact q3, hb⟩
end Go.Proofs.YtndlcimckfndiaaDoor
