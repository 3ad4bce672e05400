/- Walks over the readers of wire and of the document: numbers. -/
import Derived.Test.YtndlcimckfndiaaDoorPackE
import Derived.Test.YtndlcimckfndiaaDoorWr0
import Derived.Test.YtndlcimckfndiaaDoorBut
import Derived.Test.YtndlcimckfndiaaDoorReg
import Derived.BigRegion
namespace Go.Proofs.YtndlcimckfndiaaDoor
open Go.RowKit
set_option maxRecDepth 100000

/-- What a reader says next, and what is left of it (none: it gave up). -/
def numV : Option (List UInt8) → Nat
  | none => 0
  | some l => match Wq.pN l with | none => 0 | some (x, _) => x
def numS : Option (List UInt8) → Option (List UInt8)
  | none => none
  | some l => match Wq.pN l with | none => none | some (_, r) => some r
theorem numV_some {l r : List UInt8} {x : Nat} (h : Wq.pN l = some (x, r)) : numV (some l) = x := by simp only [numV, h]
theorem numS_some {l r : List UInt8} {x : Nat} (h : Wq.pN l = some (x, r)) : numS (some l) = some r := by simp only [numS, h]
theorem numV_no {l : List UInt8} (h : Wq.pN l = none) : numV (some l) = 0 := by simp only [numV, h]
theorem numS_no {l : List UInt8} (h : Wq.pN l = none) : numS (some l) = none := by simp only [numS, h]
theorem numV_lt (s : Option (List UInt8)) : numV s < 9223372036854775808 := by
  cases s with
  | none => show 0 < _; omega
  | some l =>
    unfold numV
    simp only
    split
    · omega
    · rename_i x r h; exact (Wq.pN_back h).2

/-- The reader of wire in memory: block g; T bytes in all. -/
def PR (w : World) (g T : Nat) : Option (List UInt8) → Prop
  | some l => ∃ A n c, Blk w g 90 #[.slice A n c, .int .i64 (((T - l.length : Nat)) : Int), .bool false] ∧ Rd w g 1 A n c (bv l) ∧ l.length = n ∧ l.length ≤ T ∧ T ≤ maxLen
  | none => ∃ A n c k, Blk w g 90 #[.slice A n c, .int .i64 k, .bool true]

theorem PR.lt {w : World} {g T : Nat} {s : Option (List UInt8)} (h : PR w g T s) : g < w.heap.size := by
  cases s with
  | none => obtain ⟨A, n, c, k, h⟩ := h; exact h.lt
  | some l => obtain ⟨A, n, c, h, _⟩ := h; exact h.lt
theorem PR.go {w w' : World} {g T : Nat} {s : Option (List UInt8)} (h : PR w g T s) (hb : Below w.heap.size w w') : PR w' g T s := by
  cases s with
  | none => obtain ⟨A, n, c, k, h⟩ := h; exact ⟨A, n, c, k, h.go hb⟩
  | some l => obtain ⟨A, n, c, h, h2, h3⟩ := h; exact ⟨A, n, c, h.go hb, h2.below (hb.mono (Nat.le_of_lt h.lt)), h3⟩
theorem PR.below {w w' : World} {g T B : Nat} {s : Option (List UInt8)} (h : PR w g T s) (hb : Below B w w') (hg : g < B) : PR w' g T s := by
  cases s with
  | none => obtain ⟨A, n, c, k, h⟩ := h; exact ⟨A, n, c, k, h.below hb hg⟩
  | some l => obtain ⟨A, n, c, h, h2, h3⟩ := h; exact ⟨A, n, c, h.below hb hg, h2.below (hb.mono (by omega)), h3⟩
theorem PR.but {w w' : World} {g q T : Nat} {s : Option (List UInt8)} (h : PR w g T s) (hb : But q w w') (hq : g < q) : PR w' g T s := by
  cases s with
  | none => obtain ⟨A, n, c, k, h⟩ := h; exact ⟨A, n, c, k, h.but hb (by omega)⟩
  | some l => obtain ⟨A, n, c, h, h2, h3⟩ := h; exact ⟨A, n, c, h.but hb (by omega), h2.but hb (Nat.le_of_lt h.lt) (by omega), h3⟩

set_option maxHeartbeats 1000000 in
/-- took, where there was no error. -/
theorem took_ok (g k n c : Nat) (A : Option Addr) (z : Int) (w : World) (hB : Blk w g 90 #[.slice A n c, .int .i64 z, .bool false]) (hk : k ≤ n) (h0 : 0 ≤ z) (hz : z + k ≤ 9223372036854775807) :
    Calls Tryd.prog 83 #[.pointer (some ⟨g, 0, none⟩), .int .i64 k, .int .i64 0] w fun e w' => e = .returned (.bool true) ∧
      Blk w' g 90 #[.slice (cutAt 1 A c k) (n - k) (c - k), .int .i64 (z + k), .bool false] ∧ But g w w' := by
  have hs := fun W => run_from (P := Tryd.prog) W 23 5 1 Tryd.underlying23 size_u8 A n c .i64 k k rfl hk
  have f0 := hB.frozen 0
  have c0 := hB.cell 0
  have f1 := hB.frozen 1
  have c1 := hB.cell 1
  have HB := Lib.hid hB
  clear hB
  go_enter Tryd.func83, Tryd.ntmps83
  go_wp2
  go_region
  go_wp2
  go_ret
  exact ⟨rfl, ((HB.out.set_ 0 (.slice (cutAt 1 A c k) (n - k) (c - k))).set_ 1 (.int .i64 (z + k))), ((But.set_ w (p := ⟨g, 0, none⟩) rfl _).trans (But.set_ _ (p := ⟨g, 1, none⟩) rfl _)).trans (But.drew _)⟩
set_option maxHeartbeats 1000000 in
/-- took, where there was an error. -/
theorem took_bad (g : Nat) (v z : Value) (k er : Int) (w : World) (hB : Blk w g 90 #[v, z, .bool false]) (he : er ≠ 0) :
    Calls Tryd.prog 83 #[.pointer (some ⟨g, 0, none⟩), .int .i64 k, .int .i64 er] w fun e w' => e = .returned (.bool false) ∧
      Blk w' g 90 #[v, z, .bool true] ∧ But g w w' := by
  have f2 := hB.frozen 2
  have c2 := hB.cell 2
  have HB := Lib.hid hB
  clear hB
  go_enter Tryd.func83, Tryd.ntmps83
  go_wp2
  go_ret
  exact ⟨rfl, HB.out.set_ 2 (.bool true), But.set_ w (p := ⟨g, 2, none⟩) rfl _⟩

set_option maxHeartbeats 1000000 in
/-- The reader's next number. -/
theorem rdNum_any (g T : Nat) (s : Option (List UInt8)) (w : World) (h : PR w g T s) :
    Calls Tryd.prog 51 #[.pointer (some ⟨g, 0, none⟩)] w fun e w' => e = .returned (.int .i64 (numV s)) ∧ PR w' g T (numS s) ∧ But g w w' := by
  rcases s with _ | l
  · have h' := h
    obtain ⟨A, n, c, k, hB⟩ := h
    have c2 := hB.cell 2
    have H := Lib.hid h'
    clear hB h'
    go_enter Tryd.func51, Tryd.ntmps51
    go_wp2
    go_ret
    exact ⟨rfl, H.out, But.refl _ _⟩
  · obtain ⟨A, n, c, hB, hR, hl, hT, hm⟩ := h
    obtain ⟨x, k, er, hx⟩ : ∃ x k er, Pk.num l 0 l = (x, k, er) := ⟨_, _, _, rfl⟩
    have H1 := Lib.hid (number_is hx hl (hR.more (Nat.le_of_lt hB.lt)))
    have c0 := hB.cell 0
    have c2 := hB.cell 2
    unfold maxLen at hm
    by_cases he : er = 0
    · subst he
      obtain ⟨b1, b2, b3, b4, b5⟩ := Pk.num_back hx
      have hp := Wq.pN_some hx
      have hv : numV (some l) = x := by simp only [numV, hp]
      have hss : numS (some l) = some (l.drop k) := by simp only [numS, hp]
      rw [hv, hss]
      have H2 := Lib.hid (took_ok g k n c A ((T - l.length : Nat) : Int) w hB (by omega) (by omega) (by omega))
      have HR := Lib.hid (hR.from_ (k := k) (by omega))
      have HE := Lib.hid (show (((T - l.length : Nat) : Int) + k) = ((T - (l.drop k).length : Nat) : Int) by rw [List.length_drop]; omega)
      have HL := Lib.hid (show (l.drop k).length = n - k by rw [List.length_drop]; omega)
      have HM := Lib.hid (show (l.drop k).length ≤ T by rw [List.length_drop]; omega)
      clear hR hl hx hp hv hss b1 b2 b3 b4 b5 hT
      go_enter Tryd.func51, Tryd.ntmps51
      go_wp2_with fail
      refine H1.out.mono ?_
      rintro e w1 ⟨rfl, rfl⟩
      go_wp2_with fail
      refine H2.out.mono ?_
      rintro e w2 ⟨rfl, hB2, hb2⟩
      go_wp2
      go_ret
      have h2 := HR.out
      rw [Nat.mul_one, ← bv_drop] at h2
      rw [HE.out] at hB2
      exact ⟨rfl, ⟨_, _, _, hB2, (h2.but hb2 (Nat.le_of_lt hB.lt) (Nat.le_refl _)), HL.out, HM.out, by unfold maxLen; exact hm⟩, hb2⟩
    · have hp := Wq.pN_none hx he
      have hv : numV (some l) = 0 := by simp only [numV, hp]
      have hss : numS (some l) = none := by simp only [numS, hp]
      rw [hv, hss]
      have he2 : (er : Int) ≠ 0 := by omega
      have hx0 : x = 0 := by
        rcases Pk.num_err l l 0 with h3 | h3 | h3 <;> rw [hx] at h3
        · exact absurd h3 he
        · exact (Prod.mk.inj h3).1
        · exact (Prod.mk.inj h3).1
      subst hx0
      have H2 := Lib.hid (took_bad g (.slice A n c) (.int .i64 ((T - l.length : Nat) : Int)) k er w hB he2)
      clear hR hl hx hp hv hss hT he he2
      go_enter Tryd.func51, Tryd.ntmps51
      go_wp2_with fail
      refine H1.out.mono ?_
      rintro e w1 ⟨rfl, rfl⟩
      go_wp2_with fail
      refine H2.out.mono ?_
      rintro e w2 ⟨rfl, hB2, hb2⟩
      go_wp2
      go_ret
      exact ⟨rfl, ⟨_, _, _, _, hB2⟩, hb2⟩

/-- The document's reader in memory: block g; L: all its bytes. -/
def RR (w : World) (g : Nat) (L : List UInt8) : Option (List UInt8) → Prop
  | some l => ∃ A n c, Blk w g 32 #[.slice A n c, .int .i64 ((L.length - l.length : Nat) : Int), .bool false] ∧ Rd w g 1 A n c (bv L) ∧ L.length = n ∧ l = L.drop (L.length - l.length) ∧ l.length ≤ L.length
  | none => ∃ A n c k, Blk w g 32 #[.slice A n c, .int .i64 k, .bool true]
theorem RR.lt {w : World} {g : Nat} {L : List UInt8} {s : Option (List UInt8)} (h : RR w g L s) : g < w.heap.size := by
  cases s with
  | none => obtain ⟨A, n, c, k, h⟩ := h; exact h.lt
  | some l => obtain ⟨A, n, c, h, _⟩ := h; exact h.lt
theorem RR.go {w w' : World} {g : Nat} {L : List UInt8} {s : Option (List UInt8)} (h : RR w g L s) (hb : Below w.heap.size w w') : RR w' g L s := by
  cases s with
  | none => obtain ⟨A, n, c, k, h⟩ := h; exact ⟨A, n, c, k, h.go hb⟩
  | some l => obtain ⟨A, n, c, h, h2, h3⟩ := h; exact ⟨A, n, c, h.go hb, h2.below (hb.mono (Nat.le_of_lt h.lt)), h3⟩
theorem RR.below {w w' : World} {g B : Nat} {L : List UInt8} {s : Option (List UInt8)} (h : RR w g L s) (hb : Below B w w') (hg : g < B) : RR w' g L s := by
  cases s with
  | none => obtain ⟨A, n, c, k, h⟩ := h; exact ⟨A, n, c, k, h.below hb hg⟩
  | some l => obtain ⟨A, n, c, h, h2, h3⟩ := h; exact ⟨A, n, c, h.below hb hg, h2.below (hb.mono (by omega)), h3⟩
theorem RR.but {w w' : World} {g q : Nat} {L : List UInt8} {s : Option (List UInt8)} (h : RR w g L s) (hb : But q w w') (hq : g < q) : RR w' g L s := by
  cases s with
  | none => obtain ⟨A, n, c, k, h⟩ := h; exact ⟨A, n, c, k, h.but hb (by omega)⟩
  | some l => obtain ⟨A, n, c, h, h2, h3⟩ := h; exact ⟨A, n, c, h.but hb (by omega), h2.but hb (Nat.le_of_lt h.lt) (by omega), h3⟩
end Go.Proofs.YtndlcimckfndiaaDoor
