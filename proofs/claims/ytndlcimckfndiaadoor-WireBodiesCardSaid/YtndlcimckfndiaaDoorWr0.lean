/- Plain laws of numbers, pairs, sets as bytes, with no program in sight: what is laid is read, what is read is laid. -/
import Derived.Test.YtndlcimckfndiaaDoorPack0
import Derived.Test.YtndlcimckfndiaaDoorSp0
namespace Go.Proofs.YtndlcimckfndiaaDoor.Wq

/-- The number that bytes begin with, and the rest. -/
def pN (l : List UInt8) : Option (Nat × List UInt8) := if (Pk.num l 0 l).2.2 = 0 then some ((Pk.num l 0 l).1, l.drop (Pk.num l 0 l).2.1) else none
theorem pN_some {l : List UInt8} {x k : Nat} (h : Pk.num l 0 l = (x, k, 0)) : pN l = some (x, l.drop k) := by unfold pN; rw [h]; rfl
theorem pN_none {l : List UInt8} {x k er : Nat} (h : Pk.num l 0 l = (x, k, er)) (he : er ≠ 0) : pN l = none := by unfold pN; rw [h]; exact if_neg he
theorem pN_inv {l r : List UInt8} {x : Nat} (h : pN l = some (x, r)) : ∃ k, Pk.num l 0 l = (x, k, 0) ∧ r = l.drop k ∧ 1 ≤ k ∧ k ≤ l.length ∧ k ≤ 9 := by
  unfold pN at h
  obtain ⟨y, k, er, e⟩ : ∃ y k er, Pk.num l 0 l = (y, k, er) := ⟨_, _, _, rfl⟩
  rw [e] at h
  split at h
  · rename_i he
    simp only at he h
    subst he
    simp only [Option.some.injEq, Prod.mk.injEq] at h
    obtain ⟨b1, b2, b3, b4, b5⟩ := Pk.num_back e
    exact ⟨k, by rw [e, h.1], h.2.symm, b1, b3, b2⟩
  · cases h
theorem pN_lay {n : Nat} (h : n < 9223372036854775808) (r : List UInt8) : pN (Pk.lay n ++ r) = some (n, r) := by
  rw [pN_some (Pk.num_lay h r), List.drop_left' rfl]
theorem pN_back {l r : List UInt8} {x : Nat} (h : pN l = some (x, r)) : l = Pk.lay x ++ r ∧ x < 9223372036854775808 := by
  obtain ⟨k, e, rfl, _⟩ := pN_inv h
  obtain ⟨b1, b2, b3, b4, b5⟩ := Pk.num_back e
  exact ⟨by rw [b4, List.take_append_drop], b5⟩
theorem pN_len {l r : List UInt8} {x : Nat} (h : pN l = some (x, r)) : r.length < l.length := by
  obtain ⟨k, e, rfl, h1, h2, _⟩ := pN_inv h
  rw [List.length_drop]; omega

/-- So many pairs of numbers. -/
def pP : Nat → List UInt8 → Option (List (Int × Int) × List UInt8)
  | 0, l => some ([], l)
  | n + 1, l => match pN l with
    | none => none
    | some (a, r) => match pN r with
      | none => none
      | some (b, q) => match pP n q with
        | none => none
        | some (v, t) => some (((a : Int), (b : Int)) :: v, t)
def lP (v : List (Int × Int)) : List UInt8 := v.flatMap fun s => Pk.lay s.1.toNat ++ Pk.lay s.2.toNat
/-- A number that can be laid. -/
def u63 (x : Int) : Prop := 0 ≤ x ∧ x < 9223372036854775808
theorem lP_nil : lP [] = [] := rfl
theorem lP_cons (s : Int × Int) (v : List (Int × Int)) : lP (s :: v) = Pk.lay s.1.toNat ++ (Pk.lay s.2.toNat ++ lP v) := by simp [lP]
theorem lP_snoc (v : List (Int × Int)) (s : Int × Int) : lP (v ++ [s]) = lP v ++ Pk.lay s.1.toNat ++ Pk.lay s.2.toNat := by simp [lP]
theorem pN_layI {x : Int} (h : u63 x) (r : List UInt8) : pN (Pk.lay x.toNat ++ r) = some (x.toNat, r) := pN_lay (by have := h.1; have := h.2; omega) r
theorem pP_lay : ∀ (v : List (Int × Int)) (r : List UInt8), (∀ s ∈ v, u63 s.1 ∧ u63 s.2) → pP v.length (lP v ++ r) = some (v, r)
  | [], r, _ => rfl
  | s :: v, r, h => by
    obtain ⟨h1, h2⟩ := h s (by simp)
    have e1 := h1.1
    have e2 := h2.1
    rw [List.length_cons, pP, lP_cons, List.append_assoc, pN_layI h1]
    simp only [List.append_assoc]
    rw [pN_layI h2]
    simp only
    rw [pP_lay v r fun t ht => h t (by simp [ht])]
    simp only [Int.toNat_of_nonneg e1, Int.toNat_of_nonneg e2]
theorem pP_back : ∀ (n : Nat) (l : List UInt8) (v : List (Int × Int)) (r : List UInt8), pP n l = some (v, r) → l = lP v ++ r ∧ v.length = n ∧ ∀ s ∈ v, u63 s.1 ∧ u63 s.2
  | 0, l, v, r, h => by
    simp only [pP, Option.some.injEq, Prod.mk.injEq] at h
    obtain ⟨rfl, rfl⟩ := h
    exact ⟨rfl, rfl, fun s hs => by cases hs⟩
  | n + 1, l, v, r, h => by
    rw [pP] at h
    split at h
    · cases h
    · rename_i a r1 h1
      split at h
      · cases h
      · rename_i b q h2
        split at h
        · cases h
        · rename_i v' t h3
          simp only [Option.some.injEq, Prod.mk.injEq] at h
          obtain ⟨rfl, rfl⟩ := h
          obtain ⟨a1, a2, a3⟩ := pP_back n q v' t h3
          obtain ⟨b1, b2⟩ := pN_back h1
          obtain ⟨c1, c2⟩ := pN_back h2
          refine ⟨by rw [b1, c1, a1, lP_cons]; simp, by simp [a2], fun s hs => ?_⟩
          rcases List.mem_cons.1 hs with rfl | hs
          · exact ⟨⟨by simp only; omega, by simp only; omega⟩, ⟨by simp only; omega, by simp only; omega⟩⟩
          · exact a3 s hs

/-- The set that bytes begin with. -/
def pS (l : List UInt8) : Option (List Sn.Sp × List UInt8) := match pN l with
  | none => none
  | some (n, r) => match pP n r with
    | none => none
    | some (v, q) => if Sn.fmS (-2) v = true then some (v, q) else none
def lS (v : List Sn.Sp) : List UInt8 := Pk.lay v.length ++ lP v
theorem fmS_u63 {e : Int} {l : List Sn.Sp} (h : Sn.fmS e l = true) : ∀ s ∈ l, u63 s.1 ∧ u63 s.2 := by
  induction l generalizing e with
  | nil => exact fun s hs => by cases hs
  | cons t r ih =>
    obtain ⟨h1, h2, h3, h4, h5⟩ := Sn.fmS_cons.1 h
    intro s hs
    rcases List.mem_cons.1 hs with rfl | hs
    · exact ⟨⟨h3, by omega⟩, ⟨by omega, by omega⟩⟩
    · exact ih h5 s hs
theorem pS_lay {v : List Sn.Sp} (h : Sn.fmS (-2) v = true) (r : List UInt8) : pS (lS v ++ r) = some (v, r) := by
  have := Sn.fmS_128 h
  unfold pS lS
  rw [List.append_assoc, pN_lay (by omega)]
  simp only
  rw [pP_lay v r (fmS_u63 h)]
  simp only
  rw [if_pos h]
theorem pS_back {l r : List UInt8} {v : List Sn.Sp} (h : pS l = some (v, r)) : l = lS v ++ r ∧ Sn.fmS (-2) v = true := by
  unfold pS at h
  split at h
  · cases h
  · rename_i n r1 h1
    split at h
    · cases h
    · rename_i v' q h2
      split at h
      · rename_i hf
        simp only [Option.some.injEq, Prod.mk.injEq] at h
        obtain ⟨rfl, rfl⟩ := h
        obtain ⟨a1, a2⟩ := pN_back h1
        obtain ⟨b1, b2, b3⟩ := pP_back _ _ _ _ h2
        exact ⟨by rw [a1, b1, lS, b2]; simp, hf⟩
      · cases h
/-- The length of a laid set. -/
theorem lay_le2 {x : Int} (h0 : 0 ≤ x) (h : x ≤ 255) : (Pk.lay x.toNat).length ≤ 2 := Pk.lay_len_le _ 1 (by omega)
theorem lP_len {e : Int} {l : List Sn.Sp} (h : Sn.fmS e l = true) : (lP l).length ≤ 4 * l.length := by
  induction l generalizing e with
  | nil => simp [lP]
  | cons t r ih =>
    obtain ⟨h1, h2, h3, h4, h5⟩ := Sn.fmS_cons.1 h
    have := ih h5
    have a1 := lay_le2 (x := t.1) (by omega) (by omega)
    have a2 := lay_le2 (x := t.2) (by omega) (by omega)
    rw [lP_cons, List.length_append, List.length_append, List.length_cons]; omega
theorem lS_len {l : List Sn.Sp} (h : Sn.fmS (-2) l = true) : (lS l).length ≤ 514 := by
  have h1 := Sn.fmS_128 h
  have h2 := lP_len h
  have h3 : (Pk.lay l.length).length ≤ 2 := Pk.lay_len_le _ 1 (by omega)
  rw [lS, List.length_append]; omega
theorem lP_take_len {l : List Sn.Sp} (h : Sn.fmS (-2) l = true) (k : Nat) : (lP (l.take k)).length ≤ 512 := by
  have h1 := Sn.fmS_128 h
  have h2 := lP_len h
  have e : lP l = lP (l.take k) ++ lP (l.drop k) := by
    unfold lP
    rw [← List.flatMap_append, List.take_append_drop]
  rw [e, List.length_append] at h2; omega

/-- A row of at most 256 bytes. -/
def pR (most : Nat) (l : List UInt8) : Option (List UInt8 × List UInt8) := match pN l with
  | none => none
  | some (n, r) => if n ≤ most ∧ n ≤ r.length then some (r.take n, r.drop n) else none
def lR (v : List UInt8) : List UInt8 := Pk.lay v.length ++ v
theorem pR_lay {most : Nat} {v : List UInt8} (h : v.length ≤ most) (hm : v.length < 9223372036854775808) (r : List UInt8) : pR most (lR v ++ r) = some (v, r) := by
  unfold pR lR
  rw [List.append_assoc, pN_lay hm]
  simp only
  rw [if_pos ⟨h, by simp⟩, List.take_left' rfl, List.drop_left' rfl]
theorem pR_back {most : Nat} {l v r : List UInt8} (h : pR most l = some (v, r)) : l = lR v ++ r ∧ v.length ≤ most := by
  unfold pR at h
  split at h
  · cases h
  · rename_i n q h1
    split at h
    · rename_i hn
      simp only [Option.some.injEq, Prod.mk.injEq] at h
      obtain ⟨rfl, rfl⟩ := h
      obtain ⟨a1, a2⟩ := pN_back h1
      have e : (q.take n).length = n := by rw [List.length_take]; omega
      exact ⟨by rw [lR, e, List.append_assoc, List.take_append_drop, a1], by omega⟩
    · cases h
end Go.Proofs.YtndlcimckfndiaaDoor.Wq
