/- Texts of one layer in one file: Wr0, Wr1, Wr2. -/
import Derived.Test.YtndlcimckfndiaaDoorPack0
import Derived.Test.YtndlcimckfndiaaDoorSp0
import Derived.Test.YtndlcimckfndiaaDoorNt0
namespace Go.Proofs.YtndlcimckfndiaaDoor.Wq

/-- The number that bytes begin with, and the rest. -/
def pN (l : List UInt8) : Option (Nat × List UInt8) := if (Pk.num l 0 l).2.2 = 0 then some ((Pk.num l 0 l).1, l.drop (Pk.num l 0 l).2.1) else none
theorem pN_some {l : List UInt8} {x k : Nat} (h : Pk.num l 0 l = (x, k, 0)) : pN l = some (x, l.drop k) := by unfold pN; rw [h]; rfl
theorem pN_none {l : List UInt8} {x k er : Nat} (h : Pk.num l 0 l = (x, k, er)) (he : er ≠ 0) : pN l = none := by unfold pN; rw [h]; exact if_neg he
theorem pN_inv {l r : List UInt8} {x : Nat} (h : pN l = some (x, r)) : ∃ k, Pk.num l 0 l = (x, k, 0) ∧ r = l.drop k ∧ 1 ≤ k ∧ k ≤ l.length ∧ k ≤ 9 := by
  unfold pN at h
  obtain ⟨y, k, er, e⟩ : ∃ y k er, Pk.num l 0 l = (y, k, er) := ⟨_, _, _, rfl⟩
  rw [e] at h
  split at h
  · rename_i he
    simp only at he h
    subst he
    simp only [Option.some.injEq, Prod.mk.injEq] at h
    obtain ⟨b1, b2, b3, b4, b5⟩ := Pk.num_back e
    exact ⟨k, by rw [e, h.1], h.2.symm, b1, b3, b2⟩
  · cases h
theorem pN_lay {n : Nat} (h : n < 9223372036854775808) (r : List UInt8) : pN (Pk.lay n ++ r) = some (n, r) := by
  rw [pN_some (Pk.num_lay h r), List.drop_left' rfl]
theorem pN_back {l r : List UInt8} {x : Nat} (h : pN l = some (x, r)) : l = Pk.lay x ++ r ∧ x < 9223372036854775808 := by
  obtain ⟨k, e, rfl, _⟩ := pN_inv h
  obtain ⟨b1, b2, b3, b4, b5⟩ := Pk.num_back e
  exact ⟨by rw [b4, List.take_append_drop], b5⟩
theorem pN_len {l r : List UInt8} {x : Nat} (h : pN l = some (x, r)) : r.length < l.length := by
  obtain ⟨k, e, rfl, h1, h2, _⟩ := pN_inv h
  rw [List.length_drop]; omega

/-- So many pairs of numbers. -/
def pP : Nat → List UInt8 → Option (List (Int × Int) × List UInt8)
  | 0, l => some ([], l)
  | n + 1, l => match pN l with
    | none => none
    | some (a, r) => match pN r with
      | none => none
      | some (b, q) => match pP n q with
        | none => none
        | some (v, t) => some (((a : Int), (b : Int)) :: v, t)
def lP (v : List (Int × Int)) : List UInt8 := v.flatMap fun s => Pk.lay s.1.toNat ++ Pk.lay s.2.toNat
/-- A number that can be laid. -/
def u63 (x : Int) : Prop := 0 ≤ x ∧ x < 9223372036854775808
theorem lP_nil : lP [] = [] := rfl
theorem lP_cons (s : Int × Int) (v : List (Int × Int)) : lP (s :: v) = Pk.lay s.1.toNat ++ (Pk.lay s.2.toNat ++ lP v) := by simp [lP]
theorem lP_snoc (v : List (Int × Int)) (s : Int × Int) : lP (v ++ [s]) = lP v ++ Pk.lay s.1.toNat ++ Pk.lay s.2.toNat := by simp [lP]
theorem pN_layI {x : Int} (h : u63 x) (r : List UInt8) : pN (Pk.lay x.toNat ++ r) = some (x.toNat, r) := pN_lay (by have := h.1; have := h.2; omega) r
theorem pP_lay : ∀ (v : List (Int × Int)) (r : List UInt8), (∀ s ∈ v, u63 s.1 ∧ u63 s.2) → pP v.length (lP v ++ r) = some (v, r)
  | [], r, _ => rfl
  | s :: v, r, h => by
    obtain ⟨h1, h2⟩ := h s (by simp)
    have e1 := h1.1
    have e2 := h2.1
    rw [List.length_cons, pP, lP_cons, List.append_assoc, pN_layI h1]
    simp only [List.append_assoc]
    rw [pN_layI h2]
    simp only
    rw [pP_lay v r fun t ht => h t (by simp [ht])]
    simp only [Int.toNat_of_nonneg e1, Int.toNat_of_nonneg e2]
theorem pP_back : ∀ (n : Nat) (l : List UInt8) (v : List (Int × Int)) (r : List UInt8), pP n l = some (v, r) → l = lP v ++ r ∧ v.length = n ∧ ∀ s ∈ v, u63 s.1 ∧ u63 s.2
  | 0, l, v, r, h => by
    simp only [pP, Option.some.injEq, Prod.mk.injEq] at h
    obtain ⟨rfl, rfl⟩ := h
    exact ⟨rfl, rfl, fun s hs => by cases hs⟩
  | n + 1, l, v, r, h => by
    rw [pP] at h
    split at h
    · cases h
    · rename_i a r1 h1
      split at h
      · cases h
      · rename_i b q h2
        split at h
        · cases h
        · rename_i v' t h3
          simp only [Option.some.injEq, Prod.mk.injEq] at h
          obtain ⟨rfl, rfl⟩ := h
          obtain ⟨a1, a2, a3⟩ := pP_back n q v' t h3
          obtain ⟨b1, b2⟩ := pN_back h1
          obtain ⟨c1, c2⟩ := pN_back h2
          refine ⟨by rw [b1, c1, a1, lP_cons]; simp, by simp [a2], fun s hs => ?_⟩
          rcases List.mem_cons.1 hs with rfl | hs
          · exact ⟨⟨by simp only; omega, by simp only; omega⟩, ⟨by simp only; omega, by simp only; omega⟩⟩
          · exact a3 s hs

/-- The set that bytes begin with. -/
def pS (l : List UInt8) : Option (List Sn.Sp × List UInt8) := match pN l with
  | none => none
  | some (n, r) => match pP n r with
    | none => none
    | some (v, q) => if Sn.fmS (-2) v = true then some (v, q) else none
def lS (v : List Sn.Sp) : List UInt8 := Pk.lay v.length ++ lP v
theorem fmS_u63 {e : Int} {l : List Sn.Sp} (h : Sn.fmS e l = true) : ∀ s ∈ l, u63 s.1 ∧ u63 s.2 := by
  induction l generalizing e with
  | nil => exact fun s hs => by cases hs
  | cons t r ih =>
    obtain ⟨h1, h2, h3, h4, h5⟩ := Sn.fmS_cons.1 h
    intro s hs
    rcases List.mem_cons.1 hs with rfl | hs
    · exact ⟨⟨h3, by omega⟩, ⟨by omega, by omega⟩⟩
    · exact ih h5 s hs
theorem pS_lay {v : List Sn.Sp} (h : Sn.fmS (-2) v = true) (r : List UInt8) : pS (lS v ++ r) = some (v, r) := by
  have := Sn.fmS_128 h
  unfold pS lS
  rw [List.append_assoc, pN_lay (by omega)]
  simp only
  rw [pP_lay v r (fmS_u63 h)]
  simp only
  rw [if_pos h]
theorem pS_back {l r : List UInt8} {v : List Sn.Sp} (h : pS l = some (v, r)) : l = lS v ++ r ∧ Sn.fmS (-2) v = true := by
  unfold pS at h
  split at h
  · cases h
  · rename_i n r1 h1
    split at h
    · cases h
    · rename_i v' q h2
      split at h
      · rename_i hf
        simp only [Option.some.injEq, Prod.mk.injEq] at h
        obtain ⟨rfl, rfl⟩ := h
        obtain ⟨a1, a2⟩ := pN_back h1
        obtain ⟨b1, b2, b3⟩ := pP_back _ _ _ _ h2
        exact ⟨by rw [a1, b1, lS, b2]; simp, hf⟩
      · cases h
/-- The length of a laid set. -/
theorem lay_le2 {x : Int} (h0 : 0 ≤ x) (h : x ≤ 255) : (Pk.lay x.toNat).length ≤ 2 := Pk.lay_len_le _ 1 (by omega)
theorem lP_len {e : Int} {l : List Sn.Sp} (h : Sn.fmS e l = true) : (lP l).length ≤ 4 * l.length := by
  induction l generalizing e with
  | nil => simp [lP]
  | cons t r ih =>
    obtain ⟨h1, h2, h3, h4, h5⟩ := Sn.fmS_cons.1 h
    have := ih h5
    have a1 := lay_le2 (x := t.1) (by omega) (by omega)
    have a2 := lay_le2 (x := t.2) (by omega) (by omega)
    rw [lP_cons, List.length_append, List.length_append, List.length_cons]; omega
theorem lS_len {l : List Sn.Sp} (h : Sn.fmS (-2) l = true) : (lS l).length ≤ 514 := by
  have h1 := Sn.fmS_128 h
  have h2 := lP_len h
  have h3 : (Pk.lay l.length).length ≤ 2 := Pk.lay_len_le _ 1 (by omega)
  rw [lS, List.length_append]; omega
theorem lP_take_len {l : List Sn.Sp} (h : Sn.fmS (-2) l = true) (k : Nat) : (lP (l.take k)).length ≤ 512 := by
  have h1 := Sn.fmS_128 h
  have h2 := lP_len h
  have e : lP l = lP (l.take k) ++ lP (l.drop k) := by
    unfold lP
    rw [← List.flatMap_append, List.take_append_drop]
  rw [e, List.length_append] at h2; omega

/-- A row of at most 256 bytes. -/
def pR (most : Nat) (l : List UInt8) : Option (List UInt8 × List UInt8) := match pN l with
  | none => none
  | some (n, r) => if n ≤ most ∧ n ≤ r.length then some (r.take n, r.drop n) else none
def lR (v : List UInt8) : List UInt8 := Pk.lay v.length ++ v
theorem pR_lay {most : Nat} {v : List UInt8} (h : v.length ≤ most) (hm : v.length < 9223372036854775808) (r : List UInt8) : pR most (lR v ++ r) = some (v, r) := by
  unfold pR lR
  rw [List.append_assoc, pN_lay hm]
  simp only
  rw [if_pos ⟨h, by simp⟩, List.take_left' rfl, List.drop_left' rfl]
theorem pR_back {most : Nat} {l v r : List UInt8} (h : pR most l = some (v, r)) : l = lR v ++ r ∧ v.length ≤ most := by
  unfold pR at h
  split at h
  · cases h
  · rename_i n q h1
    split at h
    · rename_i hn
      simp only [Option.some.injEq, Prod.mk.injEq] at h
      obtain ⟨rfl, rfl⟩ := h
      obtain ⟨a1, a2⟩ := pN_back h1
      have e : (q.take n).length = n := by rw [List.length_take]; omega
      exact ⟨by rw [lR, e, List.append_assoc, List.take_append_drop, a1], by omega⟩
    · cases h
end Go.Proofs.YtndlcimckfndiaaDoor.Wq

namespace Go.Proofs.YtndlcimckfndiaaDoor.Wq

/-- A stamp's numbers in the order in which they are laid. -/
def sw (s : Int × Int) : Int × Int := (s.2, s.1)
theorem sw_sw (v : List (Int × Int)) : (v.map sw).map sw = v := by
  rw [List.map_map]
  have : sw ∘ sw = id := by funext s; rfl
  rw [this, List.map_id]
/-- The vector that bytes begin with. -/
def pV (l : List UInt8) : Option (List Vc.St × List UInt8) := match pN l with
  | none => none
  | some (n, r) => match pP n r with
    | none => none
    | some (v, q) => if fm (-1) (v.map sw) = true then some (v.map sw, q) else none
def lV (v : List Vc.St) : List UInt8 := Pk.lay v.length ++ lP (v.map sw)
theorem fm_u63 : ∀ (last : Int) (v : List Vc.St), fm last v = true → -1 ≤ last → (∀ s ∈ v, 0 < s.1 ∧ last < s.2 ∧ s.2 < 64) ∧ (v.length : Int) ≤ 63 - last ∨ (v = [])
  | _, [], _, _ => .inr rfl
  | last, s :: r, h, hl => by
    rw [fm, Bool.and_eq_true, Bool.and_eq_true, decide_eq_true_eq, Vc.right_iff] at h
    obtain ⟨⟨h1, h2, h3⟩, h4, h5⟩ := h
    refine .inl ?_
    rcases fm_u63 s.2 r h5 (by omega) with ⟨h6, h7⟩ | rfl
    · refine ⟨fun t ht => ?_, by rw [List.length_cons]; omega⟩
      rcases List.mem_cons.1 ht with rfl | ht
      · exact ⟨h1, h4, h3⟩
      · obtain ⟨a, b, c⟩ := h6 t ht
        exact ⟨a, by omega, c⟩
    · refine ⟨fun t ht => ?_, by simp; omega⟩
      rw [List.mem_singleton] at ht
      subst ht
      exact ⟨h1, h4, h3⟩
theorem fm_len {v : List Vc.St} (h : fm (-1) v = true) : v.length ≤ 64 := by
  rcases fm_u63 (-1) v h (by omega) with ⟨_, h2⟩ | rfl
  · omega
  · simp
/-- Counts that a number can hold. -/
def cts (v : List Vc.St) : Prop := ∀ s ∈ v, s.1 < 9223372036854775808
theorem fm_sw {v : List Vc.St} (h : fm (-1) v = true) (hc : cts v) : ∀ s ∈ v.map sw, u63 s.1 ∧ u63 s.2 := by
  intro s hs
  obtain ⟨t, ht, rfl⟩ := List.mem_map.1 hs
  rcases fm_u63 (-1) v h (by omega) with ⟨h2, _⟩ | rfl
  · obtain ⟨a, b, c⟩ := h2 t ht
    have := hc t ht
    exact ⟨⟨by show 0 ≤ t.2; omega, by show t.2 < _; omega⟩, ⟨by show 0 ≤ t.1; omega, this⟩⟩
  · cases ht
theorem pV_lay {v : List Vc.St} (h : fm (-1) v = true) (hc : cts v) (r : List UInt8) : pV (lV v ++ r) = some (v, r) := by
  have := fm_len h
  unfold pV lV
  rw [List.append_assoc, pN_lay (by omega)]
  simp only
  have e := pP_lay (v.map sw) r (fm_sw h hc)
  rw [List.length_map] at e
  rw [e]
  simp only
  rw [sw_sw, if_pos h]
theorem pV_back {l r : List UInt8} {v : List Vc.St} (h : pV l = some (v, r)) : l = lV v ++ r ∧ fm (-1) v = true ∧ cts v := by
  unfold pV at h
  split at h
  · cases h
  · rename_i n r1 h1
    split at h
    · cases h
    · rename_i v' q h2
      split at h
      · rename_i hf
        simp only [Option.some.injEq, Prod.mk.injEq] at h
        obtain ⟨rfl, rfl⟩ := h
        obtain ⟨a1, a2⟩ := pN_back h1
        obtain ⟨b1, b2, b3⟩ := pP_back _ _ _ _ h2
        refine ⟨by rw [a1, b1, lV, sw_sw, List.length_map, b2]; simp, hf, fun s hs => ?_⟩
        obtain ⟨t, ht, rfl⟩ := List.mem_map.1 hs
        exact (b3 t ht).2.2
      · cases h

/-- So many writes. -/
def pW : Nat → List UInt8 → Option (List Wr × List UInt8)
  | 0, l => some ([], l)
  | n + 1, l => match pN l with
    | none => none
    | some (o, r1) => match pN r1 with
      | none => none
      | some (a, r2) => match pN r2 with
        | none => none
        | some (b, r3) => match pN r3 with
          | none => none
          | some (g, r4) => if 1 < g then none else match pW n r4 with
            | none => none
            | some (v, t) => some ((((b : Int), (a : Int)), (o : Int), decide (g = 1)) :: v, t)
def gn (g : Bool) : Nat := if g then 1 else 0
def lW1 (w : Wr) : List UInt8 := Pk.lay w.2.1.toNat ++ (Pk.lay w.1.2.toNat ++ (Pk.lay w.1.1.toNat ++ Pk.lay (gn w.2.2)))
def lW (v : List Wr) : List UInt8 := v.flatMap lW1
theorem lW_cons (w : Wr) (v : List Wr) : lW (w :: v) = lW1 w ++ lW v := by simp [lW]
def wU (w : Wr) : Prop := u63 w.2.1 ∧ u63 w.1.2 ∧ u63 w.1.1
theorem pW_lay : ∀ (v : List Wr) (r : List UInt8), (∀ w ∈ v, wU w) → pW v.length (lW v ++ r) = some (v, r)
  | [], r, _ => rfl
  | w :: v, r, h => by
    obtain ⟨h1, h2, h3⟩ := h w (by simp)
    have e1 := h1.1
    have e2 := h2.1
    have e3 := h3.1
    rw [List.length_cons, pW, lW_cons, lW1, List.append_assoc, List.append_assoc, List.append_assoc, List.append_assoc, pN_layI h1]
    simp only
    rw [pN_layI h2]
    simp only
    rw [pN_layI h3]
    simp only
    rw [pN_lay (by unfold gn; split <;> omega)]
    simp only
    rw [if_neg (by unfold gn; split <;> omega), pW_lay v r fun t ht => h t (by simp [ht])]
    simp only [Int.toNat_of_nonneg e1, Int.toNat_of_nonneg e2, Int.toNat_of_nonneg e3]
    obtain ⟨⟨c, n⟩, o, g⟩ := w
    cases g <;> rfl
theorem pW_back : ∀ (n : Nat) (l : List UInt8) (v : List Wr) (r : List UInt8), pW n l = some (v, r) → l = lW v ++ r ∧ v.length = n ∧ ∀ w ∈ v, wU w
  | 0, l, v, r, h => by
    simp only [pW, Option.some.injEq, Prod.mk.injEq] at h
    obtain ⟨rfl, rfl⟩ := h
    exact ⟨rfl, rfl, fun s hs => by cases hs⟩
  | n + 1, l, v, r, h => by
    rw [pW] at h
    split at h
    · cases h
    · rename_i o r1 h1
      split at h
      · cases h
      · rename_i a r2 h2
        split at h
        · cases h
        · rename_i b r3 h3
          split at h
          · cases h
          · rename_i g r4 h4
            split at h
            · cases h
            · rename_i hg
              split at h
              · cases h
              · rename_i v' t h5
                simp only [Option.some.injEq, Prod.mk.injEq] at h
                obtain ⟨rfl, rfl⟩ := h
                obtain ⟨a1, a2, a3⟩ := pW_back n r4 v' t h5
                obtain ⟨b1, b2⟩ := pN_back h1
                obtain ⟨c1, c2⟩ := pN_back h2
                obtain ⟨d1, d2⟩ := pN_back h3
                obtain ⟨e1, e2⟩ := pN_back h4
                have hgg : gn (decide (g = 1)) = g := by
                  rcases Nat.lt_or_ge g 1 with h | h
                  · obtain rfl : g = 0 := by omega
                    rfl
                  · obtain rfl : g = 1 := by omega
                    rfl
                refine ⟨?_, by simp [a2], fun s hs => ?_⟩
                · rw [b1, c1, d1, e1, a1, lW_cons, lW1]
                  simp only [hgg]
                  simp
                · rcases List.mem_cons.1 hs with rfl | hs
                  · exact ⟨⟨by simp only; omega, by simp only; omega⟩, ⟨by simp only; omega, by simp only; omega⟩, ⟨by simp only; omega, by simp only; omega⟩⟩
                  · exact a3 s hs

/-- The note that bytes begin with. -/
def pNt (l : List UInt8) : Option (Nt × List UInt8) := match pV l with
  | none => none
  | some (s, r1) => match pV r1 with
    | none => none
    | some (e, r2) => match pS r2 with
      | none => none
      | some (b, r3) => match pN r3 with
        | none => none
        | some (n, r4) => match pW n r4 with
          | none => none
          | some (w, r5) => if ntF ⟨s, e, b, w⟩ = true then some (⟨s, e, b, w⟩, r5) else none
def lNt (x : Nt) : List UInt8 := lV x.s ++ (lV x.e ++ (lS x.b ++ (Pk.lay x.w.length ++ lW x.w)))
theorem ntF_parts {x : Nt} (h : ntF x = true) : fm (-1) x.s = true ∧ fm (-1) x.e = true ∧ Sn.fmS (-2) x.b = true ∧ ntW x.e x.b (-1) x.w = true := by
  unfold ntF ntH at h
  simp only [Bool.and_eq_true] at h
  exact ⟨h.1.1, h.1.2.1, h.1.2.2.2, h.2⟩
/-- Counts that numbers can hold. -/
def ntC (x : Nt) : Prop := cts x.s ∧ cts x.e ∧ ∀ w ∈ x.w, w.1.1 < 9223372036854775808
theorem ntW_all (e : List Vc.St) (b : List Sn.Sp) : ∀ (last : Int) (l : List Wr), ntW e b last l = true → -1 ≤ last → (∀ w ∈ l, 0 ≤ w.2.1 ∧ w.2.1 ≤ 255 ∧ last < w.2.1 ∧ 0 < w.1.1 ∧ 0 ≤ w.1.2 ∧ w.1.2 < 64) ∧ ((l.length : Int) ≤ 255 - last ∨ l = [])
  | _, [], _, _ => ⟨(fun w hw => by cases hw), Or.inr rfl⟩
  | last, w :: r, h, hl => by
    rw [ntW, Bool.and_eq_true] at h
    obtain ⟨h1, h2⟩ := h
    unfold wOk hasB at h1
    simp only [Bool.and_eq_true, decide_eq_true_eq] at h1
    obtain ⟨a1, ⟨a2, a3⟩, _, a5, _⟩ := h1
    obtain ⟨b1, b2, b3⟩ := (Vc.right_iff _).1 a5
    obtain ⟨c1, c2⟩ := ntW_all e b w.2.1 r h2 (by omega)
    refine ⟨fun t ht => ?_, .inl ?_⟩
    · rcases List.mem_cons.1 ht with rfl | ht
      · exact ⟨a2, a3, a1, b1, b2, b3⟩
      · obtain ⟨d1, d2, d3, d4⟩ := c1 t ht
        exact ⟨d1, d2, by omega, d4⟩
    · rw [List.length_cons]
      rcases c2 with c2 | rfl
      · omega
      · simp; omega
theorem ntW_len {e : List Vc.St} {b : List Sn.Sp} {l : List Wr} (h : ntW e b (-1) l = true) : l.length ≤ 256 := by
  rcases (ntW_all e b (-1) l h (by omega)).2 with h2 | rfl
  · omega
  · simp
theorem ntW_u {x : Nt} (h : ntF x = true) (hc : ntC x) : ∀ w ∈ x.w, wU w := by
  obtain ⟨_, _, _, h4⟩ := ntF_parts h
  intro w hw
  obtain ⟨a1, a2, a3, a4, a5, a6⟩ := (ntW_all _ _ _ _ h4 (by omega)).1 w hw
  exact ⟨⟨a1, by omega⟩, ⟨a5, by omega⟩, ⟨by omega, hc.2.2 w hw⟩⟩
theorem pNt_lay {x : Nt} (h : ntF x = true) (hc : ntC x) (r : List UInt8) : pNt (lNt x ++ r) = some (x, r) := by
  obtain ⟨h1, h2, h3, h4⟩ := ntF_parts h
  have hl := ntW_len h4
  unfold pNt lNt
  rw [List.append_assoc, pV_lay h1 hc.1]
  simp only
  rw [List.append_assoc, pV_lay h2 hc.2.1]
  simp only
  rw [List.append_assoc, pS_lay h3]
  simp only
  rw [List.append_assoc, pN_lay (by omega)]
  simp only
  rw [pW_lay _ _ (ntW_u h hc)]
  simp only
  rw [if_pos h]
theorem pNt_back {l r : List UInt8} {x : Nt} (h : pNt l = some (x, r)) : l = lNt x ++ r ∧ ntF x = true ∧ ntC x := by
  unfold pNt at h
  split at h
  · cases h
  · rename_i s r1 h1
    split at h
    · cases h
    · rename_i e r2 h2
      split at h
      · cases h
      · rename_i b r3 h3
        split at h
        · cases h
        · rename_i n r4 h4
          split at h
          · cases h
          · rename_i w r5 h5
            split at h
            · rename_i hf
              simp only [Option.some.injEq, Prod.mk.injEq] at h
              obtain ⟨rfl, rfl⟩ := h
              obtain ⟨a1, a2, a3⟩ := pV_back h1
              obtain ⟨b1, b2, b3⟩ := pV_back h2
              obtain ⟨c1, c2⟩ := pS_back h3
              obtain ⟨d1, d2⟩ := pN_back h4
              obtain ⟨e1, e2, e3⟩ := pW_back _ _ _ _ h5
              refine ⟨?_, hf, a3, b3, fun t ht => (e3 t ht).2.2.2⟩
              rw [a1, b1, c1, d1, e1, lNt, e2]
              simp
            · cases h

/-- A body. -/
structure Bd where
  o : Int
  s : Vc.St
  v : List UInt8
def bdF (x : Bd) : Bool := (decide (0 ≤ x.o) && decide (x.o ≤ 255)) && (Vc.right x.s && decide (x.v.length ≤ 256))
theorem bdF_iff (x : Bd) : bdF x = true ↔ 0 ≤ x.o ∧ x.o ≤ 255 ∧ 0 < x.s.1 ∧ 0 ≤ x.s.2 ∧ x.s.2 < 64 ∧ x.v.length ≤ 256 := by
  unfold bdF
  rw [Bool.and_eq_true, Bool.and_eq_true, Bool.and_eq_true, Vc.right_iff, decide_eq_true_eq, decide_eq_true_eq, decide_eq_true_eq]
  constructor
  · rintro ⟨⟨a, b⟩, ⟨c, d, e⟩, f⟩; exact ⟨a, b, c, d, e, f⟩
  · rintro ⟨a, b, c, d, e, f⟩; exact ⟨⟨a, b⟩, ⟨c, d, e⟩, f⟩
/-- The body that bytes begin with. -/
def pB (l : List UInt8) : Option (Bd × List UInt8) := match pN l with
  | none => none
  | some (o, r1) => match pN r1 with
    | none => none
    | some (a, r2) => match pN r2 with
      | none => none
      | some (b, r3) => match pR 256 r3 with
        | none => none
        | some (v, r4) => if bdF ⟨(o : Int), ((b : Int), (a : Int)), v⟩ = true then some (⟨(o : Int), ((b : Int), (a : Int)), v⟩, r4) else none
def lB (x : Bd) : List UInt8 := Pk.lay x.o.toNat ++ (Pk.lay x.s.2.toNat ++ (Pk.lay x.s.1.toNat ++ lR x.v))
theorem pB_lay {x : Bd} (h : bdF x = true) (hc : x.s.1 < 9223372036854775808) (r : List UInt8) : pB (lB x ++ r) = some (x, r) := by
  obtain ⟨a, b, c, d, e, f⟩ := (bdF_iff x).1 h
  unfold pB lB
  rw [List.append_assoc, pN_layI ⟨a, by omega⟩]
  simp only
  rw [List.append_assoc, pN_layI ⟨d, by omega⟩]
  simp only
  rw [List.append_assoc, pN_layI ⟨by omega, hc⟩]
  simp only
  rw [pR_lay f (by omega)]
  simp only [Int.toNat_of_nonneg a, Int.toNat_of_nonneg d, Int.toNat_of_nonneg (Int.le_of_lt c)]
  rw [if_pos h]
theorem pB_back {l r : List UInt8} {x : Bd} (h : pB l = some (x, r)) : l = lB x ++ r ∧ bdF x = true ∧ x.s.1 < 9223372036854775808 := by
  unfold pB at h
  split at h
  · cases h
  · rename_i o r1 h1
    split at h
    · cases h
    · rename_i a r2 h2
      split at h
      · cases h
      · rename_i b r3 h3
        split at h
        · cases h
        · rename_i v r4 h4
          split at h
          · rename_i hf
            simp only [Option.some.injEq, Prod.mk.injEq] at h
            obtain ⟨rfl, rfl⟩ := h
            obtain ⟨a1, a2⟩ := pN_back h1
            obtain ⟨b1, b2⟩ := pN_back h2
            obtain ⟨c1, c2⟩ := pN_back h3
            obtain ⟨d1, d2⟩ := pR_back h4
            refine ⟨?_, hf, by simp only; omega⟩
            rw [a1, b1, c1, d1, lB]
            simp
          · cases h
end Go.Proofs.YtndlcimckfndiaaDoor.Wq

namespace Go.Proofs.YtndlcimckfndiaaDoor.Wq

/-- So many notes. -/
def pL : Nat → List UInt8 → Option (List Nt × List UInt8)
  | 0, l => some ([], l)
  | n + 1, l => match pNt l with
    | none => none
    | some (x, r) => match pL n r with
      | none => none
      | some (v, t) => some (x :: v, t)
def lL (v : List Nt) : List UInt8 := v.flatMap lNt
theorem lL_cons (x : Nt) (v : List Nt) : lL (x :: v) = lNt x ++ lL v := by simp [lL]
theorem pL_lay : ∀ (v : List Nt) (r : List UInt8), (∀ x ∈ v, ntF x = true ∧ ntC x) → pL v.length (lL v ++ r) = some (v, r)
  | [], r, _ => rfl
  | x :: v, r, h => by
    obtain ⟨h1, h2⟩ := h x (by simp)
    rw [List.length_cons, pL, lL_cons, List.append_assoc, pNt_lay h1 h2]
    simp only
    rw [pL_lay v r fun t ht => h t (by simp [ht])]
theorem pL_back : ∀ (n : Nat) (l : List UInt8) (v : List Nt) (r : List UInt8), pL n l = some (v, r) → l = lL v ++ r ∧ v.length = n ∧ ∀ x ∈ v, ntF x = true ∧ ntC x
  | 0, l, v, r, h => by
    simp only [pL, Option.some.injEq, Prod.mk.injEq] at h
    obtain ⟨rfl, rfl⟩ := h
    exact ⟨rfl, rfl, fun s hs => by cases hs⟩
  | n + 1, l, v, r, h => by
    rw [pL] at h
    split at h
    · cases h
    · rename_i x r1 h1
      split at h
      · cases h
      · rename_i v' t h2
        simp only [Option.some.injEq, Prod.mk.injEq] at h
        obtain ⟨rfl, rfl⟩ := h
        obtain ⟨a1, a2, a3⟩ := pL_back n r1 v' t h2
        obtain ⟨b1, b2⟩ := pNt_back h1
        refine ⟨by rw [b1, a1, lL_cons]; simp, by simp [a2], fun s hs => ?_⟩
        rcases List.mem_cons.1 hs with rfl | hs
        · exact b2
        · exact a3 s hs

/-- A message: kind, from, to, session, seq, interest, vector, notes, body. -/
structure Ms where
  k : Int
  f : Int
  t : Int
  n : Int
  q : Int
  i : List Sn.Sp
  v : List Vc.St
  l : List Nt
  b : Bd
def bd0 : Bd := ⟨0, (0, 0), []⟩
def ms0 : Ms := ⟨0, 0, 0, 0, 0, [], [], [], bd0⟩
def emB (x : Bd) : Bool := (decide (x.s.1 = 0) && decide (x.s.2 = 0)) && decide (x.v.length = 0)
def subE (m : Ms) : Bool := decide (m.i.length = 0) && decide (m.v.length = 0)
def rowE (m : Ms) : Bool := decide (m.n = 0) && (decide (m.q = 0) && decide (m.l.length = 0))
def nonE (m : Ms) : Bool := decide (m.b.o = 0) && emB m.b
def headF (m : Ms) : Bool := (decide (0 ≤ m.f) && decide (m.f ≤ 63)) && ((decide (0 ≤ m.t) && decide (m.t ≤ 63)) && (decide (0 ≤ m.n) && (decide (0 ≤ m.q) && decide (m.l.length ≤ 257))))
def kindF (m : Ms) : Bool :=
  if m.k = 1 then decide (m.q = 0) && (decide (m.l.length = 0) && (nonE m && (decide (0 < m.i.length) && (Sn.fmS (-2) m.i && fm (-1) m.v))))
  else if m.k = 2 then subE m && (rowE m && nonE m)
  else if m.k = 3 then m.l.all ntF && (subE m && nonE m)
  else if m.k = 4 then subE m && (rowE m && ((decide (0 ≤ m.b.o) && decide (m.b.o ≤ 255)) && emB m.b))
  else if m.k = 5 then subE m && (rowE m && bdF m.b)
  else false
def fmM (m : Ms) : Bool := headF m && kindF m
/-- What a message's kind lays behind its head. -/
def lK (m : Ms) : List UInt8 :=
  if m.k = 1 then Pk.lay m.n.toNat ++ (lS m.i ++ lV m.v)
  else if m.k = 3 then Pk.lay m.n.toNat ++ (Pk.lay m.q.toNat ++ (Pk.lay m.l.length ++ lL m.l))
  else if m.k = 4 then Pk.lay m.b.o.toNat
  else if m.k = 5 then lB m.b
  else []
def enc (m : Ms) : List UInt8 := Pk.lay m.k.toNat ++ (Pk.lay m.f.toNat ++ (Pk.lay m.t.toNat ++ lK m))
/-- What a message's kind reads. -/
def pK (k f t : Nat) (l : List UInt8) : Option (Ms × List UInt8) :=
  if k = 1 then match pN l with
    | none => none
    | some (n, r1) => match pS r1 with
      | none => none
      | some (i, r2) => match pV r2 with
        | none => none
        | some (v, r3) => some (⟨1, f, t, n, 0, i, v, [], bd0⟩, r3)
  else if k = 3 then match pN l with
    | none => none
    | some (n, r1) => match pN r1 with
      | none => none
      | some (q, r2) => match pN r2 with
        | none => none
        | some (c, r3) => if 257 < c then none else match pL c r3 with
          | none => none
          | some (v, r4) => some (⟨3, f, t, n, q, [], [], v, bd0⟩, r4)
  else if k = 4 then match pN l with
    | none => none
    | some (o, r1) => some (⟨4, f, t, 0, 0, [], [], [], ⟨o, (0, 0), []⟩⟩, r1)
  else if k = 5 then match pB l with
    | none => none
    | some (b, r1) => some (⟨5, f, t, 0, 0, [], [], [], b⟩, r1)
  else some (⟨k, f, t, 0, 0, [], [], [], bd0⟩, l)
def pM (l : List UInt8) : Option (Ms × List UInt8) := match pN l with
  | none => none
  | some (k, r1) => match pN r1 with
    | none => none
    | some (f, r2) => match pN r2 with
      | none => none
      | some (t, r3) => pK k f t r3
/-- The message of bytes. -/
def dec (l : List UInt8) : Option Ms := match pM l with
  | none => none
  | some (m, r) => if r = [] ∧ fmM m = true then some m else none
/-- Numbers that can be laid. -/
def msC (m : Ms) : Prop := m.n < 9223372036854775808 ∧ m.q < 9223372036854775808 ∧ cts m.v ∧ (∀ x ∈ m.l, ntC x) ∧ m.b.s.1 < 9223372036854775808
theorem emB_iff (x : Bd) : emB x = true ↔ x.s = (0, 0) ∧ x.v = [] := by
  unfold emB
  rw [Bool.and_eq_true, Bool.and_eq_true, decide_eq_true_eq, decide_eq_true_eq, decide_eq_true_eq, List.length_eq_zero_iff]
  constructor
  · rintro ⟨⟨a, b⟩, c⟩; exact ⟨Prod.ext a b, c⟩
  · rintro ⟨a, c⟩; rw [a]; exact ⟨⟨rfl, rfl⟩, c⟩
theorem nonE_iff (m : Ms) : nonE m = true ↔ m.b = bd0 := by
  unfold nonE
  rw [Bool.and_eq_true, decide_eq_true_eq, emB_iff]
  obtain ⟨_, _, _, _, _, _, _, _, ⟨o, s, v⟩⟩ := m
  simp [bd0]
theorem subE_iff (m : Ms) : subE m = true ↔ m.i = [] ∧ m.v = [] := by
  unfold subE
  rw [Bool.and_eq_true, decide_eq_true_eq, decide_eq_true_eq, List.length_eq_zero_iff, List.length_eq_zero_iff]
theorem rowE_iff (m : Ms) : rowE m = true ↔ m.n = 0 ∧ m.q = 0 ∧ m.l = [] := by
  unfold rowE
  rw [Bool.and_eq_true, Bool.and_eq_true, decide_eq_true_eq, decide_eq_true_eq, decide_eq_true_eq, List.length_eq_zero_iff]
theorem headF_iff (m : Ms) : headF m = true ↔ (0 ≤ m.f ∧ m.f ≤ 63) ∧ (0 ≤ m.t ∧ m.t ≤ 63) ∧ 0 ≤ m.n ∧ 0 ≤ m.q ∧ m.l.length ≤ 257 := by
  unfold headF
  simp only [Bool.and_eq_true, decide_eq_true_eq]
theorem fm_kind {m : Ms} (h : fmM m = true) : m.k = 1 ∨ m.k = 2 ∨ m.k = 3 ∨ m.k = 4 ∨ m.k = 5 := by
  unfold fmM kindF at h
  rw [Bool.and_eq_true] at h
  obtain ⟨_, h⟩ := h
  split at h
  · exact .inl ‹_›
  · split at h
    · exact .inr (.inl ‹_›)
    · split at h
      · exact .inr (.inr (.inl ‹_›))
      · split at h
        · exact .inr (.inr (.inr (.inl ‹_›)))
        · split at h
          · exact .inr (.inr (.inr (.inr ‹_›)))
          · cases h
theorem pK_lay {m : Ms} (h : fmM m = true) (hc : msC m) (r : List UInt8) : pK m.k.toNat m.f.toNat m.t.toNat (lK m ++ r) = some (m, r) := by
  obtain ⟨h0, h1⟩ := Bool.and_eq_true_iff.1 h
  obtain ⟨⟨f0, f1⟩, ⟨t0, t1⟩, n0, q0, l0⟩ := (headF_iff m).1 h0
  obtain ⟨c1, c2, c3, c4, c5⟩ := hc
  have hk := fm_kind h
  obtain ⟨k, f, t, n, q, i, v, l, b⟩ := m
  simp only at hk f0 f1 t0 t1 n0 q0 l0 c1 c2 c3 c4 c5
  have ef : ((f.toNat : Nat) : Int) = f := Int.toNat_of_nonneg f0
  have et : ((t.toNat : Nat) : Int) = t := Int.toNat_of_nonneg t0
  have en : ((n.toNat : Nat) : Int) = n := Int.toNat_of_nonneg n0
  have eq : ((q.toNat : Nat) : Int) = q := Int.toNat_of_nonneg q0
  rcases hk with rfl | rfl | rfl | rfl | rfl
  · simp only [kindF, if_true, Bool.and_eq_true, decide_eq_true_eq, nonE_iff] at h1
    obtain ⟨rfl, a2, rfl, a4, a5, a6⟩ := h1
    obtain rfl := List.length_eq_zero_iff.1 a2
    unfold pK lK
    simp only [show Int.toNat 1 = 1 from rfl, if_true, List.append_assoc]
    rw [pN_layI ⟨n0, c1⟩]
    simp only
    rw [pS_lay a5]
    simp only
    rw [pV_lay a6 c3]
    simp only [ef, et, en]
  · simp only [kindF, show ¬ ((2 : Int) = 1) by decide, if_false, if_true, Bool.and_eq_true, subE_iff, rowE_iff, nonE_iff] at h1
    obtain ⟨⟨rfl, rfl⟩, ⟨rfl, rfl, rfl⟩, rfl⟩ := h1
    unfold pK lK
    simp [ef, et]
  · simp only [kindF, show ¬ ((3 : Int) = 1) by decide, show ¬ ((3 : Int) = 2) by decide, if_false, if_true, Bool.and_eq_true, subE_iff, nonE_iff, List.all_eq_true] at h1
    obtain ⟨a1, ⟨rfl, rfl⟩, rfl⟩ := h1
    unfold pK lK
    simp only [show Int.toNat 3 = 3 from rfl, show ¬ ((3 : Nat) = 1) by decide, show ¬ ((3 : Int) = 1) by decide, if_false, if_true, List.append_assoc]
    rw [pN_layI ⟨n0, c1⟩]
    simp only
    rw [pN_layI ⟨q0, c2⟩]
    simp only
    rw [pN_lay (by omega)]
    simp only
    rw [if_neg (by omega), pL_lay l r fun x hx => ⟨a1 x hx, c4 x hx⟩]
    simp only [ef, et, en, eq]
  · simp only [kindF, show ¬ ((4 : Int) = 1) by decide, show ¬ ((4 : Int) = 2) by decide, show ¬ ((4 : Int) = 3) by decide, if_false, if_true, Bool.and_eq_true, subE_iff, rowE_iff, emB_iff, decide_eq_true_eq] at h1
    obtain ⟨⟨rfl, rfl⟩, ⟨rfl, rfl, rfl⟩, ⟨o0, o1⟩, e1, e2⟩ := h1
    obtain ⟨o, s, bv⟩ := b
    simp only at o0 o1 e1 e2
    subst e1 e2
    unfold pK lK
    simp only [show Int.toNat 4 = 4 from rfl, show ¬ ((4 : Nat) = 1) by decide, show ¬ ((4 : Nat) = 3) by decide, show ¬ ((4 : Int) = 1) by decide, show ¬ ((4 : Int) = 3) by decide, if_false, if_true]
    rw [pN_layI ⟨o0, by omega⟩]
    simp only [ef, et, Int.toNat_of_nonneg o0]
  · simp only [kindF, show ¬ ((5 : Int) = 1) by decide, show ¬ ((5 : Int) = 2) by decide, show ¬ ((5 : Int) = 3) by decide, show ¬ ((5 : Int) = 4) by decide, if_false, if_true, Bool.and_eq_true, subE_iff, rowE_iff] at h1
    obtain ⟨⟨rfl, rfl⟩, ⟨rfl, rfl, rfl⟩, a3⟩ := h1
    unfold pK lK
    simp only [show Int.toNat 5 = 5 from rfl, show ¬ ((5 : Nat) = 1) by decide, show ¬ ((5 : Nat) = 3) by decide, show ¬ ((5 : Nat) = 4) by decide, show ¬ ((5 : Int) = 1) by decide, show ¬ ((5 : Int) = 3) by decide, show ¬ ((5 : Int) = 4) by decide, if_false, if_true]
    rw [pB_lay a3 c5]
    simp only [ef, et]
theorem pM_lay {m : Ms} (h : fmM m = true) (hc : msC m) (r : List UInt8) : pM (enc m ++ r) = some (m, r) := by
  have hk := fm_kind h
  obtain ⟨h0, h1⟩ := Bool.and_eq_true_iff.1 h
  obtain ⟨⟨f0, f1⟩, ⟨t0, t1⟩, _⟩ := (headF_iff m).1 h0
  unfold pM enc
  rw [List.append_assoc, pN_layI ⟨by omega, by omega⟩]
  simp only
  rw [List.append_assoc, pN_layI ⟨f0, by omega⟩]
  simp only
  rw [List.append_assoc, pN_layI ⟨t0, by omega⟩]
  simp only
  exact pK_lay h hc r
theorem dec_enc {m : Ms} (h : fmM m = true) (hc : msC m) : dec (enc m) = some m := by
  have := pM_lay h hc []
  rw [List.append_nil] at this
  unfold dec
  rw [this]
  simp [h]
theorem dec_more {m : Ms} (h : fmM m = true) (hc : msC m) (c : UInt8) : dec (enc m ++ [c]) = none := by
  unfold dec
  rw [pM_lay h hc [c]]
  simp
theorem cts_nil : cts [] := fun s hs => by cases hs
theorem pK_back {k f t : Nat} {l r : List UInt8} {m : Ms} (h : pK k f t l = some (m, r)) : l = lK m ++ r ∧ m.k = (k : Int) ∧ m.f = (f : Int) ∧ m.t = (t : Int) ∧ msC m := by
  unfold pK at h
  split at h
  · rename_i hk
    subst hk
    split at h
    · cases h
    · rename_i n r1 h1
      split at h
      · cases h
      · rename_i i r2 h2
        split at h
        · cases h
        · rename_i v r3 h3
          simp only [Option.some.injEq, Prod.mk.injEq] at h
          obtain ⟨rfl, rfl⟩ := h
          obtain ⟨a1, a2⟩ := pN_back h1
          obtain ⟨b1, b2⟩ := pS_back h2
          obtain ⟨c1, c2, c3⟩ := pV_back h3
          refine ⟨by rw [a1, b1, c1]; unfold lK; simp, rfl, rfl, rfl, by simp only; omega, by simp, c3, (fun x hx => by cases hx), by simp [bd0]⟩
  · split at h
    · rename_i hk
      subst hk
      split at h
      · cases h
      · rename_i n r1 h1
        split at h
        · cases h
        · rename_i q r2 h2
          split at h
          · cases h
          · rename_i c r3 h3
            split at h
            · cases h
            · split at h
              · cases h
              · rename_i v r4 h4
                simp only [Option.some.injEq, Prod.mk.injEq] at h
                obtain ⟨rfl, rfl⟩ := h
                obtain ⟨a1, a2⟩ := pN_back h1
                obtain ⟨b1, b2⟩ := pN_back h2
                obtain ⟨c1, c2⟩ := pN_back h3
                obtain ⟨d1, d2, d3⟩ := pL_back _ _ _ _ h4
                refine ⟨by rw [a1, b1, c1, d1]; unfold lK; simp [d2], rfl, rfl, rfl, by simp only; omega, by simp only; omega, cts_nil, fun x hx => (d3 x hx).2, by simp [bd0]⟩
    · split at h
      · rename_i hk
        subst hk
        split at h
        · cases h
        · rename_i o r1 h1
          simp only [Option.some.injEq, Prod.mk.injEq] at h
          obtain ⟨rfl, rfl⟩ := h
          obtain ⟨a1, a2⟩ := pN_back h1
          refine ⟨by rw [a1]; unfold lK; simp, rfl, rfl, rfl, by simp, by simp, cts_nil, (fun x hx => by cases hx), by simp⟩
      · split at h
        · rename_i hk
          subst hk
          split at h
          · cases h
          · rename_i b r1 h1
            simp only [Option.some.injEq, Prod.mk.injEq] at h
            obtain ⟨rfl, rfl⟩ := h
            obtain ⟨a1, a2, a3⟩ := pB_back h1
            refine ⟨by rw [a1]; unfold lK; simp, rfl, rfl, rfl, by simp, by simp, cts_nil, (fun x hx => by cases hx), a3⟩
        · rename_i k1 k3 k4 k5
          simp only [Option.some.injEq, Prod.mk.injEq] at h
          obtain ⟨rfl, rfl⟩ := h
          refine ⟨?_, rfl, rfl, rfl, by simp, by simp, cts_nil, (fun x hx => by cases hx), by simp [bd0]⟩
          unfold lK
          simp only
          rw [if_neg (by omega), if_neg (by omega), if_neg (by omega), if_neg (by omega)]
          rfl
theorem dec_back {l : List UInt8} {m : Ms} (h : dec l = some m) : l = enc m ∧ fmM m = true ∧ msC m := by
  unfold dec at h
  split at h
  · cases h
  · rename_i m' r hp
    split at h
    · rename_i hr
      injection h with h
      subst h
      obtain ⟨rfl, hf⟩ := hr
      unfold pM at hp
      split at hp
      · cases hp
      · rename_i k r1 h1
        split at hp
        · cases hp
        · rename_i f r2 h2
          split at hp
          · cases hp
          · rename_i t r3 h3
            obtain ⟨a1, a2⟩ := pN_back h1
            obtain ⟨b1, b2⟩ := pN_back h2
            obtain ⟨c1, c2⟩ := pN_back h3
            obtain ⟨d1, d2, d3, d4, d5⟩ := pK_back hp
            refine ⟨?_, hf, d5⟩
            rw [a1, b1, c1, d1, enc, d2, d3, d4]
            simp
    · cases h
end Go.Proofs.YtndlcimckfndiaaDoor.Wq

