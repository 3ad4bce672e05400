/- Plain laws of vectors, notes, bodies as bytes, with no program in sight: what is laid is read, what is read is laid. -/
import Derived.Test.YtndlcimckfndiaaDoorWr0
import Derived.Test.YtndlcimckfndiaaDoorNt0
namespace Go.Proofs.YtndlcimckfndiaaDoor.Wq

/-- A stamp's numbers in the order in which they are laid. -/
def sw (s : Int × Int) : Int × Int := (s.2, s.1)
theorem sw_sw (v : List (Int × Int)) : (v.map sw).map sw = v := by
  rw [List.map_map]
  have : sw ∘ sw = id := by funext s; rfl
  rw [this, List.map_id]
/-- The vector that bytes begin with. -/
def pV (l : List UInt8) : Option (List Vc.St × List UInt8) := match pN l with
  | none => none
  | some (n, r) => match pP n r with
    | none => none
    | some (v, q) => if fm (-1) (v.map sw) = true then some (v.map sw, q) else none
def lV (v : List Vc.St) : List UInt8 := Pk.lay v.length ++ lP (v.map sw)
theorem fm_u63 : ∀ (last : Int) (v : List Vc.St), fm last v = true → -1 ≤ last → (∀ s ∈ v, 0 < s.1 ∧ last < s.2 ∧ s.2 < 64) ∧ (v.length : Int) ≤ 63 - last ∨ (v = [])
  | _, [], _, _ => .inr rfl
  | last, s :: r, h, hl => by
    rw [fm, Bool.and_eq_true, Bool.and_eq_true, decide_eq_true_eq, Vc.right_iff] at h
    obtain ⟨⟨h1, h2, h3⟩, h4, h5⟩ := h
    refine .inl ?_
    rcases fm_u63 s.2 r h5 (by omega) with ⟨h6, h7⟩ | rfl
    · refine ⟨fun t ht => ?_, by rw [List.length_cons]; omega⟩
      rcases List.mem_cons.1 ht with rfl | ht
      · exact ⟨h1, h4, h3⟩
      · obtain ⟨a, b, c⟩ := h6 t ht
        exact ⟨a, by omega, c⟩
    · refine ⟨fun t ht => ?_, by simp; omega⟩
      rw [List.mem_singleton] at ht
      subst ht
      exact ⟨h1, h4, h3⟩
theorem fm_len {v : List Vc.St} (h : fm (-1) v = true) : v.length ≤ 64 := by
  rcases fm_u63 (-1) v h (by omega) with ⟨_, h2⟩ | rfl
  · omega
  · simp
/-- Counts that a number can hold. -/
def cts (v : List Vc.St) : Prop := ∀ s ∈ v, s.1 < 9223372036854775808
theorem fm_sw {v : List Vc.St} (h : fm (-1) v = true) (hc : cts v) : ∀ s ∈ v.map sw, u63 s.1 ∧ u63 s.2 := by
  intro s hs
  obtain ⟨t, ht, rfl⟩ := List.mem_map.1 hs
  rcases fm_u63 (-1) v h (by omega) with ⟨h2, _⟩ | rfl
  · obtain ⟨a, b, c⟩ := h2 t ht
    have := hc t ht
    exact ⟨⟨by show 0 ≤ t.2; omega, by show t.2 < _; omega⟩, ⟨by show 0 ≤ t.1; omega, this⟩⟩
  · cases ht
theorem pV_lay {v : List Vc.St} (h : fm (-1) v = true) (hc : cts v) (r : List UInt8) : pV (lV v ++ r) = some (v, r) := by
  have := fm_len h
  unfold pV lV
  rw [List.append_assoc, pN_lay (by omega)]
  simp only
  have e := pP_lay (v.map sw) r (fm_sw h hc)
  rw [List.length_map] at e
  rw [e]
  simp only
  rw [sw_sw, if_pos h]
theorem pV_back {l r : List UInt8} {v : List Vc.St} (h : pV l = some (v, r)) : l = lV v ++ r ∧ fm (-1) v = true ∧ cts v := by
  unfold pV at h
  split at h
  · cases h
  · rename_i n r1 h1
    split at h
    · cases h
    · rename_i v' q h2
      split at h
      · rename_i hf
        simp only [Option.some.injEq, Prod.mk.injEq] at h
        obtain ⟨rfl, rfl⟩ := h
        obtain ⟨a1, a2⟩ := pN_back h1
        obtain ⟨b1, b2, b3⟩ := pP_back _ _ _ _ h2
        refine ⟨by rw [a1, b1, lV, sw_sw, List.length_map, b2]; simp, hf, fun s hs => ?_⟩
        obtain ⟨t, ht, rfl⟩ := List.mem_map.1 hs
        exact (b3 t ht).2.2
      · cases h

/-- So many writes. -/
def pW : Nat → List UInt8 → Option (List Wr × List UInt8)
  | 0, l => some ([], l)
  | n + 1, l => match pN l with
    | none => none
    | some (o, r1) => match pN r1 with
      | none => none
      | some (a, r2) => match pN r2 with
        | none => none
        | some (b, r3) => match pN r3 with
          | none => none
          | some (g, r4) => if 1 < g then none else match pW n r4 with
            | none => none
            | some (v, t) => some ((((b : Int), (a : Int)), (o : Int), decide (g = 1)) :: v, t)
def gn (g : Bool) : Nat := if g then 1 else 0
def lW1 (w : Wr) : List UInt8 := Pk.lay w.2.1.toNat ++ (Pk.lay w.1.2.toNat ++ (Pk.lay w.1.1.toNat ++ Pk.lay (gn w.2.2)))
def lW (v : List Wr) : List UInt8 := v.flatMap lW1
theorem lW_cons (w : Wr) (v : List Wr) : lW (w :: v) = lW1 w ++ lW v := by simp [lW]
def wU (w : Wr) : Prop := u63 w.2.1 ∧ u63 w.1.2 ∧ u63 w.1.1
theorem pW_lay : ∀ (v : List Wr) (r : List UInt8), (∀ w ∈ v, wU w) → pW v.length (lW v ++ r) = some (v, r)
  | [], r, _ => rfl
  | w :: v, r, h => by
    obtain ⟨h1, h2, h3⟩ := h w (by simp)
    have e1 := h1.1
    have e2 := h2.1
    have e3 := h3.1
    rw [List.length_cons, pW, lW_cons, lW1, List.append_assoc, List.append_assoc, List.append_assoc, List.append_assoc, pN_layI h1]
    simp only
    rw [pN_layI h2]
    simp only
    rw [pN_layI h3]
    simp only
    rw [pN_lay (by unfold gn; split <;> omega)]
    simp only
    rw [if_neg (by unfold gn; split <;> omega), pW_lay v r fun t ht => h t (by simp [ht])]
    simp only [Int.toNat_of_nonneg e1, Int.toNat_of_nonneg e2, Int.toNat_of_nonneg e3]
    obtain ⟨⟨c, n⟩, o, g⟩ := w
    cases g <;> rfl
theorem pW_back : ∀ (n : Nat) (l : List UInt8) (v : List Wr) (r : List UInt8), pW n l = some (v, r) → l = lW v ++ r ∧ v.length = n ∧ ∀ w ∈ v, wU w
  | 0, l, v, r, h => by
    simp only [pW, Option.some.injEq, Prod.mk.injEq] at h
    obtain ⟨rfl, rfl⟩ := h
    exact ⟨rfl, rfl, fun s hs => by cases hs⟩
  | n + 1, l, v, r, h => by
    rw [pW] at h
    split at h
    · cases h
    · rename_i o r1 h1
      split at h
      · cases h
      · rename_i a r2 h2
        split at h
        · cases h
        · rename_i b r3 h3
          split at h
          · cases h
          · rename_i g r4 h4
            split at h
            · cases h
            · rename_i hg
              split at h
              · cases h
              · rename_i v' t h5
                simp only [Option.some.injEq, Prod.mk.injEq] at h
                obtain ⟨rfl, rfl⟩ := h
                obtain ⟨a1, a2, a3⟩ := pW_back n r4 v' t h5
                obtain ⟨b1, b2⟩ := pN_back h1
                obtain ⟨c1, c2⟩ := pN_back h2
                obtain ⟨d1, d2⟩ := pN_back h3
                obtain ⟨e1, e2⟩ := pN_back h4
                have hgg : gn (decide (g = 1)) = g := by
                  rcases Nat.lt_or_ge g 1 with h | h
                  · obtain rfl : g = 0 := by omega
                    rfl
                  · obtain rfl : g = 1 := by omega
                    rfl
                refine ⟨?_, by simp [a2], fun s hs => ?_⟩
                · rw [b1, c1, d1, e1, a1, lW_cons, lW1]
                  simp only [hgg]
                  simp
                · rcases List.mem_cons.1 hs with rfl | hs
                  · exact ⟨⟨by simp only; omega, by simp only; omega⟩, ⟨by simp only; omega, by simp only; omega⟩, ⟨by simp only; omega, by simp only; omega⟩⟩
                  · exact a3 s hs

/-- The note that bytes begin with. -/
def pNt (l : List UInt8) : Option (Nt × List UInt8) := match pV l with
  | none => none
  | some (s, r1) => match pV r1 with
    | none => none
    | some (e, r2) => match pS r2 with
      | none => none
      | some (b, r3) => match pN r3 with
        | none => none
        | some (n, r4) => match pW n r4 with
          | none => none
          | some (w, r5) => if ntF ⟨s, e, b, w⟩ = true then some (⟨s, e, b, w⟩, r5) else none
def lNt (x : Nt) : List UInt8 := lV x.s ++ (lV x.e ++ (lS x.b ++ (Pk.lay x.w.length ++ lW x.w)))
theorem ntF_parts {x : Nt} (h : ntF x = true) : fm (-1) x.s = true ∧ fm (-1) x.e = true ∧ Sn.fmS (-2) x.b = true ∧ ntW x.e x.b (-1) x.w = true := by
  unfold ntF ntH at h
  simp only [Bool.and_eq_true] at h
  exact ⟨h.1.1, h.1.2.1, h.1.2.2.2, h.2⟩
/-- Counts that numbers can hold. -/
def ntC (x : Nt) : Prop := cts x.s ∧ cts x.e ∧ ∀ w ∈ x.w, w.1.1 < 9223372036854775808
theorem ntW_all (e : List Vc.St) (b : List Sn.Sp) : ∀ (last : Int) (l : List Wr), ntW e b last l = true → -1 ≤ last → (∀ w ∈ l, 0 ≤ w.2.1 ∧ w.2.1 ≤ 255 ∧ last < w.2.1 ∧ 0 < w.1.1 ∧ 0 ≤ w.1.2 ∧ w.1.2 < 64) ∧ ((l.length : Int) ≤ 255 - last ∨ l = [])
  | _, [], _, _ => ⟨(fun w hw => by cases hw), Or.inr rfl⟩
  | last, w :: r, h, hl => by
    rw [ntW, Bool.and_eq_true] at h
    obtain ⟨h1, h2⟩ := h
    unfold wOk hasB at h1
    simp only [Bool.and_eq_true, decide_eq_true_eq] at h1
    obtain ⟨a1, ⟨a2, a3⟩, _, a5, _⟩ := h1
    obtain ⟨b1, b2, b3⟩ := (Vc.right_iff _).1 a5
    obtain ⟨c1, c2⟩ := ntW_all e b w.2.1 r h2 (by omega)
    refine ⟨fun t ht => ?_, .inl ?_⟩
    · rcases List.mem_cons.1 ht with rfl | ht
      · exact ⟨a2, a3, a1, b1, b2, b3⟩
      · obtain ⟨d1, d2, d3, d4⟩ := c1 t ht
        exact ⟨d1, d2, by omega, d4⟩
    · rw [List.length_cons]
      rcases c2 with c2 | rfl
      · omega
      · simp; omega
theorem ntW_len {e : List Vc.St} {b : List Sn.Sp} {l : List Wr} (h : ntW e b (-1) l = true) : l.length ≤ 256 := by
  rcases (ntW_all e b (-1) l h (by omega)).2 with h2 | rfl
  · omega
  · simp
theorem ntW_u {x : Nt} (h : ntF x = true) (hc : ntC x) : ∀ w ∈ x.w, wU w := by
  obtain ⟨_, _, _, h4⟩ := ntF_parts h
  intro w hw
  obtain ⟨a1, a2, a3, a4, a5, a6⟩ := (ntW_all _ _ _ _ h4 (by omega)).1 w hw
  exact ⟨⟨a1, by omega⟩, ⟨a5, by omega⟩, ⟨by omega, hc.2.2 w hw⟩⟩
theorem pNt_lay {x : Nt} (h : ntF x = true) (hc : ntC x) (r : List UInt8) : pNt (lNt x ++ r) = some (x, r) := by
  obtain ⟨h1, h2, h3, h4⟩ := ntF_parts h
  have hl := ntW_len h4
  unfold pNt lNt
  rw [List.append_assoc, pV_lay h1 hc.1]
  simp only
  rw [List.append_assoc, pV_lay h2 hc.2.1]
  simp only
  rw [List.append_assoc, pS_lay h3]
  simp only
  rw [List.append_assoc, pN_lay (by omega)]
  simp only
  rw [pW_lay _ _ (ntW_u h hc)]
  simp only
  rw [if_pos h]
theorem pNt_back {l r : List UInt8} {x : Nt} (h : pNt l = some (x, r)) : l = lNt x ++ r ∧ ntF x = true ∧ ntC x := by
  unfold pNt at h
  split at h
  · cases h
  · rename_i s r1 h1
    split at h
    · cases h
    · rename_i e r2 h2
      split at h
      · cases h
      · rename_i b r3 h3
        split at h
        · cases h
        · rename_i n r4 h4
          split at h
          · cases h
          · rename_i w r5 h5
            split at h
            · rename_i hf
              simp only [Option.some.injEq, Prod.mk.injEq] at h
              obtain ⟨rfl, rfl⟩ := h
              obtain ⟨a1, a2, a3⟩ := pV_back h1
              obtain ⟨b1, b2, b3⟩ := pV_back h2
              obtain ⟨c1, c2⟩ := pS_back h3
              obtain ⟨d1, d2⟩ := pN_back h4
              obtain ⟨e1, e2, e3⟩ := pW_back _ _ _ _ h5
              refine ⟨?_, hf, a3, b3, fun t ht => (e3 t ht).2.2.2⟩
              rw [a1, b1, c1, d1, e1, lNt, e2]
              simp
            · cases h

/-- A body. -/
structure Bd where
  o : Int
  s : Vc.St
  v : List UInt8
def bdF (x : Bd) : Bool := (decide (0 ≤ x.o) && decide (x.o ≤ 255)) && (Vc.right x.s && decide (x.v.length ≤ 256))
theorem bdF_iff (x : Bd) : bdF x = true ↔ 0 ≤ x.o ∧ x.o ≤ 255 ∧ 0 < x.s.1 ∧ 0 ≤ x.s.2 ∧ x.s.2 < 64 ∧ x.v.length ≤ 256 := by
  unfold bdF
  rw [Bool.and_eq_true, Bool.and_eq_true, Bool.and_eq_true, Vc.right_iff, decide_eq_true_eq, decide_eq_true_eq, decide_eq_true_eq]
  constructor
  · rintro ⟨⟨a, b⟩, ⟨c, d, e⟩, f⟩; exact ⟨a, b, c, d, e, f⟩
  · rintro ⟨a, b, c, d, e, f⟩; exact ⟨⟨a, b⟩, ⟨c, d, e⟩, f⟩
/-- The body that bytes begin with. -/
def pB (l : List UInt8) : Option (Bd × List UInt8) := match pN l with
  | none => none
  | some (o, r1) => match pN r1 with
    | none => none
    | some (a, r2) => match pN r2 with
      | none => none
      | some (b, r3) => match pR 256 r3 with
        | none => none
        | some (v, r4) => if bdF ⟨(o : Int), ((b : Int), (a : Int)), v⟩ = true then some (⟨(o : Int), ((b : Int), (a : Int)), v⟩, r4) else none
def lB (x : Bd) : List UInt8 := Pk.lay x.o.toNat ++ (Pk.lay x.s.2.toNat ++ (Pk.lay x.s.1.toNat ++ lR x.v))
theorem pB_lay {x : Bd} (h : bdF x = true) (hc : x.s.1 < 9223372036854775808) (r : List UInt8) : pB (lB x ++ r) = some (x, r) := by
  obtain ⟨a, b, c, d, e, f⟩ := (bdF_iff x).1 h
  unfold pB lB
  rw [List.append_assoc, pN_layI ⟨a, by omega⟩]
  simp only
  rw [List.append_assoc, pN_layI ⟨d, by omega⟩]
  simp only
  rw [List.append_assoc, pN_layI ⟨by omega, hc⟩]
  simp only
  rw [pR_lay f (by omega)]
  simp only [Int.toNat_of_nonneg a, Int.toNat_of_nonneg d, Int.toNat_of_nonneg (Int.le_of_lt c)]
  rw [if_pos h]
theorem pB_back {l r : List UInt8} {x : Bd} (h : pB l = some (x, r)) : l = lB x ++ r ∧ bdF x = true ∧ x.s.1 < 9223372036854775808 := by
  unfold pB at h
  split at h
  · cases h
  · rename_i o r1 h1
    split at h
    · cases h
    · rename_i a r2 h2
      split at h
      · cases h
      · rename_i b r3 h3
        split at h
        · cases h
        · rename_i v r4 h4
          split at h
          · rename_i hf
            simp only [Option.some.injEq, Prod.mk.injEq] at h
            obtain ⟨rfl, rfl⟩ := h
            obtain ⟨a1, a2⟩ := pN_back h1
            obtain ⟨b1, b2⟩ := pN_back h2
            obtain ⟨c1, c2⟩ := pN_back h3
            obtain ⟨d1, d2⟩ := pR_back h4
            refine ⟨?_, hf, by simp only; omega⟩
            rw [a1, b1, c1, d1, lB]
            simp
          · cases h
end Go.Proofs.YtndlcimckfndiaaDoor.Wq
