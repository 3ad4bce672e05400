/- Plain laws of messages as bytes, with no program in sight: what is laid is read, what is read is laid. -/
import Derived.Test.YtndlcimckfndiaaDoorWr1
namespace Go.Proofs.YtndlcimckfndiaaDoor.Wq

/-- So many notes. -/
def pL : Nat → List UInt8 → Option (List Nt × List UInt8)
  | 0, l => some ([], l)
  | n + 1, l => match pNt l with
    | none => none
    | some (x, r) => match pL n r with
      | none => none
      | some (v, t) => some (x :: v, t)
def lL (v : List Nt) : List UInt8 := v.flatMap lNt
theorem lL_cons (x : Nt) (v : List Nt) : lL (x :: v) = lNt x ++ lL v := by simp [lL]
theorem pL_lay : ∀ (v : List Nt) (r : List UInt8), (∀ x ∈ v, ntF x = true ∧ ntC x) → pL v.length (lL v ++ r) = some (v, r)
  | [], r, _ => rfl
  | x :: v, r, h => by
    obtain ⟨h1, h2⟩ := h x (by simp)
    rw [List.length_cons, pL, lL_cons, List.append_assoc, pNt_lay h1 h2]
    simp only
    rw [pL_lay v r fun t ht => h t (by simp [ht])]
theorem pL_back : ∀ (n : Nat) (l : List UInt8) (v : List Nt) (r : List UInt8), pL n l = some (v, r) → l = lL v ++ r ∧ v.length = n ∧ ∀ x ∈ v, ntF x = true ∧ ntC x
  | 0, l, v, r, h => by
    simp only [pL, Option.some.injEq, Prod.mk.injEq] at h
    obtain ⟨rfl, rfl⟩ := h
    exact ⟨rfl, rfl, fun s hs => by cases hs⟩
  | n + 1, l, v, r, h => by
    rw [pL] at h
    split at h
    · cases h
    · rename_i x r1 h1
      split at h
      · cases h
      · rename_i v' t h2
        simp only [Option.some.injEq, Prod.mk.injEq] at h
        obtain ⟨rfl, rfl⟩ := h
        obtain ⟨a1, a2, a3⟩ := pL_back n r1 v' t h2
        obtain ⟨b1, b2⟩ := pNt_back h1
        refine ⟨by rw [b1, a1, lL_cons]; simp, by simp [a2], fun s hs => ?_⟩
        rcases List.mem_cons.1 hs with rfl | hs
        · exact b2
        · exact a3 s hs

/-- A message: kind, from, to, session, seq, interest, vector, notes, body. -/
structure Ms where
  k : Int
  f : Int
  t : Int
  n : Int
  q : Int
  i : List Sn.Sp
  v : List Vc.St
  l : List Nt
  b : Bd
def bd0 : Bd := ⟨0, (0, 0), []⟩
def ms0 : Ms := ⟨0, 0, 0, 0, 0, [], [], [], bd0⟩
def emB (x : Bd) : Bool := (decide (x.s.1 = 0) && decide (x.s.2 = 0)) && decide (x.v.length = 0)
def subE (m : Ms) : Bool := decide (m.i.length = 0) && decide (m.v.length = 0)
def rowE (m : Ms) : Bool := decide (m.n = 0) && (decide (m.q = 0) && decide (m.l.length = 0))
def nonE (m : Ms) : Bool := decide (m.b.o = 0) && emB m.b
def headF (m : Ms) : Bool := (decide (0 ≤ m.f) && decide (m.f ≤ 63)) && ((decide (0 ≤ m.t) && decide (m.t ≤ 63)) && (decide (0 ≤ m.n) && (decide (0 ≤ m.q) && decide (m.l.length ≤ 257))))
def kindF (m : Ms) : Bool :=
  if m.k = 1 then decide (m.q = 0) && (decide (m.l.length = 0) && (nonE m && (decide (0 < m.i.length) && (Sn.fmS (-2) m.i && fm (-1) m.v))))
  else if m.k = 2 then subE m && (rowE m && nonE m)
  else if m.k = 3 then m.l.all ntF && (subE m && nonE m)
  else if m.k = 4 then subE m && (rowE m && ((decide (0 ≤ m.b.o) && decide (m.b.o ≤ 255)) && emB m.b))
  else if m.k = 5 then subE m && (rowE m && bdF m.b)
  else false
def fmM (m : Ms) : Bool := headF m && kindF m
/-- What a message's kind lays behind its head. -/
def lK (m : Ms) : List UInt8 :=
  if m.k = 1 then Pk.lay m.n.toNat ++ (lS m.i ++ lV m.v)
  else if m.k = 3 then Pk.lay m.n.toNat ++ (Pk.lay m.q.toNat ++ (Pk.lay m.l.length ++ lL m.l))
  else if m.k = 4 then Pk.lay m.b.o.toNat
  else if m.k = 5 then lB m.b
  else []
def enc (m : Ms) : List UInt8 := Pk.lay m.k.toNat ++ (Pk.lay m.f.toNat ++ (Pk.lay m.t.toNat ++ lK m))
/-- What a message's kind reads. -/
def pK (k f t : Nat) (l : List UInt8) : Option (Ms × List UInt8) :=
  if k = 1 then match pN l with
    | none => none
    | some (n, r1) => match pS r1 with
      | none => none
      | some (i, r2) => match pV r2 with
        | none => none
        | some (v, r3) => some (⟨1, f, t, n, 0, i, v, [], bd0⟩, r3)
  else if k = 3 then match pN l with
    | none => none
    | some (n, r1) => match pN r1 with
      | none => none
      | some (q, r2) => match pN r2 with
        | none => none
        | some (c, r3) => if 257 < c then none else match pL c r3 with
          | none => none
          | some (v, r4) => some (⟨3, f, t, n, q, [], [], v, bd0⟩, r4)
  else if k = 4 then match pN l with
    | none => none
    | some (o, r1) => some (⟨4, f, t, 0, 0, [], [], [], ⟨o, (0, 0), []⟩⟩, r1)
  else if k = 5 then match pB l with
    | none => none
    | some (b, r1) => some (⟨5, f, t, 0, 0, [], [], [], b⟩, r1)
  else some (⟨k, f, t, 0, 0, [], [], [], bd0⟩, l)
def pM (l : List UInt8) : Option (Ms × List UInt8) := match pN l with
  | none => none
  | some (k, r1) => match pN r1 with
    | none => none
    | some (f, r2) => match pN r2 with
      | none => none
      | some (t, r3) => pK k f t r3
/-- The message of bytes. -/
def dec (l : List UInt8) : Option Ms := match pM l with
  | none => none
  | some (m, r) => if r = [] ∧ fmM m = true then some m else none
/-- Numbers that can be laid. -/
def msC (m : Ms) : Prop := m.n < 9223372036854775808 ∧ m.q < 9223372036854775808 ∧ cts m.v ∧ (∀ x ∈ m.l, ntC x) ∧ m.b.s.1 < 9223372036854775808
theorem emB_iff (x : Bd) : emB x = true ↔ x.s = (0, 0) ∧ x.v = [] := by
  unfold emB
  rw [Bool.and_eq_true, Bool.and_eq_true, decide_eq_true_eq, decide_eq_true_eq, decide_eq_true_eq, List.length_eq_zero_iff]
  constructor
  · rintro ⟨⟨a, b⟩, c⟩; exact ⟨Prod.ext a b, c⟩
  · rintro ⟨a, c⟩; rw [a]; exact ⟨⟨rfl, rfl⟩, c⟩
theorem nonE_iff (m : Ms) : nonE m = true ↔ m.b = bd0 := by
  unfold nonE
  rw [Bool.and_eq_true, decide_eq_true_eq, emB_iff]
  obtain ⟨_, _, _, _, _, _, _, _, ⟨o, s, v⟩⟩ := m
  simp [bd0]
theorem subE_iff (m : Ms) : subE m = true ↔ m.i = [] ∧ m.v = [] := by
  unfold subE
  rw [Bool.and_eq_true, decide_eq_true_eq, decide_eq_true_eq, List.length_eq_zero_iff, List.length_eq_zero_iff]
theorem rowE_iff (m : Ms) : rowE m = true ↔ m.n = 0 ∧ m.q = 0 ∧ m.l = [] := by
  unfold rowE
  rw [Bool.and_eq_true, Bool.and_eq_true, decide_eq_true_eq, decide_eq_true_eq, decide_eq_true_eq, List.length_eq_zero_iff]
theorem headF_iff (m : Ms) : headF m = true ↔ (0 ≤ m.f ∧ m.f ≤ 63) ∧ (0 ≤ m.t ∧ m.t ≤ 63) ∧ 0 ≤ m.n ∧ 0 ≤ m.q ∧ m.l.length ≤ 257 := by
  unfold headF
  simp only [Bool.and_eq_true, decide_eq_true_eq]
theorem fm_kind {m : Ms} (h : fmM m = true) : m.k = 1 ∨ m.k = 2 ∨ m.k = 3 ∨ m.k = 4 ∨ m.k = 5 := by
  unfold fmM kindF at h
  rw [Bool.and_eq_true] at h
  obtain ⟨_, h⟩ := h
  split at h
  · exact .inl ‹_›
  · split at h
    · exact .inr (.inl ‹_›)
    · split at h
      · exact .inr (.inr (.inl ‹_›))
      · split at h
        · exact .inr (.inr (.inr (.inl ‹_›)))
        · split at h
          · exact .inr (.inr (.inr (.inr ‹_›)))
          · cases h
theorem pK_lay {m : Ms} (h : fmM m = true) (hc : msC m) (r : List UInt8) : pK m.k.toNat m.f.toNat m.t.toNat (lK m ++ r) = some (m, r) := by
  obtain ⟨h0, h1⟩ := Bool.and_eq_true_iff.1 h
  obtain ⟨⟨f0, f1⟩, ⟨t0, t1⟩, n0, q0, l0⟩ := (headF_iff m).1 h0
  obtain ⟨c1, c2, c3, c4, c5⟩ := hc
  have hk := fm_kind h
  obtain ⟨k, f, t, n, q, i, v, l, b⟩ := m
  simp only at hk f0 f1 t0 t1 n0 q0 l0 c1 c2 c3 c4 c5
  have ef : ((f.toNat : Nat) : Int) = f := Int.toNat_of_nonneg f0
  have et : ((t.toNat : Nat) : Int) = t := Int.toNat_of_nonneg t0
  have en : ((n.toNat : Nat) : Int) = n := Int.toNat_of_nonneg n0
  have eq : ((q.toNat : Nat) : Int) = q := Int.toNat_of_nonneg q0
  rcases hk with rfl | rfl | rfl | rfl | rfl
  · simp only [kindF, if_true, Bool.and_eq_true, decide_eq_true_eq, nonE_iff] at h1
    obtain ⟨rfl, a2, rfl, a4, a5, a6⟩ := h1
    obtain rfl := List.length_eq_zero_iff.1 a2
    unfold pK lK
    simp only [show Int.toNat 1 = 1 from rfl, if_true, List.append_assoc]
    rw [pN_layI ⟨n0, c1⟩]
    simp only
    rw [pS_lay a5]
    simp only
    rw [pV_lay a6 c3]
    simp only [ef, et, en]
  · simp only [kindF, show ¬ ((2 : Int) = 1) by decide, if_false, if_true, Bool.and_eq_true, subE_iff, rowE_iff, nonE_iff] at h1
    obtain ⟨⟨rfl, rfl⟩, ⟨rfl, rfl, rfl⟩, rfl⟩ := h1
    unfold pK lK
    simp [ef, et]
  · simp only [kindF, show ¬ ((3 : Int) = 1) by decide, show ¬ ((3 : Int) = 2) by decide, if_false, if_true, Bool.and_eq_true, subE_iff, nonE_iff, List.all_eq_true] at h1
    obtain ⟨a1, ⟨rfl, rfl⟩, rfl⟩ := h1
    unfold pK lK
    simp only [show Int.toNat 3 = 3 from rfl, show ¬ ((3 : Nat) = 1) by decide, show ¬ ((3 : Int) = 1) by decide, if_false, if_true, List.append_assoc]
    rw [pN_layI ⟨n0, c1⟩]
    simp only
    rw [pN_layI ⟨q0, c2⟩]
    simp only
    rw [pN_lay (by omega)]
    simp only
    rw [if_neg (by omega), pL_lay l r fun x hx => ⟨a1 x hx, c4 x hx⟩]
    simp only [ef, et, en, eq]
  · simp only [kindF, show ¬ ((4 : Int) = 1) by decide, show ¬ ((4 : Int) = 2) by decide, show ¬ ((4 : Int) = 3) by decide, if_false, if_true, Bool.and_eq_true, subE_iff, rowE_iff, emB_iff, decide_eq_true_eq] at h1
    obtain ⟨⟨rfl, rfl⟩, ⟨rfl, rfl, rfl⟩, ⟨o0, o1⟩, e1, e2⟩ := h1
    obtain ⟨o, s, bv⟩ := b
    simp only at o0 o1 e1 e2
    subst e1 e2
    unfold pK lK
    simp only [show Int.toNat 4 = 4 from rfl, show ¬ ((4 : Nat) = 1) by decide, show ¬ ((4 : Nat) = 3) by decide, show ¬ ((4 : Int) = 1) by decide, show ¬ ((4 : Int) = 3) by decide, if_false, if_true]
    rw [pN_layI ⟨o0, by omega⟩]
    simp only [ef, et, Int.toNat_of_nonneg o0]
  · simp only [kindF, show ¬ ((5 : Int) = 1) by decide, show ¬ ((5 : Int) = 2) by decide, show ¬ ((5 : Int) = 3) by decide, show ¬ ((5 : Int) = 4) by decide, if_false, if_true, Bool.and_eq_true, subE_iff, rowE_iff] at h1
    obtain ⟨⟨rfl, rfl⟩, ⟨rfl, rfl, rfl⟩, a3⟩ := h1
    unfold pK lK
    simp only [show Int.toNat 5 = 5 from rfl, show ¬ ((5 : Nat) = 1) by decide, show ¬ ((5 : Nat) = 3) by decide, show ¬ ((5 : Nat) = 4) by decide, show ¬ ((5 : Int) = 1) by decide, show ¬ ((5 : Int) = 3) by decide, show ¬ ((5 : Int) = 4) by decide, if_false, if_true]
    rw [pB_lay a3 c5]
    simp only [ef, et]
theorem pM_lay {m : Ms} (h : fmM m = true) (hc : msC m) (r : List UInt8) : pM (enc m ++ r) = some (m, r) := by
  have hk := fm_kind h
  obtain ⟨h0, h1⟩ := Bool.and_eq_true_iff.1 h
  obtain ⟨⟨f0, f1⟩, ⟨t0, t1⟩, _⟩ := (headF_iff m).1 h0
  unfold pM enc
  rw [List.append_assoc, pN_layI ⟨by omega, by omega⟩]
  simp only
  rw [List.append_assoc, pN_layI ⟨f0, by omega⟩]
  simp only
  rw [List.append_assoc, pN_layI ⟨t0, by omega⟩]
  simp only
  exact pK_lay h hc r
theorem dec_enc {m : Ms} (h : fmM m = true) (hc : msC m) : dec (enc m) = some m := by
  have := pM_lay h hc []
  rw [List.append_nil] at this
  unfold dec
  rw [this]
  simp [h]
theorem dec_more {m : Ms} (h : fmM m = true) (hc : msC m) (c : UInt8) : dec (enc m ++ [c]) = none := by
  unfold dec
  rw [pM_lay h hc [c]]
  simp
theorem cts_nil : cts [] := fun s hs => by cases hs
theorem pK_back {k f t : Nat} {l r : List UInt8} {m : Ms} (h : pK k f t l = some (m, r)) : l = lK m ++ r ∧ m.k = (k : Int) ∧ m.f = (f : Int) ∧ m.t = (t : Int) ∧ msC m := by
  unfold pK at h
  split at h
  · rename_i hk
    subst hk
    split at h
    · cases h
    · rename_i n r1 h1
      split at h
      · cases h
      · rename_i i r2 h2
        split at h
        · cases h
        · rename_i v r3 h3
          simp only [Option.some.injEq, Prod.mk.injEq] at h
          obtain ⟨rfl, rfl⟩ := h
          obtain ⟨a1, a2⟩ := pN_back h1
          obtain ⟨b1, b2⟩ := pS_back h2
          obtain ⟨c1, c2, c3⟩ := pV_back h3
          refine ⟨by rw [a1, b1, c1]; unfold lK; simp, rfl, rfl, rfl, by simp only; omega, by simp, c3, (fun x hx => by cases hx), by simp [bd0]⟩
  · split at h
    · rename_i hk
      subst hk
      split at h
      · cases h
      · rename_i n r1 h1
        split at h
        · cases h
        · rename_i q r2 h2
          split at h
          · cases h
          · rename_i c r3 h3
            split at h
            · cases h
            · split at h
              · cases h
              · rename_i v r4 h4
                simp only [Option.some.injEq, Prod.mk.injEq] at h
                obtain ⟨rfl, rfl⟩ := h
                obtain ⟨a1, a2⟩ := pN_back h1
                obtain ⟨b1, b2⟩ := pN_back h2
                obtain ⟨c1, c2⟩ := pN_back h3
                obtain ⟨d1, d2, d3⟩ := pL_back _ _ _ _ h4
                refine ⟨by rw [a1, b1, c1, d1]; unfold lK; simp [d2], rfl, rfl, rfl, by simp only; omega, by simp only; omega, cts_nil, fun x hx => (d3 x hx).2, by simp [bd0]⟩
    · split at h
      · rename_i hk
        subst hk
        split at h
        · cases h
        · rename_i o r1 h1
          simp only [Option.some.injEq, Prod.mk.injEq] at h
          obtain ⟨rfl, rfl⟩ := h
          obtain ⟨a1, a2⟩ := pN_back h1
          refine ⟨by rw [a1]; unfold lK; simp, rfl, rfl, rfl, by simp, by simp, cts_nil, (fun x hx => by cases hx), by simp⟩
      · split at h
        · rename_i hk
          subst hk
          split at h
          · cases h
          · rename_i b r1 h1
            simp only [Option.some.injEq, Prod.mk.injEq] at h
            obtain ⟨rfl, rfl⟩ := h
            obtain ⟨a1, a2, a3⟩ := pB_back h1
            refine ⟨by rw [a1]; unfold lK; simp, rfl, rfl, rfl, by simp, by simp, cts_nil, (fun x hx => by cases hx), a3⟩
        · rename_i k1 k3 k4 k5
          simp only [Option.some.injEq, Prod.mk.injEq] at h
          obtain ⟨rfl, rfl⟩ := h
          refine ⟨?_, rfl, rfl, rfl, by simp, by simp, cts_nil, (fun x hx => by cases hx), by simp [bd0]⟩
          unfold lK
          simp only
          rw [if_neg (by omega), if_neg (by omega), if_neg (by omega), if_neg (by omega)]
          rfl
theorem dec_back {l : List UInt8} {m : Ms} (h : dec l = some m) : l = enc m ∧ fmM m = true ∧ msC m := by
  unfold dec at h
  split at h
  · cases h
  · rename_i m' r hp
    split at h
    · rename_i hr
      injection h with h
      subst h
      obtain ⟨rfl, hf⟩ := hr
      unfold pM at hp
      split at hp
      · cases hp
      · rename_i k r1 h1
        split at hp
        · cases hp
        · rename_i f r2 h2
          split at hp
          · cases hp
          · rename_i t r3 h3
            obtain ⟨a1, a2⟩ := pN_back h1
            obtain ⟨b1, b2⟩ := pN_back h2
            obtain ⟨c1, c2⟩ := pN_back h3
            obtain ⟨d1, d2, d3, d4, d5⟩ := pK_back hp
            refine ⟨?_, hf, d5⟩
            rw [a1, b1, c1, d1, enc, d2, d3, d4]
            simp
    · cases h
end Go.Proofs.YtndlcimckfndiaaDoor.Wq
