/- Plain laws of steps as bytes, with no program in sight. -/
import Derived.Test.YtldcgmnfohhjbacWr0
namespace Go.Proofs.Ytldcgmnfohhjbac.Sc
open Wq

/-- A step. -/
structure Stp where
  kind : Int
  a : Int
  b : Int
  obj : Int
  n : Int
  s : List Sn.Sp
  v : List UInt8
theorem Stp.eq_iff (x y : Stp) : x = y ↔ x.kind = y.kind ∧ x.a = y.a ∧ x.b = y.b ∧ x.obj = y.obj ∧ x.n = y.n ∧ x.s = y.s ∧ x.v = y.v := by
  obtain ⟨a1, a2, a3, a4, a5, a6, a7⟩ := x
  obtain ⟨b1, b2, b3, b4, b5, b6, b7⟩ := y
  simp
/-- Is it formed? -/
def fmP (x : Stp) : Prop := 1 ≤ x.kind ∧ x.kind ≤ 15 ∧ 0 ≤ x.a ∧ 0 ≤ x.b ∧ 0 ≤ x.obj ∧ 0 ≤ x.n ∧ Sn.fmS (-2) x.s = true ∧ x.v.length ≤ 256
instance (x : Stp) : Decidable (fmP x) := by unfold fmP; infer_instance
def fmB (x : Stp) : Bool := decide (fmP x)
/-- A step's numbers can be laid (they are ints). -/
def small (x : Stp) : Prop := x.a < 9223372036854775808 ∧ x.b < 9223372036854775808 ∧ x.obj < 9223372036854775808 ∧ x.n < 9223372036854775808
/-- A step's bytes. -/
def enc (x : Stp) : List UInt8 := Pk.lay x.kind.toNat ++ (Pk.lay x.a.toNat ++ (Pk.lay x.b.toNat ++ (Pk.lay x.obj.toNat ++ (Pk.lay x.n.toNat ++ (lS x.s ++ lR x.v)))))
/-- Five numbers. -/
def p5 (l : List UInt8) : Option ((Int × Int × Int × Int × Int) × List UInt8) := match pN l with
  | none => none
  | some (k, l1) => match pN l1 with
    | none => none
    | some (a, l2) => match pN l2 with
      | none => none
      | some (b, l3) => match pN l3 with
        | none => none
        | some (o, l4) => match pN l4 with
          | none => none
          | some (n, l5) => some (((k : Int), (a : Int), (b : Int), (o : Int), (n : Int)), l5)
/-- The step of bytes. -/
def dec (l : List UInt8) : Option Stp := match p5 l with
  | none => none
  | some ((k, a, b, o, n), l5) => match pS l5 with
    | none => none
    | some (s, l6) => match pR 256 l6 with
      | none => none
      | some (v, l7) => if l7 = [] ∧ fmP ⟨k, a, b, o, n, s, v⟩ then some ⟨k, a, b, o, n, s, v⟩ else none
theorem dec_enc {x : Stp} (h : fmP x) (hs : small x) : dec (enc x) = some x := by
  obtain ⟨h1, h2, h3, h4, h5, h6, h7, h8⟩ := h
  obtain ⟨s1, s2, s3, s4⟩ := hs
  unfold dec p5 enc
  rw [pN_lay (by omega)]
  simp only
  rw [pN_lay (by omega)]
  simp only
  rw [pN_lay (by omega)]
  simp only
  rw [pN_lay (by omega)]
  simp only
  rw [pN_lay (by omega)]
  simp only
  rw [pS_lay h7]
  simp only
  have := pR_lay (most := 256) h8 (by omega) []
  rw [List.append_nil] at this
  rw [this]
  simp only [Int.toNat_of_nonneg (show 0 ≤ x.kind by omega), Int.toNat_of_nonneg h3, Int.toNat_of_nonneg h4, Int.toNat_of_nonneg h5, Int.toNat_of_nonneg h6]
  rw [if_pos ⟨trivial, h1, h2, h3, h4, h5, h6, h7, h8⟩]
theorem p5_back {l r : List UInt8} {k a b o n : Int} (h : p5 l = some ((k, a, b, o, n), r)) :
    l = Pk.lay k.toNat ++ (Pk.lay a.toNat ++ (Pk.lay b.toNat ++ (Pk.lay o.toNat ++ (Pk.lay n.toNat ++ r)))) ∧ u63 k ∧ u63 a ∧ u63 b ∧ u63 o ∧ u63 n := by
  unfold p5 at h
  split at h
  · cases h
  rename_i k' l1 h1
  split at h
  · cases h
  rename_i a' l2 h2
  split at h
  · cases h
  rename_i b' l3 h3
  split at h
  · cases h
  rename_i o' l4 h4
  split at h
  · cases h
  rename_i n' l5 h5
  simp only [Option.some.injEq, Prod.mk.injEq] at h
  obtain ⟨⟨rfl, rfl, rfl, rfl, rfl⟩, rfl⟩ := h
  obtain ⟨a1, b1⟩ := pN_back h1
  obtain ⟨a2, b2⟩ := pN_back h2
  obtain ⟨a3, b3⟩ := pN_back h3
  obtain ⟨a4, b4⟩ := pN_back h4
  obtain ⟨a5, b5⟩ := pN_back h5
  refine ⟨by rw [a1, a2, a3, a4, a5]; simp, ?_, ?_, ?_, ?_, ?_⟩ <;> exact ⟨by omega, by omega⟩
theorem dec_back {l : List UInt8} {x : Stp} (h : dec l = some x) : enc x = l ∧ fmP x ∧ small x := by
  unfold dec at h
  split at h
  · cases h
  rename_i k a b o n l5 h5
  split at h
  · cases h
  rename_i s l6 h6
  split at h
  · cases h
  rename_i v l7 h7
  split at h
  · rename_i hf
    obtain ⟨rfl, hf⟩ := hf
    simp only [Option.some.injEq] at h
    subst h
    obtain ⟨e1, u1, u2, u3, u4, u5⟩ := p5_back h5
    obtain ⟨e2, _⟩ := pS_back h6
    obtain ⟨e3, _⟩ := pR_back h7
    exact ⟨by rw [e1, e2, e3]; simp [enc], hf, u2.2, u3.2, u4.2, u5.2⟩
  · cases h
/-- So many numbers. -/
def pNs : Nat → List UInt8 → Option (List Nat × List UInt8)
  | 0, l => some ([], l)
  | k + 1, l => match pNs k l with
    | none => none
    | some (ys, r) => match pN r with
      | none => none
      | some (x, q) => some (ys ++ [x], q)
theorem pNs_len : ∀ (k : Nat) (l : List UInt8) (ys : List Nat) (r : List UInt8), pNs k l = some (ys, r) → ys.length = k
  | 0, l, ys, r, h => by
    simp only [pNs, Option.some.injEq, Prod.mk.injEq] at h
    rw [← h.1]; rfl
  | k + 1, l, ys, r, h => by
    rw [pNs] at h
    split at h
    · cases h
    · rename_i ys' r' h1
      split at h
      · cases h
      · simp only [Option.some.injEq, Prod.mk.injEq] at h
        rw [← h.1, List.length_append, pNs_len k l ys' r' h1]; rfl
theorem pNs_no {k : Nat} {l : List UInt8} (h : pNs k l = none) : ∀ m, k ≤ m → pNs m l = none := by
  intro m hm
  induction m with
  | zero => obtain rfl : k = 0 := by omega
            exact h
  | succ m ih =>
    rcases Nat.lt_or_ge k (m + 1) with h1 | h1
    · rw [pNs, ih (by omega)]
    · obtain rfl : k = m + 1 := by omega
      exact h
theorem pNs_step {k : Nat} {l r q : List UInt8} {ys : List Nat} {x : Nat} (h : pNs k l = some (ys, r)) (h2 : pN r = some (x, q)) : pNs (k + 1) l = some (ys ++ [x], q) := by
  rw [pNs, h]; simp only; rw [h2]
theorem pNs_stop {k : Nat} {l r : List UInt8} {ys : List Nat} (h : pNs k l = some (ys, r)) (h2 : pN r = none) : pNs (k + 1) l = none := by
  rw [pNs, h]; simp only; rw [h2]
theorem p5_pNs (l : List UInt8) : p5 l = match pNs 5 l with | some ([k, a, b, o, n], r) => some (((k : Int), (a : Int), (b : Int), (o : Int), (n : Int)), r) | _ => none := by
  unfold p5
  rcases h1 : pN l with _ | ⟨a1, l1⟩
  · rw [pNs_no (pNs_stop (k := 0) rfl h1) 5 (by omega)]
  have q1 := pNs_step (k := 0) rfl h1
  simp only
  rcases h2 : pN l1 with _ | ⟨a2, l2⟩
  · rw [pNs_no (pNs_stop q1 h2) 5 (by omega)]
  have q2 := pNs_step q1 h2
  simp only
  rcases h3 : pN l2 with _ | ⟨a3, l3⟩
  · rw [pNs_no (pNs_stop q2 h3) 5 (by omega)]
  have q3 := pNs_step q2 h3
  simp only
  rcases h4 : pN l3 with _ | ⟨a4, l4⟩
  · rw [pNs_no (pNs_stop q3 h4) 5 (by omega)]
  have q4 := pNs_step q3 h4
  simp only
  rcases h5 : pN l4 with _ | ⟨a5, l5⟩
  · rw [pNs_no (pNs_stop q4 h5) 5 (by omega)]
  have q5 := pNs_step q4 h5
  rw [q5]
  simp
theorem dec_no5 {l : List UInt8} (h : pNs 5 l = none) : dec l = none := by unfold dec; rw [p5_pNs, h]
section
variable {l l5 l6 l7 : List UInt8} {k a b o n : Nat} {s : List Sn.Sp} {v : List UInt8}
theorem dec_noS (h : pNs 5 l = some ([k, a, b, o, n], l5)) (h2 : pS l5 = none) : dec l = none := by unfold dec; rw [p5_pNs, h]; simp only; rw [h2]
theorem dec_noR (h : pNs 5 l = some ([k, a, b, o, n], l5)) (h2 : pS l5 = some (s, l6)) (h3 : pR 256 l6 = none) : dec l = none := by unfold dec; rw [p5_pNs, h]; simp only; rw [h2]; simp only; rw [h3]
theorem dec_noE (h : pNs 5 l = some ([k, a, b, o, n], l5)) (h2 : pS l5 = some (s, l6)) (h3 : pR 256 l6 = some (v, l7)) (h4 : ¬ (l7 = [] ∧ fmP ⟨k, a, b, o, n, s, v⟩)) : dec l = none := by unfold dec; rw [p5_pNs, h]; simp only; rw [h2]; simp only; rw [h3]; simp only; rw [if_neg h4]
theorem dec_yes (h : pNs 5 l = some ([k, a, b, o, n], l5)) (h2 : pS l5 = some (s, l6)) (h3 : pR 256 l6 = some (v, l7)) (h4 : l7 = [] ∧ fmP ⟨k, a, b, o, n, s, v⟩) : dec l = some ⟨k, a, b, o, n, s, v⟩ := by unfold dec; rw [p5_pNs, h]; simp only; rw [h2]; simp only; rw [h3]; simp only; rw [if_pos h4]
end
/-- The step, or none, and the error. -/
def decX (l : List UInt8) : Stp := match dec l with | none => ⟨0, 0, 0, 0, 0, [], []⟩ | some x => x
def decE (l : List UInt8) : Nat := match dec l with | none => 14 | some _ => 0
theorem decX_no {l : List UInt8} (h : dec l = none) : decX l = ⟨0, 0, 0, 0, 0, [], []⟩ ∧ decE l = 14 := by unfold decX decE; rw [h]; exact ⟨rfl, rfl⟩
theorem decX_yes {l : List UInt8} {x : Stp} (h : dec l = some x) : decX l = x ∧ decE l = 0 := by unfold decX decE; rw [h]; exact ⟨rfl, rfl⟩
theorem enc_len {x : Stp} (h : fmP x) (hs : small x) : (enc x).length ≤ 1024 ∧ 0 < (enc x).length := by
  obtain ⟨h1, h2, h3, h4, h5, h6, h7, h8⟩ := h
  obtain ⟨s1, s2, s3, s4⟩ := hs
  have a1 : (Pk.lay x.kind.toNat).length ≤ 9 := Pk.lay_len9 (by omega)
  have a2 : (Pk.lay x.a.toNat).length ≤ 9 := Pk.lay_len9 (by omega)
  have a3 : (Pk.lay x.b.toNat).length ≤ 9 := Pk.lay_len9 (by omega)
  have a4 : (Pk.lay x.obj.toNat).length ≤ 9 := Pk.lay_len9 (by omega)
  have a5 : (Pk.lay x.n.toNat).length ≤ 9 := Pk.lay_len9 (by omega)
  have a6 := lS_len h7
  have a7 : (Pk.lay x.v.length).length ≤ 9 := Pk.lay_len9 (by omega)
  have a0 := Pk.lay_pos x.kind.toNat
  unfold enc lR
  simp only [List.length_append]
  omega
end Go.Proofs.Ytldcgmnfohhjbac.Sc
