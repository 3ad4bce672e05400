/- pack's functions laid upon nil, and rows as triples. -/
import Derived.Test.YtndlcimckfndiaaDoorPackE
namespace Go.Proofs.YtndlcimckfndiaaDoor
open Go.RowKit
set_option maxRecDepth 100000

theorem appendNumber_nil (x : Nat) (w : World) (hx : (Pk.lay x).length ≤ 9) :
    Calls Tryd.prog 80 #[.slice none 0 0, .int .i64 x] w fun e w' => ∃ A' c', e = .returned (.tuple #[.slice A' (Pk.lay x).length c', .int .i64 0]) ∧
      w'.ownsRow w.heap.size 5 1 (.slice A' (Pk.lay x).length c') (Pk.lay x).length (bv (Pk.lay x)) ∧ Below w.heap.size w w' := by
  have := appendNumber_any none 0 0 x [] w rfl Rd.none_ (by omega) hx
  simp only [Nat.zero_add, List.nil_append] at this
  exact this

theorem appendRow_nil (A2 : Option Addr) (m c2 : Nat) (r : List UInt8) (w : World) (hR2 : Rd w w.heap.size 1 A2 m c2 (bv r)) (hn : 9 + m ≤ 140737488355328) :
    Calls Tryd.prog 68 #[.slice none 0 0, .slice A2 m c2] w fun e w' => ∃ A' c', e = .returned (.slice A' ((Pk.lay m).length + m) c') ∧
      w'.ownsRow w.heap.size 5 1 (.slice A' ((Pk.lay m).length + m) c') ((Pk.lay m).length + m) (bv (Pk.lay m ++ r)) ∧ Below w.heap.size w w' := by
  have := appendRow_any none A2 0 0 m c2 [] r w rfl Rd.none_ hR2 (by omega)
  simp only [Nat.zero_add, List.nil_append] at this
  exact this

/-- The ways in which a row is read out of bytes, the bound their length: not at all, or at a number's place. -/
theorem rowOf_len (l : List UInt8) : (∃ er, rowOf l l.length = ([], 0, er) ∧ er ≠ 0) ∨
    ∃ x k, Pk.num l 0 l = (x, k, 0) ∧ k + x ≤ l.length ∧ rowOf l l.length = ((l.drop k).take x, k + x, 0) ∧ Pk.lay x = l.take k ∧ x < 9223372036854775808 ∧ k ≤ 9 ∧ ((l.drop k).take x).length = x := by
  have h0 : ¬ (l.length : Int) < 0 := by omega
  obtain ⟨x, k, er, hx⟩ : ∃ x k er, Pk.num l 0 l = (x, k, er) := ⟨_, _, _, rfl⟩
  by_cases he : er = 0
  · subst he
    obtain ⟨b1, b2, b3, b4, b5⟩ := Pk.num_back hx
    by_cases hm : (l.length : Int) < (x : Int)
    · exact .inl ⟨4, rowOf_most h0 hx hm, by omega⟩
    by_cases hs : (l.length : Int) - (k : Int) < (x : Int)
    · exact .inl ⟨5, rowOf_short h0 hx hm hs, by omega⟩
    · exact .inr ⟨x, k, hx, by omega, rowOf_ok h0 hx hm hs, b4, b5, b2, by rw [List.length_take, List.length_drop]; omega⟩
  · exact .inl ⟨er, rowOf_err h0 hx he, he⟩

theorem row_is {A : Option Addr} {n c : Nat} {l : List UInt8} {most : Int} {w : World} {r : List UInt8} {j er m : Nat} (h : rowOf l most = (r, j, er)) (hm : r.length = m) (hl : l.length = n) (hR : Rd w w.heap.size 1 A n c (bv l)) (hn : n ≤ 140737488355328) :
    Calls Tryd.prog 72 #[.slice A n c, .int .i64 most] w fun e w' => ∃ A' c', e = .returned (.tuple #[.slice A' m c', .int .i64 j, .int .i64 er]) ∧ w'.ownsRow w.heap.size 5 1 (.slice A' m c') m (bv r) ∧ Below w.heap.size w w' := by
  have := row_any A n c l most w hl hR hn
  rw [h] at this
  subst hm
  exact this

end Go.Proofs.YtndlcimckfndiaaDoor
