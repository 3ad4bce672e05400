/- Walks over the document's sets of objects: Set, Of. -/
import Derived.Test.YtepdcbhapjgijaaDoorMVec
import Derived.Test.YtepdcbhapjgijaaDoorMSn
namespace Go.Proofs.YtepdcbhapjgijaaDoor
open Go.RowKit
set_option maxRecDepth 100000

/-- The 256 marks as an array. -/
def b256 (p : Nat → Bool) : Array Value := ((List.range 256).map fun n => .bool (p n)).toArray
theorem b256_size (p : Nat → Bool) : (b256 p).size = 256 := by simp [b256]
theorem b256_at (p : Nat → Bool) (n : Nat) (hn : n < 256) : (b256 p)[n]? = some (.bool (p n)) := by simp [b256, hn]
def updB (p : Nat → Bool) (m : Nat) (b : Bool) : Nat → Bool := fun n => if n = m then b else p n
theorem b256_set (p : Nat → Bool) (m : Nat) (b : Bool) (hm : m < 256) : (b256 p).setIfInBounds m (.bool b) = b256 (updB p m b) := by
  apply Array.ext_getElem?
  intro i
  rw [Array.getElem?_setIfInBounds]
  by_cases hi : i < 256
  · rw [b256_at (updB p m b) i hi]
    by_cases he : m = i
    · subst he; simp [b256_size, updB, hm]
    · rw [if_neg he, b256_at p i hi, updB, if_neg (by omega)]
  · rw [if_neg (by omega), Array.getElem?_eq_none (by rw [b256_size]; omega), Array.getElem?_eq_none (by rw [b256_size]; omega)]
theorem b256_congr {p q : Nat → Bool} (e : ∀ n, n < 256 → p n = q n) : b256 p = b256 q := by
  unfold b256
  congr 1
  exact List.map_congr_left fun n hn => by rw [e n (by simpa using hn)]
theorem b256_oneCell (p : Nat → Bool) : (b256 p).all (·.oneCell') = true := by
  rw [Array.all_eq_true']
  intro x hx
  simp only [b256, List.mem_toArray, List.mem_map] at hx
  obtain ⟨n, _, rfl⟩ := hx
  rfl
theorem span_info : (Tryd.prog.info? 59).map (fun i => (i.zero, i.size, i.bytes)) = some (some (.agg #[.int .i64 0, .int .i64 0]), 2, 16) := by kernel_rfl

theorem setOf_next (l : List Sn.Sp) (k : Nat) (h : k < l.length) (o : Nat) : Sn.setOf (l.take (k + 1)) o = (Sn.setOf (l.take k) o || (decide (l[k].1 ≤ (o : Int)) && decide ((o : Int) ≤ l[k].2))) := by
  unfold Sn.setOf
  rw [List.take_succ_eq_append_getElem h, Sn.inB_app]
  simp [Sn.inB]
/-- The marks of a list, so far as a span was laid. -/
def part (p : Nat → Bool) (lo o : Nat) : Nat → Bool := fun n => p n || (decide (lo ≤ n) && decide (n < o))
theorem part_start (p : Nat → Bool) (lo : Nat) : ∀ n, part p lo lo n = p n := fun n => by
  unfold part
  have : (decide (lo ≤ n) && decide (n < lo)) = false := by simp
  rw [this, Bool.or_false]
theorem part_next (p : Nat → Bool) (lo o : Nat) (h : lo ≤ o) : ∀ n, updB (part p lo o) o true n = part p lo (o + 1) n := fun n => by
  unfold updB part
  by_cases e : n = o
  · subst e; simp
    exact .inr h
  · rw [if_neg e]
    have : decide (n < o + 1) = decide (n < o) := by simp; omega
    rw [this]

theorem ext_len (l : List Sn.Sp) (x : Int) : (Sn.ext l x).length = l.length := by
  rcases List.eq_nil_or_concat l with rfl | ⟨r, s, rfl⟩
  · rfl
  · rw [List.concat_eq_append, Sn.ext_snoc]; simp
theorem sv_ext (l : List Sn.Sp) (x : Int) (h : l ≠ []) : sv (Sn.ext l x) = (sv l).set ((l.length - 1) * 2 + 1) (.int .i64 x) := by
  rcases List.eq_nil_or_concat l with rfl | ⟨r, s, rfl⟩
  · exact absurd rfl h
  · rw [List.concat_eq_append, Sn.ext_snoc, sv_app, sv_app, List.length_append, List.length_singleton, Nat.add_sub_cancel, List.set_append_right _ _ (by rw [sv_len]; omega), sv_len, Nat.add_sub_cancel_left]
    rfl
theorem ofTo_len (p : Nat → Bool) : ∀ k, (Sn.ofTo p k).length ≤ k
  | 0 => by simp [Sn.ofTo]
  | k + 1 => by
    have := ofTo_len p k
    rw [Sn.ofTo]
    split
    · split
      · rw [ext_len]; omega
      · simp; omega
    · omega
theorem ofTo_hit (p : Nat → Bool) (k : Nat) (h : p k = true) (h2 : ¬ (k ≠ 0 ∧ p (k - 1) = true)) : Sn.ofTo p (k + 1) = Sn.ofTo p k ++ [((k : Int), (k : Int))] := by rw [Sn.ofTo, if_pos h, if_neg h2]
theorem ofTo_ext (p : Nat → Bool) (k : Nat) (h : p k = true) (h2 : k ≠ 0 ∧ p (k - 1) = true) : Sn.ofTo p (k + 1) = Sn.ext (Sn.ofTo p k) k := by rw [Sn.ofTo, if_pos h, if_pos h2]
theorem ofTo_miss (p : Nat → Bool) (k : Nat) (h : p k = false) : Sn.ofTo p (k + 1) = Sn.ofTo p k := by rw [Sn.ofTo, if_neg (by simp [h])]

end Go.Proofs.YtepdcbhapjgijaaDoor
