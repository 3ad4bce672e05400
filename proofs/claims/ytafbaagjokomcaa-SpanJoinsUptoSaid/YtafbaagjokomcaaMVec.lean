/- Texts of one layer in one file: Vec0, Vec1, VecA, VecB, VecC, VecD, VecE, VecF, VecG, VecH, VecI, VecJ, VecK, VecL, VecM, VecN, VecO, VecP, VecQ. -/
import Derived.Lib.TrailingZeros
import Derived.Test.YtafbaagjokomcaaRows
import Derived.Test.YtafbaagjokomcaaWords
import Derived.Laws.Bits64b
import Derived.Deep.QuietTactic
import Derived.BigQuiet
import Derived.Laws.BitsAllLaws
import Derived.Deep.WholeRow
import Derived.WalkSmall
import Derived.BigRegion
import Derived.Deep.RegionHeld3
import Derived.RangeFuncBox
import Derived.RangeFuncNested
import Derived.RangeFuncLeaves
import Derived.Shelf.Abstract
import Derived.WalkKit
import Derived.OwnWalkIn
import Derived.TacticsInMore
import Derived.LoopNIn
import Derived.LoopIn
import Derived.Maps.AppendAt
import Derived.Maps.OwnIn
import Derived.Shelf.RegionOpen
import Derived.Deep.RegionWith
namespace Go.Proofs.Ytafbaagjokomcaa.Vc

/-- A stamp: its count, its node. -/
abbrev St := Int × Int
def right (s : St) : Bool := decide (0 < s.1) && (decide (0 ≤ s.2) && decide (s.2 < 64))
theorem right_iff (s : St) : right s = true ↔ 0 < s.1 ∧ 0 ≤ s.2 ∧ s.2 < 64 := by simp [right]

/-- The count of a node: that of its first right stamp. -/
def cnt : List St → Nat → Int
  | [], _ => 0
  | s :: r, n => if right s = true ∧ s.2 = n then s.1 else cnt r n
theorem cnt_nonneg (v : List St) (n : Nat) : 0 ≤ cnt v n := by
  induction v with
  | nil => exact Int.le_refl _
  | cons s r ih =>
    rw [cnt]
    split
    · rename_i h; have := (right_iff s).1 h.1; omega
    · exact ih
theorem cnt_snoc (v : List St) (s : St) (n : Nat) : cnt (v ++ [s]) n = if cnt v n = 0 ∧ right s = true ∧ s.2 = n then s.1 else cnt v n := by
  induction v with
  | nil => simp [cnt]
  | cons t r ih =>
    rw [List.cons_append, cnt, cnt]
    by_cases h : right t = true ∧ t.2 = n
    · have := (right_iff t).1 h.1
      rw [if_pos h, if_pos h, if_neg (by omega)]
    · rw [if_neg h, if_neg h, ih]
theorem cnt_far (v : List St) (n : Nat) (h : 64 ≤ n) : cnt v n = 0 := by
  induction v with
  | nil => rfl
  | cons s r ih =>
    rw [cnt, if_neg, ih]
    intro hh
    have := (right_iff s).1 hh.1
    omega

/-- A set of nodes as bits. -/
def mskTo (p : Nat → Bool) : Nat → Nat
  | 0 => 0
  | k + 1 => mskTo p k ||| (if p k then 2 ^ k else 0)
def msk (p : Nat → Bool) : Nat := mskTo p 64
theorem mskTo_bit (p : Nat → Bool) (k n : Nat) : (mskTo p k).testBit n = (decide (n < k) && p n) := by
  induction k with
  | zero => simp [mskTo]
  | succ k ih =>
    rw [mskTo, Nat.testBit_or, ih]
    by_cases hk : p k = true
    · rw [if_pos hk, Nat.testBit_two_pow]
      by_cases hn : n = k
      · subst hn; simp [hk]
      · have h1 : decide (n < k + 1) = decide (n < k) := by simp; omega
        have h2 : decide (k = n) = false := by simp; omega
        rw [h1, h2, Bool.or_false]
    · rw [if_neg hk, Nat.zero_testBit, Bool.or_false]
      by_cases hn : n = k
      · subst hn; simp [hk]
      · have h1 : decide (n < k + 1) = decide (n < k) := by simp; omega
        rw [h1]
theorem msk_bit (p : Nat → Bool) (n : Nat) : (msk p).testBit n = (decide (n < 64) && p n) := mskTo_bit p 64 n
theorem mskTo_lt (p : Nat → Bool) (k : Nat) : mskTo p k < 2 ^ k := by
  refine Nat.lt_pow_two_of_testBit _ fun i hi => ?_
  rw [mskTo_bit]
  simp; omega
theorem msk_lt (p : Nat → Bool) : msk p < 18446744073709551616 := mskTo_lt p 64
theorem msk_eq {p : Nat → Bool} {x : Nat} (hx : x < 2 ^ 64) (h : ∀ n, n < 64 → x.testBit n = p n) : x = msk p := by
  refine Nat.eq_of_testBit_eq fun n => ?_
  rw [msk_bit]
  by_cases hn : n < 64
  · simp [hn, h n hn]
  · rw [Nat.testBit_lt_two_pow (Nat.lt_of_lt_of_le hx (Nat.pow_le_pow_right (by omega) (by omega)))]
    simp [hn]
theorem msk_none : msk (fun _ => false) = 0 := (msk_eq (by decide) (by simp)).symm
theorem msk_add (p : Nat → Bool) (k : Nat) (hk : k < 64) : msk p ||| 2 ^ k = msk fun n => p n || decide (n = k) := by
  refine msk_eq ?_ fun n hn => ?_
  · exact Nat.or_lt_two_pow (msk_lt p) (Nat.pow_lt_pow_right (by omega) hk)
  · rw [Nat.testBit_or, msk_bit, Nat.testBit_two_pow]
    simp [hn, eq_comm]
theorem msk_and (p q : Nat → Bool) : msk p &&& msk q = msk fun n => p n && q n := by
  refine msk_eq (Nat.and_lt_two_pow _ (msk_lt q)) fun n hn => ?_
  rw [Nat.testBit_and, msk_bit, msk_bit]
  simp [hn]
theorem msk_congr {p q : Nat → Bool} (h : ∀ n, n < 64 → p n = q n) : msk p = msk q := msk_eq (msk_lt p) fun n hn => by rw [msk_bit, h n hn]; simp [hn]
/-- Is a node in the set? -/
theorem msk_ask (p : Nat → Bool) (n : Nat) (hn : n < 64) : msk p / 2 ^ n % 2 = if p n then 1 else 0 := by
  have h := msk_bit p n
  rw [Nat.testBit_eq_decide_div_mod_eq] at h
  by_cases hp : p n = true
  · rw [if_pos hp]
    simpa [hn, hp] using h
  · rw [if_neg hp]
    have : ¬ msk p / 2 ^ n % 2 = 1 := by simpa [hn, hp] using h
    omega

/-- The nodes of a set, rising. -/
def nodes (p : Nat → Bool) : List Nat := (List.range 64).filter p

/-- What is left of a set from a node on. -/
def from_ (p : Nat → Bool) (k : Nat) : Nat → Bool := fun n => p n && decide (k ≤ n)
theorem from_zero (p : Nat → Bool) : msk (from_ p 0) = msk p := msk_congr fun n _ => by simp [from_]

theorem and_pred (y n : Nat) : (2 ^ n * (2 * y + 1)) &&& (2 ^ n * (2 * y + 1) - 1) = 2 ^ (n + 1) * y := by
  have e1 : 2 ^ n * (2 * y + 1) = 2 ^ (n + 1) * y + 2 ^ n := by rw [Nat.pow_succ, Nat.mul_add, Nat.mul_one, Nat.mul_assoc]
  have hp : 0 < 2 ^ n := Nat.pow_pos (by omega)
  have e2 : 2 ^ n * (2 * y + 1) - 1 = 2 ^ (n + 1) * y + (2 ^ n - 1) := by omega
  have hlt : 2 ^ n < 2 ^ (n + 1) := Nat.pow_lt_pow_right (by omega) (by omega)
  rw [e2, e1]
  refine Nat.eq_of_testBit_eq fun j => ?_
  rw [Nat.testBit_and, Nat.testBit_two_pow_mul_add _ hlt, Nat.testBit_two_pow_mul_add _ (by omega : 2 ^ n - 1 < 2 ^ (n + 1))]
  have e3 := Nat.testBit_two_pow_mul_add y (Nat.pow_pos (by omega) : 0 < 2 ^ (n + 1)) j
  rw [Nat.add_zero] at e3
  rw [e3]
  by_cases hj : j < n + 1
  · rw [if_pos hj, if_pos hj, if_pos hj, Nat.testBit_two_pow, Nat.testBit_two_pow_sub_one, Nat.zero_testBit]
    by_cases hjn : n = j
    · subst hjn; simp
    · simp [hjn]
  · rw [if_neg hj, if_neg hj, if_neg hj, Bool.and_self]
end Go.Proofs.Ytafbaagjokomcaa.Vc

namespace Go.Proofs.Ytafbaagjokomcaa.Vc

theorem low_step (p : Nat → Bool) (k : Nat) (h : msk (from_ p k) ≠ 0) :
    ∃ n, Lib.ctz 64 (msk (from_ p k)) = n ∧ n < 64 ∧ p n = true ∧ k ≤ n ∧ (∀ j, k ≤ j → j < n → p j = false) ∧ msk (from_ p k) &&& (msk (from_ p k) - 1) = msk (from_ p (n + 1)) := by
  have hlt := msk_lt (from_ p k)
  obtain ⟨y, hy, hn⟩ := Lib.ctzFrom_spec 64 (msk (from_ p k)) (by omega) hlt
  have e : Lib.ctz 64 (msk (from_ p k)) = Lib.ctzFrom 64 (msk (from_ p k)) := by rw [Lib.ctz, if_neg h]
  have hbit := fun j => msk_bit (from_ p k) j
  rw [e]
  generalize Lib.ctzFrom 64 (msk (from_ p k)) = n at hy hn
  have hb2 : ∀ j, (2 ^ n * (2 * y + 1)).testBit j = (if j < n then false else (2 * y + 1).testBit (j - n)) := fun j => by
    have := Nat.testBit_two_pow_mul_add (2 * y + 1) (Nat.pow_pos (by omega) : 0 < 2 ^ n) j
    rw [Nat.add_zero, Nat.zero_testBit] at this
    exact this
  have hbn : from_ p k n = true := by
    have h1 := hbit n
    rw [hy, hb2, if_neg (by omega), Nat.sub_self] at h1
    have h2 : (2 * y + 1).testBit 0 = true := by simp [Nat.testBit_zero]
    rw [h2] at h1
    simpa [hn] using h1.symm
  have hlow : ∀ j, j < n → from_ p k j = false := fun j hj => by
    have h1 := hbit j
    rw [hy, hb2, if_pos hj] at h1
    have : j < 64 := by omega
    simpa [this] using h1.symm
  simp only [from_, Bool.and_eq_true, decide_eq_true_eq] at hbn
  refine ⟨n, rfl, hn, hbn.1, hbn.2, fun j hkj hj => ?_, ?_⟩
  · have := hlow j hj
    simpa [from_, hkj] using this
  · rw [hy, and_pred]
    refine msk_eq ?_ fun j hj => ?_
    · have h1 : 2 ^ (n + 1) * y ≤ 2 ^ n * (2 * y + 1) := by
        rw [Nat.pow_succ, Nat.mul_assoc]; exact Nat.mul_le_mul_left _ (by omega)
      rw [← hy] at h1
      exact Nat.lt_of_le_of_lt h1 hlt
    · have h3 := Nat.testBit_two_pow_mul_add y (Nat.pow_pos (by omega) : 0 < 2 ^ (n + 1)) j
      rw [Nat.add_zero, Nat.zero_testBit] at h3
      rw [h3]
      have h1 := hbit j
      rw [hy, hb2] at h1
      simp only [from_, hj, decide_true, Bool.true_and] at h1 ⊢
      by_cases hjn : j < n + 1
      · rw [if_pos hjn]
        have : decide (n + 1 ≤ j) = false := by simp; omega
        rw [this, Bool.and_false]
      · rw [if_neg hjn]
        rw [if_neg (by omega)] at h1
        have e2 : decide (n + 1 ≤ j) = true := by simp; omega
        have e3 : decide (k ≤ j) = true := by simp; omega
        rw [e2, Bool.and_true]
        rw [e3, Bool.and_true] at h1
        rw [← h1, show j - n = (j - (n + 1)) + 1 by omega, Nat.testBit_succ]
        congr 1
        omega

theorem none_left (p : Nat → Bool) (k : Nat) (h : msk (from_ p k) = 0) : ∀ j, k ≤ j → j < 64 → p j = false := fun j hk hj => by
  have := msk_bit (from_ p k) j
  rw [h, Nat.zero_testBit] at this
  simp only [from_, hj, decide_true, Bool.true_and] at this
  have e : decide (k ≤ j) = true := by simpa using hk
  rw [e, Bool.and_true] at this
  exact this.symm

/-- The nodes below a number. -/
def upto (p : Nat → Bool) (k : Nat) : List Nat := (List.range k).filter p
theorem upto_skip (p : Nat → Bool) (k n : Nat) (hk : k ≤ n) (h : ∀ j, k ≤ j → j < n → p j = false) : upto p n = upto p k := by
  induction n with
  | zero => obtain rfl : k = 0 := by omega
            rfl
  | succ n ih =>
    by_cases e : k = n + 1
    · rw [e]
    · rw [upto, List.range_succ, List.filter_append, List.filter_cons, h n (by omega) (by omega)]
      have := ih (by omega) fun j h1 h2 => h j h1 (by omega)
      simpa [upto] using this
theorem upto_hit (p : Nat → Bool) (k n : Nat) (hk : k ≤ n) (h : ∀ j, k ≤ j → j < n → p j = false) (hn : p n = true) : upto p (n + 1) = upto p k ++ [n] := by
  rw [upto, List.range_succ, List.filter_append, List.filter_cons, hn, ← upto_skip p k n hk h]
  rfl
theorem upto_len (p : Nat → Bool) (k : Nat) : (upto p k).length ≤ k := by
  have := List.length_filter_le p (List.range k)
  rwa [List.length_range] at this
theorem upto_le {p : Nat → Bool} {k m : Nat} (h : k ≤ m) : upto p k <+: upto p m := by
  induction m with
  | zero => obtain rfl : k = 0 := by omega
            exact List.prefix_refl _
  | succ m ih =>
    by_cases e : k = m + 1
    · rw [e]; exact List.prefix_refl _
    · refine (ih (by omega)).trans ?_
      rw [upto, upto, List.range_succ, List.filter_append]
      exact List.prefix_append _ _
theorem upto_lt {p : Nat → Bool} {k n : Nat} (h : n ∈ upto p k) : n < k ∧ p n = true := by
  simpa [upto] using h
end Go.Proofs.Ytafbaagjokomcaa.Vc

namespace Go.Proofs.Ytafbaagjokomcaa
open Go.RowKit
set_option maxRecDepth 100000

theorem ret_bool {a b : Bool} (h : a = b) : Ending.returned (.bool a) = .returned (.bool b) := by rw [h]

theorem tz64_key (x a : Nat) (hx : x < 18446744073709551616) (hx0 : x ≠ 0) (hlow : x &&& (18446744073709551616 - x) = a) :
    IntKind.u64.wrap (bits BinOp.and IntKind.u64 (x : Int) (IntKind.u64.wrap (-(x : Int))) * 285870213051353865) / 288230376151711744 = ((a * 285870213051353865 % 18446744073709551616 / 288230376151711744 : Nat) : Int) := by
  have e1 : IntKind.u64.wrap (-(x : Int)) = ((18446744073709551616 - x : Nat) : Int) := by rw [IntKind.wrap_u64]; omega
  rw [e1, bits_and_u64_nat x _ hx (by omega), hlow, IntKind.wrap_u64]
  omega
end Go.Proofs.Ytafbaagjokomcaa

namespace Go.Proofs.Ytafbaagjokomcaa
open Go.RowKit
set_option maxRecDepth 100000

/-- A block that is known whole. -/
def Blk (w : World) (g : Nat) (t : TypeId) (cs : Array Value) : Prop := w.heap[g]? = some (.cells cs t (0, 0))
section
variable {w w' : World} {g : Nat} {t : TypeId} {cs : Array Value}
theorem Blk.lt (h : Blk w g t cs) : g < w.heap.size := (Array.getElem?_eq_some_iff.1 h).1
theorem Blk.cell (h : Blk w g t cs) (i : Nat) : w.cell? ⟨g, i, none⟩ = cs[i]? := cell_of_row w g i cs t (0, 0) h
theorem Blk.frozen (h : Blk w g t cs) (i : Nat) : w.frozen? ⟨g, i, none⟩ = false := frozen_of_row w g i cs t h
theorem Blk.new (w : World) (t : TypeId) (cs : Array Value) : Blk (w.alloc (.cells cs t)) w.heap.size t cs := heap_alloc_new w _
theorem Blk.alloc (h : Blk w g t cs) (o : Obj) : Blk (w.alloc o) g t cs := (Below.heap_alloc w o g h.lt).trans h
theorem Blk.set_ (h : Blk w g t cs) (i : Nat) (u : Value) : Blk (w.setCell ⟨g, i, none⟩ u) g t (cs.setIfInBounds i u) := heap_setCell_same w g i cs t u h
theorem Blk.far (h : Blk w g t cs) {p : Addr} (hp : g ≠ p.block) (u : Value) : Blk (w.setCell p u) g t cs := (Below.heap_setCell w p u g hp).trans h
theorem Blk.below {B : Nat} (h : Blk w g t cs) (hb : Below B w w') (hg : g < B) : Blk w' g t cs := (hb.block g hg).trans h
theorem Blk.go (h : Blk w g t cs) (hb : Below w.heap.size w w') : Blk w' g t cs := h.below hb h.lt
end

/-- A list of stamps as cells. -/
def sv (v : List Vc.St) : List Value := v.flatMap fun s => [.int .i64 s.1, .int .i64 s.2]
theorem sv_len (v : List Vc.St) : (sv v).length = v.length * 2 := by
  induction v with
  | nil => rfl
  | cons s r ih => simp only [sv, List.flatMap_cons, List.length_append, List.length_cons, List.length_nil] at ih ⊢; omega
theorem sv_app (v r : List Vc.St) : sv (v ++ r) = sv v ++ sv r := by simp [sv]
theorem sv_split (v : List Vc.St) (k : Nat) (h : k < v.length) : sv v = sv (v.take k) ++ ([.int .i64 v[k].1, .int .i64 v[k].2] ++ sv (v.drop (k + 1))) := by
  have e : v.take k ++ ([v[k]] ++ v.drop (k + 1)) = v := by rw [List.singleton_append, ← List.drop_eq_getElem_cons h, List.take_append_drop]
  have := congrArg sv e
  rw [sv_app, sv_app] at this
  exact this.symm
theorem sv_at0 (v : List Vc.St) (k : Nat) (h : k < v.length) : (sv v)[k * 2]? = some (.int .i64 v[k].1) := by
  have hl : (sv (v.take k)).length = k * 2 := by rw [sv_len, List.length_take, Nat.min_eq_left (by omega)]
  rw [sv_split v k h, List.getElem?_append_right (by omega), hl, Nat.sub_self]
  rfl
theorem sv_at1 (v : List Vc.St) (k : Nat) (h : k < v.length) : (sv v)[k * 2 + 1]? = some (.int .i64 v[k].2) := by
  have hl : (sv (v.take k)).length = k * 2 := by rw [sv_len, List.length_take, Nat.min_eq_left (by omega)]
  rw [sv_split v k h, List.getElem?_append_right (by omega), hl, Nat.add_sub_cancel_left]
  rfl
/-- The address of a slice that holds something. -/
theorem Rd.plain {w : World} {B size n c : Nat} {A : Option Addr} {xs : List Value} (h : Rd w B size A n c xs) (hn : 0 < n) (hs : 0 < size) :
    ∃ b o, A = some ⟨b, o, none⟩ ∧ b < B ∧ ∀ j u, xs[j]? = some u → w.cell? ⟨b, o + j, none⟩ = some u := by
  obtain ⟨ad, rfl, hb, hc⟩ := h.at0 hn
  have hx : 0 < xs.length := by rw [h.len]; exact Nat.mul_pos hn hs
  have h0 := hc 0 _ (List.getElem?_eq_getElem hx)
  rw [add_zero_] at h0
  obtain ⟨b, o, s⟩ := ad
  obtain rfl : s = none := World.cell?_spot h0
  refine ⟨b, o, rfl, hb, fun j u hu => ?_⟩
  have := hc j u hu
  rwa [show (⟨b, o, none⟩ : Addr).add j = ⟨b, o + j, none⟩ by unfold Addr.add; split <;> simp_all] at this
/-- The stamp at a place, in memory. -/
theorem Rd.stamp {w : World} {B n c k : Nat} {A : Option Addr} {v : List Vc.St} (h : Rd w B 2 A n c (sv v)) (hl : v.length = n) (hk : k < n) :
    ∃ b o, A = some ⟨b, o, none⟩ ∧ b < B ∧ w.cell? ⟨b, o + k * 2, none⟩ = some (.int .i64 (v[k]'(by omega)).1) ∧ w.cell? ⟨b, o + k * 2 + 1, none⟩ = some (.int .i64 (v[k]'(by omega)).2) := by
  obtain ⟨b, o, e, hb, hc⟩ := h.plain (by omega) (by omega)
  exact ⟨b, o, e, hb, hc _ _ (sv_at0 v k (by omega)), hc _ _ (sv_at1 v k (by omega))⟩

/-- The 64 counts. -/
def c64 (f : Nat → Int) : List Value := (List.range 64).map fun n => .int .i64 (f n)
/-- The counts, and the nodes that have one. -/
def cc (f : Nat → Int) (h : Nat) : Array Value := (c64 f ++ [Value.int .u64 (h : Int)]).toArray
theorem c64_len (f : Nat → Int) : (c64 f).length = 64 := by simp [c64]
theorem cc_size (f : Nat → Int) (h : Nat) : (cc f h).size = 65 := by simp [cc, c64]
theorem cc_at (f : Nat → Int) (h n : Nat) (hn : n < 64) : (cc f h)[n]? = some (.int .i64 (f n)) := by
  have hl : n < (c64 f).length := by rw [c64_len]; exact hn
  simp only [cc, List.getElem?_toArray, List.getElem?_append_left hl]
  simp [c64, hn]
theorem cc_has (f : Nat → Int) (h : Nat) : (cc f h)[64]? = some (.int .u64 (h : Int)) := by simp [cc, c64]
/-- A count is set. -/
def upd (f : Nat → Int) (m : Nat) (x : Int) : Nat → Int := fun n => if n = m then x else f n
theorem cc_set (f : Nat → Int) (h m : Nat) (x : Int) (hm : m < 64) : (cc f h).setIfInBounds m (.int .i64 x) = cc (upd f m x) h := by
  apply Array.ext_getElem?
  intro i
  rw [Array.getElem?_setIfInBounds]
  by_cases hi : i < 64
  · rw [cc_at (upd f m x) h i hi]
    by_cases he : m = i
    · subst he; simp [cc_size, upd]; omega
    · rw [if_neg he, cc_at f h i hi, upd, if_neg (by omega)]
  · rw [if_neg (by omega)]
    by_cases h64 : i = 64
    · subst h64; rw [cc_has, cc_has]
    · rw [Array.getElem?_eq_none (by rw [cc_size]; omega), Array.getElem?_eq_none (by rw [cc_size]; omega)]
theorem cc_sethas (f : Nat → Int) (h h' : Nat) : (cc f h).setIfInBounds 64 (.int .u64 (h' : Int)) = cc f h' := by
  apply Array.ext_getElem?
  intro i
  rw [Array.getElem?_setIfInBounds]
  by_cases hi : i < 64
  · rw [if_neg (by omega), cc_at f h i hi, cc_at f h' i hi]
  · by_cases h64 : i = 64
    · subst h64; rw [if_pos rfl, if_pos (by rw [cc_size]; omega), cc_has]
    · rw [if_neg (by omega), Array.getElem?_eq_none (by rw [cc_size]; omega), Array.getElem?_eq_none (by rw [cc_size]; omega)]
theorem cc_congr {f g : Nat → Int} {h : Nat} (e : ∀ n, n < 64 → f n = g n) : cc f h = cc g h := by
  unfold cc c64
  congr 2
  exact List.map_congr_left fun n hn => by rw [e n (by simpa using hn)]
theorem cc_oneCell (f : Nat → Int) (h : Nat) : (cc f h).all (·.oneCell') = true := by
  rw [Array.all_eq_true']
  intro x hx
  simp only [cc, c64, List.mem_toArray, List.mem_append, List.mem_map, List.mem_singleton] at hx
  rcases hx with ⟨n, _, rfl⟩ | rfl <;> rfl

/-- A whole row is stored into a block. -/
theorem wpList_store_blk {P : Program} {ops : Array Oper} {rest : List Oper} {op : Oper} {a : Act} {w : World} {Q : Exit → Act → World → Prop} (hgd : op.guard = none) (ty : TypeId) (x y : Operand) (ho : op.op = .store ty x y)
    (g : Nat) (t : TypeId) (old cells : Array Value) (hx : a.eval x = .pointer (some ⟨g, 0, none⟩)) (hy : a.eval y = .agg cells) (hg : Blk w g t old)
    (hi : (P.info? ty).map (·.size) = some cells.size) (hs : old.size = cells.size) (h1 : cells.all (·.oneCell') = true)
    (h : ∀ w', Blk w' g t cells → w.grownBy w' (some g) → wpList P ops Q rest (a.put op.dst undef) w') : wpList P ops Q (op :: rest) a w := by
  refine wpList_plain hgd fun K hK => ?_
  unfold Oper.wp execOp
  simp only [ho, hx, hy, Instr.storeAt, Instr.sureAddr, Sem.run_bind, Sem.run_pure, Result.andThen_ok, run_storeVar_row w g t ty old cells hg hi hs h1]
  exact hK _ _ (h _ (setRow_heap w g old _ t _ hg) ⟨rfl, rfl, rfl, by simp, fun k _ hk => setRow_other w g k _ (fun e => hk (by rw [e]))⟩)
theorem Blk.grown {w w' : World} {g : Nat} {t : TypeId} {cs : Array Value} {row : Option Nat} (h : Blk w g t cs) (hg : w.grownBy w' row) (hne : some g ≠ row) : Blk w' g t cs := (hg.block g h.lt hne).trans h
end Go.Proofs.Ytafbaagjokomcaa

namespace Go.Proofs.Ytafbaagjokomcaa
open Go.RowKit
set_option maxRecDepth 100000

/-- A counts' block, so far as a list was read. -/
def has_ (f : Nat → Int) : Nat := Vc.msk fun n => decide (0 < f n)

theorem has_none : has_ (Vc.cnt []) = 0 := by
  unfold has_
  rw [← Vc.msk_none]
  exact Vc.msk_congr fun n _ => by simp [Vc.cnt]
theorem ask_bit (H m : Nat) (hH : H < 18446744073709551616) : bits BinOp.and .u64 ((H : Int) / 2 ^ m) 1 = ((H / 2 ^ m % 2 : Nat) : Int) := by
  have e : ((H : Int) / 2 ^ m) = ((H / 2 ^ m : Nat) : Int) := by simp
  have hlt : H / 2 ^ m < 18446744073709551616 := Nat.lt_of_le_of_lt (Nat.div_le_self _ _) hH
  rw [e]
  have := bits_and_u64_nat (H / 2 ^ m) 1 hlt (by omega)
  rw [Nat.and_one_is_mod] at this
  exact this

theorem or_bit (H m : Nat) (hH : H < 18446744073709551616) (hm : m < 64) : bits BinOp.or .u64 (H : Int) (IntKind.u64.wrap (2 ^ m)) = ((H ||| 2 ^ m : Nat) : Int) := by
  have h2 : 2 ^ m < 18446744073709551616 := Nat.pow_lt_pow_right (n := 64) (by omega) hm
  have e : IntKind.u64.wrap ((2 : Int) ^ m) = ((2 ^ m : Nat) : Int) := by
    rw [show ((2 : Int) ^ m) = ((2 ^ m : Nat) : Int) by simp]
    generalize 2 ^ m = q at h2 ⊢
    rw [IntKind.wrap_u64]; omega
  rw [e]
  exact bits_or_u64_nat H (2 ^ m) hH h2

theorem take_next (v : List Vc.St) (k : Nat) (h : k < v.length) : v.take (k + 1) = v.take k ++ [v[k]] := by
  rw [List.take_succ_eq_append_getElem h]
theorem cnt_skip (v : List Vc.St) (k : Nat) (sc sn : Int) (h : k < v.length) (h1 : v[k].1 = sc) (h2 : v[k].2 = sn) (hr : Vc.right (sc, sn) = false) : Vc.cnt (v.take (k + 1)) = Vc.cnt (v.take k) := by
  funext n
  have e : v[k] = (sc, sn) := by rw [← h1, ← h2]
  rw [take_next v k h, Vc.cnt_snoc, e, if_neg (by rw [hr]; simp)]
theorem cnt_keep (v : List Vc.St) (k : Nat) (m : Nat) (h : k < v.length) (h2 : v[k].2 = (m : Int)) (hx : Vc.cnt (v.take k) m ≠ 0) : Vc.cnt (v.take (k + 1)) = Vc.cnt (v.take k) := by
  funext n
  rw [take_next v k h, Vc.cnt_snoc, if_neg]
  rintro ⟨c1, _, c3⟩
  rw [h2] at c3
  obtain rfl : m = n := by omega
  exact hx c1
theorem cnt_next (v : List Vc.St) (k : Nat) (sc : Int) (m : Nat) (h : k < v.length) (h1 : v[k].1 = sc) (h2 : v[k].2 = (m : Int)) (r1 : 0 < sc) (hm : m < 64) (hx : Vc.cnt (v.take k) m = 0) :
    (∀ n, n < 64 → upd (Vc.cnt (v.take k)) m sc n = Vc.cnt (v.take (k + 1)) n) ∧ has_ (Vc.cnt (v.take (k + 1))) = has_ (Vc.cnt (v.take k)) ||| 2 ^ m := by
  have e : v[k] = (sc, (m : Int)) := by rw [← h1, ← h2]
  have hr : Vc.right (sc, (m : Int)) = true := (Vc.right_iff _).2 ⟨r1, by simp, by simp; omega⟩
  have h3 : ∀ n, upd (Vc.cnt (v.take k)) m sc n = Vc.cnt (v.take (k + 1)) n := fun n => by
    rw [take_next v k h, Vc.cnt_snoc, e, upd]
    by_cases hn : n = m
    · subst hn; rw [if_pos rfl, if_pos ⟨hx, hr, rfl⟩]
    · rw [if_neg hn, if_neg]
      rintro ⟨_, _, c3⟩
      simp only at c3
      omega
  refine ⟨fun n _ => h3 n, ?_⟩
  unfold has_
  rw [Vc.msk_add _ _ hm]
  refine Vc.msk_congr fun n _ => ?_
  rw [← h3 n, upd]
  by_cases hn : n = m
  · simp [hn, r1]
  · simp [hn]

end Go.Proofs.Ytafbaagjokomcaa

namespace Go.Proofs.Ytafbaagjokomcaa
open Go.RowKit
set_option maxRecDepth 100000

/-- The 64 counts as an array. -/
def a64 (f : Nat → Int) : Array Value := (c64 f).toArray
theorem a64_size (f : Nat → Int) : (a64 f).size = 64 := by simp [a64, c64]
theorem a64_at (f : Nat → Int) (n : Nat) (hn : n < 64) : (a64 f)[n]? = some (.int .i64 (f n)) := by simp [a64, c64, hn]
theorem a64_set (f : Nat → Int) (m : Nat) (x : Int) (hm : m < 64) : (a64 f).setIfInBounds m (.int .i64 x) = a64 (upd f m x) := by
  apply Array.ext_getElem?
  intro i
  rw [Array.getElem?_setIfInBounds]
  by_cases hi : i < 64
  · rw [a64_at (upd f m x) i hi]
    by_cases he : m = i
    · subst he; simp [a64_size, upd]; omega
    · rw [if_neg he, a64_at f i hi, upd, if_neg (by omega)]
  · rw [if_neg (by omega), Array.getElem?_eq_none (by rw [a64_size]; omega), Array.getElem?_eq_none (by rw [a64_size]; omega)]
theorem a64_congr {f g : Nat → Int} (e : ∀ n, n < 64 → f n = g n) : a64 f = a64 g := by
  unfold a64 c64
  congr 1
  exact List.map_congr_left fun n hn => by rw [e n (by simpa using hn)]
theorem a64_oneCell (f : Nat → Int) : (a64 f).all (·.oneCell') = true := by
  rw [Array.all_eq_true']
  intro x hx
  simp only [a64, c64, List.mem_toArray, List.mem_map] at hx
  obtain ⟨n, _, rfl⟩ := hx
  rfl
theorem cnt_cons_hit (v : List Vc.St) (k : Nat) (sc : Int) (m : Nat) (h : k < v.length) (h1 : v[k].1 = sc) (h2 : v[k].2 = (m : Int)) (hr : Vc.right (sc, (m : Int)) = true) :
    ∀ n, upd (Vc.cnt (v.drop (k + 1))) m sc n = Vc.cnt (v.drop k) n := fun n => by
  have e : v[k] = (sc, (m : Int)) := by rw [← h1, ← h2]
  rw [List.drop_eq_getElem_cons h, Vc.cnt, e, upd]
  by_cases hn : n = m
  · subst hn; rw [if_pos rfl, if_pos ⟨hr, rfl⟩]
  · rw [if_neg hn, if_neg]
    rintro ⟨_, c⟩
    simp only at c
    omega
theorem cnt_cons_miss (v : List Vc.St) (k : Nat) (sc sn : Int) (h : k < v.length) (h1 : v[k].1 = sc) (h2 : v[k].2 = sn) (hr : Vc.right (sc, sn) = false) :
    Vc.cnt (v.drop (k + 1)) = Vc.cnt (v.drop k) := by
  funext n
  have e : v[k] = (sc, sn) := by rw [← h1, ← h2]
  rw [List.drop_eq_getElem_cons h, Vc.cnt, e, if_neg (by rw [hr]; simp)]

end Go.Proofs.Ytafbaagjokomcaa

namespace Go.Proofs.Ytafbaagjokomcaa
open Go.RowKit
set_option maxRecDepth 100000

/-- The vector of counts. -/
def vecTo (f : Nat → Int) (p : Nat → Bool) (k : Nat) : List Vc.St := (Vc.upto p k).map fun n => (f n, (n : Int))
def pos (f : Nat → Int) : Nat → Bool := fun n => decide (0 < f n)
def vec (f : Nat → Int) : List Vc.St := vecTo f (pos f) 64
theorem vecTo_hit (f : Nat → Int) (p : Nat → Bool) (k : Nat) (h : p k = true) : vecTo f p (k + 1) = vecTo f p k ++ [(f k, (k : Int))] := by
  rw [vecTo, Vc.upto_hit p k k (Nat.le_refl _) (fun j h1 h2 => by omega) h, List.map_append]; rfl
theorem vecTo_miss (f : Nat → Int) (p : Nat → Bool) (k : Nat) (h : p k = false) : vecTo f p (k + 1) = vecTo f p k := by
  rw [vecTo, Vc.upto_skip p k (k + 1) (by omega) (fun j h1 h2 => by obtain rfl : j = k := by omega
                                                                    exact h)]; rfl
theorem vecTo_len (f : Nat → Int) (p : Nat → Bool) (k : Nat) : (vecTo f p k).length ≤ k := by rw [vecTo, List.length_map]; exact Vc.upto_len p k
theorem sv_one (s : Vc.St) : sv [s] = [.int .i64 s.1, .int .i64 s.2] := rfl
theorem sv_oneCell (v : List Vc.St) : ∀ u ∈ sv v, u.oneCell' = true := by
  intro u hu
  simp only [sv, List.mem_flatMap, List.mem_cons, List.not_mem_nil, or_false] at hu
  obtain ⟨s, _, h | h⟩ := hu <;> subst h <;> rfl
end Go.Proofs.Ytafbaagjokomcaa

namespace Go.Proofs.Ytafbaagjokomcaa
open Go.RowKit
set_option maxRecDepth 100000

/-- No count of the second is greater. -/
def covB (f g : Nat → Int) : Bool := (List.range 64).all fun n => decide (g n ≤ f n)
theorem covB_iff (f g : Nat → Int) : covB f g = true ↔ ∀ n, n < 64 → g n ≤ f n := by simp [covB]
theorem covB_false {f g : Nat → Int} {n : Nat} (hn : n < 64) (h : f n < g n) : covB f g = false := by
  rcases hc : covB f g with _ | _
  · rfl
  · have := (covB_iff f g).1 hc n hn; omega

end Go.Proofs.Ytafbaagjokomcaa

namespace Go.Proofs.Ytafbaagjokomcaa
open Go.RowKit
set_option maxRecDepth 100000

/-- A slice of lists of stamps. -/
structure RdL (w : World) (B : Nat) (A : Option Addr) (n c : Nat) (vs : List (List Vc.St)) : Prop where
  len : vs.length = n
  cap : n ≤ c
  max : c ≤ maxLen
  nil : A = none → c = 0
  at_ : ∀ k (hk : k < vs.length), ∃ b o Ak nk ck, A = some ⟨b, o, none⟩ ∧ b < B ∧ w.cell? ⟨b, o + k, none⟩ = some (.slice Ak nk ck) ∧ vs[k].length = nk ∧ Rd w B 2 Ak nk ck (sv vs[k])
theorem RdL.below {w w' : World} {B n c : Nat} {A : Option Addr} {vs : List (List Vc.St)} (h : RdL w B A n c vs) (hb : Below B w w') : RdL w' B A n c vs :=
  ⟨h.len, h.cap, h.max, h.nil, fun k hk => by
    obtain ⟨b, o, Ak, nk, ck, h1, h2, h3, h4, h5⟩ := h.at_ k hk
    exact ⟨b, o, Ak, nk, ck, h1, h2, by rw [hb.cell (p := ⟨b, o + k, none⟩) h2]; exact h3, h4, h5.below hb⟩⟩
theorem RdL.more {w : World} {B B' n c : Nat} {A : Option Addr} {vs : List (List Vc.St)} (h : RdL w B A n c vs) (hB : B ≤ B') : RdL w B' A n c vs :=
  ⟨h.len, h.cap, h.max, h.nil, fun k hk => by
    obtain ⟨b, o, Ak, nk, ck, h1, h2, h3, h4, h5⟩ := h.at_ k hk
    exact ⟨b, o, Ak, nk, ck, h1, by omega, h3, h4, h5.more hB⟩⟩
theorem RdL.go {w w' : World} {n c : Nat} {A : Option Addr} {vs : List (List Vc.St)} (h : RdL w w.heap.size A n c vs) (hb : Below w.heap.size w w') : RdL w' w'.heap.size A n c vs := (h.below hb).more hb.size

/-- The greatest counts. -/
def jn (vs : List (List Vc.St)) : Nat → Int := fun n => vs.foldl (fun a v => max a (Vc.cnt v n)) 0
theorem jn_nil : jn [] = fun _ => 0 := rfl
theorem jn_snoc (vs : List (List Vc.St)) (v : List Vc.St) (n : Nat) : jn (vs ++ [v]) n = max (jn vs n) (Vc.cnt v n) := by simp [jn]
theorem take_nextL (vs : List (List Vc.St)) (k : Nat) (h : k < vs.length) : vs.take (k + 1) = vs.take k ++ [vs[k]] := by rw [List.take_succ_eq_append_getElem h]
/-- Half way through: the first k counts are done. -/
def mix (k : Nat) (f g : Nat → Int) : Nat → Int := fun n => if n < k then g n else f n
theorem mix_zero (f g : Nat → Int) : mix 0 f g = f := by funext n; simp [mix]
theorem mix_next (f g : Nat → Int) (k : Nat) : ∀ n, upd (mix k f g) k (g k) n = mix (k + 1) f g n := fun n => by
  unfold upd mix
  by_cases h : n = k
  · subst h; simp
  · by_cases h2 : n < k
    · rw [if_neg h, if_pos h2, if_pos (by omega)]
    · rw [if_neg h, if_neg h2, if_neg (by omega)]
theorem mix_at (f g : Nat → Int) (k : Nat) : mix k f g k = f k := by simp [mix]
theorem mix_end (f g : Nat → Int) : ∀ n, n < 64 → mix 64 f g n = g n := fun n hn => by simp [mix, hn]

end Go.Proofs.Ytafbaagjokomcaa

namespace Go.Proofs.Ytafbaagjokomcaa
open Go.RowKit
set_option maxRecDepth 100000

/-- The least counts. -/
def mt : List (List Vc.St) → Nat → Int
  | [], _ => 0
  | v :: r, n => r.foldl (fun a u => min a (Vc.cnt u n)) (Vc.cnt v n)
theorem mt_snoc (vs : List (List Vc.St)) (v : List Vc.St) (n : Nat) (h : vs ≠ []) : mt (vs ++ [v]) n = min (mt vs n) (Vc.cnt v n) := by
  cases vs with
  | nil => exact absurd rfl h
  | cons u r => simp [mt]
theorem vec_zero : vec (fun _ => 0) = [] := by
  have : Vc.upto (pos fun _ => 0) 64 = [] := by
    rw [Vc.upto, List.filter_eq_nil_iff]; intro a _; simp [pos]
  rw [vec, vecTo, this]; rfl
theorem mt_nil : vec (mt []) = [] := by rw [show mt [] = fun _ => 0 from rfl, vec_zero]

end Go.Proofs.Ytafbaagjokomcaa

namespace Go.Proofs.Ytafbaagjokomcaa
open Go.RowKit
set_option maxRecDepth 100000

theorem RdL.two {w : World} {A D : Option Addr} {n c m d : Nat} {u v : List Vc.St} (hl : u.length = n) (hl2 : v.length = m) (hR : Rd w w.heap.size 2 A n c (sv u)) (hR2 : Rd w w.heap.size 2 D m d (sv v)) (t : TypeId) :
    RdL (w.alloc (.cells #[.slice A n c, .slice D m d] t)) (w.alloc (.cells #[.slice A n c, .slice D m d] t)).heap.size (some ⟨w.heap.size, 0, none⟩) 2 2 [u, v] := by
  have hb : Below w.heap.size w (w.alloc (.cells #[.slice A n c, .slice D m d] t)) := (Below.refl _ _).alloc (Nat.le_refl _) _
  have hB := Blk.new w t #[.slice A n c, .slice D m d]
  refine ⟨rfl, Nat.le_refl _, by simp [maxLen], (fun h => by cases h), fun k hk => ?_⟩
  rcases k with _ | _ | k
  · exact ⟨w.heap.size, 0, A, n, c, rfl, by simp, hB.cell 0, hl, hR.go hb⟩
  · exact ⟨w.heap.size, 0, D, m, d, rfl, by simp, hB.cell 1, hl2, hR2.go hb⟩
  · simp only [List.length_cons, List.length_nil] at hk; omega

/-- The greatest count. -/
def grTo (f : Nat → Int) (k : Nat) : Int := (List.range k).foldl (fun a n => max a (f n)) 0
theorem gr_next (f : Nat → Int) (k : Nat) : grTo f (k + 1) = max (grTo f k) (f k) := by simp [grTo, List.range_succ]

/-- How two stand: 0 same, 1 before, 2 behind, 3 apart. -/
def standB (x y : Bool) : Int := if x && y then 0 else if y then 1 else if x then 2 else 3
/-- The count of a node that is any number. -/
def cntZ (v : List Vc.St) (n : Int) : Int := if 0 ≤ n ∧ n < 64 then Vc.cnt v n.toNat else 0
end Go.Proofs.Ytafbaagjokomcaa

namespace Go.Proofs.Ytafbaagjokomcaa
open Go.RowKit Go.Shelf
set_option maxRecDepth 100000
attribute [local go_sem] Oper.semAt_some

/-- What a round is handed: a node that is in, and its count. -/
abbrev Ev (p : Nat → Bool) (val : Nat → Int → Prop) := { x : Nat × Int // x.1 < 64 ∧ p x.1 = true ∧ val x.1 x.2 }
def evs {p : Nat → Bool} {val : Nat → Int → Prop} (x : Ev p val) : Array Value := #[.int .i64 (x.1.1 : Int), .int .i64 x.1.2]
def nds {p : Nat → Bool} {val : Nat → Int → Prop} (l : List (Ev p val)) : List Nat := l.map (·.1.1)
theorem nds_snoc {p : Nat → Bool} {val : Nat → Int → Prop} (l : List (Ev p val)) (x : Ev p val) : nds (l ++ [x]) = nds l ++ [x.1.1] := by simp [nds]
theorem nds_len {p : Nat → Bool} {val : Nat → Int → Prop} (l : List (Ev p val)) : (nds l).length = l.length := by simp [nds]

theorem low_next (r : Nat) (h : r ≠ 0) : r &&& (r - 1) < r := by
  have : r &&& (r - 1) ≤ r - 1 := Nat.and_le_right
  omega
theorem and_bit (r : Nat) (hr : r < 18446744073709551616) (h : r ≠ 0) : bits BinOp.and .u64 (r : Int) (IntKind.u64.wrap ((r : Int) - 1)) = ((r &&& (r - 1) : Nat) : Int) := by
  have e : IntKind.u64.wrap ((r : Int) - 1) = ((r - 1 : Nat) : Int) := by rw [IntKind.wrap_u64]; omega
  rw [e, bits_and_u64_nat r _ hr (by omega)]

end Go.Proofs.Ytafbaagjokomcaa

namespace Go.Proofs.Ytafbaagjokomcaa
open Go.RowKit Go.Shelf
set_option maxRecDepth 100000
attribute [local go_sem] Oper.semAt_some

theorem Blk.not_row {W : World} {B : Nat} {t e : TypeId} {cs : Array Value} (h : Blk W B t cs) (hte : t ≠ e) {base size k : Nat} {v : Value} {xs : List Value} (hr : W.ownsRow base e size v k xs) : some B ≠ v.ownBlock := by
  rcases hr.2 with ⟨rfl, _⟩ | ⟨g, cap, cur, rfl, _, hgb, _⟩
  · simp [Value.ownBlock]
  · intro e'
    obtain rfl : B = g := by simpa [Value.ownBlock] using e'
    rw [show W.heap[B]? = _ from h] at hgb
    injection hgb with hgb
    injection hgb with _ h2
    exact hte h2

/-- The stamps that have come. -/
def come (f : Nat → Int) {p : Nat → Bool} {val : Nat → Int → Prop} (l : List (Ev p val)) : List Vc.St := (nds l).map fun n => (f n, (n : Int))
theorem come_snoc (f : Nat → Int) {p : Nat → Bool} (l : List (Ev p fun m k => k = f m)) (x : Ev p fun m k => k = f m) : come f (l ++ [x]) = come f l ++ [(x.1.2, (x.1.1 : Int))] := by
  have := x.2.2.2
  simp [come, nds_snoc, ← this]
theorem come_all (f : Nat → Int) {p : Nat → Bool} {val : Nat → Int → Prop} (l : List (Ev p val)) (h : nds l = Vc.upto p 64) : come f l = vecTo f p 64 := by rw [come, h]; rfl
theorem come_len (f : Nat → Int) {p : Nat → Bool} {val : Nat → Int → Prop} (l : List (Ev p val)) : (come f l).length = l.length := by simp [come, nds]

theorem cells_new_at (w : World) (cs : Array Value) (t : TypeId) (j : Nat) : (w.alloc (.cells cs t)).cell? ((⟨w.heap.size, 0, none⟩ : Addr).add j) = cs[j]? := by
  have hadd : (⟨w.heap.size, 0, none⟩ : Addr).add j = ⟨w.heap.size, j, none⟩ := by unfold Addr.add; split <;> simp_all
  rw [hadd, cell_of_row _ w.heap.size j cs t (0, 0) (heap_alloc_new w _)]

end Go.Proofs.Ytafbaagjokomcaa

namespace Go.Proofs.Ytafbaagjokomcaa
open Go.RowKit Go.Shelf
set_option maxRecDepth 100000
attribute [local go_sem] Oper.semAt_some

/-- The greatest of what has come. -/
def mxl (f : Nat → Int) (l : List Nat) : Int := l.foldl (fun a n => max a (f n)) 0
theorem mxl_snoc (f : Nat → Int) (l : List Nat) (n : Nat) : mxl f (l ++ [n]) = max (mxl f l) (f n) := by simp [mxl]
theorem mxl_nonneg (f : Nat → Int) (l : List Nat) : 0 ≤ mxl f l := by
  have : ∀ a : Int, 0 ≤ a → 0 ≤ l.foldl (fun a n => max a (f n)) a := by
    induction l with
    | nil => exact fun a h => h
    | cons x l ih => exact fun a h => ih (max a (f x)) (by omega)
  exact this 0 (by omega)
theorem mxl_all (f : Nat → Int) (k : Nat) (hf : ∀ n, 0 ≤ f n) : mxl f (Vc.upto (pos f) k) = grTo f k := by
  induction k with
  | zero => rfl
  | succ k ih =>
    have h0 : 0 ≤ grTo f k := by rw [← ih]; exact mxl_nonneg _ _
    rw [gr_next, ← ih]
    by_cases h : 0 < f k
    · rw [Vc.upto_hit (pos f) k k (Nat.le_refl _) (fun j h1 h2 => by omega) (by simpa [pos] using h), mxl_snoc]
    · rw [Vc.upto_skip (pos f) k (k + 1) (by omega) (fun j h1 h2 => by obtain rfl : j = k := by omega
                                                                       simpa [pos] using h)]
      have := hf k
      have : f k = 0 := by omega
      rw [this]
      omega
theorem has_pos (f : Nat → Int) : has_ f = Vc.msk (pos f) := rfl

end Go.Proofs.Ytafbaagjokomcaa

namespace Go.Proofs.Ytafbaagjokomcaa
open Go.RowKit Go.Shelf
set_option maxRecDepth 100000
attribute [local go_sem] Oper.semAt_some

theorem Blk.kept_ {W W' : World} {row : Option Nat} {g : Nat} {t : TypeId} {cs : Array Value} (h : Blk W g t cs) (hg : W.grownBy W' row) (hr : ∀ r, row = some r → ∃ o : Obj, W.heap[r]? = some o ∧ o.isCells = false) : Blk W' g t cs :=
  h.grown hg (fun e' => by obtain ⟨o, ho, hc⟩ := hr g e'.symm; rw [show W.heap[g]? = _ from h] at ho; cases ho; cases hc)
theorem wpListIn_store_blk {F : Fence} {nF : Nat} {P : Program} {ops : Array Oper} {rest : List Oper} {op : Oper} {a : Act} {w : World} {Q : Exit → Act → World → Prop} (hgd : op.guard = none) (ty : TypeId) (x y : Operand) (ho : op.op = .store ty x y)
    (g : Nat) (t : TypeId) (old cells : Array Value) (hx : a.eval x = .pointer (some ⟨g, 0, none⟩)) (hy : a.eval y = .agg cells) (hg : Blk w g t old)
    (hi : (P.info? ty).map (·.size) = some cells.size) (hs : old.size = cells.size) (h1 : cells.all (·.oneCell') = true)
    (h : ∀ w', Blk w' g t cells → w.grownBy w' (some g) → wpListIn F nF P ops Q rest (a.put op.dst undef) w') : wpListIn F nF P ops Q (op :: rest) a w := by
  refine wpListIn_plain hgd fun K hK => ?_
  unfold Oper.wpIn
  refine ⟨by simp [Oper.about, ho], ?_⟩
  rw [Oper.semAt_plain F _ _ (by rw [ho]; intro c hc'; cases hc')]
  simp only [execOp, ho, hx, hy, Instr.storeAt, Instr.sureAddr, Sem.run_bind, Sem.run_pure, Result.andThen_ok, run_storeVar_row w g t ty old cells hg hi hs h1]
  exact hK _ _ (h _ (setRow_heap w g old _ t _ hg) ⟨rfl, rfl, rfl, by simp, fun k _ hk => setRow_other w g k _ (fun e => hk (by rw [e]))⟩)

end Go.Proofs.Ytafbaagjokomcaa

namespace Go.Proofs.Ytafbaagjokomcaa
open Go.RowKit Go.Shelf
set_option maxRecDepth 100000
attribute [local go_sem] Oper.semAt_some

theorem blk_own {β : Type} (g : Nat) (t : TypeId) (f : β → Array Value) : Own (fun s W => Blk W g t (f s)) := fun _ _ _ _ hs hg hr => Blk.kept_ hs hg hr

/-- The marks that the loops so far have left. -/
def Marks (n₀ : Nat) (w : World) : List Deferred → Prop
  | [] => True
  | d :: ds => (∃ D, d = { target := .collected D, args := #[] } ∧ n₀ ≤ D ∧ w.heap[D]? = some (.deferred (some [])) ∧ ∀ d' ∈ ds, d' ≠ { target := .collected D, args := #[] }) ∧ Marks n₀ w ds
theorem Marks.lt {n₀ : Nat} {w : World} : ∀ {ds : List Deferred}, Marks n₀ w ds → ∀ D, ({ target := .collected D, args := #[] } : Deferred) ∈ ds → D < w.heap.size ∧ w.heap[D]? = some (.deferred (some []))
  | _ :: _, ⟨⟨D', hd, _, hk, _⟩, hm⟩, D, h => by
    rcases List.mem_cons.1 h with e | h
    · rw [hd] at e
      injection e with e _
      injection e with e
      subst e
      exact ⟨(Array.getElem?_eq_some_iff.1 hk).1, hk⟩
    · exact hm.lt D h
theorem Marks.keep {n₀ : Nat} {w w' : World} (hk : ∀ D : Nat, w.heap[D]? = some (.deferred (some [])) → n₀ ≤ D → w'.heap[D]? = some (.deferred (some []))) : ∀ {ds : List Deferred}, Marks n₀ w ds → Marks n₀ w' ds
  | [], _ => trivial
  | _ :: _, ⟨⟨D, hd, hn, h1, h2⟩, hm⟩ => ⟨⟨D, hd, hn, hk D h1 hn, h2⟩, hm.keep hk⟩
theorem Marks.grown {n₀ : Nat} {w w' : World} {ds : List Deferred} {row : Option Nat} (h : Marks n₀ w ds) (hg : w.grownBy w' row) (hr : ∀ r, row = some r → w.heap[r]? ≠ some (.deferred (some []))) : Marks n₀ w' ds :=
  h.keep fun D hD _ => (hg.block D (Array.getElem?_eq_some_iff.1 hD).1 (fun e => hr D e.symm hD)).trans hD
theorem Marks.below {n₀ : Nat} {w w' : World} {ds : List Deferred} (h : Marks n₀ w ds) (hb : Below w.heap.size w w') : Marks n₀ w' ds :=
  h.keep fun D hD _ => (hb.block D (Array.getElem?_eq_some_iff.1 hD).1).trans hD
theorem Marks.set_ {n₀ : Nat} {w : World} {ds : List Deferred} (h : Marks n₀ w ds) {g : Nat} {t : TypeId} {cs : Array Value} (hg : Blk w g t cs) (i : Nat) (u : Value) : Marks n₀ (w.setCell ⟨g, i, none⟩ u) ds :=
  h.keep fun D hD _ => (Below.heap_setCell w ⟨g, i, none⟩ u D (fun e => by
    subst e
    rw [show w.heap[D]? = _ from hg] at hD
    cases hD)).trans hD
theorem Marks.push {n₀ : Nat} {w w' : World} {ds : List Deferred} (h : Marks n₀ w ds) {D : Nat} (hD : w'.heap[D]? = some (.deferred (some []))) (hn : n₀ ≤ D) (hw : w.heap.size ≤ D) (h' : Marks n₀ w' ds) : Marks n₀ w' ({ target := .collected D, args := #[] } :: ds) :=
  ⟨⟨D, rfl, hn, hD, fun d' hd' e => by subst e; have := (h.lt D hd').1; omega⟩, h'⟩
theorem marks_ownFrom {β : Type} {n₀ B : Nat} {w₀ : World} {ds : List Deferred} (h : Marks n₀ w₀ ds) (hB : w₀.heap.size ≤ B) : OwnFrom B (fun (_ : β) W => Marks n₀ W ds) :=
  fun s W W' row hs hg hr => by
    have hm : ∀ {ds : List Deferred}, (∀ D, ({ target := .collected D, args := #[] } : Deferred) ∈ ds → D < B) → Marks n₀ W ds → Marks n₀ W' ds := by
      intro ds
      induction ds with
      | nil => intro _ _; trivial
      | cons d ds ih =>
        rintro hlt ⟨⟨D, hd, hn, h1, h2⟩, hm⟩
        have hDB := hlt D (by rw [hd]; exact List.mem_cons_self ..)
        exact ⟨⟨D, hd, hn, (hg.block D (Array.getElem?_eq_some_iff.1 h1).1 (fun e => by have := (hr D e.symm).1; omega)).trans h1, h2⟩, ih (fun D' h' => hlt D' (List.mem_cons_of_mem _ h')) hm⟩
    exact hm (fun D hD => by have := (h.lt D hD).1; omega) hs

/-- A function whose loops have left marks is left. -/
theorem leaves_marks {n : Nat} {P : Program} {fn : Func} {tmps : Array Value} {R : Ending → World → Prop} {n₀ : Nat} (Φ : World → Prop)
    (hΦ : ∀ w D, Φ w → n₀ ≤ D → w.heap[D]? = some (.deferred (some [])) → Φ (w.putObj D (.deferred none)))
    (hend : ∀ w, Φ w → LeavesInM Fence.wide n P fn tmps R [] .returning w) : ∀ (ds : List Deferred) (w : World), Marks n₀ w ds → Φ w → LeavesInM Fence.wide n P fn tmps R ds .returning w
  | [], w, _, h => hend w h
  | d :: ds, w, ⟨⟨D, hd, hn, hk, hne⟩, hm⟩, h => by
    refine ⟨by simp, .inl ⟨D, _, by rw [hd], run_takeDeferred hk, ?_⟩⟩
    refine leaves_marks Φ hΦ hend ds _ ?_ (hΦ w D h hn hk)
    have hgo : ∀ {ds : List Deferred}, (∀ d' ∈ ds, d' ≠ ({ target := .collected D, args := #[] } : Deferred)) → Marks n₀ w ds → Marks n₀ (w.putObj D (.deferred none)) ds := by
      intro ds
      induction ds with
      | nil => intro _ _; trivial
      | cons d ds ih =>
        rintro hne ⟨⟨D', hd', hn', h1, h2⟩, hm⟩
        refine ⟨⟨D', hd', hn', ?_, h2⟩, ih (fun d' h' => hne d' (List.mem_cons_of_mem _ h')) hm⟩
        have : D' ≠ D := fun e => hne d (List.mem_cons_self ..) (by rw [hd', e])
        rw [World.putObj_heap_other (fun e => this (by first | exact e | exact e.symm))]
        exact h1
    exact hgo hne hm

/-- The greater counts of the nodes that have come. -/
def jl (f g : Nat → Int) (l : List Nat) : Nat → Int := fun j => if j ∈ l then max (f j) (g j) else f j
theorem jl_nil (f g : Nat → Int) : jl f g [] = f := by funext j; simp [jl]
theorem jl_snoc (f g : Nat → Int) (l : List Nat) (m : Nat) (x : Int) (hx : x = max (jl f g l m) (g m)) : ∀ j, upd (jl f g l) m x j = jl f g (l ++ [m]) j := fun j => by
  subst hx
  unfold upd jl
  by_cases e : j = m
  · subst e
    simp only [if_true, List.mem_append, List.mem_singleton, or_true]
    split <;> omega
  · simp [e]
theorem jl_has (f g : Nat → Int) (l : List Nat) (m : Nat) (hm : m < 64) (hg : 0 < g m) : Vc.msk (pos (jl f g l)) ||| 2 ^ m = Vc.msk (pos (jl f g (l ++ [m]))) := by
  rw [Vc.msk_add _ _ hm]
  refine Vc.msk_congr fun j _ => ?_
  unfold pos jl
  by_cases e : j = m
  · subst e
    simp only [List.mem_append, List.mem_singleton, or_true, if_true, decide_true, Bool.or_true]
    have : 0 < max (f j) (g j) := by omega
    simp [this]
  · simp [e]
theorem jl_all (f g : Nat → Int) (hf : ∀ n, 0 ≤ f n) (hg : ∀ n, 0 ≤ g n) : ∀ j, j < 64 → jl f g (Vc.upto (pos g) 64) j = max (f j) (g j) := fun j hj => by
  unfold jl
  have h1 := hf j
  have h2 := hg j
  by_cases h : 0 < g j
  · rw [if_pos (by simp [Vc.upto, pos, hj, h])]
  · rw [if_neg (by simp [Vc.upto, pos, h])]
    omega
theorem jn_nonneg (vs : List (List Vc.St)) (n : Nat) : 0 ≤ jn vs n := by
  have : ∀ a : Int, 0 ≤ a → 0 ≤ vs.foldl (fun a v => max a (Vc.cnt v n)) a := by
    induction vs with
    | nil => exact fun a h => h
    | cons x l ih => exact fun a h => ih (max a (Vc.cnt x n)) (by omega)
  exact this 0 (by omega)

theorem jl_blk {W : World} {B : Nat} {t : TypeId} {fp f g : Nat → Int} {hp m : Nat} {l l' : List Nat} {z : Int} (hC : Blk W B t (cc fp hp)) (hf : fp = jl f g l) (hm : m < 64) (hz : z = max (jl f g l m) (g m))
    (hh : hp ||| 2 ^ m = Vc.msk (pos (jl f g l'))) (hl : l' = l ++ [m]) :
    Blk ((W.setCell ⟨B, m, none⟩ (.int .i64 z)).setCell ⟨B, 64, none⟩ (.int .u64 ((hp ||| 2 ^ m : Nat) : Int))) B t (cc (jl f g l') (Vc.msk (pos (jl f g l')))) := by
  have h5 := (hC.set_ m (.int .i64 z)).set_ 64 (.int .u64 ((hp ||| 2 ^ m : Nat) : Int))
  rw [cc_set _ _ _ _ hm, cc_sethas, hh, hf, cc_congr (fun j _ => jl_snoc f g l m z hz j), ← hl] at h5
  rw [hh]
  exact h5

end Go.Proofs.Ytafbaagjokomcaa

namespace Go.Proofs.Ytafbaagjokomcaa
open Go.RowKit Go.Shelf
set_option maxRecDepth 100000
attribute [local go_sem] Oper.semAt_some

theorem RdL.from_one {w : World} {B n c : Nat} {A : Option Addr} {vs : List (List Vc.St)} (h : RdL w B A n c vs) (hn : 0 < n) : RdL w B (cutAt 1 A c 1) (n - 1) (c - 1) (vs.drop 1) := by
  have h1 := h.len
  have h2 := h.cap
  refine ⟨by rw [List.length_drop]; omega, by omega, by have := h.max; omega, fun hA => ?_, fun k hk => ?_⟩
  · unfold cutAt at hA
    split at hA
    · omega
    · have := h.nil (by simpa using hA); omega
  · rw [List.length_drop] at hk
    obtain ⟨b, o, Ak, nk, ck, e, hb, hc, hl, hr⟩ := h.at_ (k + 1) (by omega)
    refine ⟨b, o + 1, Ak, nk, ck, ?_, hb, ?_, ?_, ?_⟩
    · unfold cutAt
      rw [if_neg (by omega), e]
      rfl
    · rw [show o + 1 + k = o + (k + 1) by omega]; exact hc
    · rw [List.getElem_drop]; simp only [Nat.add_comm 1 k]; exact hl
    · rw [List.getElem_drop]; simp only [Nat.add_comm 1 k]; exact hr

theorem Marks.drew {n₀ : Nat} {w : World} {ds : List Deferred} (h : Marks n₀ w ds) : Marks n₀ w.drew ds := Marks.keep (w := w) (w' := w.drew) (fun _ hD _ => hD) h
/-- In a round an operation that defers nothing is carried out as anywhere. -/
theorem wpAnyIn_round {F : Fence} {n : Nat} {P : Program} {ops : Array Oper} {Q : Exit → Act → World → Prop} {md : Region.Mode} {l : Nat} (hro : F.round = none) (hd : ops.all (fun o => match o.op with | .defer _ => false | _ => true) = true) :
    ∀ (fuel : Nat) (listed : Array Bool) (a : Act) (w : World), wpAnyIn F n P md ops Q fuel listed a w → wpAnyIn (F.inRound l) n P md ops Q fuel listed a w
  | 0, _, _, _, h => h
  | fuel + 1, listed, a, w, h => by
    refine ⟨h.1, fun i hi => ?_⟩
    have h2 := wpOpIn_mono (fun a w => wpAnyIn_round (l := l) hro hd fuel (listed.setIfInBounds i true) a w) (h.2 i hi)
    unfold wpOpIn at h2 ⊢
    split
    · rename_i e
      rw [e] at h2
      exact h2
    · rename_i o e
      rw [e] at h2
      simp only at h2 ⊢
      have hdo : ∀ c, o.op ≠ .defer c := fun c hc => by
        have := Array.all_eq_true'.1 hd o (Array.mem_of_getElem? e)
        rw [hc] at this
        cases this
      split
      · rename_i hw
        rw [if_pos hw] at h2
        refine ⟨h2.1, ?_⟩
        have h3 := h2.2
        rw [hro, Oper.semAt_none] at h3
        rw [Fence.inRound_round, Oper.semAt_some _ _ _ hdo]
        exact h3
      · rename_i hw
        rw [if_neg hw] at h2
        exact h2

/-- The lesser counts of the nodes that have come. -/
def ml (f g : Nat → Int) (l : List Nat) : Nat → Int := fun j => if j ∈ l then min (f j) (g j) else f j
theorem ml_nil (f g : Nat → Int) : ml f g [] = f := by funext j; simp [ml]
theorem ml_snoc (f g : Nat → Int) (l : List Nat) (m : Nat) (x : Int) (hx : x = min (ml f g l m) (g m)) : ∀ j, upd (ml f g l) m x j = ml f g (l ++ [m]) j := fun j => by
  subst hx
  unfold upd ml
  by_cases e : j = m
  · subst e
    simp only [if_true, List.mem_append, List.mem_singleton, or_true]
    split <;> omega
  · simp [e]

end Go.Proofs.Ytafbaagjokomcaa

namespace Go.Proofs.Ytafbaagjokomcaa
open Go.RowKit
set_option maxRecDepth 100000

/-- Is it a vector? -/
def fm : Int → List Vc.St → Bool
  | _, [] => true
  | last, s :: r => Vc.right s && (decide (last < s.2) && fm s.2 r)
theorem fm_drop (last : Int) (v : List Vc.St) (k : Nat) (h : k < v.length) : fm last (v.drop k) = (Vc.right v[k] && (decide (last < v[k].2) && fm v[k].2 (v.drop (k + 1)))) := by
  rw [List.drop_eq_getElem_cons h]; rfl

theorem cntZ_cons (s : Vc.St) (r : List Vc.St) (x : Int) : cntZ (s :: r) x = if s.2 = x ∧ Vc.right s = true then s.1 else cntZ r x := by
  unfold cntZ
  by_cases h : 0 ≤ x ∧ x < 64
  · rw [if_pos h, if_pos h]
    simp only [Vc.cnt]
    obtain ⟨k, rfl⟩ := Int.eq_ofNat_of_zero_le h.1
    by_cases h2 : s.2 = (k : Int) <;> by_cases h3 : Vc.right s = true <;> simp [h2, h3]
  · rw [if_neg h, if_neg h, if_neg]
    rintro ⟨h1, h2⟩
    have := (Vc.right_iff s).1 h2
    omega
theorem cntZ_drop (v : List Vc.St) (x : Int) (k : Nat) (h : k < v.length) : cntZ (v.drop k) x = if v[k].2 = x ∧ Vc.right v[k] = true then v[k].1 else cntZ (v.drop (k + 1)) x := by
  rw [List.drop_eq_getElem_cons h, cntZ_cons]
theorem cntZ_nil (x : Int) : cntZ [] x = 0 := by unfold cntZ; split <;> rfl

end Go.Proofs.Ytafbaagjokomcaa

namespace Go.Proofs.Ytafbaagjokomcaa
open Go.RowKit
set_option maxRecDepth 100000

/-- Is a stamp in it? -/
def hasB (v : List Vc.St) (s : Vc.St) : Bool := Vc.right s && decide (s.1 ≤ cntZ v s.2)

theorem dec_drop {u v : List Vc.St} {k : Nat} (h1 : k < u.length) (h2 : k < v.length) (h : u[k] = v[k]) : decide (u.drop k = v.drop k) = decide (u.drop (k + 1) = v.drop (k + 1)) := by
  refine decide_eq_decide.2 ?_
  rw [List.drop_eq_getElem_cons h1, List.drop_eq_getElem_cons h2, h]
  exact ⟨fun e => (List.cons.inj e).2, fun e => by rw [e]⟩

end Go.Proofs.Ytafbaagjokomcaa

