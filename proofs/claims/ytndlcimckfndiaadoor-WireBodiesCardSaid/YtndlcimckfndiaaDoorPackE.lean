/- Walks over pack.Row and the document's Row. -/
import Derived.Test.YtndlcimckfndiaaDoorPackD
namespace Go.Proofs.YtndlcimckfndiaaDoor
open Go.RowKit
set_option maxRecDepth 100000

theorem number_is {A : Option Addr} {n c : Nat} {l : List UInt8} {w : World} {x k er : Nat} (h : Pk.num l 0 l = (x, k, er)) (hl : l.length = n) (hR : Rd w w.heap.size 1 A n c (bv l)) :
    Calls Tryd.prog 82 #[.slice A n c] w fun e w' => e = .returned (.tuple #[.int .i64 x, .int .i64 k, .int .i64 er]) ∧ w = w' := by
  have := number_any A n c l w hl hR
  rw [h] at this
  exact this
theorem refNumber_is {A : Option Addr} {n c : Nat} {l : List UInt8} {w : World} {x k er : Nat} (h : Pk.num l 0 l = (x, k, er)) (hl : l.length = n) (hR : Rd w w.heap.size 1 A n c (bv l)) :
    Calls Tryd.prog 81 #[.slice A n c] w fun e w' => e = .returned (.tuple #[.int .i64 x, .int .i64 k, .int .i64 er]) ∧ w = w' := by
  have := refNumber_any A n c l w hl hR
  rw [h] at this
  exact this

/-- The row that bytes begin with. -/
def RowRet (base : Nat) (w : World) (r : List UInt8 × Nat × Nat) (e : Ending) (w' : World) : Prop :=
  ∃ A' c', e = .returned (.tuple #[.slice A' r.1.length c', .int .i64 r.2.1, .int .i64 r.2.2]) ∧ w'.ownsRow base 5 1 (.slice A' r.1.length c') r.1.length (bv r.1) ∧ Below base w w'

theorem RowRet.none_ (w : World) (er : Nat) : RowRet w.heap.size w ([], 0, er) (.returned (.tuple #[.slice none 0 0, .int .i64 0, .int .i64 er])) w :=
  ⟨none, 0, rfl, World.ownsRow_nil _ _ _ _, Below.refl _ _⟩

theorem rowOf_neg {l : List UInt8} {most : Int} (h : most < 0) : rowOf l most = ([], 0, 1) := by rw [rowOf, if_pos h]
theorem rowOf_err {l : List UInt8} {most : Int} {x k er : Nat} (h : ¬ most < 0) (hx : Pk.num l 0 l = (x, k, er)) (he : er ≠ 0) : rowOf l most = ([], 0, er) := by
  rw [rowOf, if_neg h, hx, if_pos he]
theorem rowOf_most {l : List UInt8} {most : Int} {x k : Nat} (h : ¬ most < 0) (hx : Pk.num l 0 l = (x, k, 0)) (hm : most < (x : Int)) : rowOf l most = ([], 0, 4) := by
  rw [rowOf, if_neg h, hx, if_neg (by simp), if_pos hm]
theorem rowOf_short {l : List UInt8} {most : Int} {x k : Nat} (h : ¬ most < 0) (hx : Pk.num l 0 l = (x, k, 0)) (hm : ¬ most < (x : Int)) (hs : (l.length : Int) - (k : Int) < (x : Int)) : rowOf l most = ([], 0, 5) := by
  rw [rowOf, if_neg h, hx, if_neg (by simp), if_neg hm, if_pos hs]
theorem rowOf_ok {l : List UInt8} {most : Int} {x k : Nat} (h : ¬ most < 0) (hx : Pk.num l 0 l = (x, k, 0)) (hm : ¬ most < (x : Int)) (hs : ¬ (l.length : Int) - (k : Int) < (x : Int)) : rowOf l most = ((l.drop k).take x, k + x, 0) := by
  rw [rowOf, if_neg h, hx, if_neg (by simp), if_neg hm, if_neg hs]

set_option maxHeartbeats 1000000 in
/-- pack.Row. -/
theorem row_any (A : Option Addr) (n c : Nat) (l : List UInt8) (most : Int) (w : World) (hl : l.length = n) (hR : Rd w w.heap.size 1 A n c (bv l)) (hn : n ≤ 140737488355328) :
    Calls Tryd.prog 72 #[.slice A n c, .int .i64 most] w (RowRet w.heap.size w (rowOf l most)) := by
  have hcap := hR.cap
  by_cases hneg : most < 0
  · rw [rowOf_neg hneg]
    clear hR hl hcap
    go_enter Tryd.func72, Tryd.ntmps72
    go_wp2
    go_ret3
    exact RowRet.none_ w 1
  obtain ⟨x, k, er, hx⟩ : ∃ x k er, Pk.num l 0 l = (x, k, er) := ⟨_, _, _, rfl⟩
  have H1 := Lib.hid (number_is hx hl hR)
  by_cases he : er = 0
  · subst he
    obtain ⟨b1, b2, b3, b4, b5⟩ := Pk.num_back hx
    have hkn : k ≤ n := by omega
    clear b4
    by_cases hm : most < (x : Int)
    · rw [rowOf_most hneg hx hm]
      clear hR hl hcap hx
      go_enter Tryd.func72, Tryd.ntmps72
      go_wp2_with (go_at_call 82; go_must (refine H1.out.mono ?_); rintro e w1 ⟨rfl, rfl⟩)
      go_ret3
      exact RowRet.none_ w 4
    by_cases hs : (n : Int) - (k : Int) < (x : Int)
    · rw [rowOf_short hneg hx hm (by rw [hl]; exact hs)]
      clear hR hl hcap hx
      go_enter Tryd.func72, Tryd.ntmps72
      go_wp2_with (go_at_call 82; go_must (refine H1.out.mono ?_); rintro e w1 ⟨rfl, rfl⟩)
      go_ret3
      exact RowRet.none_ w 5
    · rw [rowOf_ok hneg hx hm (by rw [hl]; exact hs)]
      have hkx : k + x ≤ n := by omega
      have hcut := hR.cut (k := k) (m := k + x) (by omega) hkx
      rw [show k + x - k = x by omega, Nat.mul_one, Nat.mul_one, ← bv_drop, ← bv_take] at hcut
      have hsl : ∀ W, (Instr.slice 23 (.slice A n c) (some (.int .i64 (k : Int))) (some (.int .i64 ((k : Int) + (x : Int)))) none).run Tryd.prog W = .ok (.slice (cutAt 1 A c k) x (c - k)) W := fun W => by
        have := run_cut W 23 5 1 Tryd.underlying23 size_u8 A n c .i64 .i64 k ((k : Int) + x) k (k + x) rfl (by omega) (by omega) (by omega)
        rwa [show k + x - k = x by omega] at this
      have hlen : ((l.drop k).take x).length = x := by rw [List.length_take, List.length_drop]; omega
      have H2 := Lib.hid (clone_any _ _ _ _ w hcut (bv_oneCell _) (by omega))
      have HL := Lib.hid hlen
      clear hR hl hx hcut hlen
      go_enter Tryd.func72, Tryd.ntmps72
      go_wp2_with (first | (go_at_call 82; go_must (refine H1.out.mono ?_); rintro e w1 ⟨rfl, rfl⟩) | (go_at_call 91; go_must (refine H2.out.mono ?_); rintro e w1 ⟨A', c', rfl, ho, hb⟩))
      go_ret3
      have hlen := HL.out
      exact ⟨A', c', by simp only [hlen]; rfl, by simp only [hlen]; exact ho, hb⟩
  · rw [rowOf_err hneg hx he]
    have he' : ((er : Int) != 0) = true := bne_iff_ne.2 (by omega)
    clear hR hl hcap hx
    go_enter Tryd.func72, Tryd.ntmps72
    go_wp2_with (go_at_call 82; go_must (refine H1.out.mono ?_); rintro e w1 ⟨rfl, rfl⟩)
    go_ret3
    exact RowRet.none_ w er

set_option maxHeartbeats 1000000 in
/-- telltaleref05.Row. -/
theorem refRow_any (A : Option Addr) (n c : Nat) (l : List UInt8) (most : Int) (w : World) (hl : l.length = n) (hR : Rd w w.heap.size 1 A n c (bv l)) (hn : n ≤ 140737488355328) :
    Calls Tryd.prog 90 #[.slice A n c, .int .i64 most] w (RowRet w.heap.size w (rowOf l most)) := by
  have hcap := hR.cap
  by_cases hneg : most < 0
  · rw [rowOf_neg hneg]
    clear hR hl hcap
    go_enter Tryd.func90, Tryd.ntmps90
    go_wp2
    go_ret3
    exact RowRet.none_ w 1
  obtain ⟨x, k, er, hx⟩ : ∃ x k er, Pk.num l 0 l = (x, k, er) := ⟨_, _, _, rfl⟩
  have H1 := Lib.hid (refNumber_is hx hl hR)
  by_cases he : er = 0
  · subst he
    obtain ⟨b1, b2, b3, b4, b5⟩ := Pk.num_back hx
    have hkn : k ≤ n := by omega
    clear b4
    by_cases hm : most < (x : Int)
    · rw [rowOf_most hneg hx hm]
      clear hR hl hcap hx
      go_enter Tryd.func90, Tryd.ntmps90
      go_wp2_with (go_at_call 81; go_must (refine H1.out.mono ?_); rintro e w1 ⟨rfl, rfl⟩)
      go_ret3
      exact RowRet.none_ w 4
    by_cases hs : (n : Int) - (k : Int) < (x : Int)
    · rw [rowOf_short hneg hx hm (by rw [hl]; exact hs)]
      clear hR hl hcap hx
      go_enter Tryd.func90, Tryd.ntmps90
      go_wp2_with (go_at_call 81; go_must (refine H1.out.mono ?_); rintro e w1 ⟨rfl, rfl⟩)
      go_ret3
      exact RowRet.none_ w 5
    · rw [rowOf_ok hneg hx hm (by rw [hl]; exact hs)]
      have hkx : k + x ≤ n := by omega
      have hcut := hR.cut (k := k) (m := k + x) (by omega) hkx
      rw [show k + x - k = x by omega, Nat.mul_one, Nat.mul_one, ← bv_drop, ← bv_take] at hcut
      have hsl : ∀ W, (Instr.slice 23 (.slice A n c) (some (.int .i64 (k : Int))) (some (.int .i64 ((k : Int) + (x : Int)))) none).run Tryd.prog W = .ok (.slice (cutAt 1 A c k) x (c - k)) W := fun W => by
        have := run_cut W 23 5 1 Tryd.underlying23 size_u8 A n c .i64 .i64 k ((k : Int) + x) k (k + x) rfl (by omega) (by omega) (by omega)
        rwa [show k + x - k = x by omega] at this
      have hlen : ((l.drop k).take x).length = x := by rw [List.length_take, List.length_drop]; omega
      have H2 := Lib.hid (copy_any _ _ _ _ w hcut (bv_oneCell _) (by omega))
      have HL := Lib.hid hlen
      clear hR hl hx hcut hlen
      go_enter Tryd.func90, Tryd.ntmps90
      go_wp2_with (first | (go_at_call 81; go_must (refine H1.out.mono ?_); rintro e w1 ⟨rfl, rfl⟩) | (go_at_call 42; go_must (refine H2.out.mono ?_); rintro e w1 ⟨A', c', rfl, ho, hb⟩))
      go_ret3
      have hlen := HL.out
      exact ⟨A', c', by simp only [hlen]; rfl, by simp only [hlen]; exact ho, hb⟩
  · rw [rowOf_err hneg hx he]
    have he' : ((er : Int) != 0) = true := bne_iff_ne.2 (by omega)
    clear hR hl hcap hx
    go_enter Tryd.func90, Tryd.ntmps90
    go_wp2_with (go_at_call 81; go_must (refine H1.out.mono ?_); rintro e w1 ⟨rfl, rfl⟩)
    go_ret3
    exact RowRet.none_ w er

theorem run_convert_rd {P : Program} {w : World} {B n c : Nat} {A : Option Addr} {l : List UInt8} (src e dst : TypeId) (hs : P.underlying src = some (.slice e)) (he : P.underlying e = some (.int .u8)) (hd : P.underlying dst = some .string)
    (hR : Rd w B 1 A n c (bv l)) : (convert src dst (.slice A n c)).run P w = .ok (.string ⟨l.toArray⟩) w := by
  have hln : l.length = n := by have := hR.len; rw [bv_len] at this; omega
  rcases A with _ | ad
  · have hc0 := hR.nil rfl
    have hcap := hR.cap
    obtain rfl : n = 0 := by omega
    have hx : l = [] := List.eq_nil_of_length_eq_zero hln
    subst hx
    exact run_convert_bytes_nil w src e hs he 0 c dst hd
  · have hl : (loadCells ad n).run P w = .ok (bv l).toArray w := by
      have := run_loadCells_list (P := P) w ad (bv l) (fun j v hj => by
        rcases Nat.eq_zero_or_pos n with h0 | h0
        · have hx : l = [] := List.eq_nil_of_length_eq_zero (by omega)
          subst hx
          simp [bv] at hj
        · obtain ⟨ad', h, _, hc⟩ := hR.at0 h0
          injection h with h
          subst h
          exact hc j v hj)
      rwa [bv_len, hln] at this
    have e1 : bv l = (l.map fun b => (b.toNat : Int)).map (Value.int .u8) := by simp [bv]
    rw [e1] at hl
    rw [run_convert_bytes_string w src dst e _ n c hs he hd, run_bytesToString w ad n c _ hl, foldl_push_bytes]
    simp [ByteArray.empty, ByteArray.emptyWithCapacity, Function.comp_def]
    rfl

theorem ret_bool {a b : Bool} (h : a = b) : Ending.returned (.bool a) = .returned (.bool b) := by rw [h]

/-- telltaleref05.Same. -/
theorem sameB_any (A A2 : Option Addr) (n c m c2 B B2 : Nat) (l r : List UInt8) (w : World) (hR : Rd w B 1 A n c (bv l)) (hR2 : Rd w B2 1 A2 m c2 (bv r)) :
    Calls Tryd.prog 39 #[.slice A n c, .slice A2 m c2] w fun e w' => e = .returned (.bool (l == r)) ∧ w = w' := by
  have h1 := run_convert_rd (P := Tryd.prog) 23 5 9 Tryd.underlying23 Tryd.underlying5 Tryd.underlying9 hR
  have h2 := run_convert_rd (P := Tryd.prog) 23 5 9 Tryd.underlying23 Tryd.underlying5 Tryd.underlying9 hR2
  clear hR hR2
  go_enter Tryd.func39, Tryd.ntmps39
  go_wp2
  go_ret
  exact ⟨by simp, rfl⟩
end Go.Proofs.YtndlcimckfndiaaDoor
