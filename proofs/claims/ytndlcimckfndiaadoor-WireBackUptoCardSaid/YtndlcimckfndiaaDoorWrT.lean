/- Walks: alive, behind and read of the wire's laws. -/
import Derived.Test.YtndlcimckfndiaaDoorWrS
import Derived.Test.YtndlcimckfndiaaDoorMPk
namespace Go.Proofs.YtndlcimckfndiaaDoor
open Go.RowKit
set_option maxRecDepth 100000

set_option maxHeartbeats 4000000 in
theorem aliveW_any (w : World) : Calls Tryd.prog 10 #[] w fun e w' => e = .returned (.bool true) ∧ Below w.heap.size w w' := by
  have G1 := Lib.hid fun (W : World) => encAsk_any W
  have G2 := Lib.hid fun (W : World) => (show Below W.heap.size W (W.alloc (.cells #[.int .u8 4, .int .u8 1, .int .u8 2, .int .u8 7] 5)) from (Below.refl _ _).alloc (Nat.le_refl _) _)
  have G3 := Lib.hid fun (W : World) => (show Rd (W.alloc (.cells #[.int .u8 4, .int .u8 1, .int .u8 2, .int .u8 7] 5)) (W.alloc (.cells #[.int .u8 4, .int .u8 1, .int .u8 2, .int .u8 7] 5)).heap.size 1 (some ⟨W.heap.size, 0, none⟩) 4 4 (bv [4, 1, 2, 7]) from by rw [World.size_alloc]; exact Rd.new W 5 1 4 #[.int .u8 4, .int .u8 1, .int .u8 2, .int .u8 7] rfl (by unfold maxLen; omega))
  have G4 := Lib.hid fun (W : World) (A : Option Addr) (c : Nat) h => decAsk_any A c W h
  have G5 := Lib.hid fun (W : World) => Blk.new W 74 ask
  have G6 := Lib.hid fun (W : World) => (show Below W.heap.size W (W.alloc (.cells ask 74)) from (Below.refl _ _).alloc (Nat.le_refl _) _)
  have G7 := Lib.hid fun (W : World) (A A2 : Option Addr) (c c2 B2 : Nat) (h1 : Rd W W.heap.size 1 A 4 c (bv [4, 1, 2, 7])) (h2 : Rd W B2 1 A2 4 c2 (bv [4, 1, 2, 7])) => (sameB_any A A2 4 c 4 c2 W.heap.size B2 [4, 1, 2, 7] [4, 1, 2, 7] W h1 h2).mono fun e W' (h : e = .returned (.bool (([4, 1, 2, 7] : List UInt8) == [4, 1, 2, 7])) ∧ W = W') => (show e = .returned (.bool true) ∧ W' = W from ⟨h.1, h.2.symm⟩)
  unfold ask at G1 G4 G5 G6
  go_enter Tryd.func10, Tryd.ntmps10
  go_wp2_with (first
    | (go_at_call 37; go_must (refine (G1.out _).mono ?_); rintro e w1 ⟨A, c, rfl, hR1, hb1⟩)
    | (go_at_call 43; go_must (refine (G4.out _ _ _ (G3.out _)).mono ?_); rintro e w3 ⟨rfl, hb3⟩
       have hX := G5.out w3
       have hb4 := below_then (below_then (G2.out w1) (Nat.le_refl _) hb3) (Nat.le_refl _) (G6.out w3)
       have hR4 := hR1.go hb4
       have hX5 := hX.go (G2.out _)
       have x8 := hX5.cell 8
       have hR5 := hR4.go (G2.out _)
       have hS5 := G3.out (w3.alloc (.cells #[.int .i64 4, .int .i64 1, .int .i64 2, .int .i64 0, .int .i64 0, .slice none 0 0, .slice none 0 0, .slice none 0 0, .int .i64 7, .int .i64 0, .int .i64 0, .slice none 0 0] 74))
       simp only [World.size_alloc] at hS5
       have hbw := below_then (below_then hb1 (Nat.le_refl _) hb4) (Nat.le_refl _) (G2.out _))
    | (go_at_call 39; go_must (refine (G7.out _ _ _ _ _ _ hR5 hS5).mono ?_); rintro e w5 ⟨rfl, rfl⟩)
    | fail)
  go_ret
  exact ⟨rfl, hbw⟩

theorem wpList_append_rdg {P : Program} {w : World} {ops : Array Oper} {rest : List Oper} {o : Oper} {a : Act} {Q : Exit → Act → World → Prop} (hgd : Region.wanted o (yielded ops a.tmps) = true) (s x : Operand) (t : TypeId)
    (ho : o.op = .call { callee := .builtin .append, args := #[s, x], argTypes := #[t, t] })
    (base : Nat) (e : TypeId) (i : TypeInfo) (z : Value) (size bytes : Nat) (ht : P.underlying t = some (.slice e)) (hi : P.info? e = some i) (hz : i.zero = some z)
    (hsize : i.size = size) (hby : i.bytes = bytes) (hzs : z.cells.size = size) (hsz : 0 < size)
    (v : Value) (n : Nat) (xs : List Value) (hs : a.eval s = v) (hown : w.ownsRow base e size v n xs)
    (B : Nat) (A : Option Addr) (m c : Nat) (news : List Value) (hx : a.eval x = .slice A m c) (hr : Rd w B size A m c news) (h1 : ∀ u ∈ news, u.oneCell' = true)
    (h63 : n + m ≤ maxLen) (hbytes : (n + m) * bytes ≤ 140737488355328) (hbase : base ≤ w.heap.size)
    (h : ∀ A' c' w', w'.ownsRow base e size (.slice A' (n + m) c') (n + m) (xs ++ news) → w.grownBy w' v.ownBlock → ((Value.slice A' (n + m) c').ownBlock = v.ownBlock ∨ (Value.slice A' (n + m) c').ownBlock = some w.heap.size) → wpList P ops Q rest (a.put o.dst (.slice A' (n + m) c')) w') : wpList P ops Q (o :: rest) a w :=
  wpList_step fun _ hK => by
    rw [if_pos hgd]
    exact wp_append_rd w s x t ho base e i z size bytes ht hi hz hsize hby hzs hsz v n xs hs hown B A m c news hx hr h1 h63 hbytes hbase fun A' c' w' h2 h3 h4 => hK _ _ (h A' c' w' h2 h3 h4)

def behindV (o doc ds : List UInt8) (er : Int) (ok : Bool) : Bool := if ok then decide (er = 0) && (o == doc ++ ds) else decide (er = 1) && decide (o.length = 0)
theorem behind_any (A D E : Option Addr) (n c m d k e' : Nat) (o doc ds : List UInt8) (er : Int) (ok : Bool) (w : World) (hl : o.length = n) (hR : Rd w w.heap.size 1 A n c (bv o)) (hR2 : Rd w w.heap.size 1 D m d (bv doc)) (hR3 : Rd w w.heap.size 1 E k e' (bv ds)) (hm : m + k ≤ 140737488355328) :
    Calls Tryd.prog 16 #[.slice A n c, .slice D m d, .slice E k e', .int .i64 er, .bool ok] w fun e w' => e = .returned (.bool (behindV o doc ds er ok)) ∧ Below w.heap.size w w' := by
  cases ok with
  | false =>
    go_enter Tryd.func16, Tryd.ntmps16
    by_cases he : er = 1
    · go_wp2
      go_ret
      exact ⟨ret_bool (by rw [Bool.eq_iff_iff]; simp [behindV, he, hl] <;> omega), Below.refl _ _⟩
    · go_wp2
      go_ret
      refine ⟨?_, Below.refl _ _⟩
      simp [behindV, he]
  | true =>
    obtain ⟨i0, hi0, hz0, hz1, hz2⟩ := info_parts u8_info
    have hmx := hR3.max
    have h63 : m + k ≤ maxLen := by unfold maxLen; omega
    by_cases he : er = 0
    · have H1 := Lib.hid (copy_any D m d (bv doc) w hR2 (bv_oneCell doc) (by omega))
      have G7 := Lib.hid fun (W : World) (A2 : Option Addr) (c2 : Nat) (h1 : Rd W W.heap.size 1 A n c (bv o)) (h2 : Rd W W.heap.size 1 A2 (m + k) c2 (bv (doc ++ ds))) => sameB_any A A2 n c (m + k) c2 W.heap.size W.heap.size o (doc ++ ds) W h1 h2
      have HR := Lib.hid hR
      have HR3 := Lib.hid hR3
      have e1 : bv doc ++ bv ds = bv (doc ++ ds) := by simp [bv]
      clear hR hR2 hR3 hl
      subst he
      go_enter Tryd.func16, Tryd.ntmps16
      go_wp2_with (first
       | (go_at_call 42; go_must (refine H1.out.mono ?_); rintro e w1 ⟨A1, c1, rfl, ho1, hb1⟩)
       | (at_builtin; go_loud (refine wpList_append_rdg rfl (.tmp 25) (.tmp 26) _ rfl w.heap.size 5 i0 _ 1 1 Tryd.underlying23 hi0 hz0 hz1 hz2 rfl (by decide) (.slice A1 m c1) m (bv doc) rfl ho1 w.heap.size E k e' (bv ds) rfl (HR3.out.below hb1) (bv_oneCell ds) h63 (by omega) hb1.size ?_); intro A2 c2 w2 ho2 hg2 hat2
          have hb2 : Below w.heap.size w w2 := hb1.trans (grown_below hg2 hb1.size (own_lt ho1))
          rw [e1] at ho2)
       | (go_at_call 39; go_must (refine (G7.out _ _ _ (HR.out.go hb2) (Rd.of_own ho2)).mono ?_); rintro e w3 ⟨rfl, rfl⟩)
       | fail)
      go_ret
      exact ⟨by simp [behindV], hb2⟩
    · go_enter Tryd.func16, Tryd.ntmps16
      go_wp2
      go_ret
      refine ⟨?_, Below.refl _ _⟩
      simp [behindV, he]

/-- What read says of a reader's state, a rest's length and an error. -/
theorem read_bad (g : Nat) (A : Option Addr) (n c : Nat) (k : Int) (re er : Int) (w : World) (h : Blk w g 32 #[.slice A n c, .int .i64 k, .bool true]) :
    Calls Tryd.prog 17 #[.pointer (some ⟨g, 0, none⟩), .int .i64 re, .int .i64 er] w fun e w' => e = .returned (.bool (decide (re = 0) && decide (er = 4))) ∧ w' = w := by
  have p2 := h.cell 2
  have p1 := h.cell 1
  clear h
  by_cases hr : re = 0
  · go_enter Tryd.func17, Tryd.ntmps17
    go_wp2
    go_ret
    exact ⟨ret_bool (by rw [Bool.eq_iff_iff]; simp [hr] <;> omega), rfl⟩
  · go_enter Tryd.func17, Tryd.ntmps17
    go_wp2
    go_ret
    refine ⟨?_, rfl⟩
    simp [hr]
theorem read_good (g : Nat) (A : Option Addr) (n c : Nat) (k : Int) (re er : Int) (w : World) (h : Blk w g 32 #[.slice A n c, .int .i64 k, .bool false]) :
    Calls Tryd.prog 17 #[.pointer (some ⟨g, 0, none⟩), .int .i64 re, .int .i64 er] w fun e w' => e = .returned (.bool (decide (re = k) && decide (er = 0))) ∧ w' = w := by
  have p2 := h.cell 2
  have p1 := h.cell 1
  clear h
  by_cases hr : re = k
  · go_enter Tryd.func17, Tryd.ntmps17
    go_wp2
    go_ret
    exact ⟨ret_bool (by rw [Bool.eq_iff_iff]; simp [hr] <;> omega), rfl⟩
  · go_enter Tryd.func17, Tryd.ntmps17
    go_wp2
    go_ret
    refine ⟨?_, rfl⟩
    simp [hr]
end Go.Proofs.YtndlcimckfndiaaDoor
