/- Texts of one layer in one file: WrK, WrL, WrM. -/
import Derived.Test.YtndlcimckfndiaaDoorMWg
import Derived.Test.YtndlcimckfndiaaDoorNtD
import Derived.Deep.QuietTactic
import Derived.BigQuiet
namespace Go.Proofs.YtndlcimckfndiaaDoor
open Go.RowKit
set_option maxRecDepth 100000

/-- A result that lies in a cell, and two in slots. -/
theorem res_ctt {P : Program} {fn : Func} {p q r : Tmp} {ty : TypeId} (h : fn.results = #[.cell p ty, .tmp q, .tmp r]) (tmps : Array Value) (w : World) (g : Nat) (t : TypeId) (cs : Array Value) (fr : Nat × Nat) (d : TypeDesc)
    (hp : tmps.getD p undef = .pointer (some ⟨g, 0, none⟩)) (hg : w.heap[g]? = some (.cells cs t fr))
    (hu : P.underlying ty = some d) (hd : (match d with | .struct _ | .array _ _ => true | _ => false) = true) (hi : (P.info? ty).map (·.size) = some cs.size) :
    (results fn tmps).run P w = .ok (.tuple #[.agg cs, tmps.getD q undef, tmps.getD r undef]) w := by
  have hp' : tmps[p]?.getD undef = .pointer (some ⟨g, 0, none⟩) := by simpa using hp
  simp [results, h, hp', asAddr, run_loadVar_row w g t ty cs fr d hg hu hd hi]

set_option maxHeartbeats 2000000 in
/-- end: all that was read (a note). -/
theorem endN_ok (g T : Nat) (v : NV) (l : List UInt8) (w : World) (h : PR w g T (some l)) :
    Calls Tryd.prog 64 #[.pointer (some ⟨g, 0, none⟩), .agg v.val, .bool true] w fun e w' => e = .returned (.tuple #[.agg v.val, .int .i64 ((T - l.length : Nat) : Int), .int .i64 0]) ∧ Below w.heap.size w w' := by
  obtain ⟨A1, n1, c1, A2, n2, c2, A3, n3, c3, A4, n4, c4⟩ := v
  have hlt := h.lt
  obtain ⟨A, n, c, hB, hq⟩ := h
  generalize (T - l.length : Nat) = z at hB
  have HB := Lib.hid hB
  clear hB hq
  go_enter Tryd.func64, Tryd.ntmps64
  have d1 := HB.out.cell 1
  have d2 := HB.out.cell 2
  go_wp2
  have hX := (Blk.new w 51 #[.slice A1 n1 c1, .slice A2 n2 c2, .slice A3 n3 c3, .slice A4 n4 c4]).alloc (.cells #[.slice none 0 0, .slice none 0 0, .slice none 0 0, .slice none 0 0] 51)
  have hY := Blk.new (w.alloc (.cells #[.slice A1 n1 c1, .slice A2 n2 c2, .slice A3 n3 c3, .slice A4 n4 c4] 51)) 51 #[.slice none 0 0, .slice none 0 0, .slice none 0 0, .slice none 0 0]
  rw [World.size_alloc] at hY
  have hB1 := (HB.out.alloc (.cells #[.slice A1 n1 c1, .slice A2 n2 c2, .slice A3 n3 c3, .slice A4 n4 c4] 51)).alloc (.cells #[.slice none 0 0, .slice none 0 0, .slice none 0 0, .slice none 0 0] 51)
  have hb0 : Below w.heap.size w ((w.alloc (.cells #[.slice A1 n1 c1, .slice A2 n2 c2, .slice A3 n3 c3, .slice A4 n4 c4] 51)).alloc (.cells #[.slice none 0 0, .slice none 0 0, .slice none 0 0, .slice none 0 0] 51)) := ((Below.refl _ _).alloc (Nat.le_refl _) _).alloc (by simp) _
  obtain ⟨W0, hW0⟩ : ∃ W0, W0 = (w.alloc (.cells #[.slice A1 n1 c1, .slice A2 n2 c2, .slice A3 n3 c3, .slice A4 n4 c4] 51)).alloc (.cells #[.slice none 0 0, .slice none 0 0, .slice none 0 0, .slice none 0 0] 51) := ⟨_, rfl⟩
  rw [← hW0] at hX hY hB1 hb0 ⊢
  clear hW0 d1 d2
  have x0 := hX.cell 0
  have x1 := hX.cell 1
  have x2 := hX.cell 2
  have x3 := hX.cell 3
  have y0 := hY.cell 0
  have y1 := hY.cell 1
  have y2 := hY.cell 2
  have y3 := hY.cell 3
  have z0 := hY.frozen 0
  have z1 := hY.frozen 1
  have z2 := hY.frozen 2
  have z3 := hY.frozen 3
  have d1 := hB1.cell 1
  have HY := Lib.hid hY
  have HB0 := Lib.hid hb0
  clear hX hY hB1 hb0
  go_region
  go_wp2
  have hY4 := (((HY.out.set_ 0 (.slice A1 n1 c1)).set_ 1 (.slice A2 n2 c2)).set_ 2 (.slice A3 n3 c3)).set_ 3 (.slice A4 n4 c4)
  refine bodyPost_ret (res_ctt rfl _ _ (w.heap.size + 1) 51 _ _ _ rfl hY4 Tryd.underlying51 rfl (by kernel_rfl)) rfl ⟨rfl, ?_⟩
  exact ((((HB0.out.setCell (p := ⟨w.heap.size + 1, 0, none⟩) (Nat.le_succ _) _).setCell (p := ⟨w.heap.size + 1, 1, none⟩) (Nat.le_succ _) _).setCell (p := ⟨w.heap.size + 1, 2, none⟩) (Nat.le_succ _) _).setCell (p := ⟨w.heap.size + 1, 3, none⟩) (Nat.le_succ _) _).drew

set_option maxHeartbeats 2000000 in
/-- end: nothing (a note). -/
theorem endN_bad (g T : Nat) (v : NV) (f : Bool) (s : Option (List UInt8)) (w : World) (h : PR w g T s) (hs : s = none ∨ f = false) :
    Calls Tryd.prog 64 #[.pointer (some ⟨g, 0, none⟩), .agg v.val, .bool f] w fun e w' => e = .returned (.tuple #[.agg NV0.val, .int .i64 0, .int .i64 4]) ∧ But g w w' := by
  obtain ⟨A1, n1, c1, A2, n2, c2, A3, n3, c3, A4, n4, c4⟩ := v
  have hlt := h.lt
  obtain ⟨u0, u1, b, hB, hbf⟩ : ∃ u0 u1 b, Blk w g 90 #[u0, u1, .bool b] ∧ (b = true ∨ f = false) := by
    rcases s with _ | l
    · obtain ⟨A, n, c, k, hB⟩ := h; exact ⟨_, _, _, hB, .inl rfl⟩
    · obtain ⟨A, n, c, hB, _⟩ := h; exact ⟨_, _, _, hB, .inr (hs.resolve_left (by simp))⟩
  have HB := Lib.hid hB
  clear hB h hs
  rcases b with _ | _
  · obtain rfl : f = false := hbf.resolve_left (by simp)
    clear hbf
    go_enter Tryd.func64, Tryd.ntmps64
    have d2 := HB.out.cell 2
    have f2 := HB.out.frozen 2
    go_wp2
    have hY := (Blk.new ((w.setCell ⟨g, 2, none⟩ (.bool true)).alloc (.cells (NV.val ⟨A1, n1, c1, A2, n2, c2, A3, n3, c3, A4, n4, c4⟩) 51)) 51 #[.slice none 0 0, .slice none 0 0, .slice none 0 0, .slice none 0 0]).alloc (.cells #[.slice none 0 0, .slice none 0 0, .slice none 0 0, .slice none 0 0] 51)
    rw [World.size_alloc, show (w.setCell ⟨g, 2, none⟩ (.bool true)).heap.size = w.heap.size by simp] at hY
    refine bodyPost_ret (res_ctt rfl _ _ (w.heap.size + 1) 51 _ _ _ rfl hY Tryd.underlying51 rfl (by kernel_rfl)) rfl ⟨rfl, ?_⟩
    exact (But.set_ (g := g) w (p := ⟨g, 2, none⟩) rfl (.bool true)).trans (But.of ((((Below.refl _ _).alloc (Nat.le_refl _) _).alloc (by simp) _).alloc (by simp; omega) _))
  · clear hbf
    go_enter Tryd.func64, Tryd.ntmps64
    have d2 := HB.out.cell 2
    have f2 := HB.out.frozen 2
    go_wp2
    have hY := (Blk.new ((w.setCell ⟨g, 2, none⟩ (.bool true)).alloc (.cells (NV.val ⟨A1, n1, c1, A2, n2, c2, A3, n3, c3, A4, n4, c4⟩) 51)) 51 #[.slice none 0 0, .slice none 0 0, .slice none 0 0, .slice none 0 0]).alloc (.cells #[.slice none 0 0, .slice none 0 0, .slice none 0 0, .slice none 0 0] 51)
    rw [World.size_alloc, show (w.setCell ⟨g, 2, none⟩ (.bool true)).heap.size = w.heap.size by simp] at hY
    refine bodyPost_ret (res_ctt rfl _ _ (w.heap.size + 1) 51 _ _ _ rfl hY Tryd.underlying51 rfl (by kernel_rfl)) rfl ⟨rfl, ?_⟩
    exact (But.set_ (g := g) w (p := ⟨g, 2, none⟩) rfl (.bool true)).trans (But.of ((((Below.refl _ _).alloc (Nat.le_refl _) _).alloc (by simp) _).alloc (by simp; omega) _))
/-- A body in memory: its value. -/
def bval (x : Wq.Bd) (A : Option Addr) (c : Nat) : Array Value := #[.int .i64 x.o, .int .i64 x.s.1, .int .i64 x.s.2, .slice A x.v.length c]
set_option maxHeartbeats 2000000 in
/-- end: all that was read (a body). -/
theorem endB_ok (g T : Nat) (o a b : Int) (A4 : Option Addr) (n4 c4 : Nat) (l : List UInt8) (w : World) (h : PR w g T (some l)) :
    Calls Tryd.prog 73 #[.pointer (some ⟨g, 0, none⟩), .agg #[.int .i64 o, .int .i64 a, .int .i64 b, .slice A4 n4 c4], .bool true] w fun e w' => e = .returned (.tuple #[.agg #[.int .i64 o, .int .i64 a, .int .i64 b, .slice A4 n4 c4], .int .i64 ((T - l.length : Nat) : Int), .int .i64 0]) ∧ Below w.heap.size w w' := by
  have hlt := h.lt
  obtain ⟨A, n, c, hB, hq⟩ := h
  generalize (T - l.length : Nat) = z at hB
  have HB := Lib.hid hB
  clear hB hq
  go_enter Tryd.func73, Tryd.ntmps73
  have d1 := HB.out.cell 1
  have d2 := HB.out.cell 2
  go_wp2
  have hX := (Blk.new w 63 #[.int .i64 o, .int .i64 a, .int .i64 b, .slice A4 n4 c4]).alloc (.cells #[.int .i64 0, .int .i64 0, .int .i64 0, .slice none 0 0] 63)
  have hY := Blk.new (w.alloc (.cells #[.int .i64 o, .int .i64 a, .int .i64 b, .slice A4 n4 c4] 63)) 63 #[.int .i64 0, .int .i64 0, .int .i64 0, .slice none 0 0]
  rw [World.size_alloc] at hY
  have hB1 := (HB.out.alloc (.cells #[.int .i64 o, .int .i64 a, .int .i64 b, .slice A4 n4 c4] 63)).alloc (.cells #[.int .i64 0, .int .i64 0, .int .i64 0, .slice none 0 0] 63)
  have hb0 : Below w.heap.size w ((w.alloc (.cells #[.int .i64 o, .int .i64 a, .int .i64 b, .slice A4 n4 c4] 63)).alloc (.cells #[.int .i64 0, .int .i64 0, .int .i64 0, .slice none 0 0] 63)) := ((Below.refl _ _).alloc (Nat.le_refl _) _).alloc (by simp) _
  obtain ⟨W0, hW0⟩ : ∃ W0, W0 = (w.alloc (.cells #[.int .i64 o, .int .i64 a, .int .i64 b, .slice A4 n4 c4] 63)).alloc (.cells #[.int .i64 0, .int .i64 0, .int .i64 0, .slice none 0 0] 63) := ⟨_, rfl⟩
  rw [← hW0] at hX hY hB1 hb0 ⊢
  clear hW0 d1 d2
  have x0 := hX.cell 0
  have x1 := hX.cell 1
  have x2 := hX.cell 2
  have x3 := hX.cell 3
  have y0 := hY.cell 0
  have y1 := hY.cell 1
  have y2 := hY.cell 2
  have y3 := hY.cell 3
  have z0 := hY.frozen 0
  have z1 := hY.frozen 1
  have z2 := hY.frozen 2
  have z3 := hY.frozen 3
  have d1 := hB1.cell 1
  have HY := Lib.hid hY
  have HB0 := Lib.hid hb0
  clear hX hY hB1 hb0
  go_region
  go_wp2
  have hY4 := (((HY.out.set_ 0 (.int .i64 o)).set_ 1 (.int .i64 a)).set_ 2 (.int .i64 b)).set_ 3 (.slice A4 n4 c4)
  refine bodyPost_ret (res_ctt rfl _ _ (w.heap.size + 1) 63 _ _ _ rfl hY4 Tryd.underlying63 rfl (by kernel_rfl)) rfl ⟨rfl, ?_⟩
  exact ((((HB0.out.setCell (p := ⟨w.heap.size + 1, 0, none⟩) (Nat.le_succ _) _).setCell (p := ⟨w.heap.size + 1, 1, none⟩) (Nat.le_succ _) _).setCell (p := ⟨w.heap.size + 1, 2, none⟩) (Nat.le_succ _) _).setCell (p := ⟨w.heap.size + 1, 3, none⟩) (Nat.le_succ _) _).drew

set_option maxHeartbeats 2000000 in
/-- end: nothing (a body). -/
theorem endB_bad (g T : Nat) (o a b : Int) (A4 : Option Addr) (n4 c4 : Nat) (f : Bool) (s : Option (List UInt8)) (w : World) (h : PR w g T s) (hs : s = none ∨ f = false) :
    Calls Tryd.prog 73 #[.pointer (some ⟨g, 0, none⟩), .agg #[.int .i64 o, .int .i64 a, .int .i64 b, .slice A4 n4 c4], .bool f] w fun e w' => e = .returned (.tuple #[.agg #[.int .i64 0, .int .i64 0, .int .i64 0, .slice none 0 0], .int .i64 0, .int .i64 4]) ∧ But g w w' := by
  have hlt := h.lt
  obtain ⟨u0, u1, q, hB, hbf⟩ : ∃ u0 u1 q, Blk w g 90 #[u0, u1, .bool q] ∧ (q = true ∨ f = false) := by
    rcases s with _ | l
    · obtain ⟨A, n, c, k, hB⟩ := h; exact ⟨_, _, _, hB, .inl rfl⟩
    · obtain ⟨A, n, c, hB, _⟩ := h; exact ⟨_, _, _, hB, .inr (hs.resolve_left (by simp))⟩
  have HB := Lib.hid hB
  clear hB h hs
  rcases q with _ | _
  · obtain rfl : f = false := hbf.resolve_left (by simp)
    clear hbf
    go_enter Tryd.func73, Tryd.ntmps73
    have d2 := HB.out.cell 2
    have f2 := HB.out.frozen 2
    go_wp2
    have hY := (Blk.new ((w.setCell ⟨g, 2, none⟩ (.bool true)).alloc (.cells #[.int .i64 o, .int .i64 a, .int .i64 b, .slice A4 n4 c4] 63)) 63 #[.int .i64 0, .int .i64 0, .int .i64 0, .slice none 0 0]).alloc (.cells #[.int .i64 0, .int .i64 0, .int .i64 0, .slice none 0 0] 63)
    rw [World.size_alloc, show (w.setCell ⟨g, 2, none⟩ (.bool true)).heap.size = w.heap.size by simp] at hY
    refine bodyPost_ret (res_ctt rfl _ _ (w.heap.size + 1) 63 _ _ _ rfl hY Tryd.underlying63 rfl (by kernel_rfl)) rfl ⟨rfl, ?_⟩
    exact (But.set_ (g := g) w (p := ⟨g, 2, none⟩) rfl (.bool true)).trans (But.of ((((Below.refl _ _).alloc (Nat.le_refl _) _).alloc (by simp) _).alloc (by simp; omega) _))
  · clear hbf
    go_enter Tryd.func73, Tryd.ntmps73
    have d2 := HB.out.cell 2
    have f2 := HB.out.frozen 2
    go_wp2
    have hY := (Blk.new ((w.setCell ⟨g, 2, none⟩ (.bool true)).alloc (.cells #[.int .i64 o, .int .i64 a, .int .i64 b, .slice A4 n4 c4] 63)) 63 #[.int .i64 0, .int .i64 0, .int .i64 0, .slice none 0 0]).alloc (.cells #[.int .i64 0, .int .i64 0, .int .i64 0, .slice none 0 0] 63)
    rw [World.size_alloc, show (w.setCell ⟨g, 2, none⟩ (.bool true)).heap.size = w.heap.size by simp] at hY
    refine bodyPost_ret (res_ctt rfl _ _ (w.heap.size + 1) 63 _ _ _ rfl hY Tryd.underlying63 rfl (by kernel_rfl)) rfl ⟨rfl, ?_⟩
    exact (But.set_ (g := g) w (p := ⟨g, 2, none⟩) rfl (.bool true)).trans (But.of ((((Below.refl _ _).alloc (Nat.le_refl _) _).alloc (by simp) _).alloc (by simp; omega) _))
end Go.Proofs.YtndlcimckfndiaaDoor

namespace Go.Proofs.YtndlcimckfndiaaDoor
open Go.RowKit
set_option maxRecDepth 100000

set_option maxHeartbeats 2000000 in
theorem bodyRight_any (x : Wq.Bd) (A : Option Addr) (c : Nat) (w : World) :
    Calls Tryd.prog 67 #[.agg (bval x A c)] w fun e w' => e = .returned (.bool (Wq.bdF x)) ∧ Below w.heap.size w w' := by
  obtain ⟨o, ⟨a, b⟩, v⟩ := x
  unfold bval Wq.bdF
  dsimp only
  generalize v.length = n
  have hX := Blk.new w 63 #[.int .i64 o, .int .i64 a, .int .i64 b, .slice A n c]
  have hb0 : Below w.heap.size w (w.alloc (.cells #[.int .i64 o, .int .i64 a, .int .i64 b, .slice A n c] 63)) := (Below.refl _ _).alloc (Nat.le_refl _) _
  have HX := Lib.hid hX
  have HB := Lib.hid hb0
  have HG := Lib.hid fun W => right_any a b W
  have e2 : decide (n ≤ 256) = decide ((n : Int) ≤ 256) := by rw [Bool.eq_iff_iff]; simp; omega
  rw [e2]
  clear hX hb0 e2
  generalize Vc.right (a, b) = z at HG
  by_cases h0 : 0 ≤ o
  · by_cases h1 : o < 256
    · have e1 : decide (o ≤ 255) = true := by simp; omega
      have h2 : o ≤ 255 := by omega
      rw [decide_eq_true h0, e1]
      simp only [Bool.true_and]
      rcases z with _ | _
      all_goals
        go_enter Tryd.func67, Tryd.ntmps67
        go_wp2_with (go_at_call 79; go_must (refine (HG.out _).mono ?_); rintro e w1 ⟨rfl, hb1⟩; have q2 := (HX.out.go hb1).cell 3)
        go_ret
        exact ⟨rfl, below_then HB.out (Nat.le_refl _) hb1⟩
    · have e1 : decide (o ≤ 255) = false := by simp; omega
      have h2 : ¬ o ≤ 255 := by omega
      rw [decide_eq_true h0, e1]
      simp only [Bool.true_and, Bool.false_and]
      go_enter Tryd.func67, Tryd.ntmps67
      go_wp2
      go_ret
      exact ⟨rfl, HB.out⟩
  · rw [decide_eq_false h0]
    simp only [Bool.false_and]
    go_enter Tryd.func67, Tryd.ntmps67
    go_wp2
    go_ret
    exact ⟨rfl, HB.out⟩

set_option maxHeartbeats 2000000 in
theorem refBodyRight_any (x : Wq.Bd) (A : Option Addr) (c : Nat) (w : World) :
    Calls Tryd.prog 31 #[.agg (bval x A c)] w fun e w' => e = .returned (.bool (Wq.bdF x)) ∧ Below w.heap.size w w' := by
  obtain ⟨o, ⟨a, b⟩, v⟩ := x
  unfold bval Wq.bdF
  dsimp only
  generalize v.length = n
  have hX := Blk.new w 63 #[.int .i64 o, .int .i64 a, .int .i64 b, .slice A n c]
  have hb0 : Below w.heap.size w (w.alloc (.cells #[.int .i64 o, .int .i64 a, .int .i64 b, .slice A n c] 63)) := (Below.refl _ _).alloc (Nat.le_refl _) _
  have HX := Lib.hid hX
  have HB := Lib.hid hb0
  have HG := Lib.hid fun W => refRight_any a b W
  have e2 : decide (n ≤ 256) = decide ((n : Int) ≤ 256) := by rw [Bool.eq_iff_iff]; simp; omega
  rw [e2]
  clear hX hb0 e2
  generalize Vc.right (a, b) = z at HG
  by_cases h0 : 0 ≤ o
  · by_cases h1 : o < 256
    · have e1 : decide (o ≤ 255) = true := by simp; omega
      have h2 : o ≤ 255 := by omega
      rw [decide_eq_true h0, e1]
      simp only [Bool.true_and]
      rcases z with _ | _
      all_goals
        go_enter Tryd.func31, Tryd.ntmps31
        go_wp2_with (go_at_call 46; go_must (refine (HG.out _).mono ?_); rintro e w1 ⟨rfl, hb1⟩; have q2 := (HX.out.go hb1).cell 3)
        go_ret
        exact ⟨rfl, below_then HB.out (Nat.le_refl _) hb1⟩
    · have e1 : decide (o ≤ 255) = false := by simp; omega
      have h2 : ¬ o ≤ 255 := by omega
      rw [decide_eq_true h0, e1]
      simp only [Bool.true_and, Bool.false_and]
      go_enter Tryd.func31, Tryd.ntmps31
      go_wp2
      go_ret
      exact ⟨rfl, HB.out⟩
  · rw [decide_eq_false h0]
    simp only [Bool.false_and]
    go_enter Tryd.func31, Tryd.ntmps31
    go_wp2
    go_ret
    exact ⟨rfl, HB.out⟩
end Go.Proofs.YtndlcimckfndiaaDoor

namespace Go.Proofs.YtndlcimckfndiaaDoor
open Go.RowKit
set_option maxRecDepth 100000

theorem numV_vl (s : Option (List UInt8)) : numV s = Wq.vl Wq.pN 0 s := by
  rcases s with _ | l
  · rfl
  · rcases h : Wq.pN l with _ | ⟨_, _⟩ <;> simp only [numV, Wq.vl, h]
theorem numS_st (s : Option (List UInt8)) : numS s = Wq.st Wq.pN s := by
  rcases s with _ | l
  · rfl
  · rcases h : Wq.pN l with _ | ⟨_, _⟩ <;> simp only [numS, Wq.st, h]
theorem Blk.four {W : World} {g : Nat} {t : TypeId} {a b c d : Value} (h : Blk W g t #[a, b, c, d]) : W.cell? ⟨g, 0, none⟩ = some a ∧ W.cell? ⟨g, 1, none⟩ = some b ∧ W.cell? ⟨g, 2, none⟩ = some c ∧ W.cell? ⟨g, 3, none⟩ = some d :=
  ⟨h.cell 0, h.cell 1, h.cell 2, h.cell 3⟩

set_option maxHeartbeats 8000000 in
/-- wire.Body. -/
theorem wireBody_any (A : Option Addr) (n c : Nat) (l : List UInt8) (w : World) (hl : l.length = n) (hR : Rd w w.heap.size 1 A n c (bv l)) (hn : n ≤ 140737488355328) :
    Calls Tryd.prog 35 #[.slice A n c] w fun e w' => ∃ A' c', e = .returned (.tuple #[.agg (bval (gV Wq.pB Wq.bd0 l) A' c'), .int .i64 (gK Wq.pB l), .int .i64 (gE Wq.pB l)]) ∧
      w'.ownsRow w.heap.size 5 1 (.slice A' (gV Wq.pB Wq.bd0 l).v.length c') (gV Wq.pB Wq.bd0 l).v.length (bv (gV Wq.pB Wq.bd0 l).v) ∧ Below w.heap.size w w' := by
  have hb0 : Below w.heap.size w ((w.alloc (.cells #[.int .i64 0, .int .i64 0, .int .i64 0, .slice none 0 0] 63)).alloc (.cells #[.slice A n c, .int .i64 0, .bool false] 90)) := ((Below.refl _ _).alloc (Nat.le_refl _) _).alloc (by simp) _
  have hR0 := (Blk.new w 63 #[.int .i64 0, .int .i64 0, .int .i64 0, .slice none 0 0]).alloc (.cells #[.slice A n c, .int .i64 0, .bool false] 90)
  have hG0 := Blk.new (w.alloc (.cells #[.int .i64 0, .int .i64 0, .int .i64 0, .slice none 0 0] 63)) 90 #[.slice A n c, .int .i64 0, .bool false]
  rw [World.size_alloc] at hG0
  obtain ⟨W0, hW0⟩ : ∃ W0, W0 = (w.alloc (.cells #[.int .i64 0, .int .i64 0, .int .i64 0, .slice none 0 0] 63)).alloc (.cells #[.slice A n c, .int .i64 0, .bool false] 90) := ⟨_, rfl⟩
  have hs0 : W0.heap.size = w.heap.size + 1 + 1 := by rw [hW0]; simp
  rw [← hW0] at hb0 hR0 hG0
  have hP0 : PR W0 (w.heap.size + 1) n (some l) := by
    refine ⟨A, n, c, ?_, (hR.below hb0).more (by omega), hl, by omega, by have := hR.cap; have := hR.max; omega⟩
    rw [hl, Nat.sub_self]
    exact hG0
  have HW := Lib.hid hW0.symm
  have HL := Lib.hid hl
  have HB0 := Lib.hid hb0
  have HPA := Lib.hid (Wq.pB_all l)
  have G1 := Lib.hid fun (W : World) (s : Option (List UInt8)) (h : PR W (w.heap.size + 1) n s) => rdNum_any (w.heap.size + 1) n s W h
  have G2 := Lib.hid fun (W : World) (s : Option (List UInt8)) (h : PR W (w.heap.size + 1) n s) => rdStamp_any (w.heap.size + 1) n s W h
  have G3 := Lib.hid fun (W : World) (s : Option (List UInt8)) (h : PR W (w.heap.size + 1) n s) => partRow_any (w.heap.size + 1) n s W h hn
  clear hl hR hG0 hW0 hb0
  go_enter Tryd.func35, Tryd.ntmps35
  go_wp2_with fail
  rw [HW.out]
  refine (G1.out _ _ hP0).mono ?_
  rintro e w1 ⟨rfl, hP1, hu1⟩
  have hs1 := hu1.size
  have hR1 := hR0.but hu1 (by omega)
  have hb1 := below_but HB0.out hu1 (by omega) (by omega)
  obtain ⟨o, ho⟩ : ∃ o, o = numV (some l) := ⟨_, rfl⟩
  obtain ⟨s1, hs1e⟩ : ∃ s, s = numS (some l) := ⟨_, rfl⟩
  rw [← hs1e] at hP1
  rw [← ho]
  have HO := Lib.hid ho
  have HS1 := Lib.hid hs1e
  have hbX : Below w1.heap.size w1 (w1.alloc (.cells #[.int .i64 o, .int .i64 0, .int .i64 0, .slice none 0 0] 63)) := (Below.refl _ _).alloc (Nat.le_refl _) _
  have hX := Blk.new w1 63 #[.int .i64 o, .int .i64 0, .int .i64 0, .slice none 0 0]
  obtain ⟨W2, hW2⟩ : ∃ W2, W2 = w1.alloc (.cells #[.int .i64 o, .int .i64 0, .int .i64 0, .slice none 0 0] 63) := ⟨_, rfl⟩
  have hs2 : W2.heap.size = w1.heap.size + 1 := by rw [hW2]; simp
  rw [← hW2] at hbX hX
  have HW2 := Lib.hid hW2.symm
  have hP2 := hP1.go hbX
  have hR2 := hR1.go hbX
  have hb2 := below_then hb1 (by omega) hbX
  clear hP0 hu1 hR0 hP1 hR1 hb1 ho hs1e hW2 hbX
  go_wp2_with fail
  rw [HW2.out]
  refine (G2.out _ _ hP2).mono ?_
  rintro e w3 ⟨rfl, hP3, hu3⟩
  have hs3 := hu3.size
  obtain ⟨nd, hnd⟩ : ∃ x, x = numV s1 := ⟨_, rfl⟩
  obtain ⟨s2, hs2e⟩ : ∃ s, s = numS s1 := ⟨_, rfl⟩
  rw [← hs2e] at hP3
  rw [← hs2e, ← hnd]
  obtain ⟨ct, hct⟩ : ∃ x, x = numV s2 := ⟨_, rfl⟩
  obtain ⟨s3, hs3e⟩ : ∃ s, s = numS s2 := ⟨_, rfl⟩
  rw [← hs3e] at hP3
  rw [← hct]
  have HND := Lib.hid hnd
  have HS2 := Lib.hid hs2e
  have HCT := Lib.hid hct
  have HS3 := Lib.hid hs3e
  have hX3 := hX.but hu3 (by omega)
  have hR3 := hR2.but hu3 (by omega)
  have hb3 := below_but hb2 hu3 (by omega) (by omega)
  have fX1 := hX3.frozen 1
  have fX2 := hX3.frozen 2
  have cX1 := hX3.cell 1
  have cX2 := hX3.cell 2
  clear hP2 hu3 hX hR2 hb2 hnd hs2e hct hs3e
  go_wp2_with fail
  have hX4 := (hX3.set_ 1 (.int .i64 ct)).set_ 2 (.int .i64 nd)
  have hu4 : But w1.heap.size w3 ((w3.setCell ⟨w1.heap.size, 1, none⟩ (.int .i64 ct)).setCell ⟨w1.heap.size, 2, none⟩ (.int .i64 nd)) := (But.set_ (g := w1.heap.size) w3 (p := ⟨w1.heap.size, 1, none⟩) rfl _).trans (But.set_ (g := w1.heap.size) _ (p := ⟨w1.heap.size, 2, none⟩) rfl _)
  obtain ⟨W4, hW4⟩ : ∃ W4, W4 = (w3.setCell ⟨w1.heap.size, 1, none⟩ (.int .i64 ct)).setCell ⟨w1.heap.size, 2, none⟩ (.int .i64 nd) := ⟨_, rfl⟩
  have hs4 : W4.heap.size = w3.heap.size := by rw [hW4]; simp
  rw [← hW4] at hX4 hu4
  have HW4 := Lib.hid hW4.symm
  have hX4 : Blk W4 w1.heap.size 63 #[.int .i64 o, .int .i64 ct, .int .i64 nd, .slice none 0 0] := hX4
  have hP4 := hP3.but hu4 (by omega)
  have hR4 := hR3.but hu4 (by omega)
  have hb4 := below_but hb3 hu4 (by omega) (by omega)
  clear hP3 hX3 hR3 hb3 hu4 hW4 fX1 fX2 cX1 cX2
  rw [HW4.out]
  refine (G3.out _ _ hP4).mono ?_
  rintro e w5 ⟨Av, cv, rfl, ho5, hP5, hu5⟩
  have hs5 := hu5.size
  obtain ⟨v, hv⟩ : ∃ v, v = Wq.vl (Wq.pR 256) [] s3 := ⟨_, rfl⟩
  obtain ⟨s4, hs4e⟩ : ∃ s, s = Wq.st (Wq.pR 256) s3 := ⟨_, rfl⟩
  rw [← hs4e] at hP5
  rw [← hv] at ho5
  rw [← hv]
  have HV := Lib.hid hv
  have HS4 := Lib.hid hs4e
  have hX5 := hX4.but hu5 (by omega)
  have hR5 := hR4.but hu5 (by omega)
  have hb5 := below_but hb4 hu5 (by omega) (by omega)
  have fX3 := hX5.frozen 3
  have cX3 := hX5.cell 3
  have hX6 := hX5.set_ 3 (.slice Av v.length cv)
  have hu6 : But w1.heap.size w5 (w5.setCell ⟨w1.heap.size, 3, none⟩ (.slice Av v.length cv)) := But.set_ (g := w1.heap.size) w5 (p := ⟨w1.heap.size, 3, none⟩) rfl _
  obtain ⟨x, hx⟩ : ∃ x : Wq.Bd, x = ⟨(o : Int), ((ct : Int), (nd : Int)), v⟩ := ⟨_, rfl⟩
  have hX6 : Blk (w5.setCell ⟨w1.heap.size, 3, none⟩ (.slice Av v.length cv)) w1.heap.size 63 #[.int .i64 o, .int .i64 ct, .int .i64 nd, .slice Av v.length cv] := hX6
  have hP6 := hP5.but hu6 (by omega)
  have hR6 := hR5.but hu6 (by omega)
  have hb6 := below_but hb5 hu6 (by omega) (by omega)
  have ho6 := own_but ho5 hu6 (by omega)
  have HX := Lib.hid hx
  clear hP4 hX4 hR4 hb4 hP5 hX5 hR5 hb5 hu5 ho5 hu6 hv hs4e G1 G2 G3 hx
  have HR1 := Lib.hid fun (W : World) => (show Calls Tryd.prog 67 #[.agg #[.int .i64 o, .int .i64 ct, .int .i64 nd, .slice Av v.length cv]] W fun e w' => e = .returned (.bool (Wq.bdF x)) ∧ Below W.heap.size W w' from by rw [HX.out]; exact bodyRight_any ⟨(o : Int), ((ct : Int), (nd : Int)), v⟩ Av cv W)
  go_wp2_with fail
  clear fX3 cX3 hX4
  obtain ⟨W6, hW6⟩ : ∃ W6, W6 = w5.setCell ⟨w1.heap.size, 3, none⟩ (.slice Av v.length cv) := ⟨_, rfl⟩
  have hs6 : W6.heap.size = w5.heap.size := by rw [hW6]; simp
  rw [← hW6] at hX6 hP6 hR6 hb6 ho6 ⊢
  clear hW6
  obtain ⟨q0, q1, q2, q3⟩ : W6.drew.cell? ⟨w1.heap.size, 0, none⟩ = some (.int .i64 (o : Int)) ∧ W6.drew.cell? ⟨w1.heap.size, 1, none⟩ = some (.int .i64 (ct : Int)) ∧ W6.drew.cell? ⟨w1.heap.size, 2, none⟩ = some (.int .i64 (nd : Int)) ∧ W6.drew.cell? ⟨w1.heap.size, 3, none⟩ = some (.slice Av v.length cv) := hX6.four
  have HX6 := Lib.hid (show Blk W6.drew w1.heap.size 63 #[.int .i64 o, .int .i64 ct, .int .i64 nd, .slice Av v.length cv] from hX6)
  have HR6 := Lib.hid (show Blk W6.drew w.heap.size 63 #[.int .i64 0, .int .i64 0, .int .i64 0, .slice none 0 0] from hR6)
  have hP6 : PR W6.drew (w.heap.size + 1) n s4 := hP6.go (Below.refl _ _).drew
  have HB6 := Lib.hid hb6.drew
  have HO6 := Lib.hid (show W6.drew.ownsRow W4.heap.size 5 1 (.slice Av v.length cv) v.length (bv v) from ho6)
  have hlX := hX6.lt
  clear hX6 hR6 hb6 ho6
  refine region_nrm fun K hK => ?_
  by_cases hgood : (∃ r, s4 = some r) ∧ Wq.bdF x = true
  · obtain ⟨⟨r, hr⟩, hbd⟩ := hgood
    rw [hr] at hP6
    rw [hbd] at HR1
    have HP6 := Lib.hid hP6
    have HP := Lib.hid (show Wq.pB l = some (x, r) by
      have h := HPA.out
      rw [← numS_st, ← numS_st, ← numS_st, ← numV_vl, ← numV_vl, ← numV_vl, ← HO.out, ← HS1.out, ← HND.out, ← HS2.out, ← HCT.out, ← HS3.out, ← HV.out, ← HS4.out, hr] at h
      simp only at h
      rw [← HX.out, if_pos hbd] at h
      exact h)
    have HE := Lib.hid fun (W : World) (h : PR W (w.heap.size + 1) n (some r)) => endB_ok (w.heap.size + 1) n o ct nd Av v.length cv r W h
    clear hP6
    go_region_held3 (fun w' => w'.cell? ⟨w1.heap.size, 0, none⟩ = some (.int .i64 (o : Int)) ∧ w'.cell? ⟨w1.heap.size, 1, none⟩ = some (.int .i64 (ct : Int)) ∧ w'.cell? ⟨w1.heap.size, 2, none⟩ = some (.int .i64 (nd : Int)) ∧ w'.cell? ⟨w1.heap.size, 3, none⟩ = some (.slice Av v.length cv)) (first | exact ⟨u0, u1, u2, u3⟩ | exact ⟨t0, t1, t2, t3⟩ | exact ⟨r0, r1, r2, r3⟩ | exact ⟨q0, q1, q2, q3⟩ | go_keep) (first
      | (go_at_call 67; go_must (refine (HR1.out _).mono ?_); rintro e w7 ⟨rfl, hb7⟩; obtain ⟨r0, r1, r2, r3⟩ := (HX6.out.go hb7).four)
      | (go_at_call 73; go_must (refine (HE.out _ (HP6.out.go hb7)).mono ?_); rintro e w8 ⟨rfl, hb8⟩; have hX8 := (HX6.out.go hb7).go hb8; obtain ⟨t0, t1, t2, t3⟩ := hX8.four; obtain ⟨u0, u1, u2, u3⟩ := ((((hX8.far (p := ⟨w.heap.size, 0, none⟩) (by show _ ≠ w.heap.size; omega) (.int .i64 o)).far (p := ⟨w.heap.size, 1, none⟩) (by show _ ≠ w.heap.size; omega) (.int .i64 ct)).far (p := ⟨w.heap.size, 2, none⟩) (by show _ ≠ w.heap.size; omega) (.int .i64 nd)).far (p := ⟨w.heap.size, 3, none⟩) (by show _ ≠ w.heap.size; omega) (.slice Av v.length cv)).four; have hR8 := (HR6.out.go hb7).go hb8; obtain ⟨z0, z1, z2, z3⟩ := hR8.four; have y0 := hR8.frozen 0; have y1 := hR8.frozen 1; have y2 := hR8.frozen 2; have y3 := hR8.frozen 3))
    refine Nrm.out (hK _ _ ?_)
    go_wp2
    have hF := (((hR8.set_ 0 (.int .i64 o)).set_ 1 (.int .i64 ct)).set_ 2 (.int .i64 nd)).set_ 3 (.slice Av v.length cv)
    have hbw := below_then (below_then HB6.out (Nat.le_refl _) hb7) (Nat.le_refl _) hb8
    obtain ⟨e1, e2, e3⟩ := g_yes (d := Wq.bd0) HP.out
    rw [e1, e2, e3]
    have hxx := HX.out
    subst hxx
    refine bodyPost_ret (res_ctt rfl _ _ w.heap.size 63 _ _ _ rfl hF Tryd.underlying63 rfl (by kernel_rfl)) rfl ⟨Av, cv, by rw [HL.out] <;> rfl, ?_, (((hbw.setCell (p := ⟨w.heap.size, 0, none⟩) (Nat.le_refl _) _).setCell (p := ⟨w.heap.size, 1, none⟩) (Nat.le_refl _) _).setCell (p := ⟨w.heap.size, 2, none⟩) (Nat.le_refl _) _).setCell (p := ⟨w.heap.size, 3, none⟩) (Nat.le_refl _) _⟩
    have hu : But w.heap.size w8 ((((w8.setCell ⟨w.heap.size, 0, none⟩ (.int .i64 o)).setCell ⟨w.heap.size, 1, none⟩ (.int .i64 ct)).setCell ⟨w.heap.size, 2, none⟩ (.int .i64 nd)).setCell ⟨w.heap.size, 3, none⟩ (.slice Av v.length cv)) :=
      (((But.set_ (g := w.heap.size) _ (p := ⟨w.heap.size, 0, none⟩) rfl _).trans (But.set_ (g := w.heap.size) _ (p := ⟨w.heap.size, 1, none⟩) rfl _)).trans (But.set_ (g := w.heap.size) _ (p := ⟨w.heap.size, 2, none⟩) rfl _)).trans (But.set_ (g := w.heap.size) _ (p := ⟨w.heap.size, 3, none⟩) rfl _)
    exact own_less (own_but (own_below (own_below HO6.out hb7 (Nat.le_refl _)) hb8 (Nat.le_refl _)) hu (by omega)) (by omega)
  · have hs : s4 = none ∨ Wq.bdF x = false := by
      rcases s4 with _ | r
      · exact .inl rfl
      · refine .inr ?_
        rcases hz : Wq.bdF x with _ | _
        · rfl
        · exact absurd ⟨⟨r, rfl⟩, hz⟩ hgood
    have HP6 := Lib.hid hP6
    have HP := Lib.hid (show Wq.pB l = none by
      have h := HPA.out
      rw [← numS_st, ← numS_st, ← numS_st, ← numV_vl, ← numV_vl, ← numV_vl, ← HO.out, ← HS1.out, ← HND.out, ← HS2.out, ← HCT.out, ← HS3.out, ← HV.out, ← HS4.out] at h
      rw [h]
      rcases hs with hs | hs
      · rw [hs]
      · rcases s4 with _ | r
        · rfl
        · simp only
          rw [← HX.out, hs]; rfl)
    generalize Wq.bdF x = z at HR1 hs
    have HE := Lib.hid fun (W : World) (h : PR W (w.heap.size + 1) n s4) => endB_bad (w.heap.size + 1) n o ct nd Av v.length cv z s4 W h hs
    clear hP6 hgood hs
    go_region_held3 (fun w' => w'.cell? ⟨w1.heap.size, 0, none⟩ = some (.int .i64 (o : Int)) ∧ w'.cell? ⟨w1.heap.size, 1, none⟩ = some (.int .i64 (ct : Int)) ∧ w'.cell? ⟨w1.heap.size, 2, none⟩ = some (.int .i64 (nd : Int)) ∧ w'.cell? ⟨w1.heap.size, 3, none⟩ = some (.slice Av v.length cv)) (first | exact ⟨u0, u1, u2, u3⟩ | exact ⟨t0, t1, t2, t3⟩ | exact ⟨r0, r1, r2, r3⟩ | exact ⟨q0, q1, q2, q3⟩ | go_keep) (first
      | (go_at_call 67; go_must (refine (HR1.out _).mono ?_); rintro e w7 ⟨rfl, hb7⟩; obtain ⟨r0, r1, r2, r3⟩ := (HX6.out.go hb7).four)
      | (go_at_call 73; go_must (refine (HE.out _ (HP6.out.go hb7)).mono ?_); rintro e w8 ⟨rfl, hu8⟩; have hX8 := (HX6.out.go hb7).but hu8 (by omega); obtain ⟨t0, t1, t2, t3⟩ := hX8.four; obtain ⟨u0, u1, u2, u3⟩ := ((((hX8.far (p := ⟨w.heap.size, 0, none⟩) (by show _ ≠ w.heap.size; omega) (.int .i64 0)).far (p := ⟨w.heap.size, 1, none⟩) (by show _ ≠ w.heap.size; omega) (.int .i64 0)).far (p := ⟨w.heap.size, 2, none⟩) (by show _ ≠ w.heap.size; omega) (.int .i64 0)).far (p := ⟨w.heap.size, 3, none⟩) (by show _ ≠ w.heap.size; omega) (.slice none 0 0)).four; have hR8 := (HR6.out.go hb7).but hu8 (by omega); obtain ⟨z0, z1, z2, z3⟩ := hR8.four; have y0 := hR8.frozen 0; have y1 := hR8.frozen 1; have y2 := hR8.frozen 2; have y3 := hR8.frozen 3))
    refine Nrm.out (hK _ _ ?_)
    go_wp2
    have hF := (((hR8.set_ 0 (.int .i64 0)).set_ 1 (.int .i64 0)).set_ 2 (.int .i64 0)).set_ 3 (.slice none 0 0)
    have hbw := below_but (below_then HB6.out (Nat.le_refl _) hb7) hu8 (by have := hb7.size; simp at this; omega) (by omega)
    obtain ⟨e1, e2, e3⟩ := g_no (d := Wq.bd0) HP.out
    rw [e1, e2, e3]
    refine bodyPost_ret (res_ctt rfl _ _ w.heap.size 63 _ _ _ rfl hF Tryd.underlying63 rfl (by kernel_rfl)) rfl ⟨none, 0, rfl, World.ownsRow_nil _ _ _ _, (((hbw.setCell (p := ⟨w.heap.size, 0, none⟩) (Nat.le_refl _) _).setCell (p := ⟨w.heap.size, 1, none⟩) (Nat.le_refl _) _).setCell (p := ⟨w.heap.size, 2, none⟩) (Nat.le_refl _) _).setCell (p := ⟨w.heap.size, 3, none⟩) (Nat.le_refl _) _⟩
end Go.Proofs.YtndlcimckfndiaaDoor

