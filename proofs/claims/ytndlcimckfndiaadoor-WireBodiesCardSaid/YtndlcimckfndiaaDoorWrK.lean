/- Walks over wire.end at notes and bodies, wire.right. -/
import Derived.Test.YtndlcimckfndiaaDoorWrJ
import Derived.Test.YtndlcimckfndiaaDoorNtD
namespace Go.Proofs.YtndlcimckfndiaaDoor
open Go.RowKit
set_option maxRecDepth 100000

/-- A result that lies in a cell, and two in slots. -/
theorem res_ctt {P : Program} {fn : Func} {p q r : Tmp} {ty : TypeId} (h : fn.results = #[.cell p ty, .tmp q, .tmp r]) (tmps : Array Value) (w : World) (g : Nat) (t : TypeId) (cs : Array Value) (fr : Nat × Nat) (d : TypeDesc)
    (hp : tmps.getD p undef = .pointer (some ⟨g, 0, none⟩)) (hg : w.heap[g]? = some (.cells cs t fr))
    (hu : P.underlying ty = some d) (hd : (match d with | .struct _ | .array _ _ => true | _ => false) = true) (hi : (P.info? ty).map (·.size) = some cs.size) :
    (results fn tmps).run P w = .ok (.tuple #[.agg cs, tmps.getD q undef, tmps.getD r undef]) w := by
  have hp' : tmps[p]?.getD undef = .pointer (some ⟨g, 0, none⟩) := by simpa using hp
  simp [results, h, hp', asAddr, run_loadVar_row w g t ty cs fr d hg hu hd hi]

set_option maxHeartbeats 2000000 in
/-- end: all that was read (a note). -/
theorem endN_ok (g T : Nat) (v : NV) (l : List UInt8) (w : World) (h : PR w g T (some l)) :
    Calls Tryd.prog 64 #[.pointer (some ⟨g, 0, none⟩), .agg v.val, .bool true] w fun e w' => e = .returned (.tuple #[.agg v.val, .int .i64 ((T - l.length : Nat) : Int), .int .i64 0]) ∧ Below w.heap.size w w' := by
  obtain ⟨A1, n1, c1, A2, n2, c2, A3, n3, c3, A4, n4, c4⟩ := v
  have hlt := h.lt
  obtain ⟨A, n, c, hB, hq⟩ := h
  generalize (T - l.length : Nat) = z at hB
  have HB := Lib.hid hB
  clear hB hq
  go_enter Tryd.func64, Tryd.ntmps64
  have d1 := HB.out.cell 1
  have d2 := HB.out.cell 2
  go_wp2
  have hX := (Blk.new w 51 #[.slice A1 n1 c1, .slice A2 n2 c2, .slice A3 n3 c3, .slice A4 n4 c4]).alloc (.cells #[.slice none 0 0, .slice none 0 0, .slice none 0 0, .slice none 0 0] 51)
  have hY := Blk.new (w.alloc (.cells #[.slice A1 n1 c1, .slice A2 n2 c2, .slice A3 n3 c3, .slice A4 n4 c4] 51)) 51 #[.slice none 0 0, .slice none 0 0, .slice none 0 0, .slice none 0 0]
  rw [World.size_alloc] at hY
  have hB1 := (HB.out.alloc (.cells #[.slice A1 n1 c1, .slice A2 n2 c2, .slice A3 n3 c3, .slice A4 n4 c4] 51)).alloc (.cells #[.slice none 0 0, .slice none 0 0, .slice none 0 0, .slice none 0 0] 51)
  have hb0 : Below w.heap.size w ((w.alloc (.cells #[.slice A1 n1 c1, .slice A2 n2 c2, .slice A3 n3 c3, .slice A4 n4 c4] 51)).alloc (.cells #[.slice none 0 0, .slice none 0 0, .slice none 0 0, .slice none 0 0] 51)) := ((Below.refl _ _).alloc (Nat.le_refl _) _).alloc (by simp) _
  obtain ⟨W0, hW0⟩ : ∃ W0, W0 = (w.alloc (.cells #[.slice A1 n1 c1, .slice A2 n2 c2, .slice A3 n3 c3, .slice A4 n4 c4] 51)).alloc (.cells #[.slice none 0 0, .slice none 0 0, .slice none 0 0, .slice none 0 0] 51) := ⟨_, rfl⟩
  rw [← hW0] at hX hY hB1 hb0 ⊢
  clear hW0 d1 d2
  have x0 := hX.cell 0
  have x1 := hX.cell 1
  have x2 := hX.cell 2
  have x3 := hX.cell 3
  have y0 := hY.cell 0
  have y1 := hY.cell 1
  have y2 := hY.cell 2
  have y3 := hY.cell 3
  have z0 := hY.frozen 0
  have z1 := hY.frozen 1
  have z2 := hY.frozen 2
  have z3 := hY.frozen 3
  have d1 := hB1.cell 1
  have HY := Lib.hid hY
  have HB0 := Lib.hid hb0
  clear hX hY hB1 hb0
  go_region
  go_wp2
  have hY4 := (((HY.out.set_ 0 (.slice A1 n1 c1)).set_ 1 (.slice A2 n2 c2)).set_ 2 (.slice A3 n3 c3)).set_ 3 (.slice A4 n4 c4)
  refine bodyPost_ret (res_ctt rfl _ _ (w.heap.size + 1) 51 _ _ _ rfl hY4 Tryd.underlying51 rfl (by kernel_rfl)) rfl ⟨rfl, ?_⟩
  exact ((((HB0.out.setCell (p := ⟨w.heap.size + 1, 0, none⟩) (Nat.le_succ _) _).setCell (p := ⟨w.heap.size + 1, 1, none⟩) (Nat.le_succ _) _).setCell (p := ⟨w.heap.size + 1, 2, none⟩) (Nat.le_succ _) _).setCell (p := ⟨w.heap.size + 1, 3, none⟩) (Nat.le_succ _) _).drew

set_option maxHeartbeats 2000000 in
/-- end: nothing (a note). -/
theorem endN_bad (g T : Nat) (v : NV) (f : Bool) (s : Option (List UInt8)) (w : World) (h : PR w g T s) (hs : s = none ∨ f = false) :
    Calls Tryd.prog 64 #[.pointer (some ⟨g, 0, none⟩), .agg v.val, .bool f] w fun e w' => e = .returned (.tuple #[.agg NV0.val, .int .i64 0, .int .i64 4]) ∧ But g w w' := by
  obtain ⟨A1, n1, c1, A2, n2, c2, A3, n3, c3, A4, n4, c4⟩ := v
  have hlt := h.lt
  obtain ⟨u0, u1, b, hB, hbf⟩ : ∃ u0 u1 b, Blk w g 90 #[u0, u1, .bool b] ∧ (b = true ∨ f = false) := by
    rcases s with _ | l
    · obtain ⟨A, n, c, k, hB⟩ := h; exact ⟨_, _, _, hB, .inl rfl⟩
    · obtain ⟨A, n, c, hB, _⟩ := h; exact ⟨_, _, _, hB, .inr (hs.resolve_left (by simp))⟩
  have HB := Lib.hid hB
  clear hB h hs
  rcases b with _ | _
  · obtain rfl : f = false := hbf.resolve_left (by simp)
    clear hbf
    go_enter Tryd.func64, Tryd.ntmps64
    have d2 := HB.out.cell 2
    have f2 := HB.out.frozen 2
    go_wp2
    have hY := (Blk.new ((w.setCell ⟨g, 2, none⟩ (.bool true)).alloc (.cells (NV.val ⟨A1, n1, c1, A2, n2, c2, A3, n3, c3, A4, n4, c4⟩) 51)) 51 #[.slice none 0 0, .slice none 0 0, .slice none 0 0, .slice none 0 0]).alloc (.cells #[.slice none 0 0, .slice none 0 0, .slice none 0 0, .slice none 0 0] 51)
    rw [World.size_alloc, show (w.setCell ⟨g, 2, none⟩ (.bool true)).heap.size = w.heap.size by simp] at hY
    refine bodyPost_ret (res_ctt rfl _ _ (w.heap.size + 1) 51 _ _ _ rfl hY Tryd.underlying51 rfl (by kernel_rfl)) rfl ⟨rfl, ?_⟩
    exact (But.set_ (g := g) w (p := ⟨g, 2, none⟩) rfl (.bool true)).trans (But.of ((((Below.refl _ _).alloc (Nat.le_refl _) _).alloc (by simp) _).alloc (by simp; omega) _))
  · clear hbf
    go_enter Tryd.func64, Tryd.ntmps64
    have d2 := HB.out.cell 2
    have f2 := HB.out.frozen 2
    go_wp2
    have hY := (Blk.new ((w.setCell ⟨g, 2, none⟩ (.bool true)).alloc (.cells (NV.val ⟨A1, n1, c1, A2, n2, c2, A3, n3, c3, A4, n4, c4⟩) 51)) 51 #[.slice none 0 0, .slice none 0 0, .slice none 0 0, .slice none 0 0]).alloc (.cells #[.slice none 0 0, .slice none 0 0, .slice none 0 0, .slice none 0 0] 51)
    rw [World.size_alloc, show (w.setCell ⟨g, 2, none⟩ (.bool true)).heap.size = w.heap.size by simp] at hY
    refine bodyPost_ret (res_ctt rfl _ _ (w.heap.size + 1) 51 _ _ _ rfl hY Tryd.underlying51 rfl (by kernel_rfl)) rfl ⟨rfl, ?_⟩
    exact (But.set_ (g := g) w (p := ⟨g, 2, none⟩) rfl (.bool true)).trans (But.of ((((Below.refl _ _).alloc (Nat.le_refl _) _).alloc (by simp) _).alloc (by simp; omega) _))
/-- A body in memory: its value. -/
def bval (x : Wq.Bd) (A : Option Addr) (c : Nat) : Array Value := #[.int .i64 x.o, .int .i64 x.s.1, .int .i64 x.s.2, .slice A x.v.length c]
set_option maxHeartbeats 2000000 in
/-- end: all that was read (a body). -/
theorem endB_ok (g T : Nat) (o a b : Int) (A4 : Option Addr) (n4 c4 : Nat) (l : List UInt8) (w : World) (h : PR w g T (some l)) :
    Calls Tryd.prog 73 #[.pointer (some ⟨g, 0, none⟩), .agg #[.int .i64 o, .int .i64 a, .int .i64 b, .slice A4 n4 c4], .bool true] w fun e w' => e = .returned (.tuple #[.agg #[.int .i64 o, .int .i64 a, .int .i64 b, .slice A4 n4 c4], .int .i64 ((T - l.length : Nat) : Int), .int .i64 0]) ∧ Below w.heap.size w w' := by
  have hlt := h.lt
  obtain ⟨A, n, c, hB, hq⟩ := h
  generalize (T - l.length : Nat) = z at hB
  have HB := Lib.hid hB
  clear hB hq
  go_enter Tryd.func73, Tryd.ntmps73
  have d1 := HB.out.cell 1
  have d2 := HB.out.cell 2
  go_wp2
  have hX := (Blk.new w 63 #[.int .i64 o, .int .i64 a, .int .i64 b, .slice A4 n4 c4]).alloc (.cells #[.int .i64 0, .int .i64 0, .int .i64 0, .slice none 0 0] 63)
  have hY := Blk.new (w.alloc (.cells #[.int .i64 o, .int .i64 a, .int .i64 b, .slice A4 n4 c4] 63)) 63 #[.int .i64 0, .int .i64 0, .int .i64 0, .slice none 0 0]
  rw [World.size_alloc] at hY
  have hB1 := (HB.out.alloc (.cells #[.int .i64 o, .int .i64 a, .int .i64 b, .slice A4 n4 c4] 63)).alloc (.cells #[.int .i64 0, .int .i64 0, .int .i64 0, .slice none 0 0] 63)
  have hb0 : Below w.heap.size w ((w.alloc (.cells #[.int .i64 o, .int .i64 a, .int .i64 b, .slice A4 n4 c4] 63)).alloc (.cells #[.int .i64 0, .int .i64 0, .int .i64 0, .slice none 0 0] 63)) := ((Below.refl _ _).alloc (Nat.le_refl _) _).alloc (by simp) _
  obtain ⟨W0, hW0⟩ : ∃ W0, W0 = (w.alloc (.cells #[.int .i64 o, .int .i64 a, .int .i64 b, .slice A4 n4 c4] 63)).alloc (.cells #[.int .i64 0, .int .i64 0, .int .i64 0, .slice none 0 0] 63) := ⟨_, rfl⟩
  rw [← hW0] at hX hY hB1 hb0 ⊢
  clear hW0 d1 d2
  have x0 := hX.cell 0
  have x1 := hX.cell 1
  have x2 := hX.cell 2
  have x3 := hX.cell 3
  have y0 := hY.cell 0
  have y1 := hY.cell 1
  have y2 := hY.cell 2
  have y3 := hY.cell 3
  have z0 := hY.frozen 0
  have z1 := hY.frozen 1
  have z2 := hY.frozen 2
  have z3 := hY.frozen 3
  have d1 := hB1.cell 1
  have HY := Lib.hid hY
  have HB0 := Lib.hid hb0
  clear hX hY hB1 hb0
  go_region
  go_wp2
  have hY4 := (((HY.out.set_ 0 (.int .i64 o)).set_ 1 (.int .i64 a)).set_ 2 (.int .i64 b)).set_ 3 (.slice A4 n4 c4)
  refine bodyPost_ret (res_ctt rfl _ _ (w.heap.size + 1) 63 _ _ _ rfl hY4 Tryd.underlying63 rfl (by kernel_rfl)) rfl ⟨rfl, ?_⟩
  exact ((((HB0.out.setCell (p := ⟨w.heap.size + 1, 0, none⟩) (Nat.le_succ _) _).setCell (p := ⟨w.heap.size + 1, 1, none⟩) (Nat.le_succ _) _).setCell (p := ⟨w.heap.size + 1, 2, none⟩) (Nat.le_succ _) _).setCell (p := ⟨w.heap.size + 1, 3, none⟩) (Nat.le_succ _) _).drew

set_option maxHeartbeats 2000000 in
/-- end: nothing (a body). -/
theorem endB_bad (g T : Nat) (o a b : Int) (A4 : Option Addr) (n4 c4 : Nat) (f : Bool) (s : Option (List UInt8)) (w : World) (h : PR w g T s) (hs : s = none ∨ f = false) :
    Calls Tryd.prog 73 #[.pointer (some ⟨g, 0, none⟩), .agg #[.int .i64 o, .int .i64 a, .int .i64 b, .slice A4 n4 c4], .bool f] w fun e w' => e = .returned (.tuple #[.agg #[.int .i64 0, .int .i64 0, .int .i64 0, .slice none 0 0], .int .i64 0, .int .i64 4]) ∧ But g w w' := by
  have hlt := h.lt
  obtain ⟨u0, u1, q, hB, hbf⟩ : ∃ u0 u1 q, Blk w g 90 #[u0, u1, .bool q] ∧ (q = true ∨ f = false) := by
    rcases s with _ | l
    · obtain ⟨A, n, c, k, hB⟩ := h; exact ⟨_, _, _, hB, .inl rfl⟩
    · obtain ⟨A, n, c, hB, _⟩ := h; exact ⟨_, _, _, hB, .inr (hs.resolve_left (by simp))⟩
  have HB := Lib.hid hB
  clear hB h hs
  rcases q with _ | _
  · obtain rfl : f = false := hbf.resolve_left (by simp)
    clear hbf
    go_enter Tryd.func73, Tryd.ntmps73
    have d2 := HB.out.cell 2
    have f2 := HB.out.frozen 2
    go_wp2
    have hY := (Blk.new ((w.setCell ⟨g, 2, none⟩ (.bool true)).alloc (.cells #[.int .i64 o, .int .i64 a, .int .i64 b, .slice A4 n4 c4] 63)) 63 #[.int .i64 0, .int .i64 0, .int .i64 0, .slice none 0 0]).alloc (.cells #[.int .i64 0, .int .i64 0, .int .i64 0, .slice none 0 0] 63)
    rw [World.size_alloc, show (w.setCell ⟨g, 2, none⟩ (.bool true)).heap.size = w.heap.size by simp] at hY
    refine bodyPost_ret (res_ctt rfl _ _ (w.heap.size + 1) 63 _ _ _ rfl hY Tryd.underlying63 rfl (by kernel_rfl)) rfl ⟨rfl, ?_⟩
    exact (But.set_ (g := g) w (p := ⟨g, 2, none⟩) rfl (.bool true)).trans (But.of ((((Below.refl _ _).alloc (Nat.le_refl _) _).alloc (by simp) _).alloc (by simp; omega) _))
  · clear hbf
    go_enter Tryd.func73, Tryd.ntmps73
    have d2 := HB.out.cell 2
    have f2 := HB.out.frozen 2
    go_wp2
    have hY := (Blk.new ((w.setCell ⟨g, 2, none⟩ (.bool true)).alloc (.cells #[.int .i64 o, .int .i64 a, .int .i64 b, .slice A4 n4 c4] 63)) 63 #[.int .i64 0, .int .i64 0, .int .i64 0, .slice none 0 0]).alloc (.cells #[.int .i64 0, .int .i64 0, .int .i64 0, .slice none 0 0] 63)
    rw [World.size_alloc, show (w.setCell ⟨g, 2, none⟩ (.bool true)).heap.size = w.heap.size by simp] at hY
    refine bodyPost_ret (res_ctt rfl _ _ (w.heap.size + 1) 63 _ _ _ rfl hY Tryd.underlying63 rfl (by kernel_rfl)) rfl ⟨rfl, ?_⟩
    exact (But.set_ (g := g) w (p := ⟨g, 2, none⟩) rfl (.bool true)).trans (But.of ((((Below.refl _ _).alloc (Nat.le_refl _) _).alloc (by simp) _).alloc (by simp; omega) _))
end Go.Proofs.YtndlcimckfndiaaDoor
