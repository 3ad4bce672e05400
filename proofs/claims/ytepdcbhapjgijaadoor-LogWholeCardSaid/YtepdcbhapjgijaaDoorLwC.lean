/- What LogWhole's loop keeps: the log's box, the result's cell, the box of zones, the box of what is known. -/
import Derived.Test.YtepdcbhapjgijaaDoorTwM
import Derived.Test.YtepdcbhapjgijaaDoorLwB
namespace Go.Proofs.YtepdcbhapjgijaaDoor
open Go.RowKit
set_option maxRecDepth 100000

theorem blkW_kept {W W' : World} {g : Nat} {t : TypeId} {cs : Array Value} {row : Option Nat} (h : Blk W g t cs) (hg : W.grownBy W' row) (hr : ∀ r, row = some r → ∃ o : Obj, W.heap[r]? = some o ∧ o.isCells = false) : Blk W' g t cs :=
  h.grown hg (fun e => by obtain ⟨o, ho, hc⟩ := hr _ e.symm; rw [h] at ho; injection ho with ho; rw [← ho] at hc; cases hc)
/-- lo: the log's box of type tl, which holds lv; re: the result's cell; gz, gk: the boxes of the zones and of what is known. -/
structure LbI (w : World) (lo re gz gk : Nat) (tl : TypeId) (lv : Array Value) (Z : List Zn) (C : List Vc.St) (W : World) : Prop where
  ol : Olds w W
  lg : Blk W lo tl lv
  re : Blk W re 4 #[.bool false]
  zb : ∃ A n c M, Blk W gz 31 #[.slice A n c] ∧ RdZ W W.heap.size A n c M ∧ zns M = Z
  kb : ∃ A n c, Blk W gk 22 #[.slice A n c] ∧ C.length = n ∧ Rd W W.heap.size 2 A n c (sv C)
theorem LbI.below {w X Y : World} {lo re gz gk : Nat} {tl : TypeId} {lv : Array Value} {Z : List Zn} {C : List Vc.St} (h : LbI w lo re gz gk tl lv Z C X) (hb : Below X.heap.size X Y) : LbI w lo re gz gk tl lv Z C Y := by
  obtain ⟨A, n, c, M, h1, h2, h3⟩ := h.zb
  obtain ⟨D, m, d, k1, k2, k3⟩ := h.kb
  exact ⟨h.ol.below hb, h.lg.go hb, h.re.go hb, ⟨A, n, c, M, h1.go hb, h2.go hb, h3⟩, ⟨D, m, d, k1.go hb, k2, k3.go hb⟩⟩
theorem LbI.kept {w X Y : World} {lo re gz gk : Nat} {tl : TypeId} {lv : Array Value} {Z : List Zn} {C : List Vc.St} {row : Option Nat} (h : LbI w lo re gz gk tl lv Z C X) (hg : X.grownBy Y row) (hr : ∀ r, row = some r → ∃ o : Obj, X.heap[r]? = some o ∧ o.isCells = false) : LbI w lo re gz gk tl lv Z C Y := by
  obtain ⟨A, n, c, M, h1, h2, h3⟩ := h.zb
  obtain ⟨D, m, d, k1, k2, k3⟩ := h.kb
  exact ⟨h.ol.grown hg hr, blkW_kept h.lg hg hr, blkW_kept h.re hg hr, ⟨A, n, c, M, blkW_kept h1 hg hr, ⟨h2.len, (rd_kept h2.rd hg hr).more hg.size, fun p hp => ⟨(h2.each p hp).1, (rd_kept (h2.each p hp).2 hg hr).more hg.size⟩⟩, h3⟩,
    ⟨D, m, d, blkW_kept k1 hg hr, k2, (rd_kept k3 hg hr).more hg.size⟩⟩
/-- A round's two stores. -/
theorem LbI.put {w X : World} {lo re gz gk : Nat} {tl : TypeId} {lv : Array Value} {Z Z' : List Zn} {C C' : List Vc.St} {A B : Option Addr} {n c m d : Nat} {M : List (ZV × Zn)} (h : LbI w lo re gz gk tl lv Z C X)
    (h1 : lo ≠ gz) (h2 : lo ≠ gk) (h3 : re ≠ gz) (h4 : re ≠ gk) (h5 : gz ≠ gk) (h6 : w.heap.size ≤ gz) (h7 : w.heap.size ≤ gk) (hM : RdZ X X.heap.size A n c M) (hZ : zns M = Z') (hl : C'.length = m) (hC : Rd X X.heap.size 2 B m d (sv C')) :
    LbI w lo re gz gk tl lv Z' C' ((X.setCell ⟨gz, 0, none⟩ (.slice A n c)).setCell ⟨gk, 0, none⟩ (.slice B m d)) := by
  obtain ⟨A0, n0, c0, M0, z1, z2, z3⟩ := h.zb
  obtain ⟨D0, m0, d0, k1, k2, k3⟩ := h.kb
  have k1' : Blk (X.setCell ⟨gz, 0, none⟩ (.slice A n c)) gk 22 #[.slice D0 m0 d0] := k1.far (p := ⟨gz, 0, none⟩) (Ne.symm h5) _
  have hs : (((X.setCell ⟨gz, 0, none⟩ (.slice A n c)).setCell ⟨gk, 0, none⟩ (.slice B m d))).heap.size = X.heap.size := by simp
  refine ⟨(h.ol.setCell (p := ⟨gz, 0, none⟩) h6 _).setCell (p := ⟨gk, 0, none⟩) h7 _, (h.lg.far (p := ⟨gz, 0, none⟩) h1 _).far (p := ⟨gk, 0, none⟩) h2 _, (h.re.far (p := ⟨gz, 0, none⟩) h3 _).far (p := ⟨gk, 0, none⟩) h4 _, ⟨A, n, c, M, (z1.set_ 0 (.slice A n c)).far (p := ⟨gk, 0, none⟩) h5 _, ?_, hZ⟩, ⟨B, m, d, k1'.set_ 0 (.slice B m d), hl, ?_⟩⟩
  · rw [hs]; exact znBox (znBox hM z1) k1'
  · rw [hs]; exact stBox hl (stBox hl hC z1) k1'
end Go.Proofs.YtepdcbhapjgijaaDoor
