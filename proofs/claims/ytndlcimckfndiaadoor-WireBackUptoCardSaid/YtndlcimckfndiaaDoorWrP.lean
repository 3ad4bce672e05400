/- Walk over wire.AppendBody. -/
import Derived.Test.YtndlcimckfndiaaDoorMWk
import Derived.Test.YtndlcimckfndiaaDoorMWa
namespace Go.Proofs.YtndlcimckfndiaaDoor
open Go.RowKit
set_option maxRecDepth 100000

set_option maxHeartbeats 1000000 in
theorem appendBody_no (A : Option Addr) (n c : Nat) (x : Wq.Bd) (Av : Option Addr) (cv : Nat) (w : World) (hf : Wq.bdF x = false) :
    Calls Tryd.prog 33 #[.slice A n c, .agg (bval x Av cv)] w fun e w' => e = .returned (.tuple #[.slice none 0 0, .int .i64 1]) ∧ Below w.heap.size w w' := by
  have hb0 : Below w.heap.size w (w.alloc (.cells (bval x Av cv) 63)) := (Below.refl _ _).alloc (Nat.le_refl _) _
  have G1 := bodyRight_any x Av cv (w.alloc (.cells (bval x Av cv) 63))
  rw [hf] at G1
  unfold bval at G1 hb0 ⊢
  have G1 := Lib.hid G1
  have HB := Lib.hid hb0
  clear hf hb0
  go_enter Tryd.func33, Tryd.ntmps33
  go_wp2_with (go_at_call 67; go_must (refine G1.out.mono ?_); rintro e w1 ⟨rfl, hb1⟩)
  go_ret2
  exact ⟨rfl, below_then HB.out (Nat.le_refl _) hb1⟩

set_option maxHeartbeats 4000000 in
theorem appendBody_any (A : Option Addr) (n c : Nat) (l : List UInt8) (x : Wq.Bd) (Av : Option Addr) (cv : Nat) (w : World) (hl : l.length = n) (hR : Rd w w.heap.size 1 A n c (bv l)) (hR2 : Rd w w.heap.size 1 Av x.v.length cv (bv x.v)) (hf : Wq.bdF x = true) (hc : x.s.1 < 9223372036854775808) (hn : n + 2400 ≤ 140737488355328) :
    Calls Tryd.prog 33 #[.slice A n c, .agg (bval x Av cv)] w fun e w' => ∃ v, e = .returned (.tuple #[v, .int .i64 0]) ∧ BytesAre w.heap.size w (l ++ Wq.lB x) v w' := by
  obtain ⟨f1, f2, f3, f4, f5, f6⟩ := (Wq.bdF_iff x).1 hf
  have hb0 : Below w.heap.size w (w.alloc (.cells (bval x Av cv) 63)) := (Below.refl _ _).alloc (Nat.le_refl _) _
  have hX := Blk.new w 63 (bval x Av cv)
  have G1 := bodyRight_any x Av cv (w.alloc (.cells (bval x Av cv) 63))
  rw [hf] at G1
  have h3max : 3 ≤ maxLen := by unfold maxLen; omega
  have hu3 : ∀ z ∈ [x.o, x.s.2, x.s.1], Wq.u63 z := by
    intro z hz
    simp only [List.mem_cons, List.not_mem_nil, or_false] at hz
    rcases hz with rfl | rfl | rfl
    · exact ⟨f1, by omega⟩
    · exact ⟨f4, by omega⟩
    · exact ⟨by omega, hc⟩
  have G2 := Lib.hid fun (W : World) (D : Option Addr) (d : Nat) (h1 : Rd W W.heap.size 1 A n c (bv l)) (h2 : Rd W W.heap.size 1 D 3 d (iv [x.o, x.s.2, x.s.1])) => lay_any A D n c 3 d l [x.o, x.s.2, x.s.1] W hl h1 rfl h2 hu3 (by omega) (by omega)
  have hE := layAll_len [x.o, x.s.2, x.s.1] hu3
  have hl3 : (l ++ layAll [x.o, x.s.2, x.s.1]).length ≤ n + 27 := by rw [List.length_append, hl]; simp at hE; omega
  have HL3 := Lib.hid (show (l ++ layAll [x.o, x.s.2, x.s.1]) ++ Pk.lay x.v.length ++ x.v = l ++ Wq.lB x by unfold Wq.lB Wq.lR; simp [layAll])
  obtain ⟨l3, hl3e⟩ : ∃ q, q = l ++ layAll [x.o, x.s.2, x.s.1] := ⟨_, rfl⟩
  rw [← hl3e] at G2 hl3 HL3
  have G3 := Lib.hid fun (W : World) (D : Option Addr) (d : Nat) (h1 : Rd W W.heap.size 1 D l3.length d (bv l3)) (h2 : Rd W W.heap.size 1 Av x.v.length cv (bv x.v)) => appendRow_any D Av l3.length d x.v.length cv l3 x.v W rfl h1 h2 (by omega)
  obtain ⟨o, ⟨ct, nd⟩, v⟩ := x
  dsimp only at *
  unfold bval at G1 hb0 hX ⊢
  dsimp only at G1 hb0 hX ⊢
  have HR := Lib.hid (hR.go hb0)
  have HR2 := Lib.hid (hR2.go hb0)
  have G1 := Lib.hid G1
  have HB := Lib.hid hb0
  have HX := Lib.hid hX
  clear hl hR hR2 hf hc f1 f2 f3 f4 f5 f6 hu3 hE hl3e hb0 hX
  go_enter Tryd.func33, Tryd.ntmps33
  go_wp2_with (go_at_call 67; go_must (refine G1.out.mono ?_); rintro e w1 ⟨rfl, hb1⟩)
  obtain ⟨q0, q1, q2, q3⟩ : w1.drew.cell? ⟨w.heap.size, 0, none⟩ = some (.int .i64 o) ∧ w1.drew.cell? ⟨w.heap.size, 1, none⟩ = some (.int .i64 ct) ∧ w1.drew.cell? ⟨w.heap.size, 2, none⟩ = some (.int .i64 nd) ∧ w1.drew.cell? ⟨w.heap.size, 3, none⟩ = some (.slice Av v.length cv) := (HX.out.go hb1).four
  have HXX := Lib.hid (show Blk w1 w.heap.size 63 #[.int .i64 o, .int .i64 ct, .int .i64 nd, .slice Av v.length cv] from HX.out.go hb1)
  have HR1 := Lib.hid (HR.out.go hb1)
  have HS1 := Lib.hid (HR2.out.go hb1)
  have HB1 := Lib.hid (below_then HB.out (Nat.le_refl _) hb1)
  have hs1 := HB1.out.size
  have HBD := Lib.hid (show Below w1.heap.size w1 (w1.alloc (.cells #[.int .i64 o, .int .i64 nd, .int .i64 ct] 3)).drew from ((Below.refl _ _).alloc (Nat.le_refl _) _).drew)
  have HRn := Lib.hid (show Rd (w1.alloc (.cells #[.int .i64 o, .int .i64 nd, .int .i64 ct] 3)).drew (w1.heap.size + 1) 1 (some ⟨w1.heap.size, 0, none⟩) 3 3 (iv [o, nd, ct]) from (Rd.new w1 3 1 3 #[.int .i64 o, .int .i64 nd, .int .i64 ct] rfl h3max).drew)
  refine region_nrm fun K hK => ?_
  go_region_held3 (fun w' => w'.cell? ⟨w.heap.size, 0, none⟩ = some (.int .i64 o) ∧ w'.cell? ⟨w.heap.size, 1, none⟩ = some (.int .i64 ct) ∧ w'.cell? ⟨w.heap.size, 2, none⟩ = some (.int .i64 nd) ∧ w'.cell? ⟨w.heap.size, 3, none⟩ = some (.slice Av v.length cv)) (first | exact ⟨u0, u1, u2, u3⟩ | exact ⟨t0, t1, t2, t3⟩ | exact ⟨q0, q1, q2, q3⟩ | exact (HXX.out.go HBD.out).four | go_keep) (first
    | (go_at_call 49; go_must (refine (G2.out _ _ _ (HR1.out.go HBD.out) (by have h := HRn.out; exact h.more (by simp))).mono ?_); rintro e w2 ⟨v2, rfl, A2, c2, rfl, ho2, hb2⟩; obtain ⟨t0, t1, t2, t3⟩ := ((HXX.out.go HBD.out).go hb2).four)
    | (go_at_call 68; go_must (refine (G3.out _ _ _ (Rd.of_own ho2) ((HS1.out.go HBD.out).go hb2)).mono ?_); rintro e w3 ⟨A3, c3, rfl, ho3, hb3⟩; obtain ⟨u0, u1, u2, u3⟩ := (((HXX.out.go HBD.out).go hb2).go hb3).four))
  refine Nrm.out (hK _ _ ?_)
  go_wp2
  go_ret2
  have hlen : (l ++ Wq.lB ⟨o, (ct, nd), v⟩).length = l3.length + (Pk.lay v.length).length + v.length := by rw [← HL3.out, List.length_append, List.length_append]
  refine ⟨_, rfl, A3, c3, by rw [hlen] <;> rfl, ?_, below_then (below_then (below_then HB1.out (Nat.le_refl _) HBD.out) (Nat.le_refl _) hb2) (Nat.le_refl _) hb3⟩
  rw [hlen, ← HL3.out]
  exact own_less ho3 (by have := hb2.size; simp at this; omega)
end Go.Proofs.YtndlcimckfndiaaDoor
