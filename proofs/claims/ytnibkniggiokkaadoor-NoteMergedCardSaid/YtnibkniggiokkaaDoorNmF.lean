/- Walk over note.Merge (printed by wip/tools/genNmF.py). -/
import Derived.Test.YtnibkniggiokkaaDoorNmE
import Derived.Test.YtnibkniggiokkaaDoorNm3
import Derived.Test.YtnibkniggiokkaaDoorNtQ
import Derived.Test.YtnibkniggiokkaaDoorNtP
import Derived.Test.YtnibkniggiokkaaDoorMid
import Derived.RangeFuncBox
import Derived.RangeFuncNested
namespace Go.Proofs.YtnibkniggiokkaaDoor
open Go.RowKit Go.Shelf
set_option maxRecDepth 100000
attribute [local go_sem] Oper.semAt_some

theorem mgF {G : World → Nat → Nat → Nat → Option Addr → Nat → Option Addr → Nat → Prop} {Goal : Prop} (Inv : World → Nat → Nat → Nat → Option Addr → Nat → Option Addr → Nat → Prop) (main : Hid (∀ W g a b A c B d, Inv W g a b A c B d → G W g a b A c B d) → Goal) (lem : ∀ W g a b A c B d, Inv W g a b A c B d → G W g a b A c B d) : Goal := main (Lib.hid lem)

/-- What lies while a merged note is built. -/
structure MgS (W0 : World) (g DF : Nat) (A24 : Option Addr) (c24 : Nat) (EL : List Vc.St) (A30 : Option Addr) (c30 : Nat) (BL : List Sn.Sp) (cs : Array Value) (V : World) : Prop where
  k : Below W0.heap.size W0 V
  x : Blk V g 26 cs
  c1 : V.ownsRow W0.heap.size 44 2 (.slice A24 EL.length c24) EL.length (sv EL)
  c2 : V.ownsRow W0.heap.size 37 2 (.slice A30 BL.length c30) BL.length (sv BL)
  d : V.heap[DF]? = some (.deferred (some []))
theorem ownBlock_slice (A : Option Addr) (n c : Nat) : (Value.slice A n c).ownBlock = (Value.slice A 0 0).ownBlock := by cases A <;> rfl
section
variable {W0 V V' : World} {g DF c24 c30 : Nat} {A24 A30 : Option Addr} {EL : List Vc.St} {BL : List Sn.Sp} {cs : Array Value}
theorem MgS.below (h : MgS W0 g DF A24 c24 EL A30 c30 BL cs V) (hb : Below V.heap.size V V') : MgS W0 g DF A24 c24 EL A30 c30 BL cs V' :=
  ⟨below_then h.k (Nat.le_refl _) hb, h.x.go hb, own_below h.c1 hb (Nat.le_refl _), own_below h.c2 hb (Nat.le_refl _), (hb.block DF (Array.getElem?_eq_some_iff.1 h.d).1).trans h.d⟩
theorem MgS.put (h : MgS W0 g DF A24 c24 EL A30 c30 BL cs V) (hge : W0.heap.size ≤ g) (i : Nat) (u : Value) : MgS W0 g DF A24 c24 EL A30 c30 BL (cs.setIfInBounds i u) (V.setCell ⟨g, i, none⟩ u) :=
  ⟨h.k.setCell (p := ⟨g, i, none⟩) hge u, h.x.set_ i u, h.c1.kept (set_gr V g i u) (own_blk h.c1 h.x (by decide)), h.c2.kept (set_gr V g i u) (own_blk h.c2 h.x (by decide)), (KeepsOthers.setCell V ⟨g, i, none⟩ u).same DF _ h.d rfl⟩
theorem MgS.row (h : MgS W0 g DF A24 c24 EL A30 c30 BL cs V) {A : Option Addr} {n c : Nat} {xs : List Value} (ho : V.ownsRow W0.heap.size 46 4 (.slice A n c) n xs) (hg : V.grownBy V' (Value.slice A 0 0).ownBlock) : MgS W0 g DF A24 c24 EL A30 c30 BL cs V' := by
  rw [← ownBlock_slice A n c] at hg
  refine ⟨h.k.trans (grown_below hg h.k.size (fun j hj => own_lt ho j hj)), h.x.grown hg (gr_ne h.x ho (by decide)), h.c1.kept hg (own_two h.c1 ho (by decide)), h.c2.kept hg (own_two h.c2 ho (by decide)), ?_⟩
  refine (hg.block DF (Array.getElem?_eq_some_iff.1 h.d).1 ?_).trans h.d
  intro e
  rcases ho.2 with ⟨hv, _⟩ | ⟨G, cap, cur, hv, _, hgr, _⟩
  · rw [hv] at e; cases e
  · rw [hv] at e
    have e2 : DF = G := by simpa [Value.ownBlock] using e
    have hd := h.d
    rw [e2, hgr] at hd; cases hd
theorem own_row {e : TypeId} {sz n c m b d : Nat} {A B : Option Addr} {xs ys : List Value} (h : V.ownsRow b e sz (.slice B m d) m ys) {base : Nat} (ho : V.ownsRow base 46 4 (.slice A n c) n xs) (he : e ≠ 46) (hg : V.grownBy V' (Value.slice A 0 0).ownBlock) : V'.ownsRow b e sz (.slice B m d) m ys := by
  rw [← ownBlock_slice A n c] at hg
  exact h.kept hg (own_two h ho he)
theorem Rd.clip_ {w : World} {B size n c : Nat} {A : Option Addr} {xs : List Value} (h : Rd w B size A n c xs) : Rd w B size A n n xs :=
  ⟨h.len, Nat.le_refl _, Nat.le_trans h.cap h.max, fun e => by have := h.nil e; have := h.cap; omega, h.at0⟩
end
/-- One node more. -/
def mS (e d a : List Vc.St) (k : Nat) : List Vc.St := if Vc.cnt e k < Vc.cnt d k then vec (jn [a, [(Vc.cnt d k, (k : Int))]]) else a
def mN (s e d : List Vc.St) (l : List Nat) : List Vc.St := l.foldl (mS e d) s
theorem mN_snoc (s e d : List Vc.St) (l : List Nat) (k : Nat) : mN s e d (l ++ [k]) = mS e d (mN s e d l) k := by unfold mN; rw [List.foldl_append]; rfl
theorem mN_upto (s e d : List Vc.St) : ∀ k, mN s e d (Vc.upto (pos (Vc.cnt d)) k) = mTo s e d k
  | 0 => rfl
  | k + 1 => by
    have ih := mN_upto s e d k
    have h0 := Vc.cnt_nonneg e k
    unfold Vc.upto at ih ⊢
    rw [List.range_succ, List.filter_append]
    rcases hp : pos (Vc.cnt d) k with _ | _
    · have h1 : ¬ 0 < Vc.cnt d k := by simpa [pos] using hp
      rw [show List.filter (pos (Vc.cnt d)) [k] = [] by simp [hp], List.append_nil, ih, mTo, if_neg (by omega)]
    · rw [show List.filter (pos (Vc.cnt d)) [k] = [k] by simp [hp], mN_snoc, ih, mTo]; rfl
theorem cntZ_natM (v : List Vc.St) {k : Nat} (h : k < 64) : cntZ v (k : Int) = Vc.cnt v k := by unfold cntZ; rw [if_pos (by omega), Int.toNat_natCast]
theorem keeps_belowM {B : Nat} {W V : World} (h : Below W.heap.size W V) : KeepsFrom B W V := ⟨h.size, fun k _ _ hk _ => (h.block k (Array.getElem?_eq_some_iff.1 hk).1).trans hk⟩
/-- What is kept of a beginning while it grows. -/
def BegI (BF : Nat) (u : List Vc.St) (W : World) : Prop := ∃ A' c', Boxed W BF 22 (.slice A' u.length c') ∧ Rd W W.heap.size 2 A' u.length c' (sv u)

set_option maxHeartbeats 2000000 in
theorem merge_no (v v' : NV) (x y : Nt) (w : World) (hT : Tab w) (hN : NtRd w w.heap.size v x) (hN' : NtRd w w.heap.size v' y) (hf : ntF x = false ∨ ntF x = true ∧ ntF y = false) :
    Calls Tryd.prog 15 #[.agg v.val, .agg v'.val] w fun e w' => e = .returned (.tuple #[.agg NV0.val, .int .i64 1]) ∧ Below w.heap.size w w' := by
  obtain ⟨A1, n1, c1, A2, n2, c2, A3, n3, c3, A4, n4, c4⟩ := v
  obtain ⟨B1, m1, d1, B2, m2, d2, B3, m3, d3, B4, m4, d4⟩ := v'
  have hb0 : Below w.heap.size w (((w.alloc (.cells #[.slice A1 n1 c1, .slice A2 n2 c2, .slice A3 n3 c3, .slice A4 n4 c4] 26)).alloc (.cells #[.slice B1 m1 d1, .slice B2 m2 d2, .slice B3 m3 d3, .slice B4 m4 d4] 26)).alloc (.cells #[.slice none 0 0, .slice none 0 0, .slice none 0 0, .slice none 0 0] 26)) := (((Below.refl _ _).alloc (Nat.le_refl _) _).alloc (by simp) _).alloc (by simp; omega) _
  have hX := ((Blk.new w 26 #[.slice A1 n1 c1, .slice A2 n2 c2, .slice A3 n3 c3, .slice A4 n4 c4]).alloc (.cells #[.slice B1 m1 d1, .slice B2 m2 d2, .slice B3 m3 d3, .slice B4 m4 d4] 26)).alloc (.cells #[.slice none 0 0, .slice none 0 0, .slice none 0 0, .slice none 0 0] 26)
  have hY := (Blk.new (w.alloc (.cells #[.slice A1 n1 c1, .slice A2 n2 c2, .slice A3 n3 c3, .slice A4 n4 c4] 26)) 26 #[.slice B1 m1 d1, .slice B2 m2 d2, .slice B3 m3 d3, .slice B4 m4 d4]).alloc (.cells #[.slice none 0 0, .slice none 0 0, .slice none 0 0, .slice none 0 0] 26)
  have hM := Blk.new ((w.alloc (.cells #[.slice A1 n1 c1, .slice A2 n2 c2, .slice A3 n3 c3, .slice A4 n4 c4] 26)).alloc (.cells #[.slice B1 m1 d1, .slice B2 m2 d2, .slice B3 m3 d3, .slice B4 m4 d4] 26)) 26 #[.slice none 0 0, .slice none 0 0, .slice none 0 0, .slice none 0 0]
  simp only [World.size_alloc] at hY hM
  obtain ⟨W0, hW0⟩ : ∃ W0, W0 = ((w.alloc (.cells #[.slice A1 n1 c1, .slice A2 n2 c2, .slice A3 n3 c3, .slice A4 n4 c4] 26)).alloc (.cells #[.slice B1 m1 d1, .slice B2 m2 d2, .slice B3 m3 d3, .slice B4 m4 d4] 26)).alloc (.cells #[.slice none 0 0, .slice none 0 0, .slice none 0 0, .slice none 0 0] 26) := ⟨_, rfl⟩
  have hs0 : W0.heap.size = w.heap.size + 1 + 1 + 1 := by rw [hW0]; simp
  rw [← hW0] at hb0 hX hY hM
  have hN0 := hN.go hb0
  have hN1 := hN'.go hb0
  have G1 := noteFormed_any ⟨A1, n1, c1, A2, n2, c2, A3, n3, c3, A4, n4, c4⟩ x W0 (hT.below hb0) hN0
  have G2 := fun (W : World) (hb : Below W0.heap.size W0 W) => noteFormed_any ⟨B1, m1, d1, B2, m2, d2, B3, m3, d3, B4, m4, d4⟩ y W ((hT.below hb0).below hb) (hN1.go hb)
  dsimp only [NV.val] at G1 G2 ⊢
  have HB := Lib.hid hb0
  have HX := Lib.hid hX
  have HY := Lib.hid hY
  have HM := Lib.hid hM
  have HW := Lib.hid hW0.symm
  obtain ⟨zz, hii⟩ := zero_of_info notes_zero
  have HI := Lib.hid hii
  rcases hf with hf | ⟨hf, hf2⟩
  · rw [hf] at G1
    have G1 := Lib.hid G1
    clear hf hT hN hN' hN0 hN1 hb0 hX hY hM hW0 hii G2
    go_enter Tryd.func15, Tryd.ntmps15
    go_wp2_with fail
    rw [HW.out]
    obtain ⟨q0, q1, q2, q3⟩ := HX.out.four4
    go_wp2_with fail
    refine G1.out.mono ?_
    rintro e w1 ⟨rfl, hb1⟩
    have hM1 := HM.out.go hb1
    have hs1 := hb1.size
    go_wp2_with (refine wpList_store_blk rfl 26 _ _ rfl (w.heap.size + 1 + 1) 26 _ #[.slice none 0 0, .slice none 0 0, .slice none 0 0, .slice none 0 0] rfl rfl hM1 HI.out rfl (by simp [Value.oneCell']) ?_; intro W hblk hg)
    refine bodyPost_ret (res_ct rfl _ _ (w.heap.size + 1 + 1) 26 _ _ _ rfl hblk Tryd.underlying26 rfl (by kernel_rfl)) rfl ⟨rfl, (below_then HB.out (Nat.le_refl _) hb1).trans (grown_below hg (by omega) (fun j hj => by cases hj; omega))⟩
  · rw [hf] at G1
    rw [hf2] at G2
    have G1 := Lib.hid G1
    have G2 := Lib.hid G2
    clear hf hf2 hT hN hN' hN0 hN1 hb0 hX hY hM hW0 hii
    go_enter Tryd.func15, Tryd.ntmps15
    go_wp2_with fail
    rw [HW.out]
    obtain ⟨q0, q1, q2, q3⟩ := HX.out.four4
    go_wp2_with fail
    refine G1.out.mono ?_
    rintro e w1 ⟨rfl, hb1⟩
    clear q0 q1 q2 q3
    obtain ⟨q0, q1, q2, q3⟩ := (HY.out.go hb1).four4
    go_wp2_with fail
    refine (G2.out _ hb1).mono ?_
    rintro e w2 ⟨rfl, hb2⟩
    have hb2 := below_then hb1 (Nat.le_refl _) hb2
    have hM1 := HM.out.go hb2
    have hs1 := hb2.size
    go_wp2_with (refine wpList_store_blk rfl 26 _ _ rfl (w.heap.size + 1 + 1) 26 _ #[.slice none 0 0, .slice none 0 0, .slice none 0 0, .slice none 0 0] rfl rfl hM1 HI.out rfl (by simp [Value.oneCell']) ?_; intro W hblk hg)
    refine bodyPost_ret (res_ct rfl _ _ (w.heap.size + 1 + 1) 26 _ _ _ rfl hblk Tryd.underlying26 rfl (by kernel_rfl)) rfl ⟨rfl, (below_then HB.out (Nat.le_refl _) hb2).trans (grown_below hg (by omega) (fun j hj => by cases hj; omega))⟩


set_option maxHeartbeats 16000000 in
theorem merge_yes (v v' : NV) (x y : Nt) (w : World) (hT : Tab w) (hN : NtRd w w.heap.size v x) (hN' : NtRd w w.heap.size v' y) (hf : ntF x = true) (hf2 : ntF y = true) :
    Calls Tryd.prog 15 #[.agg v.val, .agg v'.val] w fun e w' => ∃ v'' : NV, e = .returned (.tuple #[.agg v''.val, .int .i64 0]) ∧ NtRd w' w'.heap.size v'' (mrgN x y) ∧ Below w.heap.size w w' := by
  have h0lt : 0 < w.heap.size := World.block_lt_of_cell? _ _ (hT 0 (by decide))
  obtain ⟨A1, n1, c1, A2, n2, c2, A3, n3, c3, A4, n4, c4⟩ := v
  obtain ⟨B1, m1, d1, B2, m2, d2, B3, m3, d3, B4, m4, d4⟩ := v'
  have hb0 : Below w.heap.size w (((w.alloc (.cells #[.slice A1 n1 c1, .slice A2 n2 c2, .slice A3 n3 c3, .slice A4 n4 c4] 26)).alloc (.cells #[.slice B1 m1 d1, .slice B2 m2 d2, .slice B3 m3 d3, .slice B4 m4 d4] 26)).alloc (.cells #[.slice none 0 0, .slice none 0 0, .slice none 0 0, .slice none 0 0] 26)) := (((Below.refl _ _).alloc (Nat.le_refl _) _).alloc (by simp) _).alloc (by simp; omega) _
  have hX := ((Blk.new w 26 #[.slice A1 n1 c1, .slice A2 n2 c2, .slice A3 n3 c3, .slice A4 n4 c4]).alloc (.cells #[.slice B1 m1 d1, .slice B2 m2 d2, .slice B3 m3 d3, .slice B4 m4 d4] 26)).alloc (.cells #[.slice none 0 0, .slice none 0 0, .slice none 0 0, .slice none 0 0] 26)
  have hY := (Blk.new (w.alloc (.cells #[.slice A1 n1 c1, .slice A2 n2 c2, .slice A3 n3 c3, .slice A4 n4 c4] 26)) 26 #[.slice B1 m1 d1, .slice B2 m2 d2, .slice B3 m3 d3, .slice B4 m4 d4]).alloc (.cells #[.slice none 0 0, .slice none 0 0, .slice none 0 0, .slice none 0 0] 26)
  have hM := Blk.new ((w.alloc (.cells #[.slice A1 n1 c1, .slice A2 n2 c2, .slice A3 n3 c3, .slice A4 n4 c4] 26)).alloc (.cells #[.slice B1 m1 d1, .slice B2 m2 d2, .slice B3 m3 d3, .slice B4 m4 d4] 26)) 26 #[.slice none 0 0, .slice none 0 0, .slice none 0 0, .slice none 0 0]
  simp only [World.size_alloc] at hY hM
  obtain ⟨W0, hW0⟩ : ∃ W0, W0 = ((w.alloc (.cells #[.slice A1 n1 c1, .slice A2 n2 c2, .slice A3 n3 c3, .slice A4 n4 c4] 26)).alloc (.cells #[.slice B1 m1 d1, .slice B2 m2 d2, .slice B3 m3 d3, .slice B4 m4 d4] 26)).alloc (.cells #[.slice none 0 0, .slice none 0 0, .slice none 0 0, .slice none 0 0] 26) := ⟨_, rfl⟩
  have hs0 : W0.heap.size = w.heap.size + 1 + 1 + 1 := by rw [hW0]; simp
  rw [← hW0] at hb0 hX hY hM
  have hN0 := hN.go hb0
  have hN1 := hN'.go hb0
  have G1 := noteFormed_any ⟨A1, n1, c1, A2, n2, c2, A3, n3, c3, A4, n4, c4⟩ x W0 (hT.below hb0) hN0
  have G2 := fun (W : World) (hb : Below W0.heap.size W0 W) => noteFormed_any ⟨B1, m1, d1, B2, m2, d2, B3, m3, d3, B4, m4, d4⟩ y W ((hT.below hb0).below hb) (hN1.go hb)
  dsimp only [NV.val] at G1 G2 ⊢
  have HB := Lib.hid hb0
  have HX := Lib.hid hX
  have HY := Lib.hid hY
  have HM := Lib.hid hM
  have HW := Lib.hid hW0.symm
  obtain ⟨zz, hii⟩ := zero_of_info notes_zero
  have HI := Lib.hid hii
  rw [hf] at G1
  rw [hf2] at G2
  have G1 := Lib.hid G1
  have G2 := Lib.hid G2
  obtain ⟨f1, f2, f3, f4, f5⟩ := ntF_parts hf
  obtain ⟨g1, g2, g3, g4, g5⟩ := ntF_parts hf2
  have z3 := Sn.fmS_128 f4
  have z4 := wrl_len f5
  have y3 := Sn.fmS_128 g4
  have y4 := wrl_len g5
  obtain ⟨l1, r1, l2, r2, l3, r3, l4, r4⟩ := hN0
  obtain ⟨k1, s1, k2, s2, k3, s3, k4, s4⟩ := hN1
  dsimp only at l1 r1 l2 r2 l3 r3 l4 r4 k1 s1 k2 s2 k3 s3 k4 s4
  have HT := Lib.hid fun (V : World) (hb : Below W0.heap.size W0 V) => (hT.below hb0).below hb
  -- the rows of the notes that came
  have RA1 := Lib.hid fun (V : World) (hb : Below W0.heap.size W0 V) => r1.go hb
  have RA2 := Lib.hid fun (V : World) (hb : Below W0.heap.size W0 V) => r2.go hb
  have RA3 := Lib.hid fun (V : World) (hb : Below W0.heap.size W0 V) => r3.go hb
  have RA4 := Lib.hid fun (V : World) (hb : Below W0.heap.size W0 V) => r4.go hb
  have RB1 := Lib.hid fun (V : World) (hb : Below W0.heap.size W0 V) => s1.go hb
  have RB2 := Lib.hid fun (V : World) (hb : Below W0.heap.size W0 V) => s2.go hb
  have RB3 := Lib.hid fun (V : World) (hb : Below W0.heap.size W0 V) => s3.go hb
  have RB4 := Lib.hid fun (V : World) (hb : Below W0.heap.size W0 V) => s4.go hb
  have HLA := Lib.hid (And.intro l1 (And.intro l2 (And.intro l3 l4)))
  have HLB := Lib.hid (And.intro k1 (And.intro k2 (And.intro k3 k4)))
  have HS := Lib.hid fun W (hb : Below W0.heap.size W0 W) => (show (W.cell? ⟨w.heap.size, 0, none⟩ = some (.slice A1 n1 c1) ∧ W.cell? ⟨w.heap.size, 1, none⟩ = some (.slice A2 n2 c2) ∧ W.cell? ⟨w.heap.size, 2, none⟩ = some (.slice A3 n3 c3) ∧ W.cell? ⟨w.heap.size, 3, none⟩ = some (.slice A4 n4 c4)) ∧
      (W.cell? ⟨w.heap.size + 1, 0, none⟩ = some (.slice B1 m1 d1) ∧ W.cell? ⟨w.heap.size + 1, 1, none⟩ = some (.slice B2 m2 d2) ∧ W.cell? ⟨w.heap.size + 1, 2, none⟩ = some (.slice B3 m3 d3) ∧ W.cell? ⟨w.heap.size + 1, 3, none⟩ = some (.slice B4 m4 d4)) from
    ⟨⟨(hX.go hb).cell 0, (hX.go hb).cell 1, (hX.go hb).cell 2, (hX.go hb).cell 3⟩, ⟨(hY.go hb).cell 0, (hY.go hb).cell 1, (hY.go hb).cell 2, (hY.go hb).cell 3⟩⟩)
  obtain ⟨EL, hEL⟩ : ∃ EL, EL = vec (jn [x.e, y.e]) := ⟨_, rfl⟩
  obtain ⟨BL, hBL⟩ : ∃ BL, BL = mrgB x y := ⟨_, rfl⟩
  have hBL2 : Sn.tidy [x.b, y.b].flatten = BL := by rw [hBL]; simp [mrgB]
  have GJ := fun (V : World) (hb : Below W0.heap.size W0 V) (a : Nat) (hR : RdL V V.heap.size (some ⟨a, 0, none⟩) 2 2 [x.e, y.e]) => join_any (some ⟨a, 0, none⟩) 2 2 [x.e, y.e] V ((hT.below hb0).below hb) hR
  have GS := fun (V : World) (a : Nat) (hR : RdL V V.heap.size (some ⟨a, 0, none⟩) 2 2 [x.b, y.b]) => joinS_any (some ⟨a, 0, none⟩) 2 2 [x.b, y.b] V hR (by simp only [List.flatten_cons, List.flatten_nil, List.append_nil, List.length_append]; omega)
  rw [hBL2] at GS
  simp only [← hEL] at GJ
  have GJ := Lib.hid GJ
  have GS := Lib.hid GS
  have HEB := Lib.hid (And.intro hEL hBL)
  clear hEL hBL hBL2
  have HF := Lib.hid (And.intro hf hf2)
  have HN4 := Lib.hid (show x.w.length ≤ 256 ∧ y.w.length ≤ 256 from ⟨z4, y4⟩)
  have HFP := Lib.hid (And.intro f1 f3)
  have HS0 := Lib.hid hs0
  clear hf hf2 hT hN hN' hb0 hX hY hM hW0 hii f1 f2 f3 f4 f5 g1 g2 g3 g4 g5 z3 z4 y3 y4 l1 r1 l2 r2 l3 r3 l4 r4 k1 s1 k2 s2 k3 s3 k4 s4
  refine (callsIn_wide (n := 3)).1 ?_
  refine callsIn_of_wp_marks Tryd.func15 rfl trivial ?_ rfl
  simp only [Tryd.ntmps15, List.size_toArray, List.length_cons, List.length_nil, Nat.reduceAdd, Nat.reduceSub, Array.replicate_succ, Array.replicate_zero, List.push_toArray, List.append_toArray, List.nil_append, List.cons_append]
  gi_wp2_with fail
  rw [HW.out]
  obtain ⟨⟨q0, q1, q2, q3⟩, _⟩ := HS.out W0 (Below.refl _ _)
  gi_wp2_with fail
  refine ⟨trivial, ?_⟩
  refine (callsIn_wide.2 G1.out).mono ?_
  rintro e w1 ⟨rfl, hb1⟩
  clear q0 q1 q2 q3
  obtain ⟨_, ⟨q0, q1, q2, q3⟩⟩ := HS.out w1 hb1
  gi_wp2_with fail
  refine ⟨trivial, ?_⟩
  refine (callsIn_wide.2 (G2.out _ hb1)).mono ?_
  rintro e w2 ⟨rfl, hb2⟩
  clear q0 q1 q2 q3
  have k := (below_then hb1 (Nat.le_refl _) hb2).drew
  clear hb1 hb2
  gi_wp2_with fail
  apply mgF (fun V g a23 a29 A24 c24 A30 c30 => Below W0.heap.size W0 V ∧ W0.heap.size ≤ g ∧ Blk V g 26 #[.slice none 0 0, .slice A24 EL.length c24, .slice A30 BL.length c30, .slice none 0 0] ∧ V.ownsRow W0.heap.size 44 2 (.slice A24 EL.length c24) EL.length (sv EL) ∧ V.ownsRow W0.heap.size 37 2 (.slice A30 BL.length c30) BL.length (sv BL))
  · intro EF
    first | refine wpIn_wide.2 ?_ | skip
    refine region_nrm fun KK hKK => ?_
    refine wp_region_held_drew (S := (fun W => (W.cell? ⟨w.heap.size, 0, none⟩ = some (.slice A1 n1 c1) ∧ W.cell? ⟨w.heap.size, 1, none⟩ = some (.slice A2 n2 c2) ∧ W.cell? ⟨w.heap.size, 2, none⟩ = some (.slice A3 n3 c3) ∧ W.cell? ⟨w.heap.size, 3, none⟩ = some (.slice A4 n4 c4)) ∧ (W.cell? ⟨w.heap.size + 1, 0, none⟩ = some (.slice B1 m1 d1) ∧ W.cell? ⟨w.heap.size + 1, 1, none⟩ = some (.slice B2 m2 d2) ∧ W.cell? ⟨w.heap.size + 1, 2, none⟩ = some (.slice B3 m3 d3) ∧ W.cell? ⟨w.heap.size + 1, 3, none⟩ = some (.slice B4 m4 d4)))) (by kernel_rfl) (by first | exact HS.out _ k) (fun hHeld => ?_)
    obtain ⟨V, hV⟩ : ∃ V, V = w2.drew := ⟨_, rfl⟩
    rw [← hV] at k ⊢
    clear hV
    refine wpAnyH_putD (i := 0) (d := 19) (v := ?_) rfl rfl (by kernel_rfl) (by kernel_rfl) (by kernel_rfl) (fun _ _ _ h => h) (Or.inl ⟨by kernel_rfl, ?_⟩) (by first | exact HS.out _ k) ?_
    rotate_left
    · (intro w hS; (try dsimp only at hS); go_simp <;> with_reducible rfl)
    try simp only [List.setIfInBounds_toArray, List.set_cons_zero, List.set_cons_succ]
    refine wpAnyH_putD (i := 1) (d := 20) (v := ?_) rfl rfl (by kernel_rfl) (by kernel_rfl) (by kernel_rfl) (fun _ _ _ h => h) (Or.inl ⟨by kernel_rfl, ?_⟩) (by first | exact HS.out _ k) ?_
    rotate_left
    · (intro w hS; (try dsimp only at hS); go_simp <;> with_reducible rfl)
    try simp only [List.setIfInBounds_toArray, List.set_cons_zero, List.set_cons_succ]
    refine wpAnyH_putD (i := 2) (d := 21) (v := ?_) rfl rfl (by kernel_rfl) (by kernel_rfl) (by kernel_rfl) (fun _ _ _ h => h) (Or.inl ⟨by kernel_rfl, ?_⟩) (by first | exact HS.out _ k) ?_
    rotate_left
    · (intro w hS; (try dsimp only at hS); go_simp <;> with_reducible rfl)
    try simp only [List.setIfInBounds_toArray, List.set_cons_zero, List.set_cons_succ]
    refine wpAnyH_putD (i := 3) (d := 22) (v := ?_) rfl rfl (by kernel_rfl) (by kernel_rfl) (by kernel_rfl) (fun _ _ _ h => h) (Or.inl ⟨by kernel_rfl, ?_⟩) (by first | exact HS.out _ k) ?_
    rotate_left
    · (intro w hS; (try dsimp only at hS); go_simp <;> with_reducible rfl)
    try simp only [List.setIfInBounds_toArray, List.set_cons_zero, List.set_cons_succ]
    refine wpAnyH_putD (i := 6) (d := 25) (v := ?_) rfl rfl (by kernel_rfl) (by kernel_rfl) (by kernel_rfl) (fun _ _ _ h => h) (Or.inl ⟨by kernel_rfl, ?_⟩) (by first | exact HS.out _ k) ?_
    rotate_left
    · (intro w hS; (try dsimp only at hS); go_simp <;> with_reducible rfl)
    try simp only [List.setIfInBounds_toArray, List.set_cons_zero, List.set_cons_succ]
    refine wpAnyH_putD (i := 7) (d := 26) (v := ?_) rfl rfl (by kernel_rfl) (by kernel_rfl) (by kernel_rfl) (fun _ _ _ h => h) (Or.inl ⟨by kernel_rfl, ?_⟩) (by first | exact HS.out _ k) ?_
    rotate_left
    · (intro w hS; (try dsimp only at hS); go_simp <;> with_reducible rfl)
    try simp only [List.setIfInBounds_toArray, List.set_cons_zero, List.set_cons_succ]
    refine wpAnyH_putD (i := 8) (d := 27) (v := ?_) rfl rfl (by kernel_rfl) (by kernel_rfl) (by kernel_rfl) (fun _ _ _ h => h) (Or.inl ⟨by kernel_rfl, ?_⟩) (by first | exact HS.out _ k) ?_
    rotate_left
    · (intro w hS; (try dsimp only at hS); go_simp <;> with_reducible rfl)
    try simp only [List.setIfInBounds_toArray, List.set_cons_zero, List.set_cons_succ]
    refine wpAnyH_putD (i := 9) (d := 28) (v := ?_) rfl rfl (by kernel_rfl) (by kernel_rfl) (by kernel_rfl) (fun _ _ _ h => h) (Or.inl ⟨by kernel_rfl, ?_⟩) (by first | exact HS.out _ k) ?_
    rotate_left
    · (intro w hS; (try dsimp only at hS); go_simp <;> with_reducible rfl)
    try simp only [List.setIfInBounds_toArray, List.set_cons_zero, List.set_cons_succ]
    refine wpAnyH_ready (rs := [4, 10, 13]) (by kernel_rfl) (by simp) ?_
    refine AllReadyH.cons rfl (fun K hK => ?_) (AllReadyH.cons rfl (fun K hK => ?_) (AllReadyH.cons rfl (fun K hK => ?_) AllReadyH.nil))
    · go_simp
      have hb' := then_alloc k (.cells #[.slice A2 n2 c2, .slice B2 m2 d2] 22)
      have R1 := RdL.two HLA.out.2.1 HLB.out.2.1 (RA2.out _ k) (RB2.out _ k) 22
      try (have R2 := R2.go hb')
      try (have G := G.go hb')
      have k := below_then k (Nat.le_refl _) hb'
      clear hb'
      refine hK.out _ _ (by first | exact HS.out _ k) (fun hHeld => ?_)
      clear hK K
      generalize V.heap.size = a23 at *
      generalize V.alloc (.cells #[.slice A2 n2 c2, .slice B2 m2 d2] 22) = V at *
      refine wpAnyH_ready (rs := [5, 10, 13]) (by kernel_rfl) (by simp) ?_
      refine AllReadyH.cons rfl (fun K hK => ?_) (AllReadyH.cons rfl (fun K hK => ?_) (AllReadyH.cons rfl (fun K hK => ?_) AllReadyH.nil))
      · go_simp
        refine (GJ.out _ k _ R1).mono ?_
        rintro e V ⟨A24, c24, rfl, ho, hb'⟩
        have C1 := own_less ho k.size
        try (have R2 := R2.go hb')
        try (have G := G.go hb')
        have k := below_then k (Nat.le_refl _) hb'
        clear ho hb' R1
        refine hK.out _ _ (by first | exact HS.out _ k) (fun hHeld => ?_)
        clear hK K
        refine wpAnyH_ready (rs := [10, 13]) (by kernel_rfl) (by simp) ?_
        refine AllReadyH.cons rfl (fun K hK => ?_) (AllReadyH.cons rfl (fun K hK => ?_) AllReadyH.nil)
        · go_simp
          have hb' := then_alloc k (.cells #[.slice A3 n3 c3, .slice B3 m3 d3] 23)
          have R2 := RdL.two HLA.out.2.2.1 HLB.out.2.2.1 (RA3.out _ k) (RB3.out _ k) 23
          try (have R1 := R1.go hb')
          try (have C1 := own_below C1 hb' (Nat.le_refl _))
          try (have G := G.go hb')
          have k := below_then k (Nat.le_refl _) hb'
          clear hb'
          refine hK.out _ _ (by first | exact HS.out _ k) (fun hHeld => ?_)
          clear hK K
          generalize V.heap.size = a29 at *
          generalize V.alloc (.cells #[.slice A3 n3 c3, .slice B3 m3 d3] 23) = V at *
          refine wpAnyH_ready (rs := [11, 13]) (by kernel_rfl) (by simp) ?_
          refine AllReadyH.cons rfl (fun K hK => ?_) (AllReadyH.cons rfl (fun K hK => ?_) AllReadyH.nil)
          · go_simp
            refine (GS.out _ _ R2).mono ?_
            rintro e V ⟨A30, c30, rfl, ho, hb'⟩
            have C2 := own_less ho k.size
            try (have C1 := own_below C1 hb' (Nat.le_refl _))
            try (have G := G.go hb')
            have k := below_then k (Nat.le_refl _) hb'
            clear ho hb' R2
            refine hK.out _ _ (by first | exact HS.out _ k) (fun hHeld => ?_)
            clear hK K
            refine wpAnyH_putD (i := 12) (d := 31) (v := ?_) rfl rfl (by kernel_rfl) (by kernel_rfl) (by kernel_rfl) (fun _ _ _ h => h) (Or.inl ⟨by kernel_rfl, ?_⟩) (by first | exact HS.out _ k) ?_
            rotate_left
            · (intro w hS; (try dsimp only at hS); go_simp <;> with_reducible rfl)
            try simp only [List.setIfInBounds_toArray, List.set_cons_zero, List.set_cons_succ]
            refine wpAnyH_ready (rs := [13]) (by kernel_rfl) (by simp) ?_
            refine AllReadyH.cons rfl (fun K hK => ?_) AllReadyH.nil
            go_simp
            have hb' := then_alloc k (.cells #[.slice none 0 0, .slice none 0 0, .slice none 0 0, .slice none 0 0] 26)
            have hge := k.size
            try (have R1 := R1.go hb')
            try (have R2 := R2.go hb')
            try (have C1 := own_below C1 hb' (Nat.le_refl _))
            try (have C2 := own_below C2 hb' (Nat.le_refl _))
            have G := blkOfN hb'
            have k := below_then k (Nat.le_refl _) hb'
            clear hb'
            refine hK.out _ _ (by first | exact HS.out _ k) (fun hHeld => ?_)
            clear hK K
            generalize V.heap.size = g at *
            generalize V.alloc (.cells #[.slice none 0 0, .slice none 0 0, .slice none 0 0, .slice none 0 0] 26) = V at *
            refine wpAnyH_ready (rs := [14]) (by kernel_rfl) (by simp) ?_
            refine AllReadyH.cons rfl (fun K hK => ?_) AllReadyH.nil
            rw [if_pos (by kernel_rfl)]
            refine wp_store_blk 26 (.tmp 6) (.tmp 31) rfl _ 26 _ #[.slice none 0 0, .slice A24 EL.length c24, .slice A30 BL.length c30, .slice none 0 0] rfl rfl G HI.out rfl (by simp [Value.oneCell']) ?_
            intro V hblk hg
            have C1 := C1.kept hg (own_blk C1 G (by decide))
            have C2 := C2.kept hg (own_blk C2 G (by decide))
            have k := k.trans (grown_below hg k.size (fun j hj => by cases hj; exact hge))
            clear hg G
            refine hK.out _ _ (by first | exact HS.out _ k) (fun hHeld => ?_)
            clear hK K
            refine wpAnyH_done (by kernel_rfl) ?_ _
            refine Nrm.out (hKK _ _ ?_)
            exact EF.out V g a23 a29 A24 c24 A30 c30 ⟨k, hge, hblk, C1, C2⟩
          · go_simp
            have hb' := then_alloc k (.cells #[.slice none 0 0, .slice none 0 0, .slice none 0 0, .slice none 0 0] 26)
            have hge := k.size
            try (have R1 := R1.go hb')
            try (have R2 := R2.go hb')
            try (have C1 := own_below C1 hb' (Nat.le_refl _))
            try (have C2 := own_below C2 hb' (Nat.le_refl _))
            have G := blkOfN hb'
            have k := below_then k (Nat.le_refl _) hb'
            clear hb'
            refine hK.out _ _ (by first | exact HS.out _ k) (fun hHeld => ?_)
            clear hK K
            generalize V.heap.size = g at *
            generalize V.alloc (.cells #[.slice none 0 0, .slice none 0 0, .slice none 0 0, .slice none 0 0] 26) = V at *
            refine wpAnyH_ready (rs := [11]) (by kernel_rfl) (by simp) ?_
            refine AllReadyH.cons rfl (fun K hK => ?_) AllReadyH.nil
            go_simp
            refine (GS.out _ _ R2).mono ?_
            rintro e V ⟨A30, c30, rfl, ho, hb'⟩
            have C2 := own_less ho k.size
            try (have C1 := own_below C1 hb' (Nat.le_refl _))
            try (have G := G.go hb')
            have k := below_then k (Nat.le_refl _) hb'
            clear ho hb' R2
            refine hK.out _ _ (by first | exact HS.out _ k) (fun hHeld => ?_)
            clear hK K
            refine wpAnyH_putD (i := 12) (d := 31) (v := ?_) rfl rfl (by kernel_rfl) (by kernel_rfl) (by kernel_rfl) (fun _ _ _ h => h) (Or.inl ⟨by kernel_rfl, ?_⟩) (by first | exact HS.out _ k) ?_
            rotate_left
            · (intro w hS; (try dsimp only at hS); go_simp <;> with_reducible rfl)
            try simp only [List.setIfInBounds_toArray, List.set_cons_zero, List.set_cons_succ]
            refine wpAnyH_ready (rs := [14]) (by kernel_rfl) (by simp) ?_
            refine AllReadyH.cons rfl (fun K hK => ?_) AllReadyH.nil
            rw [if_pos (by kernel_rfl)]
            refine wp_store_blk 26 (.tmp 6) (.tmp 31) rfl _ 26 _ #[.slice none 0 0, .slice A24 EL.length c24, .slice A30 BL.length c30, .slice none 0 0] rfl rfl G HI.out rfl (by simp [Value.oneCell']) ?_
            intro V hblk hg
            have C1 := C1.kept hg (own_blk C1 G (by decide))
            have C2 := C2.kept hg (own_blk C2 G (by decide))
            have k := k.trans (grown_below hg k.size (fun j hj => by cases hj; exact hge))
            clear hg G
            refine hK.out _ _ (by first | exact HS.out _ k) (fun hHeld => ?_)
            clear hK K
            refine wpAnyH_done (by kernel_rfl) ?_ _
            refine Nrm.out (hKK _ _ ?_)
            exact EF.out V g a23 a29 A24 c24 A30 c30 ⟨k, hge, hblk, C1, C2⟩
        · go_simp
          have hb' := then_alloc k (.cells #[.slice none 0 0, .slice none 0 0, .slice none 0 0, .slice none 0 0] 26)
          have hge := k.size
          try (have R1 := R1.go hb')
          try (have R2 := R2.go hb')
          try (have C1 := own_below C1 hb' (Nat.le_refl _))
          try (have C2 := own_below C2 hb' (Nat.le_refl _))
          have G := blkOfN hb'
          have k := below_then k (Nat.le_refl _) hb'
          clear hb'
          refine hK.out _ _ (by first | exact HS.out _ k) (fun hHeld => ?_)
          clear hK K
          generalize V.heap.size = g at *
          generalize V.alloc (.cells #[.slice none 0 0, .slice none 0 0, .slice none 0 0, .slice none 0 0] 26) = V at *
          refine wpAnyH_ready (rs := [10]) (by kernel_rfl) (by simp) ?_
          refine AllReadyH.cons rfl (fun K hK => ?_) AllReadyH.nil
          go_simp
          have hb' := then_alloc k (.cells #[.slice A3 n3 c3, .slice B3 m3 d3] 23)
          have R2 := RdL.two HLA.out.2.2.1 HLB.out.2.2.1 (RA3.out _ k) (RB3.out _ k) 23
          try (have R1 := R1.go hb')
          try (have C1 := own_below C1 hb' (Nat.le_refl _))
          try (have G := G.go hb')
          have k := below_then k (Nat.le_refl _) hb'
          clear hb'
          refine hK.out _ _ (by first | exact HS.out _ k) (fun hHeld => ?_)
          clear hK K
          generalize V.heap.size = a29 at *
          generalize V.alloc (.cells #[.slice A3 n3 c3, .slice B3 m3 d3] 23) = V at *
          refine wpAnyH_ready (rs := [11]) (by kernel_rfl) (by simp) ?_
          refine AllReadyH.cons rfl (fun K hK => ?_) AllReadyH.nil
          go_simp
          refine (GS.out _ _ R2).mono ?_
          rintro e V ⟨A30, c30, rfl, ho, hb'⟩
          have C2 := own_less ho k.size
          try (have C1 := own_below C1 hb' (Nat.le_refl _))
          try (have G := G.go hb')
          have k := below_then k (Nat.le_refl _) hb'
          clear ho hb' R2
          refine hK.out _ _ (by first | exact HS.out _ k) (fun hHeld => ?_)
          clear hK K
          refine wpAnyH_putD (i := 12) (d := 31) (v := ?_) rfl rfl (by kernel_rfl) (by kernel_rfl) (by kernel_rfl) (fun _ _ _ h => h) (Or.inl ⟨by kernel_rfl, ?_⟩) (by first | exact HS.out _ k) ?_
          rotate_left
          · (intro w hS; (try dsimp only at hS); go_simp <;> with_reducible rfl)
          try simp only [List.setIfInBounds_toArray, List.set_cons_zero, List.set_cons_succ]
          refine wpAnyH_ready (rs := [14]) (by kernel_rfl) (by simp) ?_
          refine AllReadyH.cons rfl (fun K hK => ?_) AllReadyH.nil
          rw [if_pos (by kernel_rfl)]
          refine wp_store_blk 26 (.tmp 6) (.tmp 31) rfl _ 26 _ #[.slice none 0 0, .slice A24 EL.length c24, .slice A30 BL.length c30, .slice none 0 0] rfl rfl G HI.out rfl (by simp [Value.oneCell']) ?_
          intro V hblk hg
          have C1 := C1.kept hg (own_blk C1 G (by decide))
          have C2 := C2.kept hg (own_blk C2 G (by decide))
          have k := k.trans (grown_below hg k.size (fun j hj => by cases hj; exact hge))
          clear hg G
          refine hK.out _ _ (by first | exact HS.out _ k) (fun hHeld => ?_)
          clear hK K
          refine wpAnyH_done (by kernel_rfl) ?_ _
          refine Nrm.out (hKK _ _ ?_)
          exact EF.out V g a23 a29 A24 c24 A30 c30 ⟨k, hge, hblk, C1, C2⟩
      · go_simp
        have hb' := then_alloc k (.cells #[.slice A3 n3 c3, .slice B3 m3 d3] 23)
        have R2 := RdL.two HLA.out.2.2.1 HLB.out.2.2.1 (RA3.out _ k) (RB3.out _ k) 23
        try (have R1 := R1.go hb')
        try (have C1 := own_below C1 hb' (Nat.le_refl _))
        try (have G := G.go hb')
        have k := below_then k (Nat.le_refl _) hb'
        clear hb'
        refine hK.out _ _ (by first | exact HS.out _ k) (fun hHeld => ?_)
        clear hK K
        generalize V.heap.size = a29 at *
        generalize V.alloc (.cells #[.slice A3 n3 c3, .slice B3 m3 d3] 23) = V at *
        refine wpAnyH_ready (rs := [5, 13]) (by kernel_rfl) (by simp) ?_
        refine AllReadyH.cons rfl (fun K hK => ?_) (AllReadyH.cons rfl (fun K hK => ?_) AllReadyH.nil)
        · go_simp
          refine (GJ.out _ k _ R1).mono ?_
          rintro e V ⟨A24, c24, rfl, ho, hb'⟩
          have C1 := own_less ho k.size
          try (have R2 := R2.go hb')
          try (have G := G.go hb')
          have k := below_then k (Nat.le_refl _) hb'
          clear ho hb' R1
          refine hK.out _ _ (by first | exact HS.out _ k) (fun hHeld => ?_)
          clear hK K
          refine wpAnyH_ready (rs := [11, 13]) (by kernel_rfl) (by simp) ?_
          refine AllReadyH.cons rfl (fun K hK => ?_) (AllReadyH.cons rfl (fun K hK => ?_) AllReadyH.nil)
          · go_simp
            refine (GS.out _ _ R2).mono ?_
            rintro e V ⟨A30, c30, rfl, ho, hb'⟩
            have C2 := own_less ho k.size
            try (have C1 := own_below C1 hb' (Nat.le_refl _))
            try (have G := G.go hb')
            have k := below_then k (Nat.le_refl _) hb'
            clear ho hb' R2
            refine hK.out _ _ (by first | exact HS.out _ k) (fun hHeld => ?_)
            clear hK K
            refine wpAnyH_putD (i := 12) (d := 31) (v := ?_) rfl rfl (by kernel_rfl) (by kernel_rfl) (by kernel_rfl) (fun _ _ _ h => h) (Or.inl ⟨by kernel_rfl, ?_⟩) (by first | exact HS.out _ k) ?_
            rotate_left
            · (intro w hS; (try dsimp only at hS); go_simp <;> with_reducible rfl)
            try simp only [List.setIfInBounds_toArray, List.set_cons_zero, List.set_cons_succ]
            refine wpAnyH_ready (rs := [13]) (by kernel_rfl) (by simp) ?_
            refine AllReadyH.cons rfl (fun K hK => ?_) AllReadyH.nil
            go_simp
            have hb' := then_alloc k (.cells #[.slice none 0 0, .slice none 0 0, .slice none 0 0, .slice none 0 0] 26)
            have hge := k.size
            try (have R1 := R1.go hb')
            try (have R2 := R2.go hb')
            try (have C1 := own_below C1 hb' (Nat.le_refl _))
            try (have C2 := own_below C2 hb' (Nat.le_refl _))
            have G := blkOfN hb'
            have k := below_then k (Nat.le_refl _) hb'
            clear hb'
            refine hK.out _ _ (by first | exact HS.out _ k) (fun hHeld => ?_)
            clear hK K
            generalize V.heap.size = g at *
            generalize V.alloc (.cells #[.slice none 0 0, .slice none 0 0, .slice none 0 0, .slice none 0 0] 26) = V at *
            refine wpAnyH_ready (rs := [14]) (by kernel_rfl) (by simp) ?_
            refine AllReadyH.cons rfl (fun K hK => ?_) AllReadyH.nil
            rw [if_pos (by kernel_rfl)]
            refine wp_store_blk 26 (.tmp 6) (.tmp 31) rfl _ 26 _ #[.slice none 0 0, .slice A24 EL.length c24, .slice A30 BL.length c30, .slice none 0 0] rfl rfl G HI.out rfl (by simp [Value.oneCell']) ?_
            intro V hblk hg
            have C1 := C1.kept hg (own_blk C1 G (by decide))
            have C2 := C2.kept hg (own_blk C2 G (by decide))
            have k := k.trans (grown_below hg k.size (fun j hj => by cases hj; exact hge))
            clear hg G
            refine hK.out _ _ (by first | exact HS.out _ k) (fun hHeld => ?_)
            clear hK K
            refine wpAnyH_done (by kernel_rfl) ?_ _
            refine Nrm.out (hKK _ _ ?_)
            exact EF.out V g a23 a29 A24 c24 A30 c30 ⟨k, hge, hblk, C1, C2⟩
          · go_simp
            have hb' := then_alloc k (.cells #[.slice none 0 0, .slice none 0 0, .slice none 0 0, .slice none 0 0] 26)
            have hge := k.size
            try (have R1 := R1.go hb')
            try (have R2 := R2.go hb')
            try (have C1 := own_below C1 hb' (Nat.le_refl _))
            try (have C2 := own_below C2 hb' (Nat.le_refl _))
            have G := blkOfN hb'
            have k := below_then k (Nat.le_refl _) hb'
            clear hb'
            refine hK.out _ _ (by first | exact HS.out _ k) (fun hHeld => ?_)
            clear hK K
            generalize V.heap.size = g at *
            generalize V.alloc (.cells #[.slice none 0 0, .slice none 0 0, .slice none 0 0, .slice none 0 0] 26) = V at *
            refine wpAnyH_ready (rs := [11]) (by kernel_rfl) (by simp) ?_
            refine AllReadyH.cons rfl (fun K hK => ?_) AllReadyH.nil
            go_simp
            refine (GS.out _ _ R2).mono ?_
            rintro e V ⟨A30, c30, rfl, ho, hb'⟩
            have C2 := own_less ho k.size
            try (have C1 := own_below C1 hb' (Nat.le_refl _))
            try (have G := G.go hb')
            have k := below_then k (Nat.le_refl _) hb'
            clear ho hb' R2
            refine hK.out _ _ (by first | exact HS.out _ k) (fun hHeld => ?_)
            clear hK K
            refine wpAnyH_putD (i := 12) (d := 31) (v := ?_) rfl rfl (by kernel_rfl) (by kernel_rfl) (by kernel_rfl) (fun _ _ _ h => h) (Or.inl ⟨by kernel_rfl, ?_⟩) (by first | exact HS.out _ k) ?_
            rotate_left
            · (intro w hS; (try dsimp only at hS); go_simp <;> with_reducible rfl)
            try simp only [List.setIfInBounds_toArray, List.set_cons_zero, List.set_cons_succ]
            refine wpAnyH_ready (rs := [14]) (by kernel_rfl) (by simp) ?_
            refine AllReadyH.cons rfl (fun K hK => ?_) AllReadyH.nil
            rw [if_pos (by kernel_rfl)]
            refine wp_store_blk 26 (.tmp 6) (.tmp 31) rfl _ 26 _ #[.slice none 0 0, .slice A24 EL.length c24, .slice A30 BL.length c30, .slice none 0 0] rfl rfl G HI.out rfl (by simp [Value.oneCell']) ?_
            intro V hblk hg
            have C1 := C1.kept hg (own_blk C1 G (by decide))
            have C2 := C2.kept hg (own_blk C2 G (by decide))
            have k := k.trans (grown_below hg k.size (fun j hj => by cases hj; exact hge))
            clear hg G
            refine hK.out _ _ (by first | exact HS.out _ k) (fun hHeld => ?_)
            clear hK K
            refine wpAnyH_done (by kernel_rfl) ?_ _
            refine Nrm.out (hKK _ _ ?_)
            exact EF.out V g a23 a29 A24 c24 A30 c30 ⟨k, hge, hblk, C1, C2⟩
        · go_simp
          have hb' := then_alloc k (.cells #[.slice none 0 0, .slice none 0 0, .slice none 0 0, .slice none 0 0] 26)
          have hge := k.size
          try (have R1 := R1.go hb')
          try (have R2 := R2.go hb')
          try (have C1 := own_below C1 hb' (Nat.le_refl _))
          try (have C2 := own_below C2 hb' (Nat.le_refl _))
          have G := blkOfN hb'
          have k := below_then k (Nat.le_refl _) hb'
          clear hb'
          refine hK.out _ _ (by first | exact HS.out _ k) (fun hHeld => ?_)
          clear hK K
          generalize V.heap.size = g at *
          generalize V.alloc (.cells #[.slice none 0 0, .slice none 0 0, .slice none 0 0, .slice none 0 0] 26) = V at *
          refine wpAnyH_ready (rs := [5]) (by kernel_rfl) (by simp) ?_
          refine AllReadyH.cons rfl (fun K hK => ?_) AllReadyH.nil
          go_simp
          refine (GJ.out _ k _ R1).mono ?_
          rintro e V ⟨A24, c24, rfl, ho, hb'⟩
          have C1 := own_less ho k.size
          try (have R2 := R2.go hb')
          try (have G := G.go hb')
          have k := below_then k (Nat.le_refl _) hb'
          clear ho hb' R1
          refine hK.out _ _ (by first | exact HS.out _ k) (fun hHeld => ?_)
          clear hK K
          refine wpAnyH_ready (rs := [11]) (by kernel_rfl) (by simp) ?_
          refine AllReadyH.cons rfl (fun K hK => ?_) AllReadyH.nil
          go_simp
          refine (GS.out _ _ R2).mono ?_
          rintro e V ⟨A30, c30, rfl, ho, hb'⟩
          have C2 := own_less ho k.size
          try (have C1 := own_below C1 hb' (Nat.le_refl _))
          try (have G := G.go hb')
          have k := below_then k (Nat.le_refl _) hb'
          clear ho hb' R2
          refine hK.out _ _ (by first | exact HS.out _ k) (fun hHeld => ?_)
          clear hK K
          refine wpAnyH_putD (i := 12) (d := 31) (v := ?_) rfl rfl (by kernel_rfl) (by kernel_rfl) (by kernel_rfl) (fun _ _ _ h => h) (Or.inl ⟨by kernel_rfl, ?_⟩) (by first | exact HS.out _ k) ?_
          rotate_left
          · (intro w hS; (try dsimp only at hS); go_simp <;> with_reducible rfl)
          try simp only [List.setIfInBounds_toArray, List.set_cons_zero, List.set_cons_succ]
          refine wpAnyH_ready (rs := [14]) (by kernel_rfl) (by simp) ?_
          refine AllReadyH.cons rfl (fun K hK => ?_) AllReadyH.nil
          rw [if_pos (by kernel_rfl)]
          refine wp_store_blk 26 (.tmp 6) (.tmp 31) rfl _ 26 _ #[.slice none 0 0, .slice A24 EL.length c24, .slice A30 BL.length c30, .slice none 0 0] rfl rfl G HI.out rfl (by simp [Value.oneCell']) ?_
          intro V hblk hg
          have C1 := C1.kept hg (own_blk C1 G (by decide))
          have C2 := C2.kept hg (own_blk C2 G (by decide))
          have k := k.trans (grown_below hg k.size (fun j hj => by cases hj; exact hge))
          clear hg G
          refine hK.out _ _ (by first | exact HS.out _ k) (fun hHeld => ?_)
          clear hK K
          refine wpAnyH_done (by kernel_rfl) ?_ _
          refine Nrm.out (hKK _ _ ?_)
          exact EF.out V g a23 a29 A24 c24 A30 c30 ⟨k, hge, hblk, C1, C2⟩
      · go_simp
        have hb' := then_alloc k (.cells #[.slice none 0 0, .slice none 0 0, .slice none 0 0, .slice none 0 0] 26)
        have hge := k.size
        try (have R1 := R1.go hb')
        try (have R2 := R2.go hb')
        try (have C1 := own_below C1 hb' (Nat.le_refl _))
        try (have C2 := own_below C2 hb' (Nat.le_refl _))
        have G := blkOfN hb'
        have k := below_then k (Nat.le_refl _) hb'
        clear hb'
        refine hK.out _ _ (by first | exact HS.out _ k) (fun hHeld => ?_)
        clear hK K
        generalize V.heap.size = g at *
        generalize V.alloc (.cells #[.slice none 0 0, .slice none 0 0, .slice none 0 0, .slice none 0 0] 26) = V at *
        refine wpAnyH_ready (rs := [5, 10]) (by kernel_rfl) (by simp) ?_
        refine AllReadyH.cons rfl (fun K hK => ?_) (AllReadyH.cons rfl (fun K hK => ?_) AllReadyH.nil)
        · go_simp
          refine (GJ.out _ k _ R1).mono ?_
          rintro e V ⟨A24, c24, rfl, ho, hb'⟩
          have C1 := own_less ho k.size
          try (have R2 := R2.go hb')
          try (have G := G.go hb')
          have k := below_then k (Nat.le_refl _) hb'
          clear ho hb' R1
          refine hK.out _ _ (by first | exact HS.out _ k) (fun hHeld => ?_)
          clear hK K
          refine wpAnyH_ready (rs := [10]) (by kernel_rfl) (by simp) ?_
          refine AllReadyH.cons rfl (fun K hK => ?_) AllReadyH.nil
          go_simp
          have hb' := then_alloc k (.cells #[.slice A3 n3 c3, .slice B3 m3 d3] 23)
          have R2 := RdL.two HLA.out.2.2.1 HLB.out.2.2.1 (RA3.out _ k) (RB3.out _ k) 23
          try (have R1 := R1.go hb')
          try (have C1 := own_below C1 hb' (Nat.le_refl _))
          try (have G := G.go hb')
          have k := below_then k (Nat.le_refl _) hb'
          clear hb'
          refine hK.out _ _ (by first | exact HS.out _ k) (fun hHeld => ?_)
          clear hK K
          generalize V.heap.size = a29 at *
          generalize V.alloc (.cells #[.slice A3 n3 c3, .slice B3 m3 d3] 23) = V at *
          refine wpAnyH_ready (rs := [11]) (by kernel_rfl) (by simp) ?_
          refine AllReadyH.cons rfl (fun K hK => ?_) AllReadyH.nil
          go_simp
          refine (GS.out _ _ R2).mono ?_
          rintro e V ⟨A30, c30, rfl, ho, hb'⟩
          have C2 := own_less ho k.size
          try (have C1 := own_below C1 hb' (Nat.le_refl _))
          try (have G := G.go hb')
          have k := below_then k (Nat.le_refl _) hb'
          clear ho hb' R2
          refine hK.out _ _ (by first | exact HS.out _ k) (fun hHeld => ?_)
          clear hK K
          refine wpAnyH_putD (i := 12) (d := 31) (v := ?_) rfl rfl (by kernel_rfl) (by kernel_rfl) (by kernel_rfl) (fun _ _ _ h => h) (Or.inl ⟨by kernel_rfl, ?_⟩) (by first | exact HS.out _ k) ?_
          rotate_left
          · (intro w hS; (try dsimp only at hS); go_simp <;> with_reducible rfl)
          try simp only [List.setIfInBounds_toArray, List.set_cons_zero, List.set_cons_succ]
          refine wpAnyH_ready (rs := [14]) (by kernel_rfl) (by simp) ?_
          refine AllReadyH.cons rfl (fun K hK => ?_) AllReadyH.nil
          rw [if_pos (by kernel_rfl)]
          refine wp_store_blk 26 (.tmp 6) (.tmp 31) rfl _ 26 _ #[.slice none 0 0, .slice A24 EL.length c24, .slice A30 BL.length c30, .slice none 0 0] rfl rfl G HI.out rfl (by simp [Value.oneCell']) ?_
          intro V hblk hg
          have C1 := C1.kept hg (own_blk C1 G (by decide))
          have C2 := C2.kept hg (own_blk C2 G (by decide))
          have k := k.trans (grown_below hg k.size (fun j hj => by cases hj; exact hge))
          clear hg G
          refine hK.out _ _ (by first | exact HS.out _ k) (fun hHeld => ?_)
          clear hK K
          refine wpAnyH_done (by kernel_rfl) ?_ _
          refine Nrm.out (hKK _ _ ?_)
          exact EF.out V g a23 a29 A24 c24 A30 c30 ⟨k, hge, hblk, C1, C2⟩
        · go_simp
          have hb' := then_alloc k (.cells #[.slice A3 n3 c3, .slice B3 m3 d3] 23)
          have R2 := RdL.two HLA.out.2.2.1 HLB.out.2.2.1 (RA3.out _ k) (RB3.out _ k) 23
          try (have R1 := R1.go hb')
          try (have C1 := own_below C1 hb' (Nat.le_refl _))
          try (have G := G.go hb')
          have k := below_then k (Nat.le_refl _) hb'
          clear hb'
          refine hK.out _ _ (by first | exact HS.out _ k) (fun hHeld => ?_)
          clear hK K
          generalize V.heap.size = a29 at *
          generalize V.alloc (.cells #[.slice A3 n3 c3, .slice B3 m3 d3] 23) = V at *
          refine wpAnyH_ready (rs := [5]) (by kernel_rfl) (by simp) ?_
          refine AllReadyH.cons rfl (fun K hK => ?_) AllReadyH.nil
          go_simp
          refine (GJ.out _ k _ R1).mono ?_
          rintro e V ⟨A24, c24, rfl, ho, hb'⟩
          have C1 := own_less ho k.size
          try (have R2 := R2.go hb')
          try (have G := G.go hb')
          have k := below_then k (Nat.le_refl _) hb'
          clear ho hb' R1
          refine hK.out _ _ (by first | exact HS.out _ k) (fun hHeld => ?_)
          clear hK K
          refine wpAnyH_ready (rs := [11]) (by kernel_rfl) (by simp) ?_
          refine AllReadyH.cons rfl (fun K hK => ?_) AllReadyH.nil
          go_simp
          refine (GS.out _ _ R2).mono ?_
          rintro e V ⟨A30, c30, rfl, ho, hb'⟩
          have C2 := own_less ho k.size
          try (have C1 := own_below C1 hb' (Nat.le_refl _))
          try (have G := G.go hb')
          have k := below_then k (Nat.le_refl _) hb'
          clear ho hb' R2
          refine hK.out _ _ (by first | exact HS.out _ k) (fun hHeld => ?_)
          clear hK K
          refine wpAnyH_putD (i := 12) (d := 31) (v := ?_) rfl rfl (by kernel_rfl) (by kernel_rfl) (by kernel_rfl) (fun _ _ _ h => h) (Or.inl ⟨by kernel_rfl, ?_⟩) (by first | exact HS.out _ k) ?_
          rotate_left
          · (intro w hS; (try dsimp only at hS); go_simp <;> with_reducible rfl)
          try simp only [List.setIfInBounds_toArray, List.set_cons_zero, List.set_cons_succ]
          refine wpAnyH_ready (rs := [14]) (by kernel_rfl) (by simp) ?_
          refine AllReadyH.cons rfl (fun K hK => ?_) AllReadyH.nil
          rw [if_pos (by kernel_rfl)]
          refine wp_store_blk 26 (.tmp 6) (.tmp 31) rfl _ 26 _ #[.slice none 0 0, .slice A24 EL.length c24, .slice A30 BL.length c30, .slice none 0 0] rfl rfl G HI.out rfl (by simp [Value.oneCell']) ?_
          intro V hblk hg
          have C1 := C1.kept hg (own_blk C1 G (by decide))
          have C2 := C2.kept hg (own_blk C2 G (by decide))
          have k := k.trans (grown_below hg k.size (fun j hj => by cases hj; exact hge))
          clear hg G
          refine hK.out _ _ (by first | exact HS.out _ k) (fun hHeld => ?_)
          clear hK K
          refine wpAnyH_done (by kernel_rfl) ?_ _
          refine Nrm.out (hKK _ _ ?_)
          exact EF.out V g a23 a29 A24 c24 A30 c30 ⟨k, hge, hblk, C1, C2⟩
    · go_simp
      have hb' := then_alloc k (.cells #[.slice A3 n3 c3, .slice B3 m3 d3] 23)
      have R2 := RdL.two HLA.out.2.2.1 HLB.out.2.2.1 (RA3.out _ k) (RB3.out _ k) 23
      try (have R1 := R1.go hb')
      try (have C1 := own_below C1 hb' (Nat.le_refl _))
      try (have G := G.go hb')
      have k := below_then k (Nat.le_refl _) hb'
      clear hb'
      refine hK.out _ _ (by first | exact HS.out _ k) (fun hHeld => ?_)
      clear hK K
      generalize V.heap.size = a29 at *
      generalize V.alloc (.cells #[.slice A3 n3 c3, .slice B3 m3 d3] 23) = V at *
      refine wpAnyH_ready (rs := [4, 13]) (by kernel_rfl) (by simp) ?_
      refine AllReadyH.cons rfl (fun K hK => ?_) (AllReadyH.cons rfl (fun K hK => ?_) AllReadyH.nil)
      · go_simp
        have hb' := then_alloc k (.cells #[.slice A2 n2 c2, .slice B2 m2 d2] 22)
        have R1 := RdL.two HLA.out.2.1 HLB.out.2.1 (RA2.out _ k) (RB2.out _ k) 22
        try (have R2 := R2.go hb')
        try (have G := G.go hb')
        have k := below_then k (Nat.le_refl _) hb'
        clear hb'
        refine hK.out _ _ (by first | exact HS.out _ k) (fun hHeld => ?_)
        clear hK K
        generalize V.heap.size = a23 at *
        generalize V.alloc (.cells #[.slice A2 n2 c2, .slice B2 m2 d2] 22) = V at *
        refine wpAnyH_ready (rs := [5, 13]) (by kernel_rfl) (by simp) ?_
        refine AllReadyH.cons rfl (fun K hK => ?_) (AllReadyH.cons rfl (fun K hK => ?_) AllReadyH.nil)
        · go_simp
          refine (GJ.out _ k _ R1).mono ?_
          rintro e V ⟨A24, c24, rfl, ho, hb'⟩
          have C1 := own_less ho k.size
          try (have R2 := R2.go hb')
          try (have G := G.go hb')
          have k := below_then k (Nat.le_refl _) hb'
          clear ho hb' R1
          refine hK.out _ _ (by first | exact HS.out _ k) (fun hHeld => ?_)
          clear hK K
          refine wpAnyH_ready (rs := [11, 13]) (by kernel_rfl) (by simp) ?_
          refine AllReadyH.cons rfl (fun K hK => ?_) (AllReadyH.cons rfl (fun K hK => ?_) AllReadyH.nil)
          · go_simp
            refine (GS.out _ _ R2).mono ?_
            rintro e V ⟨A30, c30, rfl, ho, hb'⟩
            have C2 := own_less ho k.size
            try (have C1 := own_below C1 hb' (Nat.le_refl _))
            try (have G := G.go hb')
            have k := below_then k (Nat.le_refl _) hb'
            clear ho hb' R2
            refine hK.out _ _ (by first | exact HS.out _ k) (fun hHeld => ?_)
            clear hK K
            refine wpAnyH_putD (i := 12) (d := 31) (v := ?_) rfl rfl (by kernel_rfl) (by kernel_rfl) (by kernel_rfl) (fun _ _ _ h => h) (Or.inl ⟨by kernel_rfl, ?_⟩) (by first | exact HS.out _ k) ?_
            rotate_left
            · (intro w hS; (try dsimp only at hS); go_simp <;> with_reducible rfl)
            try simp only [List.setIfInBounds_toArray, List.set_cons_zero, List.set_cons_succ]
            refine wpAnyH_ready (rs := [13]) (by kernel_rfl) (by simp) ?_
            refine AllReadyH.cons rfl (fun K hK => ?_) AllReadyH.nil
            go_simp
            have hb' := then_alloc k (.cells #[.slice none 0 0, .slice none 0 0, .slice none 0 0, .slice none 0 0] 26)
            have hge := k.size
            try (have R1 := R1.go hb')
            try (have R2 := R2.go hb')
            try (have C1 := own_below C1 hb' (Nat.le_refl _))
            try (have C2 := own_below C2 hb' (Nat.le_refl _))
            have G := blkOfN hb'
            have k := below_then k (Nat.le_refl _) hb'
            clear hb'
            refine hK.out _ _ (by first | exact HS.out _ k) (fun hHeld => ?_)
            clear hK K
            generalize V.heap.size = g at *
            generalize V.alloc (.cells #[.slice none 0 0, .slice none 0 0, .slice none 0 0, .slice none 0 0] 26) = V at *
            refine wpAnyH_ready (rs := [14]) (by kernel_rfl) (by simp) ?_
            refine AllReadyH.cons rfl (fun K hK => ?_) AllReadyH.nil
            rw [if_pos (by kernel_rfl)]
            refine wp_store_blk 26 (.tmp 6) (.tmp 31) rfl _ 26 _ #[.slice none 0 0, .slice A24 EL.length c24, .slice A30 BL.length c30, .slice none 0 0] rfl rfl G HI.out rfl (by simp [Value.oneCell']) ?_
            intro V hblk hg
            have C1 := C1.kept hg (own_blk C1 G (by decide))
            have C2 := C2.kept hg (own_blk C2 G (by decide))
            have k := k.trans (grown_below hg k.size (fun j hj => by cases hj; exact hge))
            clear hg G
            refine hK.out _ _ (by first | exact HS.out _ k) (fun hHeld => ?_)
            clear hK K
            refine wpAnyH_done (by kernel_rfl) ?_ _
            refine Nrm.out (hKK _ _ ?_)
            exact EF.out V g a23 a29 A24 c24 A30 c30 ⟨k, hge, hblk, C1, C2⟩
          · go_simp
            have hb' := then_alloc k (.cells #[.slice none 0 0, .slice none 0 0, .slice none 0 0, .slice none 0 0] 26)
            have hge := k.size
            try (have R1 := R1.go hb')
            try (have R2 := R2.go hb')
            try (have C1 := own_below C1 hb' (Nat.le_refl _))
            try (have C2 := own_below C2 hb' (Nat.le_refl _))
            have G := blkOfN hb'
            have k := below_then k (Nat.le_refl _) hb'
            clear hb'
            refine hK.out _ _ (by first | exact HS.out _ k) (fun hHeld => ?_)
            clear hK K
            generalize V.heap.size = g at *
            generalize V.alloc (.cells #[.slice none 0 0, .slice none 0 0, .slice none 0 0, .slice none 0 0] 26) = V at *
            refine wpAnyH_ready (rs := [11]) (by kernel_rfl) (by simp) ?_
            refine AllReadyH.cons rfl (fun K hK => ?_) AllReadyH.nil
            go_simp
            refine (GS.out _ _ R2).mono ?_
            rintro e V ⟨A30, c30, rfl, ho, hb'⟩
            have C2 := own_less ho k.size
            try (have C1 := own_below C1 hb' (Nat.le_refl _))
            try (have G := G.go hb')
            have k := below_then k (Nat.le_refl _) hb'
            clear ho hb' R2
            refine hK.out _ _ (by first | exact HS.out _ k) (fun hHeld => ?_)
            clear hK K
            refine wpAnyH_putD (i := 12) (d := 31) (v := ?_) rfl rfl (by kernel_rfl) (by kernel_rfl) (by kernel_rfl) (fun _ _ _ h => h) (Or.inl ⟨by kernel_rfl, ?_⟩) (by first | exact HS.out _ k) ?_
            rotate_left
            · (intro w hS; (try dsimp only at hS); go_simp <;> with_reducible rfl)
            try simp only [List.setIfInBounds_toArray, List.set_cons_zero, List.set_cons_succ]
            refine wpAnyH_ready (rs := [14]) (by kernel_rfl) (by simp) ?_
            refine AllReadyH.cons rfl (fun K hK => ?_) AllReadyH.nil
            rw [if_pos (by kernel_rfl)]
            refine wp_store_blk 26 (.tmp 6) (.tmp 31) rfl _ 26 _ #[.slice none 0 0, .slice A24 EL.length c24, .slice A30 BL.length c30, .slice none 0 0] rfl rfl G HI.out rfl (by simp [Value.oneCell']) ?_
            intro V hblk hg
            have C1 := C1.kept hg (own_blk C1 G (by decide))
            have C2 := C2.kept hg (own_blk C2 G (by decide))
            have k := k.trans (grown_below hg k.size (fun j hj => by cases hj; exact hge))
            clear hg G
            refine hK.out _ _ (by first | exact HS.out _ k) (fun hHeld => ?_)
            clear hK K
            refine wpAnyH_done (by kernel_rfl) ?_ _
            refine Nrm.out (hKK _ _ ?_)
            exact EF.out V g a23 a29 A24 c24 A30 c30 ⟨k, hge, hblk, C1, C2⟩
        · go_simp
          have hb' := then_alloc k (.cells #[.slice none 0 0, .slice none 0 0, .slice none 0 0, .slice none 0 0] 26)
          have hge := k.size
          try (have R1 := R1.go hb')
          try (have R2 := R2.go hb')
          try (have C1 := own_below C1 hb' (Nat.le_refl _))
          try (have C2 := own_below C2 hb' (Nat.le_refl _))
          have G := blkOfN hb'
          have k := below_then k (Nat.le_refl _) hb'
          clear hb'
          refine hK.out _ _ (by first | exact HS.out _ k) (fun hHeld => ?_)
          clear hK K
          generalize V.heap.size = g at *
          generalize V.alloc (.cells #[.slice none 0 0, .slice none 0 0, .slice none 0 0, .slice none 0 0] 26) = V at *
          refine wpAnyH_ready (rs := [5]) (by kernel_rfl) (by simp) ?_
          refine AllReadyH.cons rfl (fun K hK => ?_) AllReadyH.nil
          go_simp
          refine (GJ.out _ k _ R1).mono ?_
          rintro e V ⟨A24, c24, rfl, ho, hb'⟩
          have C1 := own_less ho k.size
          try (have R2 := R2.go hb')
          try (have G := G.go hb')
          have k := below_then k (Nat.le_refl _) hb'
          clear ho hb' R1
          refine hK.out _ _ (by first | exact HS.out _ k) (fun hHeld => ?_)
          clear hK K
          refine wpAnyH_ready (rs := [11]) (by kernel_rfl) (by simp) ?_
          refine AllReadyH.cons rfl (fun K hK => ?_) AllReadyH.nil
          go_simp
          refine (GS.out _ _ R2).mono ?_
          rintro e V ⟨A30, c30, rfl, ho, hb'⟩
          have C2 := own_less ho k.size
          try (have C1 := own_below C1 hb' (Nat.le_refl _))
          try (have G := G.go hb')
          have k := below_then k (Nat.le_refl _) hb'
          clear ho hb' R2
          refine hK.out _ _ (by first | exact HS.out _ k) (fun hHeld => ?_)
          clear hK K
          refine wpAnyH_putD (i := 12) (d := 31) (v := ?_) rfl rfl (by kernel_rfl) (by kernel_rfl) (by kernel_rfl) (fun _ _ _ h => h) (Or.inl ⟨by kernel_rfl, ?_⟩) (by first | exact HS.out _ k) ?_
          rotate_left
          · (intro w hS; (try dsimp only at hS); go_simp <;> with_reducible rfl)
          try simp only [List.setIfInBounds_toArray, List.set_cons_zero, List.set_cons_succ]
          refine wpAnyH_ready (rs := [14]) (by kernel_rfl) (by simp) ?_
          refine AllReadyH.cons rfl (fun K hK => ?_) AllReadyH.nil
          rw [if_pos (by kernel_rfl)]
          refine wp_store_blk 26 (.tmp 6) (.tmp 31) rfl _ 26 _ #[.slice none 0 0, .slice A24 EL.length c24, .slice A30 BL.length c30, .slice none 0 0] rfl rfl G HI.out rfl (by simp [Value.oneCell']) ?_
          intro V hblk hg
          have C1 := C1.kept hg (own_blk C1 G (by decide))
          have C2 := C2.kept hg (own_blk C2 G (by decide))
          have k := k.trans (grown_below hg k.size (fun j hj => by cases hj; exact hge))
          clear hg G
          refine hK.out _ _ (by first | exact HS.out _ k) (fun hHeld => ?_)
          clear hK K
          refine wpAnyH_done (by kernel_rfl) ?_ _
          refine Nrm.out (hKK _ _ ?_)
          exact EF.out V g a23 a29 A24 c24 A30 c30 ⟨k, hge, hblk, C1, C2⟩
      · go_simp
        have hb' := then_alloc k (.cells #[.slice none 0 0, .slice none 0 0, .slice none 0 0, .slice none 0 0] 26)
        have hge := k.size
        try (have R1 := R1.go hb')
        try (have R2 := R2.go hb')
        try (have C1 := own_below C1 hb' (Nat.le_refl _))
        try (have C2 := own_below C2 hb' (Nat.le_refl _))
        have G := blkOfN hb'
        have k := below_then k (Nat.le_refl _) hb'
        clear hb'
        refine hK.out _ _ (by first | exact HS.out _ k) (fun hHeld => ?_)
        clear hK K
        generalize V.heap.size = g at *
        generalize V.alloc (.cells #[.slice none 0 0, .slice none 0 0, .slice none 0 0, .slice none 0 0] 26) = V at *
        refine wpAnyH_ready (rs := [4]) (by kernel_rfl) (by simp) ?_
        refine AllReadyH.cons rfl (fun K hK => ?_) AllReadyH.nil
        go_simp
        have hb' := then_alloc k (.cells #[.slice A2 n2 c2, .slice B2 m2 d2] 22)
        have R1 := RdL.two HLA.out.2.1 HLB.out.2.1 (RA2.out _ k) (RB2.out _ k) 22
        try (have R2 := R2.go hb')
        try (have G := G.go hb')
        have k := below_then k (Nat.le_refl _) hb'
        clear hb'
        refine hK.out _ _ (by first | exact HS.out _ k) (fun hHeld => ?_)
        clear hK K
        generalize V.heap.size = a23 at *
        generalize V.alloc (.cells #[.slice A2 n2 c2, .slice B2 m2 d2] 22) = V at *
        refine wpAnyH_ready (rs := [5]) (by kernel_rfl) (by simp) ?_
        refine AllReadyH.cons rfl (fun K hK => ?_) AllReadyH.nil
        go_simp
        refine (GJ.out _ k _ R1).mono ?_
        rintro e V ⟨A24, c24, rfl, ho, hb'⟩
        have C1 := own_less ho k.size
        try (have R2 := R2.go hb')
        try (have G := G.go hb')
        have k := below_then k (Nat.le_refl _) hb'
        clear ho hb' R1
        refine hK.out _ _ (by first | exact HS.out _ k) (fun hHeld => ?_)
        clear hK K
        refine wpAnyH_ready (rs := [11]) (by kernel_rfl) (by simp) ?_
        refine AllReadyH.cons rfl (fun K hK => ?_) AllReadyH.nil
        go_simp
        refine (GS.out _ _ R2).mono ?_
        rintro e V ⟨A30, c30, rfl, ho, hb'⟩
        have C2 := own_less ho k.size
        try (have C1 := own_below C1 hb' (Nat.le_refl _))
        try (have G := G.go hb')
        have k := below_then k (Nat.le_refl _) hb'
        clear ho hb' R2
        refine hK.out _ _ (by first | exact HS.out _ k) (fun hHeld => ?_)
        clear hK K
        refine wpAnyH_putD (i := 12) (d := 31) (v := ?_) rfl rfl (by kernel_rfl) (by kernel_rfl) (by kernel_rfl) (fun _ _ _ h => h) (Or.inl ⟨by kernel_rfl, ?_⟩) (by first | exact HS.out _ k) ?_
        rotate_left
        · (intro w hS; (try dsimp only at hS); go_simp <;> with_reducible rfl)
        try simp only [List.setIfInBounds_toArray, List.set_cons_zero, List.set_cons_succ]
        refine wpAnyH_ready (rs := [14]) (by kernel_rfl) (by simp) ?_
        refine AllReadyH.cons rfl (fun K hK => ?_) AllReadyH.nil
        rw [if_pos (by kernel_rfl)]
        refine wp_store_blk 26 (.tmp 6) (.tmp 31) rfl _ 26 _ #[.slice none 0 0, .slice A24 EL.length c24, .slice A30 BL.length c30, .slice none 0 0] rfl rfl G HI.out rfl (by simp [Value.oneCell']) ?_
        intro V hblk hg
        have C1 := C1.kept hg (own_blk C1 G (by decide))
        have C2 := C2.kept hg (own_blk C2 G (by decide))
        have k := k.trans (grown_below hg k.size (fun j hj => by cases hj; exact hge))
        clear hg G
        refine hK.out _ _ (by first | exact HS.out _ k) (fun hHeld => ?_)
        clear hK K
        refine wpAnyH_done (by kernel_rfl) ?_ _
        refine Nrm.out (hKK _ _ ?_)
        exact EF.out V g a23 a29 A24 c24 A30 c30 ⟨k, hge, hblk, C1, C2⟩
    · go_simp
      have hb' := then_alloc k (.cells #[.slice none 0 0, .slice none 0 0, .slice none 0 0, .slice none 0 0] 26)
      have hge := k.size
      try (have R1 := R1.go hb')
      try (have R2 := R2.go hb')
      try (have C1 := own_below C1 hb' (Nat.le_refl _))
      try (have C2 := own_below C2 hb' (Nat.le_refl _))
      have G := blkOfN hb'
      have k := below_then k (Nat.le_refl _) hb'
      clear hb'
      refine hK.out _ _ (by first | exact HS.out _ k) (fun hHeld => ?_)
      clear hK K
      generalize V.heap.size = g at *
      generalize V.alloc (.cells #[.slice none 0 0, .slice none 0 0, .slice none 0 0, .slice none 0 0] 26) = V at *
      refine wpAnyH_ready (rs := [4, 10]) (by kernel_rfl) (by simp) ?_
      refine AllReadyH.cons rfl (fun K hK => ?_) (AllReadyH.cons rfl (fun K hK => ?_) AllReadyH.nil)
      · go_simp
        have hb' := then_alloc k (.cells #[.slice A2 n2 c2, .slice B2 m2 d2] 22)
        have R1 := RdL.two HLA.out.2.1 HLB.out.2.1 (RA2.out _ k) (RB2.out _ k) 22
        try (have R2 := R2.go hb')
        try (have G := G.go hb')
        have k := below_then k (Nat.le_refl _) hb'
        clear hb'
        refine hK.out _ _ (by first | exact HS.out _ k) (fun hHeld => ?_)
        clear hK K
        generalize V.heap.size = a23 at *
        generalize V.alloc (.cells #[.slice A2 n2 c2, .slice B2 m2 d2] 22) = V at *
        refine wpAnyH_ready (rs := [5, 10]) (by kernel_rfl) (by simp) ?_
        refine AllReadyH.cons rfl (fun K hK => ?_) (AllReadyH.cons rfl (fun K hK => ?_) AllReadyH.nil)
        · go_simp
          refine (GJ.out _ k _ R1).mono ?_
          rintro e V ⟨A24, c24, rfl, ho, hb'⟩
          have C1 := own_less ho k.size
          try (have R2 := R2.go hb')
          try (have G := G.go hb')
          have k := below_then k (Nat.le_refl _) hb'
          clear ho hb' R1
          refine hK.out _ _ (by first | exact HS.out _ k) (fun hHeld => ?_)
          clear hK K
          refine wpAnyH_ready (rs := [10]) (by kernel_rfl) (by simp) ?_
          refine AllReadyH.cons rfl (fun K hK => ?_) AllReadyH.nil
          go_simp
          have hb' := then_alloc k (.cells #[.slice A3 n3 c3, .slice B3 m3 d3] 23)
          have R2 := RdL.two HLA.out.2.2.1 HLB.out.2.2.1 (RA3.out _ k) (RB3.out _ k) 23
          try (have R1 := R1.go hb')
          try (have C1 := own_below C1 hb' (Nat.le_refl _))
          try (have G := G.go hb')
          have k := below_then k (Nat.le_refl _) hb'
          clear hb'
          refine hK.out _ _ (by first | exact HS.out _ k) (fun hHeld => ?_)
          clear hK K
          generalize V.heap.size = a29 at *
          generalize V.alloc (.cells #[.slice A3 n3 c3, .slice B3 m3 d3] 23) = V at *
          refine wpAnyH_ready (rs := [11]) (by kernel_rfl) (by simp) ?_
          refine AllReadyH.cons rfl (fun K hK => ?_) AllReadyH.nil
          go_simp
          refine (GS.out _ _ R2).mono ?_
          rintro e V ⟨A30, c30, rfl, ho, hb'⟩
          have C2 := own_less ho k.size
          try (have C1 := own_below C1 hb' (Nat.le_refl _))
          try (have G := G.go hb')
          have k := below_then k (Nat.le_refl _) hb'
          clear ho hb' R2
          refine hK.out _ _ (by first | exact HS.out _ k) (fun hHeld => ?_)
          clear hK K
          refine wpAnyH_putD (i := 12) (d := 31) (v := ?_) rfl rfl (by kernel_rfl) (by kernel_rfl) (by kernel_rfl) (fun _ _ _ h => h) (Or.inl ⟨by kernel_rfl, ?_⟩) (by first | exact HS.out _ k) ?_
          rotate_left
          · (intro w hS; (try dsimp only at hS); go_simp <;> with_reducible rfl)
          try simp only [List.setIfInBounds_toArray, List.set_cons_zero, List.set_cons_succ]
          refine wpAnyH_ready (rs := [14]) (by kernel_rfl) (by simp) ?_
          refine AllReadyH.cons rfl (fun K hK => ?_) AllReadyH.nil
          rw [if_pos (by kernel_rfl)]
          refine wp_store_blk 26 (.tmp 6) (.tmp 31) rfl _ 26 _ #[.slice none 0 0, .slice A24 EL.length c24, .slice A30 BL.length c30, .slice none 0 0] rfl rfl G HI.out rfl (by simp [Value.oneCell']) ?_
          intro V hblk hg
          have C1 := C1.kept hg (own_blk C1 G (by decide))
          have C2 := C2.kept hg (own_blk C2 G (by decide))
          have k := k.trans (grown_below hg k.size (fun j hj => by cases hj; exact hge))
          clear hg G
          refine hK.out _ _ (by first | exact HS.out _ k) (fun hHeld => ?_)
          clear hK K
          refine wpAnyH_done (by kernel_rfl) ?_ _
          refine Nrm.out (hKK _ _ ?_)
          exact EF.out V g a23 a29 A24 c24 A30 c30 ⟨k, hge, hblk, C1, C2⟩
        · go_simp
          have hb' := then_alloc k (.cells #[.slice A3 n3 c3, .slice B3 m3 d3] 23)
          have R2 := RdL.two HLA.out.2.2.1 HLB.out.2.2.1 (RA3.out _ k) (RB3.out _ k) 23
          try (have R1 := R1.go hb')
          try (have C1 := own_below C1 hb' (Nat.le_refl _))
          try (have G := G.go hb')
          have k := below_then k (Nat.le_refl _) hb'
          clear hb'
          refine hK.out _ _ (by first | exact HS.out _ k) (fun hHeld => ?_)
          clear hK K
          generalize V.heap.size = a29 at *
          generalize V.alloc (.cells #[.slice A3 n3 c3, .slice B3 m3 d3] 23) = V at *
          refine wpAnyH_ready (rs := [5]) (by kernel_rfl) (by simp) ?_
          refine AllReadyH.cons rfl (fun K hK => ?_) AllReadyH.nil
          go_simp
          refine (GJ.out _ k _ R1).mono ?_
          rintro e V ⟨A24, c24, rfl, ho, hb'⟩
          have C1 := own_less ho k.size
          try (have R2 := R2.go hb')
          try (have G := G.go hb')
          have k := below_then k (Nat.le_refl _) hb'
          clear ho hb' R1
          refine hK.out _ _ (by first | exact HS.out _ k) (fun hHeld => ?_)
          clear hK K
          refine wpAnyH_ready (rs := [11]) (by kernel_rfl) (by simp) ?_
          refine AllReadyH.cons rfl (fun K hK => ?_) AllReadyH.nil
          go_simp
          refine (GS.out _ _ R2).mono ?_
          rintro e V ⟨A30, c30, rfl, ho, hb'⟩
          have C2 := own_less ho k.size
          try (have C1 := own_below C1 hb' (Nat.le_refl _))
          try (have G := G.go hb')
          have k := below_then k (Nat.le_refl _) hb'
          clear ho hb' R2
          refine hK.out _ _ (by first | exact HS.out _ k) (fun hHeld => ?_)
          clear hK K
          refine wpAnyH_putD (i := 12) (d := 31) (v := ?_) rfl rfl (by kernel_rfl) (by kernel_rfl) (by kernel_rfl) (fun _ _ _ h => h) (Or.inl ⟨by kernel_rfl, ?_⟩) (by first | exact HS.out _ k) ?_
          rotate_left
          · (intro w hS; (try dsimp only at hS); go_simp <;> with_reducible rfl)
          try simp only [List.setIfInBounds_toArray, List.set_cons_zero, List.set_cons_succ]
          refine wpAnyH_ready (rs := [14]) (by kernel_rfl) (by simp) ?_
          refine AllReadyH.cons rfl (fun K hK => ?_) AllReadyH.nil
          rw [if_pos (by kernel_rfl)]
          refine wp_store_blk 26 (.tmp 6) (.tmp 31) rfl _ 26 _ #[.slice none 0 0, .slice A24 EL.length c24, .slice A30 BL.length c30, .slice none 0 0] rfl rfl G HI.out rfl (by simp [Value.oneCell']) ?_
          intro V hblk hg
          have C1 := C1.kept hg (own_blk C1 G (by decide))
          have C2 := C2.kept hg (own_blk C2 G (by decide))
          have k := k.trans (grown_below hg k.size (fun j hj => by cases hj; exact hge))
          clear hg G
          refine hK.out _ _ (by first | exact HS.out _ k) (fun hHeld => ?_)
          clear hK K
          refine wpAnyH_done (by kernel_rfl) ?_ _
          refine Nrm.out (hKK _ _ ?_)
          exact EF.out V g a23 a29 A24 c24 A30 c30 ⟨k, hge, hblk, C1, C2⟩
      · go_simp
        have hb' := then_alloc k (.cells #[.slice A3 n3 c3, .slice B3 m3 d3] 23)
        have R2 := RdL.two HLA.out.2.2.1 HLB.out.2.2.1 (RA3.out _ k) (RB3.out _ k) 23
        try (have R1 := R1.go hb')
        try (have C1 := own_below C1 hb' (Nat.le_refl _))
        try (have G := G.go hb')
        have k := below_then k (Nat.le_refl _) hb'
        clear hb'
        refine hK.out _ _ (by first | exact HS.out _ k) (fun hHeld => ?_)
        clear hK K
        generalize V.heap.size = a29 at *
        generalize V.alloc (.cells #[.slice A3 n3 c3, .slice B3 m3 d3] 23) = V at *
        refine wpAnyH_ready (rs := [4]) (by kernel_rfl) (by simp) ?_
        refine AllReadyH.cons rfl (fun K hK => ?_) AllReadyH.nil
        go_simp
        have hb' := then_alloc k (.cells #[.slice A2 n2 c2, .slice B2 m2 d2] 22)
        have R1 := RdL.two HLA.out.2.1 HLB.out.2.1 (RA2.out _ k) (RB2.out _ k) 22
        try (have R2 := R2.go hb')
        try (have G := G.go hb')
        have k := below_then k (Nat.le_refl _) hb'
        clear hb'
        refine hK.out _ _ (by first | exact HS.out _ k) (fun hHeld => ?_)
        clear hK K
        generalize V.heap.size = a23 at *
        generalize V.alloc (.cells #[.slice A2 n2 c2, .slice B2 m2 d2] 22) = V at *
        refine wpAnyH_ready (rs := [5]) (by kernel_rfl) (by simp) ?_
        refine AllReadyH.cons rfl (fun K hK => ?_) AllReadyH.nil
        go_simp
        refine (GJ.out _ k _ R1).mono ?_
        rintro e V ⟨A24, c24, rfl, ho, hb'⟩
        have C1 := own_less ho k.size
        try (have R2 := R2.go hb')
        try (have G := G.go hb')
        have k := below_then k (Nat.le_refl _) hb'
        clear ho hb' R1
        refine hK.out _ _ (by first | exact HS.out _ k) (fun hHeld => ?_)
        clear hK K
        refine wpAnyH_ready (rs := [11]) (by kernel_rfl) (by simp) ?_
        refine AllReadyH.cons rfl (fun K hK => ?_) AllReadyH.nil
        go_simp
        refine (GS.out _ _ R2).mono ?_
        rintro e V ⟨A30, c30, rfl, ho, hb'⟩
        have C2 := own_less ho k.size
        try (have C1 := own_below C1 hb' (Nat.le_refl _))
        try (have G := G.go hb')
        have k := below_then k (Nat.le_refl _) hb'
        clear ho hb' R2
        refine hK.out _ _ (by first | exact HS.out _ k) (fun hHeld => ?_)
        clear hK K
        refine wpAnyH_putD (i := 12) (d := 31) (v := ?_) rfl rfl (by kernel_rfl) (by kernel_rfl) (by kernel_rfl) (fun _ _ _ h => h) (Or.inl ⟨by kernel_rfl, ?_⟩) (by first | exact HS.out _ k) ?_
        rotate_left
        · (intro w hS; (try dsimp only at hS); go_simp <;> with_reducible rfl)
        try simp only [List.setIfInBounds_toArray, List.set_cons_zero, List.set_cons_succ]
        refine wpAnyH_ready (rs := [14]) (by kernel_rfl) (by simp) ?_
        refine AllReadyH.cons rfl (fun K hK => ?_) AllReadyH.nil
        rw [if_pos (by kernel_rfl)]
        refine wp_store_blk 26 (.tmp 6) (.tmp 31) rfl _ 26 _ #[.slice none 0 0, .slice A24 EL.length c24, .slice A30 BL.length c30, .slice none 0 0] rfl rfl G HI.out rfl (by simp [Value.oneCell']) ?_
        intro V hblk hg
        have C1 := C1.kept hg (own_blk C1 G (by decide))
        have C2 := C2.kept hg (own_blk C2 G (by decide))
        have k := k.trans (grown_below hg k.size (fun j hj => by cases hj; exact hge))
        clear hg G
        refine hK.out _ _ (by first | exact HS.out _ k) (fun hHeld => ?_)
        clear hK K
        refine wpAnyH_done (by kernel_rfl) ?_ _
        refine Nrm.out (hKK _ _ ?_)
        exact EF.out V g a23 a29 A24 c24 A30 c30 ⟨k, hge, hblk, C1, C2⟩
  intro w3 g a23 a29 A24 c24 A30 c30 hI
  obtain ⟨k3, hge, hG, C1, C2⟩ := hI
  clear k
  have hs3 := k3.size
  obtain ⟨⟨q0, q1, q2, q3⟩, _⟩ := HS.out w3 k3
  have hbx := Boxed.new w3 22 (.slice A1 n1 c1)
  have hb4 : Below w3.heap.size w3 (w3.alloc (.cells #[.slice A1 n1 c1] 22)) := (Below.refl _ _).alloc (Nat.le_refl _) _
  have k4 := below_then k3 (Nat.le_refl _) hb4
  obtain ⟨_, ⟨r0, r1, r2, r3⟩⟩ := HS.out _ k4
  obtain ⟨w4, hw4⟩ : ∃ w4, w4 = w3.alloc (.cells #[.slice A1 n1 c1] 22) := ⟨_, rfl⟩
  have HW4 := Lib.hid hw4.symm
  rw [← hw4] at hbx hb4 k4
  have HALL := Lib.hid (all_any B1 m1 d1 y.s w4 HLB.out.1 (RB1.out _ k4))
  have HB4 := Lib.hid hb4
  have HK4 := Lib.hid k4
  have HBX := Lib.hid hbx
  have H3 := Lib.hid (And.intro k3 (And.intro hge (And.intro hG (And.intro C1 C2))))
  clear hw4 hb4 hbx k4 k3 hG C1 C2
  gi_wp2_with fail
  rw [HW4.out]
  refine ⟨trivial, ?_⟩
  refine (callsIn_wide.2 HALL.out).mono ?_
  rintro e w5 ⟨G, Bx, rfl, hGb, hBx, hg1, hx1, hb5⟩
  have k5 := below_then HK4.out (Nat.le_refl _) hb5
  have hGood : Good G Bx (fun m k => k = Vc.cnt y.s m) w5 := ⟨HT.out _ k5, hBx, _, _, hGb, fun _ _ => rfl⟩
  have hh := hGb.cell 64
  rw [cc_has, has_pos] at hh
  have hs4 : w4.heap.size = w3.heap.size + 1 := by rw [← HW4.out]; simp
  have hBeg : BegI w3.heap.size x.s w5 := ⟨A1, c1, by rw [HLA.out.1]; exact (hb5.block _ (by omega)).trans HBX.out, by rw [HLA.out.1]; exact RA1.out _ k5⟩
  have HK5 := Lib.hid k5
  have hs5 := hb5.size
  have HB5 := Lib.hid hb5
  clear q0 q1 q2 q3 r0 r1 r2 r3 HALL hb5 k5
  gi_wp2
  refine wpIn_rangeFunc_ownG rfl (by omega) (gf := 88) (lb := #[.pointer (some ⟨Bx, 0, none⟩)]) rfl trivial (enters_of Tryd.func88 (by kernel_rfl) rfl)
    (each_stops (3 - 1) (by omega) G Bx (pos (Vc.cnt y.s)) (fun m k => k = Vc.cnt y.s m) _ hGood hh) good_t (good_b hGb.lt hBx.lt (by omega)) (Below.refl _ _) (fun _ => rfl)
    (fun pre W => BegI w3.heap.size (mN x.s x.e y.s (nds pre)) W ∧ Below w3.heap.size w5 W)
    (fun _ _ _ => False)
    (OwnFrom.and (fun s X Y row hs hg hr => by
      obtain ⟨A', c', h1, h2⟩ := hs
      exact ⟨A', c', (show Blk X _ _ _ from h1).kept_ hg (fun r e => (hr r e).2), (rd_kept h2 hg (fun r e => (hr r e).2)).more hg.size⟩) (ownFrom_below (by omega) (by omega)))
    (fun _ _ _ _ _ hs _ _ => hs)
    ⟨hBeg, Below.refl _ _⟩
    (fun z => { tmps := #[.agg #[.slice A1 n1 c1, .slice A2 n2 c2, .slice A3 n3 c3, .slice A4 n4 c4], .agg #[.slice B1 m1 d1, .slice B2 m2 d2, .slice B3 m3 d3, .slice B4 m4 d4], .pointer (some ⟨w.heap.size, 0, none⟩), .pointer (some ⟨w.heap.size + 1, 0, none⟩), .pointer (some ⟨w.heap.size + 1 + 1, 0, none⟩), .int .i64 0, .pointer (some ⟨g, 0, none⟩), .pointer (some ⟨w3.heap.size, 0, none⟩), .int .i64 (z.1.1 : Int), .int .i64 z.1.2, .agg #[.slice A1 n1 c1, .slice A2 n2 c2, .slice A3 n3 c3, .slice A4 n4 c4], .bool true, .bool false, .bool false, .agg #[.slice B1 m1 d1, .slice B2 m2 d2, .slice B3 m3 d3, .slice B4 m4 d4], .bool true, .bool false, .bool false, undef, .pointer (some ⟨w.heap.size, 1, none⟩), .slice A2 n2 c2, .pointer (some ⟨w.heap.size + 1, 1, none⟩), .slice B2 m2 d2, .slice (some ⟨a23, 0, none⟩) 2 2, .slice A24 EL.length c24, .pointer (some ⟨w.heap.size, 2, none⟩), .slice A3 n3 c3, .pointer (some ⟨w.heap.size + 1, 2, none⟩), .slice B3 m3 d3, .slice (some ⟨a29, 0, none⟩) 2 2, .slice A30 BL.length c30, .agg #[.slice none 0 0, .slice A24 EL.length c24, .slice A30 BL.length c30, .slice none 0 0], .pointer (some ⟨w.heap.size, 0, none⟩), .slice A1 n1 c1, .pointer (some ⟨w.heap.size + 1, 0, none⟩), .slice B1 m1 d1, .func (.func 88) #[] #[.pointer (some ⟨Bx, 0, none⟩)], .int .i64 (z.1.1 : Int), .int .i64 z.1.2, undef, undef, undef, undef, undef, undef, undef, undef, undef, undef, undef, undef, undef, undef, undef, undef, undef, undef, undef, undef, undef, undef, undef, undef, undef, undef, undef, undef, undef, undef, undef, undef], defers := [] }) ?assign ?body ?done ?stop
  case assign =>
    intro l z W K hK
    dsimp only [evs]
    gi_wp2
    exact hK
  case body =>
    rintro l pre z W ⟨⟨A', c', hbox, hrd⟩, hB⟩ hlt
    have hk64 := z.2.1
    have hval := z.2.2.2
    generalize hk : z.1.1 = k at hk64 hval ⊢
    generalize hct : z.1.2 = ct at hval ⊢
    have hbW : Below W0.heap.size W0 W := HK5.out.trans (hB.mono hs3)
    obtain ⟨⟨q0, q1, q2, q3⟩, _⟩ := HS.out W hbW
    have hsn2 : mN x.s x.e y.s (nds (pre ++ [z])) = mS x.e y.s (mN x.s x.e y.s (nds pre)) k := by rw [nds_snoc, hk]; exact mN_snoc x.s x.e y.s (nds pre) k
    have e1 := count_any A2 n2 c2 x.e (k : Int) W HLA.out.2.1 (RA2.out W hbW)
    rw [cntZ_natM x.e hk64] at e1
    have hfs : mS x.e y.s (mN x.s x.e y.s (nds pre)) k = if Vc.cnt x.e k < Vc.cnt y.s k then vec (jn [mN x.s x.e y.s (nds pre), [(Vc.cnt y.s k, (k : Int))]]) else mN x.s x.e y.s (nds pre) := rfl
    generalize mN x.s x.e y.s (nds pre) = f at hbox hrd hsn2 hfs
    generalize mS x.e y.s f k = gg at hsn2 hfs
    generalize Vc.cnt x.e k = a at e1 hfs
    rw [← hval] at hfs
    have E1 := Lib.hid e1
    have HFS := Lib.hid hfs
    have HSN := Lib.hid hsn2
    have HBo := Lib.hid hbox
    have HRd := Lib.hid hrd
    have HBB := Lib.hid hB
    have HBW2 := Lib.hid hbW
    have hWs := hB.size
    clear e1 hfs hsn2 hk hct hval hbox hrd hB hbW hGood hh hBeg
    gi_wp2_with fail
    refine ⟨trivial, ?_⟩
    refine (callsIn_wide.2 E1.out).mono ?_
    rintro e w6 ⟨rfl, hb6⟩
    have hbx6 : Boxed w6 w3.heap.size 22 (.slice A' f.length c') := (hb6.block _ HBo.out.lt).trans HBo.out
    clear q0 q1 q2 q3 E1
    have HB6 := Lib.hid hb6
    by_cases c1 : ct > a
    · have HG := Lib.hid (show gg = vec (jn [f, [(ct, (k : Int))]]) by rw [HFS.out, if_pos c1])
      have q4 := hbx6.cell
      have WI := Lib.hid (with_any A' f.length c' f (ct, (k : Int)) w6 (HT.out _ (below_then HBW2.out (Nat.le_refl _) hb6)) rfl (HRd.out.go hb6))
      clear hb6 hbx6
      gi_wp2_with fail
      refine ⟨trivial, ?_⟩
      refine (callsIn_wide.2 WI.out).mono ?_
      rintro e w7 hout
      rw [← HG.out] at hout
      obtain ⟨A7, c7, rfl, ho7, hb7⟩ := hout
      have hb7W := below_then HB6.out (Nat.le_refl _) hb7
      have hbx7 : Boxed w7 w3.heap.size 22 (.slice A' f.length c') := (hb7W.block _ HBo.out.lt).trans HBo.out
      have q5 := hbx7.cell
      have f5 := hbx7.frozen
      have HB7 := Lib.hid hb7W
      have HX7 := Lib.hid hbx7
      have hs6 := HB6.out.size
      have hbl := HBo.out.lt
      clear hb7 hb7W hbx7 q4 WI
      gi_wp2
      refine ⟨(keeps_belowM HB7.out).trans ((KeepsOthers.setCell _ _ _).from _), fun hg => ?_, ⟨A7, c7, ?_, ?_⟩, ?_⟩
      · exact (hg.below HB7.out (by obtain ⟨_, _, h, _⟩ := hg.cnts; exact h.lt) hg.box.lt (by omega)).setc (p := ⟨w3.heap.size, 0, none⟩) _ (by simp; omega) (by simp; omega) (by simp; omega)
      · rw [HSN.out]; exact HX7.out.set _
      · rw [HSN.out]; exact Rd.of_own (ho7.kept (grownBy_setCell' w7 w3.heap.size _) (own_ne ho7 (by omega)))
      · exact (HBB.out.trans (HB7.out.mono (by omega))).setCell (p := ⟨w3.heap.size, 0, none⟩) (Nat.le_refl _) _
    · have HG := Lib.hid (show gg = f by rw [HFS.out, if_neg (by omega)])
      clear hb6 hbx6
      gi_wp2
      refine ⟨keeps_belowM HB6.out, fun hg => ?_, ⟨A', c', ?_, ?_⟩, ?_⟩
      · exact hg.below HB6.out (by obtain ⟨_, _, h, _⟩ := hg.cnts; exact h.lt) hg.box.lt (by omega)
      · rw [HSN.out, HG.out]; exact (HB6.out.block _ HBo.out.lt).trans HBo.out
      · rw [HSN.out, HG.out]; exact HRd.out.go HB6.out
      · exact HBB.out.trans (HB6.out.mono (by omega))
  case stop =>
    rintro D c pre W _ _ h _
    exact h.elim
  case done =>
    rintro DF ys W hD hys ⟨⟨A', c', hbox, hrd⟩, hB⟩ hK
    have hys' : nds ys = Vc.upto (pos (Vc.cnt y.s)) 64 := hys
    rw [hys', mN_upto] at hbox hrd
    clear hys hys'
    have kW : Below W0.heap.size W0 W := HK5.out.trans (hB.mono hs3)
    have hb3W : Below w3.heap.size w3 W := HB4.out.trans ((HB5.out.mono (by omega)).trans hB)
    have S0 : MgS W0 g DF A24 c24 EL A30 c30 BL #[.slice none 0 0, .slice A24 EL.length c24, .slice A30 BL.length c30, .slice none 0 0] W := ⟨kW, H3.out.2.2.1.go hb3W, own_below H3.out.2.2.2.1 hb3W (Nat.le_refl _), own_below H3.out.2.2.2.2 hb3W (Nat.le_refl _), hK⟩
    obtain ⟨u, hu⟩ : ∃ u, u = mTo x.s x.e y.s 64 := ⟨_, rfl⟩
    rw [← hu] at hbox hrd
    have hul : u.length ≤ 64 := by rw [hu, mTo_vec x.s x.e y.s HFP.out.1 HFP.out.2]; exact stl_len (formed_vec _)
    have HU := Lib.hid (hu.trans (mTo_vec x.s x.e y.s HFP.out.1 HFP.out.2))
    have q := hbox.cell
    have CL := Lib.hid (cloneSt_any A' u.length c' (sv u) W hrd (sv_oneCell _) (by omega))
    have HS0' := Lib.hid S0
    have hdf : DF < W.heap.size := (Array.getElem?_eq_some_iff.1 hK).1
    clear hu kW hb3W S0 hbox hrd hB hK hGood hh hBeg hGb hBx
    gi_wp2_with fail
    refine ⟨trivial, ?_⟩
    refine (callsIn_wide.2 CL.out).mono ?_
    rintro e v1 ⟨F, f, rfl, hoF, hb1⟩
    clear q
    have S1 := HS0'.out.below hb1
    have x0 := S1.x.cell 0
    have xf0 := S1.x.frozen 0
    have CS1 := own_less hoF HS0'.out.k.size
    have S2 := S1.put hge 0 (.slice F u.length f)
    have CS2 := CS1.kept (set_gr v1 g 0 (.slice F u.length f)) (own_blk CS1 S1.x (by decide))
    obtain ⟨⟨_, _, _, p3⟩, ⟨_, _, _, r3⟩⟩ := HS.out _ S2.k
    have RL := RdLw.two HLA.out.2.2.2 HLB.out.2.2.2 (RA4.out _ S2.k) (RB4.out _ S2.k) 24
    have CC := concatW_any _ 2 2 [x.w, y.w] _ RL (by have := HN4.out; simp; omega)
    have hfl : [x.w, y.w].flatten = x.w ++ y.w := by simp
    rw [hfl] at CC
    obtain ⟨L, hL⟩ : ∃ L, L = x.w ++ y.w := ⟨_, rfl⟩
    rw [← hL] at CC
    have hLn : L.length ≤ 512 := by have := HN4.out; rw [hL]; simp; omega
    have HLw := Lib.hid hL
    rw [World.size_setCell] at CC
    obtain ⟨v2, hv2⟩ : ∃ v2, v2 = v1.setCell ⟨g, 0, none⟩ (.slice F u.length f) := ⟨_, rfl⟩
    rw [← hv2] at CC S2 CS2
    obtain ⟨v3, hv3⟩ : ∃ v3, v3 = v2.alloc (.cells #[.slice A4 n4 c4, .slice B4 m4 d4] 24) := ⟨_, rfl⟩
    rw [← hv3] at CC
    have hb3 : Below v2.heap.size v2 v3 := by rw [hv3]; exact (Below.refl _ _).alloc (Nat.le_refl _) _
    have HS3 := Lib.hid (S2.below hb3)
    have CS3 := Lib.hid (own_below CS2 hb3 (Nat.le_refl _))
    have HV2 := Lib.hid hv2.symm
    have HV3 := Lib.hid hv3.symm
    have CC := Lib.hid CC
    clear RL S1 S2 CS1 CS2 hv2 hv3 hb3 hL hfl CL
    generalize hnl : L.length = nl at hLn CC
    have HNL := Lib.hid hnl
    clear hnl
    gi_wp2_with fail
    rw [HV2.out, HV3.out]
    refine ⟨trivial, ?_⟩
    refine (callsIn_wide.2 CC.out).mono ?_
    rintro e v4 ⟨A5, c5, rfl, ho5, hb5⟩
    clear x0 xf0 p3 r3
    have S4 := HS3.out.below hb5
    have R4 := own_less ho5 HS3.out.k.size
    have CS4 := Lib.hid (own_below CS3.out hb5 (Nat.le_refl _))
    have DD := Lib.hid (deleteO_any W0.heap.size nl c5 A5 L (.pointer (some ⟨g, 0, none⟩)) (fun w => hasO BL w.2.1) v4 R4 HNL.out (by omega) (fun G hG W hgr sc sn ob gn => by
      subst hG
      exact blurTest_any g sc sn ob gn A30 BL.length c30 BL W ((S4.x.grown hgr (gr_ne S4.x R4 (by decide))).cell 2) rfl (Rd.of_own (S4.c2.kept hgr (own_two S4.c2 R4 (by decide))))))
    have HS4 := Lib.hid S4
    have R4 := Lib.hid R4
    clear S4 ho5 hb5
    gi_wp2_with fail
    refine ⟨trivial, ?_⟩
    refine (callsIn_wide.2 DD.out).mono ?_
    rintro e v5 ⟨i, rfl, hli, hic, R5, hgr5⟩
    have S5 := HS4.out.row R4.out hgr5
    have CS5 := own_row CS4.out R4.out (by decide) hgr5
    have x3 := S5.x.cell 3
    have xf3 := S5.x.frozen 3
    have S6 := S5.put hge 3 (.slice A5 i c5)
    have R6 := R5.kept (set_gr v5 g 3 (.slice A5 i c5)) (own_blk R5 S5.x (by decide))
    have CS6 := CS5.kept (set_gr v5 g 3 (.slice A5 i c5)) (own_blk CS5 S5.x (by decide))
    have y3 := S6.x.cell 3
    have hin : i ≤ 512 := by
      have h1 := List.length_filter_le (fun x => !hasO BL x.2.1) L
      have := HNL.out
      omega
    have SO := sortO_any W0.heap.size i c5 A5 (L.filter fun x => !hasO BL x.2.1) _ R6 hli (by omega)
    obtain ⟨v6, hv6⟩ : ∃ v6, v6 = v5.setCell ⟨g, 3, none⟩ (.slice A5 i c5) := ⟨_, rfl⟩
    rw [← hv6] at SO S6 R6 CS6
    have HV6 := Lib.hid hv6.symm
    have SO := Lib.hid SO
    have HS6 := Lib.hid S6
    have R6 := Lib.hid R6
    have CS6 := Lib.hid CS6
    have HLI := Lib.hid hli
    clear S5 S6 CS5 R5 hgr5 hv6 hli DD
    gi_wp2_with fail
    rw [HV6.out]
    refine ⟨trivial, ?_⟩
    refine (callsIn_wide.2 SO.out).mono ?_
    rintro e v7 ⟨rfl, s, hst, R7, hgr7⟩
    clear x3 xf3 y3
    have S7 := HS6.out.row R6.out hgr7
    have CS7 := Lib.hid (own_row CS6.out R6.out (by decide) hgr7)
    have x3 := S7.x.cell 3
    have CO := Lib.hid (compactO_any W0.heap.size i c5 A5 s v7 R7 (hst.len.trans HLI.out) (by omega))
    have HST := Lib.hid hst
    have HS7 := Lib.hid S7
    have R7 := Lib.hid R7
    clear S7 hst hgr7 SO
    gi_wp2_with fail
    refine ⟨trivial, ?_⟩
    refine (callsIn_wide.2 CO.out).mono ?_
    rintro e v8 ⟨j, rfl, hlj, hjc, R8, hgr8⟩
    clear x3
    have S8 := HS7.out.row R7.out hgr8
    have CS8 := own_row CS7.out R7.out (by decide) hgr8
    have KC := Lib.hid (clipW_any A5 j c5 hjc v8)
    have x3 := S8.x.cell 3
    have xf3 := S8.x.frozen 3
    have S9 := S8.put hge 3 (.slice A5 j j)
    have R9 := R8.kept (set_gr v8 g 3 (.slice A5 j j)) (own_blk R8 S8.x (by decide))
    have CS9 := CS8.kept (set_gr v8 g 3 (.slice A5 j j)) (own_blk CS8 S8.x (by decide))
    obtain ⟨y0, y1, y2, y3⟩ := S9.x.four4
    have hM9 := HM.out.go S9.k
    have HS9 := Lib.hid S9
    have R9 := Lib.hid R9
    have CS9 := Lib.hid CS9
    have HLJ := Lib.hid hlj
    clear S8 S9 CS8 R8 hgr8 hlj CO
    gi_wp2_with fail
    refine ⟨trivial, ?_⟩
    refine (callsIn_wide.2 KC.out).mono ?_
    rintro e v9 ⟨rfl, rfl⟩
    clear KC
    gi_wp2_with (refine wpListIn_store_blk rfl 26 _ _ rfl (w.heap.size + 1 + 1) 26 _ #[.slice F u.length f, .slice A24 EL.length c24, .slice A30 BL.length c30, .slice A5 j j] rfl rfl hM9 HI.out rfl (by simp [Value.oneCell']) ?_; intro Wz hblk hg)
    have hdz : Wz.heap[DF]? = some (.deferred (some [])) := by
      refine (hg.block DF (Array.getElem?_eq_some_iff.1 HS9.out.d).1 ?_).trans HS9.out.d
      intro e
      have e2 : DF = w.heap.size + 1 + 1 := by simpa using e
      have := HS0.out
      have := hD
      omega
    refine ⟨by simp, .inl ⟨_, _, rfl, run_takeDeferred hdz, ?_⟩⟩
    have hpo : Wz.grownBy (Wz.putObj DF (.deferred none)) (some DF) := grownBy_putObj' Wz DF (.deferred none)
    have hcl : ∀ r, (some DF : Option Nat) = some r → ∃ o : Obj, Wz.heap[r]? = some o ∧ o.isCells = false := fun r e => by cases e; exact ⟨_, hdz, rfl⟩
    have hbz : Blk (Wz.putObj DF (.deferred none)) (w.heap.size + 1 + 1) 26 #[.slice F u.length f, .slice A24 EL.length c24, .slice A30 BL.length c30, .slice A5 j j] := hblk.kept_ hpo hcl
    have hsz : (Wz.putObj DF (.deferred none)).heap.size = Wz.heap.size := by simp
    have own9 : ∀ {sz n c : Nat} {A : Option Addr} {xs : List Value} {e : TypeId}, e ≠ 26 → (v8.setCell ⟨g, 3, none⟩ (.slice A5 j j)).ownsRow W0.heap.size e sz (.slice A n c) n xs → Rd (Wz.putObj DF (.deferred none)) (Wz.putObj DF (.deferred none)).heap.size sz A n c xs := fun he ho => by
      have h1 := ho.kept hg (own_blk ho hM9 he)
      rw [hsz]
      exact rd_kept (Rd.of_own h1) hpo hcl
    have hne : mrgN x y = ⟨u, EL, BL, firsts s⟩ := by
      have h1 := HST.out
      have hbl := HEB.out.2
      have h2 := mrgN_w HF.out.1 HF.out.2 (s := s) (by rw [← HLw.out, ← hbl]; exact h1)
      unfold mrgN at h2 ⊢
      rw [HU.out, HEB.out.1, hbl, h2]
    refine ⟨_, res_ct rfl _ _ (w.heap.size + 1 + 1) 26 _ _ _ rfl hbz Tryd.underlying26 rfl HI.out, ⟨F, u.length, f, A24, EL.length, c24, A30, BL.length, c30, A5, j, j⟩, rfl, ?_, ?_⟩
    · rw [hne]
      exact ⟨rfl, own9 (by decide) CS9.out, rfl, own9 (by decide) HS9.out.c1, rfl, own9 (by decide) HS9.out.c2, HLJ.out, (own9 (by decide) R9.out).clip_⟩
    · have h1 : Below w.heap.size w Wz := (below_then HB.out (Nat.le_refl _) HS9.out.k).trans (grown_below hg (by have := HS9.out.k.size; have := HS0.out; omega) (fun j hj => by cases hj; omega))
      exact h1.trans (grown_below hpo h1.size (fun j hj => by cases hj; have := hD; have := HS0.out; omega))
end Go.Proofs.YtnibkniggiokkaaDoor
