/- Walk over trust.stretched. -/
import Derived.Test.YtepdcbhapjgijaaDoorTwG
namespace Go.Proofs.YtepdcbhapjgijaaDoor
open Go.RowKit Go.Shelf
set_option maxRecDepth 100000
attribute [local go_sem] Oper.semAt_some

/-- One node more. -/
def farS (r s e a : List Vc.St) (k : Nat) : List Vc.St := if Vc.cnt r k < Vc.cnt e k ∧ Vc.cnt s k ≤ Vc.cnt r k then vec (jn [a, [(Vc.cnt e k, (k : Int))]]) else a
def farN (r s e : List Vc.St) (l : List Nat) : List Vc.St := l.foldl (farS r s e) r
theorem farN_snoc (r s e : List Vc.St) (l : List Nat) (k : Nat) : farN r s e (l ++ [k]) = farS r s e (farN r s e l) k := by unfold farN; rw [List.foldl_append]; rfl
theorem farN_upto (r s e : List Vc.St) : ∀ k, farN r s e (Vc.upto (pos (Vc.cnt e)) k) = farTo r s e k
  | 0 => rfl
  | k + 1 => by
    have ih := farN_upto r s e k
    have h0 := Vc.cnt_nonneg r k
    unfold Vc.upto at ih ⊢
    rw [List.range_succ, List.filter_append]
    rcases hp : pos (Vc.cnt e) k with _ | _
    · have h1 : ¬ 0 < Vc.cnt e k := by simpa [pos] using hp
      rw [show List.filter (pos (Vc.cnt e)) [k] = [] by simp [hp], List.append_nil, ih, farTo, if_neg (by omega)]
    · rw [show List.filter (pos (Vc.cnt e)) [k] = [k] by simp [hp], farN_snoc, ih, farTo]; rfl
theorem cntZ_nat (v : List Vc.St) {k : Nat} (h : k < 64) : cntZ v (k : Int) = Vc.cnt v k := by unfold cntZ; rw [if_pos (by omega), Int.toNat_natCast]
/-- The same slice, or one that is new. -/
def NewA (w : World) (A : Option Addr) (u : List Vc.St) (A' : Option Addr) (f : List Vc.St) : Prop := (A' = A ∧ f = u) ∨ ∀ a, A' = some a → w.heap.size ≤ a.block
/-- What is kept of a reach while it is stretched. -/
def FarI (w : World) (A : Option Addr) (u0 : List Vc.St) (BF : Nat) (u : List Vc.St) (W : World) : Prop := ∃ A' c', Boxed W BF 22 (.slice A' u.length c') ∧ Rd W W.heap.size 2 A' u.length c' (sv u) ∧ NewA w A u0 A' u

set_option maxHeartbeats 8000000 in
theorem stretched_any (v : NV) (x : Nt) (A : Option Addr) (n c : Nat) (u : List Vc.St) (w : World) (hT : Tab w) (hN : NtRd w w.heap.size v x) (hl : u.length = n) (hR : Rd w w.heap.size 2 A n c (sv u)) :
    Calls Tryd.prog 27 #[.slice A n c, .agg v.val] w fun e w' => ∃ A' c', e = .returned (.slice A' (farTo u x.s x.e 64).length c') ∧ Rd w' w'.heap.size 2 A' (farTo u x.s x.e 64).length c' (sv (farTo u x.s x.e 64)) ∧ NewA w A u A' (farTo u x.s x.e 64) ∧ Below w.heap.size w w' := by
  obtain ⟨A1, n1, c1, A2, n2, c2, A3, n3, c3, A4, n4, c4⟩ := v
  have h0lt : 0 < w.heap.size := World.block_lt_of_cell? _ _ (hT 0 (by decide))
  have b1 := ((Boxed.new w 22 (.slice A n c)).alloc (.cells #[.slice A1 n1 c1, .slice A2 n2 c2, .slice A3 n3 c3, .slice A4 n4 c4] 38)).alloc (.cells #[.slice A n c] 22)
  have b2 := (Blk.new (w.alloc (.cells #[.slice A n c] 22)) 38 #[.slice A1 n1 c1, .slice A2 n2 c2, .slice A3 n3 c3, .slice A4 n4 c4]).alloc (.cells #[.slice A n c] 22)
  have b3 := Boxed.new ((w.alloc (.cells #[.slice A n c] 22)).alloc (.cells #[.slice A1 n1 c1, .slice A2 n2 c2, .slice A3 n3 c3, .slice A4 n4 c4] 38)) 22 (.slice A n c)
  have hb0 : Below w.heap.size w (((w.alloc (.cells #[.slice A n c] 22)).alloc (.cells #[.slice A1 n1 c1, .slice A2 n2 c2, .slice A3 n3 c3, .slice A4 n4 c4] 38)).alloc (.cells #[.slice A n c] 22)) := (((Below.refl _ w).alloc (Nat.le_refl _) _).alloc (by simp) _).alloc (by simp; omega) _
  simp only [World.size_alloc] at b2 b3
  obtain ⟨W0, hW0⟩ : ∃ W0, W0 = (((w.alloc (.cells #[.slice A n c] 22)).alloc (.cells #[.slice A1 n1 c1, .slice A2 n2 c2, .slice A3 n3 c3, .slice A4 n4 c4] 38)).alloc (.cells #[.slice A n c] 22)) := ⟨_, rfl⟩
  have hs0 : W0.heap.size = w.heap.size + 1 + 1 + 1 := by rw [hW0]; simp
  rw [← hW0] at b1 b2 b3 hb0
  have hN0 := hN.go hb0
  have HALL := Lib.hid (all_any A2 n2 c2 x.e W0 hN0.l2 hN0.r2)
  have HC1 := Lib.hid fun (V : World) (hb : Below w.heap.size w V) (k : Int) => count_any A n c u k V hl (hR.go hb)
  have HC2 := Lib.hid fun (V : World) (hb : Below w.heap.size w V) (k : Int) => count_any A1 n1 c1 x.s k V hN.l1 (hN.go hb).r1
  have HW := Lib.hid hW0.symm
  have HB0 := Lib.hid hb0
  have HT := Lib.hid hT
  have HR0 := Lib.hid (hR.go hb0)
  have HL := Lib.hid hl
  have HBX := Lib.hid (And.intro b1 (And.intro b2 b3))
  have HS0 := Lib.hid hs0
  have q1 := b2.cell 1
  have q0 := b1.cell
  clear hN hN0 hR hl b1 b2 b3 hb0 hW0 hT
  refine (callsIn_wide (n := 3)).1 ?_
  refine callsIn_of_wp_marks Tryd.func27 rfl trivial ?_ rfl
  simp only [Tryd.ntmps27, List.size_toArray, List.length_cons, List.length_nil, Nat.reduceAdd, Nat.reduceSub, Array.replicate_succ, Array.replicate_zero, List.push_toArray, List.append_toArray, List.nil_append, List.cons_append]
  gi_wp2_with fail
  rw [HW.out]
  gi_wp2_with fail
  refine ⟨trivial, ?_⟩
  refine (callsIn_wide.2 HALL.out).mono ?_
  rintro e w1 ⟨G, Bx, rfl, hG, hBx, hg1, hx1, hb1⟩
  have hbw := below_then HB0.out (Nat.le_refl _) hb1
  have hGood : Good G Bx (fun m k => k = Vc.cnt x.e m) w1 := ⟨HT.out.below hbw, hBx, _, _, hG, fun _ _ => rfl⟩
  have hh := hG.cell 64
  rw [cc_has, has_pos] at hh
  have hFar : FarI w A u (w.heap.size + 1 + 1) u w1 := ⟨A, c, by rw [HL.out]; exact (hb1.block _ (by have := HS0.out; omega)).trans HBX.out.2.2, by rw [HL.out]; exact HR0.out.go hb1, .inl ⟨rfl, rfl⟩⟩
  have HBW := Lib.hid hbw
  have hs1 := hb1.size
  have HB1 := Lib.hid hb1
  clear q0 q1 HALL hb1 hbw
  gi_wp2
  refine wpIn_rangeFunc_ownG rfl (by omega) (gf := 67) (lb := #[.pointer (some ⟨Bx, 0, none⟩)]) rfl trivial (enters_of Tryd.func67 (by kernel_rfl) rfl)
    (each_stops (3 - 1) (by omega) G Bx (pos (Vc.cnt x.e)) (fun m k => k = Vc.cnt x.e m) _ hGood hh) good_t (good_b hG.lt hBx.lt (by omega)) (Below.refl _ _) (fun _ => rfl)
    (fun pre W => FarI w A u (w.heap.size + 1 + 1) (farN u x.s x.e (nds pre)) W ∧ Below (w.heap.size + 1 + 1) w1 W)
    (fun _ _ _ => False)
    (OwnFrom.and (fun s X Y row hs hg hr => by
      obtain ⟨A', c', h1, h2, h3⟩ := hs
      exact ⟨A', c', (show Blk X _ _ _ from h1).kept_ hg (fun r e => (hr r e).2), (rd_kept h2 hg (fun r e => (hr r e).2)).more hg.size, h3⟩) (ownFrom_below (by have := HS0.out; omega) (by have := HS0.out; omega)))
    (fun _ _ _ _ _ hs _ _ => hs)
    ⟨hFar, Below.refl _ _⟩
    (fun y => { tmps := #[.slice A n c, .agg (NV.val ⟨A1, n1, c1, A2, n2, c2, A3, n3, c3, A4, n4, c4⟩), .pointer (some ⟨w.heap.size, 0, none⟩), .pointer (some ⟨w.heap.size + 1, 0, none⟩), .slice none 0 0, .pointer (some ⟨w.heap.size + 1 + 1, 0, none⟩), .int .i64 (y.1.1 : Int), .int .i64 y.1.2, undef, .slice A n c, .pointer (some ⟨w.heap.size + 1, 1, none⟩), .slice A2 n2 c2, .func (.func 67) #[] #[.pointer (some ⟨Bx, 0, none⟩)], .int .i64 (y.1.1 : Int), .int .i64 y.1.2, undef, undef, undef, undef, undef, undef, undef, undef, undef, undef, undef, undef, undef, undef, undef, undef, undef, undef, undef, undef], defers := [] }) ?assign ?body ?done ?stop
  case assign =>
    intro l y W K hK
    dsimp only [evs]
    gi_wp2
    exact hK
  case body =>
    rintro l pre y W ⟨⟨A', c', hbox, hrd, hna⟩, hB⟩ hlt
    have hk64 := y.2.1
    have hval := y.2.2.2
    generalize hk : y.1.1 = k at hk64 hval ⊢
    generalize hct : y.1.2 = ct at hval ⊢
    have hbW : Below w.heap.size w W := HBW.out.trans (hB.mono (by omega))
    have bx0 : Boxed W w.heap.size 22 (.slice A n c) := (hB.block _ (by omega)).trans ((HB1.out.block _ (by have := HS0.out; omega)).trans HBX.out.1)
    have bx1 : Blk W (w.heap.size + 1) 38 #[.slice A1 n1 c1, .slice A2 n2 c2, .slice A3 n3 c3, .slice A4 n4 c4] := (hB.block _ (by omega)).trans ((HB1.out.block _ (by have := HS0.out; omega)).trans HBX.out.2.1)
    have q0 := bx0.cell
    have hsn := farN_snoc u x.s x.e (nds pre) k
    have hsn2 : farN u x.s x.e (nds (pre ++ [y])) = farS u x.s x.e (farN u x.s x.e (nds pre)) k := by rw [nds_snoc, hk]; exact hsn
    have e1 := HC1.out W hbW (k : Int)
    rw [cntZ_nat u hk64] at e1
    have hfs : farS u x.s x.e (farN u x.s x.e (nds pre)) k = if Vc.cnt u k < Vc.cnt x.e k ∧ Vc.cnt x.s k ≤ Vc.cnt u k then vec (jn [farN u x.s x.e (nds pre), [(Vc.cnt x.e k, (k : Int))]]) else farN u x.s x.e (nds pre) := rfl
    have e2 := fun V hb => HC2.out V hb (k : Int)
    simp only [cntZ_nat x.s hk64] at e2
    generalize farN u x.s x.e (nds pre) = f at hbox hrd hsn2 hfs hna
    generalize farS u x.s x.e f k = g at hsn2 hfs
    generalize Vc.cnt u k = a at e1 hfs
    rw [← hval] at hfs
    generalize Vc.cnt x.s k = b at e2 hfs
    have E1 := Lib.hid e1
    have E2 := Lib.hid e2
    have HFS := Lib.hid hfs
    have HSN := Lib.hid hsn2
    have HBo := Lib.hid hbox
    have HRd := Lib.hid hrd
    have HBB := Lib.hid hB
    have HX1 := Lib.hid bx1
    have HBW2 := Lib.hid hbW
    have hWs := hB.size
    clear e1 e2 hfs hsn hsn2 hk hct hval hbox hrd hB bx0 bx1 hbW
    gi_wp2_with fail
    refine ⟨trivial, ?_⟩
    refine (callsIn_wide.2 E1.out).mono ?_
    rintro e w4 ⟨rfl, hb4⟩
    have hbx4 : Boxed w4 (w.heap.size + 1 + 1) 22 (.slice A' f.length c') := (hb4.block _ HBo.out.lt).trans HBo.out
    have q3 := (HX1.out.go hb4).cell 0
    clear q0 E1
    by_cases c1 : ct > a
    · have HB4 := Lib.hid hb4
      have HX4 := Lib.hid hbx4
      clear hb4 hbx4
      gi_wp2_with fail
      refine ⟨trivial, ?_⟩
      refine (callsIn_wide.2 (E2.out _ (below_then HBW2.out (Nat.le_refl _) HB4.out))).mono ?_
      rintro e w5 ⟨rfl, hb5⟩
      have hb5 := below_then HB4.out (Nat.le_refl _) hb5
      have HB5 := Lib.hid hb5
      have hbx5 : Boxed w5 (w.heap.size + 1 + 1) 22 (.slice A' f.length c') := (hb5.block _ HBo.out.lt).trans HBo.out
      by_cases c2 : a ≥ b
      · have HG := Lib.hid (show g = vec (jn [f, [(ct, (k : Int))]]) by rw [HFS.out, if_pos ⟨c1, c2⟩])
        have q4 := hbx5.cell
        have WI := Lib.hid (with_any A' f.length c' f (ct, (k : Int)) w5 (HT.out.below (below_then HBW2.out (Nat.le_refl _) hb5)) rfl (HRd.out.go hb5))
        clear hb5 hbx5 q3 E2
        gi_wp2_with fail
        refine ⟨trivial, ?_⟩
        refine (callsIn_wide.2 WI.out).mono ?_
        rintro e w6 hout
        rw [← HG.out] at hout
        obtain ⟨A6, c6, rfl, ho6, hb6⟩ := hout
        have hb6W := below_then HB5.out (Nat.le_refl _) hb6
        have hbx6 : Boxed w6 (w.heap.size + 1 + 1) 22 (.slice A' f.length c') := (hb6W.block _ HBo.out.lt).trans HBo.out
        have q5 := hbx6.cell
        have f5 := hbx6.frozen
        have HB6 := Lib.hid hb6W
        have HX6 := Lib.hid hbx6
        have hs5 := HB5.out.size
        have hbl := HBo.out.lt
        clear hb6 hb6W hbx6 q4 WI
        gi_wp2
        refine ⟨(keeps_below HB6.out).trans ((KeepsOthers.setCell _ _ _).from _), fun hg => ?_, ⟨A6, c6, ?_, ?_, .inr (fun a ha => ?_)⟩, ?_⟩
        · exact (hg.below HB6.out (by obtain ⟨_, _, h, _⟩ := hg.cnts; exact h.lt) hg.box.lt (by omega)).set_ _ (by omega) (by omega) (by omega)
        · rw [HSN.out]; exact HX6.out.set _
        · rw [HSN.out]; exact Rd.of_own (ho6.kept (grownBy_setCell' w6 (w.heap.size + 1 + 1) _) (own_ne ho6 (by omega)))
        · obtain ⟨A7, c7, hv, _, hf⟩ := own_form ho6
          injection hv with hv1 _ _
          subst hv1
          obtain ⟨g7, rfl, hg7, _⟩ := hf a ha
          have := HBW2.out.size
          show w.heap.size ≤ g7
          omega
        · exact (HBB.out.trans (HB6.out.mono (by omega))).setCell (p := ⟨w.heap.size + 1 + 1, 0, none⟩) (Nat.le_refl _) _
      · have HG := Lib.hid (show g = f by rw [HFS.out, if_neg (by omega)])
        clear hb5 hbx5 q3 E2
        gi_wp2
        refine ⟨keeps_below HB5.out, fun hg => ?_, ⟨A', c', ?_, ?_, by rw [HSN.out, HG.out]; exact hna⟩, ?_⟩
        · exact hg.below HB5.out (by obtain ⟨_, _, h, _⟩ := hg.cnts; exact h.lt) hg.box.lt (by omega)
        · rw [HSN.out, HG.out]; exact (HB5.out.block _ HBo.out.lt).trans HBo.out
        · rw [HSN.out, HG.out]; exact HRd.out.go HB5.out
        · exact HBB.out.trans (HB5.out.mono (by omega))
    · have HG := Lib.hid (show g = f by rw [HFS.out, if_neg (by omega)])
      have HB4 := Lib.hid hb4
      clear hb4 hbx4 q3 E2
      gi_wp2
      refine ⟨trivial, ?_⟩
      gi_wp2
      refine ⟨keeps_below HB4.out, fun hg => ?_, ⟨A', c', ?_, ?_, by rw [HSN.out, HG.out]; exact hna⟩, ?_⟩
      · exact hg.below HB4.out (by obtain ⟨_, _, h, _⟩ := hg.cnts; exact h.lt) hg.box.lt (by omega)
      · rw [HSN.out, HG.out]; exact (HB4.out.block _ HBo.out.lt).trans HBo.out
      · rw [HSN.out, HG.out]; exact HRd.out.go HB4.out
      · exact HBB.out.trans (HB4.out.mono (by omega))
  case done =>
    rintro D ys W hD hys ⟨⟨A', c', hbox, hrd, hna⟩, hB⟩ hK
    have hys' : nds ys = Vc.upto (pos (Vc.cnt x.e)) 64 := hys
    rw [hys', farN_upto] at hbox hrd hna
    have q := hbox.cell
    clear hys hys'
    gi_wp2
    refine ⟨by simp, .inl ⟨_, _, rfl, run_takeDeferred hK, ?_⟩⟩
    exact ⟨_, results_tmp rfl _ _ _, A', c', rfl, (rd_kept hrd (grownBy_putObj' W D (.deferred none)) (fun r e => by cases e; exact ⟨_, hK, rfl⟩)).more (by simp), hna, (HBW.out.trans (hB.mono (by omega))).trans (belowK_b (w := w) (Nat.le_refl _) W D _ _ (by omega) hK rfl rfl)⟩
  case stop =>
    rintro D c pre W _ _ h _
    exact h.elim
end Go.Proofs.YtepdcbhapjgijaaDoor
