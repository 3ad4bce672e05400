/- Walk over script.Decode. -/
import Derived.Test.YtldcgmnfohhjbacScC
namespace Go.Proofs.Ytldcgmnfohhjbac
open Go.RowKit
set_option maxRecDepth 100000

theorem step_zero : (Try.prog.info? 25).map (fun i => (i.zero, i.size)) = some (some (.agg #[.int .i64 0, .int .i64 0, .int .i64 0, .int .i64 0, .int .i64 0, .slice none 0 0, .slice none 0 0]), 7) := by kernel_rfl
/-- A step's cells, so far as its numbers were read. -/
def stc (ys : List Nat) : Array Value := #[.int .i64 (ys.getD 0 0 : Nat), .int .i64 (ys.getD 1 0 : Nat), .int .i64 (ys.getD 2 0 : Nat), .int .i64 (ys.getD 3 0 : Nat), .int .i64 (ys.getD 4 0 : Nat), .slice none 0 0, .slice none 0 0]
theorem stc_set (ys : List Nat) (k x : Nat) (h : ys.length = k) (hk : k < 5) : (stc ys).setIfInBounds k (.int .i64 (x : Int)) = stc (ys ++ [x]) := by
  match ys, k, h, hk with
  | [], 0, _, _ => rfl
  | [a], 1, _, _ => rfl
  | [a, b], 2, _, _ => rfl
  | [a, b, c], 3, _, _ => rfl
  | [a, b, c, d], 4, _, _ => rfl
theorem index5p (g : Nat) (k : Nat) (h : k < 5) : ∀ W, (Instr.index 58 (.agg #[.pointer (some ⟨g, 0, none⟩), .pointer (some ⟨g, 1, none⟩), .pointer (some ⟨g, 2, none⟩), .pointer (some ⟨g, 3, none⟩), .pointer (some ⟨g, 4, none⟩)]) (.int .i64 (k : Int))).run Try.prog W = .ok (.pointer (some ⟨g, k, none⟩)) W := by
  have h' : k = 0 ∨ k = 1 ∨ k = 2 ∨ k = 3 ∨ k = 4 := by omega
  rcases h' with rfl | rfl | rfl | rfl | rfl <;> exact fun _ => by kernel_rfl

/-- What a decoding hands back. -/
def DecP (w : World) (x : Sc.Stp) (er : Nat) (e : Ending) (w' : World) : Prop := ∃ v : SV, e = .returned (.tuple #[.agg (v.val x), .int .i64 er]) ∧ StpRd w' w'.heap.size v x ∧ Below w.heap.size w w'
def SV0 : SV := ⟨none, 0, 0, none, 0, 0⟩
theorem StpRd.zero (w : World) (B : Nat) (a b c d e : Int) : StpRd w B SV0 ⟨a, b, c, d, e, [], []⟩ := ⟨rfl, Rd.none_, rfl, Rd.none_⟩

set_option maxHeartbeats 8000000 in
/-- script.Decode. -/
theorem scDecode_any (A : Option Addr) (n c : Nat) (l : List UInt8) (w : World) (hl : l.length = n) (hR : Rd w w.heap.size 1 A n c (bv l)) (hn : n ≤ 4294967296) :
    Calls Try.prog 15 #[.slice A n c] w (DecP w (Sc.decX l) (Sc.decE l)) := by
  obtain ⟨hz, hi⟩ := zero_of_info step_zero
  have HI := Lib.hid hi
  have HIX := Lib.hid (index5p (w.heap.size + 1))
  have hcap := hR.cap
  have hmax := hR.max
  unfold maxLen at hmax
  have hb0 : Below w.heap.size w ((w.alloc (.cells (stc []) 25)).alloc (.cells (stc []) 25)) := ((Below.refl _ _).alloc (Nat.le_refl _) _).alloc (by simp) _
  have hB2 := (Blk.new w 25 (stc [])).alloc (.cells (stc []) 25)
  have hB4 := Blk.new (w.alloc (.cells (stc []) 25)) 25 (stc [])
  rw [World.size_alloc] at hB4
  have HR := Lib.hid hR
  have HL := Lib.hid hl
  have H0 := Lib.hid (⟨hb0, hB2, hB4⟩ : _ ∧ _ ∧ _)
  clear hi hR hl hb0 hB2 hB4
  go_enter Try.func15, Try.ntmps15
  go_wp2
  go_loopw [5, 7, 8, 9, 10, 23] (fun v5 _ _ _ _ v23 wr => ∃ (k N c' : Nat) (A' : Option Addr) (ys : List Nat) (r : List UInt8), v23 = .int .i64 k ∧ v5 = .slice A' N c' ∧ k ≤ 5 ∧ N ≤ n ∧ r.length = N ∧ Rd wr w.heap.size 1 A' N c' (bv r) ∧ Below w.heap.size w wr ∧
    Blk wr w.heap.size 25 (stc []) ∧ Blk wr (w.heap.size + 1) 25 (stc ys) ∧ Hid (Sc.pNs k l = some (ys, r))) (fun _ _ _ _ _ v23 _ => 5 - (intOf v23).toNat)
  case atStart => exact ⟨0, n, c, A, [], l, rfl, rfl, by omega, by omega, HL.out, HR.out.below H0.out.1, H0.out.1, H0.out.2.1, H0.out.2.2, rfl⟩
  case round =>
    obtain ⟨k, N, c', A', ys, r, rfl, rfl, hk, hN, hr, hR1, hb, hB2, hB4, hp⟩ := hrel
    have HB2 := Lib.hid hB2
    have HB4 := Lib.hid hB4
    have hbs := hB4.lt
    by_cases hlt : k < 5
    · have hix := HIX.out k hlt
      obtain ⟨x, j, er, hx⟩ : ∃ x j er, Pk.num r 0 r = (x, j, er) := ⟨_, _, _, rfl⟩
      have G := Lib.hid (number_is hx hr (hR1.more (by omega)))
      have hcap' := hR1.cap
      have hf := hB4.frozen k
      have hyl := Sc.pNs_len _ _ _ _ hp.out
      obtain ⟨u, hu⟩ : ∃ u, wr.cell? ⟨w.heap.size + 1, k, none⟩ = some u := by
        rw [hB4.cell k]
        exact ⟨_, Array.getElem?_eq_getElem (show k < (stc ys).size from by show k < 7; omega)⟩
      have HX := Lib.hid hx
      have HRr := Lib.hid hr
      have HR1 := Lib.hid hR1
      by_cases he : er = 0
      · subst he
        obtain ⟨b1, b2, b3, b4, b5⟩ := Pk.num_back hx
        have hjN : j ≤ N := by omega
        have hs := fun W => run_from (P := Try.prog) W 23 5 1 Try.underlying23 size_u8 A' N c' .i64 j j rfl hjN
        have HY := Lib.hid hyl
        clear hx hr hR1 hB2 hB4 b3 b4 hyl
        go_wp2_with fail
        refine G.out.mono ?_
        rintro e w1 ⟨rfl, rfl⟩
        go_wp2
        go_region
        go_wp2
        go_roundw
        case rel =>
          have hu := But.set_ (g := w.heap.size + 1) wr (p := ⟨w.heap.size + 1, k, none⟩) rfl (.int .i64 (x : Int))
          have hp2 := Wq.pN_some HX.out
          have h2 := HR1.out.from_ (k := j) hjN
          rw [Nat.mul_one, ← bv_drop] at h2
          refine ⟨k + 1, N - j, c' - j, cutAt 1 A' c' j, ys ++ [x], r.drop j, by go_num, rfl, by omega, by omega, by rw [List.length_drop, HRr.out], ?_, (below_but hb hu (by omega) (by omega)).drew, ?_, ?_, Sc.pNs_step hp.out hp2⟩
          · have h3 := h2.but hu (by omega) (by omega)
            exact h3.drew
          · have h4 := Blk.but HB2.out hu (show w.heap.size ≠ w.heap.size + 1 by omega)
            exact h4
          · rw [← stc_set ys k x HY.out hlt]; exact HB4.out.set_ k (.int .i64 (x : Int))
        case measure => simp [intOf]; omega
      · have hp2 := Wq.pN_none hx he
        have HN := Lib.hid (Sc.dec_no5 (Sc.pNs_no (Sc.pNs_stop hp.out hp2) 5 (by omega)))
        have he2 : ((er : Int) != 0) = true := bne_iff_ne.2 (by omega)
        clear hx hr hR1 hB2 hB4 hyl hp2 he
        go_wp2_with fail
        refine G.out.mono ?_
        rintro e w1 ⟨rfl, rfl⟩
        go_wp2_with (refine wpList_store_blk rfl 25 _ _ rfl w.heap.size 25 _ #[.int .i64 0, .int .i64 0, .int .i64 0, .int .i64 0, .int .i64 0, .slice none 0 0, .slice none 0 0] rfl rfl HB2.out HI.out rfl (by simp [Value.oneCell']) ?_; intro w4 hk4 hg4)
        refine bodyPost_ret (res_ct rfl _ _ w.heap.size 25 _ _ _ rfl hk4 Try.underlying25 rfl HI.out) rfl ?_
        obtain ⟨e1, e2⟩ := Sc.decX_no HN.out
        rw [e1, e2]
        exact ⟨SV0, rfl, StpRd.zero _ _ 0 0 0 0 0, hb.trans (grown_below hg4 hb.size (fun k hk => by cases hk; exact Nat.le_refl _))⟩
    · obtain rfl : k = 5 := by omega
      obtain ⟨y1, y2, y3, y4, y5, rfl⟩ : ∃ a b c d e, ys = [a, b, c, d, e] := by
        have := Sc.pNs_len _ _ _ _ hp.out
        match ys, this with
        | [a, b, c, d, e], _ => exact ⟨a, b, c, d, e, rfl⟩
      have G1 := Lib.hid (wireSet_any A' N c' r wr hr (hR1.more (by omega)) (by omega))
      have HR1 := Lib.hid hR1
      have HRr := Lib.hid hr
      rcases hpS : Wq.pS r with _ | ⟨sp, r2⟩
      · have HE := Lib.hid (set_no hpS)
        have HN := Lib.hid (Sc.dec_noS hp.out hpS)
        rw [HE.out.1, HE.out.2.1, HE.out.2.2] at G1
        clear hr hR1 hB2 hB4 hpS
        go_wp2_with fail
        refine G1.out.mono ?_
        rintro e w1 ⟨A1, c1, rfl, ho1, hb1⟩
        have hB2' := HB2.out.go hb1
        have hbw := below_then hb (Nat.le_refl _) hb1
        go_wp2_with (refine wpList_store_blk rfl 25 _ _ rfl w.heap.size 25 _ #[.int .i64 0, .int .i64 0, .int .i64 0, .int .i64 0, .int .i64 0, .slice none 0 0, .slice none 0 0] rfl rfl hB2' HI.out rfl (by simp [Value.oneCell']) ?_; intro w4 hk4 hg4)
        refine bodyPost_ret (res_ct rfl _ _ w.heap.size 25 _ _ _ rfl hk4 Try.underlying25 rfl HI.out) rfl ?_
        obtain ⟨e1, e2⟩ := Sc.decX_no HN.out
        rw [e1, e2]
        exact ⟨SV0, rfl, StpRd.zero _ _ 0 0 0 0 0, hbw.trans (grown_below hg4 hbw.size (fun k hk => by cases hk; exact Nat.le_refl _))⟩
      · have HE := Lib.hid (set_yes hpS)
        rw [HE.out.1, HE.out.2.1, HE.out.2.2] at G1
        obtain ⟨b1, b2⟩ := Wq.pS_back hpS
        obtain ⟨j, hj⟩ : ∃ j, j = r.length - r2.length := ⟨_, rfl⟩
        have hlen : r.length = (Wq.lS sp).length + r2.length := by rw [b1, List.length_append]
        have hd : r2 = r.drop j := by
          rw [hj, b1, List.drop_left']
          rw [List.length_append]; omega
        have hjN : j ≤ N := by omega
        have hr2 : r2.length = N - j := by omega
        obtain ⟨m, hm⟩ : ∃ m, m = sp.length := ⟨_, rfl⟩
        rw [← hj, ← hm] at G1
        have HM := Lib.hid hm
        have h2 := hR1.from_ (k := j) hjN
        rw [Nat.mul_one, ← bv_drop, ← hd] at h2
        have HR2 := Lib.hid h2
        have hs := fun W => run_from (P := Try.prog) W 23 5 1 Try.underlying23 size_u8 A' N c' .i64 j j rfl hjN
        have G2 := Lib.hid fun (W : World) (h : Rd W W.heap.size 1 (cutAt 1 A' c' j) (N - j) (c' - j) (bv r2)) => row_any (cutAt 1 A' c' j) (N - j) (c' - j) r2 256 W hr2 h (by omega)
        rcases rowOf_pR r2 256 with ⟨v, q, hx, hkl, hpR⟩ | ⟨er, her, hx, hpR⟩
        · have hx' : rowOf r2 256 = (v, q, 0) := hx
          rw [hx'] at G2
          obtain ⟨vn, hvn⟩ : ∃ vn, vn = v.length := ⟨_, rfl⟩
          have HVN := Lib.hid hvn
          have G2' := Lib.hid fun W h => (G2.out W h)
          clear G2
          obtain ⟨x, hxe⟩ : ∃ x : Sc.Stp, x = ⟨(y1 : Int), (y2 : Int), (y3 : Int), (y4 : Int), (y5 : Int), sp, v⟩ := ⟨_, rfl⟩
          have HXE := Lib.hid hxe
          have hjq : j + q ≤ 4294967296 := by omega
          by_cases hend : j + q = N
          · have hl7 : r2.drop q = [] := List.drop_eq_nil_of_le (by omega)
            have hz1 : ((j : Int) + q != (N : Int)) = false := by simp; omega
            have hF : Sc.fmB x = true → Sc.dec l = some x := fun h => by rw [hxe]; exact Sc.dec_yes hp.out hpS hpR ⟨hl7, by rw [← hxe]; exact fmB_iff.1 h⟩
            have hF2 : Sc.fmB x = false → Sc.dec l = none := fun h => Sc.dec_noE hp.out hpS hpR (fun k => by rw [← hxe] at k; have := fmB_iff.2 k.2; rw [h] at this; cases this)
            have HF := Lib.hid hF
            have HF2 := Lib.hid hF2
            clear hl7 hF hF2
            clear hr hR1 hB2 hB4 hpS b1 b2 hj hlen hd hr2 hm h2 hx hx' hpR hvn hxe
            go_wp2_with fail
            refine G1.out.mono ?_
            rintro e w1 ⟨A1, c1, rfl, ho1, hb1⟩
            have hB2' := HB2.out.go hb1
            have hB4' := HB4.out.go hb1
            have hbw := below_then hb (Nat.le_refl _) hb1
            have hR3 := (HR2.out.below (hb1.mono (by omega))).more (B' := w1.heap.size) (by have := hb1.size; omega)
            go_wp2_with fail
            refine (G2'.out w1 hR3).mono ?_
            rintro e w2 ⟨A3, c3, rfl, ho2, hb2⟩
            have hB2'' := hB2'.go hb2
            have hB4'' := hB4'.go hb2
            have hbw2 := below_then hbw (Nat.le_refl _) hb2
            simp only [← HVN.out] at ho2 ⊢
            have hs1 := hb1.size
            have hs2 := hb2.size
            have hx5 := hB4''.frozen 5
            have hx6 := hB4''.frozen 6
            have hc0 : w2.cell? ⟨w.heap.size + 1, 0, none⟩ = some (.int .i64 (y1 : Int)) := hB4''.cell 0
            have hc1 : w2.cell? ⟨w.heap.size + 1, 1, none⟩ = some (.int .i64 (y2 : Int)) := hB4''.cell 1
            have hc2 : w2.cell? ⟨w.heap.size + 1, 2, none⟩ = some (.int .i64 (y3 : Int)) := hB4''.cell 2
            have hc3 : w2.cell? ⟨w.heap.size + 1, 3, none⟩ = some (.int .i64 (y4 : Int)) := hB4''.cell 3
            have hc4 : w2.cell? ⟨w.heap.size + 1, 4, none⟩ = some (.int .i64 (y5 : Int)) := hB4''.cell 4
            have hc5 : w2.cell? ⟨w.heap.size + 1, 5, none⟩ = some (.slice none 0 0) := hB4''.cell 5
            have hc6 : w2.cell? ⟨w.heap.size + 1, 6, none⟩ = some (.slice none 0 0) := hB4''.cell 6
            have hw5 : Blk ((w2.setCell ⟨w.heap.size + 1, 5, none⟩ (.slice A1 m c1)).setCell ⟨w.heap.size + 1, 6, none⟩ (.slice A3 vn c3)) (w.heap.size + 1) 25 (SV.val ⟨A1, m, c1, A3, vn, c3⟩ x) := by
              rw [HXE.out]
              exact (hB4''.set_ 5 (.slice A1 m c1)).set_ 6 (.slice A3 vn c3)
            obtain ⟨w3, hw3⟩ : ∃ w3, w3 = (w2.setCell ⟨w.heap.size + 1, 5, none⟩ (.slice A1 m c1)).setCell ⟨w.heap.size + 1, 6, none⟩ (.slice A3 vn c3) := ⟨_, rfl⟩
            have hu : But (w.heap.size + 1) w2 w3 := by rw [hw3]; exact (But.set_ w2 (p := ⟨w.heap.size + 1, 5, none⟩) rfl _).trans (But.set_ _ (p := ⟨w.heap.size + 1, 6, none⟩) rfl _)
            have hW3 := Lib.hid hw3.symm
            rw [← hw3] at hw5
            have O1 := own_but (own_below ho1 hb2 (Nat.le_refl _)) hu (by omega)
            have O2 := own_but ho2 hu (by omega)
            have ho1' := Rd.of_own O1
            have ho2' := Rd.of_own O2
            have HO1 := Lib.hid O1
            have HO2 := Lib.hid O2
            have hSt : StpRd w3 w3.heap.size ⟨A1, m, c1, A3, vn, c3⟩ x := by
              rw [HXE.out]; exact ⟨HM.out.symm, ho1', HVN.out.symm, ho2'⟩
            have G5 := scFormed_any ⟨A1, m, c1, A3, vn, c3⟩ x w3 hSt
            have hbw3 := below_but hbw2 hu (by omega) (by omega)
            have hB23 := Blk.but hB2'' hu (show w.heap.size ≠ w.heap.size + 1 by omega)
            have HB23 := Lib.hid hB23
            have HW5 := Lib.hid hw5
            have HST := Lib.hid hSt
            have G5' : Calls Try.prog 12 #[.agg #[.int .i64 (y1 : Int), .int .i64 (y2 : Int), .int .i64 (y3 : Int), .int .i64 (y4 : Int), .int .i64 (y5 : Int), .slice A1 m c1, .slice A3 vn c3]] w3 fun e w' => e = .returned (.bool (Sc.fmB x)) ∧ Below w3.heap.size w3 w' := by
              have := G5; rw [HXE.out] at this ⊢; exact this
            have H5 := Lib.hid G5'
            clear O1 O2 G5 G5' hw3 hw5 hSt ho1 ho2 ho1' ho2' hb1 hb2 hB2' hB4' hB2'' hB4'' hu hR3 hbw hbw2 hB23
            go_wp2_with fail
            rw [hW3.out]
            refine H5.out.mono ?_
            rintro e w6 ⟨rfl, hb6⟩
            have hB6 := HB23.out.go hb6
            have hX6 := HW5.out.go hb6
            have hbw6 := below_then hbw3 (Nat.le_refl _) hb6
            rcases hfx : Sc.fmB x with _ | _
            · have HN := Lib.hid (HF2.out hfx)
              clear hx5 hx6 hc0 hc1 hc2 hc3 hc4 hc5 hc6 hfx
              have HB6 := Lib.hid hB6
              clear hB6
              go_wp2_with (refine wpList_store_blk rfl 25 _ _ rfl w.heap.size 25 _ #[.int .i64 0, .int .i64 0, .int .i64 0, .int .i64 0, .int .i64 0, .slice none 0 0, .slice none 0 0] rfl rfl HB6.out HI.out rfl (by simp [Value.oneCell']) ?_; intro w4 hk4 hg4)
              refine bodyPost_ret (res_ct rfl _ _ w.heap.size 25 _ _ _ rfl hk4 Try.underlying25 rfl HI.out) rfl ?_
              obtain ⟨e1, e2⟩ := Sc.decX_no HN.out
              rw [e1, e2]
              exact ⟨SV0, rfl, StpRd.zero _ _ 0 0 0 0 0, hbw6.trans (grown_below hg4 hbw6.size (fun k hk => by cases hk; exact Nat.le_refl _))⟩
            · have HN := Lib.hid (HF.out hfx)
              clear hx5 hx6 hc0 hc1 hc2 hc3 hc4 hc5 hc6 hfx
              have HB6 := Lib.hid hB6
              have HX6 := Lib.hid hX6
              have O1 := own_below HO1.out hb6 (Nat.le_refl _)
              have O2 := own_below HO2.out hb6 (Nat.le_refl _)
              have HO61 := Lib.hid O1
              have HO62 := Lib.hid O2
              clear hB6 hX6 O1 O2
              go_wp2_with (first
                | (refine wpList_load_row rfl 25 _ rfl (w.heap.size + 1) rfl 25 _ _ _ HX6.out Try.underlying25 rfl HI.out ?_)
                | (refine wpList_store_blk rfl 25 _ _ rfl w.heap.size 25 _ (SV.val ⟨A1, m, c1, A3, vn, c3⟩ x) rfl rfl HB6.out HI.out rfl (by simp [Value.oneCell']) ?_; intro w4 hk4 hg4))
              refine bodyPost_ret (res_ct rfl _ _ w.heap.size 25 _ _ _ rfl hk4 Try.underlying25 rfl HI.out) rfl ?_
              obtain ⟨e1, e2⟩ := Sc.decX_yes HN.out
              rw [e1, e2]
              have hbz := grown_below hg4 (Nat.le_trans hbw6.size (Nat.le_refl _)) (fun k hk => by cases hk; exact Nat.le_refl _)
              refine ⟨⟨A1, m, c1, A3, vn, c3⟩, rfl, ?_, hbw6.trans hbz⟩
              rw [HXE.out]
              exact ⟨HM.out.symm, Rd.of_own (own_far HO61.out hg4 (by omega)), HVN.out.symm, Rd.of_own (own_far HO62.out hg4 (by omega))⟩
          · have hz1 : ((j : Int) + q != (N : Int)) = true := bne_iff_ne.2 (by omega)
            have HN := Lib.hid (Sc.dec_noE hp.out hpS hpR (fun k => by have := congrArg List.length k.1; rw [List.length_drop] at this; simp at this; omega))
            clear hr hR1 hB2 hB4 hpS b1 b2 hj hlen hd hr2 hm h2 hx hx' hpR hvn hxe
            go_wp2_with fail
            refine G1.out.mono ?_
            rintro e w1 ⟨A1, c1, rfl, ho1, hb1⟩
            have hB2' := HB2.out.go hb1
            have hB4' := HB4.out.go hb1
            have hbw := below_then hb (Nat.le_refl _) hb1
            have hR3 := (HR2.out.below (hb1.mono (by omega))).more (B' := w1.heap.size) (by have := hb1.size; omega)
            go_wp2_with fail
            refine (G2'.out w1 hR3).mono ?_
            rintro e w2 ⟨A3, c3, rfl, ho2, hb2⟩
            have hB2'' := hB2'.go hb2
            have hB4'' := hB4'.go hb2
            have hbw2 := below_then hbw (Nat.le_refl _) hb2
            simp only [← HVN.out] at ho2 ⊢
            go_wp2_with (refine wpList_store_blk rfl 25 _ _ rfl w.heap.size 25 _ #[.int .i64 0, .int .i64 0, .int .i64 0, .int .i64 0, .int .i64 0, .slice none 0 0, .slice none 0 0] rfl rfl hB2'' HI.out rfl (by simp [Value.oneCell']) ?_; intro w4 hk4 hg4)
            refine bodyPost_ret (res_ct rfl _ _ w.heap.size 25 _ _ _ rfl hk4 Try.underlying25 rfl HI.out) rfl ?_
            obtain ⟨e1, e2⟩ := Sc.decX_no HN.out
            rw [e1, e2]
            exact ⟨SV0, rfl, StpRd.zero _ _ 0 0 0 0 0, hbw2.trans (grown_below hg4 hbw2.size (fun k hk => by cases hk; exact Nat.le_refl _))⟩
        · have hx' : rowOf r2 256 = ([], 0, er) := hx
          rw [hx'] at G2
          have HN := Lib.hid (Sc.dec_noR hp.out hpS hpR)
          have he2 : ((er : Int) != 0) = true := bne_iff_ne.2 (by omega)
          clear hr hR1 hB2 hB4 hpS b1 b2 hj hlen hd hr2 hm h2 hx hx' hpR her
          go_wp2_with fail
          refine G1.out.mono ?_
          rintro e w1 ⟨A1, c1, rfl, ho1, hb1⟩
          have hB2' := HB2.out.go hb1
          have hbw := below_then hb (Nat.le_refl _) hb1
          have hR3 := (HR2.out.below (hb1.mono (by omega))).more (B' := w1.heap.size) (by have := hb1.size; omega)
          go_wp2_with fail
          refine (G2.out w1 hR3).mono ?_
          rintro e w2 ⟨A3, c3, rfl, ho2, hb2⟩
          have hB2'' := hB2'.go hb2
          have hbw2 := below_then hbw (Nat.le_refl _) hb2
          go_wp2_with (refine wpList_store_blk rfl 25 _ _ rfl w.heap.size 25 _ #[.int .i64 0, .int .i64 0, .int .i64 0, .int .i64 0, .int .i64 0, .slice none 0 0, .slice none 0 0] rfl rfl hB2'' HI.out rfl (by simp [Value.oneCell']) ?_; intro w4 hk4 hg4)
          refine bodyPost_ret (res_ct rfl _ _ w.heap.size 25 _ _ _ rfl hk4 Try.underlying25 rfl HI.out) rfl ?_
          obtain ⟨e1, e2⟩ := Sc.decX_no HN.out
          rw [e1, e2]
          exact ⟨SV0, rfl, StpRd.zero _ _ 0 0 0 0 0, hbw2.trans (grown_below hg4 hbw2.size (fun k hk => by cases hk; exact Nat.le_refl _))⟩
end Go.Proofs.Ytldcgmnfohhjbac
