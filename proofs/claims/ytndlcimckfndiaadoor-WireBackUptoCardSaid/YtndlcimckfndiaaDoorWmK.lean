/- Walk: the document's Decode at any bytes (printed by wip/tools/genWmJ.py). -/
import Derived.Test.YtndlcimckfndiaaDoorWmJ
namespace Go.Proofs.YtndlcimckfndiaaDoor
open Go.RowKit
set_option maxRecDepth 100000

set_option maxHeartbeats 6000000 in
theorem refDecode_any (A : Option Addr) (n c : Nat) (l : List UInt8) (w : World) (hl : l.length = n) (hR : Rd w w.heap.size 1 A n c (bv l)) (hn : n ≤ 4294967296) :
    Calls Tryd.prog 44 #[.slice A n c] w fun e w' => DecP w.heap.size w l e w' := by
  obtain ⟨i0, hi0, hz0, hz1, hz2⟩ := info_parts noteE_info
  have hb0 : Below w.heap.size w ((w.alloc (.cells #[.int .i64 0, .int .i64 0, .int .i64 0, .int .i64 0, .int .i64 0, .slice none 0 0, .slice none 0 0, .slice none 0 0, .int .i64 0, .int .i64 0, .int .i64 0, .slice none 0 0] 74)).alloc (.cells #[.slice A n c, .int .i64 0, .bool false] 32)) := ((Below.refl _ _).alloc (Nat.le_refl _) _).alloc (by simp) _
  have hM0 := (Blk.new w 74 #[.int .i64 0, .int .i64 0, .int .i64 0, .int .i64 0, .int .i64 0, .slice none 0 0, .slice none 0 0, .slice none 0 0, .int .i64 0, .int .i64 0, .int .i64 0, .slice none 0 0]).alloc (.cells #[.slice A n c, .int .i64 0, .bool false] 32)
  have hG0 := Blk.new (w.alloc (.cells #[.int .i64 0, .int .i64 0, .int .i64 0, .int .i64 0, .int .i64 0, .slice none 0 0, .slice none 0 0, .slice none 0 0, .int .i64 0, .int .i64 0, .int .i64 0, .slice none 0 0] 74)) 32 #[.slice A n c, .int .i64 0, .bool false]
  rw [World.size_alloc] at hG0
  obtain ⟨W0, hW0⟩ : ∃ W0, W0 = (w.alloc (.cells #[.int .i64 0, .int .i64 0, .int .i64 0, .int .i64 0, .int .i64 0, .slice none 0 0, .slice none 0 0, .slice none 0 0, .int .i64 0, .int .i64 0, .int .i64 0, .slice none 0 0] 74)).alloc (.cells #[.slice A n c, .int .i64 0, .bool false] 32) := ⟨_, rfl⟩
  have hs0 : W0.heap.size = w.heap.size + 1 + 1 := by rw [hW0]; simp
  rw [← hW0] at hb0 hM0 hG0
  have hP0 : RR W0 (w.heap.size + 1) l (some l) := ⟨A, n, c, by rw [Nat.sub_self]; exact hG0, (hR.below hb0).more (by omega), hl, by rw [Nat.sub_self]; rfl, Nat.le_refl _⟩
  have hL : l.length ≤ 4294967296 := by omega
  have G1 := Lib.hid fun (W : World) (s : Option (List UInt8)) (h : RR W (w.heap.size + 1) l s) => refRdNum_any (w.heap.size + 1) l s W h
  have G3 := Lib.hid fun (W : World) (s : Option (List UInt8)) (h : RR W (w.heap.size + 1) l s) => refRdVec_any (w.heap.size + 1) l s W h hL
  have G4 := Lib.hid fun (W : World) (s : Option (List UInt8)) (h : RR W (w.heap.size + 1) l s) => (refRdSet_any (w.heap.size + 1) l s W h hL).mono fun e W' h' => (show ∃ v A' c', e = .returned (.slice A' v.length c') ∧ W'.ownsRow W.heap.size 97 2 (.slice A' v.length c') v.length (sv v) ∧ RR W' (w.heap.size + 1) l (Wq.st Wq.pS s) ∧ But (w.heap.size + 1) W W' ∧ (∀ q, Wq.st Wq.pS s = some q → v = Wq.vl Wq.pS [] s) from by rw [← setS_st, ← setVS_vl]; exact h')
  have G5 := Lib.hid fun (W : World) (s : Option (List UInt8)) (_ : Below w.heap.size w W) (h : RR W (w.heap.size + 1) l s) => refRdNote_any (w.heap.size + 1) l s W h hL
  have G6 := Lib.hid fun (W : World) (s : Option (List UInt8)) (h : RR W (w.heap.size + 1) l s) => (refRdBody_any (w.heap.size + 1) l s W h (by omega)).mono fun e W' h' => (show ∃ (x : Wq.Bd) (A' : Option Addr) (c' : Nat), e = .returned (.agg #[.int .i64 x.o, .int .i64 x.s.1, .int .i64 x.s.2, .slice A' x.v.length c']) ∧ W'.ownsRow W.heap.size 5 1 (.slice A' x.v.length c') x.v.length (bv x.v) ∧ RR W' (w.heap.size + 1) l (Wq.st Wq.pB s) ∧ But (w.heap.size + 1) W W' ∧ (∀ q, Wq.st Wq.pB s = some q → x = Wq.vl Wq.pB Wq.bd0 s) from h')
  have GF := Lib.hid fun (W : World) (_ : Below w.heap.size w W) (m : Wq.Ms) (u : MV) (L : List (NV × Nt)) (hM : MsRd W W.heap.size u m L) (hiv : m.i.length + m.v.length ≤ 9223372036854775807) => refMsFormed_any m u L W hM hiv
  clear hL
  have HW := Lib.hid hW0.symm
  have HL := Lib.hid hl
  have HPM := Lib.hid (Wq.pM_kind l)
  clear hl hR hG0 hW0
  go_enter Tryd.func44, Tryd.ntmps44
  go_wp2_with fail
  rw [HW.out]
  refine (G1.out _ _ hP0).mono ?_
  rintro e w1 ⟨rfl, hP1, hu1⟩
  have hs1 := hu1.size
  obtain ⟨k, hk⟩ : ∃ x, x = numV (some l) := ⟨_, rfl⟩
  obtain ⟨s1, hs1e⟩ : ∃ t, t = numS (some l) := ⟨_, rfl⟩
  rw [← hs1e] at hP1
  rw [← hk]
  have HK := Lib.hid hk
  have HS1 := Lib.hid hs1e
  have hM1 := hM0.but hu1 (by omega)
  have hb1 := below_but hb0 hu1 (by omega) (by omega)
  have hbX : Below w1.heap.size w1 (w1.alloc (.cells #[.int .i64 k, .int .i64 0, .int .i64 0, .int .i64 0, .int .i64 0, .slice none 0 0, .slice none 0 0, .slice none 0 0, .int .i64 0, .int .i64 0, .int .i64 0, .slice none 0 0] 74)) := (Below.refl _ _).alloc (Nat.le_refl _) _
  have hX := Blk.new w1 74 #[.int .i64 k, .int .i64 0, .int .i64 0, .int .i64 0, .int .i64 0, .slice none 0 0, .slice none 0 0, .slice none 0 0, .int .i64 0, .int .i64 0, .int .i64 0, .slice none 0 0]
  obtain ⟨W2, hW2⟩ : ∃ W2, W2 = w1.alloc (.cells #[.int .i64 k, .int .i64 0, .int .i64 0, .int .i64 0, .int .i64 0, .slice none 0 0, .slice none 0 0, .slice none 0 0, .int .i64 0, .int .i64 0, .int .i64 0, .slice none 0 0] 74) := ⟨_, rfl⟩
  have hs2 : W2.heap.size = w1.heap.size + 1 := by rw [hW2]; simp
  rw [← hW2] at hbX hX
  have HW2 := Lib.hid hW2.symm
  have hP2 := hP1.go hbX
  have hM2 := hM1.go hbX
  have hX2 := hX
  have hb2 := below_then hb1 (by omega) hbX
  clear hP0 hu1 hM0 hP1 hM1 hb0 hb1 hW2 hbX hX hk hs1e
  go_wp2_with fail
  rw [HW2.out]
  refine (G1.out _ _ hP2).mono ?_
  rintro e w3 ⟨rfl, hP3, hu3⟩
  have hs3 := hu3.size
  obtain ⟨fr, hvar⟩ : ∃ x, x = numV s1 := ⟨_, rfl⟩
  obtain ⟨s2, hst⟩ : ∃ t, t = numS s1 := ⟨_, rfl⟩
  rw [← hst] at hP3
  rw [← hvar]
  have HV_fr := Lib.hid hvar
  have HS_s2 := Lib.hid hst
  have hX3 := hX2.but hu3 (by omega)
  have hM3 := hM2.but hu3 (by omega)
  have hb3 := below_but hb2 hu3 (by omega) (by omega)
  have xf1 := hX3.frozen 1
  have xc1 := hX3.cell 1
  have hu4 : But w1.heap.size w3 (w3.setCell ⟨w1.heap.size, 1, none⟩ (.int .i64 fr)) := But.set_ (g := w1.heap.size) _ (p := ⟨w1.heap.size, 1, none⟩) rfl _
  have hX4 : Blk (w3.setCell ⟨w1.heap.size, 1, none⟩ (.int .i64 fr)) w1.heap.size 74 #[.int .i64 k, .int .i64 fr, .int .i64 0, .int .i64 0, .int .i64 0, .slice none 0 0, .slice none 0 0, .slice none 0 0, .int .i64 0, .int .i64 0, .int .i64 0, .slice none 0 0] := (hX3.set_ 1 (.int .i64 fr))
  have hP4 := hP3.but hu4 (by omega)
  have hM4 := hM3.but hu4 (by omega)
  have hb4 := below_but hb3 hu4 (by omega) (by omega)
  obtain ⟨W4, hW4⟩ : ∃ W4, W4 = (w3.setCell ⟨w1.heap.size, 1, none⟩ (.int .i64 fr)) := ⟨_, rfl⟩
  have hs4 : W4.heap.size = w3.heap.size := by rw [hW4]; simp
  rw [← hW4] at hX4 hP4 hM4 hb4
  have HW4 := Lib.hid hW4.symm
  clear hu3 hP3 hX3 hM3 hb3 hu4 hW4
  clear hvar hst hP2 hX2 hM2 hb2
  go_wp2_with fail
  rw [HW4.out]
  clear xf1 xc1
  refine (G1.out _ _ hP4).mono ?_
  rintro e w5 ⟨rfl, hP5, hu5⟩
  have hs5 := hu5.size
  obtain ⟨tt, hvar⟩ : ∃ x, x = numV s2 := ⟨_, rfl⟩
  obtain ⟨s3, hst⟩ : ∃ t, t = numS s2 := ⟨_, rfl⟩
  rw [← hst] at hP5
  rw [← hvar]
  have HV_tt := Lib.hid hvar
  have HS_s3 := Lib.hid hst
  have hX5 := hX4.but hu5 (by omega)
  have hM5 := hM4.but hu5 (by omega)
  have hb5 := below_but hb4 hu5 (by omega) (by omega)
  have xf2 := hX5.frozen 2
  have xc2 := hX5.cell 2
  have hu6 : But w1.heap.size w5 (w5.setCell ⟨w1.heap.size, 2, none⟩ (.int .i64 tt)) := But.set_ (g := w1.heap.size) _ (p := ⟨w1.heap.size, 2, none⟩) rfl _
  have hX6 : Blk (w5.setCell ⟨w1.heap.size, 2, none⟩ (.int .i64 tt)) w1.heap.size 74 #[.int .i64 k, .int .i64 fr, .int .i64 tt, .int .i64 0, .int .i64 0, .slice none 0 0, .slice none 0 0, .slice none 0 0, .int .i64 0, .int .i64 0, .int .i64 0, .slice none 0 0] := (hX5.set_ 2 (.int .i64 tt))
  have hP6 := hP5.but hu6 (by omega)
  have hM6 := hM5.but hu6 (by omega)
  have hb6 := below_but hb5 hu6 (by omega) (by omega)
  obtain ⟨W6, hW6⟩ : ∃ W6, W6 = (w5.setCell ⟨w1.heap.size, 2, none⟩ (.int .i64 tt)) := ⟨_, rfl⟩
  have hs6 : W6.heap.size = w5.heap.size := by rw [hW6]; simp
  rw [← hW6] at hX6 hP6 hM6 hb6
  have HW6 := Lib.hid hW6.symm
  clear hu5 hP5 hX5 hM5 hb5 hu6 hW6
  clear hvar hst hP4 hX4 hM4 hb4
  go_upto_region 5 with fail
  rw [HW6.out]
  clear xf2 xc2
  have HPK := Lib.hid (show Wq.pM l = Wq.kindM k fr tt s3 from by rw [HPM.out, HK.out, HV_fr.out, HV_tt.out, HS_s3.out, HS_s2.out, HS1.out])
  have hx60 := hX6.cell 0
  clear HPM
  by_cases hk1 : k = 1
  · -- kind 1
    subst hk1
    have hX6 : Blk W6 w1.heap.size 74 #[.int .i64 1, .int .i64 fr, .int .i64 tt, .int .i64 0, .int .i64 0, .slice none 0 0, .slice none 0 0, .slice none 0 0, .int .i64 0, .int .i64 0, .int .i64 0, .slice none 0 0] := hX6
    clear hx60
    have hx60 := hX6.cell 0
    go_wp2_with fail
    refine (G1.out _ _ hP6).mono ?_
    rintro e w7 ⟨rfl, hP7, hu7⟩
    have hs7 := hu7.size
    obtain ⟨nn, hvar⟩ : ∃ x, x = numV s3 := ⟨_, rfl⟩
    obtain ⟨t1, hst⟩ : ∃ t, t = numS s3 := ⟨_, rfl⟩
    rw [← hst] at hP7
    rw [← hvar]
    have HV_nn := Lib.hid hvar
    have HS_t1 := Lib.hid hst
    have hX7 := hX6.but hu7 (by omega)
    have hM7 := hM6.but hu7 (by omega)
    have hb7 := below_but hb6 hu7 (by omega) (by omega)
    have xf3 := hX7.frozen 3
    have xc3 := hX7.cell 3
    have hu8 : But w1.heap.size w7 (w7.setCell ⟨w1.heap.size, 3, none⟩ (.int .i64 nn)) := But.set_ (g := w1.heap.size) _ (p := ⟨w1.heap.size, 3, none⟩) rfl _
    have hX8 : Blk (w7.setCell ⟨w1.heap.size, 3, none⟩ (.int .i64 nn)) w1.heap.size 74 #[.int .i64 1, .int .i64 fr, .int .i64 tt, .int .i64 nn, .int .i64 0, .slice none 0 0, .slice none 0 0, .slice none 0 0, .int .i64 0, .int .i64 0, .int .i64 0, .slice none 0 0] := (hX7.set_ 3 (.int .i64 nn))
    have hP8 := hP7.but hu8 (by omega)
    have hM8 := hM7.but hu8 (by omega)
    have hb8 := below_but hb7 hu8 (by omega) (by omega)
    obtain ⟨W8, hW8⟩ : ∃ W8, W8 = (w7.setCell ⟨w1.heap.size, 3, none⟩ (.int .i64 nn)) := ⟨_, rfl⟩
    have hs8 : W8.heap.size = w7.heap.size := by rw [hW8]; simp
    rw [← hW8] at hX8 hP8 hM8 hb8
    have HW8 := Lib.hid hW8.symm
    clear hu7 hP7 hX7 hM7 hb7 hu8 hW8
    clear hvar hst hP6 hX6 hM6 hb6
    go_wp2_with fail
    rw [HW8.out]
    clear xf3 xc3
    refine (G4.out _ _ hP8).mono ?_
    rintro e w9 ⟨vi, iA, ic, rfl, o9, hP9, hu9, hvi⟩
    have hs9 := hu9.size
    have HVI := Lib.hid hvi
    obtain ⟨t2, hst⟩ : ∃ t, t = Wq.st Wq.pS t1 := ⟨_, rfl⟩
    rw [← hst] at hP9
    have HS_t2 := Lib.hid hst
    have hX9 := hX8.but hu9 (by omega)
    have hM9 := hM8.but hu9 (by omega)
    have hb9 := below_but hb8 hu9 (by omega) (by omega)
    have hO9 : MsO w9 W0.heap.size ⟨iA, ic, none, 0, none, 0, none, 0⟩ vi [] [] [] [] := ⟨own_less o9 (by omega), World.ownsRow_nil _ _ _ _, World.ownsRow_nil _ _ _ _, rfl, (fun p hp => by cases hp), World.ownsRow_nil _ _ _ _⟩
    have xf5 := hX9.frozen 5
    have xc5 := hX9.cell 5
    have hu10 : But w1.heap.size w9 (w9.setCell ⟨w1.heap.size, 5, none⟩ (.slice iA vi.length ic)) := But.set_ (g := w1.heap.size) _ (p := ⟨w1.heap.size, 5, none⟩) rfl _
    have hX10 : Blk (w9.setCell ⟨w1.heap.size, 5, none⟩ (.slice iA vi.length ic)) w1.heap.size 74 #[.int .i64 1, .int .i64 fr, .int .i64 tt, .int .i64 nn, .int .i64 0, .slice iA vi.length ic, .slice none 0 0, .slice none 0 0, .int .i64 0, .int .i64 0, .int .i64 0, .slice none 0 0] := (hX9.set_ 5 (.slice iA vi.length ic))
    have hP10 := hP9.but hu10 (by omega)
    have hM10 := hM9.but hu10 (by omega)
    have hb10 := below_but hb9 hu10 (by omega) (by omega)
    have hO10 := (hO9.setX hX9 5 (.slice iA vi.length ic))
    obtain ⟨W10, hW10⟩ : ∃ W10, W10 = (w9.setCell ⟨w1.heap.size, 5, none⟩ (.slice iA vi.length ic)) := ⟨_, rfl⟩
    have hs10 : W10.heap.size = w9.heap.size := by rw [hW10]; simp
    rw [← hW10] at hX10 hP10 hM10 hb10 hO10
    have HW10 := Lib.hid hW10.symm
    clear hu9 hP9 hX9 hM9 hb9 hu10 hW10
    clear hst hvi o9 hP8 hX8 hM8 hb8
    clear hO9
    go_wp2_with fail
    rw [HW10.out]
    clear xf5 xc5
    refine (G3.out _ _ hP10).mono ?_
    rintro e w11 ⟨vv, vA, vc, rfl, o11, hP11, hu11, hvv⟩
    have hs11 := hu11.size
    have HVV := Lib.hid hvv
    obtain ⟨t3, hst⟩ : ∃ t, t = Wq.st Wq.pV t2 := ⟨_, rfl⟩
    rw [← hst] at hP11
    have HS_t3 := Lib.hid hst
    have hX11 := hX10.but hu11 (by omega)
    have hM11 := hM10.but hu11 (by omega)
    have hb11 := below_but hb10 hu11 (by omega) (by omega)
    have hO11 : MsO w11 W0.heap.size ⟨iA, ic, vA, vc, none, 0, none, 0⟩ vi vv [] [] [] := ⟨(hO10.but hu11 (by omega)).oi, own_less o11 (by omega), World.ownsRow_nil _ _ _ _, rfl, (fun p hp => by cases hp), World.ownsRow_nil _ _ _ _⟩
    have xf6 := hX11.frozen 6
    have xc6 := hX11.cell 6
    have hu12 : But w1.heap.size w11 (w11.setCell ⟨w1.heap.size, 6, none⟩ (.slice vA vv.length vc)) := But.set_ (g := w1.heap.size) _ (p := ⟨w1.heap.size, 6, none⟩) rfl _
    have hX12 : Blk (w11.setCell ⟨w1.heap.size, 6, none⟩ (.slice vA vv.length vc)) w1.heap.size 74 #[.int .i64 1, .int .i64 fr, .int .i64 tt, .int .i64 nn, .int .i64 0, .slice iA vi.length ic, .slice vA vv.length vc, .slice none 0 0, .int .i64 0, .int .i64 0, .int .i64 0, .slice none 0 0] := (hX11.set_ 6 (.slice vA vv.length vc))
    have hP12 := hP11.but hu12 (by omega)
    have hM12 := hM11.but hu12 (by omega)
    have hb12 := below_but hb11 hu12 (by omega) (by omega)
    have hO12 := (hO11.setX hX11 6 (.slice vA vv.length vc))
    obtain ⟨W12, hW12⟩ : ∃ W12, W12 = (w11.setCell ⟨w1.heap.size, 6, none⟩ (.slice vA vv.length vc)) := ⟨_, rfl⟩
    have hs12 : W12.heap.size = w11.heap.size := by rw [hW12]; simp
    rw [← hW12] at hX12 hP12 hM12 hb12 hO12
    have HW12 := Lib.hid hW12.symm
    clear hu11 hP11 hX11 hM11 hb11 hu12 hW12
    clear hst hvv o11 hP10 hX10 hM10 hb10 hO10
    clear hO11
    go_upto_region 22 with fail
    rw [HW12.out]
    have HKK := Lib.hid (show Wq.pM l = Wq.lift (⟨1, fr, tt, nn, 0, vi, vv, [], Wq.bd0⟩ : Wq.Ms) t3 from by rw [HPK.out, Wq.kind_1 rfl (by rw [← HS_t1.out]; exact HVI.out) (by rw [← HS_t1.out, ← HS_t2.out]; exact HVV.out), ← HS_t1.out, ← HS_t2.out, ← HS_t3.out, ← HV_nn.out])
    have HX := Lib.hid hX12
    have HM := Lib.hid hM12
    have HO := Lib.hid hO12
    have HB := Lib.hid hb12
    have hwb := hb12.size
    rcases t3 with _ | ⟨_ | ⟨ch, r'⟩⟩
    · have HD := Lib.hid (Wq.dec_none HKK.out)
      obtain ⟨b2, _⟩ := hP12.bad
      have b2 : _ = some (Value.bool true) := b2
      clear hP12 hX12 hM12 hO12 hb12
      go_wp2_with (refine wpList_store_blk rfl 74 _ _ rfl w.heap.size 74 _ #[.int .i64 0, .int .i64 0, .int .i64 0, .int .i64 0, .int .i64 0, .slice none 0 0, .slice none 0 0, .slice none 0 0, .int .i64 0, .int .i64 0, .int .i64 0, .slice none 0 0] rfl rfl HM.out msg_info rfl (by simp [Value.oneCell']) ?_; intro W hblk hg)
      refine bodyPost_ret (res_ct rfl _ _ w.heap.size 74 _ _ _ rfl hblk Tryd.underlying74 rfl (by kernel_rfl)) rfl (DecP.of Wq.ms0 mv0 [] 4 rfl (ms0_rd _) (HB.out.trans (grown_below hg hwb (fun j hj => by cases hj; exact Nat.le_refl _))) (.inr ⟨HD.out, rfl, rfl⟩))
    · skip
      obtain ⟨Ag, ng, cg, hBg, _⟩ := hP12
      have hat : (((l.length - ([] : List UInt8).length : Nat)) : Int) = (n : Int) := by rw [HL.out]; simp
      rw [hat] at hBg
      have gc1 := hBg.cell 1
      have gc2 := hBg.cell 2
      have GFM := GF.out W12 hb12 (⟨1, fr, tt, nn, 0, vi, vv, [], Wq.bd0⟩ : Wq.Ms) ⟨iA, ic, vA, vc, none, 0, none, 0⟩ [] hO12.rd (iv1 HS_t2.out HS_t3.out HVI.out HVV.out)
      rcases hz : Wq.fmM (⟨1, fr, tt, nn, 0, vi, vv, [], Wq.bd0⟩ : Wq.Ms) with _ | _
      · skip
        have HD := Lib.hid (Wq.dec_bad HKK.out hz)
        rw [hz] at GFM
        have GFM := Lib.hid (show Calls Tryd.prog 41 #[.agg #[.int .i64 1, .int .i64 fr, .int .i64 tt, .int .i64 nn, .int .i64 0, .slice iA vi.length ic, .slice vA vv.length vc, .slice none 0 0, .int .i64 0, .int .i64 0, .int .i64 0, .slice none 0 0]] W12 fun e w' => e = .returned (.bool false) ∧ Below W12.heap.size W12 w' from GFM)
        obtain ⟨q0, q1, q2, q3, q4, q5, q6, q7, q8, q9, q10, q11⟩ := hX12.twelve
        clear hBg hX12 hM12 hO12 hb12 hz
        go_wp2_with (first
          | (go_at_call 41; go_must (refine GFM.out.mono ?_); rintro e w9 ⟨rfl, hb9⟩; have hM9 := HM.out.go hb9; have hB9 := below_then HB.out (Nat.le_refl _) hb9; have hwb9 := hB9.size)
          | (refine wpList_store_blk rfl 74 _ _ rfl w.heap.size 74 _ #[.int .i64 0, .int .i64 0, .int .i64 0, .int .i64 0, .int .i64 0, .slice none 0 0, .slice none 0 0, .slice none 0 0, .int .i64 0, .int .i64 0, .int .i64 0, .slice none 0 0] rfl rfl hM9 msg_info rfl (by simp [Value.oneCell']) ?_; intro W hblk hg)
          | fail)
        refine bodyPost_ret (res_ct rfl _ _ w.heap.size 74 _ _ _ rfl hblk Tryd.underlying74 rfl (by kernel_rfl)) rfl (DecP.of Wq.ms0 mv0 [] 4 rfl (ms0_rd _) (hB9.trans (grown_below hg hwb9 (fun j hj => by cases hj; exact Nat.le_refl _))) (.inr ⟨HD.out, rfl, rfl⟩))
      · skip
        have HD := Lib.hid (Wq.dec_good HKK.out hz)
        rw [hz] at GFM
        have GFM := Lib.hid (show Calls Tryd.prog 41 #[.agg #[.int .i64 1, .int .i64 fr, .int .i64 tt, .int .i64 nn, .int .i64 0, .slice iA vi.length ic, .slice vA vv.length vc, .slice none 0 0, .int .i64 0, .int .i64 0, .int .i64 0, .slice none 0 0]] W12 fun e w' => e = .returned (.bool true) ∧ Below W12.heap.size W12 w' from GFM)
        obtain ⟨q0, q1, q2, q3, q4, q5, q6, q7, q8, q9, q10, q11⟩ := hX12.twelve
        clear hBg hX12 hM12 hO12 hb12 hz
        go_wp2_with (first
          | (go_at_call 41; go_must (refine GFM.out.mono ?_); rintro e w9 ⟨rfl, hb9⟩; have hM9 := HM.out.go hb9; have hB9 := below_then HB.out (Nat.le_refl _) hb9; have hwb9 := hB9.size; clear q0 q1 q2 q3 q4 q5 q6 q7 q8 q9 q10 q11; obtain ⟨q0, q1, q2, q3, q4, q5, q6, q7, q8, q9, q10, q11⟩ := (HX.out.go hb9).twelve)
          | (refine wpList_store_blk rfl 74 _ _ rfl w.heap.size 74 _ #[.int .i64 1, .int .i64 fr, .int .i64 tt, .int .i64 nn, .int .i64 0, .slice iA vi.length ic, .slice vA vv.length vc, .slice none 0 0, .int .i64 0, .int .i64 0, .int .i64 0, .slice none 0 0] rfl rfl hM9 msg_info rfl (by simp [Value.oneCell']) ?_; intro W hblk hg)
          | fail)
        refine bodyPost_ret (res_ct rfl _ _ w.heap.size 74 _ _ _ rfl hblk Tryd.underlying74 rfl (by kernel_rfl)) rfl (DecP.of (⟨1, fr, tt, nn, 0, vi, vv, [], Wq.bd0⟩ : Wq.Ms) ⟨iA, ic, vA, vc, none, 0, none, 0⟩ [] 0 rfl ((HO.out.go hb9).blk hM9 hg).rd (hB9.trans (grown_below hg hwb9 (fun j hj => by cases hj; exact Nat.le_refl _))) (.inl ⟨HD.out, rfl⟩))
    · skip
      have HD := Lib.hid (Wq.dec_rest HKK.out)
      obtain ⟨Ag, ng, cg, hBg, _, _, _, hle⟩ := hP12
      obtain ⟨x, hx⟩ : ∃ x : Int, x = ((l.length - (ch :: r').length : Nat) : Int) := ⟨_, rfl⟩
      have hne : (x != (n : Int)) = true := by rw [hx, ← HL.out]; simp only [List.length_cons] at hle ⊢; simp; omega
      rw [← hx] at hBg
      have gc1 := hBg.cell 1
      have gc2 := hBg.cell 2
      clear hx hle
      clear hBg hX12 hM12 hO12 hb12
      go_wp2_with (refine wpList_store_blk rfl 74 _ _ rfl w.heap.size 74 _ #[.int .i64 0, .int .i64 0, .int .i64 0, .int .i64 0, .int .i64 0, .slice none 0 0, .slice none 0 0, .slice none 0 0, .int .i64 0, .int .i64 0, .int .i64 0, .slice none 0 0] rfl rfl HM.out msg_info rfl (by simp [Value.oneCell']) ?_; intro W hblk hg)
      refine bodyPost_ret (res_ct rfl _ _ w.heap.size 74 _ _ _ rfl hblk Tryd.underlying74 rfl (by kernel_rfl)) rfl (DecP.of Wq.ms0 mv0 [] 4 rfl (ms0_rd _) (HB.out.trans (grown_below hg hwb (fun j hj => by cases hj; exact Nat.le_refl _))) (.inr ⟨HD.out, rfl, rfl⟩))
  have hk1b : ((k : Int) == 1) = false := by simp; omega
  by_cases hk3 : k = 3
  · -- kind 3
    subst hk3
    have hX6 : Blk W6 w1.heap.size 74 #[.int .i64 3, .int .i64 fr, .int .i64 tt, .int .i64 0, .int .i64 0, .slice none 0 0, .slice none 0 0, .slice none 0 0, .int .i64 0, .int .i64 0, .int .i64 0, .slice none 0 0] := hX6
    clear hx60
    have hx60 := hX6.cell 0
    go_wp2_with fail
    refine (G1.out _ _ hP6).mono ?_
    rintro e w7 ⟨rfl, hP7, hu7⟩
    have hs7 := hu7.size
    obtain ⟨nn, hvar⟩ : ∃ x, x = numV s3 := ⟨_, rfl⟩
    obtain ⟨t1, hst⟩ : ∃ t, t = numS s3 := ⟨_, rfl⟩
    rw [← hst] at hP7
    rw [← hvar]
    have HV_nn := Lib.hid hvar
    have HS_t1 := Lib.hid hst
    have hX7 := hX6.but hu7 (by omega)
    have hM7 := hM6.but hu7 (by omega)
    have hb7 := below_but hb6 hu7 (by omega) (by omega)
    have xf3 := hX7.frozen 3
    have xc3 := hX7.cell 3
    have hu8 : But w1.heap.size w7 (w7.setCell ⟨w1.heap.size, 3, none⟩ (.int .i64 nn)) := But.set_ (g := w1.heap.size) _ (p := ⟨w1.heap.size, 3, none⟩) rfl _
    have hX8 : Blk (w7.setCell ⟨w1.heap.size, 3, none⟩ (.int .i64 nn)) w1.heap.size 74 #[.int .i64 3, .int .i64 fr, .int .i64 tt, .int .i64 nn, .int .i64 0, .slice none 0 0, .slice none 0 0, .slice none 0 0, .int .i64 0, .int .i64 0, .int .i64 0, .slice none 0 0] := (hX7.set_ 3 (.int .i64 nn))
    have hP8 := hP7.but hu8 (by omega)
    have hM8 := hM7.but hu8 (by omega)
    have hb8 := below_but hb7 hu8 (by omega) (by omega)
    obtain ⟨W8, hW8⟩ : ∃ W8, W8 = (w7.setCell ⟨w1.heap.size, 3, none⟩ (.int .i64 nn)) := ⟨_, rfl⟩
    have hs8 : W8.heap.size = w7.heap.size := by rw [hW8]; simp
    rw [← hW8] at hX8 hP8 hM8 hb8
    have HW8 := Lib.hid hW8.symm
    clear hu7 hP7 hX7 hM7 hb7 hu8 hW8
    clear hvar hst hP6 hX6 hM6 hb6
    go_wp2_with fail
    rw [HW8.out]
    clear xf3 xc3
    refine (G1.out _ _ hP8).mono ?_
    rintro e w9 ⟨rfl, hP9, hu9⟩
    have hs9 := hu9.size
    obtain ⟨qq, hvar⟩ : ∃ x, x = numV t1 := ⟨_, rfl⟩
    obtain ⟨t2, hst⟩ : ∃ t, t = numS t1 := ⟨_, rfl⟩
    rw [← hst] at hP9
    rw [← hvar]
    have HV_qq := Lib.hid hvar
    have HS_t2 := Lib.hid hst
    have hX9 := hX8.but hu9 (by omega)
    have hM9 := hM8.but hu9 (by omega)
    have hb9 := below_but hb8 hu9 (by omega) (by omega)
    have xf4 := hX9.frozen 4
    have xc4 := hX9.cell 4
    have hu10 : But w1.heap.size w9 (w9.setCell ⟨w1.heap.size, 4, none⟩ (.int .i64 qq)) := But.set_ (g := w1.heap.size) _ (p := ⟨w1.heap.size, 4, none⟩) rfl _
    have hX10 : Blk (w9.setCell ⟨w1.heap.size, 4, none⟩ (.int .i64 qq)) w1.heap.size 74 #[.int .i64 3, .int .i64 fr, .int .i64 tt, .int .i64 nn, .int .i64 qq, .slice none 0 0, .slice none 0 0, .slice none 0 0, .int .i64 0, .int .i64 0, .int .i64 0, .slice none 0 0] := (hX9.set_ 4 (.int .i64 qq))
    have hP10 := hP9.but hu10 (by omega)
    have hM10 := hM9.but hu10 (by omega)
    have hb10 := below_but hb9 hu10 (by omega) (by omega)
    obtain ⟨W10, hW10⟩ : ∃ W10, W10 = (w9.setCell ⟨w1.heap.size, 4, none⟩ (.int .i64 qq)) := ⟨_, rfl⟩
    have hs10 : W10.heap.size = w9.heap.size := by rw [hW10]; simp
    rw [← hW10] at hX10 hP10 hM10 hb10
    have HW10 := Lib.hid hW10.symm
    clear hu9 hP9 hX9 hM9 hb9 hu10 hW10
    clear hvar hst hP8 hX8 hM8 hb8
    go_wp2_with fail
    rw [HW10.out]
    clear xf4 xc4
    refine (G1.out _ _ hP10).mono ?_
    rintro e w11 ⟨rfl, hP11, hu11⟩
    have hs11 := hu11.size
    obtain ⟨cc, hvar⟩ : ∃ x, x = numV t2 := ⟨_, rfl⟩
    obtain ⟨t3, hst⟩ : ∃ t, t = numS t2 := ⟨_, rfl⟩
    rw [← hst] at hP11
    rw [← hvar]
    have HV_cc := Lib.hid hvar
    have HS_t3 := Lib.hid hst
    have hX11 := hX10.but hu11 (by omega)
    have hM11 := hM10.but hu11 (by omega)
    have hb11 := below_but hb10 hu11 (by omega) (by omega)
    clear hP10 hX10 hM10 hb10 hu11 hvar hst
    have HIV := Lib.hid (show InvD (Wq.allL t2) cc cc (if 257 < cc then none else t3) 0 [] from by rw [HV_cc.out, HS_t3.out]; exact InvD.cap)
    have hcc0 : cc < 9223372036854775808 := by rw [HV_cc.out]; exact numV_lt _
    obtain ⟨t4, ht4⟩ : ∃ t, t = if 257 < cc then none else t3 := ⟨_, rfl⟩
    rw [← ht4] at HIV
    have HCC := Lib.hid (show t4 ≠ none → cc ≤ 257 from fun h => by rcases Nat.lt_or_ge 257 cc with h1 | h1; (rw [if_pos h1] at ht4; exact absurd ht4 h); exact h1)
    go_upto_region 14 with fail
    have HT4 := Lib.hid ht4
    clear ht4
    go_cut [6] (fun v6 wx => v6 = .int .i64 cc ∧ Hid (RR wx (w.heap.size + 1) l t4 ∧ Blk wx w1.heap.size 74 #[.int .i64 3, .int .i64 fr, .int .i64 tt, .int .i64 nn, .int .i64 qq, .slice none 0 0, .slice none 0 0, .slice none 0 0, .int .i64 0, .int .i64 0, .int .i64 0, .slice none 0 0] ∧ Blk wx w.heap.size 74 #[.int .i64 0, .int .i64 0, .int .i64 0, .int .i64 0, .int .i64 0, .slice none 0 0, .slice none 0 0, .slice none 0 0, .int .i64 0, .int .i64 0, .int .i64 0, .slice none 0 0] ∧ Below w.heap.size w wx))
    case first =>
      have HF := Lib.hid fun (b : Bool) => (show But (w.heap.size + 1) w11 (w11.setCell ⟨w.heap.size + 1, 2, none⟩ (.bool b)) from But.set_ (g := w.heap.size + 1) _ (p := ⟨w.heap.size + 1, 2, none⟩) rfl _)
      obtain ⟨gc2, gf2⟩ := hP11.bad
      have HX := Lib.hid hX11
      have HM := Lib.hid hM11
      have HB := Lib.hid hb11
      have HP := Lib.hid hP11
      clear hX11 hM11 hb11 hP11
      rcases t3 with _ | r3
      · have gc2 : _ = some (Value.bool true) := gc2
        have HE := Lib.hid (show t4 = none from by rw [HT4.out]; split <;> rfl)
        go_wp2_with fail
        go_meet
        exact ⟨rfl, by rw [HE.out]; exact HP.out.spoil, HX.out.but (HF.out true) (by omega), HM.out.but (HF.out true) (by omega), below_but HB.out (HF.out true) (by omega) (by omega)⟩
      · have gc2 : _ = some (Value.bool false) := gc2
        by_cases h257 : 257 < cc
        · have h257b : (257 : Int) < (cc : Int) := by omega
          have HE := Lib.hid (show t4 = none from by rw [HT4.out, if_pos h257])
          go_wp2_with fail
          go_meet
          exact ⟨rfl, by rw [HE.out]; exact HP.out.spoil, HX.out.but (HF.out true) (by omega), HM.out.but (HF.out true) (by omega), below_but HB.out (HF.out true) (by omega) (by omega)⟩
        · have h257b : ¬ (257 : Int) < (cc : Int) := by omega
          have HE := Lib.hid (show t4 = some r3 from by rw [HT4.out, if_neg h257])
          go_wp2_with fail
          go_meet
          exact ⟨rfl, by rw [HE.out]; exact HP.out.same, HX.out.but (HF.out false) (by omega), HM.out.but (HF.out false) (by omega), below_but HB.out (HF.out false) (by omega) (by omega)⟩
    case rest =>
    obtain ⟨rfl, hh⟩ := hcut
    have HH := Lib.hid hh.out
    clear hX11 hM11 hb11 hP11 hh HT4 HS_t3
    go_wp2
    go_loopw [6] (fun v6 wr => ∃ (kk m c' : Nat) (A' : Option Addr) (s : Option (List UInt8)) (acc : List Nt) (L' : List (NV × Nt)), v6 = .int .i64 kk ∧ kk ≤ cc ∧ m ≤ 258 ∧ RR wr (w.heap.size + 1) l s ∧ Blk wr w1.heap.size 74 #[.int .i64 3, .int .i64 fr, .int .i64 tt, .int .i64 nn, .int .i64 qq, .slice none 0 0, .slice none 0 0, .slice A' m c', .int .i64 0, .int .i64 0, .int .i64 0, .slice none 0 0] ∧ MsO wr W0.heap.size ⟨none, 0, none, 0, A', c', none, 0⟩ [] [] acc [] L' ∧ Blk wr w.heap.size 74 #[.int .i64 0, .int .i64 0, .int .i64 0, .int .i64 0, .int .i64 0, .slice none 0 0, .slice none 0 0, .slice none 0 0, .int .i64 0, .int .i64 0, .int .i64 0, .slice none 0 0] ∧
      Below w.heap.size w wr ∧ Hid (acc.length = m) ∧ Hid (InvD (Wq.allL t2) cc kk s m acc) ∧ Hid (s ≠ none → cc ≤ 257)) (fun v6 _ => (intOf v6).toNat)
    case atStart => exact ⟨cc, 0, 0, none, t4, [], [], rfl, Nat.le_refl _, by omega, HH.out.1, HH.out.2.1, MsO.nil _ _, HH.out.2.2.1, HH.out.2.2.2, rfl, HIV.out, HCC.out⟩
    case round =>
      obtain ⟨kk, m, c', A', s, acc, L', rfl, hk, hm, hP, hX, hO, hM, hb, hacc, hin, hcap⟩ := hrel
      clear HIV
      have hXl := hX.lt
      have hg1 : w.heap.size + 1 < W0.heap.size := by omega
      have hX0 : W0.heap.size ≤ w1.heap.size := by omega
      by_cases hgo : 0 < kk ∧ s ≠ none
      · skip
        obtain ⟨hk1, hs⟩ := hgo
        obtain ⟨l1, rfl⟩ : ∃ l1, s = some l1 := by
          cases s with
          | none => exact absurd rfl hs
          | some l1 => exact ⟨l1, rfl⟩
        obtain ⟨b2, _⟩ := hP.bad
        have b2 : _ = some (Value.bool false) := b2
        obtain ⟨hj1, hj2, _⟩ := hin.out.2 (by simp)
        have kd : Below wr.heap.size wr wr.drew := (Below.refl _ wr).drew
        have XX := Lib.hid (hX.go kd)
        have OO := Lib.hid (hO.go kd)
        have MM := Lib.hid (hM.go kd)
        have PP := Lib.hid (hP.go kd)
        have BB := Lib.hid hb.drew
        have h63 : m + 1 ≤ maxLen := by unfold maxLen; omega
        clear hs hP hX hO hM hb kd
        go_wp2_with fail
        refine region_nrm fun KK hKK => ?_
        refine wp_region_held_drew (S := (fun _ => True)) (by kernel_rfl) (by first | trivial) (fun hHeld => ?_)
        refine wpAnyH_putD (i := 0) (d := 64) (v := ?_) rfl rfl (by kernel_rfl) (by kernel_rfl) (by kernel_rfl) (fun _ _ _ h => h) (Or.inl ⟨by kernel_rfl, ?_⟩) (by first | trivial) ?_
        rotate_left
        · (intro w hS; (try dsimp only at hS); go_simp <;> with_reducible rfl)
        try simp only [List.setIfInBounds_toArray, List.set_cons_zero, List.set_cons_succ]
        refine wpAnyH_putD (i := 2) (d := 66) (v := ?_) rfl rfl (by kernel_rfl) (by kernel_rfl) (by kernel_rfl) (fun _ _ _ h => h) (Or.inl ⟨by kernel_rfl, ?_⟩) (by first | trivial) ?_
        rotate_left
        · (intro w hS; (try dsimp only at hS); go_simp <;> with_reducible rfl)
        try simp only [List.setIfInBounds_toArray, List.set_cons_zero, List.set_cons_succ]
        refine wpAnyH_ready (rs := [1, 3]) (by kernel_rfl) (by simp) ?_
        refine AllReadyH.cons rfl (fun K hK => ?_) (AllReadyH.cons rfl (fun K hK => ?_) AllReadyH.nil)
        · have qg := XX.out.cell 7
          go_simp
          clear qg
          refine hK.out _ _ (by first | trivial) (fun hHeld => ?_)
          clear hK K
          refine wpAnyH_ready (rs := [3]) (by kernel_rfl) (by simp) ?_
          refine AllReadyH.cons rfl (fun K hK => ?_) AllReadyH.nil
          go_simp
          refine (G5.out _ _ BB.out PP.out).mono ?_
          rintro e W1 ⟨⟨E1, e1, f1, E2, e2, f2, E3, e3, f3, E4, e4, f4⟩, rfl, x, hno, hP', hu', hx'⟩
          have hlt := XX.out.lt
          have hu9 := hu'.size
          have NO := Lib.hid (hno.less (show W0.heap.size ≤ _ from by omega))
          have BB := Lib.hid (below_but BB.out hu' (by omega) (by omega))
          have XX := Lib.hid (XX.out.but hu' (by omega))
          have OO := Lib.hid (OO.out.but hu' (by omega))
          have MM := Lib.hid (MM.out.but hu' (by omega))
          have PP := Lib.hid hP'
          have HXX := Lib.hid hx'
          clear hno hP' hu' hx' hu9 hlt
          refine hK.out _ _ (by first | trivial) (fun hHeld => ?_)
          clear hK K
          refine wpAnyH_ready (rs := [4]) (by kernel_rfl) (by simp) ?_
          refine AllReadyH.cons rfl (fun K hK => ?_) AllReadyH.nil
          go_simp
          have hb' := then_alloc BB.out (.cells #[.slice E1 e1 f1, .slice E2 e2 f2, .slice E3 e3 f3, .slice E4 e4 f4] 51)
          have RN := Lib.hid (newRowN 4 1 hb' rfl (by unfold maxLen; omega))
          have XX := Lib.hid (XX.out.go hb')
          have OO := Lib.hid (OO.out.go hb')
          have MM := Lib.hid (MM.out.go hb')
          have PP := Lib.hid (PP.out.go hb')
          have NO := Lib.hid (NO.out.below hb')
          have BB := Lib.hid (below_then BB.out (Nat.le_refl _) hb')
          clear hb'
          refine hK.out _ _ (by first | trivial) (fun hHeld => ?_)
          clear hK K
          refine wpAnyH_ready (rs := [5]) (by kernel_rfl) (by simp) ?_
          refine AllReadyH.cons rfl (fun K hK => ?_) AllReadyH.nil
          rw [if_pos (by kernel_rfl)]
          have OL := Lib.hid (hacc.out ▸ OO.out.ol)
          have hlt := XX.out.lt
          refine wp_append_rd _ (.tmp 65) (.tmp 68) _ rfl W0.heap.size 51 i0 _ 4 96 Tryd.underlying72 hi0 hz0 hz1 hz2 rfl (by decide) (.slice A' m c') m (nvv L') rfl OL.out _ _ 1 1 _ rfl RN.out (ntv_one ⟨E1, e1, f1, E2, e2, f2, E3, e3, f3, E4, e4, f4⟩) h63 (by omega) (by omega) ?_
          intro D2 d2 W ho hg hat
          have PU := Lib.hid (MsO.push OO.out hacc.out XX.out NO.out ho hg)
          have MM := Lib.hid (MM.out.grown hg (grown_ne MM.out OL.out (by decide)))
          have kg := grown_below hg (show W0.heap.size ≤ _ from by omega) (fun j hj => own_lt OL.out j hj)
          have PP := Lib.hid (PP.out.below kg hg1)
          have BB := Lib.hid (BB.out.trans (kg.mono (by omega)))
          have XX := Lib.hid PU.out.1
          have OO := Lib.hid PU.out.2
          clear ho hg hat NO RN PU OL kg hlt
          refine hK.out _ _ (by first | trivial) (fun hHeld => ?_)
          clear hK K
          refine wpAnyH_putD (i := 6) (d := 70) (v := ?_) rfl rfl (by kernel_rfl) (by kernel_rfl) (by kernel_rfl) (fun _ _ _ h => h) (Or.inl ⟨by kernel_rfl, ?_⟩) (by first | trivial) ?_
          rotate_left
          · (intro w hS; (try dsimp only at hS); go_simp <;> with_reducible rfl)
          try simp only [List.setIfInBounds_toArray, List.set_cons_zero, List.set_cons_succ]
          refine wpAnyH_ready (rs := [7]) (by kernel_rfl) (by simp) ?_
          refine AllReadyH.cons rfl (fun K hK => ?_) AllReadyH.nil
          have qg := XX.out.cell 7
          have qf := XX.out.frozen 7
          go_simp
          clear qg qf
          have hu' := fun V => But.set_ (g := w1.heap.size) V (p := ⟨w1.heap.size, 7, none⟩) rfl (.slice D2 (m + 1) d2)
          have hlt := XX.out.lt
          have OO := Lib.hid (OO.out.setX XX.out 7 (.slice D2 (m + 1) d2))
          have MM := Lib.hid (MM.out.but (hu' _) (by omega))
          have PP := Lib.hid (PP.out.but (hu' _) (by omega))
          have BB := Lib.hid (below_but BB.out (hu' _) (by omega) (by omega))
          have XX := Lib.hid (show Blk _ w1.heap.size 74 #[.int .i64 3, .int .i64 fr, .int .i64 tt, .int .i64 nn, .int .i64 qq, .slice none 0 0, .slice none 0 0, .slice D2 (m + 1) d2, .int .i64 0, .int .i64 0, .int .i64 0, .slice none 0 0] from XX.out.set_ 7 (.slice D2 (m + 1) d2))
          clear hu' hlt
          refine hK.out _ _ (by first | trivial) (fun hHeld => ?_)
          clear hK K
          refine wpAnyH_done (by kernel_rfl) ?_ _
          refine Nrm.out (hKK _ _ ?_)
          have HIN := Lib.hid (InvD.next hin.out hk1 HXX.out)
          rw [if_neg (by have := hcap.out (by simp); omega)] at HIN
          go_wp2
          have hlt := XX.out.lt
          go_roundw
          case rel =>
            refine ⟨kk - 1, m + 1, d2, D2, _, acc ++ [x], L' ++ [(⟨E1, e1, f1, E2, e2, f2, E3, e3, f3, E4, e4, f4⟩, x)], by rw [show ((kk : Int) - 1) = ((kk - 1 : Nat) : Int) by omega], by omega, by omega, PP.out, ?_, ?_, ?_, ?_, by show _ = _; rw [List.length_append, hacc.out]; rfl, HIN.out, fun _ => hcap.out (by simp)⟩
            · exact XX.out
            · exact OO.out
            · exact MM.out
            · exact BB.out
          case measure => simp [intOf]; omega
        · go_simp
          refine (G5.out _ _ BB.out PP.out).mono ?_
          rintro e W1 ⟨⟨E1, e1, f1, E2, e2, f2, E3, e3, f3, E4, e4, f4⟩, rfl, x, hno, hP', hu', hx'⟩
          have hlt := XX.out.lt
          have hu9 := hu'.size
          have NO := Lib.hid (hno.less (show W0.heap.size ≤ _ from by omega))
          have BB := Lib.hid (below_but BB.out hu' (by omega) (by omega))
          have XX := Lib.hid (XX.out.but hu' (by omega))
          have OO := Lib.hid (OO.out.but hu' (by omega))
          have MM := Lib.hid (MM.out.but hu' (by omega))
          have PP := Lib.hid hP'
          have HXX := Lib.hid hx'
          clear hno hP' hu' hx' hu9 hlt
          refine hK.out _ _ (by first | trivial) (fun hHeld => ?_)
          clear hK K
          refine wpAnyH_ready (rs := [1, 4]) (by kernel_rfl) (by simp) ?_
          refine AllReadyH.cons rfl (fun K hK => ?_) (AllReadyH.cons rfl (fun K hK => ?_) AllReadyH.nil)
          · have qg := XX.out.cell 7
            go_simp
            clear qg
            refine hK.out _ _ (by first | trivial) (fun hHeld => ?_)
            clear hK K
            refine wpAnyH_ready (rs := [4]) (by kernel_rfl) (by simp) ?_
            refine AllReadyH.cons rfl (fun K hK => ?_) AllReadyH.nil
            go_simp
            have hb' := then_alloc BB.out (.cells #[.slice E1 e1 f1, .slice E2 e2 f2, .slice E3 e3 f3, .slice E4 e4 f4] 51)
            have RN := Lib.hid (newRowN 4 1 hb' rfl (by unfold maxLen; omega))
            have XX := Lib.hid (XX.out.go hb')
            have OO := Lib.hid (OO.out.go hb')
            have MM := Lib.hid (MM.out.go hb')
            have PP := Lib.hid (PP.out.go hb')
            have NO := Lib.hid (NO.out.below hb')
            have BB := Lib.hid (below_then BB.out (Nat.le_refl _) hb')
            clear hb'
            refine hK.out _ _ (by first | trivial) (fun hHeld => ?_)
            clear hK K
            refine wpAnyH_ready (rs := [5]) (by kernel_rfl) (by simp) ?_
            refine AllReadyH.cons rfl (fun K hK => ?_) AllReadyH.nil
            rw [if_pos (by kernel_rfl)]
            have OL := Lib.hid (hacc.out ▸ OO.out.ol)
            have hlt := XX.out.lt
            refine wp_append_rd _ (.tmp 65) (.tmp 68) _ rfl W0.heap.size 51 i0 _ 4 96 Tryd.underlying72 hi0 hz0 hz1 hz2 rfl (by decide) (.slice A' m c') m (nvv L') rfl OL.out _ _ 1 1 _ rfl RN.out (ntv_one ⟨E1, e1, f1, E2, e2, f2, E3, e3, f3, E4, e4, f4⟩) h63 (by omega) (by omega) ?_
            intro D2 d2 W ho hg hat
            have PU := Lib.hid (MsO.push OO.out hacc.out XX.out NO.out ho hg)
            have MM := Lib.hid (MM.out.grown hg (grown_ne MM.out OL.out (by decide)))
            have kg := grown_below hg (show W0.heap.size ≤ _ from by omega) (fun j hj => own_lt OL.out j hj)
            have PP := Lib.hid (PP.out.below kg hg1)
            have BB := Lib.hid (BB.out.trans (kg.mono (by omega)))
            have XX := Lib.hid PU.out.1
            have OO := Lib.hid PU.out.2
            clear ho hg hat NO RN PU OL kg hlt
            refine hK.out _ _ (by first | trivial) (fun hHeld => ?_)
            clear hK K
            refine wpAnyH_putD (i := 6) (d := 70) (v := ?_) rfl rfl (by kernel_rfl) (by kernel_rfl) (by kernel_rfl) (fun _ _ _ h => h) (Or.inl ⟨by kernel_rfl, ?_⟩) (by first | trivial) ?_
            rotate_left
            · (intro w hS; (try dsimp only at hS); go_simp <;> with_reducible rfl)
            try simp only [List.setIfInBounds_toArray, List.set_cons_zero, List.set_cons_succ]
            refine wpAnyH_ready (rs := [7]) (by kernel_rfl) (by simp) ?_
            refine AllReadyH.cons rfl (fun K hK => ?_) AllReadyH.nil
            have qg := XX.out.cell 7
            have qf := XX.out.frozen 7
            go_simp
            clear qg qf
            have hu' := fun V => But.set_ (g := w1.heap.size) V (p := ⟨w1.heap.size, 7, none⟩) rfl (.slice D2 (m + 1) d2)
            have hlt := XX.out.lt
            have OO := Lib.hid (OO.out.setX XX.out 7 (.slice D2 (m + 1) d2))
            have MM := Lib.hid (MM.out.but (hu' _) (by omega))
            have PP := Lib.hid (PP.out.but (hu' _) (by omega))
            have BB := Lib.hid (below_but BB.out (hu' _) (by omega) (by omega))
            have XX := Lib.hid (show Blk _ w1.heap.size 74 #[.int .i64 3, .int .i64 fr, .int .i64 tt, .int .i64 nn, .int .i64 qq, .slice none 0 0, .slice none 0 0, .slice D2 (m + 1) d2, .int .i64 0, .int .i64 0, .int .i64 0, .slice none 0 0] from XX.out.set_ 7 (.slice D2 (m + 1) d2))
            clear hu' hlt
            refine hK.out _ _ (by first | trivial) (fun hHeld => ?_)
            clear hK K
            refine wpAnyH_done (by kernel_rfl) ?_ _
            refine Nrm.out (hKK _ _ ?_)
            have HIN := Lib.hid (InvD.next hin.out hk1 HXX.out)
            rw [if_neg (by have := hcap.out (by simp); omega)] at HIN
            go_wp2
            have hlt := XX.out.lt
            go_roundw
            case rel =>
              refine ⟨kk - 1, m + 1, d2, D2, _, acc ++ [x], L' ++ [(⟨E1, e1, f1, E2, e2, f2, E3, e3, f3, E4, e4, f4⟩, x)], by rw [show ((kk : Int) - 1) = ((kk - 1 : Nat) : Int) by omega], by omega, by omega, PP.out, ?_, ?_, ?_, ?_, by show _ = _; rw [List.length_append, hacc.out]; rfl, HIN.out, fun _ => hcap.out (by simp)⟩
              · exact XX.out
              · exact OO.out
              · exact MM.out
              · exact BB.out
            case measure => simp [intOf]; omega
          · go_simp
            have hb' := then_alloc BB.out (.cells #[.slice E1 e1 f1, .slice E2 e2 f2, .slice E3 e3 f3, .slice E4 e4 f4] 51)
            have RN := Lib.hid (newRowN 4 1 hb' rfl (by unfold maxLen; omega))
            have XX := Lib.hid (XX.out.go hb')
            have OO := Lib.hid (OO.out.go hb')
            have MM := Lib.hid (MM.out.go hb')
            have PP := Lib.hid (PP.out.go hb')
            have NO := Lib.hid (NO.out.below hb')
            have BB := Lib.hid (below_then BB.out (Nat.le_refl _) hb')
            clear hb'
            refine hK.out _ _ (by first | trivial) (fun hHeld => ?_)
            clear hK K
            refine wpAnyH_ready (rs := [1]) (by kernel_rfl) (by simp) ?_
            refine AllReadyH.cons rfl (fun K hK => ?_) AllReadyH.nil
            have qg := XX.out.cell 7
            go_simp
            clear qg
            refine hK.out _ _ (by first | trivial) (fun hHeld => ?_)
            clear hK K
            refine wpAnyH_ready (rs := [5]) (by kernel_rfl) (by simp) ?_
            refine AllReadyH.cons rfl (fun K hK => ?_) AllReadyH.nil
            rw [if_pos (by kernel_rfl)]
            have OL := Lib.hid (hacc.out ▸ OO.out.ol)
            have hlt := XX.out.lt
            refine wp_append_rd _ (.tmp 65) (.tmp 68) _ rfl W0.heap.size 51 i0 _ 4 96 Tryd.underlying72 hi0 hz0 hz1 hz2 rfl (by decide) (.slice A' m c') m (nvv L') rfl OL.out _ _ 1 1 _ rfl RN.out (ntv_one ⟨E1, e1, f1, E2, e2, f2, E3, e3, f3, E4, e4, f4⟩) h63 (by omega) (by omega) ?_
            intro D2 d2 W ho hg hat
            have PU := Lib.hid (MsO.push OO.out hacc.out XX.out NO.out ho hg)
            have MM := Lib.hid (MM.out.grown hg (grown_ne MM.out OL.out (by decide)))
            have kg := grown_below hg (show W0.heap.size ≤ _ from by omega) (fun j hj => own_lt OL.out j hj)
            have PP := Lib.hid (PP.out.below kg hg1)
            have BB := Lib.hid (BB.out.trans (kg.mono (by omega)))
            have XX := Lib.hid PU.out.1
            have OO := Lib.hid PU.out.2
            clear ho hg hat NO RN PU OL kg hlt
            refine hK.out _ _ (by first | trivial) (fun hHeld => ?_)
            clear hK K
            refine wpAnyH_putD (i := 6) (d := 70) (v := ?_) rfl rfl (by kernel_rfl) (by kernel_rfl) (by kernel_rfl) (fun _ _ _ h => h) (Or.inl ⟨by kernel_rfl, ?_⟩) (by first | trivial) ?_
            rotate_left
            · (intro w hS; (try dsimp only at hS); go_simp <;> with_reducible rfl)
            try simp only [List.setIfInBounds_toArray, List.set_cons_zero, List.set_cons_succ]
            refine wpAnyH_ready (rs := [7]) (by kernel_rfl) (by simp) ?_
            refine AllReadyH.cons rfl (fun K hK => ?_) AllReadyH.nil
            have qg := XX.out.cell 7
            have qf := XX.out.frozen 7
            go_simp
            clear qg qf
            have hu' := fun V => But.set_ (g := w1.heap.size) V (p := ⟨w1.heap.size, 7, none⟩) rfl (.slice D2 (m + 1) d2)
            have hlt := XX.out.lt
            have OO := Lib.hid (OO.out.setX XX.out 7 (.slice D2 (m + 1) d2))
            have MM := Lib.hid (MM.out.but (hu' _) (by omega))
            have PP := Lib.hid (PP.out.but (hu' _) (by omega))
            have BB := Lib.hid (below_but BB.out (hu' _) (by omega) (by omega))
            have XX := Lib.hid (show Blk _ w1.heap.size 74 #[.int .i64 3, .int .i64 fr, .int .i64 tt, .int .i64 nn, .int .i64 qq, .slice none 0 0, .slice none 0 0, .slice D2 (m + 1) d2, .int .i64 0, .int .i64 0, .int .i64 0, .slice none 0 0] from XX.out.set_ 7 (.slice D2 (m + 1) d2))
            clear hu' hlt
            refine hK.out _ _ (by first | trivial) (fun hHeld => ?_)
            clear hK K
            refine wpAnyH_done (by kernel_rfl) ?_ _
            refine Nrm.out (hKK _ _ ?_)
            have HIN := Lib.hid (InvD.next hin.out hk1 HXX.out)
            rw [if_neg (by have := hcap.out (by simp); omega)] at HIN
            go_wp2
            have hlt := XX.out.lt
            go_roundw
            case rel =>
              refine ⟨kk - 1, m + 1, d2, D2, _, acc ++ [x], L' ++ [(⟨E1, e1, f1, E2, e2, f2, E3, e3, f3, E4, e4, f4⟩, x)], by rw [show ((kk : Int) - 1) = ((kk - 1 : Nat) : Int) by omega], by omega, by omega, PP.out, ?_, ?_, ?_, ?_, by show _ = _; rw [List.length_append, hacc.out]; rfl, HIN.out, fun _ => hcap.out (by simp)⟩
              · exact XX.out
              · exact OO.out
              · exact MM.out
              · exact BB.out
            case measure => simp [intOf]; omega
      · skip
        have hX99 := hX
        have hM99 := hM
        have hO99 := hO
        have hP99 := hP
        have hb99 := hb
        clear hX hM hO hP hb
        have hmm := hacc.out
        subst hmm
        by_cases hkz : 0 < kk
        · obtain rfl : s = none := by
            rcases s with _ | r
            · rfl
            · exact absurd ⟨hkz, by simp⟩ hgo
          have HKK := Lib.hid (show Wq.pM l = Wq.lift (⟨3, fr, tt, nn, qq, [], [], acc, Wq.bd0⟩ : Wq.Ms) none from by rw [HPK.out, Wq.kind_3 rfl, ← HS_t1.out, ← HS_t2.out, ← HV_nn.out, ← HV_qq.out, ← HV_cc.out]; exact hin.out.done (fun h => by rcases Nat.eq_zero_or_pos kk with h1 | h1; exact h1; exact absurd ⟨h1, h⟩ hgo))
          have HM := Lib.hid hM99
          have HB := Lib.hid hb99
          have hwb := hb99.size
          have HD := Lib.hid (Wq.dec_none HKK.out)
          obtain ⟨b2, _⟩ := hP99.bad
          have b2 : _ = some (Value.bool true) := b2
          clear hP99 hX99 hM99 hO99 hb99
          go_wp2_with (refine wpList_store_blk rfl 74 _ _ rfl w.heap.size 74 _ #[.int .i64 0, .int .i64 0, .int .i64 0, .int .i64 0, .int .i64 0, .slice none 0 0, .slice none 0 0, .slice none 0 0, .int .i64 0, .int .i64 0, .int .i64 0, .slice none 0 0] rfl rfl HM.out msg_info rfl (by simp [Value.oneCell']) ?_; intro W hblk hg)
          refine bodyPost_ret (res_ct rfl _ _ w.heap.size 74 _ _ _ rfl hblk Tryd.underlying74 rfl (by kernel_rfl)) rfl (DecP.of Wq.ms0 mv0 [] 4 rfl (ms0_rd _) (HB.out.trans (grown_below hg hwb (fun j hj => by cases hj; exact Nat.le_refl _))) (.inr ⟨HD.out, rfl, rfl⟩))
        · obtain rfl : kk = 0 := by omega
          have HKK := Lib.hid (show Wq.pM l = Wq.lift (⟨3, fr, tt, nn, qq, [], [], acc, Wq.bd0⟩ : Wq.Ms) s from by rw [HPK.out, Wq.kind_3 rfl, ← HS_t1.out, ← HS_t2.out, ← HV_nn.out, ← HV_qq.out, ← HV_cc.out]; exact hin.out.done (fun _ => rfl))
          have HX := Lib.hid hX99
          have HM := Lib.hid hM99
          have HO := Lib.hid hO99
          have HB := Lib.hid hb99
          have hwb := hb99.size
          rcases s with _ | ⟨_ | ⟨ch, r'⟩⟩
          · have HD := Lib.hid (Wq.dec_none HKK.out)
            obtain ⟨b2, _⟩ := hP99.bad
            have b2 : _ = some (Value.bool true) := b2
            clear hP99 hX99 hM99 hO99 hb99
            go_wp2_with (refine wpList_store_blk rfl 74 _ _ rfl w.heap.size 74 _ #[.int .i64 0, .int .i64 0, .int .i64 0, .int .i64 0, .int .i64 0, .slice none 0 0, .slice none 0 0, .slice none 0 0, .int .i64 0, .int .i64 0, .int .i64 0, .slice none 0 0] rfl rfl HM.out msg_info rfl (by simp [Value.oneCell']) ?_; intro W hblk hg)
            refine bodyPost_ret (res_ct rfl _ _ w.heap.size 74 _ _ _ rfl hblk Tryd.underlying74 rfl (by kernel_rfl)) rfl (DecP.of Wq.ms0 mv0 [] 4 rfl (ms0_rd _) (HB.out.trans (grown_below hg hwb (fun j hj => by cases hj; exact Nat.le_refl _))) (.inr ⟨HD.out, rfl, rfl⟩))
          · skip
            obtain ⟨Ag, ng, cg, hBg, _⟩ := hP99
            have hat : (((l.length - ([] : List UInt8).length : Nat)) : Int) = (n : Int) := by rw [HL.out]; simp
            rw [hat] at hBg
            have gc1 := hBg.cell 1
            have gc2 := hBg.cell 2
            have GFM := GF.out wr hb99 (⟨3, fr, tt, nn, qq, [], [], acc, Wq.bd0⟩ : Wq.Ms) ⟨none, 0, none, 0, A', c', none, 0⟩ L' hO99.rd (by simp)
            rcases hz : Wq.fmM (⟨3, fr, tt, nn, qq, [], [], acc, Wq.bd0⟩ : Wq.Ms) with _ | _
            · skip
              have HD := Lib.hid (Wq.dec_bad HKK.out hz)
              rw [hz] at GFM
              have GFM := Lib.hid (show Calls Tryd.prog 41 #[.agg #[.int .i64 3, .int .i64 fr, .int .i64 tt, .int .i64 nn, .int .i64 qq, .slice none 0 0, .slice none 0 0, .slice A' acc.length c', .int .i64 0, .int .i64 0, .int .i64 0, .slice none 0 0]] wr fun e w' => e = .returned (.bool false) ∧ Below wr.heap.size wr w' from GFM)
              obtain ⟨q0, q1, q2, q3, q4, q5, q6, q7, q8, q9, q10, q11⟩ := hX99.twelve
              clear hBg hX99 hM99 hO99 hb99 hz
              go_wp2_with (first
                | (go_at_call 41; go_must (refine GFM.out.mono ?_); rintro e w9 ⟨rfl, hb9⟩; have hM9 := HM.out.go hb9; have hB9 := below_then HB.out (Nat.le_refl _) hb9; have hwb9 := hB9.size)
                | (refine wpList_store_blk rfl 74 _ _ rfl w.heap.size 74 _ #[.int .i64 0, .int .i64 0, .int .i64 0, .int .i64 0, .int .i64 0, .slice none 0 0, .slice none 0 0, .slice none 0 0, .int .i64 0, .int .i64 0, .int .i64 0, .slice none 0 0] rfl rfl hM9 msg_info rfl (by simp [Value.oneCell']) ?_; intro W hblk hg)
                | fail)
              refine bodyPost_ret (res_ct rfl _ _ w.heap.size 74 _ _ _ rfl hblk Tryd.underlying74 rfl (by kernel_rfl)) rfl (DecP.of Wq.ms0 mv0 [] 4 rfl (ms0_rd _) (hB9.trans (grown_below hg hwb9 (fun j hj => by cases hj; exact Nat.le_refl _))) (.inr ⟨HD.out, rfl, rfl⟩))
            · skip
              have HD := Lib.hid (Wq.dec_good HKK.out hz)
              rw [hz] at GFM
              have GFM := Lib.hid (show Calls Tryd.prog 41 #[.agg #[.int .i64 3, .int .i64 fr, .int .i64 tt, .int .i64 nn, .int .i64 qq, .slice none 0 0, .slice none 0 0, .slice A' acc.length c', .int .i64 0, .int .i64 0, .int .i64 0, .slice none 0 0]] wr fun e w' => e = .returned (.bool true) ∧ Below wr.heap.size wr w' from GFM)
              obtain ⟨q0, q1, q2, q3, q4, q5, q6, q7, q8, q9, q10, q11⟩ := hX99.twelve
              clear hBg hX99 hM99 hO99 hb99 hz
              go_wp2_with (first
                | (go_at_call 41; go_must (refine GFM.out.mono ?_); rintro e w9 ⟨rfl, hb9⟩; have hM9 := HM.out.go hb9; have hB9 := below_then HB.out (Nat.le_refl _) hb9; have hwb9 := hB9.size; clear q0 q1 q2 q3 q4 q5 q6 q7 q8 q9 q10 q11; obtain ⟨q0, q1, q2, q3, q4, q5, q6, q7, q8, q9, q10, q11⟩ := (HX.out.go hb9).twelve)
                | (refine wpList_store_blk rfl 74 _ _ rfl w.heap.size 74 _ #[.int .i64 3, .int .i64 fr, .int .i64 tt, .int .i64 nn, .int .i64 qq, .slice none 0 0, .slice none 0 0, .slice A' acc.length c', .int .i64 0, .int .i64 0, .int .i64 0, .slice none 0 0] rfl rfl hM9 msg_info rfl (by simp [Value.oneCell']) ?_; intro W hblk hg)
                | fail)
              refine bodyPost_ret (res_ct rfl _ _ w.heap.size 74 _ _ _ rfl hblk Tryd.underlying74 rfl (by kernel_rfl)) rfl (DecP.of (⟨3, fr, tt, nn, qq, [], [], acc, Wq.bd0⟩ : Wq.Ms) ⟨none, 0, none, 0, A', c', none, 0⟩ L' 0 rfl ((HO.out.go hb9).blk hM9 hg).rd (hB9.trans (grown_below hg hwb9 (fun j hj => by cases hj; exact Nat.le_refl _))) (.inl ⟨HD.out, rfl⟩))
          · skip
            have HD := Lib.hid (Wq.dec_rest HKK.out)
            obtain ⟨Ag, ng, cg, hBg, _, _, _, hle⟩ := hP99
            obtain ⟨x, hx⟩ : ∃ x : Int, x = ((l.length - (ch :: r').length : Nat) : Int) := ⟨_, rfl⟩
            have hne : (x != (n : Int)) = true := by rw [hx, ← HL.out]; simp only [List.length_cons] at hle ⊢; simp; omega
            rw [← hx] at hBg
            have gc1 := hBg.cell 1
            have gc2 := hBg.cell 2
            clear hx hle
            clear hBg hX99 hM99 hO99 hb99
            go_wp2_with (refine wpList_store_blk rfl 74 _ _ rfl w.heap.size 74 _ #[.int .i64 0, .int .i64 0, .int .i64 0, .int .i64 0, .int .i64 0, .slice none 0 0, .slice none 0 0, .slice none 0 0, .int .i64 0, .int .i64 0, .int .i64 0, .slice none 0 0] rfl rfl HM.out msg_info rfl (by simp [Value.oneCell']) ?_; intro W hblk hg)
            refine bodyPost_ret (res_ct rfl _ _ w.heap.size 74 _ _ _ rfl hblk Tryd.underlying74 rfl (by kernel_rfl)) rfl (DecP.of Wq.ms0 mv0 [] 4 rfl (ms0_rd _) (HB.out.trans (grown_below hg hwb (fun j hj => by cases hj; exact Nat.le_refl _))) (.inr ⟨HD.out, rfl, rfl⟩))
  have hk3b : ((k : Int) == 3) = false := by simp; omega
  by_cases hk4 : k = 4
  · -- kind 4
    subst hk4
    have hX6 : Blk W6 w1.heap.size 74 #[.int .i64 4, .int .i64 fr, .int .i64 tt, .int .i64 0, .int .i64 0, .slice none 0 0, .slice none 0 0, .slice none 0 0, .int .i64 0, .int .i64 0, .int .i64 0, .slice none 0 0] := hX6
    clear hx60
    have hx60 := hX6.cell 0
    go_wp2_with fail
    refine (G1.out _ _ hP6).mono ?_
    rintro e w7 ⟨rfl, hP7, hu7⟩
    have hs7 := hu7.size
    obtain ⟨oo, hvar⟩ : ∃ x, x = numV s3 := ⟨_, rfl⟩
    obtain ⟨t1, hst⟩ : ∃ t, t = numS s3 := ⟨_, rfl⟩
    rw [← hst] at hP7
    rw [← hvar]
    have HV_oo := Lib.hid hvar
    have HS_t1 := Lib.hid hst
    have hX7 := hX6.but hu7 (by omega)
    have hM7 := hM6.but hu7 (by omega)
    have hb7 := below_but hb6 hu7 (by omega) (by omega)
    have xf8 := hX7.frozen 8
    have xc8 := hX7.cell 8
    have hu8 : But w1.heap.size w7 (w7.setCell ⟨w1.heap.size, 8, none⟩ (.int .i64 oo)) := But.set_ (g := w1.heap.size) _ (p := ⟨w1.heap.size, 8, none⟩) rfl _
    have hX8 : Blk (w7.setCell ⟨w1.heap.size, 8, none⟩ (.int .i64 oo)) w1.heap.size 74 #[.int .i64 4, .int .i64 fr, .int .i64 tt, .int .i64 0, .int .i64 0, .slice none 0 0, .slice none 0 0, .slice none 0 0, .int .i64 oo, .int .i64 0, .int .i64 0, .slice none 0 0] := (hX7.set_ 8 (.int .i64 oo))
    have hP8 := hP7.but hu8 (by omega)
    have hM8 := hM7.but hu8 (by omega)
    have hb8 := below_but hb7 hu8 (by omega) (by omega)
    obtain ⟨W8, hW8⟩ : ∃ W8, W8 = (w7.setCell ⟨w1.heap.size, 8, none⟩ (.int .i64 oo)) := ⟨_, rfl⟩
    have hs8 : W8.heap.size = w7.heap.size := by rw [hW8]; simp
    rw [← hW8] at hX8 hP8 hM8 hb8
    have HW8 := Lib.hid hW8.symm
    clear hu7 hP7 hX7 hM7 hb7 hu8 hW8
    clear hvar hst hP6 hX6 hM6 hb6
    go_upto_region 22 with fail
    rw [HW8.out]
    have hO8 := MsO.nil W8 W0.heap.size
    have HKK := Lib.hid (show Wq.pM l = Wq.lift (⟨4, fr, tt, 0, 0, [], [], [], ⟨oo, (0, 0), []⟩⟩ : Wq.Ms) t1 from by rw [HPK.out, Wq.kind_4 rfl, ← HS_t1.out, ← HV_oo.out])
    have HX := Lib.hid hX8
    have HM := Lib.hid hM8
    have HO := Lib.hid hO8
    have HB := Lib.hid hb8
    have hwb := hb8.size
    rcases t1 with _ | ⟨_ | ⟨ch, r'⟩⟩
    · have HD := Lib.hid (Wq.dec_none HKK.out)
      obtain ⟨b2, _⟩ := hP8.bad
      have b2 : _ = some (Value.bool true) := b2
      clear hP8 hX8 hM8 hO8 hb8
      go_wp2_with (refine wpList_store_blk rfl 74 _ _ rfl w.heap.size 74 _ #[.int .i64 0, .int .i64 0, .int .i64 0, .int .i64 0, .int .i64 0, .slice none 0 0, .slice none 0 0, .slice none 0 0, .int .i64 0, .int .i64 0, .int .i64 0, .slice none 0 0] rfl rfl HM.out msg_info rfl (by simp [Value.oneCell']) ?_; intro W hblk hg)
      refine bodyPost_ret (res_ct rfl _ _ w.heap.size 74 _ _ _ rfl hblk Tryd.underlying74 rfl (by kernel_rfl)) rfl (DecP.of Wq.ms0 mv0 [] 4 rfl (ms0_rd _) (HB.out.trans (grown_below hg hwb (fun j hj => by cases hj; exact Nat.le_refl _))) (.inr ⟨HD.out, rfl, rfl⟩))
    · skip
      obtain ⟨Ag, ng, cg, hBg, _⟩ := hP8
      have hat : (((l.length - ([] : List UInt8).length : Nat)) : Int) = (n : Int) := by rw [HL.out]; simp
      rw [hat] at hBg
      have gc1 := hBg.cell 1
      have gc2 := hBg.cell 2
      have GFM := GF.out W8 hb8 (⟨4, fr, tt, 0, 0, [], [], [], ⟨oo, (0, 0), []⟩⟩ : Wq.Ms) ⟨none, 0, none, 0, none, 0, none, 0⟩ [] hO8.rd (by simp)
      rcases hz : Wq.fmM (⟨4, fr, tt, 0, 0, [], [], [], ⟨oo, (0, 0), []⟩⟩ : Wq.Ms) with _ | _
      · skip
        have HD := Lib.hid (Wq.dec_bad HKK.out hz)
        rw [hz] at GFM
        have GFM := Lib.hid (show Calls Tryd.prog 41 #[.agg #[.int .i64 4, .int .i64 fr, .int .i64 tt, .int .i64 0, .int .i64 0, .slice none 0 0, .slice none 0 0, .slice none 0 0, .int .i64 oo, .int .i64 0, .int .i64 0, .slice none 0 0]] W8 fun e w' => e = .returned (.bool false) ∧ Below W8.heap.size W8 w' from GFM)
        obtain ⟨q0, q1, q2, q3, q4, q5, q6, q7, q8, q9, q10, q11⟩ := hX8.twelve
        clear hBg hX8 hM8 hO8 hb8 hz
        go_wp2_with (first
          | (go_at_call 41; go_must (refine GFM.out.mono ?_); rintro e w9 ⟨rfl, hb9⟩; have hM9 := HM.out.go hb9; have hB9 := below_then HB.out (Nat.le_refl _) hb9; have hwb9 := hB9.size)
          | (refine wpList_store_blk rfl 74 _ _ rfl w.heap.size 74 _ #[.int .i64 0, .int .i64 0, .int .i64 0, .int .i64 0, .int .i64 0, .slice none 0 0, .slice none 0 0, .slice none 0 0, .int .i64 0, .int .i64 0, .int .i64 0, .slice none 0 0] rfl rfl hM9 msg_info rfl (by simp [Value.oneCell']) ?_; intro W hblk hg)
          | fail)
        refine bodyPost_ret (res_ct rfl _ _ w.heap.size 74 _ _ _ rfl hblk Tryd.underlying74 rfl (by kernel_rfl)) rfl (DecP.of Wq.ms0 mv0 [] 4 rfl (ms0_rd _) (hB9.trans (grown_below hg hwb9 (fun j hj => by cases hj; exact Nat.le_refl _))) (.inr ⟨HD.out, rfl, rfl⟩))
      · skip
        have HD := Lib.hid (Wq.dec_good HKK.out hz)
        rw [hz] at GFM
        have GFM := Lib.hid (show Calls Tryd.prog 41 #[.agg #[.int .i64 4, .int .i64 fr, .int .i64 tt, .int .i64 0, .int .i64 0, .slice none 0 0, .slice none 0 0, .slice none 0 0, .int .i64 oo, .int .i64 0, .int .i64 0, .slice none 0 0]] W8 fun e w' => e = .returned (.bool true) ∧ Below W8.heap.size W8 w' from GFM)
        obtain ⟨q0, q1, q2, q3, q4, q5, q6, q7, q8, q9, q10, q11⟩ := hX8.twelve
        clear hBg hX8 hM8 hO8 hb8 hz
        go_wp2_with (first
          | (go_at_call 41; go_must (refine GFM.out.mono ?_); rintro e w9 ⟨rfl, hb9⟩; have hM9 := HM.out.go hb9; have hB9 := below_then HB.out (Nat.le_refl _) hb9; have hwb9 := hB9.size; clear q0 q1 q2 q3 q4 q5 q6 q7 q8 q9 q10 q11; obtain ⟨q0, q1, q2, q3, q4, q5, q6, q7, q8, q9, q10, q11⟩ := (HX.out.go hb9).twelve)
          | (refine wpList_store_blk rfl 74 _ _ rfl w.heap.size 74 _ #[.int .i64 4, .int .i64 fr, .int .i64 tt, .int .i64 0, .int .i64 0, .slice none 0 0, .slice none 0 0, .slice none 0 0, .int .i64 oo, .int .i64 0, .int .i64 0, .slice none 0 0] rfl rfl hM9 msg_info rfl (by simp [Value.oneCell']) ?_; intro W hblk hg)
          | fail)
        refine bodyPost_ret (res_ct rfl _ _ w.heap.size 74 _ _ _ rfl hblk Tryd.underlying74 rfl (by kernel_rfl)) rfl (DecP.of (⟨4, fr, tt, 0, 0, [], [], [], ⟨oo, (0, 0), []⟩⟩ : Wq.Ms) ⟨none, 0, none, 0, none, 0, none, 0⟩ [] 0 rfl ((HO.out.go hb9).blk hM9 hg).rd (hB9.trans (grown_below hg hwb9 (fun j hj => by cases hj; exact Nat.le_refl _))) (.inl ⟨HD.out, rfl⟩))
    · skip
      have HD := Lib.hid (Wq.dec_rest HKK.out)
      obtain ⟨Ag, ng, cg, hBg, _, _, _, hle⟩ := hP8
      obtain ⟨x, hx⟩ : ∃ x : Int, x = ((l.length - (ch :: r').length : Nat) : Int) := ⟨_, rfl⟩
      have hne : (x != (n : Int)) = true := by rw [hx, ← HL.out]; simp only [List.length_cons] at hle ⊢; simp; omega
      rw [← hx] at hBg
      have gc1 := hBg.cell 1
      have gc2 := hBg.cell 2
      clear hx hle
      clear hBg hX8 hM8 hO8 hb8
      go_wp2_with (refine wpList_store_blk rfl 74 _ _ rfl w.heap.size 74 _ #[.int .i64 0, .int .i64 0, .int .i64 0, .int .i64 0, .int .i64 0, .slice none 0 0, .slice none 0 0, .slice none 0 0, .int .i64 0, .int .i64 0, .int .i64 0, .slice none 0 0] rfl rfl HM.out msg_info rfl (by simp [Value.oneCell']) ?_; intro W hblk hg)
      refine bodyPost_ret (res_ct rfl _ _ w.heap.size 74 _ _ _ rfl hblk Tryd.underlying74 rfl (by kernel_rfl)) rfl (DecP.of Wq.ms0 mv0 [] 4 rfl (ms0_rd _) (HB.out.trans (grown_below hg hwb (fun j hj => by cases hj; exact Nat.le_refl _))) (.inr ⟨HD.out, rfl, rfl⟩))
  have hk4b : ((k : Int) == 4) = false := by simp; omega
  by_cases hk5 : k = 5
  · -- kind 5
    subst hk5
    have hX6 : Blk W6 w1.heap.size 74 #[.int .i64 5, .int .i64 fr, .int .i64 tt, .int .i64 0, .int .i64 0, .slice none 0 0, .slice none 0 0, .slice none 0 0, .int .i64 0, .int .i64 0, .int .i64 0, .slice none 0 0] := hX6
    clear hx60
    have hx60 := hX6.cell 0
    go_wp2_with fail
    refine (G6.out _ _ hP6).mono ?_
    rintro e w7 ⟨⟨bo, ⟨ba, bb⟩, bw⟩, bA, bc, rfl, o7, hP7, hu7, hvb⟩
    dsimp only at o7
    have hs7 := hu7.size
    have HVB := Lib.hid hvb
    obtain ⟨t1, hst⟩ : ∃ t, t = Wq.st Wq.pB s3 := ⟨_, rfl⟩
    rw [← hst] at hP7
    have HS_t1 := Lib.hid hst
    have hX7 := hX6.but hu7 (by omega)
    have hM7 := hM6.but hu7 (by omega)
    have hb7 := below_but hb6 hu7 (by omega) (by omega)
    have hO7 : MsO w7 W0.heap.size ⟨none, 0, none, 0, none, 0, bA, bc⟩ [] [] [] bw [] := ⟨World.ownsRow_nil _ _ _ _, World.ownsRow_nil _ _ _ _, World.ownsRow_nil _ _ _ _, rfl, (fun p hp => by cases hp), own_less o7 (by omega)⟩
    have xf8 := hX7.frozen 8
    have xc8 := hX7.cell 8
    have xf9 := hX7.frozen 9
    have xc9 := hX7.cell 9
    have xf10 := hX7.frozen 10
    have xc10 := hX7.cell 10
    have xf11 := hX7.frozen 11
    have xc11 := hX7.cell 11
    have hu8 : But w1.heap.size w7 ((((w7.setCell ⟨w1.heap.size, 8, none⟩ (.int .i64 bo)).setCell ⟨w1.heap.size, 9, none⟩ (.int .i64 ba)).setCell ⟨w1.heap.size, 10, none⟩ (.int .i64 bb)).setCell ⟨w1.heap.size, 11, none⟩ (.slice bA bw.length bc)) := (((But.set_ (g := w1.heap.size) _ (p := ⟨w1.heap.size, 8, none⟩) rfl _).trans (But.set_ (g := w1.heap.size) _ (p := ⟨w1.heap.size, 9, none⟩) rfl _)).trans (But.set_ (g := w1.heap.size) _ (p := ⟨w1.heap.size, 10, none⟩) rfl _)).trans (But.set_ (g := w1.heap.size) _ (p := ⟨w1.heap.size, 11, none⟩) rfl _)
    have hX8 : Blk ((((w7.setCell ⟨w1.heap.size, 8, none⟩ (.int .i64 bo)).setCell ⟨w1.heap.size, 9, none⟩ (.int .i64 ba)).setCell ⟨w1.heap.size, 10, none⟩ (.int .i64 bb)).setCell ⟨w1.heap.size, 11, none⟩ (.slice bA bw.length bc)) w1.heap.size 74 #[.int .i64 5, .int .i64 fr, .int .i64 tt, .int .i64 0, .int .i64 0, .slice none 0 0, .slice none 0 0, .slice none 0 0, .int .i64 bo, .int .i64 ba, .int .i64 bb, .slice bA bw.length bc] := ((((hX7.set_ 8 (.int .i64 bo)).set_ 9 (.int .i64 ba)).set_ 10 (.int .i64 bb)).set_ 11 (.slice bA bw.length bc))
    have hP8 := hP7.but hu8 (by omega)
    have hM8 := hM7.but hu8 (by omega)
    have hb8 := below_but hb7 hu8 (by omega) (by omega)
    have hO8 := ((((hO7.setX hX7 8 (.int .i64 bo)).setX (hX7.set_ 8 (.int .i64 bo)) 9 (.int .i64 ba)).setX ((hX7.set_ 8 (.int .i64 bo)).set_ 9 (.int .i64 ba)) 10 (.int .i64 bb)).setX (((hX7.set_ 8 (.int .i64 bo)).set_ 9 (.int .i64 ba)).set_ 10 (.int .i64 bb)) 11 (.slice bA bw.length bc))
    obtain ⟨W8, hW8⟩ : ∃ W8, W8 = ((((w7.setCell ⟨w1.heap.size, 8, none⟩ (.int .i64 bo)).setCell ⟨w1.heap.size, 9, none⟩ (.int .i64 ba)).setCell ⟨w1.heap.size, 10, none⟩ (.int .i64 bb)).setCell ⟨w1.heap.size, 11, none⟩ (.slice bA bw.length bc)) := ⟨_, rfl⟩
    have hs8 : W8.heap.size = w7.heap.size := by rw [hW8]; simp
    rw [← hW8] at hX8 hP8 hM8 hb8 hO8
    have HW8 := Lib.hid hW8.symm
    clear hu7 hP7 hX7 hM7 hb7 hu8 hW8
    clear hst hvb o7 hP6 hX6 hM6 hb6
    clear hO7
    go_upto_region 22 with fail
    rw [HW8.out]
    have HKK := Lib.hid (show Wq.pM l = Wq.lift (⟨5, fr, tt, 0, 0, [], [], [], ⟨bo, (ba, bb), bw⟩⟩ : Wq.Ms) t1 from by rw [HPK.out, Wq.kind_5 rfl HVB.out, ← HS_t1.out])
    have HX := Lib.hid hX8
    have HM := Lib.hid hM8
    have HO := Lib.hid hO8
    have HB := Lib.hid hb8
    have hwb := hb8.size
    rcases t1 with _ | ⟨_ | ⟨ch, r'⟩⟩
    · have HD := Lib.hid (Wq.dec_none HKK.out)
      obtain ⟨b2, _⟩ := hP8.bad
      have b2 : _ = some (Value.bool true) := b2
      clear hP8 hX8 hM8 hO8 hb8
      go_wp2_with (refine wpList_store_blk rfl 74 _ _ rfl w.heap.size 74 _ #[.int .i64 0, .int .i64 0, .int .i64 0, .int .i64 0, .int .i64 0, .slice none 0 0, .slice none 0 0, .slice none 0 0, .int .i64 0, .int .i64 0, .int .i64 0, .slice none 0 0] rfl rfl HM.out msg_info rfl (by simp [Value.oneCell']) ?_; intro W hblk hg)
      refine bodyPost_ret (res_ct rfl _ _ w.heap.size 74 _ _ _ rfl hblk Tryd.underlying74 rfl (by kernel_rfl)) rfl (DecP.of Wq.ms0 mv0 [] 4 rfl (ms0_rd _) (HB.out.trans (grown_below hg hwb (fun j hj => by cases hj; exact Nat.le_refl _))) (.inr ⟨HD.out, rfl, rfl⟩))
    · skip
      obtain ⟨Ag, ng, cg, hBg, _⟩ := hP8
      have hat : (((l.length - ([] : List UInt8).length : Nat)) : Int) = (n : Int) := by rw [HL.out]; simp
      rw [hat] at hBg
      have gc1 := hBg.cell 1
      have gc2 := hBg.cell 2
      have GFM := GF.out W8 hb8 (⟨5, fr, tt, 0, 0, [], [], [], ⟨bo, (ba, bb), bw⟩⟩ : Wq.Ms) ⟨none, 0, none, 0, none, 0, bA, bc⟩ [] hO8.rd (by simp)
      rcases hz : Wq.fmM (⟨5, fr, tt, 0, 0, [], [], [], ⟨bo, (ba, bb), bw⟩⟩ : Wq.Ms) with _ | _
      · skip
        have HD := Lib.hid (Wq.dec_bad HKK.out hz)
        rw [hz] at GFM
        have GFM := Lib.hid (show Calls Tryd.prog 41 #[.agg #[.int .i64 5, .int .i64 fr, .int .i64 tt, .int .i64 0, .int .i64 0, .slice none 0 0, .slice none 0 0, .slice none 0 0, .int .i64 bo, .int .i64 ba, .int .i64 bb, .slice bA bw.length bc]] W8 fun e w' => e = .returned (.bool false) ∧ Below W8.heap.size W8 w' from GFM)
        obtain ⟨q0, q1, q2, q3, q4, q5, q6, q7, q8, q9, q10, q11⟩ := hX8.twelve
        clear hBg hX8 hM8 hO8 hb8 hz
        go_wp2_with (first
          | (go_at_call 41; go_must (refine GFM.out.mono ?_); rintro e w9 ⟨rfl, hb9⟩; have hM9 := HM.out.go hb9; have hB9 := below_then HB.out (Nat.le_refl _) hb9; have hwb9 := hB9.size)
          | (refine wpList_store_blk rfl 74 _ _ rfl w.heap.size 74 _ #[.int .i64 0, .int .i64 0, .int .i64 0, .int .i64 0, .int .i64 0, .slice none 0 0, .slice none 0 0, .slice none 0 0, .int .i64 0, .int .i64 0, .int .i64 0, .slice none 0 0] rfl rfl hM9 msg_info rfl (by simp [Value.oneCell']) ?_; intro W hblk hg)
          | fail)
        refine bodyPost_ret (res_ct rfl _ _ w.heap.size 74 _ _ _ rfl hblk Tryd.underlying74 rfl (by kernel_rfl)) rfl (DecP.of Wq.ms0 mv0 [] 4 rfl (ms0_rd _) (hB9.trans (grown_below hg hwb9 (fun j hj => by cases hj; exact Nat.le_refl _))) (.inr ⟨HD.out, rfl, rfl⟩))
      · skip
        have HD := Lib.hid (Wq.dec_good HKK.out hz)
        rw [hz] at GFM
        have GFM := Lib.hid (show Calls Tryd.prog 41 #[.agg #[.int .i64 5, .int .i64 fr, .int .i64 tt, .int .i64 0, .int .i64 0, .slice none 0 0, .slice none 0 0, .slice none 0 0, .int .i64 bo, .int .i64 ba, .int .i64 bb, .slice bA bw.length bc]] W8 fun e w' => e = .returned (.bool true) ∧ Below W8.heap.size W8 w' from GFM)
        obtain ⟨q0, q1, q2, q3, q4, q5, q6, q7, q8, q9, q10, q11⟩ := hX8.twelve
        clear hBg hX8 hM8 hO8 hb8 hz
        go_wp2_with (first
          | (go_at_call 41; go_must (refine GFM.out.mono ?_); rintro e w9 ⟨rfl, hb9⟩; have hM9 := HM.out.go hb9; have hB9 := below_then HB.out (Nat.le_refl _) hb9; have hwb9 := hB9.size; clear q0 q1 q2 q3 q4 q5 q6 q7 q8 q9 q10 q11; obtain ⟨q0, q1, q2, q3, q4, q5, q6, q7, q8, q9, q10, q11⟩ := (HX.out.go hb9).twelve)
          | (refine wpList_store_blk rfl 74 _ _ rfl w.heap.size 74 _ #[.int .i64 5, .int .i64 fr, .int .i64 tt, .int .i64 0, .int .i64 0, .slice none 0 0, .slice none 0 0, .slice none 0 0, .int .i64 bo, .int .i64 ba, .int .i64 bb, .slice bA bw.length bc] rfl rfl hM9 msg_info rfl (by simp [Value.oneCell']) ?_; intro W hblk hg)
          | fail)
        refine bodyPost_ret (res_ct rfl _ _ w.heap.size 74 _ _ _ rfl hblk Tryd.underlying74 rfl (by kernel_rfl)) rfl (DecP.of (⟨5, fr, tt, 0, 0, [], [], [], ⟨bo, (ba, bb), bw⟩⟩ : Wq.Ms) ⟨none, 0, none, 0, none, 0, bA, bc⟩ [] 0 rfl ((HO.out.go hb9).blk hM9 hg).rd (hB9.trans (grown_below hg hwb9 (fun j hj => by cases hj; exact Nat.le_refl _))) (.inl ⟨HD.out, rfl⟩))
    · skip
      have HD := Lib.hid (Wq.dec_rest HKK.out)
      obtain ⟨Ag, ng, cg, hBg, _, _, _, hle⟩ := hP8
      obtain ⟨x, hx⟩ : ∃ x : Int, x = ((l.length - (ch :: r').length : Nat) : Int) := ⟨_, rfl⟩
      have hne : (x != (n : Int)) = true := by rw [hx, ← HL.out]; simp only [List.length_cons] at hle ⊢; simp; omega
      rw [← hx] at hBg
      have gc1 := hBg.cell 1
      have gc2 := hBg.cell 2
      clear hx hle
      clear hBg hX8 hM8 hO8 hb8
      go_wp2_with (refine wpList_store_blk rfl 74 _ _ rfl w.heap.size 74 _ #[.int .i64 0, .int .i64 0, .int .i64 0, .int .i64 0, .int .i64 0, .slice none 0 0, .slice none 0 0, .slice none 0 0, .int .i64 0, .int .i64 0, .int .i64 0, .slice none 0 0] rfl rfl HM.out msg_info rfl (by simp [Value.oneCell']) ?_; intro W hblk hg)
      refine bodyPost_ret (res_ct rfl _ _ w.heap.size 74 _ _ _ rfl hblk Tryd.underlying74 rfl (by kernel_rfl)) rfl (DecP.of Wq.ms0 mv0 [] 4 rfl (ms0_rd _) (HB.out.trans (grown_below hg hwb (fun j hj => by cases hj; exact Nat.le_refl _))) (.inr ⟨HD.out, rfl, rfl⟩))
  have hk5b : ((k : Int) == 5) = false := by simp; omega
  have hO6 := MsO.nil W6 W0.heap.size
  have HKK := Lib.hid (show Wq.pM l = Wq.lift (⟨k, fr, tt, 0, 0, [], [], [], Wq.bd0⟩ : Wq.Ms) s3 from by rw [HPK.out, Wq.kind_e hk1 hk3 hk4 hk5])
  have HX := Lib.hid hX6
  have HM := Lib.hid hM6
  have HO := Lib.hid hO6
  have HB := Lib.hid hb6
  have hwb := hb6.size
  rcases s3 with _ | ⟨_ | ⟨ch, r'⟩⟩
  · have HD := Lib.hid (Wq.dec_none HKK.out)
    obtain ⟨b2, _⟩ := hP6.bad
    have b2 : _ = some (Value.bool true) := b2
    clear hP6 hX6 hM6 hO6 hb6
    go_wp2_with (refine wpList_store_blk rfl 74 _ _ rfl w.heap.size 74 _ #[.int .i64 0, .int .i64 0, .int .i64 0, .int .i64 0, .int .i64 0, .slice none 0 0, .slice none 0 0, .slice none 0 0, .int .i64 0, .int .i64 0, .int .i64 0, .slice none 0 0] rfl rfl HM.out msg_info rfl (by simp [Value.oneCell']) ?_; intro W hblk hg)
    refine bodyPost_ret (res_ct rfl _ _ w.heap.size 74 _ _ _ rfl hblk Tryd.underlying74 rfl (by kernel_rfl)) rfl (DecP.of Wq.ms0 mv0 [] 4 rfl (ms0_rd _) (HB.out.trans (grown_below hg hwb (fun j hj => by cases hj; exact Nat.le_refl _))) (.inr ⟨HD.out, rfl, rfl⟩))
  · skip
    obtain ⟨Ag, ng, cg, hBg, _⟩ := hP6
    have hat : (((l.length - ([] : List UInt8).length : Nat)) : Int) = (n : Int) := by rw [HL.out]; simp
    rw [hat] at hBg
    have gc1 := hBg.cell 1
    have gc2 := hBg.cell 2
    have GFM := GF.out W6 hb6 (⟨k, fr, tt, 0, 0, [], [], [], Wq.bd0⟩ : Wq.Ms) ⟨none, 0, none, 0, none, 0, none, 0⟩ [] hO6.rd (by simp)
    rcases hz : Wq.fmM (⟨k, fr, tt, 0, 0, [], [], [], Wq.bd0⟩ : Wq.Ms) with _ | _
    · skip
      have HD := Lib.hid (Wq.dec_bad HKK.out hz)
      rw [hz] at GFM
      have GFM := Lib.hid (show Calls Tryd.prog 41 #[.agg #[.int .i64 k, .int .i64 fr, .int .i64 tt, .int .i64 0, .int .i64 0, .slice none 0 0, .slice none 0 0, .slice none 0 0, .int .i64 0, .int .i64 0, .int .i64 0, .slice none 0 0]] W6 fun e w' => e = .returned (.bool false) ∧ Below W6.heap.size W6 w' from GFM)
      obtain ⟨q0, q1, q2, q3, q4, q5, q6, q7, q8, q9, q10, q11⟩ := hX6.twelve
      clear hBg hX6 hM6 hO6 hb6 hz
      go_wp2_with (first
        | (go_at_call 41; go_must (refine GFM.out.mono ?_); rintro e w9 ⟨rfl, hb9⟩; have hM9 := HM.out.go hb9; have hB9 := below_then HB.out (Nat.le_refl _) hb9; have hwb9 := hB9.size)
        | (refine wpList_store_blk rfl 74 _ _ rfl w.heap.size 74 _ #[.int .i64 0, .int .i64 0, .int .i64 0, .int .i64 0, .int .i64 0, .slice none 0 0, .slice none 0 0, .slice none 0 0, .int .i64 0, .int .i64 0, .int .i64 0, .slice none 0 0] rfl rfl hM9 msg_info rfl (by simp [Value.oneCell']) ?_; intro W hblk hg)
        | fail)
      refine bodyPost_ret (res_ct rfl _ _ w.heap.size 74 _ _ _ rfl hblk Tryd.underlying74 rfl (by kernel_rfl)) rfl (DecP.of Wq.ms0 mv0 [] 4 rfl (ms0_rd _) (hB9.trans (grown_below hg hwb9 (fun j hj => by cases hj; exact Nat.le_refl _))) (.inr ⟨HD.out, rfl, rfl⟩))
    · skip
      have HD := Lib.hid (Wq.dec_good HKK.out hz)
      rw [hz] at GFM
      have GFM := Lib.hid (show Calls Tryd.prog 41 #[.agg #[.int .i64 k, .int .i64 fr, .int .i64 tt, .int .i64 0, .int .i64 0, .slice none 0 0, .slice none 0 0, .slice none 0 0, .int .i64 0, .int .i64 0, .int .i64 0, .slice none 0 0]] W6 fun e w' => e = .returned (.bool true) ∧ Below W6.heap.size W6 w' from GFM)
      obtain ⟨q0, q1, q2, q3, q4, q5, q6, q7, q8, q9, q10, q11⟩ := hX6.twelve
      clear hBg hX6 hM6 hO6 hb6 hz
      go_wp2_with (first
        | (go_at_call 41; go_must (refine GFM.out.mono ?_); rintro e w9 ⟨rfl, hb9⟩; have hM9 := HM.out.go hb9; have hB9 := below_then HB.out (Nat.le_refl _) hb9; have hwb9 := hB9.size; clear q0 q1 q2 q3 q4 q5 q6 q7 q8 q9 q10 q11; obtain ⟨q0, q1, q2, q3, q4, q5, q6, q7, q8, q9, q10, q11⟩ := (HX.out.go hb9).twelve)
        | (refine wpList_store_blk rfl 74 _ _ rfl w.heap.size 74 _ #[.int .i64 k, .int .i64 fr, .int .i64 tt, .int .i64 0, .int .i64 0, .slice none 0 0, .slice none 0 0, .slice none 0 0, .int .i64 0, .int .i64 0, .int .i64 0, .slice none 0 0] rfl rfl hM9 msg_info rfl (by simp [Value.oneCell']) ?_; intro W hblk hg)
        | fail)
      refine bodyPost_ret (res_ct rfl _ _ w.heap.size 74 _ _ _ rfl hblk Tryd.underlying74 rfl (by kernel_rfl)) rfl (DecP.of (⟨k, fr, tt, 0, 0, [], [], [], Wq.bd0⟩ : Wq.Ms) ⟨none, 0, none, 0, none, 0, none, 0⟩ [] 0 rfl ((HO.out.go hb9).blk hM9 hg).rd (hB9.trans (grown_below hg hwb9 (fun j hj => by cases hj; exact Nat.le_refl _))) (.inl ⟨HD.out, rfl⟩))
  · skip
    have HD := Lib.hid (Wq.dec_rest HKK.out)
    obtain ⟨Ag, ng, cg, hBg, _, _, _, hle⟩ := hP6
    obtain ⟨x, hx⟩ : ∃ x : Int, x = ((l.length - (ch :: r').length : Nat) : Int) := ⟨_, rfl⟩
    have hne : (x != (n : Int)) = true := by rw [hx, ← HL.out]; simp only [List.length_cons] at hle ⊢; simp; omega
    rw [← hx] at hBg
    have gc1 := hBg.cell 1
    have gc2 := hBg.cell 2
    clear hx hle
    clear hBg hX6 hM6 hO6 hb6
    go_wp2_with (refine wpList_store_blk rfl 74 _ _ rfl w.heap.size 74 _ #[.int .i64 0, .int .i64 0, .int .i64 0, .int .i64 0, .int .i64 0, .slice none 0 0, .slice none 0 0, .slice none 0 0, .int .i64 0, .int .i64 0, .int .i64 0, .slice none 0 0] rfl rfl HM.out msg_info rfl (by simp [Value.oneCell']) ?_; intro W hblk hg)
    refine bodyPost_ret (res_ct rfl _ _ w.heap.size 74 _ _ _ rfl hblk Tryd.underlying74 rfl (by kernel_rfl)) rfl (DecP.of Wq.ms0 mv0 [] 4 rfl (ms0_rd _) (HB.out.trans (grown_below hg hwb (fun j hj => by cases hj; exact Nat.le_refl _))) (.inr ⟨HD.out, rfl, rfl⟩))
end Go.Proofs.YtndlcimckfndiaaDoor
