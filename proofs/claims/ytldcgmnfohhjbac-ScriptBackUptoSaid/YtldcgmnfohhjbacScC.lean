/- Walk over the document's Encode of steps (printed by wip/tools/genScC.py). -/
import Derived.Test.YtldcgmnfohhjbacScB
import Derived.Test.YtldcgmnfohhjbacWrF
namespace Go.Proofs.Ytldcgmnfohhjbac
open Go.RowKit
set_option maxRecDepth 100000

def four (x : Sc.Stp) : List Int := [x.a, x.b, x.obj, x.n]
theorem enc_eq4 {x : Sc.Stp} (h : Sc.fmP x) : [UInt8.ofNat x.kind.toNat] ++ layAll (four x) ++ Wq.lS x.s ++ (Pk.lay x.v.length ++ x.v) = Sc.enc x := by
  have : Pk.lay x.kind.toNat = [UInt8.ofNat x.kind.toNat] := Pk.lay_small (by have := h.1; have := h.2.1; omega)
  simp [layAll, four, Sc.enc, Wq.lR, this]
theorem kind_byte {k : Int} (h1 : 1 ≤ k) (h2 : k ≤ 15) : k % 256 = ((UInt8.ofNat k.toNat).toNat : Int) := by
  rw [Pk.toNat_ofNat (by omega)]; omega

set_option maxHeartbeats 8000000 in
theorem refScEncode_any (v : SV) (x : Sc.Stp) (w : World) (h : StpRd w w.heap.size v x) (hs : Sc.small x) :
    Calls Try.prog 10 #[.agg (v.val x)] w (EncP w (Sc.fmB x) (Sc.enc x)) := by
  obtain ⟨i0, hi0, hz0, hz1, hz2⟩ := info_parts u8_info
  have hb0 : Below w.heap.size w (w.alloc (.cells (v.val x) 25)) := (Below.refl _ _).alloc (Nat.le_refl _) _
  have hx0 := Blk.new w 25 (v.val x)
  have hP0 := h.go hb0
  have G1 := Lib.hid (refScFormed_any v x _ hP0)
  have HB := Lib.hid hb0
  have HX0 := Lib.hid hx0
  rcases hf : Sc.fmB x with _ | _
  · rw [hf] at G1
    clear h hP0 hf hb0 hx0
    go_enter Try.func10, Try.ntmps10
    go_wp2_with fail
    refine G1.out.mono ?_
    rintro e w1 ⟨rfl, hb1⟩
    go_wp2
    go_ret2
    exact .inr ⟨rfl, rfl, below_then HB.out (Nat.le_refl _) hb1⟩
  · rw [hf] at G1
    have hfm := fmB_iff.1 hf
    have HFM := Lib.hid hfm
    have hu4 : ∀ y ∈ four x, Wq.u63 y := fun y hy => five_u63 hfm hs y (by unfold five; exact List.mem_cons_of_mem _ hy)
    have HU := Lib.hid hu4
    have HE := Lib.hid (enc_eq4 hfm)
    have hk1 := hfm.1
    have hk2 := hfm.2.1
    have hkb := kind_byte hk1 hk2
    have hkm : x.kind % 256 = x.kind := by omega
    rw [hkm] at hkb
    have HKB := Lib.hid hkb
    have HS := Lib.hid h
    have h1max : 1 ≤ maxLen := by unfold maxLen; omega
    clear h hP0 hf hb0 hx0 hfm hu4 hkb hkm
    obtain ⟨A1, n1, c1, A2, n2, c2⟩ := v
    go_enter Try.func10, Try.ntmps10
    go_wp2_with fail
    refine G1.out.mono ?_
    rintro e w1 ⟨rfl, hb1⟩
    have hX1 := HX0.out.go hb1
    have q0 := hX1.cell 0
    have q1 := hX1.cell 1
    have q2 := hX1.cell 2
    have q3 := hX1.cell 3
    have q4 := hX1.cell 4
    have hbw1 := below_then HB.out (Nat.le_refl _) hb1
    have hs1 := hb1.size
    rw [World.size_alloc] at hs1
    have hs1' : w.heap.size < w1.heap.size := by omega
    clear G1 hb1
    go_wp2_with fail
    have hbA : Below (w.heap.size + 1) w1 ((w1.alloc (.cells #[.int .u8 x.kind] 5)).alloc (.cells #[.int .i64 x.a, .int .i64 x.b, .int .i64 x.obj, .int .i64 x.n] 53)) := ((Below.refl _ _).alloc (by omega) _).alloc (by simp; omega) _
    have hArr := Blk.new (w1.alloc (.cells #[.int .u8 x.kind] 5)) 53 #[.int .i64 x.a, .int .i64 x.b, .int .i64 x.obj, .int .i64 x.n]
    rw [World.size_alloc] at hArr
    have hOwn := (own_lit w1 5 1 1 #[.int .u8 x.kind] rfl h1max).alloc (.cells #[.int .i64 x.a, .int .i64 x.b, .int .i64 x.obj, .int .i64 x.n] 53)
    obtain ⟨W0, hW0⟩ : ∃ W0, W0 = (w1.alloc (.cells #[.int .u8 x.kind] 5)).alloc (.cells #[.int .i64 x.a, .int .i64 x.b, .int .i64 x.obj, .int .i64 x.n] 53) := ⟨_, rfl⟩
    rw [← hW0] at hbA hArr hOwn ⊢
    have hsW : W0.heap.size = w1.heap.size + 1 + 1 := by rw [hW0]; simp
    have hbw0 := hbw1.trans (hbA.mono (by omega))
    have e00 : bv ([UInt8.ofNat x.kind.toNat] ++ layAll ((four x).take 0)) = [.int .u8 x.kind] := by
      show [Value.int .u8 ((UInt8.ofNat x.kind.toNat).toNat : Int)] = _
      rw [← HKB.out]
    have HOwn := Lib.hid hOwn
    have HArr := Lib.hid hArr
    have HE00 := Lib.hid e00
    have HBA := Lib.hid hbA
    clear hW0 hOwn hArr q0 q1 q2 q3 q4 hbA e00
    go_loopw [4, 6] (fun v4 v6 wr => ∃ (k N c' : Nat) (A' : Option Addr), v6 = .int .i64 k ∧ v4 = .slice A' N c' ∧ k ≤ 4 ∧ N ≤ 1 + 9 * k ∧ wr.ownsRow w1.heap.size 5 1 (.slice A' N c') N (bv ([UInt8.ofNat x.kind.toNat] ++ layAll ((four x).take k))) ∧ Below w.heap.size w wr ∧
      Blk wr (w1.heap.size + 1) 53 #[.int .i64 x.a, .int .i64 x.b, .int .i64 x.obj, .int .i64 x.n] ∧ Blk wr w.heap.size 25 (SV.val ⟨A1, n1, c1, A2, n2, c2⟩ x) ∧ w1.heap.size + 2 ≤ wr.heap.size ∧ Hid (([UInt8.ofNat x.kind.toNat] ++ layAll ((four x).take k)).length = N)) (fun _ v6 _ => 4 - (intOf v6).toNat)
    case atStart => exact ⟨0, 1, 1, some ⟨w1.heap.size, 0, none⟩, rfl, rfl, by omega, by omega, by rw [HE00.out]; exact HOwn.out, hbw0, HArr.out, hX1.below HBA.out (by omega), by omega, rfl⟩
    case round =>
      obtain ⟨k, N, c', A', rfl, rfl, hk, hN, ho, hb, hA, hX, hsz, hq⟩ := hrel
      have HX := Lib.hid hX
      have HA := Lib.hid hA
      by_cases hlt : k < 4
      · obtain ⟨y, hy1, hy2⟩ : ∃ y : Int, (four x)[k]? = some y ∧ wr.cell? ⟨w1.heap.size + 1, k, none⟩ = some (.int .i64 y) := by
          have h' : k = 0 ∨ k = 1 ∨ k = 2 ∨ k = 3 := by omega
          rcases h' with rfl | rfl | rfl | rfl
          · exact ⟨x.a, rfl, hA.cell 0⟩
          · exact ⟨x.b, rfl, hA.cell 1⟩
          · exact ⟨x.obj, rfl, hA.cell 2⟩
          · exact ⟨x.n, rfl, hA.cell 3⟩
        have hkx : k < (four x).length := hlt
        have hyk : (four x)[k] = y := by
          have h := List.getElem?_eq_getElem hkx
          rw [hy1] at h
          exact (Option.some.inj h).symm
        have hyu : Wq.u63 y := by rw [← hyk]; exact HU.out _ (List.getElem_mem hkx)
        have ht := layAll_take (four x) k hkx
        rw [hyk] at ht
        have HT := Lib.hid ht
        have hy9 := u63_len hyu
        obtain ⟨z, hz⟩ : ∃ z : Nat, y = (z : Int) := ⟨y.toNat, by have := hyu.1; omega⟩
        subst hz
        rw [Int.toNat_natCast] at HT hy9
        have G := Lib.hid (refBytes_any z wr (by have := hyu.2; omega))
        obtain ⟨ly, hly⟩ : ∃ ly, ly = (Pk.lay z).length := ⟨_, rfl⟩
        rw [← hly] at G hy9
        have HLY := Lib.hid hly
        have HO := Lib.hid ho
        have h63 : N + ly ≤ maxLen := by unfold maxLen; omega
        clear ht hyk hkx hyu hly hy1 ho hX hA
        go_wp2_with fail
        refine G.out.mono ?_
        rintro e w2 ⟨A2', c3, rfl, ho2, hb2⟩
        have hs2 := hb2.size
        have ho1 := own_below HO.out hb2 (Nat.le_refl _)
        have hbw2 := below_then hb (Nat.le_refl _) hb2
        go_wp2_with (at_builtin; go_must (refine wpList_append_rd _ rfl (.tmp 27) (.tmp 31) _ rfl w1.heap.size 5 i0 _ 1 1 Try.underlying23 hi0 hz0 hz1 hz2 rfl (by decide) (.slice A' N c') N _ rfl ho1 _ A2' ly c3 (bv (Pk.lay z)) rfl (Rd.of_own ho2) (bv_oneCell _) h63 (by omega) (by omega) ?_); intro A4 c4 w4 ho4 hg4 hat4)
        go_roundw
        case rel =>
          refine ⟨k + 1, N + ly, c4, A4, by go_num, rfl, by omega, by omega, ?_, hbw2.trans (grown_below hg4 hbw2.size (fun g hg => by have := own_lt ho1 g hg; omega)), (HA.out.go hb2).grown hg4 (Blk.not_row (HA.out.go hb2) (by decide) ho1),
            (HX.out.go hb2).grown hg4 (Blk.not_row (HX.out.go hb2) (by decide) ho1), by have := hg4.size; omega, ?_⟩
          · rw [HT.out, ← List.append_assoc, bv_app]; exact ho4
          · show _ = _
            rw [HT.out, ← List.append_assoc, List.length_append, hq.out, HLY.out]
        case measure => simp [intOf]; omega
      · obtain rfl : k = 4 := by omega
        have e0 : (four x).take 4 = four x := rfl
        rw [e0] at ho hq
        obtain ⟨f1, f2, f3, f4, f5, f6, f7, f8⟩ := HFM.out
        have hls := Wq.lS_len f7
        have hn2 : n2 ≤ 256 := by have := HS.out.l2; simp only at this; omega
        have hll9 : (Pk.lay n2).length ≤ 9 := Pk.lay_len9 (by omega)
        have G2 := Lib.hid fun (W : World) (kw : Below w.heap.size w W) => refSetBytes_any A1 n1 c1 x.s W (HS.out.go kw).l1 (HS.out.go kw).r1 f7
        have G3 := Lib.hid fun (W : World) (kw : Below w.heap.size w W) => refLaid_any A2 n2 c2 x.v W (HS.out.go kw).r2 (by omega)
        obtain ⟨ls, hlse⟩ : ∃ ls, ls = (Wq.lS x.s).length := ⟨_, rfl⟩
        obtain ⟨ll, hlle⟩ : ∃ ll, ll = (Pk.lay n2).length + n2 := ⟨_, rfl⟩
        unfold BytesAre at G2
        rw [← hlse] at G2 hls
        rw [← hlle] at G3
        have hll : ll ≤ 265 := by omega
        obtain ⟨l1, hl1⟩ : ∃ l1, l1 = [UInt8.ofNat x.kind.toNat] ++ layAll (four x) := ⟨_, rfl⟩
        rw [← hl1] at ho hq
        have HL1 := Lib.hid hl1
        have HLS := Lib.hid hlse
        have HLL := Lib.hid hlle
        have h63 : N + ls ≤ maxLen := by unfold maxLen; omega
        have h63b : N + ls + ll ≤ maxLen := by unfold maxLen; omega
        have E := Lib.hid (show wr.drew.ownsRow w1.heap.size 5 1 (.slice A' N c') N (bv l1) from ho)
        have kw : Below w.heap.size w wr.drew := hb.drew
        have kx : w1.heap.size ≤ wr.drew.heap.size := by show _ ≤ wr.heap.size; omega
        have XB := Lib.hid (show Blk wr.drew w.heap.size _ _ from HX.out)
        clear ho hb f1 f2 f3 f4 f5 f6 f7 f8 hll9 hlse hlle hl1 HX hX HA hA
        go_wp2_with fail
        refine region_nrm fun KK hKK => ?_
        refine wp_region_held_drew (S := (fun W => W.cell? ⟨w.heap.size, 5, none⟩ = some (.slice A1 n1 c1) ∧ W.cell? ⟨w.heap.size, 6, none⟩ = some (.slice A2 n2 c2))) (by kernel_rfl) (by first | exact ⟨XB.out.cell 5, XB.out.cell 6⟩) (fun hHeld => ?_)
        refine wpAnyH_putD (i := 0) (d := 33) (v := ?_) rfl rfl (by kernel_rfl) (by kernel_rfl) (by kernel_rfl) (fun _ _ _ h => h) (Or.inl ⟨by kernel_rfl, ?_⟩) (by first | exact ⟨XB.out.cell 5, XB.out.cell 6⟩) ?_
        rotate_left
        · (intro w hS; (try dsimp only at hS); go_simp <;> with_reducible rfl)
        try simp only [List.setIfInBounds_toArray, List.set_cons_zero, List.set_cons_succ]
        refine wpAnyH_putD (i := 1) (d := 34) (v := ?_) rfl rfl (by kernel_rfl) (by kernel_rfl) (by kernel_rfl) (fun _ _ _ h => h) (Or.inl ⟨by kernel_rfl, ?_⟩) (by first | exact ⟨XB.out.cell 5, XB.out.cell 6⟩) ?_
        rotate_left
        · (intro w hS; (try dsimp only at hS); go_simp <;> with_reducible rfl)
        try simp only [List.setIfInBounds_toArray, List.set_cons_zero, List.set_cons_succ]
        refine wpAnyH_putD (i := 2) (d := 35) (v := ?_) rfl rfl (by kernel_rfl) (by kernel_rfl) (by kernel_rfl) (fun _ _ _ h => h) (Or.inl ⟨by kernel_rfl, ?_⟩) (by first | exact ⟨XB.out.cell 5, XB.out.cell 6⟩) ?_
        rotate_left
        · (intro w hS; (try dsimp only at hS); go_simp <;> with_reducible rfl)
        try simp only [List.setIfInBounds_toArray, List.set_cons_zero, List.set_cons_succ]
        refine wpAnyH_putD (i := 5) (d := 38) (v := ?_) rfl rfl (by kernel_rfl) (by kernel_rfl) (by kernel_rfl) (fun _ _ _ h => h) (Or.inl ⟨by kernel_rfl, ?_⟩) (by first | exact ⟨XB.out.cell 5, XB.out.cell 6⟩) ?_
        rotate_left
        · (intro w hS; (try dsimp only at hS); go_simp <;> with_reducible rfl)
        try simp only [List.setIfInBounds_toArray, List.set_cons_zero, List.set_cons_succ]
        refine wpAnyH_putD (i := 6) (d := 39) (v := ?_) rfl rfl (by kernel_rfl) (by kernel_rfl) (by kernel_rfl) (fun _ _ _ h => h) (Or.inl ⟨by kernel_rfl, ?_⟩) (by first | exact ⟨XB.out.cell 5, XB.out.cell 6⟩) ?_
        rotate_left
        · (intro w hS; (try dsimp only at hS); go_simp <;> with_reducible rfl)
        try simp only [List.setIfInBounds_toArray, List.set_cons_zero, List.set_cons_succ]
        refine wpAnyH_ready (rs := [3]) (by kernel_rfl) (by simp) ?_
        refine AllReadyH.cons rfl (fun K hK => ?_) AllReadyH.nil
        go_simp
        refine (G2.out _ kw).mono ?_
        rintro e W1 ⟨v1, he1, D1, d1, hv1, ho1, hb'⟩
        subst hv1 he1
        have C := Lib.hid ho1
        have E := Lib.hid (own_below E.out hb' (Nat.le_refl _))
        have XB := Lib.hid (XB.out.go hb')
        have kw := below_then kw (Nat.le_refl _) hb'
        have kx := Nat.le_trans kx hb'.size
        clear ho1 hb'
        refine hK.out _ _ (by first | exact ⟨XB.out.cell 5, XB.out.cell 6⟩) (fun hHeld => ?_)
        clear hK K
        refine wpAnyH_ready (rs := [4]) (by kernel_rfl) (by simp) ?_
        refine AllReadyH.cons rfl (fun K hK => ?_) AllReadyH.nil
        rw [if_pos (by kernel_rfl)]
        refine wp_append_rd _ (.tmp 33) (.tmp 36) _ rfl w1.heap.size 5 i0 _ 1 1 Try.underlying23 hi0 hz0 hz1 hz2 rfl (by decide) _ N (bv l1) rfl E.out _ D1 ls d1 (bv (Wq.lS x.s)) rfl (Rd.of_own C.out) (bv_oneCell _) h63 (by omega) kx ?_
        intro A33 c33 V33 ho hg hat
        have XB := Lib.hid (XB.out.grown hg (Blk.not_row XB.out (by decide) E.out))
        have kw := kw.trans (grown_below hg kw.size (fun g hg' => by have := (E.out.lt g hg').1; omega))
        have kx := Nat.le_trans kx hg.size
        have E := Lib.hid ho
        clear ho hg hat C
        refine hK.out _ _ (by first | exact ⟨XB.out.cell 5, XB.out.cell 6⟩) (fun hHeld => ?_)
        clear hK K
        refine wpAnyH_ready (rs := [7]) (by kernel_rfl) (by simp) ?_
        refine AllReadyH.cons rfl (fun K hK => ?_) AllReadyH.nil
        go_simp
        refine (G3.out _ kw).mono ?_
        rintro e W2 ⟨D2, d2, rfl, ho1, hb'⟩
        have C := Lib.hid ho1
        have E := Lib.hid (own_below E.out hb' (Nat.le_refl _))
        have XB := Lib.hid (XB.out.go hb')
        have kw := below_then kw (Nat.le_refl _) hb'
        have kx := Nat.le_trans kx hb'.size
        clear ho1 hb'
        refine hK.out _ _ (by first | exact ⟨XB.out.cell 5, XB.out.cell 6⟩) (fun hHeld => ?_)
        clear hK K
        refine wpAnyH_ready (rs := [8]) (by kernel_rfl) (by simp) ?_
        refine AllReadyH.cons rfl (fun K hK => ?_) AllReadyH.nil
        rw [if_pos (by kernel_rfl)]
        refine wp_append_rd _ (.tmp 37) (.tmp 40) _ rfl w1.heap.size 5 i0 _ 1 1 Try.underlying23 hi0 hz0 hz1 hz2 rfl (by decide) _ (N + ls) (bv l1 ++ bv (Wq.lS x.s)) rfl E.out _ D2 ll d2 (bv (Pk.lay n2 ++ x.v)) rfl (Rd.of_own C.out) (bv_oneCell _) h63b (by omega) kx ?_
        intro A37 c37 V37 ho hg hat
        have XB := Lib.hid (XB.out.grown hg (Blk.not_row XB.out (by decide) E.out))
        have kw := kw.trans (grown_below hg kw.size (fun g hg' => by have := (E.out.lt g hg').1; omega))
        have kx := Nat.le_trans kx hg.size
        have E := Lib.hid ho
        clear ho hg hat C
        refine hK.out _ _ (by first | exact ⟨XB.out.cell 5, XB.out.cell 6⟩) (fun hHeld => ?_)
        clear hK K
        refine wpAnyH_putD (i := 9) (d := 2) (v := ?_) rfl rfl (by kernel_rfl) (by kernel_rfl) (by kernel_rfl) (fun _ _ _ h => h) (Or.inl ⟨by kernel_rfl, ?_⟩) (by first | exact ⟨XB.out.cell 5, XB.out.cell 6⟩) ?_
        rotate_left
        · (intro w hS; (try dsimp only at hS); go_simp <;> with_reducible rfl)
        try simp only [List.setIfInBounds_toArray, List.set_cons_zero, List.set_cons_succ]
        refine wpAnyH_putD (i := 10) (d := 3) (v := ?_) rfl rfl (by kernel_rfl) (by kernel_rfl) (by kernel_rfl) (fun _ _ _ h => h) (Or.inl ⟨by kernel_rfl, ?_⟩) (by first | exact ⟨XB.out.cell 5, XB.out.cell 6⟩) ?_
        rotate_left
        · (intro w hS; (try dsimp only at hS); go_simp <;> with_reducible rfl)
        skip
        refine wpAnyH_done (by kernel_rfl) ?_ _
        refine Nrm.out (hKK _ _ ?_)
        go_wp2
        go_ret2
        have e1 : l1 ++ Wq.lS x.s ++ (Pk.lay n2 ++ x.v) = Sc.enc x := by rw [HL1.out, ← HE.out, HS.out.l2]
        have e2 : N + ls + ll = (Sc.enc x).length := by rw [← e1, List.length_append, List.length_append, List.length_append, hq.out, HLS.out, HLL.out, HS.out.l2]
        have e3 := E.out
        rw [← bv_app, ← bv_app, e1] at e3
        exact .inl ⟨rfl, _, rfl, A37, c37, by rw [← e2]; rfl, by rw [← e2]; exact own_less e3 (by omega), kw⟩
end Go.Proofs.Ytldcgmnfohhjbac
