/- Walks: the document's Known, Place of logs. -/
import Derived.Test.YtldcgmnfohhjbaaDoorLgC
namespace Go.Proofs.YtldcgmnfohhjbaaDoor
open Go.RowKit
set_option maxRecDepth 100000

/-- What is known behind a log, from its base; or nothing. -/
def KnownR (w : World) (b : List Vc.St) (L : List (NV × Nt)) (su : Int) (e : Ending) (w' : World) : Prop :=
  (lgR b L su = true ∧ ∃ q K kc, lgW b (nts L) = some q ∧ e = .returned (.slice K q.length kc) ∧ Rd w' w'.heap.size 2 K q.length kc (sv q) ∧ Below w.heap.size w w') ∨
  (lgR b L su = false ∧ e = .returned (.slice none 0 0) ∧ Below w.heap.size w w')
theorem lgR_some {b : List Vc.St} {L : List (NV × Nt)} {su : Int} (h : lgR b L su = true) : fm (-1) b = true ∧ ∃ q, lgW b (nts L) = some q := by
  simp only [lgR, Bool.and_eq_true, Option.isSome_iff_exists] at h
  exact ⟨h.1, h.2.2.2⟩
theorem knownP_R {w : World} {b : List Vc.St} {L : List (NV × Nt)} {su : Int} {e : Ending} {w' : World} (h : KnownP w b L su e w') : KnownR w b L su e w' := by
  rcases h with ⟨h1, q, K, kc, h2, h3, h4, h5⟩ | ⟨h1, h2, h3⟩
  · rw [lgF_R] at h1
    rw [vec_one (lgR_some h1).1] at h2
    exact .inl ⟨h1, q, K, kc, h2, h3, h4, h5⟩
  · rw [lgF_R] at h1
    exact .inr ⟨h1, h2, h3⟩

set_option maxHeartbeats 8000000 in
theorem refLgKnown_any (v : LV) (b : List Vc.St) (L : List (NV × Nt)) (su : Int) (w : World) (h : LgRd w v b L) (hn : v.n ≤ 8796093022208) :
    Calls Tryd.prog 32 #[.agg (v.val su)] w (KnownR w b L su) := by
  obtain ⟨A, n, c, D, m, d⟩ := v
  dsimp only at hn
  have hb0 : Below w.heap.size w (w.alloc (.cells (LV.val ⟨A, n, c, D, m, d⟩ su) 47)) := (Below.refl _ _).alloc (Nat.le_refl _) _
  have hBx := Blk.new w 47 (LV.val ⟨A, n, c, D, m, d⟩ su)
  obtain ⟨w0, hw0⟩ : ∃ w0, w0 = w.alloc (.cells (LV.val ⟨A, n, c, D, m, d⟩ su) 47) := ⟨_, rfl⟩
  rw [← hw0] at hb0 hBx
  have HH := Lib.hid (h.go hb0)
  have hln : L.length = m := h.ns.len
  have hmax : m ≤ 9223372036854775807 := by have h1 := h.ns.rd.cap; have h2 := h.ns.rd.max; unfold maxLen at h2; dsimp only at h1 h2; omega
  have G := Lib.hid (refLgFormed_any ⟨A, n, c, D, m, d⟩ b L su w0 HH.out)
  have hs0 : w0.heap.size = w.heap.size + 1 := by rw [hw0]; simp
  have HS0 := Lib.hid hs0
  have HB0 := Lib.hid hb0
  have HX := Lib.hid hBx
  have HW := Lib.hid hw0.symm
  have HL1 := Lib.hid (show b.length = n from h.l1)
  have HLN := Lib.hid hln
  have q0 := hBx.cell 0
  have q1 := hBx.cell 1
  have q2 := hBx.cell 2
  clear h hb0 hBx hw0 hln hs0
  go_enter Tryd.func32, Tryd.ntmps32
  go_wp2_with fail
  rw [HW.out]
  refine G.out.mono ?_
  rintro e w1 ⟨rfl, hb1⟩
  clear q0 q1 q2
  rcases hf : lgR b L su with _ | _
  · have HN := Lib.hid hf
    have HB := Lib.hid (below_then HB0.out (Nat.le_refl _) hb1)
    clear hf hb1
    go_wp2
    go_ret
    exact .inr ⟨HN.out, rfl, HB.out⟩
  · obtain ⟨_, r, hr⟩ := lgR_some hf
    have HF := Lib.hid hf
    have HR := Lib.hid hr
    have q0 := (HX.out.go hb1).cell 0
    have G2 := Lib.hid (vcopy_any A n c (sv b) w1 (HH.out.go hb1).r1 (sv_oneCell _) hn)
    have HK1 := Lib.hid hb1
    clear hf hr hb1
    go_wp2_with fail
    refine G2.out.mono ?_
    rintro e w2 ⟨K0, k0, rfl, ho, hb2⟩
    have hb1 := below_then HK1.out (Nat.le_refl _) hb2
    have hR0 := Lib.hid (Rd.of_own ho)
    clear q0 ho hb2
    go_wp2
    go_loopw [3, 4] (fun v3 v4 wr => ∃ (i N kc : Nat) (K : Option Addr) (q : List Vc.St), v4 = .int .i64 i ∧ v3 = .slice K N kc ∧ i ≤ m ∧ Below w0.heap.size w0 wr ∧ Hid (q.length = N ∧ Rd wr wr.heap.size 2 K N kc (sv q) ∧ lgW q ((nts L).drop i) = lgW b (nts L)))
      (fun _ v4 _ => m - (intOf v4).toNat)
    case atStart => exact ⟨0, n, k0, K0, b, rfl, rfl, Nat.zero_le _, hb1, HL1.out, hR0.out, rfl⟩
    case round =>
      obtain ⟨i, N, kc, K, q, rfl, rfl, hi, hb, hq⟩ := hrel
      have q1 := (HX.out.go hb).cell 1
      by_cases hlt : i < m
      · have hkL : i < L.length := by rw [HLN.out]; exact hlt
        obtain ⟨bb, o, rfl, hab, g0, g1, g2, g3⟩ := (HH.out.go hb).ns.note hkL
        have hrd := (HH.out.go hb).ns.each _ (List.getElem_mem hkL)
        have hkS : i < (nts L).length := by simpa [nts] using hkL
        have hxe : (nts L)[i] = L[i].2 := by simp [nts]
        have hhit := lgW_hit hkS (hq.out.2.2.trans HR.out)
        have hYes := lgW_next hkS hhit
        rw [hxe] at hYes
        rw [hq.out.2.2] at hYes
        generalize L[i] = p at g0 g1 g2 g3 hrd hYes hxe
        obtain ⟨⟨A1, n1, c1, A2, n2, c2, A3, n3, c3, A4, n4, c4⟩, x⟩ := p
        dsimp only at g0 g1 g2 g3 hrd hYes
        have f3 := refTwo_any K A2 N kc n2 c2 q x.e wr hq.out.1 hrd.l2 hq.out.2.1 hrd.r2
        obtain ⟨r2, hr2⟩ : ∃ r2, r2 = vec (jn [q, x.e]) := ⟨_, rfl⟩
        obtain ⟨p2, hp2⟩ : ∃ p2, p2 = r2.length := ⟨_, rfl⟩
        rw [← hr2, ← hp2] at f3
        rw [← hr2] at hYes
        have F3 := Lib.hid f3
        have HP2 := Lib.hid hp2
        have HYES := Lib.hid hYes
        clear hYes hrd hxe hkS hkL f3 hr2 hp2 hhit g0 g2 g3
        go_wp2_with fail
        refine F3.out.mono ?_
        rintro e W3 ⟨K', k', rfl, hR3, hk3⟩
        go_wp2
        go_roundw
        case rel => exact ⟨i + 1, p2, k', K', r2, by go_num, rfl, by omega, below_then hb (Nat.le_refl _) hk3, HP2.out.symm, Rd.of_own hR3, HYES.out.symm⟩
        case measure => simp [intOf]; omega
      · have hdr : (nts L).length ≤ i := by simp only [nts, List.length_map]; rw [HLN.out]; omega
        have HB := Lib.hid (below_then HB0.out (by have := HS0.out; omega) hb)
        have HQ := Lib.hid (show lgW b (nts L) = some q by rw [← hq.out.2.2, lgW_end hdr])
        have HRQ := Lib.hid hq.out.2.1
        have HNQ := Lib.hid hq.out.1
        clear hdr hq hb
        go_wp2
        go_ret
        exact .inl ⟨HF.out, q, K, kc, HQ.out, by rw [HNQ.out] <;> rfl, by rw [HNQ.out]; exact HRQ.out, HB.out⟩

set_option maxHeartbeats 8000000 in
theorem refLgPlace_any (v : LV) (b : List Vc.St) (L : List (NV × Nt)) (su : Int) (E : Option Addr) (p f : Nat) (u : List Vc.St) (w : World) (h : LgRd w v b L) (hl : u.length = p) (hR : Rd w w.heap.size 2 E p f (sv u)) :
    Calls Tryd.prog 28 #[.agg (v.val su), .slice E p f] w fun e w' => e = .returned (.tuple #[.int .i64 (lgP b L su u).1, .int .i64 (lgP b L su u).2]) ∧ Below w.heap.size w w' := by
  obtain ⟨A, n, c, D, m, d⟩ := v
  have hb0 : Below w.heap.size w (w.alloc (.cells (LV.val ⟨A, n, c, D, m, d⟩ su) 47)) := (Below.refl _ _).alloc (Nat.le_refl _) _
  have hBx := Blk.new w 47 (LV.val ⟨A, n, c, D, m, d⟩ su)
  obtain ⟨w0, hw0⟩ : ∃ w0, w0 = w.alloc (.cells (LV.val ⟨A, n, c, D, m, d⟩ su) 47) := ⟨_, rfl⟩
  rw [← hw0] at hb0 hBx
  have HH := Lib.hid (h.go hb0)
  have hln : L.length = m := h.ns.len
  have hmax : m ≤ 9223372036854775807 := by have h1 := h.ns.rd.cap; have h2 := h.ns.rd.max; unfold maxLen at h2; dsimp only at h1 h2; omega
  have G := Lib.hid (refLgFormed_any ⟨A, n, c, D, m, d⟩ b L su w0 HH.out)
  have G2 := Lib.hid fun (V : World) (hv : Below w0.heap.size w0 V) => refCovers_any E A p f n c u b V hl ((HH.out.go hv).l1) ((hR.go hb0).go hv) (HH.out.go hv).r1
  have hs0 : w0.heap.size = w.heap.size + 1 := by rw [hw0]; simp
  have HS0 := Lib.hid hs0
  have HB0 := Lib.hid hb0
  have HX := Lib.hid hBx
  have HW := Lib.hid hw0.symm
  have HLN := Lib.hid hln
  have HL := Lib.hid hl
  have HR := Lib.hid (hR.go hb0)
  have q0 := hBx.cell 0
  have q1 := hBx.cell 1
  have q2 := hBx.cell 2
  clear h hb0 hBx hw0 hln hs0 hl hR
  have hff : lgP b L su u = if lgR b L su = true then (if covB (Vc.cnt u) (Vc.cnt b) = true then ((plW u (nts L) : Int), 0) else (0, 12)) else (0, 1) := rfl
  go_enter Tryd.func28, Tryd.ntmps28
  go_wp2_with fail
  rw [HW.out]
  refine G.out.mono ?_
  rintro e w1 ⟨rfl, hb1⟩
  clear q0 q1 q2
  rcases hf : lgR b L su with _ | _
  · have HN := Lib.hid (show lgP b L su u = (0, 1) by rw [hff, if_neg (by rw [hf]; simp)])
    have HB := Lib.hid (below_then HB0.out (Nat.le_refl _) hb1)
    clear hf hb1 hff
    go_wp2
    go_ret2
    exact ⟨by rw [HN.out] <;> rfl, HB.out⟩
  · rw [if_pos hf] at hff
    have q0 := (HX.out.go hb1).cell 0
    have G3 := G2.out w1 hb1
    clear hf G2
    rcases hc : covB (Vc.cnt u) (Vc.cnt b) with _ | _
    · have HN := Lib.hid (show lgP b L su u = (0, 12) by rw [hff, if_neg (by rw [hc]; simp)])
      rw [hc] at G3
      have G4 := Lib.hid G3
      have HK1 := Lib.hid hb1
      clear hff hc G3 hb1
      go_wp2_with fail
      refine G4.out.mono ?_
      rintro e w2 ⟨rfl, hb2⟩
      have HB := Lib.hid (below_then HB0.out (Nat.le_refl _) (below_then HK1.out (Nat.le_refl _) hb2))
      clear q0 hb2
      go_wp2
      go_ret2
      exact ⟨by rw [HN.out] <;> rfl, HB.out⟩
    · have HN := Lib.hid (show lgP b L su u = ((plW u (nts L) : Int), 0) by rw [hff, if_pos hc])
      rw [hc] at G3
      have G4 := Lib.hid G3
      have HK1 := Lib.hid hb1
      clear hff hc G3 hb1
      go_wp2_with fail
      refine G4.out.mono ?_
      rintro e w2 ⟨rfl, hb2⟩
      have hb1 := below_then HK1.out (Nat.le_refl _) hb2
      clear q0 hb2
      go_wp2
      go_loopw [6] (fun v6 wr => ∃ (i : Nat), v6 = .int .i64 i ∧ i ≤ m ∧ Below w0.heap.size w0 wr ∧ Hid (plW u (nts L) = i + plW u ((nts L).drop i)))
        (fun v6 _ => m - (intOf v6).toNat)
      case atStart => exact ⟨0, rfl, Nat.zero_le _, hb1, by show _ = _; simp⟩
      case round =>
        obtain ⟨i, rfl, hi, hb, hq⟩ := hrel
        have q1 := (HX.out.go hb).cell 1
        by_cases hlt : i < m
        · have hkL : i < L.length := by rw [HLN.out]; exact hlt
          obtain ⟨bb, o, rfl, hab, g0, g1, g2, g3⟩ := (HH.out.go hb).ns.note hkL
          have hrd := (HH.out.go hb).ns.each _ (List.getElem_mem hkL)
          have hkS : i < (nts L).length := by simpa [nts] using hkL
          have hxe : (nts L)[i] = L[i].2 := by simp [nts]
          have hNo := fun h => plW_hit (v := u) (l := nts L) (i := i) hkS h
          have hYes := fun h => plW_miss (v := u) (l := nts L) (i := i) hkS h
          rw [hxe] at hYes hNo
          generalize L[i] = p at g0 g1 g2 g3 hrd hYes hNo hxe
          obtain ⟨⟨A1, n1, c1, A2, n2, c2, A3, n3, c3, A4, n4, c4⟩, x⟩ := p
          dsimp only at g0 g1 g2 g3 hrd hYes hNo
          have F3 := Lib.hid (refNews_any ⟨A1, n1, c1, A2, n2, c2, A3, n3, c3, A4, n4, c4⟩ x E p f u wr hrd HL.out (HR.out.go hb))
          have HYES := Lib.hid hYes
          have HNO := Lib.hid hNo
          clear hYes hNo hrd hxe hkS hkL
          go_wp2_with fail
          refine F3.out.mono ?_
          rintro e W3 ⟨rfl, hk3⟩
          have HB := Lib.hid (below_then hb (Nat.le_refl _) hk3)
          clear g0 g1 g2 g3 q1 hk3
          rcases hz : ntNews x u with _ | _
          · have HP := Lib.hid (HYES.out hz)
            clear hz
            go_wp2
            go_roundw
            case rel => exact ⟨i + 1, by go_num, by omega, HB.out, by show _ = _; rw [hq.out, HP.out]; omega⟩
            case measure => simp [intOf]; omega
          · have HP := Lib.hid (show plW u (nts L) = i by rw [hq.out, HNO.out hz]; rfl)
            clear hz
            go_wp2
            go_ret2
            exact ⟨by rw [HN.out, HP.out] <;> rfl, below_then HB0.out (by have := HS0.out; omega) HB.out⟩
        · have hdr : (nts L).length ≤ i := by simp only [nts, List.length_map]; rw [HLN.out]; omega
          have HB := Lib.hid (below_then HB0.out (by have := HS0.out; omega) hb)
          have HQ := Lib.hid (show plW u (nts L) = m by rw [hq.out, plW_end hdr]; omega)
          clear hdr hq hb
          go_wp2
          go_ret2
          exact ⟨by rw [HN.out, HQ.out] <;> rfl, HB.out⟩
end Go.Proofs.YtldcgmnfohhjbaaDoor
