/- Plain law: formed vectors with the same counts are one; the walk over a log from its base. Walks: the document's Formed, Known, Place. -/
import Derived.Test.YtldcgmnfohhjbaaDoorLgB
import Derived.Test.YtldcgmnfohhjbaaDoorVecU
import Derived.Test.YtldcgmnfohhjbaaDoorNtD
import Derived.Test.YtldcgmnfohhjbaaDoorNtB
namespace Go.Proofs.YtldcgmnfohhjbaaDoor
open Go.RowKit
set_option maxRecDepth 100000

theorem fm_cons {last : Int} {s : Vc.St} {r : List Vc.St} (h : fm last (s :: r) = true) : (0 < s.1 ∧ 0 ≤ s.2 ∧ s.2 < 64) ∧ last < s.2 ∧ fm s.2 r = true := by
  simp only [fm, Bool.and_eq_true, decide_eq_true_eq] at h
  exact ⟨(Vc.right_iff s).1 h.1, h.2.1, h.2.2⟩
theorem fm_low : ∀ (v : List Vc.St) (last : Int), fm last v = true → ∀ n : Nat, (n : Int) ≤ last → Vc.cnt v n = 0
  | [], _, _, _, _ => rfl
  | s :: r, last, h, n, hn => by
    obtain ⟨_, h2, h3⟩ := fm_cons h
    rw [Vc.cnt, if_neg (fun e => by omega)]
    exact fm_low r s.2 h3 n (by omega)
theorem cnt_head {last : Int} {s : Vc.St} {r : List Vc.St} (h : fm last (s :: r) = true) (n : Nat) (hn : s.2 = n) : Vc.cnt (s :: r) n = s.1 := by
  rw [Vc.cnt, if_pos ⟨(Vc.right_iff s).2 (fm_cons h).1, hn⟩]
theorem cnt_tail {s : Vc.St} {r : List Vc.St} (n : Nat) (hn : s.2 ≠ n) : Vc.cnt (s :: r) n = Vc.cnt r n := by
  rw [Vc.cnt, if_neg (fun e => hn e.2)]
theorem fm_ext : ∀ (u v : List Vc.St) (last : Int), fm last u = true → fm last v = true → (∀ n : Nat, n < 64 → Vc.cnt u n = Vc.cnt v n) → u = v
  | [], [], _, _, _, _ => rfl
  | [], t :: r, last, _, hv, he => by
    obtain ⟨h1, _, _⟩ := fm_cons hv
    have h := he t.2.toNat (by omega)
    rw [cnt_head hv _ (by omega)] at h
    simp only [Vc.cnt] at h; omega
  | s :: r, [], last, hu, _, he => by
    obtain ⟨h1, _, _⟩ := fm_cons hu
    have h := he s.2.toNat (by omega)
    rw [cnt_head hu _ (by omega)] at h
    simp only [Vc.cnt] at h; omega
  | s :: r, t :: q, last, hu, hv, he => by
    obtain ⟨h1, _, k1⟩ := fm_cons hu
    obtain ⟨h2, _, k2⟩ := fm_cons hv
    have a := he s.2.toNat (by omega)
    have b := he t.2.toNat (by omega)
    rw [cnt_head hu _ (by omega)] at a
    rw [cnt_head hv _ (by omega)] at b
    have e2 : s.2 = t.2 := by
      rcases Int.lt_trichotomy s.2 t.2 with h | h | h
      · rw [cnt_tail _ (by omega), fm_low q _ k2 _ (by omega)] at a; omega
      · exact h
      · rw [cnt_tail _ (by omega), fm_low r _ k1 _ (by omega)] at b; omega
    rw [cnt_head hv _ (by omega)] at a
    have e : s = t := Prod.ext a e2
    subst e
    refine congrArg _ (fm_ext r q s.2 k1 k2 fun n hn => ?_)
    by_cases hs : s.2 = n
    · rw [fm_low r _ k1 _ (by omega), fm_low q _ k2 _ (by omega)]
    · have := he n hn
      rwa [cnt_tail _ hs, cnt_tail _ hs] at this
theorem jn_one (u : List Vc.St) (n : Nat) : jn [u] n = Vc.cnt u n := by
  have h := Vc.cnt_nonneg u n
  show max 0 (Vc.cnt u n) = _
  omega
theorem vec_one {b : List Vc.St} (h : fm (-1) b = true) : vec (jn [b]) = b :=
  fm_ext _ _ (-1) (formed_vec _) h fun n hn => by rw [cnt_vec (fun n => by rw [jn_one]; exact Vc.cnt_nonneg b n) hn, jn_one]

/-- Is a log formed? From its base. -/
def lgR (b : List Vc.St) (L : List (NV × Nt)) (su : Int) : Bool := fm (-1) b && (decide (0 ≤ su) && (decide (su ≤ L.length) && (lgW b (nts L)).isSome))
theorem lgF_R (b : List Vc.St) (L : List (NV × Nt)) (su : Int) : lgF b L su = lgR b L su := by
  unfold lgF lgR
  rcases hf : fm (-1) b with _ | _
  · simp
  · rw [vec_one hf]
    rcases (lgW b (nts L)) with _ | q <;> simp
theorem lgW_hit {k q : List Vc.St} {l : List Nt} {i : Nat} (h : i < l.length) (e : lgW k (l.drop i) = some q) : (ntF l[i] && ntFits l[i] k) = true := by
  rcases hz : (ntF l[i] && ntFits l[i] k) with _ | _
  · rw [lgW_no h hz] at e; cases e
  · rfl

/-- The place of the first note that is new to a vector. -/
def plW (v : List Vc.St) : List Nt → Nat
  | [] => 0
  | x :: r => if ntNews x v = true then 0 else plW v r + 1
theorem plW_end {v : List Vc.St} {l : List Nt} {i : Nat} (h : l.length ≤ i) : plW v (l.drop i) = 0 := by rw [List.drop_of_length_le h]; rfl
theorem plW_hit {v : List Vc.St} {l : List Nt} {i : Nat} (h : i < l.length) (hf : ntNews l[i] v = true) : plW v (l.drop i) = 0 := by
  rw [List.drop_eq_getElem_cons h, plW, if_pos hf]
theorem plW_miss {v : List Vc.St} {l : List Nt} {i : Nat} (h : i < l.length) (hf : ntNews l[i] v = false) : plW v (l.drop i) = plW v (l.drop (i + 1)) + 1 := by
  rw [List.drop_eq_getElem_cons h, plW, if_neg (by rw [hf]; simp)]
def lgP (b : List Vc.St) (L : List (NV × Nt)) (su : Int) (v : List Vc.St) : Int × Int :=
  if lgR b L su = true then (if covB (Vc.cnt v) (Vc.cnt b) = true then ((plW v (nts L) : Int), 0) else (0, 12)) else (0, 1)

set_option maxHeartbeats 8000000 in
theorem refLgFormed_any (v : LV) (b : List Vc.St) (L : List (NV × Nt)) (su : Int) (w : World) (h : LgRd w v b L) :
    Calls Tryd.prog 30 #[.agg (v.val su)] w fun e w' => e = .returned (.bool (lgR b L su)) ∧ Below w.heap.size w w' := by
  obtain ⟨A, n, c, D, m, d⟩ := v
  have hb0 : Below w.heap.size w (w.alloc (.cells (LV.val ⟨A, n, c, D, m, d⟩ su) 47)) := (Below.refl _ _).alloc (Nat.le_refl _) _
  have hBx := Blk.new w 47 (LV.val ⟨A, n, c, D, m, d⟩ su)
  obtain ⟨w0, hw0⟩ : ∃ w0, w0 = w.alloc (.cells (LV.val ⟨A, n, c, D, m, d⟩ su) 47) := ⟨_, rfl⟩
  rw [← hw0] at hb0 hBx
  have HH := Lib.hid (h.go hb0)
  have hl1 : b.length = n := h.l1
  have hln : L.length = m := h.ns.len
  have hmax : m ≤ 9223372036854775807 := by have h1 := h.ns.rd.cap; have h2 := h.ns.rd.max; unfold maxLen at h2; dsimp only at h1 h2; omega
  have G0 := refFormed_any A n c b w0 hl1 HH.out.r1
  have hs0 : w0.heap.size = w.heap.size + 1 := by rw [hw0]; simp
  have HS0 := Lib.hid hs0
  have HB0 := Lib.hid hb0
  have HX := Lib.hid hBx
  have HW := Lib.hid hw0.symm
  have HL1 := Lib.hid hl1
  have HLN := Lib.hid hln
  have q0 := hBx.cell 0
  clear h hb0 hBx hw0 hl1 hln hs0
  have hff : lgR b L su = (fm (-1) b && (decide (0 ≤ su) && (decide (su ≤ L.length) && (lgW b (nts L)).isSome))) := rfl
  rcases hf : fm (-1) b with _ | _
  · have HN := Lib.hid (show lgR b L su = false by rw [hff, hf]; rfl)
    rw [hf] at G0
    have G := Lib.hid G0
    clear hf hff G0
    go_enter Tryd.func30, Tryd.ntmps30
    go_wp2_with fail
    rw [HW.out]
    refine G.out.mono ?_
    rintro e w1 ⟨rfl, hb1⟩
    have HB := Lib.hid (below_then HB0.out (Nat.le_refl _) hb1)
    clear q0 hb1
    go_wp2
    go_ret
    exact ⟨by rw [HN.out]; rfl, HB.out⟩
  · rw [hf, Bool.true_and] at hff
    rw [hf] at G0
    have G := Lib.hid G0
    have HFM := Lib.hid hf
    clear hf G0
    by_cases hs : su < 0
    · have HN := Lib.hid (show lgR b L su = false by rw [hff, decide_eq_false (by omega)]; rfl)
      clear hff
      go_enter Tryd.func30, Tryd.ntmps30
      go_wp2_with fail
      rw [HW.out]
      refine G.out.mono ?_
      rintro e w1 ⟨rfl, hb1⟩
      have HB := Lib.hid (below_then HB0.out (Nat.le_refl _) hb1)
      have q2 := (HX.out.go hb1).cell 2
      clear q0 hb1
      go_wp2
      go_ret
      exact ⟨by rw [HN.out]; rfl, HB.out⟩
    · have hd : decide (su < 0) = false := decide_eq_false hs
      by_cases hm : (m : Int) < su
      · have HN := Lib.hid (show lgR b L su = false by rw [hff, decide_eq_false (show ¬ su ≤ (L.length : Int) by rw [HLN.out]; omega)]; simp)
        have hd2 : decide ((m : Int) < su) = true := decide_eq_true hm
        have hs' : 0 ≤ su := by omega
        clear hff hs
        go_enter Tryd.func30, Tryd.ntmps30
        go_wp2_with fail
        rw [HW.out]
        refine G.out.mono ?_
        rintro e w1 ⟨rfl, hb1⟩
        have HB := Lib.hid (below_then HB0.out (Nat.le_refl _) hb1)
        have q2 := (HX.out.go hb1).cell 2
        have q1 := (HX.out.go hb1).cell 1
        clear q0 hb1
        go_wp2
        go_ret
        exact ⟨by rw [HN.out]; rfl, HB.out⟩
      · have hd2 : decide ((m : Int) < su) = false := decide_eq_false hm
        have HFF := Lib.hid (show lgR b L su = (lgW b (nts L)).isSome by rw [hff, decide_eq_true (show 0 ≤ su by omega), decide_eq_true (show su ≤ (L.length : Int) by rw [HLN.out]; omega)]; rfl)
        clear hff
        go_enter Tryd.func30, Tryd.ntmps30
        go_wp2_with fail
        rw [HW.out]
        refine G.out.mono ?_
        rintro e w1 ⟨rfl, hb1⟩
        have q0 := (HX.out.go hb1).cell 0
        have q1 := (HX.out.go hb1).cell 1
        have q2 := (HX.out.go hb1).cell 2
        go_wp2
        clear q0 q1 q2 hd hd2
        go_loopw [3, 4] (fun v3 v4 wr => ∃ (i N kc : Nat) (K : Option Addr) (q : List Vc.St), v4 = .int .i64 i ∧ v3 = .slice K N kc ∧ i ≤ m ∧ Below w0.heap.size w0 wr ∧ Hid (q.length = N ∧ Rd wr wr.heap.size 2 K N kc (sv q) ∧ lgW q ((nts L).drop i) = lgW b (nts L)))
          (fun _ v4 _ => m - (intOf v4).toNat)
        case atStart => exact ⟨0, n, c, A, b, rfl, rfl, Nat.zero_le _, hb1, HL1.out, (HH.out.go hb1).r1, rfl⟩
        case round =>
          obtain ⟨i, N, kc, K, q, rfl, rfl, hi, hb, hq⟩ := hrel
          have hbs := hb.size
          have q1 := (HX.out.go hb).cell 1
          by_cases hlt : i < m
          · have hkL : i < L.length := by rw [HLN.out]; exact hlt
            obtain ⟨bb, o, rfl, hab, g0, g1, g2, g3⟩ := (HH.out.go hb).ns.note hkL
            have hrd := (HH.out.go hb).ns.each _ (List.getElem_mem hkL)
            have hkS : i < (nts L).length := by simpa [nts] using hkL
            have hxe : (nts L)[i] = L[i].2 := by simp [nts]
            have hNo : (ntF (nts L)[i] && ntFits (nts L)[i] q) = false → lgW q ((nts L).drop i) = none := lgW_no hkS
            have hYes : (ntF (nts L)[i] && ntFits (nts L)[i] q) = true → lgW q ((nts L).drop i) = lgW (vec (jn [q, (nts L)[i].e])) ((nts L).drop (i + 1)) := lgW_next hkS
            rw [hxe] at hNo hYes
            rw [hq.out.2.2] at hNo hYes
            generalize L[i] = p at g0 g1 g2 g3 hrd hNo hYes hxe
            obtain ⟨⟨A1, n1, c1, A2, n2, c2, A3, n3, c3, A4, n4, c4⟩, x⟩ := p
            dsimp only at g0 g1 g2 g3 hrd hNo hYes
            have F1 := Lib.hid (refNoteFormed_any ⟨A1, n1, c1, A2, n2, c2, A3, n3, c3, A4, n4, c4⟩ x wr hrd)
            have F2 := Lib.hid fun (V : World) (hv : Below wr.heap.size wr V) => refFits_any ⟨A1, n1, c1, A2, n2, c2, A3, n3, c3, A4, n4, c4⟩ x K N kc q V (hrd.go hv) hq.out.1 (hq.out.2.1.go hv)
            have f3 := fun (V : World) (hv : Below wr.heap.size wr V) => refTwo_any K A2 N kc n2 c2 q x.e V hq.out.1 hrd.l2 (hq.out.2.1.go hv) (hrd.go hv).r2
            have HC := Lib.hid fun (V : World) (hv : Below wr.heap.size wr V) => (HH.out.go hb).go hv
            obtain ⟨r2, hr2⟩ : ∃ r2, r2 = vec (jn [q, x.e]) := ⟨_, rfl⟩
            obtain ⟨p2, hp2⟩ : ∃ p2, p2 = r2.length := ⟨_, rfl⟩
            rw [← hr2, ← hp2] at f3
            rw [← hr2] at hYes
            have HG := Lib.hid fun (V : World) (hv : Below wr.heap.size wr V) => (show V.cell? ⟨w.heap.size, 1, none⟩ = some (.slice (some ⟨bb, o, none⟩) m d) ∧ V.cell? ⟨bb, o + i * 4, none⟩ = some (.slice A1 n1 c1) ∧ V.cell? ⟨bb, o + i * 4 + 1, none⟩ = some (.slice A2 n2 c2) ∧ V.cell? ⟨bb, o + i * 4 + 2, none⟩ = some (.slice A3 n3 c3) ∧ V.cell? ⟨bb, o + i * 4 + 3, none⟩ = some (.slice A4 n4 c4) from
              ⟨((HX.out.go hb).go hv).cell 1, (hv.cell (p := ⟨bb, o + i * 4, none⟩) hab).trans g0, (hv.cell (p := ⟨bb, o + i * 4 + 1, none⟩) hab).trans g1, (hv.cell (p := ⟨bb, o + i * 4 + 2, none⟩) hab).trans g2, (hv.cell (p := ⟨bb, o + i * 4 + 3, none⟩) hab).trans g3⟩)
            have F3 := Lib.hid f3
            have HP2 := Lib.hid hp2
            have HNO := Lib.hid hNo
            have HYES := Lib.hid hYes
            clear hNo hYes hrd hxe hkS hkL hbs f3 hr2 hp2
            go_wp2_with fail
            refine F1.out.mono ?_
            rintro e W1 ⟨rfl, hk1⟩
            rcases hf1 : ntF x with _ | _
            · have HN := Lib.hid (show lgR b L su = false by rw [HFF.out, HNO.out (by rw [hf1]; rfl)]; rfl)
              have HB := Lib.hid (below_then HB0.out (by have := HS0.out; omega) (below_then hb (Nat.le_refl _) hk1))
              clear hk1 hf1 g0 g1 g2 g3 q1
              go_wp2
              go_ret
              exact ⟨by rw [HN.out]; rfl, HB.out⟩
            · clear g0 g1 g2 g3 q1
              obtain ⟨q1, g0, g1, g2, g3⟩ := HG.out _ hk1
              rw [hf1] at HNO HYES
              go_wp2_with fail
              refine (F2.out W1 hk1).mono ?_
              rintro e W2 ⟨rfl, hk2⟩
              have hk := below_then hk1 (Nat.le_refl _) hk2
              rcases hf2 : ntFits x q with _ | _
              · have HN := Lib.hid (show lgR b L su = false by rw [HFF.out, HNO.out (by rw [hf2]; rfl)]; rfl)
                have HB := Lib.hid (below_then HB0.out (by have := HS0.out; omega) (below_then hb (Nat.le_refl _) hk))
                clear hk1 hk2 hk hf1 hf2 g0 g1 g2 g3 q1
                go_wp2
                go_ret
                exact ⟨by rw [HN.out]; rfl, HB.out⟩
              · have HY := Lib.hid (HYES.out (by rw [hf2]; rfl))
                clear g0 g1 g2 g3 q1
                obtain ⟨q1, g0, g1, g2, g3⟩ := HG.out _ hk
                have HK := Lib.hid hk
                clear hk1 hk2 hf1 hf2 hk g0 g2 g3
                go_wp2_with fail
                refine (F3.out W2 HK.out).mono ?_
                rintro e W3 ⟨K', k', rfl, hR3, hk3⟩
                go_wp2
                go_roundw
                case rel => exact ⟨i + 1, p2, k', K', r2, by go_num, rfl, by omega, below_then hb (Nat.le_refl _) (below_then HK.out (Nat.le_refl _) hk3), HP2.out.symm, Rd.of_own hR3, HY.out.symm⟩
                case measure => simp [intOf]; omega
          · have hdr : (nts L).length ≤ i := by simp only [nts, List.length_map]; rw [HLN.out]; omega
            have HD := Lib.hid (show lgR b L su = true by rw [HFF.out, ← hq.out.2.2, lgW_end hdr]; rfl)
            have HB := Lib.hid (below_then HB0.out (by have := HS0.out; omega) hb)
            clear hdr hq hb
            go_wp2
            go_ret
            exact ⟨by rw [HD.out]; rfl, HB.out⟩
end Go.Proofs.YtldcgmnfohhjbaaDoor
