/- Texts of one layer in one file: LgA, LgB, LgC, LgD, LgE, LgF, LgG, LgH, LgI, LgJ, LgK, LgL. -/
import Derived.Test.YtepdcbhapjgijaaDoorNtC
import Derived.Test.YtepdcbhapjgijaaDoorMVec
import Derived.Test.YtepdcbhapjgijaaDoorNtD
import Derived.Test.YtepdcbhapjgijaaDoorNtB
import Derived.Deep.DeepCutAuto
import Derived.Shelf.Abstract
import Derived.OwnWalkIn
import Derived.TacticsInMore
import Derived.LoopNIn
import Derived.LoopIn
import Derived.Test.YtepdcbhapjgijaaDoorMOld
namespace Go.Proofs.YtepdcbhapjgijaaDoor
open Go.RowKit
set_option maxRecDepth 100000

/-- What is known behind notes; none: a note isn't as it must be. -/
def lgW : List Vc.St → List Nt → Option (List Vc.St)
  | k, [] => some k
  | k, x :: r => if (ntF x && ntFits x k) = true then lgW (vec (jn [k, x.e])) r else none
theorem lgW_end {k : List Vc.St} {l : List Nt} {i : Nat} (h : l.length ≤ i) : lgW k (l.drop i) = some k := by rw [List.drop_of_length_le h]; rfl
theorem lgW_no {k : List Vc.St} {l : List Nt} {i : Nat} (h : i < l.length) (hf : (ntF l[i] && ntFits l[i] k) = false) : lgW k (l.drop i) = none := by
  rw [List.drop_eq_getElem_cons h, lgW, hf]; rfl
theorem lgW_next {k : List Vc.St} {l : List Nt} {i : Nat} (h : i < l.length) (hf : (ntF l[i] && ntFits l[i] k) = true) : lgW k (l.drop i) = lgW (vec (jn [k, l[i].e])) (l.drop (i + 1)) := by
  rw [List.drop_eq_getElem_cons h, lgW, if_pos hf]

/-- Notes as cells. -/
def nvv (L : List (NV × Nt)) : List Value := L.flatMap fun p => p.1.val.toList
theorem nvv_at (L : List (NV × Nt)) (k : Nat) (h : k < L.length) (j : Nat) (hj : j < 4) : (nvv L)[k * 4 + j]? = ((L[k].1.val).toList)[j]? := flat_at (fun p : NV × Nt => p.1.val.toList) 4 (by decide) L (fun _ _ => rfl) k h j hj
/-- A slice of notes. -/
structure RdNs (w : World) (B : Nat) (A : Option Addr) (n c : Nat) (L : List (NV × Nt)) : Prop where
  len : L.length = n
  rd : Rd w B 4 A n c (nvv L)
  each : ∀ p ∈ L, NtRd w B p.1 p.2
theorem RdNs.go {w w' : World} {A : Option Addr} {n c : Nat} {L : List (NV × Nt)} (h : RdNs w w.heap.size A n c L) (hb : Below w.heap.size w w') : RdNs w' w'.heap.size A n c L := ⟨h.len, h.rd.go hb, fun p hp => (h.each p hp).go hb⟩
theorem RdNs.note {w : World} {B n c k : Nat} {A : Option Addr} {L : List (NV × Nt)} (h : RdNs w B A n c L) (hk : k < L.length) :
    ∃ b o, A = some ⟨b, o, none⟩ ∧ b < B ∧ w.cell? ⟨b, o + k * 4, none⟩ = some (.slice L[k].1.A1 L[k].1.n1 L[k].1.c1) ∧ w.cell? ⟨b, o + k * 4 + 1, none⟩ = some (.slice L[k].1.A2 L[k].1.n2 L[k].1.c2) ∧
      w.cell? ⟨b, o + k * 4 + 2, none⟩ = some (.slice L[k].1.A3 L[k].1.n3 L[k].1.c3) ∧ w.cell? ⟨b, o + k * 4 + 3, none⟩ = some (.slice L[k].1.A4 L[k].1.n4 L[k].1.c4) := by
  have hl := h.len
  obtain ⟨b, o, rfl, hb, hc⟩ := h.rd.plain (by omega) (by decide)
  have e : ∀ j, j < 4 → ∀ u, ((L[k].1.val).toList)[j]? = some u → w.cell? ⟨b, o + k * 4 + j, none⟩ = some u := fun j hj u hu => by
    rw [Nat.add_assoc]
    exact hc (k * 4 + j) u (by rw [nvv_at L k hk j hj, hu])
  exact ⟨b, o, rfl, hb, e 0 (by decide) _ rfl, e 1 (by decide) _ rfl, e 2 (by decide) _ rfl, e 3 (by decide) _ rfl⟩
def nts (L : List (NV × Nt)) : List Nt := L.map (·.2)

/-- A log's value. -/
structure LV where
  A : Option Addr
  n : Nat
  c : Nat
  D : Option Addr
  m : Nat
  d : Nat
abbrev LV.val (v : LV) (su : Int) : Array Value := #[.slice v.A v.n v.c, .slice v.D v.m v.d, .int .i64 su]
/-- A value reads as a log: its base, its notes. -/
structure LgRd (w : World) (v : LV) (b : List Vc.St) (L : List (NV × Nt)) : Prop where
  l1 : b.length = v.n
  r1 : Rd w w.heap.size 2 v.A v.n v.c (sv b)
  ns : RdNs w w.heap.size v.D v.m v.d L
theorem LgRd.go {w w' : World} {v : LV} {b : List Vc.St} {L : List (NV × Nt)} (h : LgRd w v b L) (hb : Below w.heap.size w w') : LgRd w' v b L := ⟨h.l1, h.r1.go hb, h.ns.go hb⟩

theorem RdL.one {w : World} {A : Option Addr} {n c : Nat} {u : List Vc.St} (hl : u.length = n) (hR : Rd w w.heap.size 2 A n c (sv u)) (t : TypeId) :
    RdL (w.alloc (.cells #[.slice A n c] t)) (w.alloc (.cells #[.slice A n c] t)).heap.size (some ⟨w.heap.size, 0, none⟩) 1 1 [u] := by
  have hb : Below w.heap.size w (w.alloc (.cells #[.slice A n c] t)) := (Below.refl _ _).alloc (Nat.le_refl _) _
  have hB := Blk.new w t #[.slice A n c]
  refine ⟨rfl, Nat.le_refl _, by simp [maxLen], (fun h => by cases h), fun k hk => ?_⟩
  rcases k with _ | k
  · exact ⟨w.heap.size, 0, A, n, c, rfl, by simp, hB.cell 0, hl, hR.go hb⟩
  · simp only [List.length_cons, List.length_nil] at hk; omega
/-- vector.Join of one, of two; what comes is read. -/
theorem join1_any (A : Option Addr) (n c : Nat) (u : List Vc.St) (W : World) (hT : Tab W) (hl : u.length = n) (hR : Rd W W.heap.size 2 A n c (sv u)) :
    Calls Tryd.prog 23 #[.slice (some ⟨W.heap.size, 0, none⟩) 1 1] (W.alloc (.cells #[.slice A n c] 22)) fun e w' => ∃ A' c', e = .returned (.slice A' (vec (jn [u])).length c') ∧ Rd w' w'.heap.size 2 A' (vec (jn [u])).length c' (sv (vec (jn [u]))) ∧ Below W.heap.size W w' := by
  have hb : Below W.heap.size W (W.alloc (.cells #[.slice A n c] 22)) := (Below.refl _ _).alloc (Nat.le_refl _) _
  refine (join_any _ 1 1 [u] _ (hT.below hb) (RdL.one hl hR 22)).mono ?_
  rintro e w1 ⟨A', c', rfl, ho, hb1⟩
  exact ⟨A', c', rfl, Rd.of_own ho, below_then hb (Nat.le_refl _) hb1⟩
theorem join2_any (A D : Option Addr) (n c m d : Nat) (u v : List Vc.St) (W : World) (hT : Tab W) (hl : u.length = n) (hl2 : v.length = m) (hR : Rd W W.heap.size 2 A n c (sv u)) (hR2 : Rd W W.heap.size 2 D m d (sv v)) :
    Calls Tryd.prog 23 #[.slice (some ⟨W.heap.size, 0, none⟩) 2 2] (W.alloc (.cells #[.slice A n c, .slice D m d] 22)) fun e w' => ∃ A' c', e = .returned (.slice A' (vec (jn [u, v])).length c') ∧ Rd w' w'.heap.size 2 A' (vec (jn [u, v])).length c' (sv (vec (jn [u, v]))) ∧ Below W.heap.size W w' := by
  have hb : Below W.heap.size W (W.alloc (.cells #[.slice A n c, .slice D m d] 22)) := (Below.refl _ _).alloc (Nat.le_refl _) _
  refine (join_any _ 2 2 [u, v] _ (hT.below hb) (RdL.two hl hl2 hR hR2 22)).mono ?_
  rintro e w1 ⟨A', c', rfl, ho, hb1⟩
  exact ⟨A', c', rfl, Rd.of_own ho, below_then hb (Nat.le_refl _) hb1⟩

/-- What invlog.walk hands back. -/
def WalkP (w : World) (b : List Vc.St) (L : List (NV × Nt)) (su : Int) (e : Ending) (w' : World) : Prop :=
  (∃ q K c, lgW (vec (jn [b])) (nts L) = some q ∧ e = .returned (.tuple #[.slice K q.length c, .bool (fm (-1) b && (decide (0 ≤ su) && decide (su ≤ L.length)))]) ∧ Rd w' w'.heap.size 2 K q.length c (sv q) ∧ Below w.heap.size w w') ∨
  (lgW (vec (jn [b])) (nts L) = none ∧ e = .returned (.tuple #[.slice none 0 0, .bool false]) ∧ Below w.heap.size w w')

set_option maxHeartbeats 8000000 in
theorem lgWalk_any (v : LV) (b : List Vc.St) (L : List (NV × Nt)) (su : Int) (w : World) (hT : Tab w) (h : LgRd w v b L) :
    Calls Tryd.prog 35 #[.agg (v.val su)] w (WalkP w b L su) := by
  obtain ⟨A, n, c, D, m, d⟩ := v
  have hb0 : Below w.heap.size w (w.alloc (.cells (LV.val ⟨A, n, c, D, m, d⟩ su) 25)) := (Below.refl _ _).alloc (Nat.le_refl _) _
  have hBx := Blk.new w 25 (LV.val ⟨A, n, c, D, m, d⟩ su)
  obtain ⟨w0, hw0⟩ : ∃ w0, w0 = w.alloc (.cells (LV.val ⟨A, n, c, D, m, d⟩ su) 25) := ⟨_, rfl⟩
  rw [← hw0] at hb0 hBx
  have HT := Lib.hid (hT.below hb0)
  have HH := Lib.hid (h.go hb0)
  have hl1 : b.length = n := h.l1
  have hln : L.length = m := h.ns.len
  have hmax : m ≤ 9223372036854775807 := by have h1 := h.ns.rd.cap; have h2 := h.ns.rd.max; unfold maxLen at h2; dsimp only at h1 h2; omega
  obtain ⟨r0, hr0⟩ : ∃ r0, r0 = vec (jn [b]) := ⟨_, rfl⟩
  obtain ⟨p0, hp0⟩ : ∃ p0, p0 = r0.length := ⟨_, rfl⟩
  have g0 := join1_any A n c b w0 HT.out hl1 HH.out.r1
  rw [← hr0, ← hp0] at g0
  have hs0 : w0.heap.size = w.heap.size + 1 := by rw [hw0]; simp
  rw [hs0] at g0
  have HS0 := Lib.hid hs0
  have G0 := Lib.hid g0
  have HR0 := Lib.hid hr0
  have HP0 := Lib.hid hp0
  have HB0 := Lib.hid hb0
  have HX := Lib.hid hBx
  have HW := Lib.hid hw0.symm
  have HL1 := Lib.hid hl1
  have HLN := Lib.hid hln
  have q0 := hBx.cell 0
  clear hT h hb0 hBx hw0 hl1 hln g0 hr0 hp0 hs0
  go_enter Tryd.func35, Tryd.ntmps35
  go_wp2_with fail
  rw [HW.out]
  refine G0.out.mono ?_
  rintro e w1 ⟨K0, k0, rfl, hR0, hb1⟩
  rw [← HS0.out] at hb1
  have q1 := (HX.out.go hb1).cell 1
  clear q0 G0
  go_wp2_with fail
  go_loopw [2, 5, 13] (fun v2 _ v13 wr => ∃ (i N kc : Nat) (K : Option Addr) (q : List Vc.St), v13 = .int .i64 i ∧ v2 = .slice K N kc ∧ i ≤ m ∧ Below w0.heap.size w0 wr ∧ Hid (q.length = N ∧ Rd wr wr.heap.size 2 K N kc (sv q) ∧ lgW q ((nts L).drop i) = lgW (vec (jn [b])) (nts L)))
    (fun _ _ v13 _ => m - (intOf v13).toNat)
  case atStart => exact ⟨0, p0, k0, K0, r0, rfl, rfl, Nat.zero_le _, hb1, HP0.out.symm, hR0, by rw [← HR0.out]; rfl⟩
  case round =>
    obtain ⟨i, N, kc, K, q, rfl, rfl, hi, hb, hq⟩ := hrel
    have hbs := hb.size
    by_cases hlt : i < m
    · have hkL : i < L.length := by rw [HLN.out]; exact hlt
      obtain ⟨bb, o, rfl, hab, g0, g1, g2, g3⟩ := (HH.out.go hb).ns.note hkL
      have hrd := (HH.out.go hb).ns.each _ (List.getElem_mem hkL)
      have hkS : i < (nts L).length := by simpa [nts] using hkL
      have hxe : (nts L)[i] = L[i].2 := by simp [nts]
      have hNo : (ntF (nts L)[i] && ntFits (nts L)[i] q) = false → lgW q ((nts L).drop i) = none := lgW_no hkS
      have hYes : (ntF (nts L)[i] && ntFits (nts L)[i] q) = true → lgW q ((nts L).drop i) = lgW (vec (jn [q, (nts L)[i].e])) ((nts L).drop (i + 1)) := lgW_next hkS
      rw [hxe] at hNo hYes
      rw [hq.out.2.2] at hNo hYes
      generalize L[i] = p at g0 g1 g2 g3 hrd hNo hYes hxe
      obtain ⟨⟨A1, n1, c1, A2, n2, c2, A3, n3, c3, A4, n4, c4⟩, x⟩ := p
      dsimp only at g0 g1 g2 g3 hrd hNo hYes
      have hbA : Below wr.heap.size wr (wr.alloc (.cells #[.slice A1 n1 c1, .slice A2 n2 c2, .slice A3 n3 c3, .slice A4 n4 c4] 38)) := (Below.refl _ _).alloc (Nat.le_refl _) _
      have hX := Blk.new wr 38 #[.slice A1 n1 c1, .slice A2 n2 c2, .slice A3 n3 c3, .slice A4 n4 c4]
      obtain ⟨W, hW⟩ : ∃ W, W = wr.alloc (.cells #[.slice A1 n1 c1, .slice A2 n2 c2, .slice A3 n3 c3, .slice A4 n4 c4] 38) := ⟨_, rfl⟩
      rw [← hW] at hbA hX
      have hbW := below_then hb (Nat.le_refl _) hbA
      have F1 := Lib.hid fun (V : World) (hv : Below W.heap.size W V) => noteFormed_any ⟨A1, n1, c1, A2, n2, c2, A3, n3, c3, A4, n4, c4⟩ x V ((HT.out.below hbW).below hv) ((hrd.go hbA).go hv)
      have F2 := Lib.hid fun (V : World) (hv : Below W.heap.size W V) => fits_any ⟨A1, n1, c1, A2, n2, c2, A3, n3, c3, A4, n4, c4⟩ x K N kc q V ((HT.out.below hbW).below hv) ((hrd.go hbA).go hv) hq.out.1 ((hq.out.2.1.go hbA).go hv)
      have f3 := fun (V : World) (hv : Below W.heap.size W V) => join2_any K A2 N kc n2 c2 q x.e V ((HT.out.below hbW).below hv) hq.out.1 hrd.l2 ((hq.out.2.1.go hbA).go hv) ((hrd.go hbA).go hv).r2
      obtain ⟨r2, hr2⟩ : ∃ r2, r2 = vec (jn [q, x.e]) := ⟨_, rfl⟩
      obtain ⟨p2, hp2⟩ : ∃ p2, p2 = r2.length := ⟨_, rfl⟩
      rw [← hr2, ← hp2] at f3
      rw [← hr2] at hYes
      have F3 := Lib.hid f3
      have HP2 := Lib.hid hp2
      have HWA := Lib.hid hW.symm
      have HX2 := Lib.hid hX
      have HNO := Lib.hid hNo
      have HYES := Lib.hid hYes
      have HBW := Lib.hid hbW
      clear hW hX hNo hYes hrd hxe hkS hkL hbA hbW hbs f3 hr2 hp2
      go_wp2_with fail
      rw [HWA.out]
      refine (F1.out W (Below.refl _ _)).mono ?_
      rintro e W1 ⟨rfl, hk1⟩
      rcases hf1 : ntF x with _ | _
      · have HN := Lib.hid (HNO.out (by rw [hf1]; rfl))
        have HB := Lib.hid (below_then HB0.out (by have := HS0.out; omega) (below_then HBW.out (Nat.le_refl _) hk1))
        clear hk1 hf1
        go_wp2
        go_ret2
        exact .inr ⟨HN.out, rfl, HB.out⟩
      · have e0 := (HX2.out.go hk1).cell 0
        have e1 := (HX2.out.go hk1).cell 1
        have e2 := (HX2.out.go hk1).cell 2
        have e3 := (HX2.out.go hk1).cell 3
        rw [hf1] at HNO HYES
        go_wp2_with fail
        refine (F2.out W1 hk1).mono ?_
        rintro e W2 ⟨rfl, hk2⟩
        have hk := below_then hk1 (Nat.le_refl _) hk2
        rcases hf2 : ntFits x q with _ | _
        · have HN := Lib.hid (HNO.out (by rw [hf2]; rfl))
          have HB := Lib.hid (below_then HB0.out (by have := HS0.out; omega) (below_then HBW.out (Nat.le_refl _) hk))
          clear hk1 hk2 hk hf1 hf2 e0 e1 e2 e3
          go_wp2
          go_ret2
          exact .inr ⟨HN.out, rfl, HB.out⟩
        · have HY := Lib.hid (HYES.out (by rw [hf2]; rfl))
          clear e0 e1 e2 e3
          have e1 := (HX2.out.go hk).cell 1
          have HK := Lib.hid hk
          clear hk1 hk2 hf1 hf2 hk
          go_wp2_with fail
          refine (F3.out W2 HK.out).mono ?_
          rintro e W3 ⟨K', k', rfl, hR3, hk3⟩
          go_wp2
          go_roundw
          case rel => exact ⟨i + 1, p2, k', K', r2, by go_num, rfl, by omega, below_then HBW.out (Nat.le_refl _) (below_then HK.out (Nat.le_refl _) hk3), HP2.out.symm, hR3, HY.out.symm⟩
          case measure => simp [intOf]; omega
    · have hdr : (nts L).length ≤ i := by simp only [nts, List.length_map]; rw [HLN.out]; omega
      have HD := Lib.hid (show lgW (vec (jn [b])) (nts L) = some q by rw [← hq.out.2.2]; exact lgW_end hdr)
      obtain ⟨rfl, hR, _⟩ := hq.out
      have HRQ := Lib.hid fun (V : World) (hv : Below wr.heap.size wr V) => hR.go hv
      have G := Lib.hid fun (V : World) (hv : Below wr.heap.size wr V) => formed_any A n c b V HL1.out ((HH.out.go hb).go hv).r1
      have HQ := Lib.hid fun (W' : World) (hv : Below wr.heap.size wr W') => (show (W'.cell? ⟨w.heap.size, 0, none⟩ = some (.slice A n c) ∧ W'.cell? ⟨w.heap.size, 1, none⟩ = some (.slice D m d) ∧ W'.cell? ⟨w.heap.size, 2, none⟩ = some (.int .i64 su)) from ⟨((HX.out.go hb).go hv).cell 0, ((HX.out.go hb).go hv).cell 1, ((HX.out.go hb).go hv).cell 2⟩)
      have HB := Lib.hid (below_then HB0.out (by have := HS0.out; omega) hb)
      have kw : Below wr.heap.size wr wr.drew := (Below.refl _ wr).drew
      clear hdr hR hb hq
      rcases hf : fm (-1) b with _ | _
      · rw [hf] at G
        have HF := Lib.hid hf
        clear hf
        go_wp2_with fail
        refine region_nrm fun KK hKK => ?_
        refine wp_region_held_drew (S := (fun W' => W'.cell? ⟨w.heap.size, 0, none⟩ = some (.slice A n c) ∧ W'.cell? ⟨w.heap.size, 1, none⟩ = some (.slice D m d) ∧ W'.cell? ⟨w.heap.size, 2, none⟩ = some (.int .i64 su))) (by kernel_rfl) (by first | exact HQ.out _ kw) (fun hHeld => ?_)
        refine wpAnyH_putD (i := 0) (d := 32) (v := ?_) rfl rfl (by kernel_rfl) (by kernel_rfl) (by kernel_rfl) (fun _ _ _ h => h) (Or.inl ⟨by kernel_rfl, ?_⟩) (by first | exact HQ.out _ kw) ?_
        rotate_left
        · (intro w hS; (try dsimp only at hS); go_simp <;> with_reducible rfl)
        try simp only [List.setIfInBounds_toArray, List.set_cons_zero, List.set_cons_succ]
        refine wpAnyH_putD (i := 1) (d := 33) (v := ?_) rfl rfl (by kernel_rfl) (by kernel_rfl) (by kernel_rfl) (fun _ _ _ h => h) (Or.inl ⟨by kernel_rfl, ?_⟩) (by first | exact HQ.out _ kw) ?_
        rotate_left
        · (intro w hS; (try dsimp only at hS); go_simp <;> with_reducible rfl)
        try simp only [List.setIfInBounds_toArray, List.set_cons_zero, List.set_cons_succ]
        refine wpAnyH_putD (i := 2) (d := 34) (v := ?_) rfl rfl (by kernel_rfl) (by kernel_rfl) (by kernel_rfl) (fun _ _ _ h => h) (Or.inl ⟨by kernel_rfl, ?_⟩) (by first | exact HQ.out _ kw) ?_
        rotate_left
        · (intro w hS; (try dsimp only at hS); go_simp <;> with_reducible rfl)
        try simp only [List.setIfInBounds_toArray, List.set_cons_zero, List.set_cons_succ]
        refine wpAnyH_ready (rs := [3]) (by kernel_rfl) (by simp) ?_
        refine AllReadyH.cons rfl (fun K hK => ?_) AllReadyH.nil
        go_simp
        refine (G.out _ kw).mono ?_
        rintro e V ⟨rfl, hb'⟩
        have kw := below_then kw (Nat.le_refl _) hb'
        clear hb'
        refine hK.out _ _ (by first | exact HQ.out _ kw) (fun hHeld => ?_)
        clear hK K
        refine wpAnyH_putD (i := 4) (d := 36) (v := ?_) rfl rfl (by kernel_rfl) (by kernel_rfl) (by kernel_rfl) (fun _ _ _ h => h) (Or.inl ⟨by kernel_rfl, ?_⟩) (by first | exact HQ.out _ kw) ?_
        rotate_left
        · (intro w hS; (try dsimp only at hS); go_simp <;> with_reducible rfl)
        try simp only [List.setIfInBounds_toArray, List.set_cons_zero, List.set_cons_succ]
        refine wpAnyH_putD (i := 5) (d := 37) (v := undef) rfl rfl (by kernel_rfl) (by kernel_rfl) (by kernel_rfl) (fun _ _ _ h => h) (Or.inr ⟨by kernel_rfl, rfl⟩) (by first | exact HQ.out _ kw) ?_
        try simp only [List.setIfInBounds_toArray, List.set_cons_zero, List.set_cons_succ]
        refine wpAnyH_putD (i := 6) (d := 38) (v := undef) rfl rfl (by kernel_rfl) (by kernel_rfl) (by kernel_rfl) (fun _ _ _ h => h) (Or.inr ⟨by kernel_rfl, rfl⟩) (by first | exact HQ.out _ kw) ?_
        try simp only [List.setIfInBounds_toArray, List.set_cons_zero, List.set_cons_succ]
        refine wpAnyH_putD (i := 7) (d := 39) (v := undef) rfl rfl (by kernel_rfl) (by kernel_rfl) (by kernel_rfl) (fun _ _ _ h => h) (Or.inr ⟨by kernel_rfl, rfl⟩) (by first | exact HQ.out _ kw) ?_
        try simp only [List.setIfInBounds_toArray, List.set_cons_zero, List.set_cons_succ]
        refine wpAnyH_putD (i := 8) (d := 40) (v := ?_) rfl rfl (by kernel_rfl) (by kernel_rfl) (by kernel_rfl) (fun _ _ _ h => h) (Or.inl ⟨by kernel_rfl, ?_⟩) (by first | exact HQ.out _ kw) ?_
        rotate_left
        · (intro w hS; (try dsimp only at hS); go_simp <;> with_reducible rfl)
        try simp only [List.setIfInBounds_toArray, List.set_cons_zero, List.set_cons_succ]
        refine wpAnyH_putD (i := 9) (d := 41) (v := ?_) rfl rfl (by kernel_rfl) (by kernel_rfl) (by kernel_rfl) (fun _ _ _ h => h) (Or.inl ⟨by kernel_rfl, ?_⟩) (by first | exact HQ.out _ kw) ?_
        rotate_left
        · (intro w hS; (try dsimp only at hS); go_simp <;> with_reducible rfl)
        try simp only [List.setIfInBounds_toArray, List.set_cons_zero, List.set_cons_succ]
        refine wpAnyH_putD (i := 10) (d := 42) (v := undef) rfl rfl (by kernel_rfl) (by kernel_rfl) (by kernel_rfl) (fun _ _ _ h => h) (Or.inr ⟨by kernel_rfl, rfl⟩) (by first | exact HQ.out _ kw) ?_
        try simp only [List.setIfInBounds_toArray, List.set_cons_zero, List.set_cons_succ]
        refine wpAnyH_putD (i := 11) (d := 43) (v := undef) rfl rfl (by kernel_rfl) (by kernel_rfl) (by kernel_rfl) (fun _ _ _ h => h) (Or.inr ⟨by kernel_rfl, rfl⟩) (by first | exact HQ.out _ kw) ?_
        try simp only [List.setIfInBounds_toArray, List.set_cons_zero, List.set_cons_succ]
        refine wpAnyH_putD (i := 12) (d := 44) (v := undef) rfl rfl (by kernel_rfl) (by kernel_rfl) (by kernel_rfl) (fun _ _ _ h => h) (Or.inr ⟨by kernel_rfl, rfl⟩) (by first | exact HQ.out _ kw) ?_
        try simp only [List.setIfInBounds_toArray, List.set_cons_zero, List.set_cons_succ]
        refine wpAnyH_putD (i := 13) (d := 45) (v := undef) rfl rfl (by kernel_rfl) (by kernel_rfl) (by kernel_rfl) (fun _ _ _ h => h) (Or.inr ⟨by kernel_rfl, rfl⟩) (by first | exact HQ.out _ kw) ?_
        try simp only [List.setIfInBounds_toArray, List.set_cons_zero, List.set_cons_succ]
        refine wpAnyH_putD (i := 14) (d := 46) (v := undef) rfl rfl (by kernel_rfl) (by kernel_rfl) (by kernel_rfl) (fun _ _ _ h => h) (Or.inr ⟨by kernel_rfl, rfl⟩) (by first | exact HQ.out _ kw) ?_
        try simp only [List.setIfInBounds_toArray, List.set_cons_zero, List.set_cons_succ]
        refine wpAnyH_putD (i := 15) (d := 47) (v := undef) rfl rfl (by kernel_rfl) (by kernel_rfl) (by kernel_rfl) (fun _ _ _ h => h) (Or.inr ⟨by kernel_rfl, rfl⟩) (by first | exact HQ.out _ kw) ?_
        try simp only [List.setIfInBounds_toArray, List.set_cons_zero, List.set_cons_succ]
        refine wpAnyH_putD (i := 16) (d := 48) (v := ?_) rfl rfl (by kernel_rfl) (by kernel_rfl) (by kernel_rfl) (fun _ _ _ h => h) (Or.inl ⟨by kernel_rfl, ?_⟩) (by first | exact HQ.out _ kw) ?_
        rotate_left
        · (intro w hS; (try dsimp only at hS); go_simp <;> with_reducible rfl)
        try simp only [List.setIfInBounds_toArray, List.set_cons_zero, List.set_cons_succ]
        refine wpAnyH_putD (i := 17) (d := 2) (v := ?_) rfl rfl (by kernel_rfl) (by kernel_rfl) (by kernel_rfl) (fun _ _ _ h => h) (Or.inl ⟨by kernel_rfl, ?_⟩) (by first | exact HQ.out _ kw) ?_
        rotate_left
        · (intro w hS; (try dsimp only at hS); go_simp <;> with_reducible rfl)
        try simp only [List.setIfInBounds_toArray, List.set_cons_zero, List.set_cons_succ]
        refine wpAnyH_putD (i := 18) (d := 3) (v := ?_) rfl rfl (by kernel_rfl) (by kernel_rfl) (by kernel_rfl) (fun _ _ _ h => h) (Or.inl ⟨by kernel_rfl, ?_⟩) (by first | exact HQ.out _ kw) ?_
        rotate_left
        · (intro w hS; (try dsimp only at hS); go_simp <;> with_reducible rfl)
        try simp only [List.setIfInBounds_toArray, List.set_cons_zero, List.set_cons_succ]
        refine wpAnyH_done (by kernel_rfl) ?_ _
        refine Nrm.out (hKK _ _ ?_)
        go_wp2
        go_ret2
        exact .inl ⟨q, K, kc, HD.out, by rw [HF.out]; rfl, HRQ.out _ kw, below_then HB.out (Nat.le_refl _) kw⟩
      · rw [hf] at G
        have HF := Lib.hid hf
        clear hf
        by_cases hs : 0 ≤ su
        · have hd : decide (0 ≤ su) = true := decide_eq_true hs
          have HS := Lib.hid hs
          clear hs
          by_cases hm : su ≤ m
          · have hd2 : decide (su ≤ (m : Int)) = true := decide_eq_true hm
            have HM := Lib.hid hm
            clear hm
            go_wp2_with fail
            refine region_nrm fun KK hKK => ?_
            refine wp_region_held_drew (S := (fun W' => W'.cell? ⟨w.heap.size, 0, none⟩ = some (.slice A n c) ∧ W'.cell? ⟨w.heap.size, 1, none⟩ = some (.slice D m d) ∧ W'.cell? ⟨w.heap.size, 2, none⟩ = some (.int .i64 su))) (by kernel_rfl) (by first | exact HQ.out _ kw) (fun hHeld => ?_)
            refine wpAnyH_putD (i := 0) (d := 32) (v := ?_) rfl rfl (by kernel_rfl) (by kernel_rfl) (by kernel_rfl) (fun _ _ _ h => h) (Or.inl ⟨by kernel_rfl, ?_⟩) (by first | exact HQ.out _ kw) ?_
            rotate_left
            · (intro w hS; (try dsimp only at hS); go_simp <;> with_reducible rfl)
            try simp only [List.setIfInBounds_toArray, List.set_cons_zero, List.set_cons_succ]
            refine wpAnyH_putD (i := 1) (d := 33) (v := ?_) rfl rfl (by kernel_rfl) (by kernel_rfl) (by kernel_rfl) (fun _ _ _ h => h) (Or.inl ⟨by kernel_rfl, ?_⟩) (by first | exact HQ.out _ kw) ?_
            rotate_left
            · (intro w hS; (try dsimp only at hS); go_simp <;> with_reducible rfl)
            try simp only [List.setIfInBounds_toArray, List.set_cons_zero, List.set_cons_succ]
            refine wpAnyH_putD (i := 2) (d := 34) (v := ?_) rfl rfl (by kernel_rfl) (by kernel_rfl) (by kernel_rfl) (fun _ _ _ h => h) (Or.inl ⟨by kernel_rfl, ?_⟩) (by first | exact HQ.out _ kw) ?_
            rotate_left
            · (intro w hS; (try dsimp only at hS); go_simp <;> with_reducible rfl)
            try simp only [List.setIfInBounds_toArray, List.set_cons_zero, List.set_cons_succ]
            refine wpAnyH_ready (rs := [3]) (by kernel_rfl) (by simp) ?_
            refine AllReadyH.cons rfl (fun K hK => ?_) AllReadyH.nil
            go_simp
            refine (G.out _ kw).mono ?_
            rintro e V ⟨rfl, hb'⟩
            have kw := below_then kw (Nat.le_refl _) hb'
            clear hb'
            refine hK.out _ _ (by first | exact HQ.out _ kw) (fun hHeld => ?_)
            clear hK K
            refine wpAnyH_putD (i := 4) (d := 36) (v := ?_) rfl rfl (by kernel_rfl) (by kernel_rfl) (by kernel_rfl) (fun _ _ _ h => h) (Or.inl ⟨by kernel_rfl, ?_⟩) (by first | exact HQ.out _ kw) ?_
            rotate_left
            · (intro w hS; (try dsimp only at hS); go_simp <;> with_reducible rfl)
            try simp only [List.setIfInBounds_toArray, List.set_cons_zero, List.set_cons_succ]
            refine wpAnyH_putD (i := 5) (d := 37) (v := ?_) rfl rfl (by kernel_rfl) (by kernel_rfl) (by kernel_rfl) (fun _ _ _ h => h) (Or.inl ⟨by kernel_rfl, ?_⟩) (by first | exact HQ.out _ kw) ?_
            rotate_left
            · (intro w hS; (try dsimp only at hS); go_simp <;> with_reducible rfl)
            try simp only [List.setIfInBounds_toArray, List.set_cons_zero, List.set_cons_succ]
            refine wpAnyH_putD (i := 6) (d := 38) (v := ?_) rfl rfl (by kernel_rfl) (by kernel_rfl) (by kernel_rfl) (fun _ _ _ h => h) (Or.inl ⟨by kernel_rfl, ?_⟩) (by first | exact HQ.out _ kw) ?_
            rotate_left
            · (intro w hS; (try dsimp only at hS); go_simp <;> with_reducible rfl)
            try simp only [List.setIfInBounds_toArray, List.set_cons_zero, List.set_cons_succ]
            refine wpAnyH_putD (i := 7) (d := 39) (v := (.bool true)) rfl rfl (by kernel_rfl) (by kernel_rfl) (by kernel_rfl) (fun _ _ _ h => h) (Or.inl ⟨by kernel_rfl, ?_⟩) (by first | exact HQ.out _ kw) ?_
            · (intro w hS; (try dsimp only at hS); go_simp <;> with_reducible rfl)
            try simp only [List.setIfInBounds_toArray, List.set_cons_zero, List.set_cons_succ]
            refine wpAnyH_putD (i := 8) (d := 40) (v := ?_) rfl rfl (by kernel_rfl) (by kernel_rfl) (by kernel_rfl) (fun _ _ _ h => h) (Or.inl ⟨by kernel_rfl, ?_⟩) (by first | exact HQ.out _ kw) ?_
            rotate_left
            · (intro w hS; (try dsimp only at hS); go_simp <;> with_reducible rfl)
            try simp only [List.setIfInBounds_toArray, List.set_cons_zero, List.set_cons_succ]
            refine wpAnyH_putD (i := 9) (d := 41) (v := ?_) rfl rfl (by kernel_rfl) (by kernel_rfl) (by kernel_rfl) (fun _ _ _ h => h) (Or.inl ⟨by kernel_rfl, ?_⟩) (by first | exact HQ.out _ kw) ?_
            rotate_left
            · (intro w hS; (try dsimp only at hS); go_simp <;> with_reducible rfl)
            try simp only [List.setIfInBounds_toArray, List.set_cons_zero, List.set_cons_succ]
            refine wpAnyH_putD (i := 10) (d := 42) (v := ?_) rfl rfl (by kernel_rfl) (by kernel_rfl) (by kernel_rfl) (fun _ _ _ h => h) (Or.inl ⟨by kernel_rfl, ?_⟩) (by first | exact HQ.out _ kw) ?_
            rotate_left
            · (intro w hS; (try dsimp only at hS); go_simp <;> with_reducible rfl)
            try simp only [List.setIfInBounds_toArray, List.set_cons_zero, List.set_cons_succ]
            refine wpAnyH_putD (i := 11) (d := 43) (v := ?_) rfl rfl (by kernel_rfl) (by kernel_rfl) (by kernel_rfl) (fun _ _ _ h => h) (Or.inl ⟨by kernel_rfl, ?_⟩) (by first | exact HQ.out _ kw) ?_
            rotate_left
            · (intro w hS; (try dsimp only at hS); go_simp <;> with_reducible rfl)
            try simp only [List.setIfInBounds_toArray, List.set_cons_zero, List.set_cons_succ]
            refine wpAnyH_putD (i := 12) (d := 44) (v := ?_) rfl rfl (by kernel_rfl) (by kernel_rfl) (by kernel_rfl) (fun _ _ _ h => h) (Or.inl ⟨by kernel_rfl, ?_⟩) (by first | exact HQ.out _ kw) ?_
            rotate_left
            · (intro w hS; (try dsimp only at hS); go_simp <;> with_reducible rfl)
            try simp only [List.setIfInBounds_toArray, List.set_cons_zero, List.set_cons_succ]
            refine wpAnyH_putD (i := 13) (d := 45) (v := ?_) rfl rfl (by kernel_rfl) (by kernel_rfl) (by kernel_rfl) (fun _ _ _ h => h) (Or.inl ⟨by kernel_rfl, ?_⟩) (by first | exact HQ.out _ kw) ?_
            rotate_left
            · (intro w hS; (try dsimp only at hS); go_simp <;> with_reducible rfl)
            try simp only [List.setIfInBounds_toArray, List.set_cons_zero, List.set_cons_succ]
            refine wpAnyH_putD (i := 14) (d := 46) (v := ?_) rfl rfl (by kernel_rfl) (by kernel_rfl) (by kernel_rfl) (fun _ _ _ h => h) (Or.inl ⟨by kernel_rfl, ?_⟩) (by first | exact HQ.out _ kw) ?_
            rotate_left
            · (intro w hS; (try dsimp only at hS); go_simp <;> with_reducible rfl)
            try simp only [List.setIfInBounds_toArray, List.set_cons_zero, List.set_cons_succ]
            refine wpAnyH_putD (i := 15) (d := 47) (v := (.bool true)) rfl rfl (by kernel_rfl) (by kernel_rfl) (by kernel_rfl) (fun _ _ _ h => h) (Or.inl ⟨by kernel_rfl, ?_⟩) (by first | exact HQ.out _ kw) ?_
            · (intro w hS; (try dsimp only at hS); go_simp <;> with_reducible rfl)
            try simp only [List.setIfInBounds_toArray, List.set_cons_zero, List.set_cons_succ]
            refine wpAnyH_putD (i := 16) (d := 48) (v := ?_) rfl rfl (by kernel_rfl) (by kernel_rfl) (by kernel_rfl) (fun _ _ _ h => h) (Or.inl ⟨by kernel_rfl, ?_⟩) (by first | exact HQ.out _ kw) ?_
            rotate_left
            · (intro w hS; (try dsimp only at hS); go_simp <;> with_reducible rfl)
            try simp only [List.setIfInBounds_toArray, List.set_cons_zero, List.set_cons_succ]
            refine wpAnyH_putD (i := 17) (d := 2) (v := ?_) rfl rfl (by kernel_rfl) (by kernel_rfl) (by kernel_rfl) (fun _ _ _ h => h) (Or.inl ⟨by kernel_rfl, ?_⟩) (by first | exact HQ.out _ kw) ?_
            rotate_left
            · (intro w hS; (try dsimp only at hS); go_simp <;> with_reducible rfl)
            try simp only [List.setIfInBounds_toArray, List.set_cons_zero, List.set_cons_succ]
            refine wpAnyH_putD (i := 18) (d := 3) (v := ?_) rfl rfl (by kernel_rfl) (by kernel_rfl) (by kernel_rfl) (fun _ _ _ h => h) (Or.inl ⟨by kernel_rfl, ?_⟩) (by first | exact HQ.out _ kw) ?_
            rotate_left
            · (intro w hS; (try dsimp only at hS); go_simp <;> with_reducible rfl)
            try simp only [List.setIfInBounds_toArray, List.set_cons_zero, List.set_cons_succ]
            refine wpAnyH_done (by kernel_rfl) ?_ _
            refine Nrm.out (hKK _ _ ?_)
            go_wp2
            go_ret2
            exact .inl ⟨q, K, kc, HD.out, by rw [HF.out, HLN.out, decide_eq_true HS.out, decide_eq_true HM.out]; rfl, HRQ.out _ kw, below_then HB.out (Nat.le_refl _) kw⟩
          · have hd2 : decide (su ≤ (m : Int)) = false := decide_eq_false hm
            have HM := Lib.hid hm
            clear hm
            go_wp2_with fail
            refine region_nrm fun KK hKK => ?_
            refine wp_region_held_drew (S := (fun W' => W'.cell? ⟨w.heap.size, 0, none⟩ = some (.slice A n c) ∧ W'.cell? ⟨w.heap.size, 1, none⟩ = some (.slice D m d) ∧ W'.cell? ⟨w.heap.size, 2, none⟩ = some (.int .i64 su))) (by kernel_rfl) (by first | exact HQ.out _ kw) (fun hHeld => ?_)
            refine wpAnyH_putD (i := 0) (d := 32) (v := ?_) rfl rfl (by kernel_rfl) (by kernel_rfl) (by kernel_rfl) (fun _ _ _ h => h) (Or.inl ⟨by kernel_rfl, ?_⟩) (by first | exact HQ.out _ kw) ?_
            rotate_left
            · (intro w hS; (try dsimp only at hS); go_simp <;> with_reducible rfl)
            try simp only [List.setIfInBounds_toArray, List.set_cons_zero, List.set_cons_succ]
            refine wpAnyH_putD (i := 1) (d := 33) (v := ?_) rfl rfl (by kernel_rfl) (by kernel_rfl) (by kernel_rfl) (fun _ _ _ h => h) (Or.inl ⟨by kernel_rfl, ?_⟩) (by first | exact HQ.out _ kw) ?_
            rotate_left
            · (intro w hS; (try dsimp only at hS); go_simp <;> with_reducible rfl)
            try simp only [List.setIfInBounds_toArray, List.set_cons_zero, List.set_cons_succ]
            refine wpAnyH_putD (i := 2) (d := 34) (v := ?_) rfl rfl (by kernel_rfl) (by kernel_rfl) (by kernel_rfl) (fun _ _ _ h => h) (Or.inl ⟨by kernel_rfl, ?_⟩) (by first | exact HQ.out _ kw) ?_
            rotate_left
            · (intro w hS; (try dsimp only at hS); go_simp <;> with_reducible rfl)
            try simp only [List.setIfInBounds_toArray, List.set_cons_zero, List.set_cons_succ]
            refine wpAnyH_ready (rs := [3]) (by kernel_rfl) (by simp) ?_
            refine AllReadyH.cons rfl (fun K hK => ?_) AllReadyH.nil
            go_simp
            refine (G.out _ kw).mono ?_
            rintro e V ⟨rfl, hb'⟩
            have kw := below_then kw (Nat.le_refl _) hb'
            clear hb'
            refine hK.out _ _ (by first | exact HQ.out _ kw) (fun hHeld => ?_)
            clear hK K
            refine wpAnyH_putD (i := 4) (d := 36) (v := ?_) rfl rfl (by kernel_rfl) (by kernel_rfl) (by kernel_rfl) (fun _ _ _ h => h) (Or.inl ⟨by kernel_rfl, ?_⟩) (by first | exact HQ.out _ kw) ?_
            rotate_left
            · (intro w hS; (try dsimp only at hS); go_simp <;> with_reducible rfl)
            try simp only [List.setIfInBounds_toArray, List.set_cons_zero, List.set_cons_succ]
            refine wpAnyH_putD (i := 5) (d := 37) (v := ?_) rfl rfl (by kernel_rfl) (by kernel_rfl) (by kernel_rfl) (fun _ _ _ h => h) (Or.inl ⟨by kernel_rfl, ?_⟩) (by first | exact HQ.out _ kw) ?_
            rotate_left
            · (intro w hS; (try dsimp only at hS); go_simp <;> with_reducible rfl)
            try simp only [List.setIfInBounds_toArray, List.set_cons_zero, List.set_cons_succ]
            refine wpAnyH_putD (i := 6) (d := 38) (v := ?_) rfl rfl (by kernel_rfl) (by kernel_rfl) (by kernel_rfl) (fun _ _ _ h => h) (Or.inl ⟨by kernel_rfl, ?_⟩) (by first | exact HQ.out _ kw) ?_
            rotate_left
            · (intro w hS; (try dsimp only at hS); go_simp <;> with_reducible rfl)
            try simp only [List.setIfInBounds_toArray, List.set_cons_zero, List.set_cons_succ]
            refine wpAnyH_putD (i := 7) (d := 39) (v := (.bool true)) rfl rfl (by kernel_rfl) (by kernel_rfl) (by kernel_rfl) (fun _ _ _ h => h) (Or.inl ⟨by kernel_rfl, ?_⟩) (by first | exact HQ.out _ kw) ?_
            · (intro w hS; (try dsimp only at hS); go_simp <;> with_reducible rfl)
            try simp only [List.setIfInBounds_toArray, List.set_cons_zero, List.set_cons_succ]
            refine wpAnyH_putD (i := 8) (d := 40) (v := ?_) rfl rfl (by kernel_rfl) (by kernel_rfl) (by kernel_rfl) (fun _ _ _ h => h) (Or.inl ⟨by kernel_rfl, ?_⟩) (by first | exact HQ.out _ kw) ?_
            rotate_left
            · (intro w hS; (try dsimp only at hS); go_simp <;> with_reducible rfl)
            try simp only [List.setIfInBounds_toArray, List.set_cons_zero, List.set_cons_succ]
            refine wpAnyH_putD (i := 9) (d := 41) (v := ?_) rfl rfl (by kernel_rfl) (by kernel_rfl) (by kernel_rfl) (fun _ _ _ h => h) (Or.inl ⟨by kernel_rfl, ?_⟩) (by first | exact HQ.out _ kw) ?_
            rotate_left
            · (intro w hS; (try dsimp only at hS); go_simp <;> with_reducible rfl)
            try simp only [List.setIfInBounds_toArray, List.set_cons_zero, List.set_cons_succ]
            refine wpAnyH_putD (i := 10) (d := 42) (v := ?_) rfl rfl (by kernel_rfl) (by kernel_rfl) (by kernel_rfl) (fun _ _ _ h => h) (Or.inl ⟨by kernel_rfl, ?_⟩) (by first | exact HQ.out _ kw) ?_
            rotate_left
            · (intro w hS; (try dsimp only at hS); go_simp <;> with_reducible rfl)
            try simp only [List.setIfInBounds_toArray, List.set_cons_zero, List.set_cons_succ]
            refine wpAnyH_putD (i := 11) (d := 43) (v := ?_) rfl rfl (by kernel_rfl) (by kernel_rfl) (by kernel_rfl) (fun _ _ _ h => h) (Or.inl ⟨by kernel_rfl, ?_⟩) (by first | exact HQ.out _ kw) ?_
            rotate_left
            · (intro w hS; (try dsimp only at hS); go_simp <;> with_reducible rfl)
            try simp only [List.setIfInBounds_toArray, List.set_cons_zero, List.set_cons_succ]
            refine wpAnyH_putD (i := 12) (d := 44) (v := ?_) rfl rfl (by kernel_rfl) (by kernel_rfl) (by kernel_rfl) (fun _ _ _ h => h) (Or.inl ⟨by kernel_rfl, ?_⟩) (by first | exact HQ.out _ kw) ?_
            rotate_left
            · (intro w hS; (try dsimp only at hS); go_simp <;> with_reducible rfl)
            try simp only [List.setIfInBounds_toArray, List.set_cons_zero, List.set_cons_succ]
            refine wpAnyH_putD (i := 13) (d := 45) (v := ?_) rfl rfl (by kernel_rfl) (by kernel_rfl) (by kernel_rfl) (fun _ _ _ h => h) (Or.inl ⟨by kernel_rfl, ?_⟩) (by first | exact HQ.out _ kw) ?_
            rotate_left
            · (intro w hS; (try dsimp only at hS); go_simp <;> with_reducible rfl)
            try simp only [List.setIfInBounds_toArray, List.set_cons_zero, List.set_cons_succ]
            refine wpAnyH_putD (i := 14) (d := 46) (v := ?_) rfl rfl (by kernel_rfl) (by kernel_rfl) (by kernel_rfl) (fun _ _ _ h => h) (Or.inl ⟨by kernel_rfl, ?_⟩) (by first | exact HQ.out _ kw) ?_
            rotate_left
            · (intro w hS; (try dsimp only at hS); go_simp <;> with_reducible rfl)
            try simp only [List.setIfInBounds_toArray, List.set_cons_zero, List.set_cons_succ]
            refine wpAnyH_putD (i := 15) (d := 47) (v := (.bool false)) rfl rfl (by kernel_rfl) (by kernel_rfl) (by kernel_rfl) (fun _ _ _ h => h) (Or.inl ⟨by kernel_rfl, ?_⟩) (by first | exact HQ.out _ kw) ?_
            · (intro w hS; (try dsimp only at hS); go_simp <;> with_reducible rfl)
            try simp only [List.setIfInBounds_toArray, List.set_cons_zero, List.set_cons_succ]
            refine wpAnyH_putD (i := 16) (d := 48) (v := ?_) rfl rfl (by kernel_rfl) (by kernel_rfl) (by kernel_rfl) (fun _ _ _ h => h) (Or.inl ⟨by kernel_rfl, ?_⟩) (by first | exact HQ.out _ kw) ?_
            rotate_left
            · (intro w hS; (try dsimp only at hS); go_simp <;> with_reducible rfl)
            try simp only [List.setIfInBounds_toArray, List.set_cons_zero, List.set_cons_succ]
            refine wpAnyH_putD (i := 17) (d := 2) (v := ?_) rfl rfl (by kernel_rfl) (by kernel_rfl) (by kernel_rfl) (fun _ _ _ h => h) (Or.inl ⟨by kernel_rfl, ?_⟩) (by first | exact HQ.out _ kw) ?_
            rotate_left
            · (intro w hS; (try dsimp only at hS); go_simp <;> with_reducible rfl)
            try simp only [List.setIfInBounds_toArray, List.set_cons_zero, List.set_cons_succ]
            refine wpAnyH_putD (i := 18) (d := 3) (v := ?_) rfl rfl (by kernel_rfl) (by kernel_rfl) (by kernel_rfl) (fun _ _ _ h => h) (Or.inl ⟨by kernel_rfl, ?_⟩) (by first | exact HQ.out _ kw) ?_
            rotate_left
            · (intro w hS; (try dsimp only at hS); go_simp <;> with_reducible rfl)
            try simp only [List.setIfInBounds_toArray, List.set_cons_zero, List.set_cons_succ]
            refine wpAnyH_done (by kernel_rfl) ?_ _
            refine Nrm.out (hKK _ _ ?_)
            go_wp2
            go_ret2
            exact .inl ⟨q, K, kc, HD.out, by rw [HF.out, HLN.out, decide_eq_true HS.out, decide_eq_false (Int.not_le.2 HM.out)]; rfl, HRQ.out _ kw, below_then HB.out (Nat.le_refl _) kw⟩
        · have hd : decide (0 ≤ su) = false := decide_eq_false hs
          have HS := Lib.hid hs
          clear hs
          go_wp2_with fail
          refine region_nrm fun KK hKK => ?_
          refine wp_region_held_drew (S := (fun W' => W'.cell? ⟨w.heap.size, 0, none⟩ = some (.slice A n c) ∧ W'.cell? ⟨w.heap.size, 1, none⟩ = some (.slice D m d) ∧ W'.cell? ⟨w.heap.size, 2, none⟩ = some (.int .i64 su))) (by kernel_rfl) (by first | exact HQ.out _ kw) (fun hHeld => ?_)
          refine wpAnyH_putD (i := 0) (d := 32) (v := ?_) rfl rfl (by kernel_rfl) (by kernel_rfl) (by kernel_rfl) (fun _ _ _ h => h) (Or.inl ⟨by kernel_rfl, ?_⟩) (by first | exact HQ.out _ kw) ?_
          rotate_left
          · (intro w hS; (try dsimp only at hS); go_simp <;> with_reducible rfl)
          try simp only [List.setIfInBounds_toArray, List.set_cons_zero, List.set_cons_succ]
          refine wpAnyH_putD (i := 1) (d := 33) (v := ?_) rfl rfl (by kernel_rfl) (by kernel_rfl) (by kernel_rfl) (fun _ _ _ h => h) (Or.inl ⟨by kernel_rfl, ?_⟩) (by first | exact HQ.out _ kw) ?_
          rotate_left
          · (intro w hS; (try dsimp only at hS); go_simp <;> with_reducible rfl)
          try simp only [List.setIfInBounds_toArray, List.set_cons_zero, List.set_cons_succ]
          refine wpAnyH_putD (i := 2) (d := 34) (v := ?_) rfl rfl (by kernel_rfl) (by kernel_rfl) (by kernel_rfl) (fun _ _ _ h => h) (Or.inl ⟨by kernel_rfl, ?_⟩) (by first | exact HQ.out _ kw) ?_
          rotate_left
          · (intro w hS; (try dsimp only at hS); go_simp <;> with_reducible rfl)
          try simp only [List.setIfInBounds_toArray, List.set_cons_zero, List.set_cons_succ]
          refine wpAnyH_ready (rs := [3]) (by kernel_rfl) (by simp) ?_
          refine AllReadyH.cons rfl (fun K hK => ?_) AllReadyH.nil
          go_simp
          refine (G.out _ kw).mono ?_
          rintro e V ⟨rfl, hb'⟩
          have kw := below_then kw (Nat.le_refl _) hb'
          clear hb'
          refine hK.out _ _ (by first | exact HQ.out _ kw) (fun hHeld => ?_)
          clear hK K
          refine wpAnyH_putD (i := 4) (d := 36) (v := ?_) rfl rfl (by kernel_rfl) (by kernel_rfl) (by kernel_rfl) (fun _ _ _ h => h) (Or.inl ⟨by kernel_rfl, ?_⟩) (by first | exact HQ.out _ kw) ?_
          rotate_left
          · (intro w hS; (try dsimp only at hS); go_simp <;> with_reducible rfl)
          try simp only [List.setIfInBounds_toArray, List.set_cons_zero, List.set_cons_succ]
          refine wpAnyH_putD (i := 5) (d := 37) (v := ?_) rfl rfl (by kernel_rfl) (by kernel_rfl) (by kernel_rfl) (fun _ _ _ h => h) (Or.inl ⟨by kernel_rfl, ?_⟩) (by first | exact HQ.out _ kw) ?_
          rotate_left
          · (intro w hS; (try dsimp only at hS); go_simp <;> with_reducible rfl)
          try simp only [List.setIfInBounds_toArray, List.set_cons_zero, List.set_cons_succ]
          refine wpAnyH_putD (i := 6) (d := 38) (v := ?_) rfl rfl (by kernel_rfl) (by kernel_rfl) (by kernel_rfl) (fun _ _ _ h => h) (Or.inl ⟨by kernel_rfl, ?_⟩) (by first | exact HQ.out _ kw) ?_
          rotate_left
          · (intro w hS; (try dsimp only at hS); go_simp <;> with_reducible rfl)
          try simp only [List.setIfInBounds_toArray, List.set_cons_zero, List.set_cons_succ]
          refine wpAnyH_putD (i := 7) (d := 39) (v := (.bool false)) rfl rfl (by kernel_rfl) (by kernel_rfl) (by kernel_rfl) (fun _ _ _ h => h) (Or.inl ⟨by kernel_rfl, ?_⟩) (by first | exact HQ.out _ kw) ?_
          · (intro w hS; (try dsimp only at hS); go_simp <;> with_reducible rfl)
          try simp only [List.setIfInBounds_toArray, List.set_cons_zero, List.set_cons_succ]
          refine wpAnyH_putD (i := 8) (d := 40) (v := ?_) rfl rfl (by kernel_rfl) (by kernel_rfl) (by kernel_rfl) (fun _ _ _ h => h) (Or.inl ⟨by kernel_rfl, ?_⟩) (by first | exact HQ.out _ kw) ?_
          rotate_left
          · (intro w hS; (try dsimp only at hS); go_simp <;> with_reducible rfl)
          try simp only [List.setIfInBounds_toArray, List.set_cons_zero, List.set_cons_succ]
          refine wpAnyH_putD (i := 9) (d := 41) (v := ?_) rfl rfl (by kernel_rfl) (by kernel_rfl) (by kernel_rfl) (fun _ _ _ h => h) (Or.inl ⟨by kernel_rfl, ?_⟩) (by first | exact HQ.out _ kw) ?_
          rotate_left
          · (intro w hS; (try dsimp only at hS); go_simp <;> with_reducible rfl)
          try simp only [List.setIfInBounds_toArray, List.set_cons_zero, List.set_cons_succ]
          refine wpAnyH_putD (i := 10) (d := 42) (v := undef) rfl rfl (by kernel_rfl) (by kernel_rfl) (by kernel_rfl) (fun _ _ _ h => h) (Or.inr ⟨by kernel_rfl, rfl⟩) (by first | exact HQ.out _ kw) ?_
          try simp only [List.setIfInBounds_toArray, List.set_cons_zero, List.set_cons_succ]
          refine wpAnyH_putD (i := 11) (d := 43) (v := undef) rfl rfl (by kernel_rfl) (by kernel_rfl) (by kernel_rfl) (fun _ _ _ h => h) (Or.inr ⟨by kernel_rfl, rfl⟩) (by first | exact HQ.out _ kw) ?_
          try simp only [List.setIfInBounds_toArray, List.set_cons_zero, List.set_cons_succ]
          refine wpAnyH_putD (i := 12) (d := 44) (v := undef) rfl rfl (by kernel_rfl) (by kernel_rfl) (by kernel_rfl) (fun _ _ _ h => h) (Or.inr ⟨by kernel_rfl, rfl⟩) (by first | exact HQ.out _ kw) ?_
          try simp only [List.setIfInBounds_toArray, List.set_cons_zero, List.set_cons_succ]
          refine wpAnyH_putD (i := 13) (d := 45) (v := undef) rfl rfl (by kernel_rfl) (by kernel_rfl) (by kernel_rfl) (fun _ _ _ h => h) (Or.inr ⟨by kernel_rfl, rfl⟩) (by first | exact HQ.out _ kw) ?_
          try simp only [List.setIfInBounds_toArray, List.set_cons_zero, List.set_cons_succ]
          refine wpAnyH_putD (i := 14) (d := 46) (v := undef) rfl rfl (by kernel_rfl) (by kernel_rfl) (by kernel_rfl) (fun _ _ _ h => h) (Or.inr ⟨by kernel_rfl, rfl⟩) (by first | exact HQ.out _ kw) ?_
          try simp only [List.setIfInBounds_toArray, List.set_cons_zero, List.set_cons_succ]
          refine wpAnyH_putD (i := 15) (d := 47) (v := undef) rfl rfl (by kernel_rfl) (by kernel_rfl) (by kernel_rfl) (fun _ _ _ h => h) (Or.inr ⟨by kernel_rfl, rfl⟩) (by first | exact HQ.out _ kw) ?_
          try simp only [List.setIfInBounds_toArray, List.set_cons_zero, List.set_cons_succ]
          refine wpAnyH_putD (i := 16) (d := 48) (v := ?_) rfl rfl (by kernel_rfl) (by kernel_rfl) (by kernel_rfl) (fun _ _ _ h => h) (Or.inl ⟨by kernel_rfl, ?_⟩) (by first | exact HQ.out _ kw) ?_
          rotate_left
          · (intro w hS; (try dsimp only at hS); go_simp <;> with_reducible rfl)
          try simp only [List.setIfInBounds_toArray, List.set_cons_zero, List.set_cons_succ]
          refine wpAnyH_putD (i := 17) (d := 2) (v := ?_) rfl rfl (by kernel_rfl) (by kernel_rfl) (by kernel_rfl) (fun _ _ _ h => h) (Or.inl ⟨by kernel_rfl, ?_⟩) (by first | exact HQ.out _ kw) ?_
          rotate_left
          · (intro w hS; (try dsimp only at hS); go_simp <;> with_reducible rfl)
          try simp only [List.setIfInBounds_toArray, List.set_cons_zero, List.set_cons_succ]
          refine wpAnyH_putD (i := 18) (d := 3) (v := ?_) rfl rfl (by kernel_rfl) (by kernel_rfl) (by kernel_rfl) (fun _ _ _ h => h) (Or.inl ⟨by kernel_rfl, ?_⟩) (by first | exact HQ.out _ kw) ?_
          rotate_left
          · (intro w hS; (try dsimp only at hS); go_simp <;> with_reducible rfl)
          try simp only [List.setIfInBounds_toArray, List.set_cons_zero, List.set_cons_succ]
          refine wpAnyH_done (by kernel_rfl) ?_ _
          refine Nrm.out (hKK _ _ ?_)
          go_wp2
          go_ret2
          exact .inl ⟨q, K, kc, HD.out, by rw [HF.out, decide_eq_false (Int.not_le.2 HS.out)]; rfl, HRQ.out _ kw, below_then HB.out (Nat.le_refl _) kw⟩
end Go.Proofs.YtepdcbhapjgijaaDoor

namespace Go.Proofs.YtepdcbhapjgijaaDoor
open Go.RowKit
set_option maxRecDepth 100000

/-- Is a log formed? What is known behind it. -/
def lgF (b : List Vc.St) (L : List (NV × Nt)) (su : Int) : Bool := (lgW (vec (jn [b])) (nts L)).isSome && (fm (-1) b && (decide (0 ≤ su) && decide (su ≤ L.length)))
set_option maxHeartbeats 2000000 in
theorem lgFormed_any (v : LV) (b : List Vc.St) (L : List (NV × Nt)) (su : Int) (w : World) (hT : Tab w) (h : LgRd w v b L) :
    Calls Tryd.prog 13 #[.agg (v.val su)] w fun e w' => e = .returned (.bool (lgF b L su)) ∧ Below w.heap.size w w' := by
  obtain ⟨A, n, c, D, m, d⟩ := v
  have hb0 : Below w.heap.size w (w.alloc (.cells (LV.val ⟨A, n, c, D, m, d⟩ su) 25)) := (Below.refl _ _).alloc (Nat.le_refl _) _
  have G := Lib.hid (lgWalk_any ⟨A, n, c, D, m, d⟩ b L su _ (hT.below hb0) (h.go hb0))
  have HB := Lib.hid hb0
  have HF := Lib.hid (show lgF b L su = ((lgW (vec (jn [b])) (nts L)).isSome && (fm (-1) b && (decide (0 ≤ su) && decide (su ≤ L.length)))) from rfl)
  clear hT h hb0
  go_enter Tryd.func13, Tryd.ntmps13
  go_wp2_with fail
  refine G.out.mono ?_
  rintro e w1 (⟨q, K, kc, hq, rfl, hR, hb⟩ | ⟨hq, rfl, hb⟩)
  · have HQ := Lib.hid (show lgF b L su = (fm (-1) b && (decide (0 ≤ su) && decide (su ≤ L.length))) by rw [HF.out, hq]; rfl)
    have HB2 := Lib.hid (below_then HB.out (Nat.le_refl _) hb)
    clear hq hR hb G HF
    generalize (fm (-1) b && (decide (0 ≤ su) && decide (su ≤ L.length))) = r at HQ ⊢
    generalize q.length = qn
    go_wp2
    go_ret
    exact ⟨by rw [HQ.out]; rfl, HB2.out⟩
  · have HQ := Lib.hid (show lgF b L su = false by rw [HF.out, hq]; rfl)
    have HB2 := Lib.hid (below_then HB.out (Nat.le_refl _) hb)
    clear hq hb G HF
    go_wp2
    go_ret
    exact ⟨by rw [HQ.out]; rfl, HB2.out⟩

/-- What is known behind a log, or nothing. -/
def KnownP (w : World) (b : List Vc.St) (L : List (NV × Nt)) (su : Int) (e : Ending) (w' : World) : Prop :=
  (lgF b L su = true ∧ ∃ q K kc, lgW (vec (jn [b])) (nts L) = some q ∧ e = .returned (.slice K q.length kc) ∧ Rd w' w'.heap.size 2 K q.length kc (sv q) ∧ Below w.heap.size w w') ∨
  (lgF b L su = false ∧ e = .returned (.slice none 0 0) ∧ Below w.heap.size w w')
set_option maxHeartbeats 2000000 in
theorem lgKnown_any (v : LV) (b : List Vc.St) (L : List (NV × Nt)) (su : Int) (w : World) (hT : Tab w) (h : LgRd w v b L) :
    Calls Tryd.prog 10 #[.agg (v.val su)] w (KnownP w b L su) := by
  obtain ⟨A, n, c, D, m, d⟩ := v
  have hb0 : Below w.heap.size w (w.alloc (.cells (LV.val ⟨A, n, c, D, m, d⟩ su) 25)) := (Below.refl _ _).alloc (Nat.le_refl _) _
  have G := Lib.hid (lgWalk_any ⟨A, n, c, D, m, d⟩ b L su _ (hT.below hb0) (h.go hb0))
  have HB := Lib.hid hb0
  have HF := Lib.hid (show lgF b L su = ((lgW (vec (jn [b])) (nts L)).isSome && (fm (-1) b && (decide (0 ≤ su) && decide (su ≤ L.length)))) from rfl)
  clear hT h hb0
  go_enter Tryd.func10, Tryd.ntmps10
  go_wp2_with fail
  refine G.out.mono ?_
  rintro e w1 (⟨q, K, kc, hq, rfl, hR, hb⟩ | ⟨hq, rfl, hb⟩)
  · have HQ := Lib.hid (show lgF b L su = (fm (-1) b && (decide (0 ≤ su) && decide (su ≤ L.length))) by rw [HF.out, hq]; rfl)
    have HB2 := Lib.hid (below_then HB.out (Nat.le_refl _) hb)
    have HR := Lib.hid hR
    have HW := Lib.hid hq
    obtain ⟨qn, hqn⟩ : ∃ qn, qn = q.length := ⟨_, rfl⟩
    rw [← hqn]
    have HN := Lib.hid hqn
    clear hq hR hb G HF hqn
    generalize (fm (-1) b && (decide (0 ≤ su) && decide (su ≤ L.length))) = r at HQ ⊢
    rcases r with _ | _
    · go_wp2
      go_ret
      exact .inr ⟨HQ.out, rfl, HB2.out⟩
    · go_wp2
      go_ret
      exact .inl ⟨HQ.out, q, K, kc, HW.out, by rw [HN.out]; rfl, HR.out, HB2.out⟩
  · have HQ := Lib.hid (show lgF b L su = false by rw [HF.out, hq]; rfl)
    have HB2 := Lib.hid (below_then HB.out (Nat.le_refl _) hb)
    clear hq hb G HF
    go_wp2
    go_ret
    exact .inr ⟨HQ.out, rfl, HB2.out⟩
end Go.Proofs.YtepdcbhapjgijaaDoor

namespace Go.Proofs.YtepdcbhapjgijaaDoor
open Go.RowKit
set_option maxRecDepth 100000

theorem fm_cons {last : Int} {s : Vc.St} {r : List Vc.St} (h : fm last (s :: r) = true) : (0 < s.1 ∧ 0 ≤ s.2 ∧ s.2 < 64) ∧ last < s.2 ∧ fm s.2 r = true := by
  simp only [fm, Bool.and_eq_true, decide_eq_true_eq] at h
  exact ⟨(Vc.right_iff s).1 h.1, h.2.1, h.2.2⟩
theorem fm_low : ∀ (v : List Vc.St) (last : Int), fm last v = true → ∀ n : Nat, (n : Int) ≤ last → Vc.cnt v n = 0
  | [], _, _, _, _ => rfl
  | s :: r, last, h, n, hn => by
    obtain ⟨_, h2, h3⟩ := fm_cons h
    rw [Vc.cnt, if_neg (fun e => by omega)]
    exact fm_low r s.2 h3 n (by omega)
theorem cnt_head {last : Int} {s : Vc.St} {r : List Vc.St} (h : fm last (s :: r) = true) (n : Nat) (hn : s.2 = n) : Vc.cnt (s :: r) n = s.1 := by
  rw [Vc.cnt, if_pos ⟨(Vc.right_iff s).2 (fm_cons h).1, hn⟩]
theorem cnt_tail {s : Vc.St} {r : List Vc.St} (n : Nat) (hn : s.2 ≠ n) : Vc.cnt (s :: r) n = Vc.cnt r n := by
  rw [Vc.cnt, if_neg (fun e => hn e.2)]
theorem fm_ext : ∀ (u v : List Vc.St) (last : Int), fm last u = true → fm last v = true → (∀ n : Nat, n < 64 → Vc.cnt u n = Vc.cnt v n) → u = v
  | [], [], _, _, _, _ => rfl
  | [], t :: r, last, _, hv, he => by
    obtain ⟨h1, _, _⟩ := fm_cons hv
    have h := he t.2.toNat (by omega)
    rw [cnt_head hv _ (by omega)] at h
    simp only [Vc.cnt] at h; omega
  | s :: r, [], last, hu, _, he => by
    obtain ⟨h1, _, _⟩ := fm_cons hu
    have h := he s.2.toNat (by omega)
    rw [cnt_head hu _ (by omega)] at h
    simp only [Vc.cnt] at h; omega
  | s :: r, t :: q, last, hu, hv, he => by
    obtain ⟨h1, _, k1⟩ := fm_cons hu
    obtain ⟨h2, _, k2⟩ := fm_cons hv
    have a := he s.2.toNat (by omega)
    have b := he t.2.toNat (by omega)
    rw [cnt_head hu _ (by omega)] at a
    rw [cnt_head hv _ (by omega)] at b
    have e2 : s.2 = t.2 := by
      rcases Int.lt_trichotomy s.2 t.2 with h | h | h
      · rw [cnt_tail _ (by omega), fm_low q _ k2 _ (by omega)] at a; omega
      · exact h
      · rw [cnt_tail _ (by omega), fm_low r _ k1 _ (by omega)] at b; omega
    rw [cnt_head hv _ (by omega)] at a
    have e : s = t := Prod.ext a e2
    subst e
    refine congrArg _ (fm_ext r q s.2 k1 k2 fun n hn => ?_)
    by_cases hs : s.2 = n
    · rw [fm_low r _ k1 _ (by omega), fm_low q _ k2 _ (by omega)]
    · have := he n hn
      rwa [cnt_tail _ hs, cnt_tail _ hs] at this
theorem jn_one (u : List Vc.St) (n : Nat) : jn [u] n = Vc.cnt u n := by
  have h := Vc.cnt_nonneg u n
  show max 0 (Vc.cnt u n) = _
  omega
theorem vec_one {b : List Vc.St} (h : fm (-1) b = true) : vec (jn [b]) = b :=
  fm_ext _ _ (-1) (formed_vec _) h fun n hn => by rw [cnt_vec (fun n => by rw [jn_one]; exact Vc.cnt_nonneg b n) hn, jn_one]

/-- Is a log formed? From its base. -/
def lgR (b : List Vc.St) (L : List (NV × Nt)) (su : Int) : Bool := fm (-1) b && (decide (0 ≤ su) && (decide (su ≤ L.length) && (lgW b (nts L)).isSome))
theorem lgF_R (b : List Vc.St) (L : List (NV × Nt)) (su : Int) : lgF b L su = lgR b L su := by
  unfold lgF lgR
  rcases hf : fm (-1) b with _ | _
  · simp
  · rw [vec_one hf]
    rcases (lgW b (nts L)) with _ | q <;> simp
theorem lgW_hit {k q : List Vc.St} {l : List Nt} {i : Nat} (h : i < l.length) (e : lgW k (l.drop i) = some q) : (ntF l[i] && ntFits l[i] k) = true := by
  rcases hz : (ntF l[i] && ntFits l[i] k) with _ | _
  · rw [lgW_no h hz] at e; cases e
  · rfl

/-- The place of the first note that is new to a vector. -/
def plW (v : List Vc.St) : List Nt → Nat
  | [] => 0
  | x :: r => if ntNews x v = true then 0 else plW v r + 1
theorem plW_end {v : List Vc.St} {l : List Nt} {i : Nat} (h : l.length ≤ i) : plW v (l.drop i) = 0 := by rw [List.drop_of_length_le h]; rfl
theorem plW_hit {v : List Vc.St} {l : List Nt} {i : Nat} (h : i < l.length) (hf : ntNews l[i] v = true) : plW v (l.drop i) = 0 := by
  rw [List.drop_eq_getElem_cons h, plW, if_pos hf]
theorem plW_miss {v : List Vc.St} {l : List Nt} {i : Nat} (h : i < l.length) (hf : ntNews l[i] v = false) : plW v (l.drop i) = plW v (l.drop (i + 1)) + 1 := by
  rw [List.drop_eq_getElem_cons h, plW, if_neg (by rw [hf]; simp)]
def lgP (b : List Vc.St) (L : List (NV × Nt)) (su : Int) (v : List Vc.St) : Int × Int :=
  if lgR b L su = true then (if covB (Vc.cnt v) (Vc.cnt b) = true then ((plW v (nts L) : Int), 0) else (0, 12)) else (0, 1)

end Go.Proofs.YtepdcbhapjgijaaDoor

namespace Go.Proofs.YtepdcbhapjgijaaDoor
open Go.RowKit
set_option maxRecDepth 100000

/-- What is known behind a log, from its base; or nothing. -/
def KnownR (w : World) (b : List Vc.St) (L : List (NV × Nt)) (su : Int) (e : Ending) (w' : World) : Prop :=
  (lgR b L su = true ∧ ∃ q K kc, lgW b (nts L) = some q ∧ e = .returned (.slice K q.length kc) ∧ Rd w' w'.heap.size 2 K q.length kc (sv q) ∧ Below w.heap.size w w') ∨
  (lgR b L su = false ∧ e = .returned (.slice none 0 0) ∧ Below w.heap.size w w')
theorem lgR_some {b : List Vc.St} {L : List (NV × Nt)} {su : Int} (h : lgR b L su = true) : fm (-1) b = true ∧ ∃ q, lgW b (nts L) = some q := by
  simp only [lgR, Bool.and_eq_true, Option.isSome_iff_exists] at h
  exact ⟨h.1, h.2.2.2⟩
theorem knownP_R {w : World} {b : List Vc.St} {L : List (NV × Nt)} {su : Int} {e : Ending} {w' : World} (h : KnownP w b L su e w') : KnownR w b L su e w' := by
  rcases h with ⟨h1, q, K, kc, h2, h3, h4, h5⟩ | ⟨h1, h2, h3⟩
  · rw [lgF_R] at h1
    rw [vec_one (lgR_some h1).1] at h2
    exact .inl ⟨h1, q, K, kc, h2, h3, h4, h5⟩
  · rw [lgF_R] at h1
    exact .inr ⟨h1, h2, h3⟩

end Go.Proofs.YtepdcbhapjgijaaDoor

namespace Go.Proofs.YtepdcbhapjgijaaDoor
open Go.RowKit
set_option maxRecDepth 100000

theorem noteE_info : (Tryd.prog.info? 38).map (fun i => (i.zero, i.size, i.bytes)) = some (some (.agg #[.slice none 0 0, .slice none 0 0, .slice none 0 0, .slice none 0 0]), 4, 96) := by kernel_rfl
theorem spanLg_info : (Tryd.prog.info? 59).map (fun i => (i.zero, i.size, i.bytes)) = some (some (.agg #[.int .i64 0, .int .i64 0]), 2, 16) := by kernel_rfl
theorem nvv_oneCell (L : List (NV × Nt)) : ∀ u ∈ nvv L, u.oneCell' = true := by
  intro u hu
  simp only [nvv, List.mem_flatMap] at hu
  obtain ⟨p, _, hp⟩ := hu
  simp only [List.mem_cons, List.not_mem_nil, or_false] at hp
  rcases hp with h | h | h | h <;> subst h <;> rfl

/-- slices.Clone. -/
theorem cloneSp_any (A : Option Addr) (n c : Nat) (xs : List Value) (w : World) (hR : Rd w w.heap.size 2 A n c xs) (h1 : ∀ u ∈ xs, u.oneCell' = true) (hn : n ≤ 8796093022208) :
    Calls Tryd.prog 40 #[.slice A n c] w fun e w' => ∃ A' c', e = .returned (.slice A' n c') ∧ w'.ownsRow w.heap.size 59 2 (.slice A' n c') n xs ∧ Below w.heap.size w w' := by
  have hmax := hR.max
  have hcap := hR.cap
  rcases A with _ | ad
  · have hc0 := hR.nil rfl
    obtain rfl : n = 0 := by omega
    subst hc0
    have hx : xs = [] := List.eq_nil_of_length_eq_zero (by simpa using hR.len)
    subst hx
    have ht := fun W => Lib.run_eql_slice_nil (P := Tryd.prog) W 35 59 none 0 0 0 0 Tryd.underlying35
    clear hR h1
    go_enter Tryd.func40, Tryd.ntmps40
    go_wp2
    go_ret
    exact ⟨none, 0, rfl, World.ownsRow_nil _ _ _ _, Below.refl _ _⟩
  · have ht := fun W => Lib.run_eql_slice_nil (P := Tryd.prog) W 35 59 (some ad) n c 0 0 Tryd.underlying35
    obtain ⟨i0, hi0, hz0, hz1, hz2⟩ := info_parts spanLg_info
    have h63 : 0 + n ≤ maxLen := by omega
    go_enter Tryd.func40, Tryd.ntmps40
    go_wp2_with (at_builtin; go_must (refine wpList_append_rd _ rfl (.tmp 5) (.tmp 6) _ rfl w.heap.size 59 i0 _ 2 16 Tryd.underlying35 hi0 hz0 hz1 hz2 rfl (by decide) (.slice (some ⟨w.heap.size, 0, none⟩) 0 0) 0 [] rfl (own_empty w _ _) w.heap.size (some ad) n c xs rfl (hR.alloc (Nat.le_refl _) _) h1 h63 (by omega) (by simp) ?_); intro A' c' w1 hown hg hat)
    go_ret
    exact ⟨A', c', rfl, by simpa using hown, ((Below.refl _ _).alloc (Nat.le_refl _) _).trans (grown_below hg (by simp) (by simp [Value.ownBlock]))⟩

/-- slices.Clone. -/
theorem cloneWr_any (A : Option Addr) (n c : Nat) (xs : List Value) (w : World) (hR : Rd w w.heap.size 4 A n c xs) (h1 : ∀ u ∈ xs, u.oneCell' = true) (hn : n ≤ 4398046511104) :
    Calls Tryd.prog 41 #[.slice A n c] w fun e w' => ∃ A' c', e = .returned (.slice A' n c') ∧ w'.ownsRow w.heap.size 69 4 (.slice A' n c') n xs ∧ Below w.heap.size w w' := by
  have hmax := hR.max
  have hcap := hR.cap
  rcases A with _ | ad
  · have hc0 := hR.nil rfl
    obtain rfl : n = 0 := by omega
    subst hc0
    have hx : xs = [] := List.eq_nil_of_length_eq_zero (by simpa using hR.len)
    subst hx
    have ht := fun W => Lib.run_eql_slice_nil (P := Tryd.prog) W 36 69 none 0 0 0 0 Tryd.underlying36
    clear hR h1
    go_enter Tryd.func41, Tryd.ntmps41
    go_wp2
    go_ret
    exact ⟨none, 0, rfl, World.ownsRow_nil _ _ _ _, Below.refl _ _⟩
  · have ht := fun W => Lib.run_eql_slice_nil (P := Tryd.prog) W 36 69 (some ad) n c 0 0 Tryd.underlying36
    obtain ⟨i0, hi0, hz0, hz1, hz2⟩ := info_parts writes_info
    have h63 : 0 + n ≤ maxLen := by omega
    go_enter Tryd.func41, Tryd.ntmps41
    go_wp2_with (at_builtin; go_must (refine wpList_append_rd _ rfl (.tmp 5) (.tmp 6) _ rfl w.heap.size 69 i0 _ 4 32 Tryd.underlying36 hi0 hz0 hz1 hz2 rfl (by decide) (.slice (some ⟨w.heap.size, 0, none⟩) 0 0) 0 [] rfl (own_empty w _ _) w.heap.size (some ad) n c xs rfl (hR.alloc (Nat.le_refl _) _) h1 h63 (by omega) (by simp) ?_); intro A' c' w1 hown hg hat)
    go_ret
    exact ⟨A', c', rfl, by simpa using hown, ((Below.refl _ _).alloc (Nat.le_refl _) _).trans (grown_below hg (by simp) (by simp [Value.ownBlock]))⟩

/-- slices.Clone. -/
theorem cloneNt_any (A : Option Addr) (n c : Nat) (xs : List Value) (w : World) (hR : Rd w w.heap.size 4 A n c xs) (h1 : ∀ u ∈ xs, u.oneCell' = true) (hn : n ≤ 1466015503701) :
    Calls Tryd.prog 57 #[.slice A n c] w fun e w' => ∃ A' c', e = .returned (.slice A' n c') ∧ w'.ownsRow w.heap.size 38 4 (.slice A' n c') n xs ∧ Below w.heap.size w w' := by
  have hmax := hR.max
  have hcap := hR.cap
  rcases A with _ | ad
  · have hc0 := hR.nil rfl
    obtain rfl : n = 0 := by omega
    subst hc0
    have hx : xs = [] := List.eq_nil_of_length_eq_zero (by simpa using hR.len)
    subst hx
    have ht := fun W => Lib.run_eql_slice_nil (P := Tryd.prog) W 23 38 none 0 0 0 0 Tryd.underlying23
    clear hR h1
    go_enter Tryd.func57, Tryd.ntmps57
    go_wp2
    go_ret
    exact ⟨none, 0, rfl, World.ownsRow_nil _ _ _ _, Below.refl _ _⟩
  · have ht := fun W => Lib.run_eql_slice_nil (P := Tryd.prog) W 23 38 (some ad) n c 0 0 Tryd.underlying23
    obtain ⟨i0, hi0, hz0, hz1, hz2⟩ := info_parts noteE_info
    have h63 : 0 + n ≤ maxLen := by omega
    go_enter Tryd.func57, Tryd.ntmps57
    go_wp2_with (at_builtin; go_must (refine wpList_append_rd _ rfl (.tmp 5) (.tmp 6) _ rfl w.heap.size 38 i0 _ 4 96 Tryd.underlying23 hi0 hz0 hz1 hz2 rfl (by decide) (.slice (some ⟨w.heap.size, 0, none⟩) 0 0) 0 [] rfl (own_empty w _ _) w.heap.size (some ad) n c xs rfl (hR.alloc (Nat.le_refl _) _) h1 h63 (by omega) (by simp) ?_); intro A' c' w1 hown hg hat)
    go_ret
    exact ⟨A', c', rfl, by simpa using hown, ((Below.refl _ _).alloc (Nat.le_refl _) _).trans (grown_below hg (by simp) (by simp [Value.ownBlock]))⟩

set_option maxHeartbeats 8000000 in
theorem ownNote_own (v : NV) (x : Nt) (w : World) (hN : NtRd w w.heap.size v x) (hs : NtSz v) :
    Calls Tryd.prog 18 #[.agg v.val] w fun e w' => ∃ v' : NV, e = .returned (.agg v'.val) ∧ NtOwn w' w.heap.size v' x ∧ Below w.heap.size w w' := by
  obtain ⟨hzz, hi⟩ := zero_of_info notes_zero
  have HI := Lib.hid hi
  obtain ⟨A1, n1, c1, A2, n2, c2, A3, n3, c3, A4, n4, c4⟩ := v
  obtain ⟨s1, s2, s3, s4⟩ := hs
  dsimp only at s1 s2 s3 s4
  have hb1 : Below w.heap.size w (w.alloc (.cells #[.slice A1 n1 c1, .slice A2 n2 c2, .slice A3 n3 c3, .slice A4 n4 c4] 38)) := (Below.refl _ _).alloc (Nat.le_refl _) _
  have hb0 : Below w.heap.size w ((w.alloc (.cells #[.slice A1 n1 c1, .slice A2 n2 c2, .slice A3 n3 c3, .slice A4 n4 c4] 38)).alloc (.cells #[.slice none 0 0, .slice none 0 0, .slice none 0 0, .slice none 0 0] 38)) := hb1.alloc hb1.size _
  have hB1 := (Blk.new w 38 #[.slice A1 n1 c1, .slice A2 n2 c2, .slice A3 n3 c3, .slice A4 n4 c4]).alloc (.cells #[.slice none 0 0, .slice none 0 0, .slice none 0 0, .slice none 0 0] 38)
  have hB2 := Blk.new (w.alloc (.cells #[.slice A1 n1 c1, .slice A2 n2 c2, .slice A3 n3 c3, .slice A4 n4 c4] 38)) 38 #[.slice none 0 0, .slice none 0 0, .slice none 0 0, .slice none 0 0]
  rw [World.size_alloc] at hB2
  obtain ⟨w0, hw0⟩ : ∃ w0, w0 = (w.alloc (.cells #[.slice A1 n1 c1, .slice A2 n2 c2, .slice A3 n3 c3, .slice A4 n4 c4] 38)).alloc (.cells #[.slice none 0 0, .slice none 0 0, .slice none 0 0, .slice none 0 0] 38) := ⟨_, rfl⟩
  rw [← hw0] at hb0 hB1 hB2
  obtain ⟨l1, m1, l2, m2, l3, m3, l4, m4⟩ := hN.go hb0
  dsimp only at l1 m1 l2 m2 l3 m3 l4 m4
  have hsz : w.heap.size + 1 < w0.heap.size := hB2.lt
  have HS := Lib.hid fun W (hb : Below w0.heap.size w0 W) => (show (W.cell? ⟨w.heap.size, 0, none⟩ = some (.slice A1 n1 c1) ∧ W.cell? ⟨w.heap.size, 1, none⟩ = some (.slice A2 n2 c2) ∧ W.cell? ⟨w.heap.size, 2, none⟩ = some (.slice A3 n3 c3) ∧ W.cell? ⟨w.heap.size, 3, none⟩ = some (.slice A4 n4 c4)) from
    ⟨(hB1.go hb).cell 0, (hB1.go hb).cell 1, (hB1.go hb).cell 2, (hB1.go hb).cell 3⟩)
  have HS9 := Lib.hid fun W (hb : Below w0.heap.size w0 W) W' (hg : W.grownBy W' (some (w.heap.size + 1))) => (show (W'.cell? ⟨w.heap.size, 0, none⟩ = some (.slice A1 n1 c1) ∧ W'.cell? ⟨w.heap.size, 1, none⟩ = some (.slice A2 n2 c2) ∧ W'.cell? ⟨w.heap.size, 2, none⟩ = some (.slice A3 n3 c3) ∧ W'.cell? ⟨w.heap.size, 3, none⟩ = some (.slice A4 n4 c4)) from
    ⟨((hB1.go hb).grown hg (by simp)).cell 0, ((hB1.go hb).grown hg (by simp)).cell 1, ((hB1.go hb).grown hg (by simp)).cell 2, ((hB1.go hb).grown hg (by simp)).cell 3⟩)
  have HB2 := Lib.hid fun W (hb : Below w0.heap.size w0 W) => hB2.go hb
  have H1 := Lib.hid fun (W : World) (hb : Below w0.heap.size w0 W) => cloneSt_any A1 n1 c1 (sv x.s) W (m1.go hb) (sv_oneCell _) s1
  have H2 := Lib.hid fun (W : World) (hb : Below w0.heap.size w0 W) => cloneSt_any A2 n2 c2 (sv x.e) W (m2.go hb) (sv_oneCell _) s2
  have H3 := Lib.hid fun (W : World) (hb : Below w0.heap.size w0 W) => cloneSp_any A3 n3 c3 (sv x.b) W (m3.go hb) (sv_oneCell _) s3
  have H4 := Lib.hid fun (W : World) (hb : Below w0.heap.size w0 W) => cloneWr_any A4 n4 c4 (wv x.w) W (m4.go hb) (wv_oneCell _) s4
  have L1 := Lib.hid l1
  have L2 := Lib.hid l2
  have L3 := Lib.hid l3
  have L4 := Lib.hid l4
  have HW := Lib.hid hw0.symm
  have HB0 := Lib.hid hb0
  have k : Below w0.heap.size w0 w0.drew := (Below.refl _ w0).drew
  clear hN l1 m1 l2 m2 l3 m3 l4 m4 hB1 hB2 hw0 hb1 hb0 hi
  go_enter Tryd.func18, Tryd.ntmps18
  go_wp2_with fail
  rw [HW.out]
  refine region_nrm fun KK hKK => ?_
  refine wp_region_held_drew (S := (fun W => W.cell? ⟨w.heap.size, 0, none⟩ = some (.slice A1 n1 c1) ∧ W.cell? ⟨w.heap.size, 1, none⟩ = some (.slice A2 n2 c2) ∧ W.cell? ⟨w.heap.size, 2, none⟩ = some (.slice A3 n3 c3) ∧ W.cell? ⟨w.heap.size, 3, none⟩ = some (.slice A4 n4 c4))) (by kernel_rfl) (by first | exact HS.out _ k | exact hS9) (fun hHeld => ?_)
  refine wpAnyH_putD (i := 0) (d := 3) (v := ?_) rfl rfl (by kernel_rfl) (by kernel_rfl) (by kernel_rfl) (fun _ _ _ h => h) (Or.inl ⟨by kernel_rfl, ?_⟩) (by first | exact HS.out _ k | exact hS9) ?_
  rotate_left
  · (intro w hS; (try dsimp only at hS); go_simp <;> with_reducible rfl)
  try simp only [List.setIfInBounds_toArray, List.set_cons_zero, List.set_cons_succ]
  refine wpAnyH_putD (i := 1) (d := 4) (v := ?_) rfl rfl (by kernel_rfl) (by kernel_rfl) (by kernel_rfl) (fun _ _ _ h => h) (Or.inl ⟨by kernel_rfl, ?_⟩) (by first | exact HS.out _ k | exact hS9) ?_
  rotate_left
  · (intro w hS; (try dsimp only at hS); go_simp <;> with_reducible rfl)
  try simp only [List.setIfInBounds_toArray, List.set_cons_zero, List.set_cons_succ]
  refine wpAnyH_putD (i := 3) (d := 6) (v := ?_) rfl rfl (by kernel_rfl) (by kernel_rfl) (by kernel_rfl) (fun _ _ _ h => h) (Or.inl ⟨by kernel_rfl, ?_⟩) (by first | exact HS.out _ k | exact hS9) ?_
  rotate_left
  · (intro w hS; (try dsimp only at hS); go_simp <;> with_reducible rfl)
  try simp only [List.setIfInBounds_toArray, List.set_cons_zero, List.set_cons_succ]
  refine wpAnyH_putD (i := 4) (d := 7) (v := ?_) rfl rfl (by kernel_rfl) (by kernel_rfl) (by kernel_rfl) (fun _ _ _ h => h) (Or.inl ⟨by kernel_rfl, ?_⟩) (by first | exact HS.out _ k | exact hS9) ?_
  rotate_left
  · (intro w hS; (try dsimp only at hS); go_simp <;> with_reducible rfl)
  try simp only [List.setIfInBounds_toArray, List.set_cons_zero, List.set_cons_succ]
  refine wpAnyH_putD (i := 6) (d := 9) (v := ?_) rfl rfl (by kernel_rfl) (by kernel_rfl) (by kernel_rfl) (fun _ _ _ h => h) (Or.inl ⟨by kernel_rfl, ?_⟩) (by first | exact HS.out _ k | exact hS9) ?_
  rotate_left
  · (intro w hS; (try dsimp only at hS); go_simp <;> with_reducible rfl)
  try simp only [List.setIfInBounds_toArray, List.set_cons_zero, List.set_cons_succ]
  refine wpAnyH_putD (i := 7) (d := 10) (v := ?_) rfl rfl (by kernel_rfl) (by kernel_rfl) (by kernel_rfl) (fun _ _ _ h => h) (Or.inl ⟨by kernel_rfl, ?_⟩) (by first | exact HS.out _ k | exact hS9) ?_
  rotate_left
  · (intro w hS; (try dsimp only at hS); go_simp <;> with_reducible rfl)
  try simp only [List.setIfInBounds_toArray, List.set_cons_zero, List.set_cons_succ]
  refine wpAnyH_putD (i := 9) (d := 12) (v := ?_) rfl rfl (by kernel_rfl) (by kernel_rfl) (by kernel_rfl) (fun _ _ _ h => h) (Or.inl ⟨by kernel_rfl, ?_⟩) (by first | exact HS.out _ k | exact hS9) ?_
  rotate_left
  · (intro w hS; (try dsimp only at hS); go_simp <;> with_reducible rfl)
  try simp only [List.setIfInBounds_toArray, List.set_cons_zero, List.set_cons_succ]
  refine wpAnyH_putD (i := 10) (d := 13) (v := ?_) rfl rfl (by kernel_rfl) (by kernel_rfl) (by kernel_rfl) (fun _ _ _ h => h) (Or.inl ⟨by kernel_rfl, ?_⟩) (by first | exact HS.out _ k | exact hS9) ?_
  rotate_left
  · (intro w hS; (try dsimp only at hS); go_simp <;> with_reducible rfl)
  try simp only [List.setIfInBounds_toArray, List.set_cons_zero, List.set_cons_succ]
  refine wpAnyH_ready (rs := [2]) (by kernel_rfl) (by simp) ?_
  refine AllReadyH.cons rfl (fun K hK => ?_) AllReadyH.nil
  go_simp
  refine (H1.out _ k).mono ?_
  rintro e W ⟨D1, d1, rfl, ho, hb'⟩
  have C1 := Lib.hid (own_less ho k.size)
  have k := below_then k (Nat.le_refl _) hb'
  clear ho hb'
  refine hK.out _ _ (by first | exact HS.out _ k | exact hS9) (fun hHeld => ?_)
  clear hK K
  refine wpAnyH_ready (rs := [5]) (by kernel_rfl) (by simp) ?_
  refine AllReadyH.cons rfl (fun K hK => ?_) AllReadyH.nil
  go_simp
  refine (H2.out _ k).mono ?_
  rintro e W ⟨D2, d2, rfl, ho, hb'⟩
  have C2 := Lib.hid (own_less ho k.size)
  have k := below_then k (Nat.le_refl _) hb'
  have C1 := Lib.hid (own_below C1.out hb' (Nat.le_refl _))
  clear ho hb'
  refine hK.out _ _ (by first | exact HS.out _ k | exact hS9) (fun hHeld => ?_)
  clear hK K
  refine wpAnyH_ready (rs := [8]) (by kernel_rfl) (by simp) ?_
  refine AllReadyH.cons rfl (fun K hK => ?_) AllReadyH.nil
  go_simp
  refine (H3.out _ k).mono ?_
  rintro e W ⟨D3, d3, rfl, ho, hb'⟩
  have C3 := Lib.hid (own_less ho k.size)
  have k := below_then k (Nat.le_refl _) hb'
  have C1 := Lib.hid (own_below C1.out hb' (Nat.le_refl _))
  have C2 := Lib.hid (own_below C2.out hb' (Nat.le_refl _))
  clear ho hb'
  refine hK.out _ _ (by first | exact HS.out _ k | exact hS9) (fun hHeld => ?_)
  clear hK K
  refine wpAnyH_ready (rs := [11]) (by kernel_rfl) (by simp) ?_
  refine AllReadyH.cons rfl (fun K hK => ?_) AllReadyH.nil
  go_simp
  refine (H4.out _ k).mono ?_
  rintro e W ⟨D4, d4, rfl, ho, hb'⟩
  have C4 := Lib.hid (own_less ho k.size)
  have k := below_then k (Nat.le_refl _) hb'
  have C1 := Lib.hid (own_below C1.out hb' (Nat.le_refl _))
  have C2 := Lib.hid (own_below C2.out hb' (Nat.le_refl _))
  have C3 := Lib.hid (own_below C3.out hb' (Nat.le_refl _))
  clear ho hb'
  refine hK.out _ _ (by first | exact HS.out _ k | exact hS9) (fun hHeld => ?_)
  clear hK K
  refine wpAnyH_putD (i := 12) (d := 15) (v := ?_) rfl rfl (by kernel_rfl) (by kernel_rfl) (by kernel_rfl) (fun _ _ _ h => h) (Or.inl ⟨by kernel_rfl, ?_⟩) (by first | exact HS.out _ k | exact hS9) ?_
  rotate_left
  · (intro w hS; (try dsimp only at hS); go_simp <;> with_reducible rfl)
  try simp only [List.setIfInBounds_toArray, List.set_cons_zero, List.set_cons_succ]
  refine wpAnyH_ready (rs := [13]) (by kernel_rfl) (by simp) ?_
  refine AllReadyH.cons rfl (fun K hK => ?_) AllReadyH.nil
  rw [if_pos (by kernel_rfl)]
  refine wp_store_blk 38 (.tmp 2) (.tmp 15) rfl (w.heap.size + 1) 38 _ #[.slice D1 n1 d1, .slice D2 n2 d2, .slice D3 n3 d3, .slice D4 n4 d4] rfl rfl (HB2.out _ k) HI.out rfl (by simp [Value.oneCell']) ?_
  intro W hblk hg
  have hS9 := HS9.out _ k _ hg
  have kw := (HB0.out.trans (k.mono HB0.out.size)).trans (grown_below hg (Nat.le_trans HB0.out.size k.size) (fun g hg' => by cases hg'; exact Nat.le_succ _))
  have C1 := Lib.hid (C1.out.kept hg (own_ne C1.out hsz))
  have C2 := Lib.hid (C2.out.kept hg (own_ne C2.out hsz))
  have C3 := Lib.hid (C3.out.kept hg (own_ne C3.out hsz))
  have C4 := Lib.hid (C4.out.kept hg (own_ne C4.out hsz))
  clear hg k
  refine hK.out _ _ (by first | exact HS.out _ k | exact hS9) (fun hHeld => ?_)
  clear hK K
  refine wpAnyH_done (by kernel_rfl) ?_ _
  refine Nrm.out (hKK _ _ ?_)
  go_wp2
  refine bodyPost_ret (results_cell_row rfl _ _ (w.heap.size + 1) 38 _ _ _ rfl hblk Tryd.underlying38 rfl HI.out) rfl ⟨⟨D1, n1, d1, D2, n2, d2, D3, n3, d3, D4, n4, d4⟩, rfl, ⟨L1.out, own_less C1.out HB0.out.size, L2.out, own_less C2.out HB0.out.size, L3.out, own_less C3.out HB0.out.size, L4.out, own_less C4.out HB0.out.size⟩, kw⟩

theorem nts_at (L : List (NV × Nt)) (i : Nat) (h : i < L.length) : (nts L)[i]'(by simpa [nts] using h) = L[i].2 := by simp [nts]
theorem nts_len (L : List (NV × Nt)) : (nts L).length = L.length := by simp [nts]
def allSame (L M : List Nt) : Bool := decide (L.length = M.length) && (L.zip M).all fun p => ntSame p.1 p.2
def allFrom (L M : List Nt) (k : Nat) : Bool := ((L.drop k).zip (M.drop k)).all fun p => ntSame p.1 p.2
theorem allFrom_next {L M : List Nt} {k : Nat} (h1 : k < L.length) (h2 : k < M.length) : allFrom L M k = (ntSame L[k] M[k] && allFrom L M (k + 1)) := by
  unfold allFrom
  rw [List.drop_eq_getElem_cons h1, List.drop_eq_getElem_cons h2]; rfl
theorem allFrom_end {L M : List Nt} {k : Nat} (h1 : L.length ≤ k) : allFrom L M k = true := by
  unfold allFrom
  rw [List.drop_of_length_le h1]; rfl
theorem allSame_self (L : List Nt) : allSame L L = true := by
  unfold allSame
  rw [decide_eq_true rfl, Bool.true_and, List.all_eq_true]
  intro p hp
  obtain ⟨i, hi, e⟩ := List.getElem_of_mem hp
  rw [← e, List.getElem_zip]
  exact ntSame_self _

def lgSame (b b' : List Vc.St) (su su' : Int) (L L' : List Nt) : Bool := decide (b = b') && (decide (su = su') && allSame L L')
theorem lgSame_self (b : List Vc.St) (su : Int) (L : List Nt) : lgSame b b su su L L = true := by unfold lgSame; rw [decide_eq_true rfl, decide_eq_true rfl, allSame_self]; rfl

end Go.Proofs.YtepdcbhapjgijaaDoor

namespace Go.Proofs.YtepdcbhapjgijaaDoor
open Go.RowKit
set_option maxRecDepth 100000

/-- A log whose lists are of the call's own. -/
structure LgOwn (w : World) (base : Nat) (v : LV) (b : List Vc.St) (L : List (NV × Nt)) : Prop where
  l1 : b.length = v.n
  o1 : w.ownsRow base 47 2 (.slice v.A v.n v.c) v.n (sv b)
  len : L.length = v.m
  o2 : w.ownsRow base 38 4 (.slice v.D v.m v.d) v.m (nvv L)
  each : ∀ p ∈ L, NtOwn w base p.1 p.2
theorem LgOwn.rd {w : World} {base : Nat} {v : LV} {b : List Vc.St} {L : List (NV × Nt)} (h : LgOwn w base v b L) : LgRd w v b L := ⟨h.l1, Rd.of_own h.o1, ⟨h.len, Rd.of_own h.o2, fun p hp => (h.each p hp).rd⟩⟩
theorem LgOwn.below {w w' : World} {base : Nat} {v : LV} {b : List Vc.St} {L : List (NV × Nt)} (h : LgOwn w base v b L) (hb : Below w.heap.size w w') : LgOwn w' base v b L :=
  ⟨h.l1, own_below h.o1 hb (Nat.le_refl _), h.len, own_below h.o2 hb (Nat.le_refl _), fun p hp => (h.each p hp).below hb⟩
theorem LgOwn.less {w : World} {base base' : Nat} {v : LV} {b : List Vc.St} {L : List (NV × Nt)} (h : LgOwn w base v b L) (hb : base' ≤ base) : LgOwn w base' v b L :=
  ⟨h.l1, own_less h.o1 hb, h.len, own_less h.o2 hb, fun p hp => (h.each p hp).less hb⟩
theorem LgOwn.far {w w' : World} {base g : Nat} {v : LV} {b : List Vc.St} {L : List (NV × Nt)} (h : LgOwn w base v b L) (hg : w.grownBy w' (some g)) (hlt : g < base) : LgOwn w' base v b L :=
  ⟨h.l1, h.o1.kept hg (own_ne h.o1 hlt), h.len, h.o2.kept hg (own_ne h.o2 hlt), fun p hp => ⟨(h.each p hp).l1, (h.each p hp).o1.kept hg (own_ne (h.each p hp).o1 hlt), (h.each p hp).l2, (h.each p hp).o2.kept hg (own_ne (h.each p hp).o2 hlt), (h.each p hp).l3, (h.each p hp).o3.kept hg (own_ne (h.each p hp).o3 hlt), (h.each p hp).l4, (h.each p hp).o4.kept hg (own_ne (h.each p hp).o4 hlt)⟩⟩
/-- How long a log's lists may be for its copies to fit. -/
structure LgSz (v : LV) (L : List (NV × Nt)) : Prop where
  n1 : v.n ≤ 8796093022208
  m1 : v.m ≤ 1466015503659
  each : ∀ p ∈ L, NtSz p.1
theorem NtSz.of_rd {w w' : World} {B B' : Nat} {v v' : NV} {x : Nt} (h : NtSz v) (h1 : NtRd w B v x) (h2 : NtRd w' B' v' x) : NtSz v' :=
  ⟨by rw [← h2.l1, h1.l1]; exact h.s1, by rw [← h2.l2, h1.l2]; exact h.s2, by rw [← h2.l3, h1.l3]; exact h.s3, by rw [← h2.l4, h1.l4]; exact h.s4⟩
theorem LgSz.of_rd {w w' : World} {v v' : LV} {b : List Vc.St} {L L' : List (NV × Nt)} (h : LgSz v L) (h1 : LgRd w v b L) (h2 : LgRd w' v' b L') (he : nts L' = nts L) : LgSz v' L' := by
  have hlen : L'.length = L.length := by rw [← nts_len, he, nts_len]
  refine ⟨by rw [← h2.l1, h1.l1]; exact h.n1, by rw [← h2.ns.len, hlen, h1.ns.len]; exact h.m1, fun p hp => ?_⟩
  obtain ⟨i, hi, rfl⟩ := List.getElem_of_mem hp
  have hi' : i < L.length := by omega
  have hx : L'[i].2 = L[i].2 := by
    rw [← nts_at L' i hi, ← nts_at L i hi']
    exact List.getElem_of_eq he _
  have r1 := h1.ns.each _ (List.getElem_mem hi')
  have r2 := h2.ns.each _ (List.getElem_mem hi)
  rw [hx] at r2
  exact (h.each _ (List.getElem_mem hi')).of_rd r1 r2

theorem blk_ne {w : World} {g : Nat} {t : TypeId} {cs : Array Value} {base : Nat} {e : TypeId} {size n : Nat} {v : Value} {xs : List Value} (hg : Blk w g t cs) (h : w.ownsRow base e size v n xs) (he : e ≠ t) : some g ≠ v.ownBlock := by
  rcases own_blk h hg he with h | h
  · rw [h]; simp
  · exact fun e => h e.symm
theorem set_grown (w : World) (g i : Nat) (u : Value) : w.grownBy (w.setCell ⟨g, i, none⟩ u) (some g) :=
  ⟨rfl, rfl, rfl, by simp, fun k _ hne => Below.heap_setCell w ⟨g, i, none⟩ u k (by rintro rfl; exact hne rfl)⟩
theorem blkOf {W : World} {t : TypeId} {cs : Array Value} (_ : Below W.heap.size W (W.alloc (.cells cs t))) : Blk (W.alloc (.cells cs t)) W.heap.size t cs := Blk.new W t cs
theorem newRow {W : World} {t : TypeId} {cs : Array Value} (size n : Nat) (_ : Below W.heap.size W (W.alloc (.cells cs t))) (hn : cs.size = n * size) (hm : n ≤ maxLen) : Rd (W.alloc (.cells cs t)) (W.alloc (.cells cs t)).heap.size size (some ⟨W.heap.size, 0, none⟩) n n cs.toList := by
  have := Rd.new W t size n cs hn hm
  rw [World.size_alloc]; exact this
theorem ntv_oneCell (v : NV) : ∀ u ∈ v.val.toList, u.oneCell' = true := by
  intro u hu
  simp only [List.mem_cons, List.not_mem_nil, or_false] at hu
  rcases hu with h | h | h | h <;> subst h <;> rfl
theorem nvv_snoc (M : List (NV × Nt)) (v : NV) (x : Nt) : nvv (M ++ [(v, x)]) = nvv M ++ v.val.toList := by simp [nvv]

/-- Half way through a copy. -/
structure CpS (w0 W : World) (g : Nat) (D1 : Option Addr) (n d1 : Nat) (su : Int) (b : List Vc.St) (D' : Option Addr) (i d' : Nat) (M : List (NV × Nt)) : Prop where
  bl : Below w0.heap.size w0 W
  ge : w0.heap.size ≤ g
  blk : Blk W g 25 #[.slice D1 n d1, .slice D' i d', .int .i64 su]
  o1 : W.ownsRow w0.heap.size 47 2 (.slice D1 n d1) n (sv b)
  o2 : W.ownsRow w0.heap.size 38 4 (.slice D' i d') i (nvv M)
  each : ∀ p ∈ M, NtOwn W w0.heap.size p.1 p.2
theorem CpS.below {w0 W W' : World} {g n d1 i d' : Nat} {D1 D' : Option Addr} {su : Int} {b : List Vc.St} {M : List (NV × Nt)} (h : CpS w0 W g D1 n d1 su b D' i d' M) (hb : Below W.heap.size W W') : CpS w0 W' g D1 n d1 su b D' i d' M :=
  ⟨below_then h.bl (Nat.le_refl _) hb, h.ge, h.blk.go hb, own_below h.o1 hb (Nat.le_refl _), own_below h.o2 hb (Nat.le_refl _), fun p hp => (h.each p hp).below hb⟩
theorem CpS.app {w0 W W' : World} {g n d1 i d' : Nat} {D1 D' : Option Addr} {su : Int} {b : List Vc.St} {M : List (NV × Nt)} (h : CpS w0 W g D1 n d1 su b D' i d' M) {v : NV} {x : Nt} (hn : NtOwn W w0.heap.size v x) {D : Option Addr} {d : Nat}
    (ho : W'.ownsRow w0.heap.size 38 4 (.slice D (i + 1) d) (i + 1) (nvv M ++ v.val.toList)) (hg : W.grownBy W' (Value.slice D' i d').ownBlock) : CpS w0 (W'.setCell ⟨g, 1, none⟩ (.slice D (i + 1) d)) g D1 n d1 su b D (i + 1) d (M ++ [(v, x)]) := by
  have hB := h.blk.grown hg (blk_ne h.blk h.o2 (by decide))
  have hs := set_grown W' g 1 (.slice D (i + 1) d)
  have hr : ∀ p : NV × Nt, NtOwn W w0.heap.size p.1 p.2 → NtOwn W' w0.heap.size p.1 p.2 := fun p hp => NtOwn.row hp h.o2 (by decide) (by decide) (by decide) hg
  have hr2 : ∀ p : NV × Nt, NtOwn W' w0.heap.size p.1 p.2 → NtOwn (W'.setCell ⟨g, 1, none⟩ (.slice D (i + 1) d)) w0.heap.size p.1 p.2 := fun p hp => NtOwn.blk hp hB (by decide) (by decide) (by decide) hs
  refine ⟨(h.bl.trans (grown_below hg h.bl.size (fun k hk => own_lt h.o2 k hk))).trans (grown_below hs (Nat.le_trans h.bl.size hg.size) (fun k hk => by cases hk; exact h.ge)), h.ge, hB.set_ 1 _, ?_, ?_, fun p hp => ?_⟩
  · exact (h.o1.kept hg (own_two h.o1 h.o2 (by decide))).kept hs (own_blk (h.o1.kept hg (own_two h.o1 h.o2 (by decide))) hB (by decide))
  · rw [nvv_snoc]; exact ho.kept hs (own_blk ho hB (by decide))
  · rcases List.mem_append.1 hp with hp | hp
    · exact hr2 _ (hr _ (h.each p hp))
    · rw [List.mem_singleton] at hp
      subst hp; exact hr2 (v, x) (hr (v, x) hn)
theorem log_zero : (Tryd.prog.info? 25).map (fun i => (i.zero, i.size)) = some (some (.agg #[.slice none 0 0, .slice none 0 0, .int .i64 0]), 3) := by kernel_rfl

end Go.Proofs.YtepdcbhapjgijaaDoor

namespace Go.Proofs.YtepdcbhapjgijaaDoor
open Go.RowKit
set_option maxRecDepth 100000

theorem take_mid {α : Type} (cur vs : List α) (o N : Nat) (h : o + vs.length ≤ N) (hN : N ≤ cur.length) :
    (cur.take o ++ vs ++ cur.drop (o + vs.length)).take N = (cur.take N).take o ++ vs ++ (cur.take N).drop (o + vs.length) := by
  have h1 : (cur.take o ++ vs).length = o + vs.length := by rw [List.length_append, List.length_take]; omega
  rw [List.take_append, h1, List.take_of_length_le (by rw [h1]; exact h), List.take_take, List.drop_take]
  congr 3
  omega
/-- A store of a whole value at place i of a row of the call's own. -/
theorem own_set {P : Program} {w : World} {base : Nat} {e : TypeId} {size G n c : Nat} {xs : List Value} (h : w.ownsRow base e size (.slice (some ⟨G, 0, none⟩) n c) n xs) (ty : TypeId) (cells : Array Value) (off i : Nat) (hoff : off = i * size) (hin : i < n)
    (hc : cells.size = size) (hi : (P.info? ty).map (·.size) = some cells.size) (h1 : cells.all (·.oneCell') = true) :
    ∃ w', (Instr.storeAt ty (.pointer (some ⟨G, off, none⟩)) (.agg cells)).run P w = .ok () w' ∧ w'.ownsRow base e size (.slice (some ⟨G, 0, none⟩) n c) n (xs.take off ++ cells.toList ++ xs.drop (off + cells.toList.length)) ∧ w.grownBy w' (some G) := by
  obtain ⟨hl, h | ⟨g, cap, cur, hv, hb, hg, hnc, hcm, hcs, hx⟩⟩ := h
  · exact absurd h.1 (by simp)
  · injection hv with hv1 hv2 hv3
    injection hv1 with hv1
    injection hv1 with hv1
    subst hv1 hv3
    have hle : off + size ≤ n * size := by
      rw [hoff, ← Nat.succ_mul]; exact Nat.mul_le_mul_right _ hin
    have hnc' : n * size ≤ c * size := Nat.mul_le_mul_right _ hnc
    have hlen : cells.toList.length = size := by simpa using hc
    have hst := run_storeCells_at (P := P) G off e cells.toList 0 cur w hg (by rw [hlen]; omega) (fun v hv => (Array.all_eq_true_iff_forall_mem.1 h1) v (by simpa using hv))
    simp only [Nat.add_zero] at hst
    refine ⟨w.setRow G (cur.toList.take off ++ cells.toList ++ cur.toList.drop (off + cells.toList.length)).toArray, ?_, ⟨?_, .inr ⟨G, c, (cur.toList.take off ++ cells.toList ++ cur.toList.drop (off + cells.toList.length)).toArray, rfl, hb, setRow_heap w G cur _ e _ hg, hnc, hcm, ?_, ?_⟩⟩, ⟨rfl, rfl, rfl, by simp, fun k _ hk => setRow_other w G k _ (fun e => hk (by rw [e]))⟩⟩
    · cases hq : P.info? ty with
      | none => simp [hq] at hi
      | some j =>
        have hs : cells.size = j.size := by simp [hq] at hi; omega
        simp only [Instr.storeAt, Instr.sureAddr, Sem.run_bind, Sem.run_pure, Result.andThen_ok]
        simp [storeVar, sizeOf, typeInfo, hq, Value.cells, hs, hst]
    · rw [List.length_append, List.length_append, List.length_take, List.length_drop, hl, hlen]; omega
    · have : cur.toList.length = c * size := by simpa using hcs
      simp only [List.size_toArray, List.length_append, List.length_take, List.length_drop]; omega
    · have hcl : cur.toList.length = c * size := by simpa using hcs
      rw [← hx]
      exact take_mid cur.toList cells.toList off (n * size) (by rw [hlen]; exact hle) (by rw [hcl]; exact hnc')
theorem wp_store_own {P : Program} {op : Oper} {a : Act} {w : World} {K : Act → World → Prop} {Q : Exit → Act → World → Prop} (ty : TypeId) (x y : Operand) (ho : op.op = .store ty x y)
    {base : Nat} {e : TypeId} {size G n c : Nat} {xs : List Value} (h : w.ownsRow base e size (.slice (some ⟨G, 0, none⟩) n c) n xs) (cells : Array Value) (off i : Nat) (hx : a.eval x = .pointer (some ⟨G, off, none⟩)) (hy : a.eval y = .agg cells) (hoff : off = i * size) (hin : i < n)
    (hc : cells.size = size) (hi : (P.info? ty).map (·.size) = some cells.size) (h1 : cells.all (·.oneCell') = true)
    (hK : ∀ w', w'.ownsRow base e size (.slice (some ⟨G, 0, none⟩) n c) n (xs.take off ++ cells.toList ++ xs.drop (off + cells.toList.length)) → w.grownBy w' (some G) → K (a.put op.dst undef) w') : op.wp P a w K Q := by
  obtain ⟨w', hr, h2, h3⟩ := own_set (P := P) h ty cells off i hoff hin hc hi h1
  unfold Oper.wp execOp
  simp only [ho, hx, hy, Sem.run_bind, hr, Result.andThen_ok]
  exact hK w' h2 h3

theorem nvv_len (L : List (NV × Nt)) : (nvv L).length = L.length * 4 := flat_len (fun p : NV × Nt => p.1.val.toList) 4 L fun _ _ => rfl
theorem nvv_set (M R : List (NV × Nt)) (p : NV × Nt) (v : NV) (x : Nt) : (nvv (M ++ p :: R)).take (M.length * 4) ++ v.val.toList ++ (nvv (M ++ p :: R)).drop (M.length * 4 + v.val.toList.length) = nvv ((M ++ [(v, x)]) ++ R) := by
  have e : nvv (M ++ p :: R) = nvv M ++ (p.1.val.toList ++ nvv R) := by simp [nvv]
  rw [e, List.take_left' (nvv_len M), ← List.drop_drop, List.drop_left' (nvv_len M)]
  simp [nvv]

/-- Half way through a copy in place. -/
structure OwS (w0 W : World) (g : Nat) (D1 : Option Addr) (n d1 : Nat) (su : Int) (b : List Vc.St) (D2 : Option Addr) (m d2 : Nat) (M R : List (NV × Nt)) : Prop where
  bl : Below w0.heap.size w0 W
  ge : w0.heap.size ≤ g
  blk : Blk W g 25 #[.slice D1 n d1, .slice D2 m d2, .int .i64 su]
  o1 : W.ownsRow w0.heap.size 47 2 (.slice D1 n d1) n (sv b)
  o2 : W.ownsRow w0.heap.size 38 4 (.slice D2 m d2) m (nvv (M ++ R))
  each : ∀ p ∈ M, NtOwn W w0.heap.size p.1 p.2
theorem OwS.below {w0 W W' : World} {g n d1 m d2 : Nat} {D1 D2 : Option Addr} {su : Int} {b : List Vc.St} {M R : List (NV × Nt)} (h : OwS w0 W g D1 n d1 su b D2 m d2 M R) (hb : Below W.heap.size W W') : OwS w0 W' g D1 n d1 su b D2 m d2 M R :=
  ⟨below_then h.bl (Nat.le_refl _) hb, h.ge, h.blk.go hb, own_below h.o1 hb (Nat.le_refl _), own_below h.o2 hb (Nat.le_refl _), fun p hp => (h.each p hp).below hb⟩
theorem OwS.set_ {w0 W W' : World} {g n d1 m d2 G : Nat} {D1 : Option Addr} {su : Int} {b : List Vc.St} {M R : List (NV × Nt)} {p : NV × Nt} (h : OwS w0 W g D1 n d1 su b (some ⟨G, 0, none⟩) m d2 M (p :: R)) {v : NV} {x : Nt} (hn : NtOwn W w0.heap.size v x)
    (ho : W'.ownsRow w0.heap.size 38 4 (.slice (some ⟨G, 0, none⟩) m d2) m ((nvv (M ++ p :: R)).take (M.length * 4) ++ v.val.toList ++ (nvv (M ++ p :: R)).drop (M.length * 4 + v.val.toList.length))) (hg : W.grownBy W' (some G)) : OwS w0 W' g D1 n d1 su b (some ⟨G, 0, none⟩) m d2 (M ++ [(v, x)]) R := by
  rw [nvv_set] at ho
  have hr : ∀ q : NV × Nt, NtOwn W w0.heap.size q.1 q.2 → NtOwn W' w0.heap.size q.1 q.2 := fun q hq => NtOwn.row hq h.o2 (by decide) (by decide) (by decide) hg
  refine ⟨h.bl.trans (grown_below hg h.bl.size (fun k hk => own_lt h.o2 k hk)), h.ge, h.blk.grown hg (blk_ne h.blk h.o2 (by decide)), h.o1.kept hg (own_two h.o1 h.o2 (by decide)), ho, fun q hq => ?_⟩
  rcases List.mem_append.1 hq with hq | hq
  · exact hr _ (h.each q hq)
  · rw [List.mem_singleton] at hq
    subst hq; exact hr (v, x) hn

set_option maxHeartbeats 8000000 in
theorem lgOwn_own (v : LV) (b : List Vc.St) (L : List (NV × Nt)) (su : Int) (w : World) (h : LgRd w v b L) (hsz : LgSz v L) :
    Calls Tryd.prog 36 #[.agg (v.val su)] w fun e w' => ∃ v' L', e = .returned (.agg (v'.val su)) ∧ LgOwn w' w.heap.size v' b L' ∧ nts L' = nts L ∧ Below w.heap.size w w' := by
  obtain ⟨hzz, hi⟩ := zero_of_info log_zero
  have HI := Lib.hid hi
  obtain ⟨_, hiN⟩ := zero_of_info notes_zero
  have HIN := Lib.hid hiN
  obtain ⟨A, n, c, D, m, d⟩ := v
  obtain ⟨sz1, sz2, sz3⟩ := hsz
  dsimp only at sz1 sz2
  have HSZ := Lib.hid sz3
  have hb1 : Below w.heap.size w (w.alloc (.cells (LV.val ⟨A, n, c, D, m, d⟩ su) 25)) := (Below.refl _ _).alloc (Nat.le_refl _) _
  have hb0 : Below w.heap.size w ((w.alloc (.cells (LV.val ⟨A, n, c, D, m, d⟩ su) 25)).alloc (.cells #[.slice none 0 0, .slice none 0 0, .int .i64 0] 25)) := hb1.alloc hb1.size _
  have hB1 := (Blk.new w 25 (LV.val ⟨A, n, c, D, m, d⟩ su)).alloc (.cells #[.slice none 0 0, .slice none 0 0, .int .i64 0] 25)
  have hB2 := Blk.new (w.alloc (.cells (LV.val ⟨A, n, c, D, m, d⟩ su) 25)) 25 #[.slice none 0 0, .slice none 0 0, .int .i64 0]
  rw [World.size_alloc] at hB2
  obtain ⟨w0, hw0⟩ : ∃ w0, w0 = (w.alloc (.cells (LV.val ⟨A, n, c, D, m, d⟩ su) 25)).alloc (.cells #[.slice none 0 0, .slice none 0 0, .int .i64 0] 25) := ⟨_, rfl⟩
  rw [← hw0] at hb0 hB1 hB2
  have HH := Lib.hid (h.go hb0)
  have hln : L.length = m := h.ns.len
  have HL1 := Lib.hid (show b.length = n from h.l1)
  have HLN := Lib.hid hln
  have hsz : w.heap.size + 1 < w0.heap.size := hB2.lt
  have HB2 := Lib.hid fun W (hb : Below w0.heap.size w0 W) => hB2.go hb
  have HS := Lib.hid fun W (hb : Below w0.heap.size w0 W) => (show W.cell? ⟨w.heap.size, 0, none⟩ = some (.slice A n c) ∧ W.cell? ⟨w.heap.size, 1, none⟩ = some (.slice D m d) ∧ W.cell? ⟨w.heap.size, 2, none⟩ = some (.int .i64 su) from
    ⟨(hB1.go hb).cell 0, (hB1.go hb).cell 1, (hB1.go hb).cell 2⟩)
  have HB0 := Lib.hid hb0
  have HW := Lib.hid hw0.symm
  have H1 := Lib.hid fun (W : World) (hb : Below w0.heap.size w0 W) => cloneSt_any A n c (sv b) W (HH.out.go hb).r1 (sv_oneCell _) sz1
  have H2 := Lib.hid fun (W : World) (hb : Below w0.heap.size w0 W) => cloneNt_any D m d (nvv L) W (HH.out.go hb).ns.rd (nvv_oneCell _) (by omega)
  clear h hb0 hb1 hB1 hB2 hw0 hln hi sz3 hiN
  go_enter Tryd.func36, Tryd.ntmps36
  go_upto_region 1 with fail
  rw [HW.out]
  go_cut [3] (fun v3 wx => ∃ (g d1 d2 : Nat) (D1 D2 : Option Addr), v3 = .pointer (some ⟨g, 0, none⟩) ∧ Hid (OwS w0 wx g D1 n d1 su b D2 m d2 [] L))
  case first =>
    have k : Below w0.heap.size w0 w0.drew := (Below.refl _ w0).drew
    refine region_nrm fun KK hKK => ?_
    refine wp_region_held_drew (S := (fun W => W.cell? ⟨w.heap.size, 0, none⟩ = some (.slice A n c) ∧ W.cell? ⟨w.heap.size, 1, none⟩ = some (.slice D m d) ∧ W.cell? ⟨w.heap.size, 2, none⟩ = some (.int .i64 su))) (by kernel_rfl) (by first | exact HS.out _ k) (fun hHeld => ?_)
    refine wpAnyH_putD (i := 0) (d := 6) (v := ?_) rfl rfl (by kernel_rfl) (by kernel_rfl) (by kernel_rfl) (fun _ _ _ h => h) (Or.inl ⟨by kernel_rfl, ?_⟩) (by first | exact HS.out _ k) ?_
    rotate_left
    · (intro w hS; (try dsimp only at hS); go_simp <;> with_reducible rfl)
    try simp only [List.setIfInBounds_toArray, List.set_cons_zero, List.set_cons_succ]
    refine wpAnyH_putD (i := 1) (d := 7) (v := ?_) rfl rfl (by kernel_rfl) (by kernel_rfl) (by kernel_rfl) (fun _ _ _ h => h) (Or.inl ⟨by kernel_rfl, ?_⟩) (by first | exact HS.out _ k) ?_
    rotate_left
    · (intro w hS; (try dsimp only at hS); go_simp <;> with_reducible rfl)
    try simp only [List.setIfInBounds_toArray, List.set_cons_zero, List.set_cons_succ]
    refine wpAnyH_putD (i := 3) (d := 9) (v := ?_) rfl rfl (by kernel_rfl) (by kernel_rfl) (by kernel_rfl) (fun _ _ _ h => h) (Or.inl ⟨by kernel_rfl, ?_⟩) (by first | exact HS.out _ k) ?_
    rotate_left
    · (intro w hS; (try dsimp only at hS); go_simp <;> with_reducible rfl)
    try simp only [List.setIfInBounds_toArray, List.set_cons_zero, List.set_cons_succ]
    refine wpAnyH_putD (i := 4) (d := 10) (v := ?_) rfl rfl (by kernel_rfl) (by kernel_rfl) (by kernel_rfl) (fun _ _ _ h => h) (Or.inl ⟨by kernel_rfl, ?_⟩) (by first | exact HS.out _ k) ?_
    rotate_left
    · (intro w hS; (try dsimp only at hS); go_simp <;> with_reducible rfl)
    try simp only [List.setIfInBounds_toArray, List.set_cons_zero, List.set_cons_succ]
    refine wpAnyH_putD (i := 6) (d := 12) (v := ?_) rfl rfl (by kernel_rfl) (by kernel_rfl) (by kernel_rfl) (fun _ _ _ h => h) (Or.inl ⟨by kernel_rfl, ?_⟩) (by first | exact HS.out _ k) ?_
    rotate_left
    · (intro w hS; (try dsimp only at hS); go_simp <;> with_reducible rfl)
    try simp only [List.setIfInBounds_toArray, List.set_cons_zero, List.set_cons_succ]
    refine wpAnyH_putD (i := 7) (d := 13) (v := ?_) rfl rfl (by kernel_rfl) (by kernel_rfl) (by kernel_rfl) (fun _ _ _ h => h) (Or.inl ⟨by kernel_rfl, ?_⟩) (by first | exact HS.out _ k) ?_
    rotate_left
    · (intro w hS; (try dsimp only at hS); go_simp <;> with_reducible rfl)
    try simp only [List.setIfInBounds_toArray, List.set_cons_zero, List.set_cons_succ]
    refine wpAnyH_ready (rs := [2, 9]) (by kernel_rfl) (by simp) ?_
    refine AllReadyH.cons rfl (fun K hK => ?_) (AllReadyH.cons rfl (fun K hK => ?_) AllReadyH.nil)
    · go_simp
      refine (H1.out _ k).mono ?_
      rintro e W1 ⟨D1, d1, rfl, ho, hb'⟩
      have C1 := Lib.hid (own_less ho k.size)
      have k := below_then k (Nat.le_refl _) hb'
      try (have G := Lib.hid (G.out.go hb'))
      clear ho hb'
      refine hK.out _ _ (by first | exact HS.out _ k) (fun hHeld => ?_)
      clear hK K
      refine wpAnyH_ready (rs := [5, 9]) (by kernel_rfl) (by simp) ?_
      refine AllReadyH.cons rfl (fun K hK => ?_) (AllReadyH.cons rfl (fun K hK => ?_) AllReadyH.nil)
      · go_simp
        refine (H2.out _ k).mono ?_
        rintro e W2 ⟨D2, d2, rfl, ho, hb'⟩
        have C2 := Lib.hid (own_less ho k.size)
        have C1 := Lib.hid (own_below C1.out hb' (Nat.le_refl _))
        have k := below_then k (Nat.le_refl _) hb'
        try (have G := Lib.hid (G.out.go hb'))
        clear ho hb'
        refine hK.out _ _ (by first | exact HS.out _ k) (fun hHeld => ?_)
        clear hK K
        refine wpAnyH_putD (i := 8) (d := 14) (v := ?_) rfl rfl (by kernel_rfl) (by kernel_rfl) (by kernel_rfl) (fun _ _ _ h => h) (Or.inl ⟨by kernel_rfl, ?_⟩) (by first | exact HS.out _ k) ?_
        rotate_left
        · (intro w hS; (try dsimp only at hS); go_simp <;> with_reducible rfl)
        try simp only [List.setIfInBounds_toArray, List.set_cons_zero, List.set_cons_succ]
        refine wpAnyH_ready (rs := [9]) (by kernel_rfl) (by simp) ?_
        refine AllReadyH.cons rfl (fun K hK => ?_) AllReadyH.nil
        go_simp
        have hb' := then_alloc k (.cells #[.slice none 0 0, .slice none 0 0, .int .i64 0] 25)
        have G := Lib.hid (blkOf hb')
        have hge := Lib.hid k.size
        try (have C1 := Lib.hid (own_below C1.out hb' (Nat.le_refl _)))
        try (have C2 := Lib.hid (own_below C2.out hb' (Nat.le_refl _)))
        have k := below_then k (Nat.le_refl _) hb'
        clear hb'
        refine hK.out _ _ (by first | exact HS.out _ k) (fun hHeld => ?_)
        clear hK K
        refine wpAnyH_ready (rs := [10]) (by kernel_rfl) (by simp) ?_
        refine AllReadyH.cons rfl (fun K hK => ?_) AllReadyH.nil
        rw [if_pos (by kernel_rfl)]
        refine wp_store_blk 25 (.tmp 3) (.tmp 14) rfl _ 25 _ #[.slice D1 n d1, .slice D2 m d2, .int .i64 su] rfl rfl G.out HI.out rfl (by simp [Value.oneCell']) ?_
        intro W hblk hg
        have C1 := Lib.hid (C1.out.kept hg (own_blk C1.out G.out (by decide)))
        have C2 := Lib.hid (C2.out.kept hg (own_blk C2.out G.out (by decide)))
        have k := k.trans (grown_below hg k.size (fun j hj => by cases hj; exact hge.out))
        clear hg G
        refine hK.out _ _ (by first | exact HS.out _ k) (fun hHeld => ?_)
        clear hK K
        refine wpAnyH_done (by kernel_rfl) ?_ _
        refine Nrm.out (hKK _ _ ?_)
        go_wp2_with fail
        go_meet
        exact ⟨_, d1, d2, D1, D2, rfl, ⟨k, hge.out, hblk, C1.out, C2.out, fun p hp => by cases hp⟩⟩
      · go_simp
        have hb' := then_alloc k (.cells #[.slice none 0 0, .slice none 0 0, .int .i64 0] 25)
        have G := Lib.hid (blkOf hb')
        have hge := Lib.hid k.size
        try (have C1 := Lib.hid (own_below C1.out hb' (Nat.le_refl _)))
        try (have C2 := Lib.hid (own_below C2.out hb' (Nat.le_refl _)))
        have k := below_then k (Nat.le_refl _) hb'
        clear hb'
        refine hK.out _ _ (by first | exact HS.out _ k) (fun hHeld => ?_)
        clear hK K
        refine wpAnyH_ready (rs := [5]) (by kernel_rfl) (by simp) ?_
        refine AllReadyH.cons rfl (fun K hK => ?_) AllReadyH.nil
        go_simp
        refine (H2.out _ k).mono ?_
        rintro e W2 ⟨D2, d2, rfl, ho, hb'⟩
        have C2 := Lib.hid (own_less ho k.size)
        have C1 := Lib.hid (own_below C1.out hb' (Nat.le_refl _))
        have k := below_then k (Nat.le_refl _) hb'
        try (have G := Lib.hid (G.out.go hb'))
        clear ho hb'
        refine hK.out _ _ (by first | exact HS.out _ k) (fun hHeld => ?_)
        clear hK K
        refine wpAnyH_putD (i := 8) (d := 14) (v := ?_) rfl rfl (by kernel_rfl) (by kernel_rfl) (by kernel_rfl) (fun _ _ _ h => h) (Or.inl ⟨by kernel_rfl, ?_⟩) (by first | exact HS.out _ k) ?_
        rotate_left
        · (intro w hS; (try dsimp only at hS); go_simp <;> with_reducible rfl)
        try simp only [List.setIfInBounds_toArray, List.set_cons_zero, List.set_cons_succ]
        refine wpAnyH_ready (rs := [10]) (by kernel_rfl) (by simp) ?_
        refine AllReadyH.cons rfl (fun K hK => ?_) AllReadyH.nil
        rw [if_pos (by kernel_rfl)]
        refine wp_store_blk 25 (.tmp 3) (.tmp 14) rfl _ 25 _ #[.slice D1 n d1, .slice D2 m d2, .int .i64 su] rfl rfl G.out HI.out rfl (by simp [Value.oneCell']) ?_
        intro W hblk hg
        have C1 := Lib.hid (C1.out.kept hg (own_blk C1.out G.out (by decide)))
        have C2 := Lib.hid (C2.out.kept hg (own_blk C2.out G.out (by decide)))
        have k := k.trans (grown_below hg k.size (fun j hj => by cases hj; exact hge.out))
        clear hg G
        refine hK.out _ _ (by first | exact HS.out _ k) (fun hHeld => ?_)
        clear hK K
        refine wpAnyH_done (by kernel_rfl) ?_ _
        refine Nrm.out (hKK _ _ ?_)
        go_wp2_with fail
        go_meet
        exact ⟨_, d1, d2, D1, D2, rfl, ⟨k, hge.out, hblk, C1.out, C2.out, fun p hp => by cases hp⟩⟩
    · go_simp
      have hb' := then_alloc k (.cells #[.slice none 0 0, .slice none 0 0, .int .i64 0] 25)
      have G := Lib.hid (blkOf hb')
      have hge := Lib.hid k.size
      try (have C1 := Lib.hid (own_below C1.out hb' (Nat.le_refl _)))
      try (have C2 := Lib.hid (own_below C2.out hb' (Nat.le_refl _)))
      have k := below_then k (Nat.le_refl _) hb'
      clear hb'
      refine hK.out _ _ (by first | exact HS.out _ k) (fun hHeld => ?_)
      clear hK K
      refine wpAnyH_ready (rs := [2]) (by kernel_rfl) (by simp) ?_
      refine AllReadyH.cons rfl (fun K hK => ?_) AllReadyH.nil
      go_simp
      refine (H1.out _ k).mono ?_
      rintro e W1 ⟨D1, d1, rfl, ho, hb'⟩
      have C1 := Lib.hid (own_less ho k.size)
      have k := below_then k (Nat.le_refl _) hb'
      try (have G := Lib.hid (G.out.go hb'))
      clear ho hb'
      refine hK.out _ _ (by first | exact HS.out _ k) (fun hHeld => ?_)
      clear hK K
      refine wpAnyH_ready (rs := [5]) (by kernel_rfl) (by simp) ?_
      refine AllReadyH.cons rfl (fun K hK => ?_) AllReadyH.nil
      go_simp
      refine (H2.out _ k).mono ?_
      rintro e W2 ⟨D2, d2, rfl, ho, hb'⟩
      have C2 := Lib.hid (own_less ho k.size)
      have C1 := Lib.hid (own_below C1.out hb' (Nat.le_refl _))
      have k := below_then k (Nat.le_refl _) hb'
      try (have G := Lib.hid (G.out.go hb'))
      clear ho hb'
      refine hK.out _ _ (by first | exact HS.out _ k) (fun hHeld => ?_)
      clear hK K
      refine wpAnyH_putD (i := 8) (d := 14) (v := ?_) rfl rfl (by kernel_rfl) (by kernel_rfl) (by kernel_rfl) (fun _ _ _ h => h) (Or.inl ⟨by kernel_rfl, ?_⟩) (by first | exact HS.out _ k) ?_
      rotate_left
      · (intro w hS; (try dsimp only at hS); go_simp <;> with_reducible rfl)
      try simp only [List.setIfInBounds_toArray, List.set_cons_zero, List.set_cons_succ]
      refine wpAnyH_ready (rs := [10]) (by kernel_rfl) (by simp) ?_
      refine AllReadyH.cons rfl (fun K hK => ?_) AllReadyH.nil
      rw [if_pos (by kernel_rfl)]
      refine wp_store_blk 25 (.tmp 3) (.tmp 14) rfl _ 25 _ #[.slice D1 n d1, .slice D2 m d2, .int .i64 su] rfl rfl G.out HI.out rfl (by simp [Value.oneCell']) ?_
      intro W hblk hg
      have C1 := Lib.hid (C1.out.kept hg (own_blk C1.out G.out (by decide)))
      have C2 := Lib.hid (C2.out.kept hg (own_blk C2.out G.out (by decide)))
      have k := k.trans (grown_below hg k.size (fun j hj => by cases hj; exact hge.out))
      clear hg G
      refine hK.out _ _ (by first | exact HS.out _ k) (fun hHeld => ?_)
      clear hK K
      refine wpAnyH_done (by kernel_rfl) ?_ _
      refine Nrm.out (hKK _ _ ?_)
      go_wp2_with fail
      go_meet
      exact ⟨_, d1, d2, D1, D2, rfl, ⟨k, hge.out, hblk, C1.out, C2.out, fun p hp => by cases hp⟩⟩
  case rest =>
    obtain ⟨g, d1, d2, D1, D2, rfl, hcp⟩ := hcut
    have hm0 := hcp.out.bl
    obtain ⟨q0, q1, q2⟩ := HS.out _ hm0
    go_wp2
    clear q0 q1 q2 hm0
    go_loopw [18] (fun v18 wr => ∃ (i : Nat), v18 = .int .i64 i ∧ i ≤ m ∧ Hid (∃ M, OwS w0 wr g D1 n d1 su b D2 m d2 M (L.drop i) ∧ M.length = i ∧ nts M = (nts L).take i)) (fun v18 _ => m - (intOf v18).toNat)
    case atStart => exact ⟨0, rfl, Nat.zero_le _, [], hcp.out, rfl, rfl⟩
    case round =>
      obtain ⟨i, rfl, hi, hq⟩ := hrel
      obtain ⟨M, hM, hMl, hMn⟩ := hq.out
      have hb := hM.bl
      have HMN := Lib.hid hMn
      have HML := Lib.hid hMl
      clear hMn hMl hq
      by_cases hlt : i < m
      · have hkL : i < L.length := by rw [HLN.out]; exact hlt
        obtain ⟨bb, o, hDe, hab, g0, g1, g2, g3⟩ := HH.out.ns.note hkL
        have hDe : D = some ⟨bb, o, none⟩ := hDe
        subst hDe
        have hrd := HH.out.ns.each _ (List.getElem_mem hkL)
        have hz := HSZ.out _ (List.getElem_mem hkL)
        have hnx : ∀ v, nts (M ++ [(v, L[i].2)]) = (nts L).take (i + 1) := fun v => by
          rw [List.take_succ_eq_append_getElem (by rw [nts_len]; exact hkL), nts_at L i hkL, ← HMN.out]; simp [nts]
        rw [List.drop_eq_getElem_cons hkL] at hM
        generalize L[i] = p at g0 g1 g2 g3 hrd hnx hz hM
        obtain ⟨⟨A1, n1, c1, A2, n2, c2, A3, n3, c3, A4, n4, c4⟩, x⟩ := p
        dsimp only at g0 g1 g2 g3 hrd hnx hz
        obtain ⟨G, cap, hv, hGb, hGs⟩ := hM.o2.form (by omega)
        injection hv with hv1 _ hv3
        subst hv1 hv3
        have F := Lib.hid fun V (hv : Below w0.heap.size w0 V) => ownNote_own ⟨A1, n1, c1, A2, n2, c2, A3, n3, c3, A4, n4, c4⟩ x V (hrd.go hv) hz
        have HNX := Lib.hid hnx
        have g0' := (hb.cell (p := ⟨bb, o + i * 4, none⟩) hab).trans g0
        have g1' := (hb.cell (p := ⟨bb, o + i * 4 + 1, none⟩) hab).trans g1
        have g2' := (hb.cell (p := ⟨bb, o + i * 4 + 2, none⟩) hab).trans g2
        have g3' := (hb.cell (p := ⟨bb, o + i * 4 + 3, none⟩) hab).trans g3
        obtain ⟨q0, q1, q2⟩ := HS.out _ hb
        have hk1 := then_alloc hb (.cells #[.slice A1 n1 c1, .slice A2 n2 c2, .slice A3 n3 c3, .slice A4 n4 c4] 38)
        have hX := blkOf hk1
        obtain ⟨W, hW⟩ : ∃ W, W = wr.alloc (.cells #[.slice A1 n1 c1, .slice A2 n2 c2, .slice A3 n3 c3, .slice A4 n4 c4] 38) := ⟨_, rfl⟩
        rw [← hW] at hX hk1
        have CP := Lib.hid (hM.below (hk1.trans ((Below.refl _ W).drew.mono (Nat.le_of_lt hX.lt))))
        have HX := Lib.hid hX
        have HWW := Lib.hid hW.symm
        have k : Below w0.heap.size w0 W.drew := CP.out.bl
        have HG := Lib.hid hGs
        clear hrd hnx hz g0 g1 g2 g3 hkL hM hb hk1 hX hW
        go_wp2_with fail
        clear g0' g1' g2' g3' q0 q1 q2
        rw [HWW.out]
        have kW := Lib.hid (fun V (hv : Below W.heap.size W V) => (show V.cell? ⟨wr.heap.size, 0, none⟩ = some (.slice A1 n1 c1) ∧ V.cell? ⟨wr.heap.size, 1, none⟩ = some (.slice A2 n2 c2) ∧ V.cell? ⟨wr.heap.size, 2, none⟩ = some (.slice A3 n3 c3) ∧ V.cell? ⟨wr.heap.size, 3, none⟩ = some (.slice A4 n4 c4) from ⟨(HX.out.go hv).cell 0, (HX.out.go hv).cell 1, (HX.out.go hv).cell 2, (HX.out.go hv).cell 3⟩))
        have kk : Below W.heap.size W W.drew := (Below.refl _ W).drew
        refine region_nrm fun KK hKK => ?_
        refine wp_region_held_drew (S := (fun V => (V.cell? ⟨wr.heap.size, 0, none⟩ = some (.slice A1 n1 c1) ∧ V.cell? ⟨wr.heap.size, 1, none⟩ = some (.slice A2 n2 c2) ∧ V.cell? ⟨wr.heap.size, 2, none⟩ = some (.slice A3 n3 c3) ∧ V.cell? ⟨wr.heap.size, 3, none⟩ = some (.slice A4 n4 c4)) ∧ V.cell? ⟨g, 1, none⟩ = some (.slice (some ⟨G, 0, none⟩) m d2))) (by kernel_rfl) (by first | exact ⟨kW.out _ kk, CP.out.blk.cell 1⟩ | exact hS9) (fun hHeld => ?_)
        refine wpAnyH_putD (i := 0) (d := 23) (v := ?_) rfl rfl (by kernel_rfl) (by kernel_rfl) (by kernel_rfl) (fun _ _ _ h => h) (Or.inl ⟨by kernel_rfl, ?_⟩) (by first | exact ⟨kW.out _ kk, CP.out.blk.cell 1⟩ | exact hS9) ?_
        rotate_left
        · (intro w hS; (try dsimp only at hS); go_simp <;> with_reducible rfl)
        try simp only [List.setIfInBounds_toArray, List.set_cons_zero, List.set_cons_succ]
        refine wpAnyH_putD (i := 1) (d := 24) (v := ?_) rfl rfl (by kernel_rfl) (by kernel_rfl) (by kernel_rfl) (fun _ _ _ h => h) (Or.inl ⟨by kernel_rfl, ?_⟩) (by first | exact ⟨kW.out _ kk, CP.out.blk.cell 1⟩ | exact hS9) ?_
        rotate_left
        · (intro w hS; (try dsimp only at hS); go_simp <;> with_reducible rfl)
        try simp only [List.setIfInBounds_toArray, List.set_cons_zero, List.set_cons_succ]
        refine wpAnyH_putD (i := 2) (d := 25) (v := ?_) rfl rfl (by kernel_rfl) (by kernel_rfl) (by kernel_rfl) (fun _ _ _ h => h) (Or.inl ⟨by kernel_rfl, ?_⟩) (by first | exact ⟨kW.out _ kk, CP.out.blk.cell 1⟩ | exact hS9) ?_
        rotate_left
        · (intro w hS; (try dsimp only at hS); go_simp <;> with_reducible rfl)
        try simp only [List.setIfInBounds_toArray, List.set_cons_zero, List.set_cons_succ]
        refine wpAnyH_putD (i := 3) (d := 26) (v := ?_) rfl rfl (by kernel_rfl) (by kernel_rfl) (by kernel_rfl) (fun _ _ _ h => h) (Or.inl ⟨by kernel_rfl, ?_⟩) (by first | exact ⟨kW.out _ kk, CP.out.blk.cell 1⟩ | exact hS9) ?_
        rotate_left
        · (intro w hS; (try dsimp only at hS); go_simp <;> with_reducible rfl)
        try simp only [List.setIfInBounds_toArray, List.set_cons_zero, List.set_cons_succ]
        refine wpAnyH_ready (rs := [4]) (by kernel_rfl) (by simp) ?_
        refine AllReadyH.cons rfl (fun K hK => ?_) AllReadyH.nil
        go_simp
        refine (F.out _ k).mono ?_
        rintro e W1 ⟨⟨E1, e1, f1, E2, e2, f2, E3, e3, f3, E4, e4, f4⟩, rfl, hno, hb'⟩
        have NO := Lib.hid (hno.less k.size)
        have CP := Lib.hid (CP.out.below hb')
        have k := below_then k (Nat.le_refl _) hb'
        have kk := below_then kk (Nat.le_refl _) hb'
        clear hno hb'
        refine hK.out _ _ (by first | exact ⟨kW.out _ kk, CP.out.blk.cell 1⟩ | exact hS9) (fun hHeld => ?_)
        clear hK K
        refine wpAnyH_putD (i := 5) (d := 28) (v := ?_) rfl rfl (by kernel_rfl) (by kernel_rfl) (by kernel_rfl) (fun _ _ _ h => h) (Or.inl ⟨by kernel_rfl, ?_⟩) (by first | exact ⟨kW.out _ kk, CP.out.blk.cell 1⟩ | exact hS9) ?_
        rotate_left
        · (intro w hS; (try dsimp only at hS); go_simp <;> with_reducible rfl)
        try simp only [List.setIfInBounds_toArray, List.set_cons_zero, List.set_cons_succ]
        refine wpAnyH_ready (rs := [6]) (by kernel_rfl) (by simp) ?_
        refine AllReadyH.cons rfl (fun K hK => ?_) AllReadyH.nil
        rw [if_pos (by kernel_rfl)]
        refine wp_store_own 38 (.tmp 28) (.tmp 27) rfl CP.out.o2 #[.slice E1 e1 f1, .slice E2 e2 f2, .slice E3 e3 f3, .slice E4 e4 f4] _ i rfl rfl (by omega) hlt rfl HIN.out (by simp [Value.oneCell']) ?_
        intro W3 ho hg
        have hX3 := (HX.out.go kk).grown hg (by intro h; injection h with h; have := HG.out; omega)
        have hS9 : (W3.cell? ⟨wr.heap.size, 0, none⟩ = some (.slice A1 n1 c1) ∧ W3.cell? ⟨wr.heap.size, 1, none⟩ = some (.slice A2 n2 c2) ∧ W3.cell? ⟨wr.heap.size, 2, none⟩ = some (.slice A3 n3 c3) ∧ W3.cell? ⟨wr.heap.size, 3, none⟩ = some (.slice A4 n4 c4)) ∧ W3.cell? ⟨g, 1, none⟩ = some (.slice (some ⟨G, 0, none⟩) m d2) := ⟨⟨hX3.cell 0, hX3.cell 1, hX3.cell 2, hX3.cell 3⟩, (CP.out.blk.grown hg (blk_ne CP.out.blk CP.out.o2 (by decide))).cell 1⟩
        have CP2 := Lib.hid (OwS.set_ (v := ⟨E1, e1, f1, E2, e2, f2, E3, e3, f3, E4, e4, f4⟩) (x := x) CP.out NO.out (by rw [HML.out]; exact ho) hg)
        clear ho hg CP NO k kk hX3
        refine hK.out _ _ (by first | exact ⟨kW.out _ kk, CP.out.blk.cell 1⟩ | exact hS9) (fun hHeld => ?_)
        clear hK K
        refine wpAnyH_done (by kernel_rfl) ?_ _
        refine Nrm.out (hKK _ _ ?_)
        clear hS9
        go_wp2
        go_roundw
        case rel => exact ⟨i + 1, by go_num, by omega, _, CP2.out, by rw [List.length_append, HML.out]; rfl, HNX.out _⟩
        case measure => simp [intOf]; omega
      · obtain rfl : i = m := by omega
        have HN := Lib.hid (show nts M = nts L by rw [HMN.out]; exact List.take_of_length_le (by rw [nts_len, HLN.out]; exact Nat.le_refl _))
        rw [List.drop_of_length_le (by rw [HLN.out]; exact Nat.le_refl _)] at hM
        have r0 := hM.blk.cell 0
        have r1 := hM.blk.cell 1
        have r2 := hM.blk.cell 2
        have CP := Lib.hid hM
        have HB := Lib.hid hb
        clear hM hb
        go_wp2_with (refine wpList_store_blk rfl 25 _ _ rfl (w.heap.size + 1) 25 _ #[.slice D1 n d1, .slice D2 i d2, .int .i64 su] rfl rfl (HB2.out _ HB.out) HI.out rfl (by simp [Value.oneCell']) ?_; intro W hblk hg)
        have o1 := CP.out.o1
        have o2 := CP.out.o2
        rw [List.append_nil] at o2
        refine bodyPost_ret (results_cell_row rfl _ _ (w.heap.size + 1) 25 _ _ _ rfl hblk Tryd.underlying25 rfl HI.out) rfl ⟨⟨D1, n, d1, D2, i, d2⟩, M, rfl, LgOwn.less (LgOwn.far ⟨HL1.out, o1, HML.out, o2, CP.out.each⟩ hg hsz) HB0.out.size, HN.out, ?_⟩
        exact (below_then HB0.out (Nat.le_refl _) HB.out).trans (grown_below hg (Nat.le_trans HB0.out.size HB.out.size) (fun j hj => by cases hj; exact Nat.le_succ _))
end Go.Proofs.YtepdcbhapjgijaaDoor

namespace Go.Proofs.YtepdcbhapjgijaaDoor
open Go.RowKit
set_option maxRecDepth 100000

/-- What the walk over a log hands back, from its base. -/
def WalkR (w : World) (b : List Vc.St) (L : List (NV × Nt)) (su : Int) (e : Ending) (w' : World) : Prop :=
  (∃ q K c, lgR b L su = true ∧ lgW b (nts L) = some q ∧ e = .returned (.tuple #[.slice K q.length c, .bool true]) ∧ Rd w' w'.heap.size 2 K q.length c (sv q) ∧ Below w.heap.size w w') ∨
  (lgR b L su = false ∧ ∃ K k c, e = .returned (.tuple #[.slice K k c, .bool false]) ∧ Below w.heap.size w w')
theorem walkP_R {w : World} {b : List Vc.St} {L : List (NV × Nt)} {su : Int} {e : Ending} {w' : World} (h : WalkP w b L su e w') : WalkR w b L su e w' := by
  rcases h with ⟨q, K, c, h1, h2, h3, h4⟩ | ⟨h1, h2, h3⟩
  · have hf : lgR b L su = (fm (-1) b && (decide (0 ≤ su) && decide (su ≤ L.length))) := by
      rw [← lgF_R]; unfold lgF; rw [h1]; rfl
    rcases hz : lgR b L su with _ | _
    · rw [← hf, hz] at h2
      exact .inr ⟨hz, K, q.length, c, h2, h4⟩
    · rw [← hf, hz] at h2
      rw [vec_one (lgR_some hz).1] at h1
      exact .inl ⟨q, K, c, hz, h1, h2, h3, h4⟩
  · refine .inr ⟨?_, none, 0, 0, h2, h3⟩
    rw [← lgF_R]; unfold lgF; rw [h1]; rfl
theorem nts_snoc (M : List (NV × Nt)) (v : NV) (x : Nt) : nts (M ++ [(v, x)]) = nts M ++ [x] := by simp [nts]
theorem lgW_app {k q : List Vc.St} {l : List Nt} {x : Nt} (h : lgW k l = some q) (hf : ntF x = true) (ht : ntFits x q = true) : lgW k (l ++ [x]) = some (vec (jn [q, x.e])) := by
  induction l generalizing k with
  | nil =>
    injection h with h
    subst h
    rw [List.nil_append, lgW, hf, ht]; rfl
  | cons y r ih =>
    rw [lgW] at h
    rw [List.cons_append, lgW]
    split at h
    · rename_i hc
      rw [if_pos hc]; exact ih h
    · cases h
/-- The error of an append; what is appended. -/
def appE (b : List Vc.St) (L : List (NV × Nt)) (su : Int) (x : Nt) : Int :=
  if (lgR b L su && ntF x) = true then (match lgW b (nts L) with | some q => if ntFits x q = true then 0 else 3 | none => 1) else 1
def appB (e : Int) (b : List Vc.St) : List Vc.St := if e = 0 then b else []
def appN (e : Int) (l : List Nt) (x : Nt) : List Nt := if e = 0 then l ++ [x] else []
def appS (e su : Int) : Int := if e = 0 then su else 0
def AppP (w : World) (b : List Vc.St) (L : List (NV × Nt)) (su : Int) (x : Nt) (e : Ending) (w' : World) : Prop :=
  ∃ v' L', e = .returned (.tuple #[.agg (LV.val v' (appS (appE b L su x) su)), .int .i64 (appE b L su x)]) ∧ LgRd w' v' (appB (appE b L su x) b) L' ∧ nts L' = appN (appE b L su x) (nts L) x ∧ Below w.heap.size w w'
def LV0 : LV := ⟨none, 0, 0, none, 0, 0⟩
theorem LgRd.zero (w : World) : LgRd w LV0 [] [] := ⟨rfl, Rd.none_, ⟨rfl, Rd.none_, fun p hp => by cases hp⟩⟩
theorem AppP.no {w w' : World} {b : List Vc.St} {L : List (NV × Nt)} {su : Int} {x : Nt} (er : Int) {e : Ending} (he : appE b L su x = er) (h0 : er ≠ 0) (hee : e = .returned (.tuple #[.agg #[.slice none 0 0, .slice none 0 0, .int .i64 0], .int .i64 er])) (hb : Below w.heap.size w w') : AppP w b L su x e w' := by
  subst hee
  unfold AppP
  rw [he]
  refine ⟨LV0, [], ?_, ?_, ?_, hb⟩
  · unfold appS; rw [if_neg h0]; rfl
  · unfold appB; rw [if_neg h0]; exact LgRd.zero w'
  · unfold appN; rw [if_neg h0]; rfl
theorem AppP.yes {w w' : World} {b : List Vc.St} {L : List (NV × Nt)} {su : Int} {x : Nt} {e : Ending} (v' : LV) (L' : List (NV × Nt)) (he : appE b L su x = 0) (hee : e = .returned (.tuple #[.agg (v'.val su), .int .i64 0])) (h1 : LgRd w' v' b L') (h2 : nts L' = nts L ++ [x]) (hb : Below w.heap.size w w') : AppP w b L su x e w' := by
  subst hee
  unfold AppP
  rw [he]
  exact ⟨v', L', rfl, h1, h2, hb⟩
theorem CpS.start {w0 W : World} {v : LV} {b : List Vc.St} {L : List (NV × Nt)} {su : Int} {base : Nat} (h : LgOwn W base v b L) (hb : Below w0.heap.size w0 W) (hB : w0.heap.size ≤ base) :
    CpS w0 (W.alloc (.cells (v.val su) 25)) W.heap.size v.A v.n v.c su b v.D v.m v.d L := by
  have hk := then_alloc hb (.cells (v.val su) 25)
  have h2 := (h.below hk).less hB
  exact ⟨below_then hb (Nat.le_refl _) hk, hb.size, blkOf hk, h2.o1, h2.o2, h2.each⟩
theorem CpS.drew {w0 W : World} {g n d1 i d' : Nat} {D1 D' : Option Addr} {su : Int} {b : List Vc.St} {M : List (NV × Nt)} (h : CpS w0 W g D1 n d1 su b D' i d' M) : CpS w0 W.drew g D1 n d1 su b D' i d' M := h.below (Below.refl _ W).drew
theorem lgWalkR_any (v : LV) (b : List Vc.St) (L : List (NV × Nt)) (su : Int) (w : World) (hT : Tab w) (h : LgRd w v b L) :
    Calls Tryd.prog 35 #[.agg (v.val su)] w (WalkR w b L su) := (lgWalk_any v b L su w hT h).mono fun _ _ h => walkP_R h


set_option maxHeartbeats 16000000 in
theorem lgAppend_any (v : LV) (b : List Vc.St) (L : List (NV × Nt)) (su : Int) (v2 : NV) (x : Nt) (w : World) (hT : Tab w) (h : LgRd w v b L) (hsz : LgSz v L) (hN : NtRd w w.heap.size v2 x) (hs : NtSz v2) :
    Calls Tryd.prog 12 #[.agg (v.val su), .agg v2.val] w (AppP w b L su x) := by
  obtain ⟨hzz, hi⟩ := zero_of_info log_zero
  have HI := Lib.hid hi
  obtain ⟨i0, hi0, hz0, hz1, hz2⟩ := info_parts noteE_info
  obtain ⟨A, n, c, D, m, d⟩ := v
  obtain ⟨A1, n1, c1, A2, n2, c2, A3, n3, c3, A4, n4, c4⟩ := v2
  have hb1 : Below w.heap.size w (w.alloc (.cells (LV.val ⟨A, n, c, D, m, d⟩ su) 25)) := (Below.refl _ _).alloc (Nat.le_refl _) _
  have hb2 : Below w.heap.size w ((w.alloc (.cells (LV.val ⟨A, n, c, D, m, d⟩ su) 25)).alloc (.cells #[.slice A1 n1 c1, .slice A2 n2 c2, .slice A3 n3 c3, .slice A4 n4 c4] 38)) := hb1.alloc hb1.size _
  have hb0 : Below w.heap.size w (((w.alloc (.cells (LV.val ⟨A, n, c, D, m, d⟩ su) 25)).alloc (.cells #[.slice A1 n1 c1, .slice A2 n2 c2, .slice A3 n3 c3, .slice A4 n4 c4] 38)).alloc (.cells #[.slice none 0 0, .slice none 0 0, .int .i64 0] 25)) := hb2.alloc hb2.size _
  have hB1 := ((Blk.new w 25 (LV.val ⟨A, n, c, D, m, d⟩ su)).alloc (.cells #[.slice A1 n1 c1, .slice A2 n2 c2, .slice A3 n3 c3, .slice A4 n4 c4] 38)).alloc (.cells #[.slice none 0 0, .slice none 0 0, .int .i64 0] 25)
  have hB2 := (Blk.new (w.alloc (.cells (LV.val ⟨A, n, c, D, m, d⟩ su) 25)) 38 #[.slice A1 n1 c1, .slice A2 n2 c2, .slice A3 n3 c3, .slice A4 n4 c4]).alloc (.cells #[.slice none 0 0, .slice none 0 0, .int .i64 0] 25)
  have hB3 := Blk.new ((w.alloc (.cells (LV.val ⟨A, n, c, D, m, d⟩ su) 25)).alloc (.cells #[.slice A1 n1 c1, .slice A2 n2 c2, .slice A3 n3 c3, .slice A4 n4 c4] 38)) 25 #[.slice none 0 0, .slice none 0 0, .int .i64 0]
  rw [World.size_alloc] at hB2
  rw [World.size_alloc, World.size_alloc] at hB3
  obtain ⟨w0, hw0⟩ : ∃ w0, w0 = ((w.alloc (.cells (LV.val ⟨A, n, c, D, m, d⟩ su) 25)).alloc (.cells #[.slice A1 n1 c1, .slice A2 n2 c2, .slice A3 n3 c3, .slice A4 n4 c4] 38)).alloc (.cells #[.slice none 0 0, .slice none 0 0, .int .i64 0] 25) := ⟨_, rfl⟩
  rw [← hw0] at hb0 hB1 hB2 hB3
  have HH := Lib.hid (h.go hb0)
  have HNN := Lib.hid (hN.go hb0)
  have HT := Lib.hid (hT.below hb0)
  have hm1 : m ≤ 1466015503659 := hsz.m1
  have h63 : m + 1 ≤ maxLen := by unfold maxLen; omega
  have hlt3 : w.heap.size + 2 < w0.heap.size := hB3.lt
  have HB3 := Lib.hid fun W (hb : Below w0.heap.size w0 W) => hB3.go hb
  have HQ := Lib.hid fun V (hb : Below w0.heap.size w0 V) => (show (V.cell? ⟨w.heap.size, 0, none⟩ = some (.slice A n c) ∧ V.cell? ⟨w.heap.size, 1, none⟩ = some (.slice D m d) ∧ V.cell? ⟨w.heap.size, 2, none⟩ = some (.int .i64 su)) ∧
      (V.cell? ⟨w.heap.size + 1, 0, none⟩ = some (.slice A1 n1 c1) ∧ V.cell? ⟨w.heap.size + 1, 1, none⟩ = some (.slice A2 n2 c2) ∧ V.cell? ⟨w.heap.size + 1, 2, none⟩ = some (.slice A3 n3 c3) ∧ V.cell? ⟨w.heap.size + 1, 3, none⟩ = some (.slice A4 n4 c4)) from
    ⟨⟨(hB1.go hb).cell 0, (hB1.go hb).cell 1, (hB1.go hb).cell 2⟩, ⟨(hB2.go hb).cell 0, (hB2.go hb).cell 1, (hB2.go hb).cell 2, (hB2.go hb).cell 3⟩⟩)
  have HB0 := Lib.hid hb0
  have HW := Lib.hid hw0.symm
  have HFIN := Lib.hid fun V W (k : Below w0.heap.size w0 V) (hg : V.grownBy W (some (w.heap.size + 2))) => (show Below w.heap.size w W from (below_then HB0.out (Nat.le_refl _) k).trans (grown_below hg (Nat.le_trans HB0.out.size k.size) (fun j hj => by cases hj; omega)))

  have G1 := Lib.hid (lgWalkR_any ⟨A, n, c, D, m, d⟩ b L su w0 HT.out HH.out)
  have G2 := Lib.hid fun (V : World) (hv : Below w0.heap.size w0 V) => noteFormed_any ⟨A1, n1, c1, A2, n2, c2, A3, n3, c3, A4, n4, c4⟩ x V (HT.out.below hv) (HNN.out.go hv)
  have G3 := Lib.hid fun (V : World) (hv : Below w0.heap.size w0 V) K k c q (hl : q.length = k) (hR : Rd V V.heap.size 2 K k c (sv q)) => fits_any ⟨A1, n1, c1, A2, n2, c2, A3, n3, c3, A4, n4, c4⟩ x K k c q V (HT.out.below hv) (HNN.out.go hv) hl hR
  have G4 := Lib.hid fun (V : World) (hv : Below w0.heap.size w0 V) => lgOwn_own ⟨A, n, c, D, m, d⟩ b L su V (HH.out.go hv) hsz
  have G5 := Lib.hid fun (V : World) (hv : Below w0.heap.size w0 V) => ownNote_own ⟨A1, n1, c1, A2, n2, c2, A3, n3, c3, A4, n4, c4⟩ x V (HNN.out.go hv) hs
  have HE := Lib.hid (show appE b L su x = if (lgR b L su && ntF x) = true then (match lgW b (nts L) with | some q => if ntFits x q = true then 0 else 3 | none => 1) else 1 from rfl)
  have k : Below w0.heap.size w0 w0 := Below.refl _ _
  obtain ⟨⟨q0, q1, q2⟩, ⟨p0, p1, p2, p3⟩⟩ := HQ.out _ k
  clear h hb0 hb1 hb2 hB1 hB2 hB3 hw0 hN hT hi
  go_enter Tryd.func12, Tryd.ntmps12
  go_wp2_with fail
  rw [HW.out]
  refine G1.out.mono ?_
  rintro e w1 (⟨q, K, kc, hr, hq, rfl, hR, hb1⟩ | ⟨hr, K, kn, kc, rfl, hb1⟩)
  rotate_left
  · have HER := Lib.hid (show appE b L su x = 1 by rw [HE.out, hr]; rfl)
    have k := below_then k (Nat.le_refl _) hb1
    clear hr hb1 q0 q1 q2 p0 p1 p2 p3
    obtain ⟨⟨q0, q1, q2⟩, ⟨p0, p1, p2, p3⟩⟩ := HQ.out _ k
    go_wp2_with (refine wpList_store_blk rfl 25 _ _ rfl (w.heap.size + 2) 25 _ #[.slice none 0 0, .slice none 0 0, .int .i64 0] rfl rfl (HB3.out _ k) HI.out rfl (by simp [Value.oneCell']) ?_; intro W hblk hg)
    refine bodyPost_ret (results_cell_tmp rfl _ _ (w.heap.size + 2) 25 _ _ _ rfl hblk Tryd.underlying25 rfl HI.out) rfl (AppP.no 1 HER.out (by decide) ?_ (HFIN.out _ _ k hg)) <;> rfl
  · have k := below_then k (Nat.le_refl _) hb1
    clear q0 q1 q2 p0 p1 p2 p3
    obtain ⟨⟨q0, q1, q2⟩, ⟨p0, p1, p2, p3⟩⟩ := HQ.out _ k
    have HRQ := Lib.hid hR
    obtain ⟨qn, hqn⟩ : ∃ qn, qn = q.length := ⟨_, rfl⟩
    rw [← hqn] at HRQ ⊢
    have HQN := Lib.hid hqn.symm
    have HB1 := Lib.hid hb1
    have G3 := Lib.hid fun (V : World) (hv : Below w0.heap.size w0 V) (hv2 : Below w1.heap.size w1 V) => G3.out V hv K qn kc q HQN.out (HRQ.out.go hv2)
    have kk := Below.refl w1.heap.size w1
    clear hqn hR
    have HR := Lib.hid hr
    have HQQ := Lib.hid hq
    clear hr hq hb1
    have HF := Lib.hid (G2.out w1 k)
    rcases hf : ntF x with _ | _
    · have HER := Lib.hid (show appE b L su x = 1 by rw [HE.out, hf, Bool.and_false]; rfl)
      rw [hf] at HF
      clear hf
      go_wp2_with fail
      refine HF.out.mono ?_
      rintro e w2 ⟨rfl, hb2⟩
      have k := below_then k (Nat.le_refl _) hb2
      clear hb2 q0 q1 q2 p0 p1 p2 p3
      obtain ⟨⟨q0, q1, q2⟩, ⟨p0, p1, p2, p3⟩⟩ := HQ.out _ k
      go_wp2_with (refine wpList_store_blk rfl 25 _ _ rfl (w.heap.size + 2) 25 _ #[.slice none 0 0, .slice none 0 0, .int .i64 0] rfl rfl (HB3.out _ k) HI.out rfl (by simp [Value.oneCell']) ?_; intro W hblk hg)
      refine bodyPost_ret (results_cell_tmp rfl _ _ (w.heap.size + 2) 25 _ _ _ rfl hblk Tryd.underlying25 rfl HI.out) rfl (AppP.no 1 HER.out (by decide) ?_ (HFIN.out _ _ k hg)) <;> rfl
    · have HE2 := Lib.hid (show appE b L su x = if ntFits x q = true then 0 else 3 by rw [HE.out, HR.out, hf, HQQ.out]; rfl)
      rw [hf] at HF
      clear hf
      go_wp2_with fail
      refine HF.out.mono ?_
      rintro e w2 ⟨rfl, hb2⟩
      have k := below_then k (Nat.le_refl _) hb2
      have kk := below_then kk (Nat.le_refl _) hb2
      have HT3 := Lib.hid (G3.out w2 k kk)
      clear hb2 q0 q1 q2 p0 p1 p2 p3
      obtain ⟨⟨q0, q1, q2⟩, ⟨p0, p1, p2, p3⟩⟩ := HQ.out _ k
      rcases ht : ntFits x q with _ | _
      · have HER := Lib.hid (show appE b L su x = 3 by rw [HE2.out, ht]; rfl)
        rw [ht] at HT3
        clear ht
        go_wp2_with fail
        refine HT3.out.mono ?_
        rintro e w3 ⟨rfl, hb3⟩
        have k := below_then k (Nat.le_refl _) hb3
        clear hb3 q0 q1 q2 p0 p1 p2 p3 kk
        go_wp2_with (refine wpList_store_blk rfl 25 _ _ rfl (w.heap.size + 2) 25 _ #[.slice none 0 0, .slice none 0 0, .int .i64 0] rfl rfl (HB3.out _ k) HI.out rfl (by simp [Value.oneCell']) ?_; intro W hblk hg)
        refine bodyPost_ret (results_cell_tmp rfl _ _ (w.heap.size + 2) 25 _ _ _ rfl hblk Tryd.underlying25 rfl HI.out) rfl (AppP.no 3 HER.out (by decide) ?_ (HFIN.out _ _ k hg)) <;> rfl
      · have HER := Lib.hid (show appE b L su x = 0 by rw [HE2.out, ht]; rfl)
        rw [ht] at HT3
        clear ht
        go_wp2_with fail
        refine HT3.out.mono ?_
        rintro e w3 ⟨rfl, hb3⟩
        have k := below_then k (Nat.le_refl _) hb3
        clear hb3 q0 q1 q2 p0 p1 p2 p3 kk
        obtain ⟨⟨q0, q1, q2⟩, ⟨p0, p1, p2, p3⟩⟩ := HQ.out _ k
        go_wp2_with fail
        refine (G4.out _ k).mono ?_
        rintro e w4 ⟨⟨A', n', c', D', m', d'⟩, L', rfl, hO, hnL, hb4⟩
        have CP := Lib.hid (CpS.start (su := su) hO (below_then k (Nat.le_refl _) hb4) k.size)
        have e1 : L.length = m := HH.out.ns.len
        have e2 : L'.length = m' := hO.len
        have e3 := congrArg List.length hnL
        rw [nts_len, nts_len] at e3
        have hm' : m' = m := by omega
        subst hm'
        have HLL := Lib.hid e2
        clear e1 e2 e3
        have HNL := Lib.hid hnL
        have HL1 := Lib.hid hO.l1
        have k := below_then k (Nat.le_refl _) hb4
        obtain ⟨g, hg⟩ : ∃ g, g = w4.heap.size := ⟨_, rfl⟩
        clear hO hnL hb4 q0 q1 q2 p0 p1 p2 p3
        go_upto_region 7 with fail
        obtain ⟨W, hW⟩ : ∃ W, W = w4.alloc (.cells (LV.val ⟨A', n', c', D', m', d'⟩ su) 25) := ⟨_, rfl⟩
        try dsimp only at CP
        rw [← hg, ← hW] at CP
        rw [← hg]
        simp only [LV.val] at hW
        rw [← hW]
        clear hW hg k
        have CP := Lib.hid CP.out.drew
        have k := CP.out.bl
        refine region_nrm fun KK hKK => ?_
        refine wp_region_held_drew (S := (fun V => V.cell? ⟨w.heap.size + 1, 0, none⟩ = some (.slice A1 n1 c1) ∧ V.cell? ⟨w.heap.size + 1, 1, none⟩ = some (.slice A2 n2 c2) ∧ V.cell? ⟨w.heap.size + 1, 2, none⟩ = some (.slice A3 n3 c3) ∧ V.cell? ⟨w.heap.size + 1, 3, none⟩ = some (.slice A4 n4 c4))) (by kernel_rfl) (by first | exact (HQ.out _ k).2) (fun hHeld => ?_)
        refine wpAnyH_putD (i := 0) (d := 29) (v := ?_) rfl rfl (by kernel_rfl) (by kernel_rfl) (by kernel_rfl) (fun _ _ _ h => h) (Or.inl ⟨by kernel_rfl, ?_⟩) (by first | exact (HQ.out _ k).2) ?_
        rotate_left
        · (intro w hS; (try dsimp only at hS); go_simp <;> with_reducible rfl)
        try simp only [List.setIfInBounds_toArray, List.set_cons_zero, List.set_cons_succ]
        refine wpAnyH_putD (i := 2) (d := 31) (v := ?_) rfl rfl (by kernel_rfl) (by kernel_rfl) (by kernel_rfl) (fun _ _ _ h => h) (Or.inl ⟨by kernel_rfl, ?_⟩) (by first | exact (HQ.out _ k).2) ?_
        rotate_left
        · (intro w hS; (try dsimp only at hS); go_simp <;> with_reducible rfl)
        try simp only [List.setIfInBounds_toArray, List.set_cons_zero, List.set_cons_succ]
        refine wpAnyH_ready (rs := [1, 3]) (by kernel_rfl) (by simp) ?_
        refine AllReadyH.cons rfl (fun K hK => ?_) (AllReadyH.cons rfl (fun K hK => ?_) AllReadyH.nil)
        · have qg := CP.out.blk.cell 1
          go_simp
          clear qg
          refine hK.out _ _ (by first | exact (HQ.out _ k).2) (fun hHeld => ?_)
          clear hK K
          refine wpAnyH_ready (rs := [3]) (by kernel_rfl) (by simp) ?_
          refine AllReadyH.cons rfl (fun K hK => ?_) AllReadyH.nil
          go_simp
          refine (G5.out _ k).mono ?_
          rintro e W1 ⟨⟨E1, e1, f1, E2, e2, f2, E3, e3, f3, E4, e4, f4⟩, rfl, hno, hb'⟩
          have NO := Lib.hid (hno.less k.size)
          have CP := Lib.hid (CP.out.below hb')
          have k := below_then k (Nat.le_refl _) hb'
          clear hno hb'
          refine hK.out _ _ (by first | exact (HQ.out _ k).2) (fun hHeld => ?_)
          clear hK K
          refine wpAnyH_ready (rs := [4]) (by kernel_rfl) (by simp) ?_
          refine AllReadyH.cons rfl (fun K hK => ?_) AllReadyH.nil
          go_simp
          have hb' := then_alloc k (.cells #[.slice E1 e1 f1, .slice E2 e2 f2, .slice E3 e3 f3, .slice E4 e4 f4] 38)
          have RN := Lib.hid (newRow 4 1 hb' rfl (by unfold maxLen; omega))
          have NO := Lib.hid (NO.out.below hb')
          have CP := Lib.hid (CP.out.below hb')
          have k := below_then k (Nat.le_refl _) hb'
          clear hb'
          refine hK.out _ _ (by first | exact (HQ.out _ k).2) (fun hHeld => ?_)
          clear hK K
          refine wpAnyH_ready (rs := [5]) (by kernel_rfl) (by simp) ?_
          refine AllReadyH.cons rfl (fun K hK => ?_) AllReadyH.nil
          rw [if_pos (by kernel_rfl)]
          refine wp_append_rd _ (.tmp 30) (.tmp 33) _ rfl w0.heap.size 38 i0 _ 4 96 Tryd.underlying23 hi0 hz0 hz1 hz2 rfl (by decide) (.slice D' m' d') m' _ rfl CP.out.o2 _ _ 1 1 _ rfl RN.out (ntv_oneCell ⟨E1, e1, f1, E2, e2, f2, E3, e3, f3, E4, e4, f4⟩) h63 (by omega) k.size ?_
          intro D2 d2 W3 ho hg hat
          have CP2 := Lib.hid (CpS.app CP.out NO.out ho hg)
          have HB := Lib.hid (CP.out.blk.grown hg (blk_ne CP.out.blk CP.out.o2 (by decide)))
          have k := k.trans (grown_below hg k.size (fun j hj => own_lt CP.out.o2 j hj))
          clear ho hg hat CP NO RN
          refine hK.out _ _ (by first | exact (HQ.out _ k).2) (fun hHeld => ?_)
          clear hK K
          refine wpAnyH_putD (i := 6) (d := 35) (v := ?_) rfl rfl (by kernel_rfl) (by kernel_rfl) (by kernel_rfl) (fun _ _ _ h => h) (Or.inl ⟨by kernel_rfl, ?_⟩) (by first | exact (HQ.out _ k).2) ?_
          rotate_left
          · (intro w hS; (try dsimp only at hS); go_simp <;> with_reducible rfl)
          try simp only [List.setIfInBounds_toArray, List.set_cons_zero, List.set_cons_succ]
          refine wpAnyH_ready (rs := [7]) (by kernel_rfl) (by simp) ?_
          refine AllReadyH.cons rfl (fun K hK => ?_) AllReadyH.nil
          have qg := HB.out.cell 1
          have qf := HB.out.frozen 1
          go_simp
          clear qg qf
          have k := CP2.out.bl
          refine hK.out _ _ (by first | exact (HQ.out _ k).2) (fun hHeld => ?_)
          clear hK K
          refine wpAnyH_done (by kernel_rfl) ?_ _
          refine Nrm.out (hKK _ _ ?_)
          have r0 := CP2.out.blk.cell 0
          have r1 := CP2.out.blk.cell 1
          have r2 := CP2.out.blk.cell 2
          go_wp2_with (refine wpList_store_blk rfl 25 _ _ rfl (w.heap.size + 2) 25 _ #[.slice A' n' c', .slice D2 (m' + 1) d2, .int .i64 su] rfl rfl (HB3.out _ k) HI.out rfl (by simp [Value.oneCell']) ?_; intro W hblk hg)
          have o1 := CP2.out.o1
          have o2 := CP2.out.o2
          have ol := CP2.out.each
          refine bodyPost_ret (results_cell_tmp rfl _ _ (w.heap.size + 2) 25 _ _ _ rfl hblk Tryd.underlying25 rfl HI.out) rfl (AppP.yes ⟨A', n', c', D2, m' + 1, d2⟩ _ HER.out ?_ (LgOwn.rd (LgOwn.far ⟨HL1.out, o1, ?_, o2, ol⟩ hg hlt3)) ?_ (HFIN.out _ _ k hg))
          · rfl
          · rw [List.length_append, HLL.out]; rfl
          · rw [nts_snoc, HNL.out]
        · go_simp
          refine (G5.out _ k).mono ?_
          rintro e W1 ⟨⟨E1, e1, f1, E2, e2, f2, E3, e3, f3, E4, e4, f4⟩, rfl, hno, hb'⟩
          have NO := Lib.hid (hno.less k.size)
          have CP := Lib.hid (CP.out.below hb')
          have k := below_then k (Nat.le_refl _) hb'
          clear hno hb'
          refine hK.out _ _ (by first | exact (HQ.out _ k).2) (fun hHeld => ?_)
          clear hK K
          refine wpAnyH_ready (rs := [1, 4]) (by kernel_rfl) (by simp) ?_
          refine AllReadyH.cons rfl (fun K hK => ?_) (AllReadyH.cons rfl (fun K hK => ?_) AllReadyH.nil)
          · have qg := CP.out.blk.cell 1
            go_simp
            clear qg
            refine hK.out _ _ (by first | exact (HQ.out _ k).2) (fun hHeld => ?_)
            clear hK K
            refine wpAnyH_ready (rs := [4]) (by kernel_rfl) (by simp) ?_
            refine AllReadyH.cons rfl (fun K hK => ?_) AllReadyH.nil
            go_simp
            have hb' := then_alloc k (.cells #[.slice E1 e1 f1, .slice E2 e2 f2, .slice E3 e3 f3, .slice E4 e4 f4] 38)
            have RN := Lib.hid (newRow 4 1 hb' rfl (by unfold maxLen; omega))
            have NO := Lib.hid (NO.out.below hb')
            have CP := Lib.hid (CP.out.below hb')
            have k := below_then k (Nat.le_refl _) hb'
            clear hb'
            refine hK.out _ _ (by first | exact (HQ.out _ k).2) (fun hHeld => ?_)
            clear hK K
            refine wpAnyH_ready (rs := [5]) (by kernel_rfl) (by simp) ?_
            refine AllReadyH.cons rfl (fun K hK => ?_) AllReadyH.nil
            rw [if_pos (by kernel_rfl)]
            refine wp_append_rd _ (.tmp 30) (.tmp 33) _ rfl w0.heap.size 38 i0 _ 4 96 Tryd.underlying23 hi0 hz0 hz1 hz2 rfl (by decide) (.slice D' m' d') m' _ rfl CP.out.o2 _ _ 1 1 _ rfl RN.out (ntv_oneCell ⟨E1, e1, f1, E2, e2, f2, E3, e3, f3, E4, e4, f4⟩) h63 (by omega) k.size ?_
            intro D2 d2 W3 ho hg hat
            have CP2 := Lib.hid (CpS.app CP.out NO.out ho hg)
            have HB := Lib.hid (CP.out.blk.grown hg (blk_ne CP.out.blk CP.out.o2 (by decide)))
            have k := k.trans (grown_below hg k.size (fun j hj => own_lt CP.out.o2 j hj))
            clear ho hg hat CP NO RN
            refine hK.out _ _ (by first | exact (HQ.out _ k).2) (fun hHeld => ?_)
            clear hK K
            refine wpAnyH_putD (i := 6) (d := 35) (v := ?_) rfl rfl (by kernel_rfl) (by kernel_rfl) (by kernel_rfl) (fun _ _ _ h => h) (Or.inl ⟨by kernel_rfl, ?_⟩) (by first | exact (HQ.out _ k).2) ?_
            rotate_left
            · (intro w hS; (try dsimp only at hS); go_simp <;> with_reducible rfl)
            try simp only [List.setIfInBounds_toArray, List.set_cons_zero, List.set_cons_succ]
            refine wpAnyH_ready (rs := [7]) (by kernel_rfl) (by simp) ?_
            refine AllReadyH.cons rfl (fun K hK => ?_) AllReadyH.nil
            have qg := HB.out.cell 1
            have qf := HB.out.frozen 1
            go_simp
            clear qg qf
            have k := CP2.out.bl
            refine hK.out _ _ (by first | exact (HQ.out _ k).2) (fun hHeld => ?_)
            clear hK K
            refine wpAnyH_done (by kernel_rfl) ?_ _
            refine Nrm.out (hKK _ _ ?_)
            have r0 := CP2.out.blk.cell 0
            have r1 := CP2.out.blk.cell 1
            have r2 := CP2.out.blk.cell 2
            go_wp2_with (refine wpList_store_blk rfl 25 _ _ rfl (w.heap.size + 2) 25 _ #[.slice A' n' c', .slice D2 (m' + 1) d2, .int .i64 su] rfl rfl (HB3.out _ k) HI.out rfl (by simp [Value.oneCell']) ?_; intro W hblk hg)
            have o1 := CP2.out.o1
            have o2 := CP2.out.o2
            have ol := CP2.out.each
            refine bodyPost_ret (results_cell_tmp rfl _ _ (w.heap.size + 2) 25 _ _ _ rfl hblk Tryd.underlying25 rfl HI.out) rfl (AppP.yes ⟨A', n', c', D2, m' + 1, d2⟩ _ HER.out ?_ (LgOwn.rd (LgOwn.far ⟨HL1.out, o1, ?_, o2, ol⟩ hg hlt3)) ?_ (HFIN.out _ _ k hg))
            · rfl
            · rw [List.length_append, HLL.out]; rfl
            · rw [nts_snoc, HNL.out]
          · go_simp
            have hb' := then_alloc k (.cells #[.slice E1 e1 f1, .slice E2 e2 f2, .slice E3 e3 f3, .slice E4 e4 f4] 38)
            have RN := Lib.hid (newRow 4 1 hb' rfl (by unfold maxLen; omega))
            have NO := Lib.hid (NO.out.below hb')
            have CP := Lib.hid (CP.out.below hb')
            have k := below_then k (Nat.le_refl _) hb'
            clear hb'
            refine hK.out _ _ (by first | exact (HQ.out _ k).2) (fun hHeld => ?_)
            clear hK K
            refine wpAnyH_ready (rs := [1]) (by kernel_rfl) (by simp) ?_
            refine AllReadyH.cons rfl (fun K hK => ?_) AllReadyH.nil
            have qg := CP.out.blk.cell 1
            go_simp
            clear qg
            refine hK.out _ _ (by first | exact (HQ.out _ k).2) (fun hHeld => ?_)
            clear hK K
            refine wpAnyH_ready (rs := [5]) (by kernel_rfl) (by simp) ?_
            refine AllReadyH.cons rfl (fun K hK => ?_) AllReadyH.nil
            rw [if_pos (by kernel_rfl)]
            refine wp_append_rd _ (.tmp 30) (.tmp 33) _ rfl w0.heap.size 38 i0 _ 4 96 Tryd.underlying23 hi0 hz0 hz1 hz2 rfl (by decide) (.slice D' m' d') m' _ rfl CP.out.o2 _ _ 1 1 _ rfl RN.out (ntv_oneCell ⟨E1, e1, f1, E2, e2, f2, E3, e3, f3, E4, e4, f4⟩) h63 (by omega) k.size ?_
            intro D2 d2 W3 ho hg hat
            have CP2 := Lib.hid (CpS.app CP.out NO.out ho hg)
            have HB := Lib.hid (CP.out.blk.grown hg (blk_ne CP.out.blk CP.out.o2 (by decide)))
            have k := k.trans (grown_below hg k.size (fun j hj => own_lt CP.out.o2 j hj))
            clear ho hg hat CP NO RN
            refine hK.out _ _ (by first | exact (HQ.out _ k).2) (fun hHeld => ?_)
            clear hK K
            refine wpAnyH_putD (i := 6) (d := 35) (v := ?_) rfl rfl (by kernel_rfl) (by kernel_rfl) (by kernel_rfl) (fun _ _ _ h => h) (Or.inl ⟨by kernel_rfl, ?_⟩) (by first | exact (HQ.out _ k).2) ?_
            rotate_left
            · (intro w hS; (try dsimp only at hS); go_simp <;> with_reducible rfl)
            try simp only [List.setIfInBounds_toArray, List.set_cons_zero, List.set_cons_succ]
            refine wpAnyH_ready (rs := [7]) (by kernel_rfl) (by simp) ?_
            refine AllReadyH.cons rfl (fun K hK => ?_) AllReadyH.nil
            have qg := HB.out.cell 1
            have qf := HB.out.frozen 1
            go_simp
            clear qg qf
            have k := CP2.out.bl
            refine hK.out _ _ (by first | exact (HQ.out _ k).2) (fun hHeld => ?_)
            clear hK K
            refine wpAnyH_done (by kernel_rfl) ?_ _
            refine Nrm.out (hKK _ _ ?_)
            have r0 := CP2.out.blk.cell 0
            have r1 := CP2.out.blk.cell 1
            have r2 := CP2.out.blk.cell 2
            go_wp2_with (refine wpList_store_blk rfl 25 _ _ rfl (w.heap.size + 2) 25 _ #[.slice A' n' c', .slice D2 (m' + 1) d2, .int .i64 su] rfl rfl (HB3.out _ k) HI.out rfl (by simp [Value.oneCell']) ?_; intro W hblk hg)
            have o1 := CP2.out.o1
            have o2 := CP2.out.o2
            have ol := CP2.out.each
            refine bodyPost_ret (results_cell_tmp rfl _ _ (w.heap.size + 2) 25 _ _ _ rfl hblk Tryd.underlying25 rfl HI.out) rfl (AppP.yes ⟨A', n', c', D2, m' + 1, d2⟩ _ HER.out ?_ (LgOwn.rd (LgOwn.far ⟨HL1.out, o1, ?_, o2, ol⟩ hg hlt3)) ?_ (HFIN.out _ _ k hg))
            · rfl
            · rw [List.length_append, HLL.out]; rfl
            · rw [nts_snoc, HNL.out]

end Go.Proofs.YtepdcbhapjgijaaDoor

namespace Go.Proofs.YtepdcbhapjgijaaDoor
open Go.RowKit
set_option maxRecDepth 100000

def syE (b : List Vc.St) (L : List (NV × Nt)) (su : Int) : Int := if lgR b L su = true then 0 else 1
/-- Which log a Sync hands back. -/
def SyncP (w : World) (b : List Vc.St) (L : List (NV × Nt)) (su : Int) (e : Ending) (w' : World) : Prop :=
  ∃ v' L', e = .returned (.tuple #[.agg (LV.val v' (if syE b L su = 0 then (L.length : Int) else 0)), .int .i64 (syE b L su)]) ∧ LgRd w' v' (if syE b L su = 0 then b else []) L' ∧ nts L' = (if syE b L su = 0 then nts L else []) ∧ Below w.heap.size w w'
def kn (b : List Vc.St) (L : List (NV × Nt)) (su : Int) : List Vc.St := if lgR b L su = true then (lgW b (nts L)).getD [] else []
def CutP (w : World) (b : List Vc.St) (L : List (NV × Nt)) (su : Int) (e : Ending) (w' : World) : Prop :=
  ∃ v', e = .returned (.tuple #[.agg (LV.val v' 0), .int .i64 (syE b L su)]) ∧ LgRd w' v' (kn b L su) [] ∧ Below w.heap.size w w'
theorem SyncP.no {w w' : World} {b : List Vc.St} {L : List (NV × Nt)} {su : Int} {e : Ending} (hr : lgR b L su = false) (hee : e = .returned (.tuple #[.agg #[.slice none 0 0, .slice none 0 0, .int .i64 0], .int .i64 1])) (hb : Below w.heap.size w w') : SyncP w b L su e w' := by
  have he : syE b L su = 1 := by unfold syE; rw [hr]; rfl
  unfold SyncP
  rw [he, if_neg (by decide), if_neg (by decide), if_neg (by decide)]
  exact ⟨LV0, [], hee, LgRd.zero w', rfl, hb⟩
theorem SyncP.yes {w w' : World} {b : List Vc.St} {L L' : List (NV × Nt)} {su : Int} {e : Ending} (v' : LV) (hr : lgR b L su = true) (hee : e = .returned (.tuple #[.agg (v'.val (L.length : Int)), .int .i64 0])) (h : LgRd w' v' b L') (hn : nts L' = nts L) (hb : Below w.heap.size w w') : SyncP w b L su e w' := by
  have he : syE b L su = 0 := by unfold syE; rw [hr]; rfl
  unfold SyncP
  rw [he, if_pos rfl, if_pos rfl, if_pos rfl]
  exact ⟨v', L', hee, h, hn, hb⟩
theorem CutP.no {w w' : World} {b : List Vc.St} {L : List (NV × Nt)} {su : Int} {e : Ending} (hr : lgR b L su = false) (hee : e = .returned (.tuple #[.agg #[.slice none 0 0, .slice none 0 0, .int .i64 0], .int .i64 1])) (hb : Below w.heap.size w w') : CutP w b L su e w' := by
  have he : syE b L su = 1 := by unfold syE; rw [hr]; rfl
  unfold CutP kn
  rw [he, hr, if_neg (by decide)]
  exact ⟨LV0, hee, LgRd.zero w', hb⟩
theorem CutP.yes {w w' : World} {b : List Vc.St} {L : List (NV × Nt)} {su : Int} {e : Ending} {K : Option Addr} {k kc : Nat} {q : List Vc.St} (hr : lgR b L su = true) (hq : lgW b (nts L) = some q) (hl : q.length = k) (hR : Rd w' w'.heap.size 2 K k kc (sv q)) (hee : e = .returned (.tuple #[.agg #[.slice K k kc, .slice none 0 0, .int .i64 0], .int .i64 0])) (hb : Below w.heap.size w w') : CutP w b L su e w' := by
  have he : syE b L su = 0 := by unfold syE; rw [hr]; rfl
  unfold CutP kn
  rw [he, hr, if_pos rfl, hq]
  exact ⟨⟨K, k, kc, none, 0, 0⟩, hee, ⟨hl, hR, ⟨rfl, Rd.none_, fun p hp => by cases hp⟩⟩, hb⟩

theorem Rd.resultFar {W W' : World} {A : Option Addr} {n c g : Nat} {t : TypeId} {q : List Vc.St} (h : Rd W W.heap.size 2 A n c (sv q)) (hg : W.grownBy W' (some g)) (hB : Blk W g t #[.slice none 0 0, .slice none 0 0, .int .i64 0]) : Rd W' W'.heap.size 2 A n c (sv q) := by
  refine ⟨h.len, h.cap, h.max, h.nil, fun hn => ?_⟩
  obtain ⟨b, o, rfl, hb, hc⟩ := h.plain hn (by decide)
  rcases q with _ | ⟨s, r⟩
  · have := h.len; simp [sv] at this; omega
  · have h0 := hc 0 (.int .i64 s.1) rfl
    have h1 := hc 1 (.int .i64 s.2) rfl
    have hne : b ≠ g := by
      rintro rfl
      rw [hB.cell] at h0 h1
      rcases o with _ | _ | _ | o <;> simp at h0 h1
    obtain ⟨ad, e, hb', hc'⟩ := h.at0 hn
    injection e with e
    subst e
    exact ⟨_, rfl, Nat.lt_of_lt_of_le hb' hg.size, fun j u hu => hg.cell (hc' j u hu) (by rw [block_of_add]; simpa using hne)⟩


end Go.Proofs.YtepdcbhapjgijaaDoor

namespace Go.Proofs.YtepdcbhapjgijaaDoor
open Go.RowKit Go.Shelf
set_option maxRecDepth 100000
attribute [local go_sem] Oper.semAt_some

theorem Tab.olds {w W : World} (h : Tab w) (ho : Olds w W) : Tab W := fun j hj => ho.cell _ _ (h j hj)
theorem NtRd.olds {w W : World} {B : Nat} {v : NV} {x : Nt} (h : NtRd w B v x) (ho : Olds w W) : NtRd W B v x :=
  ⟨h.l1, h.r1.olds ho, h.l2, h.r2.olds ho, h.l3, h.r3.olds ho, h.l4, h.r4.olds ho⟩
theorem LgRd.olds {w W : World} {v : LV} {b : List Vc.St} {L : List (NV × Nt)} (h : LgRd w v b L) (ho : Olds w W) : LgRd W v b L :=
  ⟨h.l1, (h.r1.olds ho).more ho.size, ⟨h.ns.len, (h.ns.rd.olds ho).more ho.size, fun p hp => ((h.ns.each p hp).olds ho).more ho.size⟩⟩

/-- Places and notes from a place on. -/
def evD : Nat → List Nt → List (Nat × Nt)
  | _, [] => []
  | i, x :: r => (i, x) :: evD (i + 1) r
theorem evD_next {l : List Nt} {i : Nat} (h : i < l.length) : evD i (l.drop i) = (i, l[i]) :: evD (i + 1) (l.drop (i + 1)) := by
  rw [List.drop_eq_getElem_cons h, evD]
theorem evD_end {l : List Nt} {i : Nat} (h : l.length ≤ i) : evD i (l.drop i) = [] := by rw [List.drop_of_length_le h]; rfl
/-- What a log tells. -/
def evG (b : List Vc.St) (L : List (NV × Nt)) (su fr : Int) : List (Nat × Nt) := if lgR b L su = true then evD fr.toNat ((nts L).drop fr.toNat) else []
/-- What a round is handed: a place, a note. -/
abbrev EvG := Nat × NV × Nt
def evsG (x : EvG) : Array Value := #[.int .i64 (x.1 : Int), .agg x.2.1.val]
def egT (x : EvG) (W : World) : Prop := NtRd W W.heap.size x.2.1 x.2.2
def saidG (l : List EvG) : List (Nat × Nt) := l.map fun x => (x.1, x.2.2)
theorem saidG_snoc (l : List EvG) (x : EvG) : saidG (l ++ [x]) = saidG l ++ [(x.1, x.2.2)] := by simp [saidG]

/-- What the iterator reads between two rounds. -/
structure GoodG (w0 : World) (Bl Bf : Nat) (v : LV) (su fr : Int) (W : World) : Prop where
  ol : Olds w0 W
  bl : Blk W Bl 25 (v.val su)
  bf : Blk W Bf 3 #[.int .i64 fr]
  gl : w0.heap.size ≤ Bl
  gf : w0.heap.size ≤ Bf
theorem GoodG.below {w0 W V : World} {Bl Bf n₀ : Nat} {v : LV} {su fr : Int} (h : GoodG w0 Bl Bf v su fr W) (hb : Below n₀ W V) (h1 : Bl < n₀) (h2 : Bf < n₀) : GoodG w0 Bl Bf v su fr V :=
  ⟨⟨Nat.le_trans h.ol.size hb.size, fun p u hp => (hb.cell (p := p) (by have := World.block_lt_of_cell? _ _ hp; have := h.gl; omega)).trans (h.ol.cell p u hp)⟩, h.bl.below hb h1, h.bf.below hb h2, h.gl, h.gf⟩
theorem GoodG.go {w0 W V : World} {Bl Bf : Nat} {v : LV} {su fr : Int} (h : GoodG w0 Bl Bf v su fr W) (hb : Below W.heap.size W V) : GoodG w0 Bl Bf v su fr V := h.below hb h.bl.lt h.bf.lt
theorem grown_of_belowG {W W' : World} (h : Below W.heap.size W W') : W.grownBy W' none := ⟨h.os, h.tape, h.output, h.size, fun k hk _ => h.block k hk⟩
theorem abideG {β : Type} {B : Nat} {J : β → World → Prop} (h : AbidesFrom B J) {s : β} {W W' : World} (hb : Below W.heap.size W W') (hs : J s W) : J s W' := h s W W' none hs (grown_of_belowG hb) (fun r e => by cases e)

theorem intOf_eq {a b : Int} (h : a = b) : Value.int .i64 a = .int .i64 b := by rw [h]

set_option maxHeartbeats 8000000 in
/-- The closure: for every loop body that keeps what it reads. -/
theorem lgAll1_in (m : Nat) (hm : 1 ≤ m) (lp Bl Bf : Nat) (v : LV) (b : List Vc.St) (L : List (NV × Nt)) (su fr : Int) (w0 : World) (hT : Tab w0) (h : LgRd w0 v b L) (hsz : LgSz v L) (J Jx : List EvG → World → Prop) (B : Nat) (hJ : AbidesFrom B J)
    (hY : ∀ pre (x : EvG) W, J pre W → egT x W → pre.length < v.m → YieldAt Fence.wide (m - 1) Tryd.prog lp (evsG x) W fun e W' =>
      (e = .returned (.bool true) ∧ J (pre ++ [x]) W' ∧ (GoodG w0 Bl Bf v su fr W → GoodG w0 Bl Bf v su fr W')) ∨ (e = .returned (.bool false) ∧ Jx (pre ++ [x]) W'))
    (W : World) (hg : GoodG w0 Bl Bf v su fr W) (h0 : J [] W) :
    CallsIn Fence.wide m Tryd.prog 17 #[.func (.yield lp) #[] #[], .pointer (some ⟨Bl, 0, none⟩), .pointer (some ⟨Bf, 0, none⟩)] W fun e W' => (∃ v, e = .returned v) ∧
      ((∃ ys, saidG ys = evG b L su fr ∧ J ys W') ∨ (∃ pre, (saidG pre <+: evG b L su fr) ∧ Jx pre W')) := by
  obtain ⟨A, n, c, D, d0, d⟩ := v
  have g0 := hg.bl.cell 0
  have g1 := hg.bl.cell 1
  have g2 := hg.bl.cell 2
  have HH := Lib.hid h
  have HT := Lib.hid hT
  have HG := Lib.hid hg
  have hln : L.length = d0 := h.ns.len
  have HLN := Lib.hid hln
  have hmax : d0 ≤ 9223372036854775807 := by have h1 := hsz.m1; dsimp only at h1; omega
  have HEV := Lib.hid (show evG b L su fr = if lgR b L su = true then evD fr.toNat ((nts L).drop fr.toNat) else [] from rfl)
  have f1 := lgFormed_any ⟨A, n, c, D, d0, d⟩ b L su W (hT.olds hg.ol) (h.olds hg.ol)
  rw [lgF_R] at f1
  rcases hr : lgR b L su with _ | _
  · have HN := Lib.hid (show evG b L su fr = [] by rw [HEV.out, hr]; rfl)
    rw [hr] at f1
    have G1 := Lib.hid f1
    clear hr f1 h hT hg hln
    refine callsIn_of_wp Tryd.func17 rfl trivial ?_ rfl
    simp only [Tryd.ntmps17, List.size_toArray, List.length_cons, List.length_nil, Nat.reduceAdd, Nat.reduceSub, Array.replicate_succ, Array.replicate_zero, List.push_toArray, List.append_toArray, List.nil_append, List.cons_append]
    gi_wp2_with (refine ⟨trivial, ?_⟩; gi_at_call 13; refine (callsIn_wide.2 G1.out).mono ?_; rintro e w1 ⟨rfl, hb1⟩)
    refine bodyPost_ret (results_none rfl _ _ _) rfl ?_
    exact ⟨⟨_, rfl⟩, .inl ⟨[], HN.out.symm, abideG hJ hb1 h0⟩⟩
  · have HN := Lib.hid (show evG b L su fr = evD fr.toNat ((nts L).drop fr.toNat) by rw [HEV.out, if_pos hr])
    rw [hr] at f1
    have G1 := Lib.hid f1
    clear hr f1 h hT hg hln
    obtain ⟨i0, hi0⟩ : ∃ i0 : Nat, fr.toNat = i0 := ⟨_, rfl⟩
    rw [hi0] at HN
    have HI0 := Lib.hid hi0
    clear hi0
    refine callsIn_of_wp Tryd.func17 rfl trivial ?_ rfl
    simp only [Tryd.ntmps17, List.size_toArray, List.length_cons, List.length_nil, Nat.reduceAdd, Nat.reduceSub, Array.replicate_succ, Array.replicate_zero, List.push_toArray, List.append_toArray, List.nil_append, List.cons_append]
    gi_wp2_with (refine ⟨trivial, ?_⟩; gi_at_call 13; refine (callsIn_wide.2 G1.out).mono ?_; rintro e w1 ⟨rfl, hb1⟩; have q0 := (HG.out.go hb1).bf.cell 0)
    all_goals
      have hg1 := HG.out.go hb1
      have hj1 := abideG hJ hb1 h0
      clear q0 hb1 G1 HG HEV
      gi_loopw [4] (fun v4 wr => ∃ (i : Nat) (pre : List EvG), v4 = .int .i64 i ∧ GoodG w0 Bl Bf ⟨A, n, c, D, d0, d⟩ su fr wr ∧ J pre wr ∧ Hid (evG b L su fr = saidG pre ++ evD i ((nts L).drop i)) ∧ pre.length ≤ i) (fun v4 _ => d0 - (intOf v4).toNat)
      case atStart => exact ⟨i0, [], intOf_eq (by have := HI0.out; omega), hg1, hj1, HN.out, Nat.zero_le _⟩
      case round =>
        obtain ⟨i, pre, rfl, hgd, hj, hev, hpl⟩ := hrel
        have q1 := hgd.bl.cell 1
        by_cases hlt : i < d0
        · have hkL : i < L.length := by rw [HLN.out]; exact hlt
          have hLR := HH.out.olds hgd.ol
          obtain ⟨bb, o, hDe, hab, p0, p1, p2, p3⟩ := hLR.ns.note hkL
          have hDe : D = some ⟨bb, o, none⟩ := hDe
          subst hDe
          have hrd := hLR.ns.each _ (List.getElem_mem hkL)
          have hz := hsz.each _ (List.getElem_mem hkL)
          have hnx := evD_next (l := nts L) (i := i) (by rw [nts_len]; exact hkL)
          rw [nts_at L i hkL] at hnx
          generalize L[i] = p at p0 p1 p2 p3 hrd hnx hz
          obtain ⟨⟨A1, n1, c1, A2, n2, c2, A3, n3, c3, A4, n4, c4⟩, x⟩ := p
          dsimp only at p0 p1 p2 p3 hrd hnx hz
          have G := Lib.hid (ownNote_own ⟨A1, n1, c1, A2, n2, c2, A3, n3, c3, A4, n4, c4⟩ x wr hrd hz)
          have HD := Lib.hid (show ∀ u : NV, evG b L su fr = saidG (pre ++ [(i, u, x)]) ++ evD (i + 1) ((nts L).drop (i + 1)) from fun u => by rw [saidG_snoc, hev.out, hnx, List.append_assoc]; rfl)
          have HGD := Lib.hid hgd
          clear hrd hz hnx hLR hkL hgd
          gi_wp2_with (refine ⟨trivial, ?_⟩; gi_at_call 18; refine (callsIn_wide.2 G.out).mono ?_; rintro e w2 ⟨⟨E1, e1, f1, E2, e2, f2, E3, e3, f3, E4, e4, f4⟩, rfl, hno, hb2⟩)
          have hgd2 := HGD.out.go hb2
          obtain ⟨y, hye⟩ : ∃ y : EvG, y = (i, ⟨E1, e1, f1, E2, e2, f2, E3, e3, f3, E4, e4, f4⟩, x) := ⟨_, rfl⟩
          obtain ⟨fn, tmps, assign, body, hy, hR⟩ := hY pre y w2 (abideG hJ hb2 hj) (by rw [hye]; exact hno.rd) (by omega)
          rw [hye] at hy
          have hy : (Instr.yield lp #[.int .i64 (i : Int), .agg (NV.val ⟨E1, e1, f1, E2, e2, f2, E3, e3, f3, E4, e4, f4⟩)]).run Tryd.prog w2 = _ := hy
          have HYE := Lib.hid hye
          have HY := Lib.hid hy
          clear hye hno hb2 p0 p1 p2 p3 q1 hy
          gi_wp2
          rw [HY.out]
          gi_wp2
          refine hR.mono ?_
          rintro e W3 (⟨rfl, hJ3, hk3⟩ | ⟨rfl, hJx3⟩)
          · gi_wp2
            go_roundw
            case rel =>
              have h2 := HD.out ⟨E1, e1, f1, E2, e2, f2, E3, e3, f3, E4, e4, f4⟩
              rw [← HYE.out] at h2
              exact ⟨i + 1, pre ++ [y], by go_num, hk3 hgd2, hJ3, h2, by rw [List.length_append, List.length_singleton]; omega⟩
            case measure => simp [intOf]; omega
          · gi_wp2
            refine bodyPost_ret (results_none rfl _ _ _) rfl ?_
            have h2 := HD.out ⟨E1, e1, f1, E2, e2, f2, E3, e3, f3, E4, e4, f4⟩
            rw [← HYE.out] at h2
            exact ⟨⟨_, rfl⟩, .inr ⟨pre ++ [y], ⟨_, h2.symm⟩, hJx3⟩⟩
        · have HD := Lib.hid (show saidG pre = evG b L su fr by rw [hev.out, evD_end (by rw [nts_len, HLN.out]; omega), List.append_nil])
          clear hev
          gi_wp2
          go_end0
          exact ⟨⟨_, rfl⟩, .inl ⟨pre, HD.out, hj⟩⟩

/-- invlog.All: the function value. -/
theorem lgAll_any (v : LV) (su fr : Int) (w : World) : Calls Tryd.prog 7 #[.agg (v.val su), .int .i64 fr] w fun e w' =>
    e = .returned (.func (.func 17) #[] #[.pointer (some ⟨w.heap.size, 0, none⟩), .pointer (some ⟨w.heap.size + 1, 0, none⟩)]) ∧ w' = (w.alloc (.cells (v.val su) 25)).alloc (.cells #[.int .i64 fr] 3) := by
  go_enter Tryd.func7, Tryd.ntmps7
  go_wp2
  go_ret
  exact ⟨rfl, rfl⟩
theorem lgAll_told (m : Nat) (hm : 1 ≤ m) (Bl Bf : Nat) (v : LV) (b : List Vc.St) (L : List (NV × Nt)) (su fr : Int) (w0 : World) (hT : Tab w0) (h : LgRd w0 v b L) (hsz : LgSz v L) (w : World) (hg : GoodG w0 Bl Bf v su fr w) :
    SeqTold Fence.wide m Tryd.prog 17 #[.pointer (some ⟨Bl, 0, none⟩), .pointer (some ⟨Bf, 0, none⟩)] evsG egT (fun W W' => GoodG w0 Bl Bf v su fr W → GoodG w0 Bl Bf v su fr W') (fun ys => saidG ys = evG b L su fr) (fun pre => saidG pre <+: evG b L su fr) v.m w := by
  intro lp J Jx W hW hJ hJx hY h0
  exact lgAll1_in m hm lp Bl Bf v b L su fr w0 hT h hsz J Jx W.heap.size hJ hY W (hg.below hW hg.bl.lt hg.bf.lt) h0
end Go.Proofs.YtepdcbhapjgijaaDoor

namespace Go.Proofs.YtepdcbhapjgijaaDoor
open Go.RowKit Go.Shelf
set_option maxRecDepth 100000
attribute [local go_sem] Oper.semAt_some

theorem keeps_belowG {W V : World} (hb : Below W.heap.size W V) : KeepsOthers W V := ⟨hb.size, fun k _ hk _ => (hb.block k (Array.getElem?_eq_some_iff.1 hk).1).trans hk⟩
theorem evD_len : ∀ (l : List Nt) (i : Nat), (evD i l).length = l.length
  | [], _ => rfl
  | x :: r, i => by rw [evD, List.length_cons, List.length_cons, evD_len r (i + 1)]
theorem evD_at : ∀ (l : List Nt) (i k : Nat), (evD i l)[k]? = l[k]?.map fun x => (i + k, x)
  | [], i, k => by simp [evD]
  | x :: r, i, 0 => by simp [evD]
  | x :: r, i, k + 1 => by
    rw [evD, List.getElem?_cons_succ, List.getElem?_cons_succ, evD_at r (i + 1) k]
    congr 1; funext y; rw [show i + 1 + k = i + (k + 1) by omega]
theorem saidG_len (l : List EvG) : (saidG l).length = l.length := by simp [saidG]
/-- What a prefix of what is told says. -/
theorem said_at {l : List Nt} {i : Nat} {pre : List EvG} {x : EvG} (h : saidG (pre ++ [x]) <+: evD i l) : l[pre.length]? = some x.2.2 ∧ x.1 = i + pre.length := by
  obtain ⟨r, hr⟩ := h
  rw [saidG_snoc] at hr
  have h1 : (evD i l)[pre.length]? = some (x.1, x.2.2) := by
    rw [← hr, List.append_assoc, List.getElem?_append_right (by rw [saidG_len]; exact Nat.le_refl _), saidG_len, Nat.sub_self]; rfl
  rw [evD_at] at h1
  cases hx : l[pre.length]? with
  | none => rw [hx] at h1; cases h1
  | some y =>
    rw [hx] at h1
    simp only [Option.map_some, Option.some.injEq, Prod.mk.injEq] at h1
    exact ⟨by rw [h1.2], h1.1.symm⟩
/-- No note that came is new. -/
def noNews (u : List Vc.St) (pre : List EvG) : Prop := ∀ x ∈ pre, ntNews x.2.2 u = false
theorem plW_pre {u : List Vc.St} : ∀ (k : Nat) (l : List Nt), (∀ i (h : i < l.length), i < k → ntNews l[i] u = false) → k ≤ l.length → plW u l = k + plW u (l.drop k)
  | 0, l, _, _ => by simp
  | k + 1, [], _, h => by simp at h
  | k + 1, x :: r, h, hk => by
    have h0 := h 0 (by simp) (by omega)
    rw [plW, if_neg (by rw [show x = (x :: r)[0] from rfl, h0]; simp), plW_pre k r (fun i hi hik => h (i + 1) (by simp; omega) (by omega)) (by simpa using hk)]
    rw [List.drop_succ_cons]; omega
theorem said_no {l : List Nt} {u : List Vc.St} {pre : List EvG} (h : saidG pre <+: evD 0 l) (hn : noNews u pre) : pre.length ≤ l.length ∧ ∀ i (h : i < l.length), i < pre.length → ntNews l[i] u = false := by
  have hlen : pre.length ≤ l.length := by
    have := h.length_le
    rwa [saidG_len, evD_len] at this
  refine ⟨hlen, fun i hi hip => ?_⟩
  obtain ⟨r, hr⟩ := h
  have h1 : (evD 0 l)[i]? = some (pre[i].1, pre[i].2.2) := by
    rw [← hr, List.getElem?_append_left (by rw [saidG_len]; exact hip)]; simp [saidG, List.getElem?_eq_getElem hip]
  rw [evD_at, List.getElem?_eq_getElem hi] at h1
  simp only [Option.map_some, Option.some.injEq, Prod.mk.injEq] at h1
  rw [h1.2]
  exact hn _ (List.getElem_mem hip)

theorem blkG_kept {W W' : World} {g : Nat} {t : TypeId} {cs : Array Value} {row : Option Nat} (h : Blk W g t cs) (hg : W.grownBy W' row) (hr : ∀ r, row = some r → ∃ o : Obj, W.heap[r]? = some o ∧ o.isCells = false) : Blk W' g t cs :=
  h.grown hg (fun e => by obtain ⟨o, ho, hc⟩ := hr _ e.symm; rw [h] at ho; injection ho with ho; rw [← ho] at hc; cases hc)
theorem egT_kept {x : EvG} {X Y : World} {row : Option Nat} (h : egT x X) (hg : X.grownBy Y row) (hr : ∀ r, row = some r → ∃ o : Obj, X.heap[r]? = some o ∧ o.isCells = false) : egT x Y := by
  have h' : NtRd X X.heap.size x.2.1 x.2.2 := h
  exact (⟨h'.l1, (rd_kept h'.r1 hg hr).more hg.size, h'.l2, (rd_kept h'.r2 hg hr).more hg.size, h'.l3, (rd_kept h'.r3 hg hr).more hg.size, h'.l4, (rd_kept h'.r4 hg hr).more hg.size⟩ : NtRd Y Y.heap.size x.2.1 x.2.2)
theorem goodG_t {w0 : World} {Bl Bf : Nat} {v : LV} {su fr : Int} {X Y Z : World} (h : GoodG w0 Bl Bf v su fr X → GoodG w0 Bl Bf v su fr Y) (k : GoodG w0 Bl Bf v su fr Y → GoodG w0 Bl Bf v su fr Z) : GoodG w0 Bl Bf v su fr X → GoodG w0 Bl Bf v su fr Z := fun g => k (h g)
theorem GoodG.grown {w0 W V : World} {Bl Bf : Nat} {v : LV} {su fr : Int} {row : Option Nat} (h : GoodG w0 Bl Bf v su fr W) (hg : W.grownBy V row) (hr : ∀ r, row = some r → ∃ o : Obj, W.heap[r]? = some o ∧ o.isCells = false) : GoodG w0 Bl Bf v su fr V :=
  ⟨h.ol.grown hg hr, blkG_kept h.bl hg hr, blkG_kept h.bf hg hr, h.gl, h.gf⟩
theorem goodG_b {w0 : World} {Bl Bf : Nat} {v : LV} {su fr : Int} (W : World) (lp : Nat) (o o' : Obj) (h : W.heap[lp]? = some o) (ho : o.isCells = false) : GoodG w0 Bl Bf v su fr W → GoodG w0 Bl Bf v su fr (W.putObj lp o') := fun g =>
  g.grown (grownBy_putObj' W lp o') (fun r e => by cases e; exact ⟨o, h, ho⟩)
theorem results_two_cells {P : Program} {fn : Func} {p q : Tmp} {ty ty2 : TypeId} (h : fn.results = #[.cell p ty, .cell q ty2]) (tmps : Array Value) (w : World) (a b : Addr) (u v : Value) (hp : tmps.getD p undef = .pointer (some a)) (hq : tmps.getD q undef = .pointer (some b))
    (ha : (loadVar ty a).run P w = .ok u w) (hb : (loadVar ty2 b).run P w = .ok v w) : (results fn tmps).run P w = .ok (.tuple #[u, v]) w := by
  have hp' : tmps[p]?.getD undef = .pointer (some a) := by simpa using hp
  have hq' : tmps[q]?.getD undef = .pointer (some b) := by simpa using hq
  simp [results, h, hp', hq', asAddr, ha, hb]

set_option maxHeartbeats 16000000 in
theorem lgPlace_any (v : LV) (b : List Vc.St) (L : List (NV × Nt)) (su : Int) (E : Option Addr) (p f : Nat) (u : List Vc.St) (w : World) (hT : Tab w) (h : LgRd w v b L) (hsz : LgSz v L) (hl : u.length = p) (hR : Rd w w.heap.size 2 E p f (sv u)) :
    Calls Tryd.prog 5 #[.agg (v.val su), .slice E p f] w fun e w' => e = .returned (.tuple #[.int .i64 (lgP b L su u).1, .int .i64 (lgP b L su u).2]) ∧ Below w.heap.size w w' := by
  obtain ⟨A, n, c, D, m, d⟩ := v
  have hmax : m ≤ 1466015503659 := hsz.m1
  have hW00 : ∃ W0, W0 = (((w.alloc (.cells (LV.val ⟨A, n, c, D, m, d⟩ su) 25)).alloc (.cells #[.slice E p f] 22)).alloc (.cells #[.int .i64 0] 3)).alloc (.cells #[.int .i64 0] 27) := ⟨_, rfl⟩
  have b1 := (((Blk.new w 25 (LV.val ⟨A, n, c, D, m, d⟩ su)).alloc (.cells #[.slice E p f] 22)).alloc (.cells #[.int .i64 0] 3)).alloc (.cells #[.int .i64 0] 27)
  have b2 := ((Blk.new (w.alloc (.cells (LV.val ⟨A, n, c, D, m, d⟩ su) 25)) 22 #[.slice E p f]).alloc (.cells #[.int .i64 0] 3)).alloc (.cells #[.int .i64 0] 27)
  have b3 := (Blk.new ((w.alloc (.cells (LV.val ⟨A, n, c, D, m, d⟩ su) 25)).alloc (.cells #[.slice E p f] 22)) 3 #[.int .i64 0]).alloc (.cells #[.int .i64 0] 27)
  have b4 := Blk.new (((w.alloc (.cells (LV.val ⟨A, n, c, D, m, d⟩ su) 25)).alloc (.cells #[.slice E p f] 22)).alloc (.cells #[.int .i64 0] 3)) 27 #[.int .i64 0]
  rw [World.size_alloc] at b2
  rw [World.size_alloc, World.size_alloc] at b3
  rw [World.size_alloc, World.size_alloc, World.size_alloc] at b4
  have hb0 : Below w.heap.size w ((((w.alloc (.cells (LV.val ⟨A, n, c, D, m, d⟩ su) 25)).alloc (.cells #[.slice E p f] 22)).alloc (.cells #[.int .i64 0] 3)).alloc (.cells #[.int .i64 0] 27)) :=
    ((((Below.refl _ w).alloc (Nat.le_refl _) _).alloc (by simp) _).alloc (by simp; omega) _).alloc (by simp; omega) _
  obtain ⟨W0, hW0⟩ := hW00
  rw [← hW0] at b1 b2 b3 b4 hb0
  have hs0 : w.heap.size + 4 = W0.heap.size := by rw [hW0]; simp
  have G := lgFormed_any ⟨A, n, c, D, m, d⟩ b L su W0 (hT.below hb0) (h.go hb0)
  rw [lgF_R] at G
  have G2 := Lib.hid fun (V : World) (hv : Below W0.heap.size W0 V) => covers_any E A p f n c u b V ((hT.below hb0).below hv) hl ((h.go hb0).go hv).l1 ((hR.go hb0).go hv) ((h.go hb0).go hv).r1
  have HQ := Lib.hid fun V (hb : Below W0.heap.size W0 V) => (show (V.cell? ⟨w.heap.size, 0, none⟩ = some (.slice A n c) ∧ V.cell? ⟨w.heap.size, 1, none⟩ = some (.slice D m d) ∧ V.cell? ⟨w.heap.size, 2, none⟩ = some (.int .i64 su)) ∧ V.cell? ⟨w.heap.size + 1, 0, none⟩ = some (.slice E p f) ∧
      (V.cell? ⟨w.heap.size + 1 + 1, 0, none⟩ = some (.int .i64 0) ∧ V.frozen? ⟨w.heap.size + 1 + 1, 0, none⟩ = false) ∧ (V.cell? ⟨w.heap.size + 1 + 1 + 1, 0, none⟩ = some (.int .i64 0) ∧ V.frozen? ⟨w.heap.size + 1 + 1 + 1, 0, none⟩ = false) from
    ⟨⟨(b1.go hb).cell 0, (b1.go hb).cell 1, (b1.go hb).cell 2⟩, (b2.go hb).cell 0, ⟨(b3.go hb).cell 0, (b3.go hb).frozen 0⟩, ⟨(b4.go hb).cell 0, (b4.go hb).frozen 0⟩⟩)
  have HB3 := Lib.hid fun V (hb : Below W0.heap.size W0 V) => b3.go hb
  have HB4 := Lib.hid fun V (hb : Below W0.heap.size W0 V) => b4.go hb
  have HB0 := Lib.hid hb0
  have HW := Lib.hid hW0.symm
  have HS0 := Lib.hid hs0
  have HT := Lib.hid hT
  have HH := Lib.hid h
  have HL := Lib.hid hl
  have HR := Lib.hid hR
  have HF := Lib.hid (show lgP b L su u = if lgR b L su = true then (if covB (Vc.cnt u) (Vc.cnt b) = true then ((plW u (nts L) : Int), 0) else (0, 12)) else (0, 1) from rfl)
  -- two results stored
  have HST := Lib.hid fun V (hb : Below W0.heap.size W0 V) (x y : Int) => (show Below w.heap.size w ((V.setCell ⟨w.heap.size + 1 + 1, 0, none⟩ (.int .i64 x)).setCell ⟨w.heap.size + 1 + 1 + 1, 0, none⟩ (.int .i64 y)) ∧ Blk ((V.setCell ⟨w.heap.size + 1 + 1, 0, none⟩ (.int .i64 x)).setCell ⟨w.heap.size + 1 + 1 + 1, 0, none⟩ (.int .i64 y)) (w.heap.size + 1 + 1) 3 #[.int .i64 x] ∧
      Blk ((V.setCell ⟨w.heap.size + 1 + 1, 0, none⟩ (.int .i64 x)).setCell ⟨w.heap.size + 1 + 1 + 1, 0, none⟩ (.int .i64 y)) (w.heap.size + 1 + 1 + 1) 27 #[.int .i64 y] from
    ⟨((below_then HB0.out (Nat.le_refl _) hb).setCell (p := ⟨w.heap.size + 1 + 1, 0, none⟩) (by show _ ≤ w.heap.size + 1 + 1; omega) _).setCell (p := ⟨w.heap.size + 1 + 1 + 1, 0, none⟩) (by show _ ≤ w.heap.size + 1 + 1 + 1; omega) _,
      ((HB3.out V hb).set_ 0 (.int .i64 x)).far (p := ⟨w.heap.size + 1 + 1 + 1, 0, none⟩) (by show w.heap.size + 1 + 1 ≠ w.heap.size + 1 + 1 + 1; omega) _, (((HB4.out V hb).far (p := ⟨w.heap.size + 1 + 1, 0, none⟩) (by show w.heap.size + 1 + 1 + 1 ≠ w.heap.size + 1 + 1; omega) _).set_ 0 (.int .i64 y))⟩)
  have hLd := fun (V : World) (g : Nat) (x : Int) (hb : Blk V g 3 #[.int .i64 x]) => (show (loadVar 3 ⟨g, 0, none⟩).run Tryd.prog V = .ok (.int .i64 x) V from by
    have h := hb.cell 0
    simp [loadVar, isAgg, go_sem, h])
  have hLd2 := fun (V : World) (g : Nat) (x : Int) (hb : Blk V g 27 #[.int .i64 x]) => (show (loadVar 27 ⟨g, 0, none⟩).run Tryd.prog V = .ok (.int .i64 x) V from by
    have h := hb.cell 0
    simp [loadVar, isAgg, go_sem, h])
  have HLD := Lib.hid hLd
  have HLD2 := Lib.hid hLd2
  clear hT h hl hR hb0 hW0 b1 b2 b3 b4 hLd hLd2 hs0
  rcases hr : lgR b L su with _ | _
  · have HN := Lib.hid (show lgP b L su u = (0, 1) by rw [HF.out, hr]; rfl)
    rw [hr] at G
    have G1 := Lib.hid G
    obtain ⟨⟨q0, q1, q2⟩, q3, _⟩ := HQ.out _ (Below.refl _ _)
    clear G hr
    go_enter Tryd.func5, Tryd.ntmps5
    go_wp2_with fail
    rw [HW.out]
    refine G1.out.mono ?_
    rintro e w1 ⟨rfl, hb1⟩
    clear q0 q1 q2 q3
    obtain ⟨_, _, ⟨q4, f4⟩, ⟨q5, f5⟩⟩ := HQ.out _ hb1
    have HB1 := Lib.hid hb1
    clear hb1
    go_wp2
    obtain ⟨h1, h2, h3⟩ := HST.out _ HB1.out 0 1
    refine bodyPost_ret (results_two_cells rfl _ _ ⟨w.heap.size + 1 + 1, 0, none⟩ ⟨w.heap.size + 1 + 1 + 1, 0, none⟩ _ _ rfl rfl (HLD.out _ _ _ h2) (HLD2.out _ _ _ h3)) rfl ⟨by rw [HN.out], h1⟩
  · rcases hc : covB (Vc.cnt u) (Vc.cnt b) with _ | _
    · have HN := Lib.hid (show lgP b L su u = (0, 12) by rw [HF.out, hr, hc]; rfl)
      rw [hr] at G
      have G1 := Lib.hid G
      have G3 := Lib.hid fun (V : World) (hv : Below W0.heap.size W0 V) => (show Calls Tryd.prog 14 #[.slice E p f, .slice A n c] V fun e w' => e = .returned (.bool false) ∧ Below V.heap.size V w' from by have := G2.out V hv; rwa [hc] at this)
      obtain ⟨⟨q0, q1, q2⟩, q3, _⟩ := HQ.out _ (Below.refl _ _)
      clear G hr hc G2
      go_enter Tryd.func5, Tryd.ntmps5
      go_wp2_with fail
      rw [HW.out]
      refine G1.out.mono ?_
      rintro e w1 ⟨rfl, hb1⟩
      clear q0 q1 q2 q3
      obtain ⟨⟨q0, q1, q2⟩, q3, _⟩ := HQ.out _ hb1
      go_wp2_with fail
      refine (G3.out w1 hb1).mono ?_
      rintro e w2 ⟨rfl, hb2⟩
      have k := below_then hb1 (Nat.le_refl _) hb2
      clear q0 q1 q2 q3
      obtain ⟨_, _, ⟨q4, f4⟩, ⟨q5, f5⟩⟩ := HQ.out _ k
      have HB1 := Lib.hid k
      clear hb1 hb2 k
      go_wp2
      obtain ⟨h1, h2, h3⟩ := HST.out _ HB1.out 0 12
      refine bodyPost_ret (results_two_cells rfl _ _ ⟨w.heap.size + 1 + 1, 0, none⟩ ⟨w.heap.size + 1 + 1 + 1, 0, none⟩ _ _ rfl rfl (HLD.out _ _ _ h2) (HLD2.out _ _ _ h3)) rfl ⟨by rw [HN.out], h1⟩
    · have HN := Lib.hid (show lgP b L su u = ((plW u (nts L) : Int), 0) by rw [HF.out, hr, hc]; rfl)
      have HEV := Lib.hid (show evG b L su 0 = evD 0 (nts L) by unfold evG; rw [if_pos hr]; rfl)
      rw [hr] at G
      have G1 := Lib.hid G
      have G3 := Lib.hid fun (V : World) (hv : Below W0.heap.size W0 V) => (show Calls Tryd.prog 14 #[.slice E p f, .slice A n c] V fun e w' => e = .returned (.bool true) ∧ Below V.heap.size V w' from by have := G2.out V hv; rwa [hc] at this)
      obtain ⟨⟨q0, q1, q2⟩, q3, _⟩ := HQ.out _ (Below.refl _ _)
      clear G hr hc G2
      refine (callsIn_wide (n := 3)).1 ?_
      refine callsIn_of_wp_marks Tryd.func5 rfl trivial ?_ rfl
      simp only [Tryd.ntmps5, List.size_toArray, List.length_cons, List.length_nil, Nat.reduceAdd, Nat.reduceSub, Array.replicate_succ, Array.replicate_zero, List.push_toArray, List.append_toArray, List.nil_append, List.cons_append]
      gi_wp2_with fail
      rw [HW.out]
      refine ⟨trivial, ?_⟩
      refine (callsIn_wide.2 G1.out).mono ?_
      rintro e w1 ⟨rfl, hb1⟩
      clear q0 q1 q2 q3
      obtain ⟨⟨q0, q1, q2⟩, q3, _⟩ := HQ.out _ hb1
      gi_wp2_with fail
      refine ⟨trivial, ?_⟩
      refine (callsIn_wide.2 (G3.out w1 hb1)).mono ?_
      rintro e w2 ⟨rfl, hb2⟩
      have k := below_then hb1 (Nat.le_refl _) hb2
      clear q0 q1 q2 q3
      obtain ⟨⟨q0, q1, q2⟩, q3, _⟩ := HQ.out _ k
      clear hb1 hb2
      gi_wp2_with fail
      refine ⟨trivial, ?_⟩
      refine (callsIn_wide.2 (lgAll_any ⟨A, n, c, D, m, d⟩ su 0 w2)).mono ?_
      rintro e w3 ⟨rfl, rfl⟩
      have hkA : Below w2.heap.size w2 ((w2.alloc (.cells (LV.val ⟨A, n, c, D, m, d⟩ su) 25)).alloc (.cells #[.int .i64 0] 3)) := ((Below.refl _ w2).alloc (Nat.le_refl _) _).alloc (by simp) _
      have c1 := (Blk.new w2 25 (LV.val ⟨A, n, c, D, m, d⟩ su)).alloc (.cells #[.int .i64 0] 3)
      have c2 := Blk.new (w2.alloc (.cells (LV.val ⟨A, n, c, D, m, d⟩ su) 25)) 3 #[.int .i64 0]
      rw [World.size_alloc] at c2
      obtain ⟨W5, hW5⟩ : ∃ W5, W5 = (w2.alloc (.cells (LV.val ⟨A, n, c, D, m, d⟩ su) 25)).alloc (.cells #[.int .i64 0] 3) := ⟨_, rfl⟩
      rw [← hW5] at hkA c1 c2 ⊢
      have k5 := below_then k (Nat.le_refl _) hkA
      have hbw5 := below_then HB0.out (Nat.le_refl _) k5
      have hsz2 : w.heap.size + 4 ≤ w2.heap.size := by have := k.size; have := HS0.out; omega
      have hs5 : w2.heap.size + 2 = W5.heap.size := by rw [hW5]; simp
      have hGood : GoodG w w2.heap.size (w2.heap.size + 1) ⟨A, n, c, D, m, d⟩ su 0 W5 := ⟨Olds.of_below hbw5, c1, c2, by omega, by omega⟩
      have HTold := Lib.hid (lgAll_told (3 - 1) (by omega) w2.heap.size (w2.heap.size + 1) ⟨A, n, c, D, m, d⟩ b L su 0 w HT.out HH.out hsz W5 hGood)
      have HK5 := Lib.hid k5
      have HBW5 := Lib.hid hbw5
      clear hW5 hkA c1 c2 k q0 q1 q2 q3 hGood k5 hbw5
      gi_wp2
      refine wpIn_rangeFunc_told rfl (by omega) (gf := 17) (lb := #[.pointer (some ⟨w2.heap.size, 0, none⟩), .pointer (some ⟨w2.heap.size + 1, 0, none⟩)]) rfl trivial (enters_of Tryd.func17 (by kernel_rfl) rfl)
        HTold.out goodG_t (fun W lp o o' _ h ho _ => goodG_b W lp o o' h ho) (Below.refl _ _) (fun _ => rfl)
        (fun pre W => noNews u pre ∧ Below W5.heap.size W5 W)
        (fun cc pre W => (cc = .ret ∧ ∃ pre0 x, pre = pre0 ++ [x] ∧ noNews u pre0 ∧ ntNews x.2.2 u = true ∧ Blk W (w.heap.size + 1 + 1) 3 #[.int .i64 (x.1 : Int)] ∧ Blk W (w.heap.size + 1 + 1 + 1) 27 #[.int .i64 0]) ∧ Below w.heap.size w W)
        (OwnFrom.and (Own.from (fun s X Y row hs hg hr => hs) _) (ownFrom_below (Nat.le_refl _) (Nat.le_refl _)))
        (fun cc => OwnFrom.and (Own.from (fun s X Y row hs hg hr => by
          obtain ⟨h1, pre0, x, h2, h3, h4, h5, h6⟩ := hs
          exact ⟨h1, pre0, x, h2, h3, h4, blkG_kept h5 hg hr, blkG_kept h6 hg hr⟩) _) (ownFrom_below (Nat.le_refl _) (by omega)))
        ⟨fun x hx => (by cases hx), Below.refl _ _⟩
        (fun x a₁ V => ∃ Bs, Blk V Bs 38 x.2.1.val ∧ egT x V ∧ a₁ = { tmps := #[.agg (LV.val ⟨A, n, c, D, m, d⟩ su), .slice E p f, .pointer (some ⟨w.heap.size, 0, none⟩), .pointer (some ⟨w.heap.size + 1, 0, none⟩), .pointer (some ⟨w.heap.size + 1 + 1, 0, none⟩), .pointer (some ⟨w.heap.size + 1 + 1 + 1, 0, none⟩), .int .i64 (x.1 : Int), .pointer (some ⟨Bs, 0, none⟩), .agg #[.slice A n c, .slice D m d, .int .i64 su], .bool true, .bool false, .slice E p f, .pointer (some ⟨w.heap.size, 0, none⟩), .slice A n c, .bool true, .bool false, .agg #[.slice A n c, .slice D m d, .int .i64 su], .func (.func 17) #[] #[.pointer (some ⟨w2.heap.size, 0, none⟩), .pointer (some ⟨w2.heap.size + 1, 0, none⟩)], .int .i64 (x.1 : Int), .agg x.2.1.val, undef, undef, undef, undef, undef, undef, undef], defers := [] }) (fun a₁ x X Y row hs hg hr => by
          obtain ⟨Bs, h1, h2, h3⟩ := hs
          exact ⟨Bs, blkG_kept h1 hg (fun r e => (hr r e).2), egT_kept h2 hg (fun r e => (hr r e).2), h3⟩) ?assign ?body ?done ?stop
      case assign =>
        rintro lp pre x W K ⟨hI, hB⟩ hT hK
        obtain ⟨i, ⟨P1, p1, q1, P2, p2, q2, P3, p3, q3, P4, p4, q4⟩, y⟩ := x
        dsimp only [evsG]
        gi_wp2
        have hbA : Below W.heap.size W (W.alloc (.cells (NV.val ⟨P1, p1, q1, P2, p2, q2, P3, p3, q3, P4, p4, q4⟩) 38)) := (Below.refl _ _).alloc (Nat.le_refl _) _
        exact hK _ _ ((KeepsOthers.alloc _ _).from _) (fun g => g.go hbA) ⟨hI, below_then hB (Nat.le_refl _) hbA⟩ ⟨W.heap.size, Blk.new W _ _, NtRd.go hT hbA, rfl⟩
      case body =>
        rintro lp pre x a₁ W hlp ⟨hI, hB⟩ ⟨Bs, hX, hT, rfl⟩ hlt
        have k := below_then HK5.out (Nat.le_refl _) hB
        have kw := below_then HBW5.out (Nat.le_refl _) hB
        have hT' : NtRd W W.heap.size x.2.1 x.2.2 := hT
        have HX := Lib.hid (fun (h : ntNews x.2.2 u = false) => (show noNews u (pre ++ [x]) from fun z hz => by
          rcases List.mem_append.1 hz with hz | hz
          · exact hI z hz
          · rw [List.mem_singleton] at hz; rw [hz]; exact h))
        obtain ⟨y, hy⟩ : ∃ y, y = x := ⟨_, rfl⟩
        have HY := Lib.hid hy
        clear hy
        obtain ⟨i, ⟨P1, p1, q1, P2, p2, q2, P3, p3, q3, P4, p4, q4⟩, z⟩ := x
        have G4 := Lib.hid (news_any ⟨P1, p1, q1, P2, p2, q2, P3, p3, q3, P4, p4, q4⟩ z E p f u W (HT.out.below kw) hT' HL.out (HR.out.go kw))
        have x0 := hX.cell 0
        have x1 := hX.cell 1
        have x2 := hX.cell 2
        have x3 := hX.cell 3
        obtain ⟨_, y3, ⟨y4, f4⟩, ⟨y5, f5⟩⟩ := HQ.out _ k
        have HBB := Lib.hid hB
        have HK := Lib.hid k
        have HKW := Lib.hid kw
        have HI := Lib.hid hI
        clear hT hT' hX k kw hB hI y4 f4 y5 f5
        gi_wp2_with fail
        refine ⟨trivial, ?_⟩
        refine (callsIn_wide.2 G4.out).mono ?_
        rintro e V ⟨rfl, hb'⟩
        have k := below_then HK.out (Nat.le_refl _) hb'
        obtain ⟨_, _, ⟨y4, f4⟩, ⟨y5, f5⟩⟩ := HQ.out _ k
        have HB' := Lib.hid hb'
        have HK' := Lib.hid k
        clear hb' k x0 x1 x2 x3 y3
        rcases hz : ntNews z u with _ | _
        · have HNO := Lib.hid (HX.out hz)
          clear hz
          gi_wp2
          exact ⟨(keeps_belowG HB'.out).from _, fun g => g.go HB'.out, HNO.out, below_then HBB.out (Nat.le_refl _) HB'.out⟩
        · have HYE := Lib.hid hz
          clear hz
          gi_wp2
          obtain ⟨h1, h2, h3⟩ := HST.out _ HK'.out i 0
          exact ⟨(((keeps_belowG HB'.out).trans (KeepsOthers.setCell _ _ _)).trans (KeepsOthers.setCell _ _ _)).from _, ⟨rfl, pre, _, rfl, HI.out, HYE.out, h2, h3⟩, h1⟩
      case done =>
        rintro E' ys W hD hys ⟨hI, hB⟩ hK
        have hys' : saidG ys = evD 0 (nts L) := by rw [← HEV.out]; exact hys
        have HP := Lib.hid (show plW u (nts L) = m from by
          obtain ⟨h1, h2⟩ := said_no (by rw [hys']; exact List.prefix_refl _) hI
          have h3 : ys.length = (nts L).length := by rw [← saidG_len, hys', evD_len]
          have h4 := plW_pre ys.length (nts L) h2 h1
          have h5 : L.length = m := HH.out.ns.len
          rw [h4, plW_end (by omega), h3, nts_len]; omega)
        have k := below_then HK5.out (Nat.le_refl _) hB
        obtain ⟨⟨y0, y1, y2⟩, y3, ⟨y4, f4⟩, ⟨y5, f5⟩⟩ := HQ.out _ k
        have HK := Lib.hid k
        clear hys hys' hI hB k
        gi_wp2
        obtain ⟨h1, h2, h3⟩ := HST.out _ HK.out m 0
        have hK' := ((KeepsOthers.setCell W ⟨w.heap.size + 1 + 1, 0, none⟩ (.int .i64 (m : Int))).trans (KeepsOthers.setCell _ ⟨w.heap.size + 1 + 1 + 1, 0, none⟩ (.int .i64 0))).same E' _ hK rfl
        refine ⟨by simp, .inl ⟨_, _, rfl, run_takeDeferred hK', ?_⟩⟩
        have h2' := blkG_kept h2 (grownBy_putObj' _ E' (.deferred none)) (fun r e => by cases e; exact ⟨_, hK', rfl⟩)
        have h3' := blkG_kept h3 (grownBy_putObj' _ E' (.deferred none)) (fun r e => by cases e; exact ⟨_, hK', rfl⟩)
        exact ⟨_, results_two_cells rfl _ _ ⟨w.heap.size + 1 + 1, 0, none⟩ ⟨w.heap.size + 1 + 1 + 1, 0, none⟩ _ _ rfl rfl (HLD.out _ _ _ h2') (HLD2.out _ _ _ h3'), by rw [HN.out, HP.out], h1.trans (belowK_b (w := w) (Nat.le_refl _) _ E' _ _ (by omega) hK' rfl rfl)⟩
      case stop =>
        rintro E' c' pre W hD hpre ⟨⟨rfl, pre0, x, rfl, hno, hx, h2, h3⟩, hB⟩ hK
        rw [HEV.out] at hpre
        have HP := Lib.hid (show plW u (nts L) = x.1 from by
          have h4 : saidG pre0 <+: evD 0 (nts L) := by
            rw [saidG_snoc] at hpre
            exact (List.prefix_append _ _).trans hpre
          obtain ⟨h5, h6⟩ := said_no h4 hno
          obtain ⟨h7, h8⟩ := said_at hpre
          have h9 : pre0.length < (nts L).length := by
            rcases Nat.lt_or_ge pre0.length (nts L).length with h | h
            · exact h
            · rw [List.getElem?_eq_none h] at h7; cases h7
          rw [List.getElem?_eq_getElem h9, Option.some.injEq] at h7
          rw [plW_pre pre0.length (nts L) h6 h5, plW_hit h9 (by rw [h7]; exact hx)]; omega)
        have H2 := Lib.hid h2
        have H3 := Lib.hid h3
        have HB := Lib.hid hB
        clear hno hx hpre h2 h3 hB
        gi_wp2
        refine ⟨by simp, .inl ⟨_, _, rfl, run_takeDeferred hK, ?_⟩⟩
        have h2' := blkG_kept H2.out (grownBy_putObj' _ E' (.deferred none)) (fun r e => by cases e; exact ⟨_, hK, rfl⟩)
        have h3' := blkG_kept H3.out (grownBy_putObj' _ E' (.deferred none)) (fun r e => by cases e; exact ⟨_, hK, rfl⟩)
        exact ⟨_, results_two_cells rfl _ _ ⟨w.heap.size + 1 + 1, 0, none⟩ ⟨w.heap.size + 1 + 1 + 1, 0, none⟩ _ _ rfl rfl (HLD.out _ _ _ h2') (HLD2.out _ _ _ h3'), by rw [HN.out, HP.out], HB.out.trans (belowK_b (w := w) (Nat.le_refl _) _ E' _ _ (by omega) hK rfl rfl)⟩
end Go.Proofs.YtepdcbhapjgijaaDoor

namespace Go.Proofs.YtepdcbhapjgijaaDoor
open Go.RowKit
set_option maxRecDepth 100000

theorem lgR_congr {b : List Vc.St} {L M : List (NV × Nt)} {su : Int} (h : nts L = nts M) : lgR b L su = lgR b M su := by
  unfold lgR
  rw [h, show L.length = M.length by rw [← nts_len, h, nts_len]]
theorem lgP_congr {b : List Vc.St} {L M : List (NV × Nt)} {su : Int} {u : List Vc.St} (h : nts L = nts M) : lgP b L su u = lgP b M su u := by
  unfold lgP; rw [lgR_congr h, h]
theorem kn_congr {b : List Vc.St} {L M : List (NV × Nt)} {su : Int} (h : nts L = nts M) : kn b L su = kn b M su := by
  unfold kn; rw [lgR_congr h, h]
theorem appE_congr {b : List Vc.St} {L M : List (NV × Nt)} {su : Int} {x : Nt} (h : nts L = nts M) : appE b L su x = appE b M su x := by
  unfold appE; rw [lgR_congr h, h]
theorem knownR_kn {w w' : World} {b : List Vc.St} {L : List (NV × Nt)} {su : Int} {e : Ending} (h : KnownR w b L su e w') : ∃ K kc, e = .returned (.slice K (kn b L su).length kc) ∧ Rd w' w'.heap.size 2 K (kn b L su).length kc (sv (kn b L su)) ∧ Below w.heap.size w w' := by
  rcases h with ⟨h1, q, K, kc, h2, h3, h4, h5⟩ | ⟨h1, h2, h3⟩
  · have : kn b L su = q := by unfold kn; rw [if_pos h1, h2]; rfl
    rw [this]; exact ⟨K, kc, h3, h4, h5⟩
  · have : kn b L su = [] := by unfold kn; rw [if_neg (by rw [h1]; simp)]
    rw [this]; exact ⟨none, 0, h2, Rd.none_, h3⟩
/-- What is appended is a log. -/
theorem app_formed {b : List Vc.St} {L L' : List (NV × Nt)} {su : Int} {x : Nt} (h : appE b L su x = 0) (hn : nts L' = nts L ++ [x]) : lgR b L' su = true := by
  unfold appE at h
  rcases hr : lgR b L su with _ | _
  · rw [hr] at h; simp at h
  · rcases hf : ntF x with _ | _
    · rw [hf] at h; simp at h
    · obtain ⟨hfm, q, hq⟩ := lgR_some hr
      rw [hr, hf, hq] at h
      rcases ht : ntFits x q with _ | _
      · have h : (if ntFits x q = true then (0 : Int) else 3) = 0 := h
        rw [ht] at h; simp at h
      · have hs : 0 ≤ su ∧ su ≤ L.length := by
          simp only [lgR, Bool.and_eq_true, decide_eq_true_eq] at hr
          exact ⟨hr.2.1, hr.2.2.1⟩
        have hl : L'.length = L.length + 1 := by rw [← nts_len, hn, List.length_append, nts_len]; rfl
        unfold lgR
        rw [hfm, hn, lgW_app hq hf ht, decide_eq_true hs.1, decide_eq_true (by rw [hl]; omega)]; rfl

def aX : Nt := ⟨[(1, 0)], [(2, 0)], [], []⟩
def aL : List (NV × Nt) := [(NV0, aX)]
theorem alive_e : appE [(1, 0)] [] 0 aX = 0 := by decide +kernel
theorem alive_p : lgP [(1, 0)] aL 0 [(2, 0)] = (1, 0) := by decide +kernel
theorem alive_k : (kn [(1, 0)] aL 0).length = 1 := by decide +kernel

set_option maxHeartbeats 8000000 in
theorem aliveL_any (w : World) (hT : Tab w) :
    Calls Tryd.prog 4 #[] w fun e w' => e = .returned (.bool true) ∧ Below w.heap.size w w' := by
  have h1max : 1 ≤ maxLen := by unfold maxLen; omega
  have hzl : ∀ W : World, (zeroValue 25).run Tryd.prog W = .ok (.agg #[.slice none 0 0, .slice none 0 0, .int .i64 0]) W := fun _ => by kernel_rfl
  have hzn : ∀ W : World, (zeroValue 38).run Tryd.prog W = .ok (.agg #[.slice none 0 0, .slice none 0 0, .slice none 0 0, .slice none 0 0]) W := fun _ => by kernel_rfl
  have hzs : ∀ W : World, (zeroValue 47).run Tryd.prog W = .ok (.agg #[.int .i64 0, .int .i64 0]) W := fun _ => by kernel_rfl
  have hb1 : Below w.heap.size w (w.alloc (.cells #[.int .i64 1, .int .i64 0] 47)) := (Below.refl _ _).alloc (Nat.le_refl _) _
  have hb2 : Below w.heap.size w ((w.alloc (.cells #[.int .i64 1, .int .i64 0] 47)).alloc (.cells #[.int .i64 1, .int .i64 0] 47)) := hb1.alloc hb1.size _
  have hb3 : Below w.heap.size w (((w.alloc (.cells #[.int .i64 1, .int .i64 0] 47)).alloc (.cells #[.int .i64 1, .int .i64 0] 47)).alloc (.cells #[.int .i64 2, .int .i64 0] 47)) := hb2.alloc hb2.size _
  have s1 : At (w.alloc (.cells #[.int .i64 1, .int .i64 0] 47)) 2 (some ⟨w.heap.size, 0, none⟩) 1 1 (sv [(1, 0)]) := newRow 2 1 ((Below.refl _ w).alloc (Nat.le_refl _) _) rfl h1max
  have s2 : At ((w.alloc (.cells #[.int .i64 1, .int .i64 0] 47)).alloc (.cells #[.int .i64 1, .int .i64 0] 47)) 2 (some ⟨w.heap.size + 1, 0, none⟩) 1 1 (sv [(1, 0)]) := by
    have := newRow (W := w.alloc (.cells #[.int .i64 1, .int .i64 0] 47)) (t := 47) (cs := #[.int .i64 1, .int .i64 0]) 2 1 ((Below.refl _ _).alloc (Nat.le_refl _) _) rfl h1max
    unfold At; simp only [World.size_alloc] at this ⊢; exact this
  have s3 : At (((w.alloc (.cells #[.int .i64 1, .int .i64 0] 47)).alloc (.cells #[.int .i64 1, .int .i64 0] 47)).alloc (.cells #[.int .i64 2, .int .i64 0] 47)) 2 (some ⟨w.heap.size + 1 + 1, 0, none⟩) 1 1 (sv [(2, 0)]) := by
    have := newRow (W := (w.alloc (.cells #[.int .i64 1, .int .i64 0] 47)).alloc (.cells #[.int .i64 1, .int .i64 0] 47)) (t := 47) (cs := #[.int .i64 2, .int .i64 0]) 2 1 ((Below.refl _ _).alloc (Nat.le_refl _) _) rfl h1max
    unfold At; simp only [World.size_alloc] at this ⊢; exact this
  have s2 := s2.go (then_alloc hb2 (.cells #[.int .i64 2, .int .i64 0] 47))
  have s1 := (s1.go (then_alloc hb1 (.cells #[.int .i64 1, .int .i64 0] 47))).go (then_alloc hb2 (.cells #[.int .i64 2, .int .i64 0] 47))
  obtain ⟨W, hW⟩ : ∃ W, W = ((w.alloc (.cells #[.int .i64 1, .int .i64 0] 47)).alloc (.cells #[.int .i64 1, .int .i64 0] 47)).alloc (.cells #[.int .i64 2, .int .i64 0] 47) := ⟨_, rfl⟩
  rw [← hW] at s1 s2 s3 hb3
  have f1 := lgAppend_any ⟨some ⟨w.heap.size, 0, none⟩, 1, 1, none, 0, 0⟩ [(1, 0)] [] 0 ⟨some ⟨w.heap.size + 1, 0, none⟩, 1, 1, some ⟨w.heap.size + 1 + 1, 0, none⟩, 1, 1, none, 0, 0, none, 0, 0⟩ aX W (hT.below hb3)
    ⟨rfl, s1, ⟨rfl, Rd.none_, fun p hp => by cases hp⟩⟩ ⟨by show (1 : Nat) ≤ _; omega, by show (0 : Nat) ≤ _; omega, fun p hp => by cases hp⟩ ⟨rfl, s2, rfl, s3, rfl, Rd.none_, rfl, Rd.none_⟩ ⟨by show (1 : Nat) ≤ _; omega, by show (1 : Nat) ≤ _; omega, by show (0 : Nat) ≤ _; omega, by show (0 : Nat) ≤ _; omega⟩
  unfold AppP at f1
  rw [alive_e, show appS 0 0 = (0 : Int) from rfl] at f1
  have H1 := Lib.hid f1
  have HT := Lib.hid hT
  have HB3 := Lib.hid hb3
  have HW := Lib.hid hW.symm
  clear f1 s1 s2 s3 hb1 hb2 hb3 hT hW
  go_enter Tryd.func4, Tryd.ntmps4
  go_wp2_with fail
  rw [HW.out]
  refine H1.out.mono ?_
  rintro e w1 ⟨⟨A, n, c, D, m, d⟩, L', rfl, hL, hn, hb⟩
  have hn : nts L' = nts aL := hn
  have hL : LgRd w1 ⟨A, n, c, D, m, d⟩ [(1, 0)] L' := hL
  have e1 : 1 = n := hL.l1
  have e2 : L'.length = m := hL.ns.len
  have e3 : L'.length = 1 := by rw [← nts_len, hn]; rfl
  obtain rfl : n = 1 := e1.symm
  obtain rfl : m = 1 := by omega
  have hsz : LgSz ⟨A, 1, c, D, 1, d⟩ L' := ⟨by show (1 : Nat) ≤ _; omega, by show (1 : Nat) ≤ _; omega, fun p hp => by
    obtain ⟨i, hi, rfl⟩ := List.getElem_of_mem hp
    have hx : L'[i].2 = aX := by
      rw [← nts_at L' i hi]
      have h2 : (nts L')[i]'(by rw [nts_len]; exact hi) = (nts aL)[i]'(by rw [← hn, nts_len]; exact hi) := List.getElem_of_eq hn _
      obtain rfl : i = 0 := by omega
      rw [h2]; rfl
    have r := hL.ns.each _ (List.getElem_mem hi)
    rw [hx] at r
    exact ⟨by rw [← r.l1]; decide, by rw [← r.l2]; decide, by rw [← r.l3]; decide, by rw [← r.l4]; decide⟩⟩
  have hbw := below_then HB3.out (Nat.le_refl _) hb
  have hkA : Below w1.heap.size w1 (w1.alloc (.cells #[.slice A 1 c, .slice D 1 d, .int .i64 0] 25)) := (Below.refl _ _).alloc (Nat.le_refl _) _
  have hX := Blk.new w1 25 #[.slice A 1 c, .slice D 1 d, .int .i64 0]
  have s4 : At ((w1.alloc (.cells #[.slice A 1 c, .slice D 1 d, .int .i64 0] 25)).alloc (.cells #[.int .i64 2, .int .i64 0] 47)) 2 (some ⟨w1.heap.size + 1, 0, none⟩) 1 1 (sv [(2, 0)]) := by
    have := newRow (W := w1.alloc (.cells #[.slice A 1 c, .slice D 1 d, .int .i64 0] 25)) (t := 47) (cs := #[.int .i64 2, .int .i64 0]) 2 1 ((Below.refl _ _).alloc (Nat.le_refl _) _) rfl h1max
    unfold At; simp only [World.size_alloc] at this ⊢; exact this
  have hk2 := hkA.alloc hkA.size (.cells #[.int .i64 2, .int .i64 0] 47)
  have hX2 := hX.alloc (.cells #[.int .i64 2, .int .i64 0] 47)
  obtain ⟨W2, hW2⟩ : ∃ W2, W2 = (w1.alloc (.cells #[.slice A 1 c, .slice D 1 d, .int .i64 0] 25)).alloc (.cells #[.int .i64 2, .int .i64 0] 47) := ⟨_, rfl⟩
  rw [← hW2] at hk2 hX2 s4
  have hbw2 := below_then hbw (Nat.le_refl _) hk2
  have hL2 := hL.go hk2
  have f2 := lgPlace_any ⟨A, 1, c, D, 1, d⟩ [(1, 0)] L' 0 (some ⟨w1.heap.size + 1, 0, none⟩) 1 1 [(2, 0)] W2 (HT.out.below hbw2) hL2 hsz rfl s4
  rw [lgP_congr hn, alive_p] at f2
  have H2 := Lib.hid f2
  have H3 := Lib.hid fun (V : World) (hv : Below W2.heap.size W2 V) => lgKnown_any ⟨A, 1, c, D, 1, d⟩ [(1, 0)] L' 0 V ((HT.out.below hbw2).below hv) (hL2.go hv)
  have HX := Lib.hid hX2
  have HB := Lib.hid hbw2
  have HW2 := Lib.hid hW2.symm
  have HK := Lib.hid (show (kn [(1, 0)] L' 0).length = 1 by rw [kn_congr hn]; exact alive_k)
  clear f2 hn hL e1 e2 e3 hsz hbw hkA hX s4 hk2 hX2 hW2 hbw2 hL2 hb H1
  go_wp2_with fail
  rw [HW2.out]
  refine H2.out.mono ?_
  rintro e w3 ⟨rfl, hb3⟩
  have q0 := (HX.out.go hb3).cell 0
  have q1 := (HX.out.go hb3).cell 1
  have q2 := (HX.out.go hb3).cell 2
  have HB3' := Lib.hid hb3
  clear hb3
  go_wp2_with fail
  refine ((H3.out w3 HB3'.out).mono fun _ _ h => knownR_kn (knownP_R h)).mono ?_
  rintro e w4 ⟨K, kc, rfl, hR, hb4⟩
  rw [HK.out]
  have HB4 := Lib.hid (below_then HB.out (Nat.le_refl _) (below_then HB3'.out (Nat.le_refl _) hb4))
  clear hR hb4 q0 q1 q2
  go_wp2
  go_ret
  exact ⟨rfl, HB4.out⟩


end Go.Proofs.YtepdcbhapjgijaaDoor

