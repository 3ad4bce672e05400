/- Logs as values; plain law of the walk over a log; walk: invlog.walk. -/
import Derived.Test.YtldcgmnfohhjbaaDoorNtC
namespace Go.Proofs.YtldcgmnfohhjbaaDoor
open Go.RowKit
set_option maxRecDepth 100000

/-- What is known behind notes; none: a note isn't as it must be. -/
def lgW : List Vc.St → List Nt → Option (List Vc.St)
  | k, [] => some k
  | k, x :: r => if (ntF x && ntFits x k) = true then lgW (vec (jn [k, x.e])) r else none
theorem lgW_end {k : List Vc.St} {l : List Nt} {i : Nat} (h : l.length ≤ i) : lgW k (l.drop i) = some k := by rw [List.drop_of_length_le h]; rfl
theorem lgW_no {k : List Vc.St} {l : List Nt} {i : Nat} (h : i < l.length) (hf : (ntF l[i] && ntFits l[i] k) = false) : lgW k (l.drop i) = none := by
  rw [List.drop_eq_getElem_cons h, lgW, hf]; rfl
theorem lgW_next {k : List Vc.St} {l : List Nt} {i : Nat} (h : i < l.length) (hf : (ntF l[i] && ntFits l[i] k) = true) : lgW k (l.drop i) = lgW (vec (jn [k, l[i].e])) (l.drop (i + 1)) := by
  rw [List.drop_eq_getElem_cons h, lgW, if_pos hf]

/-- Notes as cells. -/
def nvv (L : List (NV × Nt)) : List Value := L.flatMap fun p => p.1.val.toList
theorem nvv_at (L : List (NV × Nt)) (k : Nat) (h : k < L.length) (j : Nat) (hj : j < 4) : (nvv L)[k * 4 + j]? = ((L[k].1.val).toList)[j]? := flat_at (fun p : NV × Nt => p.1.val.toList) 4 (by decide) L (fun _ _ => rfl) k h j hj
/-- A slice of notes. -/
structure RdNs (w : World) (B : Nat) (A : Option Addr) (n c : Nat) (L : List (NV × Nt)) : Prop where
  len : L.length = n
  rd : Rd w B 4 A n c (nvv L)
  each : ∀ p ∈ L, NtRd w B p.1 p.2
theorem RdNs.go {w w' : World} {A : Option Addr} {n c : Nat} {L : List (NV × Nt)} (h : RdNs w w.heap.size A n c L) (hb : Below w.heap.size w w') : RdNs w' w'.heap.size A n c L := ⟨h.len, h.rd.go hb, fun p hp => (h.each p hp).go hb⟩
theorem RdNs.note {w : World} {B n c k : Nat} {A : Option Addr} {L : List (NV × Nt)} (h : RdNs w B A n c L) (hk : k < L.length) :
    ∃ b o, A = some ⟨b, o, none⟩ ∧ b < B ∧ w.cell? ⟨b, o + k * 4, none⟩ = some (.slice L[k].1.A1 L[k].1.n1 L[k].1.c1) ∧ w.cell? ⟨b, o + k * 4 + 1, none⟩ = some (.slice L[k].1.A2 L[k].1.n2 L[k].1.c2) ∧
      w.cell? ⟨b, o + k * 4 + 2, none⟩ = some (.slice L[k].1.A3 L[k].1.n3 L[k].1.c3) ∧ w.cell? ⟨b, o + k * 4 + 3, none⟩ = some (.slice L[k].1.A4 L[k].1.n4 L[k].1.c4) := by
  have hl := h.len
  obtain ⟨b, o, rfl, hb, hc⟩ := h.rd.plain (by omega) (by decide)
  have e : ∀ j, j < 4 → ∀ u, ((L[k].1.val).toList)[j]? = some u → w.cell? ⟨b, o + k * 4 + j, none⟩ = some u := fun j hj u hu => by
    rw [Nat.add_assoc]
    exact hc (k * 4 + j) u (by rw [nvv_at L k hk j hj, hu])
  exact ⟨b, o, rfl, hb, e 0 (by decide) _ rfl, e 1 (by decide) _ rfl, e 2 (by decide) _ rfl, e 3 (by decide) _ rfl⟩
def nts (L : List (NV × Nt)) : List Nt := L.map (·.2)

/-- A log's value. -/
structure LV where
  A : Option Addr
  n : Nat
  c : Nat
  D : Option Addr
  m : Nat
  d : Nat
abbrev LV.val (v : LV) (su : Int) : Array Value := #[.slice v.A v.n v.c, .slice v.D v.m v.d, .int .i64 su]
/-- A value reads as a log: its base, its notes. -/
structure LgRd (w : World) (v : LV) (b : List Vc.St) (L : List (NV × Nt)) : Prop where
  l1 : b.length = v.n
  r1 : Rd w w.heap.size 2 v.A v.n v.c (sv b)
  ns : RdNs w w.heap.size v.D v.m v.d L
theorem LgRd.go {w w' : World} {v : LV} {b : List Vc.St} {L : List (NV × Nt)} (h : LgRd w v b L) (hb : Below w.heap.size w w') : LgRd w' v b L := ⟨h.l1, h.r1.go hb, h.ns.go hb⟩

theorem RdL.one {w : World} {A : Option Addr} {n c : Nat} {u : List Vc.St} (hl : u.length = n) (hR : Rd w w.heap.size 2 A n c (sv u)) (t : TypeId) :
    RdL (w.alloc (.cells #[.slice A n c] t)) (w.alloc (.cells #[.slice A n c] t)).heap.size (some ⟨w.heap.size, 0, none⟩) 1 1 [u] := by
  have hb : Below w.heap.size w (w.alloc (.cells #[.slice A n c] t)) := (Below.refl _ _).alloc (Nat.le_refl _) _
  have hB := Blk.new w t #[.slice A n c]
  refine ⟨rfl, Nat.le_refl _, by simp [maxLen], (fun h => by cases h), fun k hk => ?_⟩
  rcases k with _ | k
  · exact ⟨w.heap.size, 0, A, n, c, rfl, by simp, hB.cell 0, hl, hR.go hb⟩
  · simp only [List.length_cons, List.length_nil] at hk; omega
/-- vector.Join of one, of two; what comes is read. -/
theorem join1_any (A : Option Addr) (n c : Nat) (u : List Vc.St) (W : World) (hT : Tab W) (hl : u.length = n) (hR : Rd W W.heap.size 2 A n c (sv u)) :
    Calls Tryd.prog 69 #[.slice (some ⟨W.heap.size, 0, none⟩) 1 1] (W.alloc (.cells #[.slice A n c] 22)) fun e w' => ∃ A' c', e = .returned (.slice A' (vec (jn [u])).length c') ∧ Rd w' w'.heap.size 2 A' (vec (jn [u])).length c' (sv (vec (jn [u]))) ∧ Below W.heap.size W w' := by
  have hb : Below W.heap.size W (W.alloc (.cells #[.slice A n c] 22)) := (Below.refl _ _).alloc (Nat.le_refl _) _
  refine (join_any _ 1 1 [u] _ (hT.below hb) (RdL.one hl hR 22)).mono ?_
  rintro e w1 ⟨A', c', rfl, ho, hb1⟩
  exact ⟨A', c', rfl, Rd.of_own ho, below_then hb (Nat.le_refl _) hb1⟩
theorem join2_any (A D : Option Addr) (n c m d : Nat) (u v : List Vc.St) (W : World) (hT : Tab W) (hl : u.length = n) (hl2 : v.length = m) (hR : Rd W W.heap.size 2 A n c (sv u)) (hR2 : Rd W W.heap.size 2 D m d (sv v)) :
    Calls Tryd.prog 69 #[.slice (some ⟨W.heap.size, 0, none⟩) 2 2] (W.alloc (.cells #[.slice A n c, .slice D m d] 22)) fun e w' => ∃ A' c', e = .returned (.slice A' (vec (jn [u, v])).length c') ∧ Rd w' w'.heap.size 2 A' (vec (jn [u, v])).length c' (sv (vec (jn [u, v]))) ∧ Below W.heap.size W w' := by
  have hb : Below W.heap.size W (W.alloc (.cells #[.slice A n c, .slice D m d] 22)) := (Below.refl _ _).alloc (Nat.le_refl _) _
  refine (join_any _ 2 2 [u, v] _ (hT.below hb) (RdL.two hl hl2 hR hR2 22)).mono ?_
  rintro e w1 ⟨A', c', rfl, ho, hb1⟩
  exact ⟨A', c', rfl, Rd.of_own ho, below_then hb (Nat.le_refl _) hb1⟩

/-- What invlog.walk hands back. -/
def WalkP (w : World) (b : List Vc.St) (L : List (NV × Nt)) (su : Int) (e : Ending) (w' : World) : Prop :=
  (∃ q K c, lgW (vec (jn [b])) (nts L) = some q ∧ e = .returned (.tuple #[.slice K q.length c, .bool (fm (-1) b && (decide (0 ≤ su) && decide (su ≤ L.length)))]) ∧ Rd w' w'.heap.size 2 K q.length c (sv q) ∧ Below w.heap.size w w') ∨
  (lgW (vec (jn [b])) (nts L) = none ∧ e = .returned (.tuple #[.slice none 0 0, .bool false]) ∧ Below w.heap.size w w')

set_option maxHeartbeats 8000000 in
theorem lgWalk_any (v : LV) (b : List Vc.St) (L : List (NV × Nt)) (su : Int) (w : World) (hT : Tab w) (h : LgRd w v b L) :
    Calls Tryd.prog 62 #[.agg (v.val su)] w (WalkP w b L su) := by
  obtain ⟨A, n, c, D, m, d⟩ := v
  have hb0 : Below w.heap.size w (w.alloc (.cells (LV.val ⟨A, n, c, D, m, d⟩ su) 47)) := (Below.refl _ _).alloc (Nat.le_refl _) _
  have hBx := Blk.new w 47 (LV.val ⟨A, n, c, D, m, d⟩ su)
  obtain ⟨w0, hw0⟩ : ∃ w0, w0 = w.alloc (.cells (LV.val ⟨A, n, c, D, m, d⟩ su) 47) := ⟨_, rfl⟩
  rw [← hw0] at hb0 hBx
  have HT := Lib.hid (hT.below hb0)
  have HH := Lib.hid (h.go hb0)
  have hl1 : b.length = n := h.l1
  have hln : L.length = m := h.ns.len
  have hmax : m ≤ 9223372036854775807 := by have h1 := h.ns.rd.cap; have h2 := h.ns.rd.max; unfold maxLen at h2; dsimp only at h1 h2; omega
  obtain ⟨r0, hr0⟩ : ∃ r0, r0 = vec (jn [b]) := ⟨_, rfl⟩
  obtain ⟨p0, hp0⟩ : ∃ p0, p0 = r0.length := ⟨_, rfl⟩
  have g0 := join1_any A n c b w0 HT.out hl1 HH.out.r1
  rw [← hr0, ← hp0] at g0
  have hs0 : w0.heap.size = w.heap.size + 1 := by rw [hw0]; simp
  rw [hs0] at g0
  have HS0 := Lib.hid hs0
  have G0 := Lib.hid g0
  have HR0 := Lib.hid hr0
  have HP0 := Lib.hid hp0
  have HB0 := Lib.hid hb0
  have HX := Lib.hid hBx
  have HW := Lib.hid hw0.symm
  have HL1 := Lib.hid hl1
  have HLN := Lib.hid hln
  have q0 := hBx.cell 0
  clear hT h hb0 hBx hw0 hl1 hln g0 hr0 hp0 hs0
  go_enter Tryd.func62, Tryd.ntmps62
  go_wp2_with fail
  rw [HW.out]
  refine G0.out.mono ?_
  rintro e w1 ⟨K0, k0, rfl, hR0, hb1⟩
  rw [← HS0.out] at hb1
  have q1 := (HX.out.go hb1).cell 1
  clear q0 G0
  go_wp2_with fail
  go_loopw [2, 5, 13] (fun v2 _ v13 wr => ∃ (i N kc : Nat) (K : Option Addr) (q : List Vc.St), v13 = .int .i64 i ∧ v2 = .slice K N kc ∧ i ≤ m ∧ Below w0.heap.size w0 wr ∧ Hid (q.length = N ∧ Rd wr wr.heap.size 2 K N kc (sv q) ∧ lgW q ((nts L).drop i) = lgW (vec (jn [b])) (nts L)))
    (fun _ _ v13 _ => m - (intOf v13).toNat)
  case atStart => exact ⟨0, p0, k0, K0, r0, rfl, rfl, Nat.zero_le _, hb1, HP0.out.symm, hR0, by rw [← HR0.out]; rfl⟩
  case round =>
    obtain ⟨i, N, kc, K, q, rfl, rfl, hi, hb, hq⟩ := hrel
    have hbs := hb.size
    by_cases hlt : i < m
    · have hkL : i < L.length := by rw [HLN.out]; exact hlt
      obtain ⟨bb, o, rfl, hab, g0, g1, g2, g3⟩ := (HH.out.go hb).ns.note hkL
      have hrd := (HH.out.go hb).ns.each _ (List.getElem_mem hkL)
      have hkS : i < (nts L).length := by simpa [nts] using hkL
      have hxe : (nts L)[i] = L[i].2 := by simp [nts]
      have hNo : (ntF (nts L)[i] && ntFits (nts L)[i] q) = false → lgW q ((nts L).drop i) = none := lgW_no hkS
      have hYes : (ntF (nts L)[i] && ntFits (nts L)[i] q) = true → lgW q ((nts L).drop i) = lgW (vec (jn [q, (nts L)[i].e])) ((nts L).drop (i + 1)) := lgW_next hkS
      rw [hxe] at hNo hYes
      rw [hq.out.2.2] at hNo hYes
      generalize L[i] = p at g0 g1 g2 g3 hrd hNo hYes hxe
      obtain ⟨⟨A1, n1, c1, A2, n2, c2, A3, n3, c3, A4, n4, c4⟩, x⟩ := p
      dsimp only at g0 g1 g2 g3 hrd hNo hYes
      have hbA : Below wr.heap.size wr (wr.alloc (.cells #[.slice A1 n1 c1, .slice A2 n2 c2, .slice A3 n3 c3, .slice A4 n4 c4] 32)) := (Below.refl _ _).alloc (Nat.le_refl _) _
      have hX := Blk.new wr 32 #[.slice A1 n1 c1, .slice A2 n2 c2, .slice A3 n3 c3, .slice A4 n4 c4]
      obtain ⟨W, hW⟩ : ∃ W, W = wr.alloc (.cells #[.slice A1 n1 c1, .slice A2 n2 c2, .slice A3 n3 c3, .slice A4 n4 c4] 32) := ⟨_, rfl⟩
      rw [← hW] at hbA hX
      have hbW := below_then hb (Nat.le_refl _) hbA
      have F1 := Lib.hid fun (V : World) (hv : Below W.heap.size W V) => noteFormed_any ⟨A1, n1, c1, A2, n2, c2, A3, n3, c3, A4, n4, c4⟩ x V ((HT.out.below hbW).below hv) ((hrd.go hbA).go hv)
      have F2 := Lib.hid fun (V : World) (hv : Below W.heap.size W V) => fits_any ⟨A1, n1, c1, A2, n2, c2, A3, n3, c3, A4, n4, c4⟩ x K N kc q V ((HT.out.below hbW).below hv) ((hrd.go hbA).go hv) hq.out.1 ((hq.out.2.1.go hbA).go hv)
      have f3 := fun (V : World) (hv : Below W.heap.size W V) => join2_any K A2 N kc n2 c2 q x.e V ((HT.out.below hbW).below hv) hq.out.1 hrd.l2 ((hq.out.2.1.go hbA).go hv) ((hrd.go hbA).go hv).r2
      obtain ⟨r2, hr2⟩ : ∃ r2, r2 = vec (jn [q, x.e]) := ⟨_, rfl⟩
      obtain ⟨p2, hp2⟩ : ∃ p2, p2 = r2.length := ⟨_, rfl⟩
      rw [← hr2, ← hp2] at f3
      rw [← hr2] at hYes
      have F3 := Lib.hid f3
      have HP2 := Lib.hid hp2
      have HWA := Lib.hid hW.symm
      have HX2 := Lib.hid hX
      have HNO := Lib.hid hNo
      have HYES := Lib.hid hYes
      have HBW := Lib.hid hbW
      clear hW hX hNo hYes hrd hxe hkS hkL hbA hbW hbs f3 hr2 hp2
      go_wp2_with fail
      rw [HWA.out]
      refine (F1.out W (Below.refl _ _)).mono ?_
      rintro e W1 ⟨rfl, hk1⟩
      rcases hf1 : ntF x with _ | _
      · have HN := Lib.hid (HNO.out (by rw [hf1]; rfl))
        have HB := Lib.hid (below_then HB0.out (by have := HS0.out; omega) (below_then HBW.out (Nat.le_refl _) hk1))
        clear hk1 hf1
        go_wp2
        go_ret2
        exact .inr ⟨HN.out, rfl, HB.out⟩
      · have e0 := (HX2.out.go hk1).cell 0
        have e1 := (HX2.out.go hk1).cell 1
        have e2 := (HX2.out.go hk1).cell 2
        have e3 := (HX2.out.go hk1).cell 3
        rw [hf1] at HNO HYES
        go_wp2_with fail
        refine (F2.out W1 hk1).mono ?_
        rintro e W2 ⟨rfl, hk2⟩
        have hk := below_then hk1 (Nat.le_refl _) hk2
        rcases hf2 : ntFits x q with _ | _
        · have HN := Lib.hid (HNO.out (by rw [hf2]; rfl))
          have HB := Lib.hid (below_then HB0.out (by have := HS0.out; omega) (below_then HBW.out (Nat.le_refl _) hk))
          clear hk1 hk2 hk hf1 hf2 e0 e1 e2 e3
          go_wp2
          go_ret2
          exact .inr ⟨HN.out, rfl, HB.out⟩
        · have HY := Lib.hid (HYES.out (by rw [hf2]; rfl))
          clear e0 e1 e2 e3
          have e1 := (HX2.out.go hk).cell 1
          have HK := Lib.hid hk
          clear hk1 hk2 hf1 hf2 hk
          go_wp2_with fail
          refine (F3.out W2 HK.out).mono ?_
          rintro e W3 ⟨K', k', rfl, hR3, hk3⟩
          go_wp2
          go_roundw
          case rel => exact ⟨i + 1, p2, k', K', r2, by go_num, rfl, by omega, below_then HBW.out (Nat.le_refl _) (below_then HK.out (Nat.le_refl _) hk3), HP2.out.symm, hR3, HY.out.symm⟩
          case measure => simp [intOf]; omega
    · have hdr : (nts L).length ≤ i := by simp only [nts, List.length_map]; rw [HLN.out]; omega
      have HD := Lib.hid (show lgW (vec (jn [b])) (nts L) = some q by rw [← hq.out.2.2]; exact lgW_end hdr)
      obtain ⟨rfl, hR, _⟩ := hq.out
      have HRQ := Lib.hid fun (V : World) (hv : Below wr.heap.size wr V) => hR.go hv
      have G := Lib.hid fun (V : World) (hv : Below wr.heap.size wr V) => formed_any A n c b V HL1.out ((HH.out.go hb).go hv).r1
      have HQ := Lib.hid fun (W' : World) (hv : Below wr.heap.size wr W') => (show (W'.cell? ⟨w.heap.size, 0, none⟩ = some (.slice A n c) ∧ W'.cell? ⟨w.heap.size, 1, none⟩ = some (.slice D m d) ∧ W'.cell? ⟨w.heap.size, 2, none⟩ = some (.int .i64 su)) from ⟨((HX.out.go hb).go hv).cell 0, ((HX.out.go hb).go hv).cell 1, ((HX.out.go hb).go hv).cell 2⟩)
      have HB := Lib.hid (below_then HB0.out (by have := HS0.out; omega) hb)
      have kw : Below wr.heap.size wr wr.drew := (Below.refl _ wr).drew
      clear hdr hR hb hq
      rcases hf : fm (-1) b with _ | _
      · rw [hf] at G
        have HF := Lib.hid hf
        clear hf
        go_wp2_with fail
        refine region_nrm fun KK hKK => ?_
        refine wp_region_held_drew (S := (fun W' => W'.cell? ⟨w.heap.size, 0, none⟩ = some (.slice A n c) ∧ W'.cell? ⟨w.heap.size, 1, none⟩ = some (.slice D m d) ∧ W'.cell? ⟨w.heap.size, 2, none⟩ = some (.int .i64 su))) (by kernel_rfl) (by first | exact HQ.out _ kw) (fun hHeld => ?_)
        refine wpAnyH_putD (i := 0) (d := 32) (v := ?_) rfl rfl (by kernel_rfl) (by kernel_rfl) (by kernel_rfl) (fun _ _ _ h => h) (Or.inl ⟨by kernel_rfl, ?_⟩) (by first | exact HQ.out _ kw) ?_
        rotate_left
        · (intro w hS; (try dsimp only at hS); go_simp <;> with_reducible rfl)
        try simp only [List.setIfInBounds_toArray, List.set_cons_zero, List.set_cons_succ]
        refine wpAnyH_putD (i := 1) (d := 33) (v := ?_) rfl rfl (by kernel_rfl) (by kernel_rfl) (by kernel_rfl) (fun _ _ _ h => h) (Or.inl ⟨by kernel_rfl, ?_⟩) (by first | exact HQ.out _ kw) ?_
        rotate_left
        · (intro w hS; (try dsimp only at hS); go_simp <;> with_reducible rfl)
        try simp only [List.setIfInBounds_toArray, List.set_cons_zero, List.set_cons_succ]
        refine wpAnyH_putD (i := 2) (d := 34) (v := ?_) rfl rfl (by kernel_rfl) (by kernel_rfl) (by kernel_rfl) (fun _ _ _ h => h) (Or.inl ⟨by kernel_rfl, ?_⟩) (by first | exact HQ.out _ kw) ?_
        rotate_left
        · (intro w hS; (try dsimp only at hS); go_simp <;> with_reducible rfl)
        try simp only [List.setIfInBounds_toArray, List.set_cons_zero, List.set_cons_succ]
        refine wpAnyH_ready (rs := [3]) (by kernel_rfl) (by simp) ?_
        refine AllReadyH.cons rfl (fun K hK => ?_) AllReadyH.nil
        go_simp
        refine (G.out _ kw).mono ?_
        rintro e V ⟨rfl, hb'⟩
        have kw := below_then kw (Nat.le_refl _) hb'
        clear hb'
        refine hK.out _ _ (by first | exact HQ.out _ kw) (fun hHeld => ?_)
        clear hK K
        refine wpAnyH_putD (i := 4) (d := 36) (v := ?_) rfl rfl (by kernel_rfl) (by kernel_rfl) (by kernel_rfl) (fun _ _ _ h => h) (Or.inl ⟨by kernel_rfl, ?_⟩) (by first | exact HQ.out _ kw) ?_
        rotate_left
        · (intro w hS; (try dsimp only at hS); go_simp <;> with_reducible rfl)
        try simp only [List.setIfInBounds_toArray, List.set_cons_zero, List.set_cons_succ]
        refine wpAnyH_putD (i := 5) (d := 37) (v := undef) rfl rfl (by kernel_rfl) (by kernel_rfl) (by kernel_rfl) (fun _ _ _ h => h) (Or.inr ⟨by kernel_rfl, rfl⟩) (by first | exact HQ.out _ kw) ?_
        try simp only [List.setIfInBounds_toArray, List.set_cons_zero, List.set_cons_succ]
        refine wpAnyH_putD (i := 6) (d := 38) (v := undef) rfl rfl (by kernel_rfl) (by kernel_rfl) (by kernel_rfl) (fun _ _ _ h => h) (Or.inr ⟨by kernel_rfl, rfl⟩) (by first | exact HQ.out _ kw) ?_
        try simp only [List.setIfInBounds_toArray, List.set_cons_zero, List.set_cons_succ]
        refine wpAnyH_putD (i := 7) (d := 39) (v := undef) rfl rfl (by kernel_rfl) (by kernel_rfl) (by kernel_rfl) (fun _ _ _ h => h) (Or.inr ⟨by kernel_rfl, rfl⟩) (by first | exact HQ.out _ kw) ?_
        try simp only [List.setIfInBounds_toArray, List.set_cons_zero, List.set_cons_succ]
        refine wpAnyH_putD (i := 8) (d := 40) (v := ?_) rfl rfl (by kernel_rfl) (by kernel_rfl) (by kernel_rfl) (fun _ _ _ h => h) (Or.inl ⟨by kernel_rfl, ?_⟩) (by first | exact HQ.out _ kw) ?_
        rotate_left
        · (intro w hS; (try dsimp only at hS); go_simp <;> with_reducible rfl)
        try simp only [List.setIfInBounds_toArray, List.set_cons_zero, List.set_cons_succ]
        refine wpAnyH_putD (i := 9) (d := 41) (v := ?_) rfl rfl (by kernel_rfl) (by kernel_rfl) (by kernel_rfl) (fun _ _ _ h => h) (Or.inl ⟨by kernel_rfl, ?_⟩) (by first | exact HQ.out _ kw) ?_
        rotate_left
        · (intro w hS; (try dsimp only at hS); go_simp <;> with_reducible rfl)
        try simp only [List.setIfInBounds_toArray, List.set_cons_zero, List.set_cons_succ]
        refine wpAnyH_putD (i := 10) (d := 42) (v := undef) rfl rfl (by kernel_rfl) (by kernel_rfl) (by kernel_rfl) (fun _ _ _ h => h) (Or.inr ⟨by kernel_rfl, rfl⟩) (by first | exact HQ.out _ kw) ?_
        try simp only [List.setIfInBounds_toArray, List.set_cons_zero, List.set_cons_succ]
        refine wpAnyH_putD (i := 11) (d := 43) (v := undef) rfl rfl (by kernel_rfl) (by kernel_rfl) (by kernel_rfl) (fun _ _ _ h => h) (Or.inr ⟨by kernel_rfl, rfl⟩) (by first | exact HQ.out _ kw) ?_
        try simp only [List.setIfInBounds_toArray, List.set_cons_zero, List.set_cons_succ]
        refine wpAnyH_putD (i := 12) (d := 44) (v := undef) rfl rfl (by kernel_rfl) (by kernel_rfl) (by kernel_rfl) (fun _ _ _ h => h) (Or.inr ⟨by kernel_rfl, rfl⟩) (by first | exact HQ.out _ kw) ?_
        try simp only [List.setIfInBounds_toArray, List.set_cons_zero, List.set_cons_succ]
        refine wpAnyH_putD (i := 13) (d := 45) (v := undef) rfl rfl (by kernel_rfl) (by kernel_rfl) (by kernel_rfl) (fun _ _ _ h => h) (Or.inr ⟨by kernel_rfl, rfl⟩) (by first | exact HQ.out _ kw) ?_
        try simp only [List.setIfInBounds_toArray, List.set_cons_zero, List.set_cons_succ]
        refine wpAnyH_putD (i := 14) (d := 46) (v := undef) rfl rfl (by kernel_rfl) (by kernel_rfl) (by kernel_rfl) (fun _ _ _ h => h) (Or.inr ⟨by kernel_rfl, rfl⟩) (by first | exact HQ.out _ kw) ?_
        try simp only [List.setIfInBounds_toArray, List.set_cons_zero, List.set_cons_succ]
        refine wpAnyH_putD (i := 15) (d := 47) (v := undef) rfl rfl (by kernel_rfl) (by kernel_rfl) (by kernel_rfl) (fun _ _ _ h => h) (Or.inr ⟨by kernel_rfl, rfl⟩) (by first | exact HQ.out _ kw) ?_
        try simp only [List.setIfInBounds_toArray, List.set_cons_zero, List.set_cons_succ]
        refine wpAnyH_putD (i := 16) (d := 48) (v := ?_) rfl rfl (by kernel_rfl) (by kernel_rfl) (by kernel_rfl) (fun _ _ _ h => h) (Or.inl ⟨by kernel_rfl, ?_⟩) (by first | exact HQ.out _ kw) ?_
        rotate_left
        · (intro w hS; (try dsimp only at hS); go_simp <;> with_reducible rfl)
        try simp only [List.setIfInBounds_toArray, List.set_cons_zero, List.set_cons_succ]
        refine wpAnyH_putD (i := 17) (d := 2) (v := ?_) rfl rfl (by kernel_rfl) (by kernel_rfl) (by kernel_rfl) (fun _ _ _ h => h) (Or.inl ⟨by kernel_rfl, ?_⟩) (by first | exact HQ.out _ kw) ?_
        rotate_left
        · (intro w hS; (try dsimp only at hS); go_simp <;> with_reducible rfl)
        try simp only [List.setIfInBounds_toArray, List.set_cons_zero, List.set_cons_succ]
        refine wpAnyH_putD (i := 18) (d := 3) (v := ?_) rfl rfl (by kernel_rfl) (by kernel_rfl) (by kernel_rfl) (fun _ _ _ h => h) (Or.inl ⟨by kernel_rfl, ?_⟩) (by first | exact HQ.out _ kw) ?_
        rotate_left
        · (intro w hS; (try dsimp only at hS); go_simp <;> with_reducible rfl)
        try simp only [List.setIfInBounds_toArray, List.set_cons_zero, List.set_cons_succ]
        refine wpAnyH_done (by kernel_rfl) ?_ _
        refine Nrm.out (hKK _ _ ?_)
        go_wp2
        go_ret2
        exact .inl ⟨q, K, kc, HD.out, by rw [HF.out]; rfl, HRQ.out _ kw, below_then HB.out (Nat.le_refl _) kw⟩
      · rw [hf] at G
        have HF := Lib.hid hf
        clear hf
        by_cases hs : 0 ≤ su
        · have hd : decide (0 ≤ su) = true := decide_eq_true hs
          have HS := Lib.hid hs
          clear hs
          by_cases hm : su ≤ m
          · have hd2 : decide (su ≤ (m : Int)) = true := decide_eq_true hm
            have HM := Lib.hid hm
            clear hm
            go_wp2_with fail
            refine region_nrm fun KK hKK => ?_
            refine wp_region_held_drew (S := (fun W' => W'.cell? ⟨w.heap.size, 0, none⟩ = some (.slice A n c) ∧ W'.cell? ⟨w.heap.size, 1, none⟩ = some (.slice D m d) ∧ W'.cell? ⟨w.heap.size, 2, none⟩ = some (.int .i64 su))) (by kernel_rfl) (by first | exact HQ.out _ kw) (fun hHeld => ?_)
            refine wpAnyH_putD (i := 0) (d := 32) (v := ?_) rfl rfl (by kernel_rfl) (by kernel_rfl) (by kernel_rfl) (fun _ _ _ h => h) (Or.inl ⟨by kernel_rfl, ?_⟩) (by first | exact HQ.out _ kw) ?_
            rotate_left
            · (intro w hS; (try dsimp only at hS); go_simp <;> with_reducible rfl)
            try simp only [List.setIfInBounds_toArray, List.set_cons_zero, List.set_cons_succ]
            refine wpAnyH_putD (i := 1) (d := 33) (v := ?_) rfl rfl (by kernel_rfl) (by kernel_rfl) (by kernel_rfl) (fun _ _ _ h => h) (Or.inl ⟨by kernel_rfl, ?_⟩) (by first | exact HQ.out _ kw) ?_
            rotate_left
            · (intro w hS; (try dsimp only at hS); go_simp <;> with_reducible rfl)
            try simp only [List.setIfInBounds_toArray, List.set_cons_zero, List.set_cons_succ]
            refine wpAnyH_putD (i := 2) (d := 34) (v := ?_) rfl rfl (by kernel_rfl) (by kernel_rfl) (by kernel_rfl) (fun _ _ _ h => h) (Or.inl ⟨by kernel_rfl, ?_⟩) (by first | exact HQ.out _ kw) ?_
            rotate_left
            · (intro w hS; (try dsimp only at hS); go_simp <;> with_reducible rfl)
            try simp only [List.setIfInBounds_toArray, List.set_cons_zero, List.set_cons_succ]
            refine wpAnyH_ready (rs := [3]) (by kernel_rfl) (by simp) ?_
            refine AllReadyH.cons rfl (fun K hK => ?_) AllReadyH.nil
            go_simp
            refine (G.out _ kw).mono ?_
            rintro e V ⟨rfl, hb'⟩
            have kw := below_then kw (Nat.le_refl _) hb'
            clear hb'
            refine hK.out _ _ (by first | exact HQ.out _ kw) (fun hHeld => ?_)
            clear hK K
            refine wpAnyH_putD (i := 4) (d := 36) (v := ?_) rfl rfl (by kernel_rfl) (by kernel_rfl) (by kernel_rfl) (fun _ _ _ h => h) (Or.inl ⟨by kernel_rfl, ?_⟩) (by first | exact HQ.out _ kw) ?_
            rotate_left
            · (intro w hS; (try dsimp only at hS); go_simp <;> with_reducible rfl)
            try simp only [List.setIfInBounds_toArray, List.set_cons_zero, List.set_cons_succ]
            refine wpAnyH_putD (i := 5) (d := 37) (v := ?_) rfl rfl (by kernel_rfl) (by kernel_rfl) (by kernel_rfl) (fun _ _ _ h => h) (Or.inl ⟨by kernel_rfl, ?_⟩) (by first | exact HQ.out _ kw) ?_
            rotate_left
            · (intro w hS; (try dsimp only at hS); go_simp <;> with_reducible rfl)
            try simp only [List.setIfInBounds_toArray, List.set_cons_zero, List.set_cons_succ]
            refine wpAnyH_putD (i := 6) (d := 38) (v := ?_) rfl rfl (by kernel_rfl) (by kernel_rfl) (by kernel_rfl) (fun _ _ _ h => h) (Or.inl ⟨by kernel_rfl, ?_⟩) (by first | exact HQ.out _ kw) ?_
            rotate_left
            · (intro w hS; (try dsimp only at hS); go_simp <;> with_reducible rfl)
            try simp only [List.setIfInBounds_toArray, List.set_cons_zero, List.set_cons_succ]
            refine wpAnyH_putD (i := 7) (d := 39) (v := (.bool true)) rfl rfl (by kernel_rfl) (by kernel_rfl) (by kernel_rfl) (fun _ _ _ h => h) (Or.inl ⟨by kernel_rfl, ?_⟩) (by first | exact HQ.out _ kw) ?_
            · (intro w hS; (try dsimp only at hS); go_simp <;> with_reducible rfl)
            try simp only [List.setIfInBounds_toArray, List.set_cons_zero, List.set_cons_succ]
            refine wpAnyH_putD (i := 8) (d := 40) (v := ?_) rfl rfl (by kernel_rfl) (by kernel_rfl) (by kernel_rfl) (fun _ _ _ h => h) (Or.inl ⟨by kernel_rfl, ?_⟩) (by first | exact HQ.out _ kw) ?_
            rotate_left
            · (intro w hS; (try dsimp only at hS); go_simp <;> with_reducible rfl)
            try simp only [List.setIfInBounds_toArray, List.set_cons_zero, List.set_cons_succ]
            refine wpAnyH_putD (i := 9) (d := 41) (v := ?_) rfl rfl (by kernel_rfl) (by kernel_rfl) (by kernel_rfl) (fun _ _ _ h => h) (Or.inl ⟨by kernel_rfl, ?_⟩) (by first | exact HQ.out _ kw) ?_
            rotate_left
            · (intro w hS; (try dsimp only at hS); go_simp <;> with_reducible rfl)
            try simp only [List.setIfInBounds_toArray, List.set_cons_zero, List.set_cons_succ]
            refine wpAnyH_putD (i := 10) (d := 42) (v := ?_) rfl rfl (by kernel_rfl) (by kernel_rfl) (by kernel_rfl) (fun _ _ _ h => h) (Or.inl ⟨by kernel_rfl, ?_⟩) (by first | exact HQ.out _ kw) ?_
            rotate_left
            · (intro w hS; (try dsimp only at hS); go_simp <;> with_reducible rfl)
            try simp only [List.setIfInBounds_toArray, List.set_cons_zero, List.set_cons_succ]
            refine wpAnyH_putD (i := 11) (d := 43) (v := ?_) rfl rfl (by kernel_rfl) (by kernel_rfl) (by kernel_rfl) (fun _ _ _ h => h) (Or.inl ⟨by kernel_rfl, ?_⟩) (by first | exact HQ.out _ kw) ?_
            rotate_left
            · (intro w hS; (try dsimp only at hS); go_simp <;> with_reducible rfl)
            try simp only [List.setIfInBounds_toArray, List.set_cons_zero, List.set_cons_succ]
            refine wpAnyH_putD (i := 12) (d := 44) (v := ?_) rfl rfl (by kernel_rfl) (by kernel_rfl) (by kernel_rfl) (fun _ _ _ h => h) (Or.inl ⟨by kernel_rfl, ?_⟩) (by first | exact HQ.out _ kw) ?_
            rotate_left
            · (intro w hS; (try dsimp only at hS); go_simp <;> with_reducible rfl)
            try simp only [List.setIfInBounds_toArray, List.set_cons_zero, List.set_cons_succ]
            refine wpAnyH_putD (i := 13) (d := 45) (v := ?_) rfl rfl (by kernel_rfl) (by kernel_rfl) (by kernel_rfl) (fun _ _ _ h => h) (Or.inl ⟨by kernel_rfl, ?_⟩) (by first | exact HQ.out _ kw) ?_
            rotate_left
            · (intro w hS; (try dsimp only at hS); go_simp <;> with_reducible rfl)
            try simp only [List.setIfInBounds_toArray, List.set_cons_zero, List.set_cons_succ]
            refine wpAnyH_putD (i := 14) (d := 46) (v := ?_) rfl rfl (by kernel_rfl) (by kernel_rfl) (by kernel_rfl) (fun _ _ _ h => h) (Or.inl ⟨by kernel_rfl, ?_⟩) (by first | exact HQ.out _ kw) ?_
            rotate_left
            · (intro w hS; (try dsimp only at hS); go_simp <;> with_reducible rfl)
            try simp only [List.setIfInBounds_toArray, List.set_cons_zero, List.set_cons_succ]
            refine wpAnyH_putD (i := 15) (d := 47) (v := (.bool true)) rfl rfl (by kernel_rfl) (by kernel_rfl) (by kernel_rfl) (fun _ _ _ h => h) (Or.inl ⟨by kernel_rfl, ?_⟩) (by first | exact HQ.out _ kw) ?_
            · (intro w hS; (try dsimp only at hS); go_simp <;> with_reducible rfl)
            try simp only [List.setIfInBounds_toArray, List.set_cons_zero, List.set_cons_succ]
            refine wpAnyH_putD (i := 16) (d := 48) (v := ?_) rfl rfl (by kernel_rfl) (by kernel_rfl) (by kernel_rfl) (fun _ _ _ h => h) (Or.inl ⟨by kernel_rfl, ?_⟩) (by first | exact HQ.out _ kw) ?_
            rotate_left
            · (intro w hS; (try dsimp only at hS); go_simp <;> with_reducible rfl)
            try simp only [List.setIfInBounds_toArray, List.set_cons_zero, List.set_cons_succ]
            refine wpAnyH_putD (i := 17) (d := 2) (v := ?_) rfl rfl (by kernel_rfl) (by kernel_rfl) (by kernel_rfl) (fun _ _ _ h => h) (Or.inl ⟨by kernel_rfl, ?_⟩) (by first | exact HQ.out _ kw) ?_
            rotate_left
            · (intro w hS; (try dsimp only at hS); go_simp <;> with_reducible rfl)
            try simp only [List.setIfInBounds_toArray, List.set_cons_zero, List.set_cons_succ]
            refine wpAnyH_putD (i := 18) (d := 3) (v := ?_) rfl rfl (by kernel_rfl) (by kernel_rfl) (by kernel_rfl) (fun _ _ _ h => h) (Or.inl ⟨by kernel_rfl, ?_⟩) (by first | exact HQ.out _ kw) ?_
            rotate_left
            · (intro w hS; (try dsimp only at hS); go_simp <;> with_reducible rfl)
            try simp only [List.setIfInBounds_toArray, List.set_cons_zero, List.set_cons_succ]
            refine wpAnyH_done (by kernel_rfl) ?_ _
            refine Nrm.out (hKK _ _ ?_)
            go_wp2
            go_ret2
            exact .inl ⟨q, K, kc, HD.out, by rw [HF.out, HLN.out, decide_eq_true HS.out, decide_eq_true HM.out]; rfl, HRQ.out _ kw, below_then HB.out (Nat.le_refl _) kw⟩
          · have hd2 : decide (su ≤ (m : Int)) = false := decide_eq_false hm
            have HM := Lib.hid hm
            clear hm
            go_wp2_with fail
            refine region_nrm fun KK hKK => ?_
            refine wp_region_held_drew (S := (fun W' => W'.cell? ⟨w.heap.size, 0, none⟩ = some (.slice A n c) ∧ W'.cell? ⟨w.heap.size, 1, none⟩ = some (.slice D m d) ∧ W'.cell? ⟨w.heap.size, 2, none⟩ = some (.int .i64 su))) (by kernel_rfl) (by first | exact HQ.out _ kw) (fun hHeld => ?_)
            refine wpAnyH_putD (i := 0) (d := 32) (v := ?_) rfl rfl (by kernel_rfl) (by kernel_rfl) (by kernel_rfl) (fun _ _ _ h => h) (Or.inl ⟨by kernel_rfl, ?_⟩) (by first | exact HQ.out _ kw) ?_
            rotate_left
            · (intro w hS; (try dsimp only at hS); go_simp <;> with_reducible rfl)
            try simp only [List.setIfInBounds_toArray, List.set_cons_zero, List.set_cons_succ]
            refine wpAnyH_putD (i := 1) (d := 33) (v := ?_) rfl rfl (by kernel_rfl) (by kernel_rfl) (by kernel_rfl) (fun _ _ _ h => h) (Or.inl ⟨by kernel_rfl, ?_⟩) (by first | exact HQ.out _ kw) ?_
            rotate_left
            · (intro w hS; (try dsimp only at hS); go_simp <;> with_reducible rfl)
            try simp only [List.setIfInBounds_toArray, List.set_cons_zero, List.set_cons_succ]
            refine wpAnyH_putD (i := 2) (d := 34) (v := ?_) rfl rfl (by kernel_rfl) (by kernel_rfl) (by kernel_rfl) (fun _ _ _ h => h) (Or.inl ⟨by kernel_rfl, ?_⟩) (by first | exact HQ.out _ kw) ?_
            rotate_left
            · (intro w hS; (try dsimp only at hS); go_simp <;> with_reducible rfl)
            try simp only [List.setIfInBounds_toArray, List.set_cons_zero, List.set_cons_succ]
            refine wpAnyH_ready (rs := [3]) (by kernel_rfl) (by simp) ?_
            refine AllReadyH.cons rfl (fun K hK => ?_) AllReadyH.nil
            go_simp
            refine (G.out _ kw).mono ?_
            rintro e V ⟨rfl, hb'⟩
            have kw := below_then kw (Nat.le_refl _) hb'
            clear hb'
            refine hK.out _ _ (by first | exact HQ.out _ kw) (fun hHeld => ?_)
            clear hK K
            refine wpAnyH_putD (i := 4) (d := 36) (v := ?_) rfl rfl (by kernel_rfl) (by kernel_rfl) (by kernel_rfl) (fun _ _ _ h => h) (Or.inl ⟨by kernel_rfl, ?_⟩) (by first | exact HQ.out _ kw) ?_
            rotate_left
            · (intro w hS; (try dsimp only at hS); go_simp <;> with_reducible rfl)
            try simp only [List.setIfInBounds_toArray, List.set_cons_zero, List.set_cons_succ]
            refine wpAnyH_putD (i := 5) (d := 37) (v := ?_) rfl rfl (by kernel_rfl) (by kernel_rfl) (by kernel_rfl) (fun _ _ _ h => h) (Or.inl ⟨by kernel_rfl, ?_⟩) (by first | exact HQ.out _ kw) ?_
            rotate_left
            · (intro w hS; (try dsimp only at hS); go_simp <;> with_reducible rfl)
            try simp only [List.setIfInBounds_toArray, List.set_cons_zero, List.set_cons_succ]
            refine wpAnyH_putD (i := 6) (d := 38) (v := ?_) rfl rfl (by kernel_rfl) (by kernel_rfl) (by kernel_rfl) (fun _ _ _ h => h) (Or.inl ⟨by kernel_rfl, ?_⟩) (by first | exact HQ.out _ kw) ?_
            rotate_left
            · (intro w hS; (try dsimp only at hS); go_simp <;> with_reducible rfl)
            try simp only [List.setIfInBounds_toArray, List.set_cons_zero, List.set_cons_succ]
            refine wpAnyH_putD (i := 7) (d := 39) (v := (.bool true)) rfl rfl (by kernel_rfl) (by kernel_rfl) (by kernel_rfl) (fun _ _ _ h => h) (Or.inl ⟨by kernel_rfl, ?_⟩) (by first | exact HQ.out _ kw) ?_
            · (intro w hS; (try dsimp only at hS); go_simp <;> with_reducible rfl)
            try simp only [List.setIfInBounds_toArray, List.set_cons_zero, List.set_cons_succ]
            refine wpAnyH_putD (i := 8) (d := 40) (v := ?_) rfl rfl (by kernel_rfl) (by kernel_rfl) (by kernel_rfl) (fun _ _ _ h => h) (Or.inl ⟨by kernel_rfl, ?_⟩) (by first | exact HQ.out _ kw) ?_
            rotate_left
            · (intro w hS; (try dsimp only at hS); go_simp <;> with_reducible rfl)
            try simp only [List.setIfInBounds_toArray, List.set_cons_zero, List.set_cons_succ]
            refine wpAnyH_putD (i := 9) (d := 41) (v := ?_) rfl rfl (by kernel_rfl) (by kernel_rfl) (by kernel_rfl) (fun _ _ _ h => h) (Or.inl ⟨by kernel_rfl, ?_⟩) (by first | exact HQ.out _ kw) ?_
            rotate_left
            · (intro w hS; (try dsimp only at hS); go_simp <;> with_reducible rfl)
            try simp only [List.setIfInBounds_toArray, List.set_cons_zero, List.set_cons_succ]
            refine wpAnyH_putD (i := 10) (d := 42) (v := ?_) rfl rfl (by kernel_rfl) (by kernel_rfl) (by kernel_rfl) (fun _ _ _ h => h) (Or.inl ⟨by kernel_rfl, ?_⟩) (by first | exact HQ.out _ kw) ?_
            rotate_left
            · (intro w hS; (try dsimp only at hS); go_simp <;> with_reducible rfl)
            try simp only [List.setIfInBounds_toArray, List.set_cons_zero, List.set_cons_succ]
            refine wpAnyH_putD (i := 11) (d := 43) (v := ?_) rfl rfl (by kernel_rfl) (by kernel_rfl) (by kernel_rfl) (fun _ _ _ h => h) (Or.inl ⟨by kernel_rfl, ?_⟩) (by first | exact HQ.out _ kw) ?_
            rotate_left
            · (intro w hS; (try dsimp only at hS); go_simp <;> with_reducible rfl)
            try simp only [List.setIfInBounds_toArray, List.set_cons_zero, List.set_cons_succ]
            refine wpAnyH_putD (i := 12) (d := 44) (v := ?_) rfl rfl (by kernel_rfl) (by kernel_rfl) (by kernel_rfl) (fun _ _ _ h => h) (Or.inl ⟨by kernel_rfl, ?_⟩) (by first | exact HQ.out _ kw) ?_
            rotate_left
            · (intro w hS; (try dsimp only at hS); go_simp <;> with_reducible rfl)
            try simp only [List.setIfInBounds_toArray, List.set_cons_zero, List.set_cons_succ]
            refine wpAnyH_putD (i := 13) (d := 45) (v := ?_) rfl rfl (by kernel_rfl) (by kernel_rfl) (by kernel_rfl) (fun _ _ _ h => h) (Or.inl ⟨by kernel_rfl, ?_⟩) (by first | exact HQ.out _ kw) ?_
            rotate_left
            · (intro w hS; (try dsimp only at hS); go_simp <;> with_reducible rfl)
            try simp only [List.setIfInBounds_toArray, List.set_cons_zero, List.set_cons_succ]
            refine wpAnyH_putD (i := 14) (d := 46) (v := ?_) rfl rfl (by kernel_rfl) (by kernel_rfl) (by kernel_rfl) (fun _ _ _ h => h) (Or.inl ⟨by kernel_rfl, ?_⟩) (by first | exact HQ.out _ kw) ?_
            rotate_left
            · (intro w hS; (try dsimp only at hS); go_simp <;> with_reducible rfl)
            try simp only [List.setIfInBounds_toArray, List.set_cons_zero, List.set_cons_succ]
            refine wpAnyH_putD (i := 15) (d := 47) (v := (.bool false)) rfl rfl (by kernel_rfl) (by kernel_rfl) (by kernel_rfl) (fun _ _ _ h => h) (Or.inl ⟨by kernel_rfl, ?_⟩) (by first | exact HQ.out _ kw) ?_
            · (intro w hS; (try dsimp only at hS); go_simp <;> with_reducible rfl)
            try simp only [List.setIfInBounds_toArray, List.set_cons_zero, List.set_cons_succ]
            refine wpAnyH_putD (i := 16) (d := 48) (v := ?_) rfl rfl (by kernel_rfl) (by kernel_rfl) (by kernel_rfl) (fun _ _ _ h => h) (Or.inl ⟨by kernel_rfl, ?_⟩) (by first | exact HQ.out _ kw) ?_
            rotate_left
            · (intro w hS; (try dsimp only at hS); go_simp <;> with_reducible rfl)
            try simp only [List.setIfInBounds_toArray, List.set_cons_zero, List.set_cons_succ]
            refine wpAnyH_putD (i := 17) (d := 2) (v := ?_) rfl rfl (by kernel_rfl) (by kernel_rfl) (by kernel_rfl) (fun _ _ _ h => h) (Or.inl ⟨by kernel_rfl, ?_⟩) (by first | exact HQ.out _ kw) ?_
            rotate_left
            · (intro w hS; (try dsimp only at hS); go_simp <;> with_reducible rfl)
            try simp only [List.setIfInBounds_toArray, List.set_cons_zero, List.set_cons_succ]
            refine wpAnyH_putD (i := 18) (d := 3) (v := ?_) rfl rfl (by kernel_rfl) (by kernel_rfl) (by kernel_rfl) (fun _ _ _ h => h) (Or.inl ⟨by kernel_rfl, ?_⟩) (by first | exact HQ.out _ kw) ?_
            rotate_left
            · (intro w hS; (try dsimp only at hS); go_simp <;> with_reducible rfl)
            try simp only [List.setIfInBounds_toArray, List.set_cons_zero, List.set_cons_succ]
            refine wpAnyH_done (by kernel_rfl) ?_ _
            refine Nrm.out (hKK _ _ ?_)
            go_wp2
            go_ret2
            exact .inl ⟨q, K, kc, HD.out, by rw [HF.out, HLN.out, decide_eq_true HS.out, decide_eq_false (Int.not_le.2 HM.out)]; rfl, HRQ.out _ kw, below_then HB.out (Nat.le_refl _) kw⟩
        · have hd : decide (0 ≤ su) = false := decide_eq_false hs
          have HS := Lib.hid hs
          clear hs
          go_wp2_with fail
          refine region_nrm fun KK hKK => ?_
          refine wp_region_held_drew (S := (fun W' => W'.cell? ⟨w.heap.size, 0, none⟩ = some (.slice A n c) ∧ W'.cell? ⟨w.heap.size, 1, none⟩ = some (.slice D m d) ∧ W'.cell? ⟨w.heap.size, 2, none⟩ = some (.int .i64 su))) (by kernel_rfl) (by first | exact HQ.out _ kw) (fun hHeld => ?_)
          refine wpAnyH_putD (i := 0) (d := 32) (v := ?_) rfl rfl (by kernel_rfl) (by kernel_rfl) (by kernel_rfl) (fun _ _ _ h => h) (Or.inl ⟨by kernel_rfl, ?_⟩) (by first | exact HQ.out _ kw) ?_
          rotate_left
          · (intro w hS; (try dsimp only at hS); go_simp <;> with_reducible rfl)
          try simp only [List.setIfInBounds_toArray, List.set_cons_zero, List.set_cons_succ]
          refine wpAnyH_putD (i := 1) (d := 33) (v := ?_) rfl rfl (by kernel_rfl) (by kernel_rfl) (by kernel_rfl) (fun _ _ _ h => h) (Or.inl ⟨by kernel_rfl, ?_⟩) (by first | exact HQ.out _ kw) ?_
          rotate_left
          · (intro w hS; (try dsimp only at hS); go_simp <;> with_reducible rfl)
          try simp only [List.setIfInBounds_toArray, List.set_cons_zero, List.set_cons_succ]
          refine wpAnyH_putD (i := 2) (d := 34) (v := ?_) rfl rfl (by kernel_rfl) (by kernel_rfl) (by kernel_rfl) (fun _ _ _ h => h) (Or.inl ⟨by kernel_rfl, ?_⟩) (by first | exact HQ.out _ kw) ?_
          rotate_left
          · (intro w hS; (try dsimp only at hS); go_simp <;> with_reducible rfl)
          try simp only [List.setIfInBounds_toArray, List.set_cons_zero, List.set_cons_succ]
          refine wpAnyH_ready (rs := [3]) (by kernel_rfl) (by simp) ?_
          refine AllReadyH.cons rfl (fun K hK => ?_) AllReadyH.nil
          go_simp
          refine (G.out _ kw).mono ?_
          rintro e V ⟨rfl, hb'⟩
          have kw := below_then kw (Nat.le_refl _) hb'
          clear hb'
          refine hK.out _ _ (by first | exact HQ.out _ kw) (fun hHeld => ?_)
          clear hK K
          refine wpAnyH_putD (i := 4) (d := 36) (v := ?_) rfl rfl (by kernel_rfl) (by kernel_rfl) (by kernel_rfl) (fun _ _ _ h => h) (Or.inl ⟨by kernel_rfl, ?_⟩) (by first | exact HQ.out _ kw) ?_
          rotate_left
          · (intro w hS; (try dsimp only at hS); go_simp <;> with_reducible rfl)
          try simp only [List.setIfInBounds_toArray, List.set_cons_zero, List.set_cons_succ]
          refine wpAnyH_putD (i := 5) (d := 37) (v := ?_) rfl rfl (by kernel_rfl) (by kernel_rfl) (by kernel_rfl) (fun _ _ _ h => h) (Or.inl ⟨by kernel_rfl, ?_⟩) (by first | exact HQ.out _ kw) ?_
          rotate_left
          · (intro w hS; (try dsimp only at hS); go_simp <;> with_reducible rfl)
          try simp only [List.setIfInBounds_toArray, List.set_cons_zero, List.set_cons_succ]
          refine wpAnyH_putD (i := 6) (d := 38) (v := ?_) rfl rfl (by kernel_rfl) (by kernel_rfl) (by kernel_rfl) (fun _ _ _ h => h) (Or.inl ⟨by kernel_rfl, ?_⟩) (by first | exact HQ.out _ kw) ?_
          rotate_left
          · (intro w hS; (try dsimp only at hS); go_simp <;> with_reducible rfl)
          try simp only [List.setIfInBounds_toArray, List.set_cons_zero, List.set_cons_succ]
          refine wpAnyH_putD (i := 7) (d := 39) (v := (.bool false)) rfl rfl (by kernel_rfl) (by kernel_rfl) (by kernel_rfl) (fun _ _ _ h => h) (Or.inl ⟨by kernel_rfl, ?_⟩) (by first | exact HQ.out _ kw) ?_
          · (intro w hS; (try dsimp only at hS); go_simp <;> with_reducible rfl)
          try simp only [List.setIfInBounds_toArray, List.set_cons_zero, List.set_cons_succ]
          refine wpAnyH_putD (i := 8) (d := 40) (v := ?_) rfl rfl (by kernel_rfl) (by kernel_rfl) (by kernel_rfl) (fun _ _ _ h => h) (Or.inl ⟨by kernel_rfl, ?_⟩) (by first | exact HQ.out _ kw) ?_
          rotate_left
          · (intro w hS; (try dsimp only at hS); go_simp <;> with_reducible rfl)
          try simp only [List.setIfInBounds_toArray, List.set_cons_zero, List.set_cons_succ]
          refine wpAnyH_putD (i := 9) (d := 41) (v := ?_) rfl rfl (by kernel_rfl) (by kernel_rfl) (by kernel_rfl) (fun _ _ _ h => h) (Or.inl ⟨by kernel_rfl, ?_⟩) (by first | exact HQ.out _ kw) ?_
          rotate_left
          · (intro w hS; (try dsimp only at hS); go_simp <;> with_reducible rfl)
          try simp only [List.setIfInBounds_toArray, List.set_cons_zero, List.set_cons_succ]
          refine wpAnyH_putD (i := 10) (d := 42) (v := undef) rfl rfl (by kernel_rfl) (by kernel_rfl) (by kernel_rfl) (fun _ _ _ h => h) (Or.inr ⟨by kernel_rfl, rfl⟩) (by first | exact HQ.out _ kw) ?_
          try simp only [List.setIfInBounds_toArray, List.set_cons_zero, List.set_cons_succ]
          refine wpAnyH_putD (i := 11) (d := 43) (v := undef) rfl rfl (by kernel_rfl) (by kernel_rfl) (by kernel_rfl) (fun _ _ _ h => h) (Or.inr ⟨by kernel_rfl, rfl⟩) (by first | exact HQ.out _ kw) ?_
          try simp only [List.setIfInBounds_toArray, List.set_cons_zero, List.set_cons_succ]
          refine wpAnyH_putD (i := 12) (d := 44) (v := undef) rfl rfl (by kernel_rfl) (by kernel_rfl) (by kernel_rfl) (fun _ _ _ h => h) (Or.inr ⟨by kernel_rfl, rfl⟩) (by first | exact HQ.out _ kw) ?_
          try simp only [List.setIfInBounds_toArray, List.set_cons_zero, List.set_cons_succ]
          refine wpAnyH_putD (i := 13) (d := 45) (v := undef) rfl rfl (by kernel_rfl) (by kernel_rfl) (by kernel_rfl) (fun _ _ _ h => h) (Or.inr ⟨by kernel_rfl, rfl⟩) (by first | exact HQ.out _ kw) ?_
          try simp only [List.setIfInBounds_toArray, List.set_cons_zero, List.set_cons_succ]
          refine wpAnyH_putD (i := 14) (d := 46) (v := undef) rfl rfl (by kernel_rfl) (by kernel_rfl) (by kernel_rfl) (fun _ _ _ h => h) (Or.inr ⟨by kernel_rfl, rfl⟩) (by first | exact HQ.out _ kw) ?_
          try simp only [List.setIfInBounds_toArray, List.set_cons_zero, List.set_cons_succ]
          refine wpAnyH_putD (i := 15) (d := 47) (v := undef) rfl rfl (by kernel_rfl) (by kernel_rfl) (by kernel_rfl) (fun _ _ _ h => h) (Or.inr ⟨by kernel_rfl, rfl⟩) (by first | exact HQ.out _ kw) ?_
          try simp only [List.setIfInBounds_toArray, List.set_cons_zero, List.set_cons_succ]
          refine wpAnyH_putD (i := 16) (d := 48) (v := ?_) rfl rfl (by kernel_rfl) (by kernel_rfl) (by kernel_rfl) (fun _ _ _ h => h) (Or.inl ⟨by kernel_rfl, ?_⟩) (by first | exact HQ.out _ kw) ?_
          rotate_left
          · (intro w hS; (try dsimp only at hS); go_simp <;> with_reducible rfl)
          try simp only [List.setIfInBounds_toArray, List.set_cons_zero, List.set_cons_succ]
          refine wpAnyH_putD (i := 17) (d := 2) (v := ?_) rfl rfl (by kernel_rfl) (by kernel_rfl) (by kernel_rfl) (fun _ _ _ h => h) (Or.inl ⟨by kernel_rfl, ?_⟩) (by first | exact HQ.out _ kw) ?_
          rotate_left
          · (intro w hS; (try dsimp only at hS); go_simp <;> with_reducible rfl)
          try simp only [List.setIfInBounds_toArray, List.set_cons_zero, List.set_cons_succ]
          refine wpAnyH_putD (i := 18) (d := 3) (v := ?_) rfl rfl (by kernel_rfl) (by kernel_rfl) (by kernel_rfl) (fun _ _ _ h => h) (Or.inl ⟨by kernel_rfl, ?_⟩) (by first | exact HQ.out _ kw) ?_
          rotate_left
          · (intro w hS; (try dsimp only at hS); go_simp <;> with_reducible rfl)
          try simp only [List.setIfInBounds_toArray, List.set_cons_zero, List.set_cons_succ]
          refine wpAnyH_done (by kernel_rfl) ?_ _
          refine Nrm.out (hKK _ _ ?_)
          go_wp2
          go_ret2
          exact .inl ⟨q, K, kc, HD.out, by rw [HF.out, decide_eq_false (Int.not_le.2 HS.out)]; rfl, HRQ.out _ kw, below_then HB.out (Nat.le_refl _) kw⟩
end Go.Proofs.YtldcgmnfohhjbaaDoor
