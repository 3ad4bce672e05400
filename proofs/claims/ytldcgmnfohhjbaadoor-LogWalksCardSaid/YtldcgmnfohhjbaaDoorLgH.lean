/- Walks over Append of logs, the program's and the document's (printed by wip/tools/genLgH.py). -/
import Derived.Test.YtldcgmnfohhjbaaDoorLgG
namespace Go.Proofs.YtldcgmnfohhjbaaDoor
open Go.RowKit
set_option maxRecDepth 100000

/-- What the walk over a log hands back, from its base. -/
def WalkR (w : World) (b : List Vc.St) (L : List (NV × Nt)) (su : Int) (e : Ending) (w' : World) : Prop :=
  (∃ q K c, lgR b L su = true ∧ lgW b (nts L) = some q ∧ e = .returned (.tuple #[.slice K q.length c, .bool true]) ∧ Rd w' w'.heap.size 2 K q.length c (sv q) ∧ Below w.heap.size w w') ∨
  (lgR b L su = false ∧ ∃ K k c, e = .returned (.tuple #[.slice K k c, .bool false]) ∧ Below w.heap.size w w')
theorem walkP_R {w : World} {b : List Vc.St} {L : List (NV × Nt)} {su : Int} {e : Ending} {w' : World} (h : WalkP w b L su e w') : WalkR w b L su e w' := by
  rcases h with ⟨q, K, c, h1, h2, h3, h4⟩ | ⟨h1, h2, h3⟩
  · have hf : lgR b L su = (fm (-1) b && (decide (0 ≤ su) && decide (su ≤ L.length))) := by
      rw [← lgF_R]; unfold lgF; rw [h1]; rfl
    rcases hz : lgR b L su with _ | _
    · rw [← hf, hz] at h2
      exact .inr ⟨hz, K, q.length, c, h2, h4⟩
    · rw [← hf, hz] at h2
      rw [vec_one (lgR_some hz).1] at h1
      exact .inl ⟨q, K, c, hz, h1, h2, h3, h4⟩
  · refine .inr ⟨?_, none, 0, 0, h2, h3⟩
    rw [← lgF_R]; unfold lgF; rw [h1]; rfl
theorem nts_snoc (M : List (NV × Nt)) (v : NV) (x : Nt) : nts (M ++ [(v, x)]) = nts M ++ [x] := by simp [nts]
theorem lgW_app {k q : List Vc.St} {l : List Nt} {x : Nt} (h : lgW k l = some q) (hf : ntF x = true) (ht : ntFits x q = true) : lgW k (l ++ [x]) = some (vec (jn [q, x.e])) := by
  induction l generalizing k with
  | nil =>
    injection h with h
    subst h
    rw [List.nil_append, lgW, hf, ht]; rfl
  | cons y r ih =>
    rw [lgW] at h
    rw [List.cons_append, lgW]
    split at h
    · rename_i hc
      rw [if_pos hc]; exact ih h
    · cases h
/-- The error of an append; what is appended. -/
def appE (b : List Vc.St) (L : List (NV × Nt)) (su : Int) (x : Nt) : Int :=
  if (lgR b L su && ntF x) = true then (match lgW b (nts L) with | some q => if ntFits x q = true then 0 else 3 | none => 1) else 1
def appB (e : Int) (b : List Vc.St) : List Vc.St := if e = 0 then b else []
def appN (e : Int) (l : List Nt) (x : Nt) : List Nt := if e = 0 then l ++ [x] else []
def appS (e su : Int) : Int := if e = 0 then su else 0
def AppP (w : World) (b : List Vc.St) (L : List (NV × Nt)) (su : Int) (x : Nt) (e : Ending) (w' : World) : Prop :=
  ∃ v' L', e = .returned (.tuple #[.agg (LV.val v' (appS (appE b L su x) su)), .int .i64 (appE b L su x)]) ∧ LgRd w' v' (appB (appE b L su x) b) L' ∧ nts L' = appN (appE b L su x) (nts L) x ∧ Below w.heap.size w w'
def LV0 : LV := ⟨none, 0, 0, none, 0, 0⟩
theorem LgRd.zero (w : World) : LgRd w LV0 [] [] := ⟨rfl, Rd.none_, ⟨rfl, Rd.none_, fun p hp => by cases hp⟩⟩
theorem AppP.no {w w' : World} {b : List Vc.St} {L : List (NV × Nt)} {su : Int} {x : Nt} (er : Int) {e : Ending} (he : appE b L su x = er) (h0 : er ≠ 0) (hee : e = .returned (.tuple #[.agg #[.slice none 0 0, .slice none 0 0, .int .i64 0], .int .i64 er])) (hb : Below w.heap.size w w') : AppP w b L su x e w' := by
  subst hee
  unfold AppP
  rw [he]
  refine ⟨LV0, [], ?_, ?_, ?_, hb⟩
  · unfold appS; rw [if_neg h0]; rfl
  · unfold appB; rw [if_neg h0]; exact LgRd.zero w'
  · unfold appN; rw [if_neg h0]; rfl
theorem AppP.yes {w w' : World} {b : List Vc.St} {L : List (NV × Nt)} {su : Int} {x : Nt} {e : Ending} (v' : LV) (L' : List (NV × Nt)) (he : appE b L su x = 0) (hee : e = .returned (.tuple #[.agg (v'.val su), .int .i64 0])) (h1 : LgRd w' v' b L') (h2 : nts L' = nts L ++ [x]) (hb : Below w.heap.size w w') : AppP w b L su x e w' := by
  subst hee
  unfold AppP
  rw [he]
  exact ⟨v', L', rfl, h1, h2, hb⟩
theorem CpS.start {w0 W : World} {v : LV} {b : List Vc.St} {L : List (NV × Nt)} {su : Int} {base : Nat} (h : LgOwn W base v b L) (hb : Below w0.heap.size w0 W) (hB : w0.heap.size ≤ base) :
    CpS w0 (W.alloc (.cells (v.val su) 47)) W.heap.size v.A v.n v.c su b v.D v.m v.d L := by
  have hk := then_alloc hb (.cells (v.val su) 47)
  have h2 := (h.below hk).less hB
  exact ⟨below_then hb (Nat.le_refl _) hk, hb.size, blkOf hk, h2.o1, h2.o2, h2.each⟩
theorem CpS.drew {w0 W : World} {g n d1 i d' : Nat} {D1 D' : Option Addr} {su : Int} {b : List Vc.St} {M : List (NV × Nt)} (h : CpS w0 W g D1 n d1 su b D' i d' M) : CpS w0 W.drew g D1 n d1 su b D' i d' M := h.below (Below.refl _ W).drew
theorem lgWalkR_any (v : LV) (b : List Vc.St) (L : List (NV × Nt)) (su : Int) (w : World) (hT : Tab w) (h : LgRd w v b L) :
    Calls Tryd.prog 62 #[.agg (v.val su)] w (WalkR w b L su) := (lgWalk_any v b L su w hT h).mono fun _ _ h => walkP_R h


set_option maxHeartbeats 16000000 in
theorem lgAppend_any (v : LV) (b : List Vc.St) (L : List (NV × Nt)) (su : Int) (v2 : NV) (x : Nt) (w : World) (hT : Tab w) (h : LgRd w v b L) (hsz : LgSz v L) (hN : NtRd w w.heap.size v2 x) (hs : NtSz v2) :
    Calls Tryd.prog 34 #[.agg (v.val su), .agg v2.val] w (AppP w b L su x) := by
  obtain ⟨hzz, hi⟩ := zero_of_info log_zero
  have HI := Lib.hid hi
  obtain ⟨i0, hi0, hz0, hz1, hz2⟩ := info_parts noteE_info
  obtain ⟨A, n, c, D, m, d⟩ := v
  obtain ⟨A1, n1, c1, A2, n2, c2, A3, n3, c3, A4, n4, c4⟩ := v2
  have hb1 : Below w.heap.size w (w.alloc (.cells (LV.val ⟨A, n, c, D, m, d⟩ su) 47)) := (Below.refl _ _).alloc (Nat.le_refl _) _
  have hb2 : Below w.heap.size w ((w.alloc (.cells (LV.val ⟨A, n, c, D, m, d⟩ su) 47)).alloc (.cells #[.slice A1 n1 c1, .slice A2 n2 c2, .slice A3 n3 c3, .slice A4 n4 c4] 32)) := hb1.alloc hb1.size _
  have hb0 : Below w.heap.size w (((w.alloc (.cells (LV.val ⟨A, n, c, D, m, d⟩ su) 47)).alloc (.cells #[.slice A1 n1 c1, .slice A2 n2 c2, .slice A3 n3 c3, .slice A4 n4 c4] 32)).alloc (.cells #[.slice none 0 0, .slice none 0 0, .int .i64 0] 47)) := hb2.alloc hb2.size _
  have hB1 := ((Blk.new w 47 (LV.val ⟨A, n, c, D, m, d⟩ su)).alloc (.cells #[.slice A1 n1 c1, .slice A2 n2 c2, .slice A3 n3 c3, .slice A4 n4 c4] 32)).alloc (.cells #[.slice none 0 0, .slice none 0 0, .int .i64 0] 47)
  have hB2 := (Blk.new (w.alloc (.cells (LV.val ⟨A, n, c, D, m, d⟩ su) 47)) 32 #[.slice A1 n1 c1, .slice A2 n2 c2, .slice A3 n3 c3, .slice A4 n4 c4]).alloc (.cells #[.slice none 0 0, .slice none 0 0, .int .i64 0] 47)
  have hB3 := Blk.new ((w.alloc (.cells (LV.val ⟨A, n, c, D, m, d⟩ su) 47)).alloc (.cells #[.slice A1 n1 c1, .slice A2 n2 c2, .slice A3 n3 c3, .slice A4 n4 c4] 32)) 47 #[.slice none 0 0, .slice none 0 0, .int .i64 0]
  rw [World.size_alloc] at hB2
  rw [World.size_alloc, World.size_alloc] at hB3
  obtain ⟨w0, hw0⟩ : ∃ w0, w0 = ((w.alloc (.cells (LV.val ⟨A, n, c, D, m, d⟩ su) 47)).alloc (.cells #[.slice A1 n1 c1, .slice A2 n2 c2, .slice A3 n3 c3, .slice A4 n4 c4] 32)).alloc (.cells #[.slice none 0 0, .slice none 0 0, .int .i64 0] 47) := ⟨_, rfl⟩
  rw [← hw0] at hb0 hB1 hB2 hB3
  have HH := Lib.hid (h.go hb0)
  have HNN := Lib.hid (hN.go hb0)
  have HT := Lib.hid (hT.below hb0)
  have hm1 : m ≤ 1466015503659 := hsz.m1
  have h63 : m + 1 ≤ maxLen := by unfold maxLen; omega
  have hlt3 : w.heap.size + 2 < w0.heap.size := hB3.lt
  have HB3 := Lib.hid fun W (hb : Below w0.heap.size w0 W) => hB3.go hb
  have HQ := Lib.hid fun V (hb : Below w0.heap.size w0 V) => (show (V.cell? ⟨w.heap.size, 0, none⟩ = some (.slice A n c) ∧ V.cell? ⟨w.heap.size, 1, none⟩ = some (.slice D m d) ∧ V.cell? ⟨w.heap.size, 2, none⟩ = some (.int .i64 su)) ∧
      (V.cell? ⟨w.heap.size + 1, 0, none⟩ = some (.slice A1 n1 c1) ∧ V.cell? ⟨w.heap.size + 1, 1, none⟩ = some (.slice A2 n2 c2) ∧ V.cell? ⟨w.heap.size + 1, 2, none⟩ = some (.slice A3 n3 c3) ∧ V.cell? ⟨w.heap.size + 1, 3, none⟩ = some (.slice A4 n4 c4)) from
    ⟨⟨(hB1.go hb).cell 0, (hB1.go hb).cell 1, (hB1.go hb).cell 2⟩, ⟨(hB2.go hb).cell 0, (hB2.go hb).cell 1, (hB2.go hb).cell 2, (hB2.go hb).cell 3⟩⟩)
  have HB0 := Lib.hid hb0
  have HW := Lib.hid hw0.symm
  have HFIN := Lib.hid fun V W (k : Below w0.heap.size w0 V) (hg : V.grownBy W (some (w.heap.size + 2))) => (show Below w.heap.size w W from (below_then HB0.out (Nat.le_refl _) k).trans (grown_below hg (Nat.le_trans HB0.out.size k.size) (fun j hj => by cases hj; omega)))

  have G1 := Lib.hid (lgWalkR_any ⟨A, n, c, D, m, d⟩ b L su w0 HT.out HH.out)
  have G2 := Lib.hid fun (V : World) (hv : Below w0.heap.size w0 V) => noteFormed_any ⟨A1, n1, c1, A2, n2, c2, A3, n3, c3, A4, n4, c4⟩ x V (HT.out.below hv) (HNN.out.go hv)
  have G3 := Lib.hid fun (V : World) (hv : Below w0.heap.size w0 V) K k c q (hl : q.length = k) (hR : Rd V V.heap.size 2 K k c (sv q)) => fits_any ⟨A1, n1, c1, A2, n2, c2, A3, n3, c3, A4, n4, c4⟩ x K k c q V (HT.out.below hv) (HNN.out.go hv) hl hR
  have G4 := Lib.hid fun (V : World) (hv : Below w0.heap.size w0 V) => lgOwn_own ⟨A, n, c, D, m, d⟩ b L su V (HH.out.go hv) hsz
  have G5 := Lib.hid fun (V : World) (hv : Below w0.heap.size w0 V) => ownNote_own ⟨A1, n1, c1, A2, n2, c2, A3, n3, c3, A4, n4, c4⟩ x V (HNN.out.go hv) hs
  have HE := Lib.hid (show appE b L su x = if (lgR b L su && ntF x) = true then (match lgW b (nts L) with | some q => if ntFits x q = true then 0 else 3 | none => 1) else 1 from rfl)
  have k : Below w0.heap.size w0 w0 := Below.refl _ _
  obtain ⟨⟨q0, q1, q2⟩, ⟨p0, p1, p2, p3⟩⟩ := HQ.out _ k
  clear h hb0 hb1 hb2 hB1 hB2 hB3 hw0 hN hT hi
  go_enter Tryd.func34, Tryd.ntmps34
  go_wp2_with fail
  rw [HW.out]
  refine G1.out.mono ?_
  rintro e w1 (⟨q, K, kc, hr, hq, rfl, hR, hb1⟩ | ⟨hr, K, kn, kc, rfl, hb1⟩)
  rotate_left
  · have HER := Lib.hid (show appE b L su x = 1 by rw [HE.out, hr]; rfl)
    have k := below_then k (Nat.le_refl _) hb1
    clear hr hb1 q0 q1 q2 p0 p1 p2 p3
    obtain ⟨⟨q0, q1, q2⟩, ⟨p0, p1, p2, p3⟩⟩ := HQ.out _ k
    go_wp2_with (refine wpList_store_blk rfl 47 _ _ rfl (w.heap.size + 2) 47 _ #[.slice none 0 0, .slice none 0 0, .int .i64 0] rfl rfl (HB3.out _ k) HI.out rfl (by simp [Value.oneCell']) ?_; intro W hblk hg)
    refine bodyPost_ret (results_cell_tmp rfl _ _ (w.heap.size + 2) 47 _ _ _ rfl hblk Tryd.underlying47 rfl HI.out) rfl (AppP.no 1 HER.out (by decide) ?_ (HFIN.out _ _ k hg)) <;> rfl
  · have k := below_then k (Nat.le_refl _) hb1
    clear q0 q1 q2 p0 p1 p2 p3
    obtain ⟨⟨q0, q1, q2⟩, ⟨p0, p1, p2, p3⟩⟩ := HQ.out _ k
    have HRQ := Lib.hid hR
    obtain ⟨qn, hqn⟩ : ∃ qn, qn = q.length := ⟨_, rfl⟩
    rw [← hqn] at HRQ ⊢
    have HQN := Lib.hid hqn.symm
    have HB1 := Lib.hid hb1
    have G3 := Lib.hid fun (V : World) (hv : Below w0.heap.size w0 V) (hv2 : Below w1.heap.size w1 V) => G3.out V hv K qn kc q HQN.out (HRQ.out.go hv2)
    have kk := Below.refl w1.heap.size w1
    clear hqn hR
    have HR := Lib.hid hr
    have HQQ := Lib.hid hq
    clear hr hq hb1
    have HF := Lib.hid (G2.out w1 k)
    rcases hf : ntF x with _ | _
    · have HER := Lib.hid (show appE b L su x = 1 by rw [HE.out, hf, Bool.and_false]; rfl)
      rw [hf] at HF
      clear hf
      go_wp2_with fail
      refine HF.out.mono ?_
      rintro e w2 ⟨rfl, hb2⟩
      have k := below_then k (Nat.le_refl _) hb2
      clear hb2 q0 q1 q2 p0 p1 p2 p3
      obtain ⟨⟨q0, q1, q2⟩, ⟨p0, p1, p2, p3⟩⟩ := HQ.out _ k
      go_wp2_with (refine wpList_store_blk rfl 47 _ _ rfl (w.heap.size + 2) 47 _ #[.slice none 0 0, .slice none 0 0, .int .i64 0] rfl rfl (HB3.out _ k) HI.out rfl (by simp [Value.oneCell']) ?_; intro W hblk hg)
      refine bodyPost_ret (results_cell_tmp rfl _ _ (w.heap.size + 2) 47 _ _ _ rfl hblk Tryd.underlying47 rfl HI.out) rfl (AppP.no 1 HER.out (by decide) ?_ (HFIN.out _ _ k hg)) <;> rfl
    · have HE2 := Lib.hid (show appE b L su x = if ntFits x q = true then 0 else 3 by rw [HE.out, HR.out, hf, HQQ.out]; rfl)
      rw [hf] at HF
      clear hf
      go_wp2_with fail
      refine HF.out.mono ?_
      rintro e w2 ⟨rfl, hb2⟩
      have k := below_then k (Nat.le_refl _) hb2
      have kk := below_then kk (Nat.le_refl _) hb2
      have HT3 := Lib.hid (G3.out w2 k kk)
      clear hb2 q0 q1 q2 p0 p1 p2 p3
      obtain ⟨⟨q0, q1, q2⟩, ⟨p0, p1, p2, p3⟩⟩ := HQ.out _ k
      rcases ht : ntFits x q with _ | _
      · have HER := Lib.hid (show appE b L su x = 3 by rw [HE2.out, ht]; rfl)
        rw [ht] at HT3
        clear ht
        go_wp2_with fail
        refine HT3.out.mono ?_
        rintro e w3 ⟨rfl, hb3⟩
        have k := below_then k (Nat.le_refl _) hb3
        clear hb3 q0 q1 q2 p0 p1 p2 p3 kk
        go_wp2_with (refine wpList_store_blk rfl 47 _ _ rfl (w.heap.size + 2) 47 _ #[.slice none 0 0, .slice none 0 0, .int .i64 0] rfl rfl (HB3.out _ k) HI.out rfl (by simp [Value.oneCell']) ?_; intro W hblk hg)
        refine bodyPost_ret (results_cell_tmp rfl _ _ (w.heap.size + 2) 47 _ _ _ rfl hblk Tryd.underlying47 rfl HI.out) rfl (AppP.no 3 HER.out (by decide) ?_ (HFIN.out _ _ k hg)) <;> rfl
      · have HER := Lib.hid (show appE b L su x = 0 by rw [HE2.out, ht]; rfl)
        rw [ht] at HT3
        clear ht
        go_wp2_with fail
        refine HT3.out.mono ?_
        rintro e w3 ⟨rfl, hb3⟩
        have k := below_then k (Nat.le_refl _) hb3
        clear hb3 q0 q1 q2 p0 p1 p2 p3 kk
        obtain ⟨⟨q0, q1, q2⟩, ⟨p0, p1, p2, p3⟩⟩ := HQ.out _ k
        go_wp2_with fail
        refine (G4.out _ k).mono ?_
        rintro e w4 ⟨⟨A', n', c', D', m', d'⟩, L', rfl, hO, hnL, hb4⟩
        have CP := Lib.hid (CpS.start (su := su) hO (below_then k (Nat.le_refl _) hb4) k.size)
        have e1 : L.length = m := HH.out.ns.len
        have e2 : L'.length = m' := hO.len
        have e3 := congrArg List.length hnL
        rw [nts_len, nts_len] at e3
        have hm' : m' = m := by omega
        subst hm'
        have HLL := Lib.hid e2
        clear e1 e2 e3
        have HNL := Lib.hid hnL
        have HL1 := Lib.hid hO.l1
        have k := below_then k (Nat.le_refl _) hb4
        obtain ⟨g, hg⟩ : ∃ g, g = w4.heap.size := ⟨_, rfl⟩
        clear hO hnL hb4 q0 q1 q2 p0 p1 p2 p3
        go_upto_region 7 with fail
        obtain ⟨W, hW⟩ : ∃ W, W = w4.alloc (.cells (LV.val ⟨A', n', c', D', m', d'⟩ su) 47) := ⟨_, rfl⟩
        try dsimp only at CP
        rw [← hg, ← hW] at CP
        rw [← hg]
        simp only [LV.val] at hW
        rw [← hW]
        clear hW hg k
        have CP := Lib.hid CP.out.drew
        have k := CP.out.bl
        refine region_nrm fun KK hKK => ?_
        refine wp_region_held_drew (S := (fun V => V.cell? ⟨w.heap.size + 1, 0, none⟩ = some (.slice A1 n1 c1) ∧ V.cell? ⟨w.heap.size + 1, 1, none⟩ = some (.slice A2 n2 c2) ∧ V.cell? ⟨w.heap.size + 1, 2, none⟩ = some (.slice A3 n3 c3) ∧ V.cell? ⟨w.heap.size + 1, 3, none⟩ = some (.slice A4 n4 c4))) (by kernel_rfl) (by first | exact (HQ.out _ k).2) (fun hHeld => ?_)
        refine wpAnyH_putD (i := 0) (d := 29) (v := ?_) rfl rfl (by kernel_rfl) (by kernel_rfl) (by kernel_rfl) (fun _ _ _ h => h) (Or.inl ⟨by kernel_rfl, ?_⟩) (by first | exact (HQ.out _ k).2) ?_
        rotate_left
        · (intro w hS; (try dsimp only at hS); go_simp <;> with_reducible rfl)
        try simp only [List.setIfInBounds_toArray, List.set_cons_zero, List.set_cons_succ]
        refine wpAnyH_putD (i := 2) (d := 31) (v := ?_) rfl rfl (by kernel_rfl) (by kernel_rfl) (by kernel_rfl) (fun _ _ _ h => h) (Or.inl ⟨by kernel_rfl, ?_⟩) (by first | exact (HQ.out _ k).2) ?_
        rotate_left
        · (intro w hS; (try dsimp only at hS); go_simp <;> with_reducible rfl)
        try simp only [List.setIfInBounds_toArray, List.set_cons_zero, List.set_cons_succ]
        refine wpAnyH_ready (rs := [1, 3]) (by kernel_rfl) (by simp) ?_
        refine AllReadyH.cons rfl (fun K hK => ?_) (AllReadyH.cons rfl (fun K hK => ?_) AllReadyH.nil)
        · have qg := CP.out.blk.cell 1
          go_simp
          clear qg
          refine hK.out _ _ (by first | exact (HQ.out _ k).2) (fun hHeld => ?_)
          clear hK K
          refine wpAnyH_ready (rs := [3]) (by kernel_rfl) (by simp) ?_
          refine AllReadyH.cons rfl (fun K hK => ?_) AllReadyH.nil
          go_simp
          refine (G5.out _ k).mono ?_
          rintro e W1 ⟨⟨E1, e1, f1, E2, e2, f2, E3, e3, f3, E4, e4, f4⟩, rfl, hno, hb'⟩
          have NO := Lib.hid (hno.less k.size)
          have CP := Lib.hid (CP.out.below hb')
          have k := below_then k (Nat.le_refl _) hb'
          clear hno hb'
          refine hK.out _ _ (by first | exact (HQ.out _ k).2) (fun hHeld => ?_)
          clear hK K
          refine wpAnyH_ready (rs := [4]) (by kernel_rfl) (by simp) ?_
          refine AllReadyH.cons rfl (fun K hK => ?_) AllReadyH.nil
          go_simp
          have hb' := then_alloc k (.cells #[.slice E1 e1 f1, .slice E2 e2 f2, .slice E3 e3 f3, .slice E4 e4 f4] 32)
          have RN := Lib.hid (newRow 4 1 hb' rfl (by unfold maxLen; omega))
          have NO := Lib.hid (NO.out.below hb')
          have CP := Lib.hid (CP.out.below hb')
          have k := below_then k (Nat.le_refl _) hb'
          clear hb'
          refine hK.out _ _ (by first | exact (HQ.out _ k).2) (fun hHeld => ?_)
          clear hK K
          refine wpAnyH_ready (rs := [5]) (by kernel_rfl) (by simp) ?_
          refine AllReadyH.cons rfl (fun K hK => ?_) AllReadyH.nil
          rw [if_pos (by kernel_rfl)]
          refine wp_append_rd _ (.tmp 30) (.tmp 33) _ rfl w0.heap.size 32 i0 _ 4 96 Tryd.underlying45 hi0 hz0 hz1 hz2 rfl (by decide) (.slice D' m' d') m' _ rfl CP.out.o2 _ _ 1 1 _ rfl RN.out (ntv_oneCell ⟨E1, e1, f1, E2, e2, f2, E3, e3, f3, E4, e4, f4⟩) h63 (by omega) k.size ?_
          intro D2 d2 W3 ho hg hat
          have CP2 := Lib.hid (CpS.app CP.out NO.out ho hg)
          have HB := Lib.hid (CP.out.blk.grown hg (blk_ne CP.out.blk CP.out.o2 (by decide)))
          have k := k.trans (grown_below hg k.size (fun j hj => own_lt CP.out.o2 j hj))
          clear ho hg hat CP NO RN
          refine hK.out _ _ (by first | exact (HQ.out _ k).2) (fun hHeld => ?_)
          clear hK K
          refine wpAnyH_putD (i := 6) (d := 35) (v := ?_) rfl rfl (by kernel_rfl) (by kernel_rfl) (by kernel_rfl) (fun _ _ _ h => h) (Or.inl ⟨by kernel_rfl, ?_⟩) (by first | exact (HQ.out _ k).2) ?_
          rotate_left
          · (intro w hS; (try dsimp only at hS); go_simp <;> with_reducible rfl)
          try simp only [List.setIfInBounds_toArray, List.set_cons_zero, List.set_cons_succ]
          refine wpAnyH_ready (rs := [7]) (by kernel_rfl) (by simp) ?_
          refine AllReadyH.cons rfl (fun K hK => ?_) AllReadyH.nil
          have qg := HB.out.cell 1
          have qf := HB.out.frozen 1
          go_simp
          clear qg qf
          have k := CP2.out.bl
          refine hK.out _ _ (by first | exact (HQ.out _ k).2) (fun hHeld => ?_)
          clear hK K
          refine wpAnyH_done (by kernel_rfl) ?_ _
          refine Nrm.out (hKK _ _ ?_)
          have r0 := CP2.out.blk.cell 0
          have r1 := CP2.out.blk.cell 1
          have r2 := CP2.out.blk.cell 2
          go_wp2_with (refine wpList_store_blk rfl 47 _ _ rfl (w.heap.size + 2) 47 _ #[.slice A' n' c', .slice D2 (m' + 1) d2, .int .i64 su] rfl rfl (HB3.out _ k) HI.out rfl (by simp [Value.oneCell']) ?_; intro W hblk hg)
          have o1 := CP2.out.o1
          have o2 := CP2.out.o2
          have ol := CP2.out.each
          refine bodyPost_ret (results_cell_tmp rfl _ _ (w.heap.size + 2) 47 _ _ _ rfl hblk Tryd.underlying47 rfl HI.out) rfl (AppP.yes ⟨A', n', c', D2, m' + 1, d2⟩ _ HER.out ?_ (LgOwn.rd (LgOwn.far ⟨HL1.out, o1, ?_, o2, ol⟩ hg hlt3)) ?_ (HFIN.out _ _ k hg))
          · rfl
          · rw [List.length_append, HLL.out]; rfl
          · rw [nts_snoc, HNL.out]
        · go_simp
          refine (G5.out _ k).mono ?_
          rintro e W1 ⟨⟨E1, e1, f1, E2, e2, f2, E3, e3, f3, E4, e4, f4⟩, rfl, hno, hb'⟩
          have NO := Lib.hid (hno.less k.size)
          have CP := Lib.hid (CP.out.below hb')
          have k := below_then k (Nat.le_refl _) hb'
          clear hno hb'
          refine hK.out _ _ (by first | exact (HQ.out _ k).2) (fun hHeld => ?_)
          clear hK K
          refine wpAnyH_ready (rs := [1, 4]) (by kernel_rfl) (by simp) ?_
          refine AllReadyH.cons rfl (fun K hK => ?_) (AllReadyH.cons rfl (fun K hK => ?_) AllReadyH.nil)
          · have qg := CP.out.blk.cell 1
            go_simp
            clear qg
            refine hK.out _ _ (by first | exact (HQ.out _ k).2) (fun hHeld => ?_)
            clear hK K
            refine wpAnyH_ready (rs := [4]) (by kernel_rfl) (by simp) ?_
            refine AllReadyH.cons rfl (fun K hK => ?_) AllReadyH.nil
            go_simp
            have hb' := then_alloc k (.cells #[.slice E1 e1 f1, .slice E2 e2 f2, .slice E3 e3 f3, .slice E4 e4 f4] 32)
            have RN := Lib.hid (newRow 4 1 hb' rfl (by unfold maxLen; omega))
            have NO := Lib.hid (NO.out.below hb')
            have CP := Lib.hid (CP.out.below hb')
            have k := below_then k (Nat.le_refl _) hb'
            clear hb'
            refine hK.out _ _ (by first | exact (HQ.out _ k).2) (fun hHeld => ?_)
            clear hK K
            refine wpAnyH_ready (rs := [5]) (by kernel_rfl) (by simp) ?_
            refine AllReadyH.cons rfl (fun K hK => ?_) AllReadyH.nil
            rw [if_pos (by kernel_rfl)]
            refine wp_append_rd _ (.tmp 30) (.tmp 33) _ rfl w0.heap.size 32 i0 _ 4 96 Tryd.underlying45 hi0 hz0 hz1 hz2 rfl (by decide) (.slice D' m' d') m' _ rfl CP.out.o2 _ _ 1 1 _ rfl RN.out (ntv_oneCell ⟨E1, e1, f1, E2, e2, f2, E3, e3, f3, E4, e4, f4⟩) h63 (by omega) k.size ?_
            intro D2 d2 W3 ho hg hat
            have CP2 := Lib.hid (CpS.app CP.out NO.out ho hg)
            have HB := Lib.hid (CP.out.blk.grown hg (blk_ne CP.out.blk CP.out.o2 (by decide)))
            have k := k.trans (grown_below hg k.size (fun j hj => own_lt CP.out.o2 j hj))
            clear ho hg hat CP NO RN
            refine hK.out _ _ (by first | exact (HQ.out _ k).2) (fun hHeld => ?_)
            clear hK K
            refine wpAnyH_putD (i := 6) (d := 35) (v := ?_) rfl rfl (by kernel_rfl) (by kernel_rfl) (by kernel_rfl) (fun _ _ _ h => h) (Or.inl ⟨by kernel_rfl, ?_⟩) (by first | exact (HQ.out _ k).2) ?_
            rotate_left
            · (intro w hS; (try dsimp only at hS); go_simp <;> with_reducible rfl)
            try simp only [List.setIfInBounds_toArray, List.set_cons_zero, List.set_cons_succ]
            refine wpAnyH_ready (rs := [7]) (by kernel_rfl) (by simp) ?_
            refine AllReadyH.cons rfl (fun K hK => ?_) AllReadyH.nil
            have qg := HB.out.cell 1
            have qf := HB.out.frozen 1
            go_simp
            clear qg qf
            have k := CP2.out.bl
            refine hK.out _ _ (by first | exact (HQ.out _ k).2) (fun hHeld => ?_)
            clear hK K
            refine wpAnyH_done (by kernel_rfl) ?_ _
            refine Nrm.out (hKK _ _ ?_)
            have r0 := CP2.out.blk.cell 0
            have r1 := CP2.out.blk.cell 1
            have r2 := CP2.out.blk.cell 2
            go_wp2_with (refine wpList_store_blk rfl 47 _ _ rfl (w.heap.size + 2) 47 _ #[.slice A' n' c', .slice D2 (m' + 1) d2, .int .i64 su] rfl rfl (HB3.out _ k) HI.out rfl (by simp [Value.oneCell']) ?_; intro W hblk hg)
            have o1 := CP2.out.o1
            have o2 := CP2.out.o2
            have ol := CP2.out.each
            refine bodyPost_ret (results_cell_tmp rfl _ _ (w.heap.size + 2) 47 _ _ _ rfl hblk Tryd.underlying47 rfl HI.out) rfl (AppP.yes ⟨A', n', c', D2, m' + 1, d2⟩ _ HER.out ?_ (LgOwn.rd (LgOwn.far ⟨HL1.out, o1, ?_, o2, ol⟩ hg hlt3)) ?_ (HFIN.out _ _ k hg))
            · rfl
            · rw [List.length_append, HLL.out]; rfl
            · rw [nts_snoc, HNL.out]
          · go_simp
            have hb' := then_alloc k (.cells #[.slice E1 e1 f1, .slice E2 e2 f2, .slice E3 e3 f3, .slice E4 e4 f4] 32)
            have RN := Lib.hid (newRow 4 1 hb' rfl (by unfold maxLen; omega))
            have NO := Lib.hid (NO.out.below hb')
            have CP := Lib.hid (CP.out.below hb')
            have k := below_then k (Nat.le_refl _) hb'
            clear hb'
            refine hK.out _ _ (by first | exact (HQ.out _ k).2) (fun hHeld => ?_)
            clear hK K
            refine wpAnyH_ready (rs := [1]) (by kernel_rfl) (by simp) ?_
            refine AllReadyH.cons rfl (fun K hK => ?_) AllReadyH.nil
            have qg := CP.out.blk.cell 1
            go_simp
            clear qg
            refine hK.out _ _ (by first | exact (HQ.out _ k).2) (fun hHeld => ?_)
            clear hK K
            refine wpAnyH_ready (rs := [5]) (by kernel_rfl) (by simp) ?_
            refine AllReadyH.cons rfl (fun K hK => ?_) AllReadyH.nil
            rw [if_pos (by kernel_rfl)]
            refine wp_append_rd _ (.tmp 30) (.tmp 33) _ rfl w0.heap.size 32 i0 _ 4 96 Tryd.underlying45 hi0 hz0 hz1 hz2 rfl (by decide) (.slice D' m' d') m' _ rfl CP.out.o2 _ _ 1 1 _ rfl RN.out (ntv_oneCell ⟨E1, e1, f1, E2, e2, f2, E3, e3, f3, E4, e4, f4⟩) h63 (by omega) k.size ?_
            intro D2 d2 W3 ho hg hat
            have CP2 := Lib.hid (CpS.app CP.out NO.out ho hg)
            have HB := Lib.hid (CP.out.blk.grown hg (blk_ne CP.out.blk CP.out.o2 (by decide)))
            have k := k.trans (grown_below hg k.size (fun j hj => own_lt CP.out.o2 j hj))
            clear ho hg hat CP NO RN
            refine hK.out _ _ (by first | exact (HQ.out _ k).2) (fun hHeld => ?_)
            clear hK K
            refine wpAnyH_putD (i := 6) (d := 35) (v := ?_) rfl rfl (by kernel_rfl) (by kernel_rfl) (by kernel_rfl) (fun _ _ _ h => h) (Or.inl ⟨by kernel_rfl, ?_⟩) (by first | exact (HQ.out _ k).2) ?_
            rotate_left
            · (intro w hS; (try dsimp only at hS); go_simp <;> with_reducible rfl)
            try simp only [List.setIfInBounds_toArray, List.set_cons_zero, List.set_cons_succ]
            refine wpAnyH_ready (rs := [7]) (by kernel_rfl) (by simp) ?_
            refine AllReadyH.cons rfl (fun K hK => ?_) AllReadyH.nil
            have qg := HB.out.cell 1
            have qf := HB.out.frozen 1
            go_simp
            clear qg qf
            have k := CP2.out.bl
            refine hK.out _ _ (by first | exact (HQ.out _ k).2) (fun hHeld => ?_)
            clear hK K
            refine wpAnyH_done (by kernel_rfl) ?_ _
            refine Nrm.out (hKK _ _ ?_)
            have r0 := CP2.out.blk.cell 0
            have r1 := CP2.out.blk.cell 1
            have r2 := CP2.out.blk.cell 2
            go_wp2_with (refine wpList_store_blk rfl 47 _ _ rfl (w.heap.size + 2) 47 _ #[.slice A' n' c', .slice D2 (m' + 1) d2, .int .i64 su] rfl rfl (HB3.out _ k) HI.out rfl (by simp [Value.oneCell']) ?_; intro W hblk hg)
            have o1 := CP2.out.o1
            have o2 := CP2.out.o2
            have ol := CP2.out.each
            refine bodyPost_ret (results_cell_tmp rfl _ _ (w.heap.size + 2) 47 _ _ _ rfl hblk Tryd.underlying47 rfl HI.out) rfl (AppP.yes ⟨A', n', c', D2, m' + 1, d2⟩ _ HER.out ?_ (LgOwn.rd (LgOwn.far ⟨HL1.out, o1, ?_, o2, ol⟩ hg hlt3)) ?_ (HFIN.out _ _ k hg))
            · rfl
            · rw [List.length_append, HLL.out]; rfl
            · rw [nts_snoc, HNL.out]

set_option maxHeartbeats 16000000 in
theorem refLgAppend_any (v : LV) (b : List Vc.St) (L : List (NV × Nt)) (su : Int) (v2 : NV) (x : Nt) (w : World) (hT : Tab w) (h : LgRd w v b L) (hsz : LgSz v L) (hN : NtRd w w.heap.size v2 x) (hs : NtSz v2) :
    Calls Tryd.prog 35 #[.agg (v.val su), .agg v2.val] w (AppP w b L su x) := by
  obtain ⟨hzz, hi⟩ := zero_of_info log_zero
  have HI := Lib.hid hi
  obtain ⟨i0, hi0, hz0, hz1, hz2⟩ := info_parts noteE_info
  obtain ⟨A, n, c, D, m, d⟩ := v
  obtain ⟨A1, n1, c1, A2, n2, c2, A3, n3, c3, A4, n4, c4⟩ := v2
  have hb1 : Below w.heap.size w (w.alloc (.cells (LV.val ⟨A, n, c, D, m, d⟩ su) 47)) := (Below.refl _ _).alloc (Nat.le_refl _) _
  have hb2 : Below w.heap.size w ((w.alloc (.cells (LV.val ⟨A, n, c, D, m, d⟩ su) 47)).alloc (.cells #[.slice A1 n1 c1, .slice A2 n2 c2, .slice A3 n3 c3, .slice A4 n4 c4] 32)) := hb1.alloc hb1.size _
  have hb0 : Below w.heap.size w (((w.alloc (.cells (LV.val ⟨A, n, c, D, m, d⟩ su) 47)).alloc (.cells #[.slice A1 n1 c1, .slice A2 n2 c2, .slice A3 n3 c3, .slice A4 n4 c4] 32)).alloc (.cells #[.slice none 0 0, .slice none 0 0, .int .i64 0] 47)) := hb2.alloc hb2.size _
  have hB1 := ((Blk.new w 47 (LV.val ⟨A, n, c, D, m, d⟩ su)).alloc (.cells #[.slice A1 n1 c1, .slice A2 n2 c2, .slice A3 n3 c3, .slice A4 n4 c4] 32)).alloc (.cells #[.slice none 0 0, .slice none 0 0, .int .i64 0] 47)
  have hB2 := (Blk.new (w.alloc (.cells (LV.val ⟨A, n, c, D, m, d⟩ su) 47)) 32 #[.slice A1 n1 c1, .slice A2 n2 c2, .slice A3 n3 c3, .slice A4 n4 c4]).alloc (.cells #[.slice none 0 0, .slice none 0 0, .int .i64 0] 47)
  have hB3 := Blk.new ((w.alloc (.cells (LV.val ⟨A, n, c, D, m, d⟩ su) 47)).alloc (.cells #[.slice A1 n1 c1, .slice A2 n2 c2, .slice A3 n3 c3, .slice A4 n4 c4] 32)) 47 #[.slice none 0 0, .slice none 0 0, .int .i64 0]
  rw [World.size_alloc] at hB2
  rw [World.size_alloc, World.size_alloc] at hB3
  obtain ⟨w0, hw0⟩ : ∃ w0, w0 = ((w.alloc (.cells (LV.val ⟨A, n, c, D, m, d⟩ su) 47)).alloc (.cells #[.slice A1 n1 c1, .slice A2 n2 c2, .slice A3 n3 c3, .slice A4 n4 c4] 32)).alloc (.cells #[.slice none 0 0, .slice none 0 0, .int .i64 0] 47) := ⟨_, rfl⟩
  rw [← hw0] at hb0 hB1 hB2 hB3
  have HH := Lib.hid (h.go hb0)
  have HNN := Lib.hid (hN.go hb0)
  have HT := Lib.hid (hT.below hb0)
  have hm1 : m ≤ 1466015503659 := hsz.m1
  have h63 : m + 1 ≤ maxLen := by unfold maxLen; omega
  have hlt3 : w.heap.size + 2 < w0.heap.size := hB3.lt
  have HB3 := Lib.hid fun W (hb : Below w0.heap.size w0 W) => hB3.go hb
  have HQ := Lib.hid fun V (hb : Below w0.heap.size w0 V) => (show (V.cell? ⟨w.heap.size, 0, none⟩ = some (.slice A n c) ∧ V.cell? ⟨w.heap.size, 1, none⟩ = some (.slice D m d) ∧ V.cell? ⟨w.heap.size, 2, none⟩ = some (.int .i64 su)) ∧
      (V.cell? ⟨w.heap.size + 1, 0, none⟩ = some (.slice A1 n1 c1) ∧ V.cell? ⟨w.heap.size + 1, 1, none⟩ = some (.slice A2 n2 c2) ∧ V.cell? ⟨w.heap.size + 1, 2, none⟩ = some (.slice A3 n3 c3) ∧ V.cell? ⟨w.heap.size + 1, 3, none⟩ = some (.slice A4 n4 c4)) from
    ⟨⟨(hB1.go hb).cell 0, (hB1.go hb).cell 1, (hB1.go hb).cell 2⟩, ⟨(hB2.go hb).cell 0, (hB2.go hb).cell 1, (hB2.go hb).cell 2, (hB2.go hb).cell 3⟩⟩)
  have HB0 := Lib.hid hb0
  have HW := Lib.hid hw0.symm
  have HFIN := Lib.hid fun V W (k : Below w0.heap.size w0 V) (hg : V.grownBy W (some (w.heap.size + 2))) => (show Below w.heap.size w W from (below_then HB0.out (Nat.le_refl _) k).trans (grown_below hg (Nat.le_trans HB0.out.size k.size) (fun j hj => by cases hj; omega)))

  have G1 := Lib.hid (refLgFormed_any ⟨A, n, c, D, m, d⟩ b L su w0 HH.out)
  have G2 := Lib.hid fun (V : World) (hv : Below w0.heap.size w0 V) => refNoteFormed_any ⟨A1, n1, c1, A2, n2, c2, A3, n3, c3, A4, n4, c4⟩ x V (HNN.out.go hv)
  have G2b := Lib.hid fun (V : World) (hv : Below w0.heap.size w0 V) => refLgKnown_any ⟨A, n, c, D, m, d⟩ b L su V (HH.out.go hv) hsz.n1
  have G3 := Lib.hid fun (V : World) (hv : Below w0.heap.size w0 V) K k c q (hl : q.length = k) (hR : Rd V V.heap.size 2 K k c (sv q)) => refFits_any ⟨A1, n1, c1, A2, n2, c2, A3, n3, c3, A4, n4, c4⟩ x K k c q V (HNN.out.go hv) hl hR
  have G4 := Lib.hid fun (V : World) (hv : Below w0.heap.size w0 V) => refLgCopy_own ⟨A, n, c, D, m, d⟩ b L su V (HH.out.go hv) hsz
  have G5 := Lib.hid fun (V : World) (hv : Below w0.heap.size w0 V) => refNtCopy_own ⟨A1, n1, c1, A2, n2, c2, A3, n3, c3, A4, n4, c4⟩ x V (HNN.out.go hv) hs
  have HE := Lib.hid (show appE b L su x = if (lgR b L su && ntF x) = true then (match lgW b (nts L) with | some q => if ntFits x q = true then 0 else 3 | none => 1) else 1 from rfl)
  have k : Below w0.heap.size w0 w0 := Below.refl _ _
  obtain ⟨⟨q0, q1, q2⟩, ⟨p0, p1, p2, p3⟩⟩ := HQ.out _ k
  clear h hb0 hb1 hb2 hB1 hB2 hB3 hw0 hN hT hi
  go_enter Tryd.func35, Tryd.ntmps35
  go_wp2_with fail
  rw [HW.out]
  refine G1.out.mono ?_
  rintro e w1 ⟨rfl, hb1⟩
  rcases hr : lgR b L su with _ | _
  · have HER := Lib.hid (show appE b L su x = 1 by rw [HE.out, hr]; rfl)
    have k := below_then k (Nat.le_refl _) hb1
    clear hr hb1 q0 q1 q2 p0 p1 p2 p3
    obtain ⟨⟨q0, q1, q2⟩, ⟨p0, p1, p2, p3⟩⟩ := HQ.out _ k
    go_wp2_with (refine wpList_store_blk rfl 47 _ _ rfl (w.heap.size + 2) 47 _ #[.slice none 0 0, .slice none 0 0, .int .i64 0] rfl rfl (HB3.out _ k) HI.out rfl (by simp [Value.oneCell']) ?_; intro W hblk hg)
    refine bodyPost_ret (results_cell_tmp rfl _ _ (w.heap.size + 2) 47 _ _ _ rfl hblk Tryd.underlying47 rfl HI.out) rfl (AppP.no 1 HER.out (by decide) ?_ (HFIN.out _ _ k hg)) <;> rfl
  · have k := below_then k (Nat.le_refl _) hb1
    clear q0 q1 q2 p0 p1 p2 p3
    obtain ⟨⟨q0, q1, q2⟩, ⟨p0, p1, p2, p3⟩⟩ := HQ.out _ k
    obtain ⟨_, q, hq⟩ := lgR_some hr
    have HR := Lib.hid hr
    have HQQ := Lib.hid hq
    clear hr hq hb1
    have HF := Lib.hid (G2.out w1 k)
    rcases hf : ntF x with _ | _
    · have HER := Lib.hid (show appE b L su x = 1 by rw [HE.out, hf, Bool.and_false]; rfl)
      rw [hf] at HF
      clear hf
      go_wp2_with fail
      refine HF.out.mono ?_
      rintro e w2 ⟨rfl, hb2⟩
      have k := below_then k (Nat.le_refl _) hb2
      clear hb2 q0 q1 q2 p0 p1 p2 p3
      obtain ⟨⟨q0, q1, q2⟩, ⟨p0, p1, p2, p3⟩⟩ := HQ.out _ k
      go_wp2_with (refine wpList_store_blk rfl 47 _ _ rfl (w.heap.size + 2) 47 _ #[.slice none 0 0, .slice none 0 0, .int .i64 0] rfl rfl (HB3.out _ k) HI.out rfl (by simp [Value.oneCell']) ?_; intro W hblk hg)
      refine bodyPost_ret (results_cell_tmp rfl _ _ (w.heap.size + 2) 47 _ _ _ rfl hblk Tryd.underlying47 rfl HI.out) rfl (AppP.no 1 HER.out (by decide) ?_ (HFIN.out _ _ k hg)) <;> rfl
    · have HE2 := Lib.hid (show appE b L su x = if ntFits x q = true then 0 else 3 by rw [HE.out, HR.out, hf, HQQ.out]; rfl)
      rw [hf] at HF
      clear hf
      go_wp2_with fail
      refine HF.out.mono ?_
      rintro e w2 ⟨rfl, hb2⟩
      have k := below_then k (Nat.le_refl _) hb2
      clear hb2 q0 q1 q2 p0 p1 p2 p3
      go_upto_region 3 with fail
      go_cut [20] (fun v20 wx => v20 = .bool (!ntFits x q) ∧ Below w0.heap.size w0 wx)
      case first =>
        have k := k.drew
        refine region_nrm fun KK hKK => ?_
        refine wp_region_held_drew (S := (fun V => (V.cell? ⟨w.heap.size, 0, none⟩ = some (.slice A n c) ∧ V.cell? ⟨w.heap.size, 1, none⟩ = some (.slice D m d) ∧ V.cell? ⟨w.heap.size, 2, none⟩ = some (.int .i64 su)) ∧ (V.cell? ⟨w.heap.size + 1, 0, none⟩ = some (.slice A1 n1 c1) ∧ V.cell? ⟨w.heap.size + 1, 1, none⟩ = some (.slice A2 n2 c2) ∧ V.cell? ⟨w.heap.size + 1, 2, none⟩ = some (.slice A3 n3 c3) ∧ V.cell? ⟨w.heap.size + 1, 3, none⟩ = some (.slice A4 n4 c4)))) (by kernel_rfl) (by first | exact HQ.out _ k) (fun hHeld => ?_)
        refine wpAnyH_putD (i := 0) (d := 16) (v := ?_) rfl rfl (by kernel_rfl) (by kernel_rfl) (by kernel_rfl) (fun _ _ _ h => h) (Or.inl ⟨by kernel_rfl, ?_⟩) (by first | exact HQ.out _ k) ?_
        rotate_left
        · (intro w hS; (try dsimp only at hS); go_simp <;> with_reducible rfl)
        try simp only [List.setIfInBounds_toArray, List.set_cons_zero, List.set_cons_succ]
        refine wpAnyH_putD (i := 1) (d := 17) (v := ?_) rfl rfl (by kernel_rfl) (by kernel_rfl) (by kernel_rfl) (fun _ _ _ h => h) (Or.inl ⟨by kernel_rfl, ?_⟩) (by first | exact HQ.out _ k) ?_
        rotate_left
        · (intro w hS; (try dsimp only at hS); go_simp <;> with_reducible rfl)
        try simp only [List.setIfInBounds_toArray, List.set_cons_zero, List.set_cons_succ]
        refine wpAnyH_ready (rs := [2]) (by kernel_rfl) (by simp) ?_
        refine AllReadyH.cons rfl (fun K hK => ?_) AllReadyH.nil
        go_simp
        refine (G2b.out _ k).mono ?_
        rintro e W1 (⟨_, q', Kx, kc, hq', rfl, hR, hb'⟩ | ⟨hn, _⟩)
        rotate_left
        · exact absurd (hn.symm.trans HR.out) (by decide)
        obtain rfl : q' = q := Option.some.inj (hq'.symm.trans HQQ.out)
        have k := below_then k (Nat.le_refl _) hb'
        have G3c := Lib.hid (G3.out W1 k Kx q'.length kc q' rfl hR)
        clear hb' hq' hR
        refine hK.out _ _ (by first | exact HQ.out _ k) (fun hHeld => ?_)
        clear hK K
        refine wpAnyH_ready (rs := [3]) (by kernel_rfl) (by simp) ?_
        refine AllReadyH.cons rfl (fun K hK => ?_) AllReadyH.nil
        go_simp
        refine G3c.out.mono ?_
        rintro e W2 ⟨rfl, hb'⟩
        have k := below_then k (Nat.le_refl _) hb'
        clear hb' G3c
        refine hK.out _ _ (by first | exact HQ.out _ k) (fun hHeld => ?_)
        clear hK K
        refine wpAnyH_putD (i := 4) (d := 20) (v := ?_) rfl rfl (by kernel_rfl) (by kernel_rfl) (by kernel_rfl) (fun _ _ _ h => h) (Or.inl ⟨by kernel_rfl, ?_⟩) (by first | exact HQ.out _ k) ?_
        rotate_left
        · (intro w hS; (try dsimp only at hS); go_simp <;> with_reducible rfl)
        try simp only [List.setIfInBounds_toArray, List.set_cons_zero, List.set_cons_succ]
        refine wpAnyH_done (by kernel_rfl) ?_ _
        refine Nrm.out (hKK _ _ ?_)
        go_wp2_with fail
        go_meet
        exact ⟨rfl, k⟩
      case rest =>
      obtain ⟨rfl, k⟩ := hcut
      obtain ⟨⟨q0, q1, q2⟩, ⟨p0, p1, p2, p3⟩⟩ := HQ.out _ k
      rcases ht : ntFits x q with _ | _
      · have HER := Lib.hid (show appE b L su x = 3 by rw [HE2.out, ht]; rfl)
        clear ht
        go_wp2_with (refine wpList_store_blk rfl 47 _ _ rfl (w.heap.size + 2) 47 _ #[.slice none 0 0, .slice none 0 0, .int .i64 0] rfl rfl (HB3.out _ k) HI.out rfl (by simp [Value.oneCell']) ?_; intro W hblk hg)
        refine bodyPost_ret (results_cell_tmp rfl _ _ (w.heap.size + 2) 47 _ _ _ rfl hblk Tryd.underlying47 rfl HI.out) rfl (AppP.no 3 HER.out (by decide) ?_ (HFIN.out _ _ k hg)) <;> rfl
      · have HER := Lib.hid (show appE b L su x = 0 by rw [HE2.out, ht]; rfl)
        clear ht
        go_wp2_with fail
        refine (G4.out _ k).mono ?_
        rintro e w4 ⟨⟨A', n', c', D', m', d'⟩, L', rfl, hO, hnL, hb4⟩
        have CP := Lib.hid (CpS.start (su := su) hO (below_then k (Nat.le_refl _) hb4) k.size)
        have e1 : L.length = m := HH.out.ns.len
        have e2 : L'.length = m' := hO.len
        have e3 := congrArg List.length hnL
        rw [nts_len, nts_len] at e3
        have hm' : m' = m := by omega
        subst hm'
        have HLL := Lib.hid e2
        clear e1 e2 e3
        have HNL := Lib.hid hnL
        have HL1 := Lib.hid hO.l1
        have k := below_then k (Nat.le_refl _) hb4
        obtain ⟨g, hg⟩ : ∃ g, g = w4.heap.size := ⟨_, rfl⟩
        clear hO hnL hb4 q0 q1 q2 p0 p1 p2 p3
        go_upto_region 6 with fail
        obtain ⟨W, hW⟩ : ∃ W, W = w4.alloc (.cells (LV.val ⟨A', n', c', D', m', d'⟩ su) 47) := ⟨_, rfl⟩
        try dsimp only at CP
        rw [← hg, ← hW] at CP
        rw [← hg]
        simp only [LV.val] at hW
        rw [← hW]
        clear hW hg k
        have CP := Lib.hid CP.out.drew
        have k := CP.out.bl
        refine region_nrm fun KK hKK => ?_
        refine wp_region_held_drew (S := (fun V => V.cell? ⟨w.heap.size + 1, 0, none⟩ = some (.slice A1 n1 c1) ∧ V.cell? ⟨w.heap.size + 1, 1, none⟩ = some (.slice A2 n2 c2) ∧ V.cell? ⟨w.heap.size + 1, 2, none⟩ = some (.slice A3 n3 c3) ∧ V.cell? ⟨w.heap.size + 1, 3, none⟩ = some (.slice A4 n4 c4))) (by kernel_rfl) (by first | exact (HQ.out _ k).2) (fun hHeld => ?_)
        refine wpAnyH_putD (i := 0) (d := 24) (v := ?_) rfl rfl (by kernel_rfl) (by kernel_rfl) (by kernel_rfl) (fun _ _ _ h => h) (Or.inl ⟨by kernel_rfl, ?_⟩) (by first | exact (HQ.out _ k).2) ?_
        rotate_left
        · (intro w hS; (try dsimp only at hS); go_simp <;> with_reducible rfl)
        try simp only [List.setIfInBounds_toArray, List.set_cons_zero, List.set_cons_succ]
        refine wpAnyH_putD (i := 2) (d := 26) (v := ?_) rfl rfl (by kernel_rfl) (by kernel_rfl) (by kernel_rfl) (fun _ _ _ h => h) (Or.inl ⟨by kernel_rfl, ?_⟩) (by first | exact (HQ.out _ k).2) ?_
        rotate_left
        · (intro w hS; (try dsimp only at hS); go_simp <;> with_reducible rfl)
        try simp only [List.setIfInBounds_toArray, List.set_cons_zero, List.set_cons_succ]
        refine wpAnyH_ready (rs := [1, 3]) (by kernel_rfl) (by simp) ?_
        refine AllReadyH.cons rfl (fun K hK => ?_) (AllReadyH.cons rfl (fun K hK => ?_) AllReadyH.nil)
        · have qg := CP.out.blk.cell 1
          go_simp
          clear qg
          refine hK.out _ _ (by first | exact (HQ.out _ k).2) (fun hHeld => ?_)
          clear hK K
          refine wpAnyH_ready (rs := [3]) (by kernel_rfl) (by simp) ?_
          refine AllReadyH.cons rfl (fun K hK => ?_) AllReadyH.nil
          go_simp
          refine (G5.out _ k).mono ?_
          rintro e W1 ⟨⟨E1, e1, f1, E2, e2, f2, E3, e3, f3, E4, e4, f4⟩, rfl, hno, hb'⟩
          have NO := Lib.hid (hno.less k.size)
          have CP := Lib.hid (CP.out.below hb')
          have k := below_then k (Nat.le_refl _) hb'
          clear hno hb'
          refine hK.out _ _ (by first | exact (HQ.out _ k).2) (fun hHeld => ?_)
          clear hK K
          refine wpAnyH_ready (rs := [4]) (by kernel_rfl) (by simp) ?_
          refine AllReadyH.cons rfl (fun K hK => ?_) AllReadyH.nil
          go_simp
          have hb' := then_alloc k (.cells #[.slice E1 e1 f1, .slice E2 e2 f2, .slice E3 e3 f3, .slice E4 e4 f4] 32)
          have RN := Lib.hid (newRow 4 1 hb' rfl (by unfold maxLen; omega))
          have NO := Lib.hid (NO.out.below hb')
          have CP := Lib.hid (CP.out.below hb')
          have k := below_then k (Nat.le_refl _) hb'
          clear hb'
          refine hK.out _ _ (by first | exact (HQ.out _ k).2) (fun hHeld => ?_)
          clear hK K
          refine wpAnyH_ready (rs := [5]) (by kernel_rfl) (by simp) ?_
          refine AllReadyH.cons rfl (fun K hK => ?_) AllReadyH.nil
          rw [if_pos (by kernel_rfl)]
          refine wp_append_rd _ (.tmp 25) (.tmp 28) _ rfl w0.heap.size 32 i0 _ 4 96 Tryd.underlying45 hi0 hz0 hz1 hz2 rfl (by decide) (.slice D' m' d') m' _ rfl CP.out.o2 _ _ 1 1 _ rfl RN.out (ntv_oneCell ⟨E1, e1, f1, E2, e2, f2, E3, e3, f3, E4, e4, f4⟩) h63 (by omega) k.size ?_
          intro D2 d2 W3 ho hg hat
          have CP2 := Lib.hid (CpS.app CP.out NO.out ho hg)
          have HB := Lib.hid (CP.out.blk.grown hg (blk_ne CP.out.blk CP.out.o2 (by decide)))
          have k := k.trans (grown_below hg k.size (fun j hj => own_lt CP.out.o2 j hj))
          clear ho hg hat CP NO RN
          refine hK.out _ _ (by first | exact (HQ.out _ k).2) (fun hHeld => ?_)
          clear hK K
          refine wpAnyH_putD (i := 6) (d := 30) (v := ?_) rfl rfl (by kernel_rfl) (by kernel_rfl) (by kernel_rfl) (fun _ _ _ h => h) (Or.inl ⟨by kernel_rfl, ?_⟩) (by first | exact (HQ.out _ k).2) ?_
          rotate_left
          · (intro w hS; (try dsimp only at hS); go_simp <;> with_reducible rfl)
          try simp only [List.setIfInBounds_toArray, List.set_cons_zero, List.set_cons_succ]
          refine wpAnyH_ready (rs := [7]) (by kernel_rfl) (by simp) ?_
          refine AllReadyH.cons rfl (fun K hK => ?_) AllReadyH.nil
          have qg := HB.out.cell 1
          have qf := HB.out.frozen 1
          go_simp
          clear qg qf
          have k := CP2.out.bl
          refine hK.out _ _ (by first | exact (HQ.out _ k).2) (fun hHeld => ?_)
          clear hK K
          refine wpAnyH_done (by kernel_rfl) ?_ _
          refine Nrm.out (hKK _ _ ?_)
          have r0 := CP2.out.blk.cell 0
          have r1 := CP2.out.blk.cell 1
          have r2 := CP2.out.blk.cell 2
          go_wp2_with (refine wpList_store_blk rfl 47 _ _ rfl (w.heap.size + 2) 47 _ #[.slice A' n' c', .slice D2 (m' + 1) d2, .int .i64 su] rfl rfl (HB3.out _ k) HI.out rfl (by simp [Value.oneCell']) ?_; intro W hblk hg)
          have o1 := CP2.out.o1
          have o2 := CP2.out.o2
          have ol := CP2.out.each
          refine bodyPost_ret (results_cell_tmp rfl _ _ (w.heap.size + 2) 47 _ _ _ rfl hblk Tryd.underlying47 rfl HI.out) rfl (AppP.yes ⟨A', n', c', D2, m' + 1, d2⟩ _ HER.out ?_ (LgOwn.rd (LgOwn.far ⟨HL1.out, o1, ?_, o2, ol⟩ hg hlt3)) ?_ (HFIN.out _ _ k hg))
          · rfl
          · rw [List.length_append, HLL.out]; rfl
          · rw [nts_snoc, HNL.out]
        · go_simp
          refine (G5.out _ k).mono ?_
          rintro e W1 ⟨⟨E1, e1, f1, E2, e2, f2, E3, e3, f3, E4, e4, f4⟩, rfl, hno, hb'⟩
          have NO := Lib.hid (hno.less k.size)
          have CP := Lib.hid (CP.out.below hb')
          have k := below_then k (Nat.le_refl _) hb'
          clear hno hb'
          refine hK.out _ _ (by first | exact (HQ.out _ k).2) (fun hHeld => ?_)
          clear hK K
          refine wpAnyH_ready (rs := [1, 4]) (by kernel_rfl) (by simp) ?_
          refine AllReadyH.cons rfl (fun K hK => ?_) (AllReadyH.cons rfl (fun K hK => ?_) AllReadyH.nil)
          · have qg := CP.out.blk.cell 1
            go_simp
            clear qg
            refine hK.out _ _ (by first | exact (HQ.out _ k).2) (fun hHeld => ?_)
            clear hK K
            refine wpAnyH_ready (rs := [4]) (by kernel_rfl) (by simp) ?_
            refine AllReadyH.cons rfl (fun K hK => ?_) AllReadyH.nil
            go_simp
            have hb' := then_alloc k (.cells #[.slice E1 e1 f1, .slice E2 e2 f2, .slice E3 e3 f3, .slice E4 e4 f4] 32)
            have RN := Lib.hid (newRow 4 1 hb' rfl (by unfold maxLen; omega))
            have NO := Lib.hid (NO.out.below hb')
            have CP := Lib.hid (CP.out.below hb')
            have k := below_then k (Nat.le_refl _) hb'
            clear hb'
            refine hK.out _ _ (by first | exact (HQ.out _ k).2) (fun hHeld => ?_)
            clear hK K
            refine wpAnyH_ready (rs := [5]) (by kernel_rfl) (by simp) ?_
            refine AllReadyH.cons rfl (fun K hK => ?_) AllReadyH.nil
            rw [if_pos (by kernel_rfl)]
            refine wp_append_rd _ (.tmp 25) (.tmp 28) _ rfl w0.heap.size 32 i0 _ 4 96 Tryd.underlying45 hi0 hz0 hz1 hz2 rfl (by decide) (.slice D' m' d') m' _ rfl CP.out.o2 _ _ 1 1 _ rfl RN.out (ntv_oneCell ⟨E1, e1, f1, E2, e2, f2, E3, e3, f3, E4, e4, f4⟩) h63 (by omega) k.size ?_
            intro D2 d2 W3 ho hg hat
            have CP2 := Lib.hid (CpS.app CP.out NO.out ho hg)
            have HB := Lib.hid (CP.out.blk.grown hg (blk_ne CP.out.blk CP.out.o2 (by decide)))
            have k := k.trans (grown_below hg k.size (fun j hj => own_lt CP.out.o2 j hj))
            clear ho hg hat CP NO RN
            refine hK.out _ _ (by first | exact (HQ.out _ k).2) (fun hHeld => ?_)
            clear hK K
            refine wpAnyH_putD (i := 6) (d := 30) (v := ?_) rfl rfl (by kernel_rfl) (by kernel_rfl) (by kernel_rfl) (fun _ _ _ h => h) (Or.inl ⟨by kernel_rfl, ?_⟩) (by first | exact (HQ.out _ k).2) ?_
            rotate_left
            · (intro w hS; (try dsimp only at hS); go_simp <;> with_reducible rfl)
            try simp only [List.setIfInBounds_toArray, List.set_cons_zero, List.set_cons_succ]
            refine wpAnyH_ready (rs := [7]) (by kernel_rfl) (by simp) ?_
            refine AllReadyH.cons rfl (fun K hK => ?_) AllReadyH.nil
            have qg := HB.out.cell 1
            have qf := HB.out.frozen 1
            go_simp
            clear qg qf
            have k := CP2.out.bl
            refine hK.out _ _ (by first | exact (HQ.out _ k).2) (fun hHeld => ?_)
            clear hK K
            refine wpAnyH_done (by kernel_rfl) ?_ _
            refine Nrm.out (hKK _ _ ?_)
            have r0 := CP2.out.blk.cell 0
            have r1 := CP2.out.blk.cell 1
            have r2 := CP2.out.blk.cell 2
            go_wp2_with (refine wpList_store_blk rfl 47 _ _ rfl (w.heap.size + 2) 47 _ #[.slice A' n' c', .slice D2 (m' + 1) d2, .int .i64 su] rfl rfl (HB3.out _ k) HI.out rfl (by simp [Value.oneCell']) ?_; intro W hblk hg)
            have o1 := CP2.out.o1
            have o2 := CP2.out.o2
            have ol := CP2.out.each
            refine bodyPost_ret (results_cell_tmp rfl _ _ (w.heap.size + 2) 47 _ _ _ rfl hblk Tryd.underlying47 rfl HI.out) rfl (AppP.yes ⟨A', n', c', D2, m' + 1, d2⟩ _ HER.out ?_ (LgOwn.rd (LgOwn.far ⟨HL1.out, o1, ?_, o2, ol⟩ hg hlt3)) ?_ (HFIN.out _ _ k hg))
            · rfl
            · rw [List.length_append, HLL.out]; rfl
            · rw [nts_snoc, HNL.out]
          · go_simp
            have hb' := then_alloc k (.cells #[.slice E1 e1 f1, .slice E2 e2 f2, .slice E3 e3 f3, .slice E4 e4 f4] 32)
            have RN := Lib.hid (newRow 4 1 hb' rfl (by unfold maxLen; omega))
            have NO := Lib.hid (NO.out.below hb')
            have CP := Lib.hid (CP.out.below hb')
            have k := below_then k (Nat.le_refl _) hb'
            clear hb'
            refine hK.out _ _ (by first | exact (HQ.out _ k).2) (fun hHeld => ?_)
            clear hK K
            refine wpAnyH_ready (rs := [1]) (by kernel_rfl) (by simp) ?_
            refine AllReadyH.cons rfl (fun K hK => ?_) AllReadyH.nil
            have qg := CP.out.blk.cell 1
            go_simp
            clear qg
            refine hK.out _ _ (by first | exact (HQ.out _ k).2) (fun hHeld => ?_)
            clear hK K
            refine wpAnyH_ready (rs := [5]) (by kernel_rfl) (by simp) ?_
            refine AllReadyH.cons rfl (fun K hK => ?_) AllReadyH.nil
            rw [if_pos (by kernel_rfl)]
            refine wp_append_rd _ (.tmp 25) (.tmp 28) _ rfl w0.heap.size 32 i0 _ 4 96 Tryd.underlying45 hi0 hz0 hz1 hz2 rfl (by decide) (.slice D' m' d') m' _ rfl CP.out.o2 _ _ 1 1 _ rfl RN.out (ntv_oneCell ⟨E1, e1, f1, E2, e2, f2, E3, e3, f3, E4, e4, f4⟩) h63 (by omega) k.size ?_
            intro D2 d2 W3 ho hg hat
            have CP2 := Lib.hid (CpS.app CP.out NO.out ho hg)
            have HB := Lib.hid (CP.out.blk.grown hg (blk_ne CP.out.blk CP.out.o2 (by decide)))
            have k := k.trans (grown_below hg k.size (fun j hj => own_lt CP.out.o2 j hj))
            clear ho hg hat CP NO RN
            refine hK.out _ _ (by first | exact (HQ.out _ k).2) (fun hHeld => ?_)
            clear hK K
            refine wpAnyH_putD (i := 6) (d := 30) (v := ?_) rfl rfl (by kernel_rfl) (by kernel_rfl) (by kernel_rfl) (fun _ _ _ h => h) (Or.inl ⟨by kernel_rfl, ?_⟩) (by first | exact (HQ.out _ k).2) ?_
            rotate_left
            · (intro w hS; (try dsimp only at hS); go_simp <;> with_reducible rfl)
            try simp only [List.setIfInBounds_toArray, List.set_cons_zero, List.set_cons_succ]
            refine wpAnyH_ready (rs := [7]) (by kernel_rfl) (by simp) ?_
            refine AllReadyH.cons rfl (fun K hK => ?_) AllReadyH.nil
            have qg := HB.out.cell 1
            have qf := HB.out.frozen 1
            go_simp
            clear qg qf
            have k := CP2.out.bl
            refine hK.out _ _ (by first | exact (HQ.out _ k).2) (fun hHeld => ?_)
            clear hK K
            refine wpAnyH_done (by kernel_rfl) ?_ _
            refine Nrm.out (hKK _ _ ?_)
            have r0 := CP2.out.blk.cell 0
            have r1 := CP2.out.blk.cell 1
            have r2 := CP2.out.blk.cell 2
            go_wp2_with (refine wpList_store_blk rfl 47 _ _ rfl (w.heap.size + 2) 47 _ #[.slice A' n' c', .slice D2 (m' + 1) d2, .int .i64 su] rfl rfl (HB3.out _ k) HI.out rfl (by simp [Value.oneCell']) ?_; intro W hblk hg)
            have o1 := CP2.out.o1
            have o2 := CP2.out.o2
            have ol := CP2.out.each
            refine bodyPost_ret (results_cell_tmp rfl _ _ (w.heap.size + 2) 47 _ _ _ rfl hblk Tryd.underlying47 rfl HI.out) rfl (AppP.yes ⟨A', n', c', D2, m' + 1, d2⟩ _ HER.out ?_ (LgOwn.rd (LgOwn.far ⟨HL1.out, o1, ?_, o2, ol⟩ hg hlt3)) ?_ (HFIN.out _ _ k hg))
            · rfl
            · rw [List.length_append, HLL.out]; rfl
            · rw [nts_snoc, HNL.out]
end Go.Proofs.YtldcgmnfohhjbaaDoor
