/- Walks over Sync and Cut of logs, the program's and the document's (printed by wip/tools/genLgI.py). -/
import Derived.Test.YtldcgmnfohhjbaaDoorLgH
namespace Go.Proofs.YtldcgmnfohhjbaaDoor
open Go.RowKit
set_option maxRecDepth 100000

def syE (b : List Vc.St) (L : List (NV × Nt)) (su : Int) : Int := if lgR b L su = true then 0 else 1
/-- Which log a Sync hands back. -/
def SyncP (w : World) (b : List Vc.St) (L : List (NV × Nt)) (su : Int) (e : Ending) (w' : World) : Prop :=
  ∃ v' L', e = .returned (.tuple #[.agg (LV.val v' (if syE b L su = 0 then (L.length : Int) else 0)), .int .i64 (syE b L su)]) ∧ LgRd w' v' (if syE b L su = 0 then b else []) L' ∧ nts L' = (if syE b L su = 0 then nts L else []) ∧ Below w.heap.size w w'
def kn (b : List Vc.St) (L : List (NV × Nt)) (su : Int) : List Vc.St := if lgR b L su = true then (lgW b (nts L)).getD [] else []
def CutP (w : World) (b : List Vc.St) (L : List (NV × Nt)) (su : Int) (e : Ending) (w' : World) : Prop :=
  ∃ v', e = .returned (.tuple #[.agg (LV.val v' 0), .int .i64 (syE b L su)]) ∧ LgRd w' v' (kn b L su) [] ∧ Below w.heap.size w w'
theorem SyncP.no {w w' : World} {b : List Vc.St} {L : List (NV × Nt)} {su : Int} {e : Ending} (hr : lgR b L su = false) (hee : e = .returned (.tuple #[.agg #[.slice none 0 0, .slice none 0 0, .int .i64 0], .int .i64 1])) (hb : Below w.heap.size w w') : SyncP w b L su e w' := by
  have he : syE b L su = 1 := by unfold syE; rw [hr]; rfl
  unfold SyncP
  rw [he, if_neg (by decide), if_neg (by decide), if_neg (by decide)]
  exact ⟨LV0, [], hee, LgRd.zero w', rfl, hb⟩
theorem SyncP.yes {w w' : World} {b : List Vc.St} {L L' : List (NV × Nt)} {su : Int} {e : Ending} (v' : LV) (hr : lgR b L su = true) (hee : e = .returned (.tuple #[.agg (v'.val (L.length : Int)), .int .i64 0])) (h : LgRd w' v' b L') (hn : nts L' = nts L) (hb : Below w.heap.size w w') : SyncP w b L su e w' := by
  have he : syE b L su = 0 := by unfold syE; rw [hr]; rfl
  unfold SyncP
  rw [he, if_pos rfl, if_pos rfl, if_pos rfl]
  exact ⟨v', L', hee, h, hn, hb⟩
theorem CutP.no {w w' : World} {b : List Vc.St} {L : List (NV × Nt)} {su : Int} {e : Ending} (hr : lgR b L su = false) (hee : e = .returned (.tuple #[.agg #[.slice none 0 0, .slice none 0 0, .int .i64 0], .int .i64 1])) (hb : Below w.heap.size w w') : CutP w b L su e w' := by
  have he : syE b L su = 1 := by unfold syE; rw [hr]; rfl
  unfold CutP kn
  rw [he, hr, if_neg (by decide)]
  exact ⟨LV0, hee, LgRd.zero w', hb⟩
theorem CutP.yes {w w' : World} {b : List Vc.St} {L : List (NV × Nt)} {su : Int} {e : Ending} {K : Option Addr} {k kc : Nat} {q : List Vc.St} (hr : lgR b L su = true) (hq : lgW b (nts L) = some q) (hl : q.length = k) (hR : Rd w' w'.heap.size 2 K k kc (sv q)) (hee : e = .returned (.tuple #[.agg #[.slice K k kc, .slice none 0 0, .int .i64 0], .int .i64 0])) (hb : Below w.heap.size w w') : CutP w b L su e w' := by
  have he : syE b L su = 0 := by unfold syE; rw [hr]; rfl
  unfold CutP kn
  rw [he, hr, if_pos rfl, hq]
  exact ⟨⟨K, k, kc, none, 0, 0⟩, hee, ⟨hl, hR, ⟨rfl, Rd.none_, fun p hp => by cases hp⟩⟩, hb⟩

theorem Rd.resultFar {W W' : World} {A : Option Addr} {n c g : Nat} {t : TypeId} {q : List Vc.St} (h : Rd W W.heap.size 2 A n c (sv q)) (hg : W.grownBy W' (some g)) (hB : Blk W g t #[.slice none 0 0, .slice none 0 0, .int .i64 0]) : Rd W' W'.heap.size 2 A n c (sv q) := by
  refine ⟨h.len, h.cap, h.max, h.nil, fun hn => ?_⟩
  obtain ⟨b, o, rfl, hb, hc⟩ := h.plain hn (by decide)
  rcases q with _ | ⟨s, r⟩
  · have := h.len; simp [sv] at this; omega
  · have h0 := hc 0 (.int .i64 s.1) rfl
    have h1 := hc 1 (.int .i64 s.2) rfl
    have hne : b ≠ g := by
      rintro rfl
      rw [hB.cell] at h0 h1
      rcases o with _ | _ | _ | o <;> simp at h0 h1
    obtain ⟨ad, e, hb', hc'⟩ := h.at0 hn
    injection e with e
    subst e
    exact ⟨_, rfl, Nat.lt_of_lt_of_le hb' hg.size, fun j u hu => hg.cell (hc' j u hu) (by rw [block_of_add]; simpa using hne)⟩


set_option maxHeartbeats 8000000 in
theorem lgSync_any (v : LV) (b : List Vc.St) (L : List (NV × Nt)) (su : Int) (w : World) (hT : Tab w) (h : LgRd w v b L) (hsz : LgSz v L) :
    Calls Tryd.prog 37 #[.agg (v.val su)] w (SyncP w b L su) := by
  obtain ⟨hzz, hi⟩ := zero_of_info log_zero
  have HI := Lib.hid hi
  obtain ⟨A, n, c, D, m, d⟩ := v
  have hb1 : Below w.heap.size w (w.alloc (.cells (LV.val ⟨A, n, c, D, m, d⟩ su) 47)) := (Below.refl _ _).alloc (Nat.le_refl _) _
  have hb0 : Below w.heap.size w ((w.alloc (.cells (LV.val ⟨A, n, c, D, m, d⟩ su) 47)).alloc (.cells #[.slice none 0 0, .slice none 0 0, .int .i64 0] 47)) := hb1.alloc hb1.size _
  have hB1 := (Blk.new w 47 (LV.val ⟨A, n, c, D, m, d⟩ su)).alloc (.cells #[.slice none 0 0, .slice none 0 0, .int .i64 0] 47)
  have hB2 := Blk.new (w.alloc (.cells (LV.val ⟨A, n, c, D, m, d⟩ su) 47)) 47 #[.slice none 0 0, .slice none 0 0, .int .i64 0]
  rw [World.size_alloc] at hB2
  obtain ⟨w0, hw0⟩ : ∃ w0, w0 = (w.alloc (.cells (LV.val ⟨A, n, c, D, m, d⟩ su) 47)).alloc (.cells #[.slice none 0 0, .slice none 0 0, .int .i64 0] 47) := ⟨_, rfl⟩
  rw [← hw0] at hb0 hB1 hB2
  have HH := Lib.hid (h.go hb0)
  have hlt2 : w.heap.size + 1 < w0.heap.size := hB2.lt
  have HB2 := Lib.hid fun W (hb : Below w0.heap.size w0 W) => hB2.go hb
  have HQ := Lib.hid fun V (hb : Below w0.heap.size w0 V) => (show V.cell? ⟨w.heap.size, 0, none⟩ = some (.slice A n c) ∧ V.cell? ⟨w.heap.size, 1, none⟩ = some (.slice D m d) ∧ V.cell? ⟨w.heap.size, 2, none⟩ = some (.int .i64 su) from
    ⟨(hB1.go hb).cell 0, (hB1.go hb).cell 1, (hB1.go hb).cell 2⟩)
  have HB0 := Lib.hid hb0
  have HW := Lib.hid hw0.symm
  have HFIN := Lib.hid fun V W (k : Below w0.heap.size w0 V) (hg : V.grownBy W (some (w.heap.size + 1))) => (show Below w.heap.size w W from (below_then HB0.out (Nat.le_refl _) k).trans (grown_below hg (Nat.le_trans HB0.out.size k.size) (fun j hj => by cases hj; omega)))
  have G1 := Lib.hid (lgFormed_any ⟨A, n, c, D, m, d⟩ b L su w0 (hT.below hb0) HH.out)
  have G4 := Lib.hid fun (V : World) (hv : Below w0.heap.size w0 V) => lgOwn_own ⟨A, n, c, D, m, d⟩ b L su V (HH.out.go hv) hsz
  rw [lgF_R] at G1
  have k : Below w0.heap.size w0 w0 := Below.refl _ _
  obtain ⟨q0, q1, q2⟩ := HQ.out _ k
  clear h hb0 hb1 hB1 hB2 hw0 hi hT
  go_enter Tryd.func37, Tryd.ntmps37
  go_wp2_with fail
  rw [HW.out]
  refine G1.out.mono ?_
  rintro e w1 ⟨rfl, hb1⟩
  have k := below_then k (Nat.le_refl _) hb1
  clear hb1 q0 q1 q2
  rcases hr : lgR b L su with _ | _
  · have HR := Lib.hid hr
    clear hr
    go_wp2_with (refine wpList_store_blk rfl 47 _ _ rfl (w.heap.size + 1) 47 _ #[.slice none 0 0, .slice none 0 0, .int .i64 0] rfl rfl (HB2.out _ k) HI.out rfl (by simp [Value.oneCell']) ?_; intro W hblk hg)
    refine bodyPost_ret (results_cell_tmp rfl _ _ (w.heap.size + 1) 47 _ _ _ rfl hblk Tryd.underlying47 rfl HI.out) rfl (SyncP.no HR.out ?_ (HFIN.out _ _ k hg)) <;> rfl
  · have HR := Lib.hid hr
    clear hr
    obtain ⟨q0, q1, q2⟩ := HQ.out _ k
    go_wp2_with fail
    refine (G4.out _ k).mono ?_
    rintro e w4 ⟨⟨A', n', c', D', m', d'⟩, L', rfl, hO, hnL, hb4⟩
    have e1 : L.length = m := HH.out.ns.len
    have e2 : L'.length = m' := hO.len
    have e3 := congrArg List.length hnL
    rw [nts_len, nts_len] at e3
    have HE := Lib.hid (show (L.length : Int) = (m' : Int) by omega)
    have hO := (hO.below (then_alloc hb4 (.cells #[.slice A' n' c', .slice D' m' d', .int .i64 m'] 47))).less k.size
    have HO := Lib.hid hO
    have HNL := Lib.hid hnL
    have k := below_then k (Nat.le_refl _) hb4
    clear e1 e2 e3 hO hnL hb4 q0 q1 q2
    go_wp2_with (refine wpList_store_blk rfl 47 _ _ rfl (w.heap.size + 1) 47 _ #[.slice A' n' c', .slice D' m' d', .int .i64 m'] rfl rfl (HB2.out _ (k.alloc k.size _)) HI.out rfl (by simp [Value.oneCell']) ?_; intro W hblk hg)
    refine bodyPost_ret (results_cell_tmp rfl _ _ (w.heap.size + 1) 47 _ _ _ rfl hblk Tryd.underlying47 rfl HI.out) rfl (SyncP.yes ⟨A', n', c', D', m', d'⟩ HR.out ?_ (LgOwn.rd (LgOwn.far HO.out hg hlt2)) HNL.out (HFIN.out _ _ (k.alloc k.size _) hg))
    rw [HE.out]; rfl


set_option maxHeartbeats 8000000 in
theorem refLgSync_any (v : LV) (b : List Vc.St) (L : List (NV × Nt)) (su : Int) (w : World) (h : LgRd w v b L) (hsz : LgSz v L) :
    Calls Tryd.prog 38 #[.agg (v.val su)] w (SyncP w b L su) := by
  obtain ⟨hzz, hi⟩ := zero_of_info log_zero
  have HI := Lib.hid hi
  obtain ⟨A, n, c, D, m, d⟩ := v
  have hb1 : Below w.heap.size w (w.alloc (.cells (LV.val ⟨A, n, c, D, m, d⟩ su) 47)) := (Below.refl _ _).alloc (Nat.le_refl _) _
  have hb0 : Below w.heap.size w ((w.alloc (.cells (LV.val ⟨A, n, c, D, m, d⟩ su) 47)).alloc (.cells #[.slice none 0 0, .slice none 0 0, .int .i64 0] 47)) := hb1.alloc hb1.size _
  have hB1 := (Blk.new w 47 (LV.val ⟨A, n, c, D, m, d⟩ su)).alloc (.cells #[.slice none 0 0, .slice none 0 0, .int .i64 0] 47)
  have hB2 := Blk.new (w.alloc (.cells (LV.val ⟨A, n, c, D, m, d⟩ su) 47)) 47 #[.slice none 0 0, .slice none 0 0, .int .i64 0]
  rw [World.size_alloc] at hB2
  obtain ⟨w0, hw0⟩ : ∃ w0, w0 = (w.alloc (.cells (LV.val ⟨A, n, c, D, m, d⟩ su) 47)).alloc (.cells #[.slice none 0 0, .slice none 0 0, .int .i64 0] 47) := ⟨_, rfl⟩
  rw [← hw0] at hb0 hB1 hB2
  have HH := Lib.hid (h.go hb0)
  have hlt2 : w.heap.size + 1 < w0.heap.size := hB2.lt
  have HB2 := Lib.hid fun W (hb : Below w0.heap.size w0 W) => hB2.go hb
  have HQ := Lib.hid fun V (hb : Below w0.heap.size w0 V) => (show V.cell? ⟨w.heap.size, 0, none⟩ = some (.slice A n c) ∧ V.cell? ⟨w.heap.size, 1, none⟩ = some (.slice D m d) ∧ V.cell? ⟨w.heap.size, 2, none⟩ = some (.int .i64 su) from
    ⟨(hB1.go hb).cell 0, (hB1.go hb).cell 1, (hB1.go hb).cell 2⟩)
  have HB0 := Lib.hid hb0
  have HW := Lib.hid hw0.symm
  have HFIN := Lib.hid fun V W (k : Below w0.heap.size w0 V) (hg : V.grownBy W (some (w.heap.size + 1))) => (show Below w.heap.size w W from (below_then HB0.out (Nat.le_refl _) k).trans (grown_below hg (Nat.le_trans HB0.out.size k.size) (fun j hj => by cases hj; omega)))
  have G1 := Lib.hid (refLgFormed_any ⟨A, n, c, D, m, d⟩ b L su w0 HH.out)
  have G4 := Lib.hid fun (V : World) (hv : Below w0.heap.size w0 V) => refLgCopy_own ⟨A, n, c, D, m, d⟩ b L su V (HH.out.go hv) hsz
  have k : Below w0.heap.size w0 w0 := Below.refl _ _
  obtain ⟨q0, q1, q2⟩ := HQ.out _ k
  clear h hb0 hb1 hB1 hB2 hw0 hi
  go_enter Tryd.func38, Tryd.ntmps38
  go_wp2_with fail
  rw [HW.out]
  refine G1.out.mono ?_
  rintro e w1 ⟨rfl, hb1⟩
  have k := below_then k (Nat.le_refl _) hb1
  clear hb1 q0 q1 q2
  rcases hr : lgR b L su with _ | _
  · have HR := Lib.hid hr
    clear hr
    go_wp2_with (refine wpList_store_blk rfl 47 _ _ rfl (w.heap.size + 1) 47 _ #[.slice none 0 0, .slice none 0 0, .int .i64 0] rfl rfl (HB2.out _ k) HI.out rfl (by simp [Value.oneCell']) ?_; intro W hblk hg)
    refine bodyPost_ret (results_cell_tmp rfl _ _ (w.heap.size + 1) 47 _ _ _ rfl hblk Tryd.underlying47 rfl HI.out) rfl (SyncP.no HR.out ?_ (HFIN.out _ _ k hg)) <;> rfl
  · have HR := Lib.hid hr
    clear hr
    obtain ⟨q0, q1, q2⟩ := HQ.out _ k
    go_wp2_with fail
    refine (G4.out _ k).mono ?_
    rintro e w4 ⟨⟨A', n', c', D', m', d'⟩, L', rfl, hO, hnL, hb4⟩
    have e1 : L.length = m := HH.out.ns.len
    have e2 : L'.length = m' := hO.len
    have e3 := congrArg List.length hnL
    rw [nts_len, nts_len] at e3
    have HE := Lib.hid (show (L.length : Int) = (m' : Int) by omega)
    have hO := (hO.below (then_alloc hb4 (.cells #[.slice A' n' c', .slice D' m' d', .int .i64 m'] 47))).less k.size
    have HO := Lib.hid hO
    have HNL := Lib.hid hnL
    have k := below_then k (Nat.le_refl _) hb4
    clear e1 e2 e3 hO hnL hb4 q0 q1 q2
    go_wp2_with (refine wpList_store_blk rfl 47 _ _ rfl (w.heap.size + 1) 47 _ #[.slice A' n' c', .slice D' m' d', .int .i64 m'] rfl rfl (HB2.out _ (k.alloc k.size _)) HI.out rfl (by simp [Value.oneCell']) ?_; intro W hblk hg)
    refine bodyPost_ret (results_cell_tmp rfl _ _ (w.heap.size + 1) 47 _ _ _ rfl hblk Tryd.underlying47 rfl HI.out) rfl (SyncP.yes ⟨A', n', c', D', m', d'⟩ HR.out ?_ (LgOwn.rd (LgOwn.far HO.out hg hlt2)) HNL.out (HFIN.out _ _ (k.alloc k.size _) hg))
    rw [HE.out]; rfl


set_option maxHeartbeats 8000000 in
theorem lgCut_any (v : LV) (b : List Vc.St) (L : List (NV × Nt)) (su : Int) (w : World) (hT : Tab w) (h : LgRd w v b L) :
    Calls Tryd.prog 39 #[.agg (v.val su)] w (CutP w b L su) := by
  obtain ⟨hzz, hi⟩ := zero_of_info log_zero
  have HI := Lib.hid hi
  obtain ⟨A, n, c, D, m, d⟩ := v
  have hb1 : Below w.heap.size w (w.alloc (.cells (LV.val ⟨A, n, c, D, m, d⟩ su) 47)) := (Below.refl _ _).alloc (Nat.le_refl _) _
  have hb0 : Below w.heap.size w ((w.alloc (.cells (LV.val ⟨A, n, c, D, m, d⟩ su) 47)).alloc (.cells #[.slice none 0 0, .slice none 0 0, .int .i64 0] 47)) := hb1.alloc hb1.size _
  have hB1 := (Blk.new w 47 (LV.val ⟨A, n, c, D, m, d⟩ su)).alloc (.cells #[.slice none 0 0, .slice none 0 0, .int .i64 0] 47)
  have hB2 := Blk.new (w.alloc (.cells (LV.val ⟨A, n, c, D, m, d⟩ su) 47)) 47 #[.slice none 0 0, .slice none 0 0, .int .i64 0]
  rw [World.size_alloc] at hB2
  obtain ⟨w0, hw0⟩ : ∃ w0, w0 = (w.alloc (.cells (LV.val ⟨A, n, c, D, m, d⟩ su) 47)).alloc (.cells #[.slice none 0 0, .slice none 0 0, .int .i64 0] 47) := ⟨_, rfl⟩
  rw [← hw0] at hb0 hB1 hB2
  have HH := Lib.hid (h.go hb0)
  have hlt2 : w.heap.size + 1 < w0.heap.size := hB2.lt
  have HB2 := Lib.hid fun W (hb : Below w0.heap.size w0 W) => hB2.go hb
  have HQ := Lib.hid fun V (hb : Below w0.heap.size w0 V) => (show V.cell? ⟨w.heap.size, 0, none⟩ = some (.slice A n c) ∧ V.cell? ⟨w.heap.size, 1, none⟩ = some (.slice D m d) ∧ V.cell? ⟨w.heap.size, 2, none⟩ = some (.int .i64 su) from
    ⟨(hB1.go hb).cell 0, (hB1.go hb).cell 1, (hB1.go hb).cell 2⟩)
  have HB0 := Lib.hid hb0
  have HW := Lib.hid hw0.symm
  have HFIN := Lib.hid fun V W (k : Below w0.heap.size w0 V) (hg : V.grownBy W (some (w.heap.size + 1))) => (show Below w.heap.size w W from (below_then HB0.out (Nat.le_refl _) k).trans (grown_below hg (Nat.le_trans HB0.out.size k.size) (fun j hj => by cases hj; omega)))
  have G1 := Lib.hid (lgWalkR_any ⟨A, n, c, D, m, d⟩ b L su w0 (hT.below hb0) HH.out)
  have k : Below w0.heap.size w0 w0 := Below.refl _ _
  obtain ⟨q0, q1, q2⟩ := HQ.out _ k
  clear h hb0 hb1 hB1 hB2 hw0 hi hT
  go_enter Tryd.func39, Tryd.ntmps39
  go_wp2_with fail
  rw [HW.out]
  refine G1.out.mono ?_
  rintro e w1 (⟨q, K, kc, hr, hq, rfl, hR, hb1⟩ | ⟨hr, K, kn', kc, rfl, hb1⟩)
  · have HR := Lib.hid hr
    have HQQ := Lib.hid hq
    have HRD := Lib.hid hR
    have k := below_then k (Nat.le_refl _) hb1
    obtain ⟨qn, hqn⟩ : ∃ qn, q.length = qn := ⟨_, rfl⟩
    rw [hqn] at HRD ⊢
    have HQN := Lib.hid hqn
    clear hr hq hR hb1 q0 q1 q2 hqn
    go_wp2_with (refine wpList_store_blk rfl 47 _ _ rfl (w.heap.size + 1) 47 _ #[.slice K qn kc, .slice none 0 0, .int .i64 0] rfl rfl (HB2.out _ k) HI.out rfl (by simp [Value.oneCell']) ?_; intro W hblk hg)
    have hR := HRD.out
    refine bodyPost_ret (results_cell_tmp rfl _ _ (w.heap.size + 1) 47 _ _ _ rfl hblk Tryd.underlying47 rfl HI.out) rfl (CutP.yes HR.out HQQ.out HQN.out (Rd.resultFar hR hg (HB2.out _ k)) ?_ (HFIN.out _ _ k hg))
    rfl
  · have HR := Lib.hid hr
    have k := below_then k (Nat.le_refl _) hb1
    clear hr hb1 q0 q1 q2
    go_wp2_with (refine wpList_store_blk rfl 47 _ _ rfl (w.heap.size + 1) 47 _ #[.slice none 0 0, .slice none 0 0, .int .i64 0] rfl rfl (HB2.out _ k) HI.out rfl (by simp [Value.oneCell']) ?_; intro W hblk hg)
    refine bodyPost_ret (results_cell_tmp rfl _ _ (w.heap.size + 1) 47 _ _ _ rfl hblk Tryd.underlying47 rfl HI.out) rfl (CutP.no HR.out ?_ (HFIN.out _ _ k hg)) <;> rfl


set_option maxHeartbeats 8000000 in
theorem refLgCut_any (v : LV) (b : List Vc.St) (L : List (NV × Nt)) (su : Int) (w : World) (h : LgRd w v b L) (hn : v.n ≤ 8796093022208) :
    Calls Tryd.prog 40 #[.agg (v.val su)] w (CutP w b L su) := by
  obtain ⟨hzz, hi⟩ := zero_of_info log_zero
  have HI := Lib.hid hi
  obtain ⟨A, n, c, D, m, d⟩ := v
  have hb1 : Below w.heap.size w (w.alloc (.cells (LV.val ⟨A, n, c, D, m, d⟩ su) 47)) := (Below.refl _ _).alloc (Nat.le_refl _) _
  have hb0 : Below w.heap.size w ((w.alloc (.cells (LV.val ⟨A, n, c, D, m, d⟩ su) 47)).alloc (.cells #[.slice none 0 0, .slice none 0 0, .int .i64 0] 47)) := hb1.alloc hb1.size _
  have hB1 := (Blk.new w 47 (LV.val ⟨A, n, c, D, m, d⟩ su)).alloc (.cells #[.slice none 0 0, .slice none 0 0, .int .i64 0] 47)
  have hB2 := Blk.new (w.alloc (.cells (LV.val ⟨A, n, c, D, m, d⟩ su) 47)) 47 #[.slice none 0 0, .slice none 0 0, .int .i64 0]
  rw [World.size_alloc] at hB2
  obtain ⟨w0, hw0⟩ : ∃ w0, w0 = (w.alloc (.cells (LV.val ⟨A, n, c, D, m, d⟩ su) 47)).alloc (.cells #[.slice none 0 0, .slice none 0 0, .int .i64 0] 47) := ⟨_, rfl⟩
  rw [← hw0] at hb0 hB1 hB2
  have HH := Lib.hid (h.go hb0)
  have hlt2 : w.heap.size + 1 < w0.heap.size := hB2.lt
  have HB2 := Lib.hid fun W (hb : Below w0.heap.size w0 W) => hB2.go hb
  have HQ := Lib.hid fun V (hb : Below w0.heap.size w0 V) => (show V.cell? ⟨w.heap.size, 0, none⟩ = some (.slice A n c) ∧ V.cell? ⟨w.heap.size, 1, none⟩ = some (.slice D m d) ∧ V.cell? ⟨w.heap.size, 2, none⟩ = some (.int .i64 su) from
    ⟨(hB1.go hb).cell 0, (hB1.go hb).cell 1, (hB1.go hb).cell 2⟩)
  have HB0 := Lib.hid hb0
  have HW := Lib.hid hw0.symm
  have HFIN := Lib.hid fun V W (k : Below w0.heap.size w0 V) (hg : V.grownBy W (some (w.heap.size + 1))) => (show Below w.heap.size w W from (below_then HB0.out (Nat.le_refl _) k).trans (grown_below hg (Nat.le_trans HB0.out.size k.size) (fun j hj => by cases hj; omega)))
  have G1 := Lib.hid (refLgFormed_any ⟨A, n, c, D, m, d⟩ b L su w0 HH.out)
  have G4 := Lib.hid fun (V : World) (hv : Below w0.heap.size w0 V) => refLgKnown_any ⟨A, n, c, D, m, d⟩ b L su V (HH.out.go hv) hn
  have k : Below w0.heap.size w0 w0 := Below.refl _ _
  obtain ⟨q0, q1, q2⟩ := HQ.out _ k
  clear h hb0 hb1 hB1 hB2 hw0 hi hn
  go_enter Tryd.func40, Tryd.ntmps40
  go_wp2_with fail
  rw [HW.out]
  refine G1.out.mono ?_
  rintro e w1 ⟨rfl, hb1⟩
  have k := below_then k (Nat.le_refl _) hb1
  clear hb1 q0 q1 q2
  rcases hr : lgR b L su with _ | _
  · have HR := Lib.hid hr
    clear hr
    go_wp2_with (refine wpList_store_blk rfl 47 _ _ rfl (w.heap.size + 1) 47 _ #[.slice none 0 0, .slice none 0 0, .int .i64 0] rfl rfl (HB2.out _ k) HI.out rfl (by simp [Value.oneCell']) ?_; intro W hblk hg)
    refine bodyPost_ret (results_cell_tmp rfl _ _ (w.heap.size + 1) 47 _ _ _ rfl hblk Tryd.underlying47 rfl HI.out) rfl (CutP.no HR.out ?_ (HFIN.out _ _ k hg)) <;> rfl
  · have HR := Lib.hid hr
    clear hr
    obtain ⟨q0, q1, q2⟩ := HQ.out _ k
    go_wp2_with fail
    refine (G4.out _ k).mono ?_
    rintro e w4 (⟨_, q, K, kc, hq, rfl, hR, hb4⟩ | ⟨hno, _⟩)
    rotate_left
    · exact absurd (hno.symm.trans HR.out) (by decide)
    have HQQ := Lib.hid hq
    have HRD := Lib.hid hR
    have k := below_then k (Nat.le_refl _) hb4
    obtain ⟨qn, hqn⟩ : ∃ qn, q.length = qn := ⟨_, rfl⟩
    rw [hqn] at HRD ⊢
    have HQN := Lib.hid hqn
    clear hq hR hb4 q0 q1 q2 hqn
    go_wp2_with (refine wpList_store_blk rfl 47 _ _ rfl (w.heap.size + 1) 47 _ #[.slice K qn kc, .slice none 0 0, .int .i64 0] rfl rfl (HB2.out _ k) HI.out rfl (by simp [Value.oneCell']) ?_; intro W hblk hg)
    have hR := HRD.out
    refine bodyPost_ret (results_cell_tmp rfl _ _ (w.heap.size + 1) 47 _ _ _ rfl hblk Tryd.underlying47 rfl HI.out) rfl (CutP.yes HR.out HQQ.out HQN.out (Rd.resultFar hR hg (HB2.out _ k)) ?_ (HFIN.out _ _ k hg))
    rfl

end Go.Proofs.YtldcgmnfohhjbaaDoor
