/- Walks over note.Told and the document's Told. -/
import Derived.Test.YtnibkniggiokkaaDoorNtI
namespace Go.Proofs.YtnibkniggiokkaaDoor
open Go.RowKit
set_option maxRecDepth 100000

/-- A result that lies in a cell, and two in slots. -/
theorem results_cell_tmp2 {P : Program} {fn : Func} {p q q' : Tmp} {ty : TypeId} (h : fn.results = #[.cell p ty, .tmp q, .tmp q']) (tmps : Array Value) (w : World) (g : Nat) (t : TypeId) (cs : Array Value) (fr : Nat × Nat) (d : TypeDesc)
    (hp : tmps.getD p undef = .pointer (some ⟨g, 0, none⟩)) (hg : w.heap[g]? = some (.cells cs t fr))
    (hu : P.underlying ty = some d) (hd : (match d with | .struct _ | .array _ _ => true | _ => false) = true) (hi : (P.info? ty).map (·.size) = some cs.size) :
    (results fn tmps).run P w = .ok (.tuple #[.agg cs, tmps.getD q undef, tmps.getD q' undef]) w := by
  have hp' : tmps[p]?.getD undef = .pointer (some ⟨g, 0, none⟩) := by simpa using hp
  simp [results, h, hp', asAddr, run_loadVar_row w g t ty cs fr d hg hu hd hi]

def ToldP (w : World) (q : Wr) (b : Bool) (er : Int) (e : Ending) (w' : World) : Prop := e = .returned (.tuple #[.agg (wcA q), .bool b, .int .i64 er]) ∧ Below w.heap.size w w'
theorem ToldP.mk {w w' : World} {q : Wr} {b : Bool} {er : Int} {e : Ending} (h1 : e = .returned (.tuple #[.agg (wcA q), .bool b, .int .i64 er])) (h2 : Below w.heap.size w w') : ToldP w q b er e w' := ⟨h1, h2⟩
def tOk (x : Nt) (o : Int) : Bool := ntF x && (decide (0 ≤ o) && decide (o ≤ 255))
def tQ (x : Nt) (o : Int) : Wr := if tOk x o = true then atQ x.w o else w0_
def tB (x : Nt) (o : Int) : Bool := if tOk x o = true then (if atB x.w o = true then true else !hasO x.b o) else false
def tE (x : Nt) (o : Int) : Int := if tOk x o = true then (if atB x.w o = true then 0 else 8) else 1
theorem rise_ntF {x : Nt} (h : ntF x = true) : rise (-1) x.w = true := by
  unfold ntF at h
  rw [Bool.and_eq_true] at h
  exact rise_of _ _ _ _ h.2

set_option maxHeartbeats 8000000 in
theorem told_any (v : NV) (x : Nt) (o : Int) (w : World) (hT : Tab w) (hN : NtRd w w.heap.size v x) (hs : v.n4 ≤ 4398046511104) :
    Calls Tryd.prog 21 #[.agg v.val, .int .i64 o] w (ToldP w (tQ x o) (tB x o) (tE x o)) := by
  obtain ⟨hzz, hi⟩ := zero_of_info write_zero
  have HI := Lib.hid hi
  obtain ⟨A1, n1, c1, A2, n2, c2, A3, n3, c3, A4, n4, c4⟩ := v
  dsimp only at hs
  have hb1 : Below w.heap.size w (w.alloc (.cells #[.slice A1 n1 c1, .slice A2 n2 c2, .slice A3 n3 c3, .slice A4 n4 c4] 26)) := (Below.refl _ _).alloc (Nat.le_refl _) _
  have hb0 : Below w.heap.size w ((w.alloc (.cells #[.slice A1 n1 c1, .slice A2 n2 c2, .slice A3 n3 c3, .slice A4 n4 c4] 26)).alloc (.cells (wcA w0_) 46)) := hb1.alloc hb1.size _
  have hB1 := (Blk.new w 26 #[.slice A1 n1 c1, .slice A2 n2 c2, .slice A3 n3 c3, .slice A4 n4 c4]).alloc (.cells (wcA w0_) 46)
  have hB2 := Blk.new (w.alloc (.cells #[.slice A1 n1 c1, .slice A2 n2 c2, .slice A3 n3 c3, .slice A4 n4 c4] 26)) 46 (wcA w0_)
  rw [World.size_alloc] at hB2
  obtain ⟨w0, hw0⟩ : ∃ w0, w0 = (w.alloc (.cells #[.slice A1 n1 c1, .slice A2 n2 c2, .slice A3 n3 c3, .slice A4 n4 c4] 26)).alloc (.cells (wcA w0_) 46) := ⟨_, rfl⟩
  rw [← hw0] at hb0 hB1 hB2
  have hN0 := hN.go hb0
  have hT0 := hT.below hb0
  have HQ := Lib.hid fun W (hb : Below w0.heap.size w0 W) => (show (W.cell? ⟨w.heap.size, 0, none⟩ = some (.slice A1 n1 c1) ∧ W.cell? ⟨w.heap.size, 1, none⟩ = some (.slice A2 n2 c2) ∧ W.cell? ⟨w.heap.size, 2, none⟩ = some (.slice A3 n3 c3) ∧ W.cell? ⟨w.heap.size, 3, none⟩ = some (.slice A4 n4 c4)) from ⟨(hB1.go hb).cell 0, (hB1.go hb).cell 1, (hB1.go hb).cell 2, (hB1.go hb).cell 3⟩)
  have HB2 := Lib.hid fun W (hb : Below w0.heap.size w0 W) => hB2.go hb
  have H1 := fun (W : World) (hb : Below w0.heap.size w0 W) => noteFormed_any ⟨A1, n1, c1, A2, n2, c2, A3, n3, c3, A4, n4, c4⟩ x W (hT0.below hb) (hN0.go hb)
  have H2 := object_any o
  have H3 := Lib.hid fun (W : World) (hb : Below w0.heap.size w0 W) (hr : rise (-1) x.w = true) => place_any A4 n4 c4 x.w o W hN0.l4 (hN0.go hb).r4 hr hs
  have H4 := fun (W : World) (hb : Below w0.heap.size w0 W) => hasS_any A3 n3 c3 x.b o W hN0.l3 (hN0.go hb).r3
  have HW4 := Lib.hid fun (W : World) (hb : Below w0.heap.size w0 W) k (hk : k < x.w.length) => (hN0.go hb).r4.write hN0.l4 hk
  have HL4 := Lib.hid hN0.l4
  have hrise := fun h => rise_ntF (x := x) h
  have hq : tQ x o = if (ntF x && (decide (0 ≤ o) && decide (o ≤ 255))) = true then atQ x.w o else w0_ := rfl
  have hb9 : tB x o = if (ntF x && (decide (0 ≤ o) && decide (o ≤ 255))) = true then (if atB x.w o = true then true else !hasO x.b o) else false := rfl
  have he9 : tE x o = if (ntF x && (decide (0 ≤ o) && decide (o ≤ 255))) = true then (if atB x.w o = true then 0 else 8) else 1 := rfl
  generalize tQ x o = Q at hq ⊢
  generalize tB x o = B at hb9 ⊢
  generalize tE x o = E at he9 ⊢
  generalize ntF x = f at H1 hq hb9 he9 hrise
  generalize (decide (0 ≤ o) && decide (o ≤ 255)) = z at H2 hq hb9 he9
  generalize hasO x.b o = z4 at H4 hb9
  have H1 := Lib.hid H1
  have H2 := Lib.hid H2
  have H4 := Lib.hid H4
  have HQ9 := Lib.hid hq
  have HB9 := Lib.hid hb9
  have HE9 := Lib.hid he9
  have HRI := Lib.hid hrise
  have HW := Lib.hid hw0.symm
  have HB0 := Lib.hid hb0
  have k := Below.refl w0.heap.size w0
  obtain ⟨q0, q1, q2, q3⟩ := HQ.out _ k
  clear hN hT hN0 hT0 hB1 hB2 hw0 hb1 hb0 hi hq hb9 he9 hrise
  go_enter Tryd.func21, Tryd.ntmps21
  go_wp2_with fail
  rw [HW.out]
  cases f
  · go_wp2_with (first | (go_at_call 12; go_must (refine (H1.out _ k).mono ?_); rintro e w' ⟨rfl, hb'⟩; have k := below_then k (Nat.le_refl _) hb'; clear hb'; obtain ⟨q0, q1, q2, q3⟩ := HQ.out _ k) | (refine wpList_store_blk rfl 46 _ _ rfl (w.heap.size + 1) 46 _ (wcA w0_) rfl rfl (HB2.out _ k) HI.out rfl (wcA_one _) ?_; intro W hblk hg))
    refine bodyPost_ret (results_cell_tmp2 rfl _ _ (w.heap.size + 1) 46 _ _ _ rfl hblk Tryd.underlying46 rfl HI.out) rfl (ToldP.mk ?_ ((HB0.out.trans (k.mono HB0.out.size)).trans (grown_below hg (Nat.le_trans HB0.out.size k.size) (fun g hg' => by cases hg'; exact Nat.le_succ _))))
    rw [HQ9.out, HB9.out, HE9.out]; rfl
  cases z
  · go_wp2_with (first | (go_at_call 12; go_must (refine (H1.out _ k).mono ?_); rintro e w' ⟨rfl, hb'⟩; have k := below_then k (Nat.le_refl _) hb'; clear hb'; obtain ⟨q0, q1, q2, q3⟩ := HQ.out _ k) | (go_at_call 37; go_must (refine (H2.out _).mono ?_); rintro e w' ⟨rfl, rfl⟩) | (refine wpList_store_blk rfl 46 _ _ rfl (w.heap.size + 1) 46 _ (wcA w0_) rfl rfl (HB2.out _ k) HI.out rfl (wcA_one _) ?_; intro W hblk hg))
    refine bodyPost_ret (results_cell_tmp2 rfl _ _ (w.heap.size + 1) 46 _ _ _ rfl hblk Tryd.underlying46 rfl HI.out) rfl (ToldP.mk ?_ ((HB0.out.trans (k.mono HB0.out.size)).trans (grown_below hg (Nat.le_trans HB0.out.size k.size) (fun g hg' => by cases hg'; exact Nat.le_succ _))))
    rw [HQ9.out, HB9.out, HE9.out]; rfl
  go_wp2_with (first | (go_at_call 12; go_must (refine (H1.out _ k).mono ?_); rintro e w' ⟨rfl, hb'⟩; have k := below_then k (Nat.le_refl _) hb'; clear hb'; obtain ⟨q0, q1, q2, q3⟩ := HQ.out _ k) | (go_at_call 37; go_must (refine (H2.out _).mono ?_); rintro e w' ⟨rfl, rfl⟩))
  refine (H3.out _ k (HRI.out (by simp))).mono ?_
  rintro e w' ⟨i, b, rfl, hi1, hi2, hi3, hb'⟩
  have k := below_then k (Nat.le_refl _) hb'; clear hb'; obtain ⟨q0, q1, q2, q3⟩ := HQ.out _ k
  cases b
  · have HN := Lib.hid (hi3 rfl)
    clear hi2 hi3
    go_wp2_with (first
      | (go_at_call 25; go_must (refine (H4.out _ k).mono ?_); rintro e w' ⟨rfl, hb'⟩; have k := below_then k (Nat.le_refl _) hb'; clear hb'; obtain ⟨q0, q1, q2, q3⟩ := HQ.out _ k)
      | (refine wpList_store_blk rfl 46 _ _ rfl (w.heap.size + 1) 46 _ (wcA w0_) rfl rfl (HB2.out _ k) HI.out rfl (wcA_one _) ?_; intro W hblk hg))
    refine bodyPost_ret (results_cell_tmp2 rfl _ _ (w.heap.size + 1) 46 _ _ _ rfl hblk Tryd.underlying46 rfl HI.out) rfl (ToldP.mk ?_ ((HB0.out.trans (k.mono HB0.out.size)).trans (grown_below hg (Nat.le_trans HB0.out.size k.size) (fun g hg' => by cases hg'; exact Nat.le_succ _))))
    rw [HQ9.out, HB9.out, HE9.out]
    simp [atQ, atB, HN.out]
  · obtain ⟨hil, _, hat⟩ := hi2 rfl
    obtain ⟨b, off, rfl, hbb, g0, g1, g2, g3⟩ := HW4.out _ k i hil
    have hst : x.w[i] = ((x.w[i].1.1, x.w[i].1.2), x.w[i].2.1, x.w[i].2.2) := rfl
    rw [hst] at hat
    generalize x.w[i].1.1 = sc at g0 hat
    generalize x.w[i].1.2 = sn at g1 hat
    generalize x.w[i].2.1 = ob at g2 hat
    generalize x.w[i].2.2 = gn at g3 hat
    have HN := Lib.hid hat
    have hin : (0 : Int) ≤ (i : Int) ∧ (i : Int) < (n4 : Int) := by have h9 : x.w.length = n4 := HL4.out; omega
    clear hi2 hi3 hat hst
    go_wp2_with (refine wpList_store_blk rfl 46 _ _ rfl (w.heap.size + 1) 46 _ (wcA ((sc, sn), ob, gn)) rfl rfl (HB2.out _ k) HI.out rfl (wcA_one _) ?_; intro W hblk hg)
    refine bodyPost_ret (results_cell_tmp2 rfl _ _ (w.heap.size + 1) 46 _ _ _ rfl hblk Tryd.underlying46 rfl HI.out) rfl (ToldP.mk ?_ ((HB0.out.trans (k.mono HB0.out.size)).trans (grown_below hg (Nat.le_trans HB0.out.size k.size) (fun g hg' => by cases hg'; exact Nat.le_succ _))))
    rw [HQ9.out, HB9.out, HE9.out]
    simp [atQ, atB, HN.out]
end Go.Proofs.YtnibkniggiokkaaDoor
