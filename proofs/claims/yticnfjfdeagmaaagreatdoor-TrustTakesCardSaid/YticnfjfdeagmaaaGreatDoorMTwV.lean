/- Texts of one layer in one file: TwH, TwN, TwV. -/
import Derived.Test.YticnfjfdeagmaaaGreatDoorTwE
import Derived.Test.YticnfjfdeagmaaaGreatDoorMVec
import Derived.Test.YticnfjfdeagmaaaGreatDoorTwM
import Derived.Test.YticnfjfdeagmaaaGreatDoorSpB
import Derived.Test.YticnfjfdeagmaaaGreatDoorTwU
import Derived.Test.YticnfjfdeagmaaaGreatDoorTwD
import Derived.Deep.DeepCutAuto
namespace Go.Proofs.YticnfjfdeagmaaaGreatDoor
open Go.RowKit
set_option maxRecDepth 100000

theorem stampsH_info : (Tryz.prog.info? 23).map (fun i => (i.zero, i.size, i.bytes)) = some (some (.slice none 0 0), 1, 24) := by kernel_rfl
def vsv (l : List (ZV × List Vc.St)) : List Value := l.map fun x => .slice x.1.A x.1.n x.1.c
theorem vsv_snoc (l : List (ZV × List Vc.St)) (x : ZV × List Vc.St) : vsv (l ++ [x]) = vsv l ++ [.slice x.1.A x.1.n x.1.c] := by simp [vsv]
/-- A list of vectors of the call's own. -/
structure OwnV (w : World) (base : Nat) (A : Option Addr) (k c : Nat) (ys : List (ZV × List Vc.St)) : Prop where
  row : w.ownsRow base 23 1 (.slice A k c) k (vsv ys)
  el : ∀ y ∈ ys, y.2.length = y.1.n ∧ w.ownsRow base 40 2 (.slice y.1.A y.1.n y.1.c) y.1.n (sv y.2)
theorem OwnV.nil (w : World) (base : Nat) : OwnV w base none 0 0 [] := ⟨World.ownsRow_nil _ _ _ _, by simp⟩
theorem OwnV.below {w w' : World} {base : Nat} {A : Option Addr} {k c : Nat} {ys : List (ZV × List Vc.St)} (h : OwnV w base A k c ys) (hb : Below w.heap.size w w') : OwnV w' base A k c ys :=
  ⟨own_below h.row hb (Nat.le_refl _), fun y hy => ⟨(h.el y hy).1, own_below (h.el y hy).2 hb (Nat.le_refl _)⟩⟩
theorem OwnV.push {w w' : World} {base : Nat} {A A' : Option Addr} {k c c' : Nat} {ys : List (ZV × List Vc.St)} {y : ZV × List Vc.St} (h : OwnV w base A k c ys) (hy : y.2.length = y.1.n ∧ w.ownsRow base 40 2 (.slice y.1.A y.1.n y.1.c) y.1.n (sv y.2))
    (hg : w.grownBy w' (Value.slice A k c).ownBlock) (ho : w'.ownsRow base 23 1 (.slice A' (k + 1) c') (k + 1) (vsv ys ++ [.slice y.1.A y.1.n y.1.c])) : OwnV w' base A' (k + 1) c' (ys ++ [y]) := by
  refine ⟨by rw [vsv_snoc]; exact ho, fun z hz => ?_⟩
  rcases List.mem_append.1 hz with hz | hz
  · exact ⟨(h.el z hz).1, (h.el z hz).2.kept hg (own_two (h.el z hz).2 h.row (by decide))⟩
  · obtain rfl : z = y := by simpa using hz
    exact ⟨hy.1, hy.2.kept hg (own_two hy.2 h.row (by decide))⟩
theorem OwnV.len {w : World} {base : Nat} {A : Option Addr} {k c : Nat} {ys : List (ZV × List Vc.St)} (h : OwnV w base A k c ys) : ys.length = k := by
  have := h.row.1
  unfold vsv at this
  rw [List.length_map] at this
  omega
theorem OwnV.rd {w : World} {base : Nat} {A : Option Addr} {k c : Nat} {ys : List (ZV × List Vc.St)} (h : OwnV w base A k c ys) : RdL w w.heap.size A k c (ys.map (·.2)) := by
  have hR := Rd.of_own h.row
  have hl := h.len
  refine ⟨by rw [List.length_map]; exact hl, hR.cap, hR.max, hR.nil, fun i hi => ?_⟩
  rw [List.length_map] at hi
  obtain ⟨b, o, hA, hb, hcell⟩ := hR.plain (by omega) (by decide)
  obtain ⟨h1, h2⟩ := h.el _ (List.getElem_mem hi)
  refine ⟨b, o, (ys[i]).1.A, (ys[i]).1.n, (ys[i]).1.c, hA, hb, hcell i _ ?_, by rw [List.getElem_map]; exact h1, by rw [List.getElem_map]; exact Rd.of_own h2⟩
  unfold vsv
  rw [List.getElem?_map, List.getElem?_eq_getElem hi]; rfl
def reachTo (z : List Zn) (known : List Vc.St) (i : List Sn.Sp) (k : Nat) : List (List Vc.St) := ((List.range k).filter (Sn.setOf i)).map fun o : Nat => reach z known (o : Int)
theorem reachTo_next (z : List Zn) (known : List Vc.St) (i : List Sn.Sp) (k : Nat) : reachTo z known i (k + 1) = if Sn.setOf i k = true then reachTo z known i k ++ [reach z known (k : Int)] else reachTo z known i k := by
  unfold reachTo
  rw [List.range_succ, List.filter_append, List.map_append]
  rcases hs : Sn.setOf i k with _ | _
  · simp [hs]
  · simp [hs]
def sinceG (z : List Zn) (known : List Vc.St) (i : List Sn.Sp) : List Vc.St := if (zF (-1) none z && fm (-1) known) = true then sinceZ z known i else []

end Go.Proofs.YticnfjfdeagmaaaGreatDoor

namespace Go.Proofs.YticnfjfdeagmaaaGreatDoor
open Go.RowKit
set_option maxRecDepth 100000

def ntAl : Nt := ⟨[], [(1, 0)], [(3, 5)], []⟩
theorem al_E : tkE [] [] ntAl = 0 := by decide +kernel
theorem al_Z : tkZ' [] [] ntAl = [((3, 5), [])] := by decide +kernel
theorem al_K : tkK [] [] ntAl = [(1, 0)] := by decide +kernel

set_option maxHeartbeats 4000000 in
theorem aliveT_any (w : World) (hT : Tab w) : Calls Tryz.prog 4 #[] w fun e w' => e = .returned (.bool true) ∧ Below w.heap.size w w' := by
  have h1max : 1 ≤ maxLen := by unfold maxLen; omega
  have hbA : Below w.heap.size w (w.alloc (.cells #[.int .i64 1, .int .i64 0] 40)) := (Below.refl _ _).alloc (Nat.le_refl _) _
  have hbB := then_alloc hbA (.cells #[.int .i64 3, .int .i64 5] 42)
  have r1 := Rd.new w 40 2 1 #[.int .i64 1, .int .i64 0] rfl h1max
  have r2 := Rd.new (w.alloc (.cells #[.int .i64 1, .int .i64 0] 40)) 42 2 1 #[.int .i64 3, .int .i64 5] rfl h1max
  have hs1 : (w.alloc (.cells #[.int .i64 1, .int .i64 0] 40)).heap.size = w.heap.size + 1 := by simp
  rw [← hs1] at r1
  have r1 := r1.go hbB
  simp only [World.size_alloc] at r2
  have hb2 := below_then hbA (Nat.le_refl _) hbB
  obtain ⟨W2, hW2⟩ : ∃ W2, W2 = (w.alloc (.cells #[.int .i64 1, .int .i64 0] 40)).alloc (.cells #[.int .i64 3, .int .i64 5] 42) := ⟨_, rfl⟩
  have hs2 : W2.heap.size = w.heap.size + 1 + 1 := by rw [hW2]; simp
  rw [← hW2] at r1 r2 hb2
  rw [← hs2] at r2
  have hN : NtRd W2 W2.heap.size ⟨none, 0, 0, some ⟨w.heap.size, 0, none⟩, 1, 1, some ⟨w.heap.size + 1, 0, none⟩, 1, 1, none, 0, 0⟩ ntAl := ⟨rfl, Rd.none_, rfl, r1, rfl, r2, rfl, Rd.none_⟩
  have T := take_any none none 0 0 0 0 [] [] ⟨none, 0, 0, some ⟨w.heap.size, 0, none⟩, 1, 1, some ⟨w.heap.size + 1, 0, none⟩, 1, 1, none, 0, 0⟩ ntAl W2 (hT.below hb2) (RdZ.none_ _ _) rfl Rd.none_ hN
  rw [show zns [] = [] from rfl, al_E, al_Z, al_K] at T
  simp only [NV.val] at T
  have T := Lib.hid T
  have HW := Lib.hid hW2.symm
  have HB := Lib.hid hb2
  clear hbA hbB r1 r2 hs1 hb2 hW2 hN hT hs2
  go_enter Tryz.func4, Tryz.ntmps4
  go_wp2_with fail
  rw [HW.out]
  refine T.out.mono ?_
  rintro e w3 ⟨A', k', c', M, B', m', d', rfl, hz, hm, hl, _, hb3⟩
  obtain rfl : m' = 1 := hl.symm
  obtain ⟨p, rfl⟩ : ∃ p, M = [p] := by
    have := congrArg List.length hm
    rw [zns_len] at this
    exact List.length_eq_one_iff.1 this
  obtain rfl : k' = 1 := hz.len.symm
  obtain ⟨b, o, rfl, _, g0, g1, g2⟩ := hz.zone (k := 0) (by simp)
  have hv := (hz.each p (List.mem_singleton.2 rfl)).1
  have hp : p.2 = ((3, 5), []) := by simpa [zns] using hm
  simp only [List.getElem_cons_zero, Nat.zero_mul, Nat.add_zero, hp] at g0 g1 g2
  rw [hp] at hv
  have hv : p.1.n = 0 := hv.symm
  rw [hv] at g2
  have HB3 := Lib.hid (below_then HB.out (Nat.le_refl _) hb3)
  clear hz hm hl hb3 hv hp T
  go_wp2
  go_ret
  exact ⟨rfl, HB3.out⟩

end Go.Proofs.YticnfjfdeagmaaaGreatDoor

namespace Go.Proofs.YticnfjfdeagmaaaGreatDoor
open Go.RowKit
set_option maxRecDepth 100000

theorem OwnZ.blkT {w w' : World} {base g : Nat} {cs : Array Value} {A : Option Addr} {k c : Nat} {L : List (ZV × Zn)} (h : OwnZ w base A k c L) (hB : Blk w g 27 cs) (hg : w.grownBy w' (some g)) : OwnZ w' base A k c L :=
  ⟨h.row.kept hg (own_blk h.row hB (by decide)), fun p hp => ⟨(h.el p hp).1, (h.el p hp).2.kept hg (own_blk (h.el p hp).2 hB (by decide))⟩⟩
theorem blkOfV {W : World} {t : TypeId} {cs : Array Value} (_ : Below W.heap.size W (W.alloc (.cells cs t))) : Blk (W.alloc (.cells cs t)) W.heap.size t cs := Blk.new W t cs

theorem tkE_zeroV {z : List Zn} {known : List Vc.St} {x : Nt} (h : tkE z known x = 0) : zF (-1) none z = true ∧ fm (-1) known = true ∧ ntF x = true ∧ ntFits x known = true := by
  unfold tkE at h
  split at h
  · rename_i h1
    simp only [Bool.and_eq_true] at h1
    split at h
    · rename_i h2; exact ⟨h1.1, h1.2.1, h1.2.2, h2⟩
    · cases h
  · cases h

set_option maxHeartbeats 8000000 in
theorem trustTakes_walk (A D : Option Addr) (n c q d : Nat) (L : List (ZV × Zn)) (u0 : List Vc.St) (v : NV) (x : Nt) (w : World) (hT : Tab w) (hR : RdZ w w.heap.size A n c L) (hz : ZnSz n L) (hl : u0.length = q) (hR2 : Rd w w.heap.size 2 D q d (sv u0)) (hN : NtRd w w.heap.size v x) (hs : NtSz v) :
    Calls Tryz.prog 3 #[.slice A n c, .slice D q d, .agg v.val] w fun e w' => e = .returned (.bool true) ∧ Below w.heap.size w w' := by
  obtain ⟨hzz, hi⟩ := zero_of_info notes_zero
  have HI := Lib.hid hi
  obtain ⟨A1, n1, c1, A2, n2, c2, A3, n3, c3, A4, n4, c4⟩ := v
  have hb0 : Below w.heap.size w (w.alloc (.cells #[.slice A1 n1 c1, .slice A2 n2 c2, .slice A3 n3 c3, .slice A4 n4 c4] 27)) := (Below.refl _ _).alloc (Nat.le_refl _) _
  have hX := Blk.new w 27 #[.slice A1 n1 c1, .slice A2 n2 c2, .slice A3 n3 c3, .slice A4 n4 c4]
  obtain ⟨W0, hW0⟩ : ∃ W0, W0 = w.alloc (.cells #[.slice A1 n1 c1, .slice A2 n2 c2, .slice A3 n3 c3, .slice A4 n4 c4] 27) := ⟨_, rfl⟩
  rw [← hW0] at hb0 hX
  have HA := Lib.hid (aliveT_any W0 (hT.below hb0))
  have F1 := Lib.hid fun (V : World) (hb : Below W0.heap.size W0 V) => refZonesCopy_any A n c L V ((hR.go hb0).go hb) hz
  have F2 := fun (V : World) (hb : Below W0.heap.size W0 V) => refNtCopy_own ⟨A1, n1, c1, A2, n2, c2, A3, n3, c3, A4, n4, c4⟩ x V ((hN.go hb0).go hb) hs
  have T2 := fun (V : World) (hb : Below W0.heap.size W0 V) => refTake_any A D n c q d L u0 ⟨A1, n1, c1, A2, n2, c2, A3, n3, c3, A4, n4, c4⟩ x V ((hR.go hb0).go hb) hl ((hR2.go hb0).go hb) ((hN.go hb0).go hb)
  have S5 := fun (V : World) (hb : Below W0.heap.size W0 V) (v' : NV) (hv : NtRd V V.heap.size v' x) => refNtSame_any v' ⟨A1, n1, c1, A2, n2, c2, A3, n3, c3, A4, n4, c4⟩ x x V hv ((hN.go hb0).go hb)
  simp only [ntSame_self] at S5
  simp only [NV.val] at F2 T2 ⊢
  have HQ := Lib.hid fun (V : World) (hb : Below W0.heap.size W0 V) => (show V.cell? ⟨w.heap.size, 0, none⟩ = some (.slice A1 n1 c1) ∧ V.cell? ⟨w.heap.size, 1, none⟩ = some (.slice A2 n2 c2) ∧ V.cell? ⟨w.heap.size, 2, none⟩ = some (.slice A3 n3 c3) ∧ V.cell? ⟨w.heap.size, 3, none⟩ = some (.slice A4 n4 c4) from ⟨(hX.go hb).cell 0, (hX.go hb).cell 1, (hX.go hb).cell 2, (hX.go hb).cell 3⟩)
  have HW := Lib.hid hW0.symm
  have HB0 := Lib.hid hb0
  have HT0 := Lib.hid (hT.below hb0)
  have HR0 := Lib.hid (hR.go hb0)
  have HD0 := Lib.hid (hR2.go hb0)
  have HL := Lib.hid hl
  have F2 := Lib.hid F2
  have T2 := Lib.hid T2
  have S5 := Lib.hid S5
  clear hi hX hW0 hb0 hT hR hl hR2 hN hz hs
  go_enter Tryz.func3, Tryz.ntmps3
  go_wp2_with fail
  rw [HW.out]
  refine HA.out.mono ?_
  rintro e w1 ⟨rfl, hb1⟩
  have K1 := Lib.hid hb1
  clear hb1 HA
  go_upto_region 3 with fail
  go_cut [7, 8] (fun v7 v8 wx => ∃ (g8 c' : Nat) (A' : Option Addr) (M : List (ZV × Zn)) (v' : NV), v7 = .slice A' n c' ∧ v8 = .pointer (some ⟨g8, 0, none⟩) ∧ Hid (Below W0.heap.size W0 wx ∧ RdZ wx wx.heap.size A' n c' M ∧ zns M = zns L ∧ NtRd wx wx.heap.size v' x ∧ Blk wx g8 27 v'.val))
  case first =>
    have k : Below W0.heap.size W0 w1.drew := K1.out.drew
    refine region_nrm fun KK hKK => ?_
    refine wp_region_held_drew (S := (fun V => V.cell? ⟨w.heap.size, 0, none⟩ = some (.slice A1 n1 c1) ∧ V.cell? ⟨w.heap.size, 1, none⟩ = some (.slice A2 n2 c2) ∧ V.cell? ⟨w.heap.size, 2, none⟩ = some (.slice A3 n3 c3) ∧ V.cell? ⟨w.heap.size, 3, none⟩ = some (.slice A4 n4 c4))) (by kernel_rfl) (by first | exact HQ.out _ k) (fun hHeld => ?_)
    refine wpAnyH_putD (i := 0) (d := 17) (v := ?_) rfl rfl (by kernel_rfl) (by kernel_rfl) (by kernel_rfl) (fun _ _ _ h => h) (Or.inl ⟨by kernel_rfl, ?_⟩) (by first | exact HQ.out _ k) ?_
    rotate_left
    · (intro w hS; (try dsimp only at hS); go_simp <;> with_reducible rfl)
    try simp only [List.setIfInBounds_toArray, List.set_cons_zero, List.set_cons_succ]
    refine wpAnyH_putD (i := 2) (d := 19) (v := ?_) rfl rfl (by kernel_rfl) (by kernel_rfl) (by kernel_rfl) (fun _ _ _ h => h) (Or.inl ⟨by kernel_rfl, ?_⟩) (by first | exact HQ.out _ k) ?_
    rotate_left
    · (intro w hS; (try dsimp only at hS); go_simp <;> with_reducible rfl)
    try simp only [List.setIfInBounds_toArray, List.set_cons_zero, List.set_cons_succ]
    refine wpAnyH_ready (rs := [1, 4]) (by kernel_rfl) (by simp) ?_
    refine AllReadyH.cons rfl (fun K hK => ?_) (AllReadyH.cons rfl (fun K hK => ?_) AllReadyH.nil)
    · go_simp
      refine (F1.out _ k).mono ?_
      rintro e Wa ⟨A', c', M, rfl, hO, hM, hb'⟩
      have CZ := Lib.hid hO
      have HM := Lib.hid hM
      try (have G8 := Lib.hid (G8.out.go hb'))
      have k := below_then k (Nat.le_refl _) hb'
      clear hb' hO hM
      refine hK.out _ _ (by first | exact HQ.out _ k) (fun hHeld => ?_)
      clear hK K
      refine wpAnyH_ready (rs := [3, 4]) (by kernel_rfl) (by simp) ?_
      refine AllReadyH.cons rfl (fun K hK => ?_) (AllReadyH.cons rfl (fun K hK => ?_) AllReadyH.nil)
      · go_simp
        refine (F2.out _ k).mono ?_
        rintro e Wb ⟨⟨P1, p1, r1, P2, p2, r2, P3, p3, r3, P4, p4, r4⟩, rfl, hO, hb'⟩
        have CN := Lib.hid hO
        have CZ := Lib.hid (CZ.out.below hb')
        try (have G8 := Lib.hid (G8.out.go hb'))
        have k := below_then k (Nat.le_refl _) hb'
        clear hb' hO
        refine hK.out _ _ (by first | exact HQ.out _ k) (fun hHeld => ?_)
        clear hK K
        refine wpAnyH_ready (rs := [4]) (by kernel_rfl) (by simp) ?_
        refine AllReadyH.cons rfl (fun K hK => ?_) AllReadyH.nil
        go_simp
        have hb' := then_alloc k (.cells #[.slice none 0 0, .slice none 0 0, .slice none 0 0, .slice none 0 0] 27)
        have g := blkOfV hb'
        try rw [World.size_alloc] at g
        have G8 := Lib.hid g
        have g := k.size
        try rw [World.size_alloc] at g
        have hg8 := Lib.hid g
        clear g
        try (have CZ := Lib.hid (CZ.out.below hb'))
        try (have CN := Lib.hid (CN.out.below hb'))
        have k := below_then k (Nat.le_refl _) hb'
        clear hb'
        refine hK.out _ _ (by first | exact HQ.out _ k) (fun hHeld => ?_)
        clear hK K
        refine wpAnyH_putD (i := 5) (d := 7) (v := ?_) rfl rfl (by kernel_rfl) (by kernel_rfl) (by kernel_rfl) (fun _ _ _ h => h) (Or.inl ⟨by kernel_rfl, ?_⟩) (by first | exact HQ.out _ k) ?_
        rotate_left
        · (intro w hS; (try dsimp only at hS); go_simp <;> with_reducible rfl)
        try simp only [List.setIfInBounds_toArray, List.set_cons_zero, List.set_cons_succ]
        refine wpAnyH_ready (rs := [6]) (by kernel_rfl) (by simp) ?_
        refine AllReadyH.cons rfl (fun K hK => ?_) AllReadyH.nil
        rw [if_pos (by kernel_rfl)]
        refine wp_store_blk 27 (.tmp 8) (.tmp 20) rfl _ 27 _ #[.slice P1 p1 r1, .slice P2 p2 r2, .slice P3 p3 r3, .slice P4 p4 r4] rfl rfl G8.out HI.out rfl (by simp [Value.oneCell']) ?_
        intro Wd hblk hg
        have CN := Lib.hid (CN.out.blk G8.out (by decide) (by decide) (by decide) hg)
        have CZ := Lib.hid (CZ.out.blkT G8.out hg)
        have k := k.trans (grown_below hg k.size (fun j hj => by cases hj; exact hg8.out))
        have G8 := Lib.hid hblk
        clear hg hblk
        refine hK.out _ _ (by first | exact HQ.out _ k) (fun hHeld => ?_)
        clear hK K
        refine wpAnyH_done (by kernel_rfl) ?_ _
        refine Nrm.out (hKK _ _ ?_)
        go_wp2_with fail
        go_meet
        exact ⟨_, c', A', M, ⟨P1, p1, r1, P2, p2, r2, P3, p3, r3, P4, p4, r4⟩, rfl, rfl, k, CZ.out.rd, HM.out, CN.out.rd, G8.out⟩
      · go_simp
        have hb' := then_alloc k (.cells #[.slice none 0 0, .slice none 0 0, .slice none 0 0, .slice none 0 0] 27)
        have g := blkOfV hb'
        try rw [World.size_alloc] at g
        have G8 := Lib.hid g
        have g := k.size
        try rw [World.size_alloc] at g
        have hg8 := Lib.hid g
        clear g
        try (have CZ := Lib.hid (CZ.out.below hb'))
        try (have CN := Lib.hid (CN.out.below hb'))
        have k := below_then k (Nat.le_refl _) hb'
        clear hb'
        refine hK.out _ _ (by first | exact HQ.out _ k) (fun hHeld => ?_)
        clear hK K
        refine wpAnyH_ready (rs := [3]) (by kernel_rfl) (by simp) ?_
        refine AllReadyH.cons rfl (fun K hK => ?_) AllReadyH.nil
        go_simp
        refine (F2.out _ k).mono ?_
        rintro e Wb ⟨⟨P1, p1, r1, P2, p2, r2, P3, p3, r3, P4, p4, r4⟩, rfl, hO, hb'⟩
        have CN := Lib.hid hO
        have CZ := Lib.hid (CZ.out.below hb')
        try (have G8 := Lib.hid (G8.out.go hb'))
        have k := below_then k (Nat.le_refl _) hb'
        clear hb' hO
        refine hK.out _ _ (by first | exact HQ.out _ k) (fun hHeld => ?_)
        clear hK K
        refine wpAnyH_putD (i := 5) (d := 7) (v := ?_) rfl rfl (by kernel_rfl) (by kernel_rfl) (by kernel_rfl) (fun _ _ _ h => h) (Or.inl ⟨by kernel_rfl, ?_⟩) (by first | exact HQ.out _ k) ?_
        rotate_left
        · (intro w hS; (try dsimp only at hS); go_simp <;> with_reducible rfl)
        try simp only [List.setIfInBounds_toArray, List.set_cons_zero, List.set_cons_succ]
        refine wpAnyH_ready (rs := [6]) (by kernel_rfl) (by simp) ?_
        refine AllReadyH.cons rfl (fun K hK => ?_) AllReadyH.nil
        rw [if_pos (by kernel_rfl)]
        refine wp_store_blk 27 (.tmp 8) (.tmp 20) rfl _ 27 _ #[.slice P1 p1 r1, .slice P2 p2 r2, .slice P3 p3 r3, .slice P4 p4 r4] rfl rfl G8.out HI.out rfl (by simp [Value.oneCell']) ?_
        intro Wd hblk hg
        have CN := Lib.hid (CN.out.blk G8.out (by decide) (by decide) (by decide) hg)
        have CZ := Lib.hid (CZ.out.blkT G8.out hg)
        have k := k.trans (grown_below hg k.size (fun j hj => by cases hj; exact hg8.out))
        have G8 := Lib.hid hblk
        clear hg hblk
        refine hK.out _ _ (by first | exact HQ.out _ k) (fun hHeld => ?_)
        clear hK K
        refine wpAnyH_done (by kernel_rfl) ?_ _
        refine Nrm.out (hKK _ _ ?_)
        go_wp2_with fail
        go_meet
        exact ⟨_, c', A', M, ⟨P1, p1, r1, P2, p2, r2, P3, p3, r3, P4, p4, r4⟩, rfl, rfl, k, CZ.out.rd, HM.out, CN.out.rd, G8.out⟩
    · go_simp
      have hb' := then_alloc k (.cells #[.slice none 0 0, .slice none 0 0, .slice none 0 0, .slice none 0 0] 27)
      have g := blkOfV hb'
      try rw [World.size_alloc] at g
      have G8 := Lib.hid g
      have g := k.size
      try rw [World.size_alloc] at g
      have hg8 := Lib.hid g
      clear g
      try (have CZ := Lib.hid (CZ.out.below hb'))
      try (have CN := Lib.hid (CN.out.below hb'))
      have k := below_then k (Nat.le_refl _) hb'
      clear hb'
      refine hK.out _ _ (by first | exact HQ.out _ k) (fun hHeld => ?_)
      clear hK K
      refine wpAnyH_ready (rs := [1]) (by kernel_rfl) (by simp) ?_
      refine AllReadyH.cons rfl (fun K hK => ?_) AllReadyH.nil
      go_simp
      refine (F1.out _ k).mono ?_
      rintro e Wa ⟨A', c', M, rfl, hO, hM, hb'⟩
      have CZ := Lib.hid hO
      have HM := Lib.hid hM
      try (have G8 := Lib.hid (G8.out.go hb'))
      have k := below_then k (Nat.le_refl _) hb'
      clear hb' hO hM
      refine hK.out _ _ (by first | exact HQ.out _ k) (fun hHeld => ?_)
      clear hK K
      refine wpAnyH_ready (rs := [3]) (by kernel_rfl) (by simp) ?_
      refine AllReadyH.cons rfl (fun K hK => ?_) AllReadyH.nil
      go_simp
      refine (F2.out _ k).mono ?_
      rintro e Wb ⟨⟨P1, p1, r1, P2, p2, r2, P3, p3, r3, P4, p4, r4⟩, rfl, hO, hb'⟩
      have CN := Lib.hid hO
      have CZ := Lib.hid (CZ.out.below hb')
      try (have G8 := Lib.hid (G8.out.go hb'))
      have k := below_then k (Nat.le_refl _) hb'
      clear hb' hO
      refine hK.out _ _ (by first | exact HQ.out _ k) (fun hHeld => ?_)
      clear hK K
      refine wpAnyH_putD (i := 5) (d := 7) (v := ?_) rfl rfl (by kernel_rfl) (by kernel_rfl) (by kernel_rfl) (fun _ _ _ h => h) (Or.inl ⟨by kernel_rfl, ?_⟩) (by first | exact HQ.out _ k) ?_
      rotate_left
      · (intro w hS; (try dsimp only at hS); go_simp <;> with_reducible rfl)
      try simp only [List.setIfInBounds_toArray, List.set_cons_zero, List.set_cons_succ]
      refine wpAnyH_ready (rs := [6]) (by kernel_rfl) (by simp) ?_
      refine AllReadyH.cons rfl (fun K hK => ?_) AllReadyH.nil
      rw [if_pos (by kernel_rfl)]
      refine wp_store_blk 27 (.tmp 8) (.tmp 20) rfl _ 27 _ #[.slice P1 p1 r1, .slice P2 p2 r2, .slice P3 p3 r3, .slice P4 p4 r4] rfl rfl G8.out HI.out rfl (by simp [Value.oneCell']) ?_
      intro Wd hblk hg
      have CN := Lib.hid (CN.out.blk G8.out (by decide) (by decide) (by decide) hg)
      have CZ := Lib.hid (CZ.out.blkT G8.out hg)
      have k := k.trans (grown_below hg k.size (fun j hj => by cases hj; exact hg8.out))
      have G8 := Lib.hid hblk
      clear hg hblk
      refine hK.out _ _ (by first | exact HQ.out _ k) (fun hHeld => ?_)
      clear hK K
      refine wpAnyH_done (by kernel_rfl) ?_ _
      refine Nrm.out (hKK _ _ ?_)
      go_wp2_with fail
      go_meet
      exact ⟨_, c', A', M, ⟨P1, p1, r1, P2, p2, r2, P3, p3, r3, P4, p4, r4⟩, rfl, rfl, k, CZ.out.rd, HM.out, CN.out.rd, G8.out⟩
  case rest =>
    obtain ⟨g8, c', A', M, ⟨P1, p1, r1, P2, p2, r2, P3, p3, r3, P4, p4, r4⟩, rfl, rfl, hh⟩ := hcut
    obtain ⟨k, hZ, hM, hN, G8⟩ := hh.out
    clear F1 F2 K1 hh
    rename_i wc
    have T1 := take_any A' D n c' q d M u0 ⟨P1, p1, r1, P2, p2, r2, P3, p3, r3, P4, p4, r4⟩ x wc (HT0.out.below k) hZ HL.out (HD0.out.go k) hN
    rw [hM] at T1
    have HFM := Lib.hid (show tkE (zns L) u0 x = 0 → zF (-1) none (tkZ' (zns L) u0 x) = true from fun h => by
      obtain ⟨f1, f2, _, _⟩ := tkE_zeroV h
      unfold tkZ'; rw [if_pos h]
      exact tkZ_fm f1 f2 x)
    obtain ⟨E, hE⟩ : ∃ E, E = tkE (zns L) u0 x := ⟨_, rfl⟩
    obtain ⟨Z, hZZ⟩ : ∃ Z, Z = tkZ' (zns L) u0 x := ⟨_, rfl⟩
    obtain ⟨K, hKK⟩ : ∃ K, K = tkK (zns L) u0 x := ⟨_, rfl⟩
    rw [← hE, ← hZZ] at HFM
    rw [← hE, ← hZZ, ← hKK] at T1 T2
    simp only [NV.val] at T1 G8
    have T1 := Lib.hid T1
    have HM := Lib.hid hM
    have HZ := Lib.hid hZ
    have HN := Lib.hid hN
    have HG := Lib.hid G8
    have KC := Lib.hid k
    have heq : (E == E) = true := by simp
    obtain ⟨z0, z1, z2, z3⟩ := G8.four4
    clear hE hZZ hKK hM hZ hN G8 k
    go_wp2_with fail
    refine T1.out.mono ?_
    rintro e w2 ⟨A5, k5, c5, M5, B5, m5, d5, rfl, hz5, hm5, hl5, hr5, hb2⟩
    have KC2 := Lib.hid (below_then KC.out (Nat.le_refl _) hb2)
    have HZ2 := Lib.hid (HZ.out.go hb2)
    have HN2 := Lib.hid (HN.out.go hb2)
    have HG2 := Lib.hid (HG.out.go hb2)
    have HZ5 := Lib.hid hz5
    have HM5 := Lib.hid hm5
    have HL5 := Lib.hid hl5
    have HR5 := Lib.hid hr5
    obtain ⟨q0, q1, q2, q3⟩ := HQ.out _ KC2.out
    clear hz5 hm5 hl5 hr5 hb2 T1 HZ HN HG z0 z1 z2 z3
    go_wp2_with fail
    refine (T2.out _ KC2.out).mono ?_
    rintro e w3 ⟨A6, k6, c6, M6, B6, m6, d6, rfl, hz6, hm6, hl6, hr6, hb3⟩
    have KC3 := Lib.hid (below_then KC2.out (Nat.le_refl _) hb3)
    have S1 := refZonesSame_q A5 A6 k5 c5 k6 c6 M5 M6 w3 (HZ5.out.go hb3) hz6
    rw [HM5.out, hm6, decide_eq_true rfl] at S1
    have S1 := Lib.hid S1
    have S2 := fun m => same_q B5 B6 m5 d5 m6 d6 K K (w3.drewN m) HL5.out hl6 ((HR5.out.go hb3).drewN m) (hr6.drewN m)
    have S3 := fun m => refZonesSame_q A' A n c' n c M L (w3.drewN m) ((HZ2.out.go hb3).go (below_drewN (Below.refl _ _) m)) ((HR0.out.go KC3.out).go (below_drewN (Below.refl _ _) m))
    simp only [decide_true] at S2
    simp only [HM.out, decide_true] at S3
    have S4 := fun (V : World) (hb : Below w3.heap.size w3 V) => S5.out V (below_then KC3.out (Nat.le_refl _) hb) ⟨P1, p1, r1, P2, p2, r2, P3, p3, r3, P4, p4, r4⟩ ((HN2.out.go hb3).go hb)
    simp only [NV.val] at S4
    have S6 := fun (V : World) (hb : Below w3.heap.size w3 V) => zonesFormed_any A5 k5 c5 M5 V ((HZ5.out.go hb3).go hb)
    rw [HM5.out] at S6
    have CE := Lib.hid fun (V : World) (hb : Below w3.heap.size w3 V) => (show (V.cell? ⟨w.heap.size, 0, none⟩ = some (.slice A1 n1 c1) ∧ V.cell? ⟨w.heap.size, 1, none⟩ = some (.slice A2 n2 c2) ∧ V.cell? ⟨w.heap.size, 2, none⟩ = some (.slice A3 n3 c3) ∧ V.cell? ⟨w.heap.size, 3, none⟩ = some (.slice A4 n4 c4)) ∧ (V.cell? ⟨g8, 0, none⟩ = some (.slice P1 p1 r1) ∧ V.cell? ⟨g8, 1, none⟩ = some (.slice P2 p2 r2) ∧ V.cell? ⟨g8, 2, none⟩ = some (.slice P3 p3 r3) ∧ V.cell? ⟨g8, 3, none⟩ = some (.slice P4 p4 r4)) from ⟨HQ.out V (below_then KC3.out (Nat.le_refl _) hb), ((HG2.out.go hb3).go hb).four4⟩)
    have S2 := Lib.hid S2
    have S3 := Lib.hid S3
    have S4 := Lib.hid S4
    have S6 := Lib.hid S6
    clear hz6 hm6 hl6 hr6 hb3 T2 q0 q1 q2 q3 S5
    go_wp2_with fail
    refine S1.out.mono ?_
    rintro e w4 ⟨rfl, m1, rfl⟩
    go_wp2_with fail
    refine (S2.out _).mono ?_
    rintro e w5 ⟨rfl, m2, rfl⟩
    rw [World.drewN_drewN]
    go_wp2_with fail
    refine (S3.out _).mono ?_
    rintro e w6 ⟨rfl, m3, rfl⟩
    rw [World.drewN_drewN]
    obtain ⟨W7, hW7⟩ : ∃ V, V = w3.drewN (m1 + m2 + m3) := ⟨_, rfl⟩
    have hb7 : Below w3.heap.size w3 W7 := by rw [hW7]; exact below_drewN (Below.refl _ _) _
    rw [← hW7]
    obtain ⟨⟨q0, q1, q2, q3⟩, z0, z1, z2, z3⟩ := CE.out _ hb7
    clear hW7
    go_wp2_with fail
    refine (S4.out _ hb7).mono ?_
    rintro e w8 ⟨rfl, hb8⟩
    have hb38 := below_then hb7 (Nat.le_refl _) hb8
    clear q0 q1 q2 q3 z0 z1 z2 z3
    by_cases hE : E = 0
    · have hne : (E != 0) = false := by simp [hE]
      have S6 := S6.out _ hb38
      rw [HFM.out hE] at S6
      have S6 := Lib.hid S6
      clear hE
      go_wp2_with fail
      refine S6.out.mono ?_
      rintro e w9 ⟨rfl, hb9⟩
      go_wp2
      go_ret
      exact ⟨rfl, below_then HB0.out (Nat.le_refl _) (below_then (below_then KC3.out (Nat.le_refl _) hb38) (Nat.le_refl _) hb9)⟩
    · have hne : (E != 0) = true := by simpa using hE
      clear hE
      go_wp2
      go_ret
      exact ⟨rfl, below_then HB0.out (Nat.le_refl _) (below_then KC3.out (Nat.le_refl _) hb38)⟩
end Go.Proofs.YticnfjfdeagmaaaGreatDoor

