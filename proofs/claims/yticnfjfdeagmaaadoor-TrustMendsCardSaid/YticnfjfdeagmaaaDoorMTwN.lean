/- Texts of one layer in one file: TwH, TwN, TwR. -/
import Derived.Test.YticnfjfdeagmaaaDoorTwE
import Derived.Test.YticnfjfdeagmaaaDoorMVec
import Derived.Test.YticnfjfdeagmaaaDoorTwM
import Derived.Test.YticnfjfdeagmaaaDoorSpB
namespace Go.Proofs.YticnfjfdeagmaaaDoor
open Go.RowKit
set_option maxRecDepth 100000

theorem stampsH_info : (Tryd.prog.info? 23).map (fun i => (i.zero, i.size, i.bytes)) = some (some (.slice none 0 0), 1, 24) := by kernel_rfl
def vsv (l : List (ZV × List Vc.St)) : List Value := l.map fun x => .slice x.1.A x.1.n x.1.c
theorem vsv_snoc (l : List (ZV × List Vc.St)) (x : ZV × List Vc.St) : vsv (l ++ [x]) = vsv l ++ [.slice x.1.A x.1.n x.1.c] := by simp [vsv]
/-- A list of vectors of the call's own. -/
structure OwnV (w : World) (base : Nat) (A : Option Addr) (k c : Nat) (ys : List (ZV × List Vc.St)) : Prop where
  row : w.ownsRow base 23 1 (.slice A k c) k (vsv ys)
  el : ∀ y ∈ ys, y.2.length = y.1.n ∧ w.ownsRow base 51 2 (.slice y.1.A y.1.n y.1.c) y.1.n (sv y.2)
theorem OwnV.nil (w : World) (base : Nat) : OwnV w base none 0 0 [] := ⟨World.ownsRow_nil _ _ _ _, by simp⟩
theorem OwnV.below {w w' : World} {base : Nat} {A : Option Addr} {k c : Nat} {ys : List (ZV × List Vc.St)} (h : OwnV w base A k c ys) (hb : Below w.heap.size w w') : OwnV w' base A k c ys :=
  ⟨own_below h.row hb (Nat.le_refl _), fun y hy => ⟨(h.el y hy).1, own_below (h.el y hy).2 hb (Nat.le_refl _)⟩⟩
theorem OwnV.push {w w' : World} {base : Nat} {A A' : Option Addr} {k c c' : Nat} {ys : List (ZV × List Vc.St)} {y : ZV × List Vc.St} (h : OwnV w base A k c ys) (hy : y.2.length = y.1.n ∧ w.ownsRow base 51 2 (.slice y.1.A y.1.n y.1.c) y.1.n (sv y.2))
    (hg : w.grownBy w' (Value.slice A k c).ownBlock) (ho : w'.ownsRow base 23 1 (.slice A' (k + 1) c') (k + 1) (vsv ys ++ [.slice y.1.A y.1.n y.1.c])) : OwnV w' base A' (k + 1) c' (ys ++ [y]) := by
  refine ⟨by rw [vsv_snoc]; exact ho, fun z hz => ?_⟩
  rcases List.mem_append.1 hz with hz | hz
  · exact ⟨(h.el z hz).1, (h.el z hz).2.kept hg (own_two (h.el z hz).2 h.row (by decide))⟩
  · obtain rfl : z = y := by simpa using hz
    exact ⟨hy.1, hy.2.kept hg (own_two hy.2 h.row (by decide))⟩
theorem OwnV.len {w : World} {base : Nat} {A : Option Addr} {k c : Nat} {ys : List (ZV × List Vc.St)} (h : OwnV w base A k c ys) : ys.length = k := by
  have := h.row.1
  unfold vsv at this
  rw [List.length_map] at this
  omega
theorem OwnV.rd {w : World} {base : Nat} {A : Option Addr} {k c : Nat} {ys : List (ZV × List Vc.St)} (h : OwnV w base A k c ys) : RdL w w.heap.size A k c (ys.map (·.2)) := by
  have hR := Rd.of_own h.row
  have hl := h.len
  refine ⟨by rw [List.length_map]; exact hl, hR.cap, hR.max, hR.nil, fun i hi => ?_⟩
  rw [List.length_map] at hi
  obtain ⟨b, o, hA, hb, hcell⟩ := hR.plain (by omega) (by decide)
  obtain ⟨h1, h2⟩ := h.el _ (List.getElem_mem hi)
  refine ⟨b, o, (ys[i]).1.A, (ys[i]).1.n, (ys[i]).1.c, hA, hb, hcell i _ ?_, by rw [List.getElem_map]; exact h1, by rw [List.getElem_map]; exact Rd.of_own h2⟩
  unfold vsv
  rw [List.getElem?_map, List.getElem?_eq_getElem hi]; rfl
def reachTo (z : List Zn) (known : List Vc.St) (i : List Sn.Sp) (k : Nat) : List (List Vc.St) := ((List.range k).filter (Sn.setOf i)).map fun o : Nat => reach z known (o : Int)
theorem reachTo_next (z : List Zn) (known : List Vc.St) (i : List Sn.Sp) (k : Nat) : reachTo z known i (k + 1) = if Sn.setOf i k = true then reachTo z known i k ++ [reach z known (k : Int)] else reachTo z known i k := by
  unfold reachTo
  rw [List.range_succ, List.filter_append, List.map_append]
  rcases hs : Sn.setOf i k with _ | _
  · simp [hs]
  · simp [hs]
def sinceG (z : List Zn) (known : List Vc.St) (i : List Sn.Sp) : List Vc.St := if (zF (-1) none z && fm (-1) known) = true then sinceZ z known i else []

set_option maxHeartbeats 8000000 in
theorem refZonesSince_any (A D E : Option Addr) (n c m d q s : Nat) (L : List (ZV × Zn)) (u0 : List Vc.St) (sp : List Sn.Sp) (w : World) (hR : RdZ w w.heap.size A n c L) (hl : u0.length = m) (hR2 : Rd w w.heap.size 2 D m d (sv u0))
    (hl3 : sp.length = q) (hR3 : Rd w w.heap.size 2 E q s (sv sp)) :
    Calls Tryd.prog 23 #[.slice A n c, .slice D m d, .slice E q s] w fun e w' => StOut w w' e (sinceG (zns L) u0 sp) := by
  have G := refZonesFormed_any A n c L w hR
  have F := fun (V : World) (hb : Below w.heap.size w V) => refFormed_any D m d u0 V hl (hR2.go hb)
  rcases hf : zF (-1) none (zns L) with _ | _
  · have HN := Lib.hid (show sinceG (zns L) u0 sp = [] by unfold sinceG; rw [hf]; rfl)
    rw [hf] at G
    have G := Lib.hid G
    clear hf hR hR2 hl F hR3 hl3
    go_enter Tryd.func23, Tryd.ntmps23
    go_wp2_with fail
    refine G.out.mono ?_
    rintro e w1 ⟨rfl, hb1⟩
    go_wp2
    go_ret
    rw [HN.out]
    exact StOut.nil hb1
  · rcases hf2 : fm (-1) u0 with _ | _
    · have HN := Lib.hid (show sinceG (zns L) u0 sp = [] by unfold sinceG; rw [hf2]; simp)
      rw [hf] at G
      rw [hf2] at F
      have G := Lib.hid G
      have F := Lib.hid F
      clear hf hf2 hR hR2 hl hR3 hl3
      go_enter Tryd.func23, Tryd.ntmps23
      go_wp2_with fail
      refine G.out.mono ?_
      rintro e w1 ⟨rfl, hb1⟩
      go_wp2_with fail
      refine (F.out _ hb1).mono ?_
      rintro e w2 ⟨rfl, hb2⟩
      go_wp2
      go_ret
      rw [HN.out]
      exact StOut.nil (below_then hb1 (Nat.le_refl _) hb2)
    · have HN := Lib.hid (show sinceG (zns L) u0 sp = sinceZ (zns L) u0 sp by unfold sinceG; rw [hf, hf2]; rfl)
      have hm64 : m ≤ 64 := by rw [← hl]; exact stl_len hf2
      have HRF := Lib.hid fun o (h : o < 256) => (show reachF (zns L) u0 ((o : Nat) : Int) = reach (zns L) u0 (o : Int) from reachF_yes hf hf2 (by omega))
      obtain ⟨i0, hi0, hz0, hz1, hz2⟩ := info_parts stampsH_info
      have h1max : 1 ≤ maxLen := by unfold maxLen; omega
      rw [hf] at G
      rw [hf2] at F
      obtain ⟨hz, hi⟩ := zero_of_info zero_marks
      have HI := Lib.hid hi
      have G := Lib.hid G
      have F := Lib.hid F
      have HSET := Lib.hid (fun (V : World) (hb : Below w.heap.size w V) => refSet_any E q s sp V hl3 (hR3.go hb))
      have HR := Lib.hid hR
      have HR2 := Lib.hid hR2
      have HL2 := Lib.hid hl
      have HRC := Lib.hid fun (V : World) (hb : Below w.heap.size w V) o => refZonesReach_any A D n c m d L u0 o V (hR.go hb) hl (hR2.go hb)
      have HNX := Lib.hid fun k => reachTo_next (zns L) u0 sp k
      have HEB := Lib.hid (show sinceZ (zns L) u0 sp = if reachTo (zns L) u0 sp 256 = [] then u0 else vec (mt (reachTo (zns L) u0 sp 256)) from rfl)
      generalize Sn.setOf sp = p at HSET HNX
      clear hf hf2 hR hR2 hl hR3 hl3 hi
      go_enter Tryd.func23, Tryd.ntmps23
      go_wp2_with fail
      refine G.out.mono ?_
      rintro e w1 ⟨rfl, hb1⟩
      go_wp2_with fail
      refine (F.out _ hb1).mono ?_
      rintro e w2 ⟨rfl, hb2⟩
      have hb02 := below_then hb1 (Nat.le_refl _) hb2
      clear hb1 hb2 G F
      go_wp2_with fail
      refine (HSET.out _ hb02).mono ?_
      rintro e w3 ⟨rfl, hb3⟩
      have hb03 := below_then hb02 (Nat.le_refl _) hb3
      clear hb02 hb3
      go_wp2_with (refine wpList_store_blk rfl 70 _ _ rfl w3.heap.size 70 _ (b256 p) rfl rfl (Blk.new w3 70 (b256 fun _ => false)) (by rw [b256_size]; exact HI.out) rfl (b256_oneCell _) ?_; intro w4 hk4 hg4)
      have hs3 := hb03.size
      have hb04 : Below w.heap.size w w4 := (hb03.alloc hs3 (.cells (b256 fun _ => false) 70)).trans (grown_below hg4 (by simp; omega) (fun k hk => by cases hk; exact hs3))
      have HB4 := Lib.hid hb04
      have HK4 := Lib.hid hk4
      clear hb03 hb04 hk4 hg4
      go_loopw [8, 9] (fun v8 v9 wr => ∃ (k j c' : Nat) (A' : Option Addr), v9 = .int .i64 k ∧ v8 = .slice A' j c' ∧ k ≤ 256 ∧ j ≤ k ∧ Below w4.heap.size w4 wr ∧ Hid (∃ ys, OwnV wr w4.heap.size A' j c' ys ∧ ys.map (·.2) = reachTo (zns L) u0 sp k)) (fun _ v9 _ => 256 - (intOf v9).toNat)
      case atStart => exact ⟨0, 0, 0, none, rfl, rfl, by omega, by omega, Below.refl _ _, [], OwnV.nil _ _, rfl⟩
      case round =>
        obtain ⟨k, j, c', A', rfl, rfl, hk, hj, hb, hy⟩ := hrel
        obtain ⟨ys, hys, hyl⟩ := hy.out
        have hbs := hb.size
        have hbw := below_then HB4.out (Nat.le_refl _) hb
        by_cases hlt : k < 256
        · have gk := (HK4.out.go hb).cell k
          rw [b256_at _ _ hlt] at gk
          have hnx := HNX.out k
          have R := HRC.out _ hbw (k : Int)
          rw [HRF.out k hlt] at R
          rcases hpk : p k with _ | _
          · rw [hpk] at gk hnx
            rw [if_neg (by simp)] at hnx
            have HNN := Lib.hid hnx
            have HYS := Lib.hid hys
            have HYL := Lib.hid hyl
            clear hpk hnx R hys hyl hy
            go_wp2
            go_roundw
            case rel => exact ⟨k + 1, j, c', A', by go_num, rfl, by omega, by omega, hb, ys, HYS.out, by rw [HNN.out]; exact HYL.out⟩
            case measure => simp [intOf]; omega
          · rw [hpk] at gk hnx
            rw [if_pos rfl] at hnx
            have HNN := Lib.hid hnx
            have R := Lib.hid R
            have HYS := Lib.hid hys
            have HYL := Lib.hid hyl
            have HBB := Lib.hid hb
            have HRW := Lib.hid (HRF.out k hlt)
            clear hpk hnx hys hyl hy hb hbw
            go_wp2_with fail
            refine R.out.mono ?_
            rintro e w5 hout
            obtain ⟨A5, c5, rfl, ho5, hb5⟩ := hout
            have hs5 := hb5.size
            have h63 : j + 1 ≤ maxLen := by unfold maxLen; omega
            obtain ⟨u, hu⟩ : ∃ u, u = reach (zns L) u0 (k : Int) := ⟨_, rfl⟩
            rw [← hu] at ho5
            rw [← hu] at HNN ⊢
            obtain ⟨nu, hnu⟩ : ∃ nu, nu = u.length := ⟨_, rfl⟩
            rw [← hnu] at ho5
            rw [← hnu]
            have hb5A := then_alloc hb5 (.cells #[.slice A5 nu c5] 23)
            have CV := Lib.hid (own_below (own_less (base' := w4.heap.size) ho5 hbs) hb5A (Nat.le_refl _))
            have CY := Lib.hid ((HYS.out.below hb5).below hb5A)
            have HRN := Lib.hid (Rd.new w5 23 1 1 #[.slice A5 nu c5] rfl h1max)
            have HB5 := Lib.hid ((below_then HBB.out (Nat.le_refl _) hb5).trans (hb5A.mono (by omega)))
            have HU := Lib.hid hnu.symm
            clear ho5 hb5 hb5A hu hnu R HYS
            go_wp2_with (at_builtin; go_must (refine wpList_append_rd _ rfl (.tmp 27) (.tmp 32) _ rfl w4.heap.size 23 i0 _ 1 24 Tryd.underlying48 hi0 hz0 hz1 hz2 rfl (by decide) (.slice A' j c') j _ rfl CY.out.row _ (some ⟨_, 0, none⟩) 1 1 [.slice A5 nu c5] rfl HRN.out (by intro u hu; simp at hu; subst hu; rfl) h63 (by omega) (by simp; omega) ?_); intro A6 c6 w6 ho6 hg6 hat6)
            go_roundw
            case rel => exact ⟨k + 1, j + 1, c6, A6, by go_num, rfl, by omega, by omega, HB5.out.trans (grown_below hg6 (by simp; omega) (fun g hg => own_lt CY.out.row g hg)), ys ++ [(⟨A5, nu, c5⟩, u)], OwnV.push CY.out ⟨HU.out, CV.out⟩ hg6 ho6, by rw [List.map_append, HYL.out, HNN.out]; rfl⟩
            case measure => simp [intOf]; omega
        · obtain rfl : k = 256 := by omega
          have hlen := hys.len
          have hRL := hys.rd
          rw [hyl] at hRL
          have hll := congrArg List.length hyl
          rw [List.length_map, hlen] at hll
          have HB := Lib.hid hbw
          have hbws := hbw.size
          by_cases hj0 : j = 0
          · have HX := Lib.hid (show sinceG (zns L) u0 sp = u0 by rw [HN.out, HEB.out, if_pos (List.eq_nil_of_length_eq_zero (by omega))])
            have C := Lib.hid (vcopy_any D m d (sv u0) wr (HR2.out.go hbw) (sv_oneCell _) (by omega))
            subst hj0
            clear hys hyl hy hlen hRL hll hbw
            go_wp2_with fail
            refine C.out.mono ?_
            rintro e w5 ⟨A5, c5, rfl, ho5, hb5⟩
            go_wp2
            go_ret
            rw [HX.out]
            exact ⟨A5, c5, by rw [HL2.out] <;> rfl, by rw [HL2.out]; exact own_less ho5 hbws, below_then HB.out (Nat.le_refl _) hb5⟩
          · have HX := Lib.hid (show sinceG (zns L) u0 sp = vec (mt (reachTo (zns L) u0 sp 256)) by rw [HN.out, HEB.out, if_neg (fun e => by rw [e] at hll; simp at hll; omega)])
            have C := Lib.hid (refMeet_ne A' j c' _ wr hRL (by omega))
            clear hys hyl hy hlen hRL hll hbw
            go_wp2_with fail
            refine C.out.mono ?_
            rintro e w5 hout
            rw [← HX.out] at hout
            obtain ⟨A5, c5, rfl, ho5, hb5⟩ := hout
            go_wp2
            go_ret
            exact ⟨A5, c5, rfl, own_less ho5 hbws, below_then HB.out (Nat.le_refl _) hb5⟩
end Go.Proofs.YticnfjfdeagmaaaDoor

namespace Go.Proofs.YticnfjfdeagmaaaDoor
open Go.RowKit
set_option maxRecDepth 100000

def ntAl : Nt := ⟨[], [(1, 0)], [(3, 5)], []⟩
theorem al_E : tkE [] [] ntAl = 0 := by decide +kernel
theorem al_Z : tkZ' [] [] ntAl = [((3, 5), [])] := by decide +kernel
theorem al_K : tkK [] [] ntAl = [(1, 0)] := by decide +kernel

set_option maxHeartbeats 4000000 in
theorem aliveT_any (w : World) (hT : Tab w) : Calls Tryd.prog 8 #[] w fun e w' => e = .returned (.bool true) ∧ Below w.heap.size w w' := by
  have h1max : 1 ≤ maxLen := by unfold maxLen; omega
  have hbA : Below w.heap.size w (w.alloc (.cells #[.int .i64 1, .int .i64 0] 51)) := (Below.refl _ _).alloc (Nat.le_refl _) _
  have hbB := then_alloc hbA (.cells #[.int .i64 3, .int .i64 5] 53)
  have r1 := Rd.new w 51 2 1 #[.int .i64 1, .int .i64 0] rfl h1max
  have r2 := Rd.new (w.alloc (.cells #[.int .i64 1, .int .i64 0] 51)) 53 2 1 #[.int .i64 3, .int .i64 5] rfl h1max
  have hs1 : (w.alloc (.cells #[.int .i64 1, .int .i64 0] 51)).heap.size = w.heap.size + 1 := by simp
  rw [← hs1] at r1
  have r1 := r1.go hbB
  simp only [World.size_alloc] at r2
  have hb2 := below_then hbA (Nat.le_refl _) hbB
  obtain ⟨W2, hW2⟩ : ∃ W2, W2 = (w.alloc (.cells #[.int .i64 1, .int .i64 0] 51)).alloc (.cells #[.int .i64 3, .int .i64 5] 53) := ⟨_, rfl⟩
  have hs2 : W2.heap.size = w.heap.size + 1 + 1 := by rw [hW2]; simp
  rw [← hW2] at r1 r2 hb2
  rw [← hs2] at r2
  have hN : NtRd W2 W2.heap.size ⟨none, 0, 0, some ⟨w.heap.size, 0, none⟩, 1, 1, some ⟨w.heap.size + 1, 0, none⟩, 1, 1, none, 0, 0⟩ ntAl := ⟨rfl, Rd.none_, rfl, r1, rfl, r2, rfl, Rd.none_⟩
  have T := take_any none none 0 0 0 0 [] [] ⟨none, 0, 0, some ⟨w.heap.size, 0, none⟩, 1, 1, some ⟨w.heap.size + 1, 0, none⟩, 1, 1, none, 0, 0⟩ ntAl W2 (hT.below hb2) (RdZ.none_ _ _) rfl Rd.none_ hN
  rw [show zns [] = [] from rfl, al_E, al_Z, al_K] at T
  simp only [NV.val] at T
  have T := Lib.hid T
  have HW := Lib.hid hW2.symm
  have HB := Lib.hid hb2
  clear hbA hbB r1 r2 hs1 hb2 hW2 hN hT hs2
  go_enter Tryd.func8, Tryd.ntmps8
  go_wp2_with fail
  rw [HW.out]
  refine T.out.mono ?_
  rintro e w3 ⟨A', k', c', M, B', m', d', rfl, hz, hm, hl, _, hb3⟩
  obtain rfl : m' = 1 := hl.symm
  obtain ⟨p, rfl⟩ : ∃ p, M = [p] := by
    have := congrArg List.length hm
    rw [zns_len] at this
    exact List.length_eq_one_iff.1 this
  obtain rfl : k' = 1 := hz.len.symm
  obtain ⟨b, o, rfl, _, g0, g1, g2⟩ := hz.zone (k := 0) (by simp)
  have hv := (hz.each p (List.mem_singleton.2 rfl)).1
  have hp : p.2 = ((3, 5), []) := by simpa [zns] using hm
  simp only [List.getElem_cons_zero, Nat.zero_mul, Nat.add_zero, hp] at g0 g1 g2
  rw [hp] at hv
  have hv : p.1.n = 0 := hv.symm
  rw [hv] at g2
  have HB3 := Lib.hid (below_then HB.out (Nat.le_refl _) hb3)
  clear hz hm hl hb3 hv hp T
  go_wp2
  go_ret
  exact ⟨rfl, HB3.out⟩

set_option maxHeartbeats 4000000 in
theorem trustSinces_walk (A D E : Option Addr) (n c m d q s : Nat) (L : List (ZV × Zn)) (u0 : List Vc.St) (sp : List Sn.Sp) (w : World) (hT : Tab w) (hR : RdZ w w.heap.size A n c L) (hl : u0.length = m) (hR2 : Rd w w.heap.size 2 D m d (sv u0))
    (hl3 : sp.length = q) (hR3 : Rd w w.heap.size 2 E q s (sv sp)) (hq : q ≤ 8796093022208) :
    Calls Tryd.prog 6 #[.slice A n c, .slice D m d, .slice E q s] w fun e w' => e = .returned (.bool true) ∧ Below w.heap.size w w' := by
  have G1 := Lib.hid fun (V : World) (hb : Below w.heap.size w V) => zonesSince_any A D E n c m d q s L u0 sp V (hT.below hb) (hR.go hb) hl (hR2.go hb) hl3 (hR3.go hb) hq
  have G2 := Lib.hid fun (V : World) (hb : Below w.heap.size w V) => refZonesSince_any A D E n c m d q s L u0 sp V (hR.go hb) hl (hR2.go hb) hl3 (hR3.go hb)
  have HE := Lib.hid (show sinceG (zns L) u0 sp = sinceF (zns L) u0 sp from rfl)
  have HA := Lib.hid (aliveT_any w hT)
  clear hR hR2 hR3 hl hl3 hT
  go_enter Tryd.func6, Tryd.ntmps6
  go_wp2_with fail
  refine HA.out.mono ?_
  rintro e w1 ⟨rfl, hb1⟩
  go_wp2_with fail
  refine (G1.out _ hb1).mono ?_
  rintro e w2 hout
  obtain ⟨u, hu⟩ : ∃ u, u = sinceF (zns L) u0 sp := ⟨_, rfl⟩
  rw [← hu] at hout
  obtain ⟨nu, hnu⟩ : ∃ nu, nu = u.length := ⟨_, rfl⟩
  obtain ⟨A2, c2, rfl, ho2, hb2⟩ := hout
  rw [← hnu] at ho2 ⊢
  have hb2w := below_then hb1 (Nat.le_refl _) hb2
  have HU := Lib.hid hu
  have HNU := Lib.hid hnu.symm
  have HO := Lib.hid (Rd.of_own ho2)
  clear hu hnu ho2 hb1 hb2
  go_wp2_with fail
  refine (G2.out _ hb2w).mono ?_
  rintro e w3 hout
  rw [HE.out, ← HU.out] at hout
  obtain ⟨A3, c3, rfl, ho3, hb3⟩ := hout
  rw [HNU.out] at ho3 ⊢
  have HB3 := Lib.hid (below_then hb2w (Nat.le_refl _) hb3)
  have S := same_any A2 A3 nu c2 nu c3 u u w3 HNU.out HNU.out (HO.out.go hb3) (Rd.of_own ho3)
  rw [decide_eq_true rfl] at S
  have S := Lib.hid S
  clear hb3 ho3 hb2w
  go_wp2_with fail
  refine S.out.mono ?_
  rintro e w4 ⟨rfl, hb4⟩
  go_wp2
  go_ret
  exact ⟨rfl, below_then HB3.out (Nat.le_refl _) hb4⟩

set_option maxHeartbeats 8000000 in
theorem trustForms_walk (A D : Option Addr) (n c m d : Nat) (L : List (ZV × Zn)) (u0 : List Vc.St) (o : Int) (w : World) (hT : Tab w) (hR : RdZ w w.heap.size A n c L) (hz : ZnSz n L) (hl : u0.length = m) (hR2 : Rd w w.heap.size 2 D m d (sv u0)) :
    Calls Tryd.prog 4 #[.slice A n c, .slice D m d, .int .i64 o] w fun e w' => e = .returned (.bool true) ∧ Below w.heap.size w w' := by
  have HR := Lib.hid hR
  have HR2 := Lib.hid hR2
  have HL := Lib.hid hl
  have HA := Lib.hid (aliveT_any w hT)
  have C := Lib.hid fun (V : World) (hb : Below w.heap.size w V) => refZonesCopy_any A n c L V (hR.go hb) hz
  clear hR hR2 hl hT
  go_enter Tryd.func4, Tryd.ntmps4
  go_wp2_with fail
  refine HA.out.mono ?_
  rintro e w1 ⟨rfl, hb1⟩
  go_wp2_with fail
  refine (C.out _ hb1).mono ?_
  rintro e w2 ⟨A', c', M, rfl, ho, hM, hb2⟩
  have hb2w := below_then hb1 (Nat.le_refl _) hb2
  have HM := Lib.hid hM
  have HO := Lib.hid ho.rd
  have G1 := zonesFormed_any A' n c' M w2 ho.rd
  rw [hM] at G1
  obtain ⟨z, hz⟩ : ∃ z, z = zF (-1) none (zns L) := ⟨_, rfl⟩
  rw [← hz] at G1
  have G1 := Lib.hid G1
  have HZ := Lib.hid hz
  clear hM hz ho hb1 hb2
  go_wp2_with fail
  refine G1.out.mono ?_
  rintro e w3 ⟨rfl, hb3⟩
  have hb3w := below_then hb2w (Nat.le_refl _) hb3
  have G2 := refZonesFormed_any A n c L w3 (HR.out.go hb3w)
  rw [← HZ.out] at G2
  have G2 := Lib.hid G2
  have HO3 := Lib.hid (HO.out.go hb3)
  have HB3 := Lib.hid hb3w
  clear hb3 hb3w hb2w
  go_wp2_with fail
  refine G2.out.mono ?_
  rintro e w4 ⟨rfl, hb4⟩
  have hb4w := below_then HB3.out (Nat.le_refl _) hb4
  have HO4 := Lib.hid (HO3.out.go hb4)
  have B1 := zonesBlurred_any A' n c' M w4 HO4.out
  rw [HM.out] at B1
  have B1 := Lib.hid B1
  have HB4 := Lib.hid hb4w
  have heq : (z == z) = true := by simp
  clear hb4 hb4w
  go_wp2_with fail
  refine B1.out.mono ?_
  rintro e w5 hout
  obtain ⟨u, hu⟩ : ∃ u, u = blurF (zns L) := ⟨_, rfl⟩
  rw [← hu] at hout
  obtain ⟨nu, hnu⟩ : ∃ nu, nu = u.length := ⟨_, rfl⟩
  obtain ⟨A5, c5, rfl, ho5, hb5⟩ := hout
  rw [← hnu] at ho5 ⊢
  have hb5w := below_then HB4.out (Nat.le_refl _) hb5
  have B2 := Lib.hid (refZonesBlurred_any A n c L w5 (HR.out.go hb5w))
  have HU := Lib.hid hu
  have HNU := Lib.hid hnu.symm
  have HO5 := Lib.hid (HO4.out.go hb5)
  have HX5 := Lib.hid (Rd.of_own ho5)
  have HB5 := Lib.hid hb5w
  clear hu hnu ho5 hb5 hb5w
  go_wp2_with fail
  refine B2.out.mono ?_
  rintro e w6 hout
  rw [← HU.out] at hout
  obtain ⟨A6, c6, rfl, ho6, hb6⟩ := hout
  rw [HNU.out] at ho6 ⊢
  have S := sameS_any A5 A6 nu c5 nu c6 u u w6 HNU.out HNU.out (HX5.out.go hb6) (Rd.of_own ho6)
  rw [decide_eq_true rfl] at S
  have S := Lib.hid S
  have HO6 := Lib.hid (HO5.out.go hb6)
  have HB6 := Lib.hid (below_then HB5.out (Nat.le_refl _) hb6)
  clear ho6 hb6
  go_wp2_with fail
  refine S.out.mono ?_
  rintro e w7 ⟨rfl, hb7⟩
  have HO7 := Lib.hid (HO6.out.go hb7)
  have HB7 := Lib.hid (below_then HB6.out (Nat.le_refl _) hb7)
  have R1 := zonesReach_any A' D n c' m d M u0 o w7 HO7.out HL.out (HR2.out.go HB7.out)
  rw [HM.out] at R1
  have R1 := Lib.hid R1
  clear hb7
  go_wp2_with fail
  refine R1.out.mono ?_
  rintro e w8 hout
  obtain ⟨r, hr⟩ : ∃ r, r = reachF (zns L) u0 o := ⟨_, rfl⟩
  rw [← hr] at hout
  obtain ⟨nr, hnr⟩ : ∃ nr, nr = r.length := ⟨_, rfl⟩
  obtain ⟨A8, c8, rfl, ho8, hb8⟩ := hout
  rw [← hnr] at ho8 ⊢
  have hb8w := below_then HB7.out (Nat.le_refl _) hb8
  have R2 := Lib.hid (refZonesReach_any A D n c m d L u0 o w8 (HR.out.go hb8w) HL.out (HR2.out.go hb8w))
  have HRR := Lib.hid hr
  have HNR := Lib.hid hnr.symm
  have HO8 := Lib.hid (HO7.out.go hb8)
  have HX8 := Lib.hid (Rd.of_own ho8)
  have HB8 := Lib.hid hb8w
  clear hr hnr ho8 hb8 hb8w
  go_wp2_with fail
  refine R2.out.mono ?_
  rintro e w9 hout
  rw [← HRR.out] at hout
  obtain ⟨A9, c9, rfl, ho9, hb9⟩ := hout
  rw [HNR.out] at ho9 ⊢
  have S9 := same_any A8 A9 nr c8 nr c9 r r w9 HNR.out HNR.out (HX8.out.go hb9) (Rd.of_own ho9)
  rw [decide_eq_true rfl] at S9
  have S9 := Lib.hid S9
  have HO9 := Lib.hid (HO8.out.go hb9)
  have HB9 := Lib.hid (below_then HB8.out (Nat.le_refl _) hb9)
  clear ho9 hb9
  go_wp2_with fail
  refine S9.out.mono ?_
  rintro e w10 ⟨rfl, hb10⟩
  have HB10 := Lib.hid (below_then HB9.out (Nat.le_refl _) hb10)
  have Z := refZonesSame_q A' A n c' n c M L w10 (HO9.out.go hb10) (HR.out.go HB10.out)
  rw [HM.out, decide_eq_true rfl] at Z
  have Z := Lib.hid Z
  clear hb10
  go_wp2_with fail
  refine Z.out.mono ?_
  rintro e w11 ⟨rfl, q11, rfl⟩
  go_wp2
  go_ret
  exact ⟨rfl, below_drewN HB10.out _⟩
end Go.Proofs.YticnfjfdeagmaaaDoor

namespace Go.Proofs.YticnfjfdeagmaaaDoor
open Go.RowKit

theorem tkE_zero {z : List Zn} {known : List Vc.St} {x : Nt} (h : tkE z known x = 0) : zF (-1) none z = true ∧ fm (-1) known = true ∧ ntF x = true ∧ ntFits x known = true := by
  unfold tkE at h
  split at h
  · rename_i h1
    simp only [Bool.and_eq_true] at h1
    split at h
    · rename_i h2; exact ⟨h1.1, h1.2.1, h1.2.2, h2⟩
    · cases h
  · cases h
theorem tkE_is {z : List Zn} {known : List Vc.St} {x : Nt} (h1 : zF (-1) none z = true) (h2 : fm (-1) known = true) (h3 : ntF x = true) (h4 : ntFits x known = true) : tkE z known x = 0 := by
  unfold tkE; simp [h1, h2, h3, h4]
theorem tkZ_zero {z : List Zn} {known : List Vc.St} {x : Nt} (h : tkE z known x = 0) : tkZ' z known x = tkZ z known x ∧ tkK z known x = nowOf known x := by
  unfold tkZ' tkK; rw [if_pos h, if_pos h]; exact ⟨rfl, rfl⟩
theorem tkZ_no {z : List Zn} {known : List Vc.St} {x : Nt} (h : tkE z known x ≠ 0) : tkZ' z known x = [] ∧ tkK z known x = [] := by
  unfold tkZ' tkK; rw [if_neg h, if_neg h]; exact ⟨rfl, rfl⟩

theorem blurF_yes {z : List Zn} (h : zF (-1) none z = true) : blurF z = blurZ z := by unfold blurF; rw [if_pos h]

end Go.Proofs.YticnfjfdeagmaaaDoor

