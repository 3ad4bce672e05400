/- Walk over the document's Since of zones. -/
import Derived.Test.YticnfjfdeagmaaaDoorTwE
import Derived.Test.YticnfjfdeagmaaaDoorMVec
namespace Go.Proofs.YticnfjfdeagmaaaDoor
open Go.RowKit
set_option maxRecDepth 100000

theorem stampsH_info : (Tryd.prog.info? 23).map (fun i => (i.zero, i.size, i.bytes)) = some (some (.slice none 0 0), 1, 24) := by kernel_rfl
def vsv (l : List (ZV × List Vc.St)) : List Value := l.map fun x => .slice x.1.A x.1.n x.1.c
theorem vsv_snoc (l : List (ZV × List Vc.St)) (x : ZV × List Vc.St) : vsv (l ++ [x]) = vsv l ++ [.slice x.1.A x.1.n x.1.c] := by simp [vsv]
/-- A list of vectors of the call's own. -/
structure OwnV (w : World) (base : Nat) (A : Option Addr) (k c : Nat) (ys : List (ZV × List Vc.St)) : Prop where
  row : w.ownsRow base 23 1 (.slice A k c) k (vsv ys)
  el : ∀ y ∈ ys, y.2.length = y.1.n ∧ w.ownsRow base 51 2 (.slice y.1.A y.1.n y.1.c) y.1.n (sv y.2)
theorem OwnV.nil (w : World) (base : Nat) : OwnV w base none 0 0 [] := ⟨World.ownsRow_nil _ _ _ _, by simp⟩
theorem OwnV.below {w w' : World} {base : Nat} {A : Option Addr} {k c : Nat} {ys : List (ZV × List Vc.St)} (h : OwnV w base A k c ys) (hb : Below w.heap.size w w') : OwnV w' base A k c ys :=
  ⟨own_below h.row hb (Nat.le_refl _), fun y hy => ⟨(h.el y hy).1, own_below (h.el y hy).2 hb (Nat.le_refl _)⟩⟩
theorem OwnV.push {w w' : World} {base : Nat} {A A' : Option Addr} {k c c' : Nat} {ys : List (ZV × List Vc.St)} {y : ZV × List Vc.St} (h : OwnV w base A k c ys) (hy : y.2.length = y.1.n ∧ w.ownsRow base 51 2 (.slice y.1.A y.1.n y.1.c) y.1.n (sv y.2))
    (hg : w.grownBy w' (Value.slice A k c).ownBlock) (ho : w'.ownsRow base 23 1 (.slice A' (k + 1) c') (k + 1) (vsv ys ++ [.slice y.1.A y.1.n y.1.c])) : OwnV w' base A' (k + 1) c' (ys ++ [y]) := by
  refine ⟨by rw [vsv_snoc]; exact ho, fun z hz => ?_⟩
  rcases List.mem_append.1 hz with hz | hz
  · exact ⟨(h.el z hz).1, (h.el z hz).2.kept hg (own_two (h.el z hz).2 h.row (by decide))⟩
  · obtain rfl : z = y := by simpa using hz
    exact ⟨hy.1, hy.2.kept hg (own_two hy.2 h.row (by decide))⟩
theorem OwnV.len {w : World} {base : Nat} {A : Option Addr} {k c : Nat} {ys : List (ZV × List Vc.St)} (h : OwnV w base A k c ys) : ys.length = k := by
  have := h.row.1
  unfold vsv at this
  rw [List.length_map] at this
  omega
theorem OwnV.rd {w : World} {base : Nat} {A : Option Addr} {k c : Nat} {ys : List (ZV × List Vc.St)} (h : OwnV w base A k c ys) : RdL w w.heap.size A k c (ys.map (·.2)) := by
  have hR := Rd.of_own h.row
  have hl := h.len
  refine ⟨by rw [List.length_map]; exact hl, hR.cap, hR.max, hR.nil, fun i hi => ?_⟩
  rw [List.length_map] at hi
  obtain ⟨b, o, hA, hb, hcell⟩ := hR.plain (by omega) (by decide)
  obtain ⟨h1, h2⟩ := h.el _ (List.getElem_mem hi)
  refine ⟨b, o, (ys[i]).1.A, (ys[i]).1.n, (ys[i]).1.c, hA, hb, hcell i _ ?_, by rw [List.getElem_map]; exact h1, by rw [List.getElem_map]; exact Rd.of_own h2⟩
  unfold vsv
  rw [List.getElem?_map, List.getElem?_eq_getElem hi]; rfl
def reachTo (z : List Zn) (known : List Vc.St) (i : List Sn.Sp) (k : Nat) : List (List Vc.St) := ((List.range k).filter (Sn.setOf i)).map fun o : Nat => reach z known (o : Int)
theorem reachTo_next (z : List Zn) (known : List Vc.St) (i : List Sn.Sp) (k : Nat) : reachTo z known i (k + 1) = if Sn.setOf i k = true then reachTo z known i k ++ [reach z known (k : Int)] else reachTo z known i k := by
  unfold reachTo
  rw [List.range_succ, List.filter_append, List.map_append]
  rcases hs : Sn.setOf i k with _ | _
  · simp [hs]
  · simp [hs]
def sinceG (z : List Zn) (known : List Vc.St) (i : List Sn.Sp) : List Vc.St := if (zF (-1) none z && fm (-1) known) = true then sinceZ z known i else []

set_option maxHeartbeats 8000000 in
theorem refZonesSince_any (A D E : Option Addr) (n c m d q s : Nat) (L : List (ZV × Zn)) (u0 : List Vc.St) (sp : List Sn.Sp) (w : World) (hR : RdZ w w.heap.size A n c L) (hl : u0.length = m) (hR2 : Rd w w.heap.size 2 D m d (sv u0))
    (hl3 : sp.length = q) (hR3 : Rd w w.heap.size 2 E q s (sv sp)) :
    Calls Tryd.prog 23 #[.slice A n c, .slice D m d, .slice E q s] w fun e w' => StOut w w' e (sinceG (zns L) u0 sp) := by
  have G := refZonesFormed_any A n c L w hR
  have F := fun (V : World) (hb : Below w.heap.size w V) => refFormed_any D m d u0 V hl (hR2.go hb)
  rcases hf : zF (-1) none (zns L) with _ | _
  · have HN := Lib.hid (show sinceG (zns L) u0 sp = [] by unfold sinceG; rw [hf]; rfl)
    rw [hf] at G
    have G := Lib.hid G
    clear hf hR hR2 hl F hR3 hl3
    go_enter Tryd.func23, Tryd.ntmps23
    go_wp2_with fail
    refine G.out.mono ?_
    rintro e w1 ⟨rfl, hb1⟩
    go_wp2
    go_ret
    rw [HN.out]
    exact StOut.nil hb1
  · rcases hf2 : fm (-1) u0 with _ | _
    · have HN := Lib.hid (show sinceG (zns L) u0 sp = [] by unfold sinceG; rw [hf2]; simp)
      rw [hf] at G
      rw [hf2] at F
      have G := Lib.hid G
      have F := Lib.hid F
      clear hf hf2 hR hR2 hl hR3 hl3
      go_enter Tryd.func23, Tryd.ntmps23
      go_wp2_with fail
      refine G.out.mono ?_
      rintro e w1 ⟨rfl, hb1⟩
      go_wp2_with fail
      refine (F.out _ hb1).mono ?_
      rintro e w2 ⟨rfl, hb2⟩
      go_wp2
      go_ret
      rw [HN.out]
      exact StOut.nil (below_then hb1 (Nat.le_refl _) hb2)
    · have HN := Lib.hid (show sinceG (zns L) u0 sp = sinceZ (zns L) u0 sp by unfold sinceG; rw [hf, hf2]; rfl)
      have hm64 : m ≤ 64 := by rw [← hl]; exact stl_len hf2
      have HRF := Lib.hid fun o (h : o < 256) => (show reachF (zns L) u0 ((o : Nat) : Int) = reach (zns L) u0 (o : Int) from reachF_yes hf hf2 (by omega))
      obtain ⟨i0, hi0, hz0, hz1, hz2⟩ := info_parts stampsH_info
      have h1max : 1 ≤ maxLen := by unfold maxLen; omega
      rw [hf] at G
      rw [hf2] at F
      obtain ⟨hz, hi⟩ := zero_of_info zero_marks
      have HI := Lib.hid hi
      have G := Lib.hid G
      have F := Lib.hid F
      have HSET := Lib.hid (fun (V : World) (hb : Below w.heap.size w V) => refSet_any E q s sp V hl3 (hR3.go hb))
      have HR := Lib.hid hR
      have HR2 := Lib.hid hR2
      have HL2 := Lib.hid hl
      have HRC := Lib.hid fun (V : World) (hb : Below w.heap.size w V) o => refZonesReach_any A D n c m d L u0 o V (hR.go hb) hl (hR2.go hb)
      have HNX := Lib.hid fun k => reachTo_next (zns L) u0 sp k
      have HEB := Lib.hid (show sinceZ (zns L) u0 sp = if reachTo (zns L) u0 sp 256 = [] then u0 else vec (mt (reachTo (zns L) u0 sp 256)) from rfl)
      generalize Sn.setOf sp = p at HSET HNX
      clear hf hf2 hR hR2 hl hR3 hl3 hi
      go_enter Tryd.func23, Tryd.ntmps23
      go_wp2_with fail
      refine G.out.mono ?_
      rintro e w1 ⟨rfl, hb1⟩
      go_wp2_with fail
      refine (F.out _ hb1).mono ?_
      rintro e w2 ⟨rfl, hb2⟩
      have hb02 := below_then hb1 (Nat.le_refl _) hb2
      clear hb1 hb2 G F
      go_wp2_with fail
      refine (HSET.out _ hb02).mono ?_
      rintro e w3 ⟨rfl, hb3⟩
      have hb03 := below_then hb02 (Nat.le_refl _) hb3
      clear hb02 hb3
      go_wp2_with (refine wpList_store_blk rfl 70 _ _ rfl w3.heap.size 70 _ (b256 p) rfl rfl (Blk.new w3 70 (b256 fun _ => false)) (by rw [b256_size]; exact HI.out) rfl (b256_oneCell _) ?_; intro w4 hk4 hg4)
      have hs3 := hb03.size
      have hb04 : Below w.heap.size w w4 := (hb03.alloc hs3 (.cells (b256 fun _ => false) 70)).trans (grown_below hg4 (by simp; omega) (fun k hk => by cases hk; exact hs3))
      have HB4 := Lib.hid hb04
      have HK4 := Lib.hid hk4
      clear hb03 hb04 hk4 hg4
      go_loopw [8, 9] (fun v8 v9 wr => ∃ (k j c' : Nat) (A' : Option Addr), v9 = .int .i64 k ∧ v8 = .slice A' j c' ∧ k ≤ 256 ∧ j ≤ k ∧ Below w4.heap.size w4 wr ∧ Hid (∃ ys, OwnV wr w4.heap.size A' j c' ys ∧ ys.map (·.2) = reachTo (zns L) u0 sp k)) (fun _ v9 _ => 256 - (intOf v9).toNat)
      case atStart => exact ⟨0, 0, 0, none, rfl, rfl, by omega, by omega, Below.refl _ _, [], OwnV.nil _ _, rfl⟩
      case round =>
        obtain ⟨k, j, c', A', rfl, rfl, hk, hj, hb, hy⟩ := hrel
        obtain ⟨ys, hys, hyl⟩ := hy.out
        have hbs := hb.size
        have hbw := below_then HB4.out (Nat.le_refl _) hb
        by_cases hlt : k < 256
        · have gk := (HK4.out.go hb).cell k
          rw [b256_at _ _ hlt] at gk
          have hnx := HNX.out k
          have R := HRC.out _ hbw (k : Int)
          rw [HRF.out k hlt] at R
          rcases hpk : p k with _ | _
          · rw [hpk] at gk hnx
            rw [if_neg (by simp)] at hnx
            have HNN := Lib.hid hnx
            have HYS := Lib.hid hys
            have HYL := Lib.hid hyl
            clear hpk hnx R hys hyl hy
            go_wp2
            go_roundw
            case rel => exact ⟨k + 1, j, c', A', by go_num, rfl, by omega, by omega, hb, ys, HYS.out, by rw [HNN.out]; exact HYL.out⟩
            case measure => simp [intOf]; omega
          · rw [hpk] at gk hnx
            rw [if_pos rfl] at hnx
            have HNN := Lib.hid hnx
            have R := Lib.hid R
            have HYS := Lib.hid hys
            have HYL := Lib.hid hyl
            have HBB := Lib.hid hb
            have HRW := Lib.hid (HRF.out k hlt)
            clear hpk hnx hys hyl hy hb hbw
            go_wp2_with fail
            refine R.out.mono ?_
            rintro e w5 hout
            obtain ⟨A5, c5, rfl, ho5, hb5⟩ := hout
            have hs5 := hb5.size
            have h63 : j + 1 ≤ maxLen := by unfold maxLen; omega
            obtain ⟨u, hu⟩ : ∃ u, u = reach (zns L) u0 (k : Int) := ⟨_, rfl⟩
            rw [← hu] at ho5
            rw [← hu] at HNN ⊢
            obtain ⟨nu, hnu⟩ : ∃ nu, nu = u.length := ⟨_, rfl⟩
            rw [← hnu] at ho5
            rw [← hnu]
            have hb5A := then_alloc hb5 (.cells #[.slice A5 nu c5] 23)
            have CV := Lib.hid (own_below (own_less (base' := w4.heap.size) ho5 hbs) hb5A (Nat.le_refl _))
            have CY := Lib.hid ((HYS.out.below hb5).below hb5A)
            have HRN := Lib.hid (Rd.new w5 23 1 1 #[.slice A5 nu c5] rfl h1max)
            have HB5 := Lib.hid ((below_then HBB.out (Nat.le_refl _) hb5).trans (hb5A.mono (by omega)))
            have HU := Lib.hid hnu.symm
            clear ho5 hb5 hb5A hu hnu R HYS
            go_wp2_with (at_builtin; go_must (refine wpList_append_rd _ rfl (.tmp 27) (.tmp 32) _ rfl w4.heap.size 23 i0 _ 1 24 Tryd.underlying48 hi0 hz0 hz1 hz2 rfl (by decide) (.slice A' j c') j _ rfl CY.out.row _ (some ⟨_, 0, none⟩) 1 1 [.slice A5 nu c5] rfl HRN.out (by intro u hu; simp at hu; subst hu; rfl) h63 (by omega) (by simp; omega) ?_); intro A6 c6 w6 ho6 hg6 hat6)
            go_roundw
            case rel => exact ⟨k + 1, j + 1, c6, A6, by go_num, rfl, by omega, by omega, HB5.out.trans (grown_below hg6 (by simp; omega) (fun g hg => own_lt CY.out.row g hg)), ys ++ [(⟨A5, nu, c5⟩, u)], OwnV.push CY.out ⟨HU.out, CV.out⟩ hg6 ho6, by rw [List.map_append, HYL.out, HNN.out]; rfl⟩
            case measure => simp [intOf]; omega
        · obtain rfl : k = 256 := by omega
          have hlen := hys.len
          have hRL := hys.rd
          rw [hyl] at hRL
          have hll := congrArg List.length hyl
          rw [List.length_map, hlen] at hll
          have HB := Lib.hid hbw
          have hbws := hbw.size
          by_cases hj0 : j = 0
          · have HX := Lib.hid (show sinceG (zns L) u0 sp = u0 by rw [HN.out, HEB.out, if_pos (List.eq_nil_of_length_eq_zero (by omega))])
            have C := Lib.hid (vcopy_any D m d (sv u0) wr (HR2.out.go hbw) (sv_oneCell _) (by omega))
            subst hj0
            clear hys hyl hy hlen hRL hll hbw
            go_wp2_with fail
            refine C.out.mono ?_
            rintro e w5 ⟨A5, c5, rfl, ho5, hb5⟩
            go_wp2
            go_ret
            rw [HX.out]
            exact ⟨A5, c5, by rw [HL2.out] <;> rfl, by rw [HL2.out]; exact own_less ho5 hbws, below_then HB.out (Nat.le_refl _) hb5⟩
          · have HX := Lib.hid (show sinceG (zns L) u0 sp = vec (mt (reachTo (zns L) u0 sp 256)) by rw [HN.out, HEB.out, if_neg (fun e => by rw [e] at hll; simp at hll; omega)])
            have C := Lib.hid (refMeet_ne A' j c' _ wr hRL (by omega))
            clear hys hyl hy hlen hRL hll hbw
            go_wp2_with fail
            refine C.out.mono ?_
            rintro e w5 hout
            rw [← HX.out] at hout
            obtain ⟨A5, c5, rfl, ho5, hb5⟩ := hout
            go_wp2
            go_ret
            exact ⟨A5, c5, rfl, own_less ho5 hbws, below_then HB.out (Nat.le_refl _) hb5⟩
end Go.Proofs.YticnfjfdeagmaaaDoor
