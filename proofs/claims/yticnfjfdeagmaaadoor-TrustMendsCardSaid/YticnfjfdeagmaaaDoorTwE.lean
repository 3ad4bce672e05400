/- Walks over Blurred and Reach of zones, the program's and the document's. -/
import Derived.Test.YticnfjfdeagmaaaDoorTwD
import Derived.Test.YticnfjfdeagmaaaDoorTrA
import Derived.Test.YticnfjfdeagmaaaDoorSpW
import Derived.Test.YticnfjfdeagmaaaDoorSpK
namespace Go.Proofs.YticnfjfdeagmaaaDoor
open Go.RowKit
set_option maxRecDepth 100000

def blurF (z : List Zn) : List Sn.Sp := if zF (-1) none z = true then blurZ z else []
theorem SpOut.nil {w w' : World} (hb : Below w.heap.size w w') : SpOut w w' (.returned (.slice none 0 0)) [] := ⟨none, 0, rfl, World.ownsRow_nil _ _ _ _, hb⟩
/-- A call that hands out stamps of its own. -/
def StOut (w w' : World) (e : Ending) (u : List Vc.St) : Prop :=
  ∃ A' c', e = .returned (.slice A' u.length c') ∧ w'.ownsRow w.heap.size 51 2 (.slice A' u.length c') u.length (sv u) ∧ Below w.heap.size w w'
theorem StOut.nil {w w' : World} (hb : Below w.heap.size w w') : StOut w w' (.returned (.slice none 0 0)) [] := ⟨none, 0, rfl, World.ownsRow_nil _ _ _ _, hb⟩

set_option maxHeartbeats 4000000 in
theorem zonesBlurred_any (A : Option Addr) (n c : Nat) (L : List (ZV × Zn)) (w : World) (hR : RdZ w w.heap.size A n c L) :
    Calls Tryd.prog 16 #[.slice A n c] w fun e w' => SpOut w w' e (blurF (zns L)) := by
  have G := zonesFormed_any A n c L w hR
  rcases hf : zF (-1) none (zns L) with _ | _
  · have HN := Lib.hid (show blurF (zns L) = [] by unfold blurF; rw [hf]; rfl)
    rw [hf] at G
    have G := Lib.hid G
    clear hf hR
    go_enter Tryd.func16, Tryd.ntmps16
    go_wp2_with fail
    refine G.out.mono ?_
    rintro e w1 ⟨rfl, hb1⟩
    go_wp2
    go_ret
    rw [HN.out]
    exact SpOut.nil hb1
  · have hn := zF_256 hf
    rw [zns_len, hR.len] at hn
    have HN := Lib.hid (show blurF (zns L) = Sn.tidy ((zns L).map Prod.fst) by unfold blurF; rw [hf]; rfl)
    rw [hf] at G
    have G := Lib.hid G
    have HL := Lib.hid hR.len
    have HR := Lib.hid hR
    obtain ⟨i0, hi0, hz0, hz1, hz2⟩ := info_parts spanE_info
    have h1max : 1 ≤ maxLen := by unfold maxLen; omega
    clear hf hR
    go_enter Tryd.func16, Tryd.ntmps16
    go_wp2_with fail
    refine G.out.mono ?_
    rintro e w1 ⟨rfl, hb1⟩
    have HR1 := Lib.hid (HR.out.go hb1)
    have HB1 := Lib.hid hb1
    clear hb1
    go_wp2
    go_loopw [3, 11] (fun v3 v11 wr => ∃ (k c' : Nat) (A' : Option Addr), v11 = .int .i64 k ∧ v3 = .slice A' k c' ∧ k ≤ n ∧ Below w1.heap.size w1 wr ∧ Hid (wr.ownsRow w1.heap.size 53 2 (.slice A' k c') k (sv (((zns L).take k).map Prod.fst)))) (fun _ v11 _ => n - (intOf v11).toNat)
    case atStart => exact ⟨0, 0, none, rfl, rfl, by omega, Below.refl _ _, World.ownsRow_nil _ _ _ _⟩
    case round =>
      obtain ⟨k, c', A', rfl, rfl, hk, hb, ho⟩ := hrel
      have hbs := hb.size
      by_cases hlt : k < n
      · have hkL : k < L.length := by rw [HL.out]; exact hlt
        have hkZ : k < (zns L).length := by rw [zns_len]; exact hkL
        obtain ⟨b, oo, rfl, hab, g0, g1, g2⟩ := (HR1.out.below hb).zone hkL
        have hnx : ((zns L).take (k + 1)).map Prod.fst = ((zns L).take k).map Prod.fst ++ [L[k].2.1] := by rw [List.take_succ_eq_append_getElem hkZ, zns_at L k hkL, List.map_append]; rfl
        generalize L[k] = q at g0 g1 g2 hnx
        obtain ⟨⟨Av, nv, cv⟩, ⟨lo, hi⟩, u⟩ := q
        dsimp only at g0 g1 g2 hnx
        have HNX := Lib.hid hnx
        have h63 : k + 1 ≤ maxLen := by unfold maxLen; omega
        have hRn : Rd ((wr.alloc (.cells #[.int .i64 lo, .int .i64 hi, .slice Av nv cv] 55)).alloc (.cells #[.int .i64 lo, .int .i64 hi] 53)) (wr.heap.size + 1 + 1) 2 (some ⟨wr.heap.size + 1, 0, none⟩) 1 1 [.int .i64 lo, .int .i64 hi] := by
          have := Rd.new (wr.alloc (.cells #[.int .i64 lo, .int .i64 hi, .slice Av nv cv] 55)) 53 2 1 #[.int .i64 lo, .int .i64 hi] rfl h1max
          rwa [World.size_alloc] at this
        have HRN := Lib.hid hRn
        clear hRn hkL hkZ hnx
        go_wp2_with (at_builtin; go_must (refine wpList_append_rd _ rfl (.tmp 15) (.tmp 18) _ rfl w1.heap.size 53 i0 _ 2 16 Tryd.underlying24 hi0 hz0 hz1 hz2 rfl (by decide) (.slice A' k c') k _ rfl ((ho.out.alloc _).alloc _) _ (some ⟨_, 0, none⟩) 1 1 [.int .i64 lo, .int .i64 hi] rfl HRN.out (by intro u hu; simp at hu; rcases hu with rfl | rfl <;> rfl) h63 (by omega) (by simp; omega) ?_); intro A3 c3 w3 ho3 hg3 hat3)
        have hb3 := ((hb.alloc hbs _).alloc (by simp; omega) _).trans (grown_below hg3 (by simp; omega) (fun j hj => own_lt ho.out j hj))
        go_roundw
        case rel => exact ⟨k + 1, c3, A3, by go_num, rfl, by omega, hb3, by rw [HNX.out, sv_app]; exact ho3⟩
        case measure => simp [intOf]; omega
      · obtain rfl : k = n := by omega
        have hS : ((zns L).take k).map Prod.fst = (zns L).map Prod.fst := by rw [List.take_of_length_le (by rw [zns_len, HL.out]; exact Nat.le_refl _)]
        have ho2 := ho.out
        rw [hS] at ho2
        have hSl : ((zns L).map Prod.fst).length = k := by rw [List.length_map, zns_len, HL.out]
        generalize (zns L).map Prod.fst = S at HN ho2 hSl
        have HRL := Lib.hid (RdL.one (u := S) hSl (Rd.of_own ho2) 24)
        have HJ := Lib.hid (joinS_any (some ⟨wr.heap.size, 0, none⟩) 1 1 [S] _ HRL.out (by simp; omega))
        have HE := Lib.hid (show Sn.tidy [S].flatten = Sn.tidy S by simp)
        have HB := Lib.hid hb
        clear ho ho2 hS hSl hb HRL
        go_wp2_with fail
        refine HJ.out.mono ?_
        rintro e w2 hout
        rw [HE.out, ← HN.out] at hout
        obtain ⟨A2, c2, rfl, ho2, hb2⟩ := hout
        go_wp2
        go_ret
        have hk2 : Below wr.heap.size wr (wr.alloc (.cells #[.slice A' k c'] 24)) := (Below.refl _ _).alloc (Nat.le_refl _) _
        have hs1 := HB1.out.size
        exact ⟨A2, c2, rfl, own_less ho2 (by simp; omega), below_then (below_then HB1.out (Nat.le_refl _) HB.out) (by omega) (below_then hk2 (Nat.le_refl _) hb2)⟩

theorem blurZ_of (z : List Zn) : blurZ z = Sn.of fun o => (z.find? (inZ (o : Int))).isSome := by
  unfold blurZ Sn.tidy
  exact Sn.of_congr fun o _ => zones_in z (o : Int)

set_option maxHeartbeats 4000000 in
theorem refZonesBlurred_any (A : Option Addr) (n c : Nat) (L : List (ZV × Zn)) (w : World) (hR : RdZ w w.heap.size A n c L) :
    Calls Tryd.prog 17 #[.slice A n c] w fun e w' => SpOut w w' e (blurF (zns L)) := by
  obtain ⟨hz, hi⟩ := zero_of_info zero_marks
  have HI := Lib.hid hi
  have hbA : Below w.heap.size w (w.alloc (.cells (b256 fun _ => false) 70)) := (Below.refl _ _).alloc (Nat.le_refl _) _
  have hX := Blk.new w 70 (b256 fun _ => false)
  have hRA := hR.go hbA
  have G := refZonesFormed_any A n c L _ hRA
  rcases hf : zF (-1) none (zns L) with _ | _
  · have HN := Lib.hid (show blurF (zns L) = [] by unfold blurF; rw [hf]; rfl)
    rw [hf] at G
    have G := Lib.hid G
    have HB := Lib.hid hbA
    clear hf hR hRA hX hi hbA
    go_enter Tryd.func17, Tryd.ntmps17
    go_wp2_with fail
    refine G.out.mono ?_
    rintro e w1 ⟨rfl, hb1⟩
    go_wp2
    go_ret
    rw [HN.out]
    exact SpOut.nil (below_then HB.out (Nat.le_refl _) hb1)
  · have HN := Lib.hid (show blurF (zns L) = Sn.of fun o => ((zns L).find? (inZ (o : Int))).isSome by unfold blurF; rw [hf]; exact blurZ_of _)
    rw [hf] at G
    have G := Lib.hid G
    have HB := Lib.hid hbA
    have HX := Lib.hid hX
    have HR := Lib.hid hR
    have HC := Lib.hid fun k => mixB_next (fun o => ((zns L).find? (inZ (o : Int))).isSome) (fun _ => false) k
    clear hf hR hRA hX hi hbA
    go_enter Tryd.func17, Tryd.ntmps17
    go_wp2_with fail
    refine G.out.mono ?_
    rintro e w1 ⟨rfl, hb1⟩
    have hX1 := HX.out.go hb1
    have HB1 := Lib.hid (below_then HB.out (Nat.le_refl _) hb1)
    clear hb1 G HX HB
    go_wp2
    go_loopw [4] (fun v4 wr => ∃ k : Nat, k ≤ 256 ∧ v4 = .int .i64 k ∧ Below w.heap.size w wr ∧ Hid (Blk wr w.heap.size 70 (b256 (mixB (fun o => ((zns L).find? (inZ (o : Int))).isSome) (fun _ => false) k)))) (fun v4 _ => 256 - (intOf v4).toNat)
    case atStart => exact ⟨0, by omega, rfl, HB1.out, by rw [b256_congr fun n _ => mixB_start _ _ n]; exact hX1⟩
    case round =>
      obtain ⟨k, hk, rfl, hb, hs⟩ := hrel
      have hbs := hb.size
      by_cases hlt : k < 256
      · have G := Lib.hid (refAtZ_any A n c L (k : Int) wr ((HR.out.below hb).more hbs))
        have fk := hs.out.frozen k
        have gk := hs.out.cell k
        rw [b256_at _ _ hlt, mixB_at] at gk
        have HSB := Lib.hid hb
        have HSS := Lib.hid (fun x (hx : ((zns L).find? (inZ (k : Int))).isSome = x) => (show Blk (wr.setCell ⟨w.heap.size, k, none⟩ (.bool x)) w.heap.size 70 (b256 (mixB (fun o => ((zns L).find? (inZ (o : Int))).isSome) (fun _ => false) (k + 1))) from by
          rw [← b256_congr fun n _ => HC.out k n, ← b256_set _ _ _ hlt]
          rw [hx]
          exact hs.out.set_ k _))
        clear hs hb hX1
        go_wp2_with fail
        refine G.out.mono ?_
        rintro e w2 ⟨rfl, hat⟩
        rcases hat with ⟨i, hi, rfl, hfd⟩ | ⟨rfl, hfd⟩
        · have H3 := Lib.hid (HSS.out true (by rw [hfd]; rfl))
          clear hfd hi
          go_wp2
          go_roundw
          case rel => exact ⟨k + 1, by omega, by go_num, HSB.out.setCell (p := ⟨w.heap.size, k, none⟩) (Nat.le_refl _) _, H3.out⟩
          case measure => simp [intOf]; omega
        · have H3 := Lib.hid (HSS.out false (by rw [hfd]; rfl))
          clear hfd
          go_wp2
          go_roundw
          case rel => exact ⟨k + 1, by omega, by go_num, HSB.out.setCell (p := ⟨w.heap.size, k, none⟩) (Nat.le_refl _) _, H3.out⟩
          case measure => simp [intOf]; omega
      · obtain rfl : k = 256 := by omega
        have hss := hs.out
        rw [b256_congr (mixB_end _ _)] at hss
        have HSS := Lib.hid hss
        clear hs hss hX1
        go_wp2_with (first
          | (refine wpList_load_row rfl 70 _ rfl w.heap.size rfl 70 _ _ _ HSS.out Tryd.underlying70 rfl (by rw [b256_size]; exact HI.out) ?_)
          | (go_at_call 47; go_must (refine (refOfS_any _ _).mono ?_); rintro e w6 ⟨A6, c6, rfl, ho6, hb6⟩))
        go_ret
        rw [HN.out]
        exact ⟨A6, c6, rfl, own_less ho6 hbs, below_then hb (Nat.le_refl _) hb6⟩

/-- Up to where an object is known sharply; nothing of zones that aren't formed. -/
def reachF (z : List Zn) (known : List Vc.St) (o : Int) : List Vc.St := if (zF (-1) none z && fm (-1) known) = true ∧ 0 ≤ o ∧ o ≤ 255 then reach z known o else []
theorem reachF_no1 {z : List Zn} {known : List Vc.St} {o : Int} (h : zF (-1) none z = false) : reachF z known o = [] := by unfold reachF; rw [h]; simp
theorem reachF_no2 {z : List Zn} {known : List Vc.St} {o : Int} (h : fm (-1) known = false) : reachF z known o = [] := by unfold reachF; rw [h]; simp
theorem reachF_no3 {z : List Zn} {known : List Vc.St} {o : Int} (h : ¬ (0 ≤ o ∧ o ≤ 255)) : reachF z known o = [] := by unfold reachF; rw [if_neg (fun e => h e.2)]
theorem reachF_yes {z : List Zn} {known : List Vc.St} {o : Int} (h1 : zF (-1) none z = true) (h2 : fm (-1) known = true) (h3 : 0 ≤ o ∧ o ≤ 255) : reachF z known o = reach z known o := by unfold reachF; rw [h1, h2, if_pos ⟨rfl, h3⟩]
theorem reach_some {z : List Zn} {known : List Vc.St} {o : Int} {x : Zn} (h : z.find? (inZ o) = some x) : reach z known o = x.2 := by unfold reach; rw [h]
theorem reach_none {z : List Zn} {known : List Vc.St} {o : Int} (h : z.find? (inZ o) = none) : reach z known o = known := by unfold reach; rw [h]

set_option maxHeartbeats 8000000 in
theorem zonesReach_any (A D : Option Addr) (n c m d : Nat) (L : List (ZV × Zn)) (u0 : List Vc.St) (o : Int) (w : World) (hR : RdZ w w.heap.size A n c L) (hl : u0.length = m) (hR2 : Rd w w.heap.size 2 D m d (sv u0)) :
    Calls Tryd.prog 18 #[.slice A n c, .slice D m d, .int .i64 o] w fun e w' => StOut w w' e (reachF (zns L) u0 o) := by
  have hln := hR.len
  have G := zonesFormed_any A n c L w hR
  have F := fun (V : World) (hb : Below w.heap.size w V) => formed_any D m d u0 V hl (hR2.go hb)
  rcases hf : zF (-1) none (zns L) with _ | _
  · have HN := Lib.hid (reachF_no1 (known := u0) (o := o) hf)
    rw [hf] at G
    have G := Lib.hid G
    clear hf hR hR2 hl F
    go_enter Tryd.func18, Tryd.ntmps18
    go_wp2_with fail
    refine G.out.mono ?_
    rintro e w1 ⟨rfl, hb1⟩
    go_wp2
    go_ret
    rw [HN.out]
    exact StOut.nil hb1
  · rcases hf2 : fm (-1) u0 with _ | _
    · have HN := Lib.hid (reachF_no2 (z := zns L) (o := o) hf2)
      rw [hf] at G
      rw [hf2] at F
      have G := Lib.hid G
      have F := Lib.hid F
      clear hf hf2 hR hR2 hl
      go_enter Tryd.func18, Tryd.ntmps18
      go_wp2_with fail
      refine G.out.mono ?_
      rintro e w1 ⟨rfl, hb1⟩
      go_wp2_with fail
      refine (F.out _ hb1).mono ?_
      rintro e w2 ⟨rfl, hb2⟩
      go_wp2
      go_ret
      rw [HN.out]
      exact StOut.nil (below_then hb1 (Nat.le_refl _) hb2)
    · have HN := Lib.hid fun (h : 0 ≤ o ∧ o ≤ 255) => reachF_yes hf hf2 h
      have HN3 := Lib.hid fun (h : ¬ (0 ≤ o ∧ o ≤ 255)) => reachF_no3 (z := zns L) (known := u0) h
      have hsz := stl_len hf2
      have HZ := Lib.hid fun p (hp : p ∈ L) => (show p.1.n ≤ 64 from by
        rw [← (hR.each p hp).1]; exact stl_len (zF_fm hf p.2 (by unfold zns; exact List.mem_map_of_mem hp)))
      rw [hf] at G
      rw [hf2] at F
      have G := Lib.hid G
      have F := Lib.hid F
      have HR := Lib.hid hR
      have HR2 := Lib.hid hR2
      have HL := Lib.hid hln
      have HL2 := Lib.hid hl
      have HD := Lib.hid fun k h => find_drop o (zns L) k h
      have hmax := hR.max
      clear hf hf2 hR hR2 hln
      by_cases c1 : o < 0
      · have HX := Lib.hid (HN3.out (by omega))
        go_enter Tryd.func18, Tryd.ntmps18
        go_wp2_with fail
        refine G.out.mono ?_
        rintro e w1 ⟨rfl, hb1⟩
        go_wp2_with fail
        refine (F.out _ hb1).mono ?_
        rintro e w2 ⟨rfl, hb2⟩
        go_wp2
        go_ret
        rw [HX.out]
        exact StOut.nil (below_then hb1 (Nat.le_refl _) hb2)
      by_cases c2 : o > 255
      · have HX := Lib.hid (HN3.out (by omega))
        go_enter Tryd.func18, Tryd.ntmps18
        go_wp2_with fail
        refine G.out.mono ?_
        rintro e w1 ⟨rfl, hb1⟩
        go_wp2_with fail
        refine (F.out _ hb1).mono ?_
        rintro e w2 ⟨rfl, hb2⟩
        go_wp2
        go_ret
        rw [HX.out]
        exact StOut.nil (below_then hb1 (Nat.le_refl _) hb2)
      have HX := Lib.hid (HN.out (by omega))
      have hlm : m ≤ 8796093022208 := by rw [← hl]; omega
      clear hl hsz
      go_enter Tryd.func18, Tryd.ntmps18
      go_wp2_with fail
      refine G.out.mono ?_
      rintro e w1 ⟨rfl, hb1⟩
      go_wp2_with fail
      refine (F.out _ hb1).mono ?_
      rintro e w2 ⟨rfl, hb2⟩
      have HB2 := Lib.hid (below_then hb1 (Nat.le_refl _) hb2)
      clear hb1 hb2 G F
      go_wp2
      go_loopw [27] (fun v27 wr => ∃ (k : Nat), k ≤ n ∧ v27 = .int .i64 k ∧ Below w.heap.size w wr ∧ Hid ((zns L).find? (inZ o) = ((zns L).drop k).find? (inZ o))) (fun v27 _ => n - (intOf v27).toNat)
      case atStart => exact ⟨0, by omega, rfl, HB2.out, rfl⟩
      case round =>
        obtain ⟨k, hk, rfl, hb, hr⟩ := hrel
        have hbs := hb.size
        by_cases hlt : k < n
        · have hkL : k < L.length := by rw [HL.out]; exact hlt
          have hkZ : k < (zns L).length := by rw [zns_len]; exact hkL
          obtain ⟨b, oo, rfl, hab, g0, g1, g2⟩ := (HR.out.below hb).zone hkL
          obtain ⟨hvl, hRv⟩ := HR.out.each _ (List.getElem_mem hkL)
          have hvz := HZ.out _ (List.getElem_mem hkL)
          have hd := hr.out.trans (HD.out k hkZ)
          rw [zns_at L k hkL] at hd
          generalize L[k] = q at g0 g1 g2 hvl hRv hvz hd
          obtain ⟨⟨Av, nv, cv⟩, ⟨lo, hi⟩, u⟩ := q
          dsimp only at g0 g1 g2 hvl hRv hvz hd
          have hb1 := hb.alloc hbs (.cells #[.int .i64 lo, .int .i64 hi, .slice Av nv cv] 55)
          have C := Lib.hid (cloneSt_any Av nv cv (sv u) _ ((hRv.below hb1).more hb1.size) (sv_oneCell _) (by omega))
          have HDD := Lib.hid hd
          have HVL := Lib.hid hvl
          have HB := Lib.hid hb1
          clear hd hr hab hvl hRv hvz hb
          by_cases d1 : lo ≤ o
          · by_cases d2 : o ≤ hi
            · have HF := Lib.hid (show reachF (zns L) u0 o = u by rw [HX.out]; exact reach_some (HDD.out.trans (if_pos (inZ_yes d1 d2))))
              go_wp2_with fail
              refine C.out.mono ?_
              rintro e w3 ⟨A3, c3, rfl, ho3, hb3⟩
              have hs3 := HB.out.size
              go_wp2
              go_ret
              rw [HF.out]
              exact ⟨A3, c3, by rw [HVL.out] <;> rfl, by rw [HVL.out]; exact own_less ho3 hs3, below_then HB.out (Nat.le_refl _) hb3⟩
            · have HF := Lib.hid (HDD.out.trans (if_neg (by rw [inZ_no2 d2]; simp)))
              clear C
              go_wp2
              go_roundw
              case rel => exact ⟨k + 1, by omega, by go_num, HB.out, HF.out⟩
              case measure => simp [intOf]; omega
          · have HF := Lib.hid (HDD.out.trans (if_neg (by rw [inZ_no1 d1]; simp)))
            clear C
            go_wp2
            go_roundw
            case rel => exact ⟨k + 1, by omega, by go_num, HB.out, HF.out⟩
            case measure => simp [intOf]; omega
        · obtain rfl : k = n := by omega
          have HF := Lib.hid (show reachF (zns L) u0 o = u0 by rw [HX.out]; exact reach_none (hr.out.trans (by rw [List.drop_of_length_le (by rw [zns_len, HL.out]; exact Nat.le_refl _)]; rfl)))
          have C := Lib.hid (cloneSt_any D m d (sv u0) _ (HR2.out.go hb) (sv_oneCell _) hlm)
          clear hr
          go_wp2_with fail
          refine C.out.mono ?_
          rintro e w3 ⟨A3, c3, rfl, ho3, hb3⟩
          go_wp2
          go_ret
          rw [HF.out]
          exact ⟨A3, c3, by rw [HL2.out] <;> rfl, by rw [HL2.out]; exact own_less ho3 hbs, below_then hb (Nat.le_refl _) hb3⟩

set_option maxHeartbeats 8000000 in
theorem refZonesReach_any (A D : Option Addr) (n c m d : Nat) (L : List (ZV × Zn)) (u0 : List Vc.St) (o : Int) (w : World) (hR : RdZ w w.heap.size A n c L) (hl : u0.length = m) (hR2 : Rd w w.heap.size 2 D m d (sv u0)) :
    Calls Tryd.prog 19 #[.slice A n c, .slice D m d, .int .i64 o] w fun e w' => StOut w w' e (reachF (zns L) u0 o) := by
  have hln := hR.len
  have G := refZonesFormed_any A n c L w hR
  have F := fun (V : World) (hb : Below w.heap.size w V) => refFormed_any D m d u0 V hl (hR2.go hb)
  rcases hf : zF (-1) none (zns L) with _ | _
  · have HN := Lib.hid (reachF_no1 (known := u0) (o := o) hf)
    rw [hf] at G
    have G := Lib.hid G
    clear hf hR hR2 hl F
    go_enter Tryd.func19, Tryd.ntmps19
    go_wp2_with fail
    refine G.out.mono ?_
    rintro e w1 ⟨rfl, hb1⟩
    go_wp2
    go_ret
    rw [HN.out]
    exact StOut.nil hb1
  · rcases hf2 : fm (-1) u0 with _ | _
    · have HN := Lib.hid (reachF_no2 (z := zns L) (o := o) hf2)
      rw [hf] at G
      rw [hf2] at F
      have G := Lib.hid G
      have F := Lib.hid F
      clear hf hf2 hR hR2 hl
      go_enter Tryd.func19, Tryd.ntmps19
      go_wp2_with fail
      refine G.out.mono ?_
      rintro e w1 ⟨rfl, hb1⟩
      go_wp2_with fail
      refine (F.out _ hb1).mono ?_
      rintro e w2 ⟨rfl, hb2⟩
      go_wp2
      go_ret
      rw [HN.out]
      exact StOut.nil (below_then hb1 (Nat.le_refl _) hb2)
    · have HN := Lib.hid fun (h : 0 ≤ o ∧ o ≤ 255) => reachF_yes hf hf2 h
      have HN3 := Lib.hid fun (h : ¬ (0 ≤ o ∧ o ≤ 255)) => reachF_no3 (z := zns L) (known := u0) h
      have hsz := stl_len hf2
      have HZ := Lib.hid fun p (hp : p ∈ L) => (show p.1.n ≤ 64 from by
        rw [← (hR.each p hp).1]; exact stl_len (zF_fm hf p.2 (by unfold zns; exact List.mem_map_of_mem hp)))
      rw [hf] at G
      rw [hf2] at F
      have G := Lib.hid G
      have F := Lib.hid F
      have HR := Lib.hid hR
      have HR2 := Lib.hid hR2
      have HL2 := Lib.hid hl
      have hmax := hR.max
      have HL := Lib.hid hln
      clear hf hf2 hR hR2 hln
      by_cases c1 : o < 0
      · have HX := Lib.hid (HN3.out (by omega))
        go_enter Tryd.func19, Tryd.ntmps19
        go_wp2_with fail
        refine G.out.mono ?_
        rintro e w1 ⟨rfl, hb1⟩
        go_wp2_with fail
        refine (F.out _ hb1).mono ?_
        rintro e w2 ⟨rfl, hb2⟩
        go_wp2
        go_ret
        rw [HX.out]
        exact StOut.nil (below_then hb1 (Nat.le_refl _) hb2)
      by_cases c2 : o > 255
      · have HX := Lib.hid (HN3.out (by omega))
        go_enter Tryd.func19, Tryd.ntmps19
        go_wp2_with fail
        refine G.out.mono ?_
        rintro e w1 ⟨rfl, hb1⟩
        go_wp2_with fail
        refine (F.out _ hb1).mono ?_
        rintro e w2 ⟨rfl, hb2⟩
        go_wp2
        go_ret
        rw [HX.out]
        exact StOut.nil (below_then hb1 (Nat.le_refl _) hb2)
      have HX := Lib.hid (HN.out (by omega))
      have hlm : m ≤ 8796093022208 := by rw [← hl]; omega
      clear hl hsz
      go_enter Tryd.func19, Tryd.ntmps19
      go_wp2_with fail
      refine G.out.mono ?_
      rintro e w1 ⟨rfl, hb1⟩
      go_wp2_with fail
      refine (F.out _ hb1).mono ?_
      rintro e w2 ⟨rfl, hb2⟩
      have hb := below_then hb1 (Nat.le_refl _) hb2
      have HB := Lib.hid hb
      have hbs := hb.size
      have AT := Lib.hid (refAtZ_any A n c L o w2 (HR.out.go hb))
      clear hb1 hb2 G F hb
      go_wp2_with fail
      refine AT.out.mono ?_
      rintro e w3 ⟨rfl, hat⟩
      rcases hat with ⟨i, hi, rfl, hfd⟩ | ⟨rfl, hfd⟩
      · obtain ⟨b, oo, rfl, hab, g0, g1, g2⟩ := (HR.out.below HB.out).zone hi
        obtain ⟨hvl, hRv⟩ := HR.out.each _ (List.getElem_mem hi)
        have hvz := HZ.out _ (List.getElem_mem hi)
        have hin : (0 : Int) ≤ (i : Int) ∧ (i : Int) < (n : Int) := by have := HL.out; omega
        generalize L[i] = q at g0 g1 g2 hvl hRv hvz hfd
        obtain ⟨⟨Av, nv, cv⟩, ⟨lo, hi2⟩, u⟩ := q
        dsimp only at g0 g1 g2 hvl hRv hvz hfd
        have HF := Lib.hid (show reachF (zns L) u0 o = u by rw [HX.out]; exact reach_some hfd)
        have C := Lib.hid (vcopy_any Av nv cv (sv u) w2 ((hRv.below HB.out).more hbs) (sv_oneCell _) (by omega))
        have HVL := Lib.hid hvl
        have HLT := Lib.hid (show i < n from by omega)
        clear hab hvl hRv hvz hfd
        go_wp2_with fail
        refine C.out.mono ?_
        rintro e w3 ⟨A3, c3, rfl, ho3, hb3⟩
        go_wp2
        go_ret
        rw [HF.out]
        exact ⟨A3, c3, by rw [HVL.out] <;> rfl, by rw [HVL.out]; exact own_less ho3 hbs, below_then HB.out (Nat.le_refl _) hb3⟩
      · have HF := Lib.hid (show reachF (zns L) u0 o = u0 by rw [HX.out]; exact reach_none hfd)
        have C := Lib.hid (vcopy_any D m d (sv u0) w2 (HR2.out.go HB.out) (sv_oneCell _) hlm)
        clear hfd
        go_wp2_with fail
        refine C.out.mono ?_
        rintro e w3 ⟨A3, c3, rfl, ho3, hb3⟩
        go_wp2
        go_ret
        rw [HF.out]
        exact ⟨A3, c3, by rw [HL2.out] <;> rfl, by rw [HL2.out]; exact own_less ho3 hbs, below_then HB.out (Nat.le_refl _) hb3⟩
end Go.Proofs.YticnfjfdeagmaaaDoor
