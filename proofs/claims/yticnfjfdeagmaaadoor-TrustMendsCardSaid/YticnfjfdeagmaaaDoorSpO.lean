/- Walks over span.Touch, span.Covers. -/
import Derived.Test.YticnfjfdeagmaaaDoorSpM
import Derived.Test.YticnfjfdeagmaaaDoorMSn
import Derived.Deep.LoopGhost
namespace Go.Proofs.YticnfjfdeagmaaaDoor
open Go.RowKit
set_option maxRecDepth 100000

theorem fmS_from {l : List Sn.Sp} {e : Int} (h : Sn.fmS e l = true) : ∀ j, ∃ f, Sn.fmS f (l.drop j) = true := by
  intro j
  induction j generalizing l e with
  | zero => exact ⟨e, h⟩
  | succ j ih =>
    cases l with
    | nil => exact ⟨e, by simpa using h⟩
    | cons s r =>
      obtain ⟨_, _, _, _, h5⟩ := Sn.fmS_cons.1 h
      exact ih h5

set_option maxHeartbeats 4000000 in
theorem touch_any (A : Option Addr) (n c : Nat) (l : List Sn.Sp) (B : Option Addr) (m d : Nat) (r : List Sn.Sp) (w : World) (hl : l.length = n) (hR : Rd w w.heap.size 2 A n c (sv l)) (hn : n ≤ 8796093022208) (hr : r.length = m) (hR2 : Rd w w.heap.size 2 B m d (sv r)) (hm : m ≤ 8796093022208) :
    Calls Tryd.prog 50 #[.slice A n c, .slice B m d] w fun e w' => e = .returned (.bool (Sn.tch (Sn.tidy l) (Sn.tidy r))) ∧ Below w.heap.size w w' := by
  have htl := Sn.tidy_len l
  have htr := Sn.tidy_len r
  have HTD := Lib.hid (tidy_any A n c l w hl hR hn)
  have HT2 := Lib.hid (fun (V : World) (hb : Below w.heap.size w V) => tidy_any B m d r V hr (hR2.go hb) hm)
  have HF := Lib.hid (Sn.tidy_fm r)
  clear hR hl hR2 hr
  generalize Sn.tidy l = T at htl HTD
  generalize Sn.tidy r = U at htr HT2 HF
  go_enter Tryd.func50, Tryd.ntmps50
  go_wp2
  go_step3
  go_wp2
  go_step3
  go_wp2_with (go_at_call 66; go_must (refine HTD.out.mono ?_); rintro e w1 ⟨A1, c1, rfl, ho1, hb1⟩)
  have HR1 := Lib.hid (Rd.of_own ho1)
  have HB1 := Lib.hid hb1
  have hs1 := hb1.size
  clear ho1 hb1 HTD
  generalize hmT : T.length = p at htl HR1
  have HM := Lib.hid hmT
  clear hmT
  go_loopg [12] p (fun g v12 wr => ∃ k : Nat, k + g = p ∧ v12 = .int .i64 k ∧ Below w1.heap.size w1 wr ∧ Hid (Sn.tch T U = Sn.tch (T.drop k) U))
  case atStart => exact ⟨0, by omega, rfl, Below.refl _ _, rfl⟩
  case round =>
    obtain ⟨k, hkg, rfl, hb, ht⟩ := hrel
    have hbs := hb.size
    cases gk with
    | zero =>
      obtain rfl : k = p := by omega
      have HE := Lib.hid (show Sn.tch T U = false by rw [ht.out, List.drop_of_length_le (by rw [HM.out]; exact Nat.le_refl _)]; rfl)
      clear ht
      go_wp2
      try rw [Exit.noGoto_ret]
      go_ret
      exact ⟨by rw [HE.out] <;> rfl, below_then HB1.out (Nat.le_refl _) hb⟩
    | succ g =>
      have hlt : k < p := by omega
      obtain ⟨bb, o, rfl, hab, g0, g1⟩ := (HR1.out.below hb).stamp HM.out hlt
      have hkl : k < T.length := by rw [HM.out]; exact hlt
      have HT := Lib.hid (show Sn.tch T U = (Sn.hits (T[k]'hkl) U || Sn.tch (T.drop (k + 1)) U) by rw [ht.out, List.drop_eq_getElem_cons hkl, Sn.tch_cons])
      generalize (T[k]'hkl) = s at g0 g1 HT
      obtain ⟨lo, hi⟩ := s
      dsimp only at g0 g1
      have hbw := below_then HB1.out (Nat.le_refl _) hb
      have hbA : Below w.heap.size w (wr.alloc (.cells #[.int .i64 lo, .int .i64 hi] 53)) := hbw.alloc hbw.size _
      have HN := Lib.hid (Blk.new wr 53 #[.int .i64 lo, .int .i64 hi])
      have HBA := Lib.hid hbA
      clear hbA hbw ht hkl
      go_wp2_with (go_at_call 66; go_must (refine (HT2.out _ HBA.out).mono ?_); rintro e w2 ⟨A2, c2, rfl, ho2, hb2⟩)
      have HR2 := Lib.hid (Rd.of_own ho2)
      have hX := HN.out.go hb2
      have x0 : w2.cell? ⟨wr.heap.size, 0, none⟩ = some (.int .i64 lo) := hX.cell 0
      have x1 : w2.cell? ⟨wr.heap.size, 1, none⟩ = some (.int .i64 hi) := hX.cell 1
      have hs2 := hb2.size
      have hxl : wr.heap.size < w2.heap.size := by simp at hs2; omega
      have HB2 := Lib.hid (show Below w1.heap.size w1 w2 from (hb.alloc hbs _).trans (hb2.mono (by simp; omega)))
      clear hX ho2 hb2 HBA HN g0 g1 hb hs2
      generalize wr.heap.size = G at x0 x1 hxl ⊢
      generalize hmU : U.length = q at htr HR2
      have HMU := Lib.hid hmU
      clear hmU
      go_loopg [19] q (fun g2 v19 wy => ∃ j : Nat, j + g2 = q ∧ v19 = .int .i64 j ∧ Below w2.heap.size w2 wy ∧ Hid (Sn.hits (lo, hi) U = Sn.hits (lo, hi) (U.drop j)))
      case atStart => exact ⟨0, by omega, rfl, Below.refl _ _, rfl⟩
      case round =>
        obtain ⟨j, hjg, rfl, hby, hh⟩ := hrel
        have hys := hby.size
        have HBY := Lib.hid (HB2.out.trans (hby.mono HB2.out.size))
        cases gk with
        | zero =>
          obtain rfl : j = q := by omega
          have HE := Lib.hid (show Sn.tch T U = Sn.tch (T.drop (k + 1)) U by rw [HT.out, hh.out, List.drop_of_length_le (by rw [HMU.out]; exact Nat.le_refl _)]; rfl)
          clear hh
          go_wp2
          go_roundg g
          case measure => omega
          case rel => exact ⟨k + 1, by omega, by go_num, HBY.out, HE.out⟩
        | succ g2 =>
          have hlt2 : j < q := by omega
          obtain ⟨b2, o2, rfl, hab2, k0, k1⟩ := (HR2.out.below hby).stamp HMU.out hlt2
          have hjl : j < U.length := by rw [HMU.out]; exact hlt2
          obtain ⟨f, hf⟩ := fmS_from HF.out j
          have hd := List.drop_eq_getElem_cons hjl
          have hh2 := hh.out
          rw [hd] at hf hh2
          have HH := Lib.hid hh2
          have HFF := Lib.hid hf
          have y0 := (hby.cell (p := ⟨G, 0, none⟩) hxl).trans x0
          have y1 := (hby.cell (p := ⟨G, 1, none⟩) hxl).trans x1
          clear hh hh2 hf hd
          generalize (U[j]'hjl) = t at k0 k1 HH HFF
          obtain ⟨tl, th⟩ := t
          dsimp only at k0 k1
          have HBN := Lib.hid ((hby.alloc (o := .cells #[.int .i64 tl, .int .i64 th] 53) hys))
          have HBYN := Lib.hid (HBY.out.alloc HBY.out.size (.cells #[.int .i64 tl, .int .i64 th] 53))
          have hGl : G < wr.heap.size := by omega
          have z0 := (World.cell?_alloc_lt wr (.cells #[.int .i64 tl, .int .i64 th] 53) ⟨G, 0, none⟩ hGl).trans y0
          have z1 := (World.cell?_alloc_lt wr (.cells #[.int .i64 tl, .int .i64 th] 53) ⟨G, 1, none⟩ hGl).trans y1
          clear hby
          by_cases c1 : th < lo
          · have HE := Lib.hid (show Sn.hits (lo, hi) U = Sn.hits (lo, hi) (U.drop (j + 1)) by
              rw [HH.out, Sn.hits_cons]
              simp only
              rw [decide_eq_false (by omega)]; rfl)
            go_wp2
            go_roundg g2
            case measure => omega
            case rel => exact ⟨j + 1, by omega, by go_num, HBN.out, HE.out⟩
          · by_cases c2 : tl > hi
            · have HE := Lib.hid (show Sn.tch T U = Sn.tch (T.drop (k + 1)) U by
                rw [HT.out, HH.out, Sn.hits_late _ _ _ HFF.out c2]; rfl)
              go_wp2
              go_roundg g
              case measure => omega
              case rel => exact ⟨k + 1, by omega, by go_num, HBYN.out, HE.out⟩
            · have HE := Lib.hid (show Sn.tch T U = true by
                rw [HT.out, HH.out, Sn.hits_cons]
                simp only
                rw [decide_eq_true (p := lo ≤ th) (by omega), decide_eq_true (p := tl ≤ hi) (by omega)]; rfl)
              go_wp2
              try rw [Exit.noGoto_ret]
              go_ret
              exact ⟨by rw [HE.out] <;> rfl, below_then HB1.out (Nat.le_refl _) HBYN.out⟩

end Go.Proofs.YticnfjfdeagmaaaDoor
