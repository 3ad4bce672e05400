/- The document's next vector (printed by wip/tools/genWrV.py). -/
import Derived.Test.YtndlcimckfndiaaDoorWrD
import Derived.Test.YtndlcimckfndiaaDoorWrG
import Derived.Test.YtndlcimckfndiaaDoorMVec
namespace Go.Proofs.YtndlcimckfndiaaDoor
open Go.RowKit
set_option maxRecDepth 100000

theorem vecS_of {s : Option (List UInt8)} : Wq.st Wq.pV s = match all2S s with | none => none | some (v, q) => if fm (-1) (v.map Wq.sw) = true then some q else none := by
  cases s with
  | none => rfl
  | some l =>
    have e : all2S (some l) = all2 l := rfl
    rw [e]
    unfold Wq.st
    simp only
    rw [pV_all]
    rcases all2 l with _ | ⟨v, q⟩
    · rfl
    · simp only
      by_cases hf : fm (-1) (v.map Wq.sw) = true
      · rw [if_pos hf, if_pos hf]
      · rw [if_neg hf, if_neg hf]
theorem vecVS_of {s : Option (List UInt8)} {v : List (Int × Int)} {q : List UInt8} (h : all2S s = some (v, q)) (hf : fm (-1) (v.map Wq.sw) = true) : Wq.vl Wq.pV [] s = v.map Wq.sw := by
  cases s with
  | none => cases h
  | some l =>
    have h' : all2 l = some (v, q) := h
    show gV Wq.pV [] l = _
    unfold gV
    rw [pV_all, h']
    simp only
    rw [if_pos hf]
set_option maxHeartbeats 4000000 in
/-- The document's next vector. -/
theorem refRdVec_any (g : Nat) (L : List UInt8) (s0 : Option (List UInt8)) (w : World) (h : RR w g L s0) (hn : L.length ≤ 4294967296) :
    Calls Tryd.prog 14 #[.pointer (some ⟨g, 0, none⟩)] w fun e w' => ∃ v A' c', e = .returned (.slice A' v.length c') ∧
      w'.ownsRow w.heap.size 61 2 (.slice A' v.length c') v.length (sv v) ∧ RR w' g L (Wq.st Wq.pV s0) ∧ But g w w' ∧ (∀ q, Wq.st Wq.pV s0 = some q → v = Wq.vl Wq.pV [] s0) := by
  obtain ⟨i0, hi0, hz0, hz1, hz2⟩ := info_parts stamp_info
  have hlt0 := h.lt
  have HC0 : Cap2 0 s0 L.length := by
    cases s0 with
    | none => show 0 ≤ _; omega
    | some l => obtain ⟨A, n, c, _, _, _, _, hle⟩ := h; show 0 + l.length ≤ _; omega
  have hcap := Lib.hid (numS_cap HC0)
  have hinv := Lib.hid (Inv2.startS s0)
  have hk0 := numV_lt s0
  obtain ⟨k0, hk0e⟩ : ∃ k0, k0 = numV s0 := ⟨_, rfl⟩
  have H1 := Lib.hid fun (W : World) (s : Option (List UInt8)) (h : RR W g L s) => refRdNum_any g L s W h
  have H10 := H1.out w s0 h
  rw [← hk0e] at H10 hk0 hinv
  have H0 := Lib.hid H10
  obtain ⟨N, hN⟩ : ∃ N, N = L.length := ⟨_, rfl⟩
  rw [← hN] at hn hcap
  clear H10 hk0e h HC0 hN
  go_enter Tryd.func14, Tryd.ntmps14
  go_wp2_with fail
  refine H0.out.mono ?_
  rintro e w1 ⟨rfl, hP1, hu1⟩
  have hs1 := hu1.size
  clear H0
  go_wp2_with fail
  go_loopw [3, 4, 5] (fun v6 v7 _ wr => ∃ (k m c' : Nat) (A' : Option Addr) (s : Option (List UInt8)) (acc : List (Int × Int)), v7 = .int .i64 k ∧ v6 = .slice A' m c' ∧ k ≤ k0 ∧ RR wr g L s ∧ But g w wr ∧
    wr.ownsRow w.heap.size 61 2 (.slice A' m c') m (sv (acc.map Wq.sw)) ∧ Hid (acc.length = m) ∧ Hid (Cap2 m s N) ∧ Hid (Inv2 k s acc (all2S s0))) (fun _ v7 _ _ => (intOf v7).toNat)
  case atStart => exact ⟨k0, 0, 0, none, _, [], rfl, rfl, Nat.le_refl _, hP1, hu1, World.ownsRow_nil _ _ _ _, rfl, hcap, hinv⟩
  case round =>
    obtain ⟨k, m, c', A', s, acc, rfl, rfl, hk, hP, hb, ho, hacc, hca, hin⟩ := hrel
    have hlt := hP.lt
    have HP := Lib.hid hP
    have HO := Lib.hid ho
    have hbs := hb.size
    clear hP ho
    by_cases hgo : 0 < k ∧ s ≠ none
    · obtain ⟨hk1, hs⟩ := hgo
      obtain ⟨l1, rfl⟩ : ∃ l1, s = some l1 := by
        cases s with
        | none => exact absurd rfl hs
        | some l1 => exact ⟨l1, rfl⟩
      obtain ⟨Ar, nr, cr, hBr, hqr⟩ := HP.out
      have c2 := hBr.cell 2
      clear hBr hs hqr
      obtain ⟨lo, hlo⟩ : ∃ lo, lo = numV (some l1) := ⟨_, rfl⟩
      obtain ⟨s1, hs1⟩ : ∃ s1, s1 = numS (some l1) := ⟨_, rfl⟩
      obtain ⟨hi, hhi⟩ : ∃ hi, hi = numV s1 := ⟨_, rfl⟩
      obtain ⟨s2, hs2⟩ : ∃ s2, s2 = numS s1 := ⟨_, rfl⟩
      have hcap1 : m + l1.length ≤ N := hca.out
      have HIN := Lib.hid (show Inv2 (k - 1) s2 (acc ++ [((lo : Int), (hi : Int))]) (all2S s0) by
        have h := hin.out
        rw [show k = (k - 1) + 1 by omega] at h
        rw [hs2, hlo, hhi, hs1]
        exact h.next)
      have HCA := Lib.hid (show Cap2 (m + 1) s2 N by rw [hs2]; exact numS_cap (by rw [hs1]; exact numS_cap1 hca.out))
      have C1 := H1.out wr (some l1) HP.out
      rw [← hlo, ← hs1] at C1
      have G1 := Lib.hid C1
      have G2 := Lib.hid fun (W : World) (h : RR W g L s1) => H1.out W s1 h
      rw [← hhi, ← hs2] at G2
      have h63 : m + 1 ≤ maxLen := by unfold maxLen; omega
      have h1max : 1 ≤ maxLen := by unfold maxLen; omega
      have hm32 : m ≤ 4294967296 := by omega
      clear C1 hlo hs1 hhi hs2 hin hca hcap1
      go_wp2_with fail
      refine G1.out.mono ?_
      rintro e w2 ⟨rfl, hP2, hu2⟩
      have hs2 := hu2.size
      have hx2 := Blk.new w2 61 #[.int .i64 0, .int .i64 (lo : Int)]
      have hb2 : Below w2.heap.size w2 (w2.alloc (.cells #[.int .i64 0, .int .i64 (lo : Int)] 61)) := (Below.refl _ _).alloc (Nat.le_refl _) _
      go_wp2_with fail
      refine (G2.out _ (hP2.go hb2)).mono ?_
      rintro e w3 ⟨rfl, hP3, hu3⟩
      have hs3 := hu3.size
      rw [World.size_alloc] at hs3
      have hne : (Value.slice A' m c').ownBlock ≠ some w2.heap.size := fun e => by have := (HO.out.lt _ e).2; omega
      have hx3 := hx2.but hu3 (by omega)
      have ho3 := own_butN (own_but ((own_but HO.out hu2 (by omega)).alloc (.cells #[.int .i64 0, .int .i64 (lo : Int)] 61)) hu3 (by omega)) (But.set_ (g := w2.heap.size) w3 (p := ⟨w2.heap.size, 0, none⟩) rfl (.int .i64 hi)) hne
      have hb3 : But g w w3 := ((hb.trans hu2).trans (But.of hb2)).trans hu3
      have hP4 : RR (w3.setCell ⟨w2.heap.size, 0, none⟩ (.int .i64 hi)) g L s2 := hP3.but (But.set_ (g := w2.heap.size) w3 (p := ⟨w2.heap.size, 0, none⟩) rfl (.int .i64 hi)) (by omega)
      have hb4 : Below w.heap.size w3 (w3.setCell ⟨w2.heap.size, 0, none⟩ (.int .i64 hi)) := (Below.refl _ _).setCell (p := ⟨w2.heap.size, 0, none⟩) (by show _ ≤ w2.heap.size; omega) _
      have d0 := hx3.cell 0
      have d1 := hx3.cell 1
      have d2 := hx3.frozen 0
      have HX3 := Lib.hid hx3
      clear hx2 hb2 hu2 hu3 hP2 hP3 HO HP hb hx3 c2 G1 G2
      go_wp2_with (at_builtin; go_must (refine wpList_append_rd _ rfl (.tmp 25) (.tmp 27) _ rfl w.heap.size 61 i0 _ 2 16 Tryd.underlying22 hi0 hz0 hz1 hz2 rfl (by decide) (.slice A' m c') m _ rfl (ho3.alloc _) _ (some ⟨w3.heap.size, 0, none⟩) 1 1 [.int .i64 (hi : Int), .int .i64 (lo : Int)] rfl (by have := Rd.new (w3.setCell ⟨w2.heap.size, 0, none⟩ (.int .i64 hi)) 61 2 1 #[.int .i64 (hi : Int), .int .i64 (lo : Int)] rfl h1max; simpa using this) (sv_oneCell [((hi : Int), (lo : Int))]) h63 (by omega) (by simp; omega) ?_); intro A3 c3 w4 ho4 hg4 hat4)
      have hbg : Below w.heap.size (w3.setCell ⟨w2.heap.size, 0, none⟩ (.int .i64 hi)) w4 := ((Below.refl _ _).alloc (by simp; omega) _).trans (grown_below hg4 (by simp; omega) (fun g hg => own_lt ho3 g hg))
      go_roundw
      case rel =>
        exact ⟨k - 1, m + 1, c3, A3, s2, acc ++ [((lo : Int), (hi : Int))], by rw [show ((k : Int) - 1) = ((k - 1 : Nat) : Int) by omega], rfl, by omega, hP4.below hbg (by omega), hb3.below (hb4.trans hbg),
          by rw [List.map_append, sv_app]; exact ho4, by show _ = _; rw [List.length_append, hacc.out]; rfl, HCA, HIN⟩
      case measure => simp [intOf]; omega
    · have HF := Lib.hid fun (W : World) (hR : Rd W W.heap.size 2 A' m c' (sv (acc.map Wq.sw))) => refFormed_any A' m c' (acc.map Wq.sw) W (by rw [List.length_map]; exact hacc.out) hR
      have HA := Lib.hid (show (acc.map Wq.sw).length = m by rw [List.length_map]; exact hacc.out)
      rcases s with _ | r
      · have hpS : Wq.st Wq.pV s0 = none := by
          have h : all2S s0 = none := hin.out
          rw [vecS_of, h]
        have HE := Lib.hid hpS
        obtain ⟨Ar, nr, cr, kr, hBr⟩ := HP.out
        have c2 := hBr.cell 2
        have f2 := hBr.frozen 2
        have HB := Lib.hid hBr
        clear hBr hpS hgo hinv hcap
        by_cases hk0 : 0 < k
        all_goals
          go_wp2
          go_ret
          have hu := But.set_ (g := g) wr (p := ⟨g, 2, none⟩) rfl (.bool true)
          refine ⟨acc.map Wq.sw, A', c', by rw [HA.out]; rfl, by rw [HA.out]; exact own_but HO.out hu (by omega), ?_, hb.trans hu, fun q hq => by rw [HE.out] at hq; cases hq⟩
          rw [HE.out]
          exact ⟨Ar, nr, cr, kr, HB.out.set_ 2 (.bool true)⟩
      · obtain rfl : k = 0 := by
          rcases Nat.eq_zero_or_pos k with h | h
          · exact h
          · exact absurd ⟨h, by simp⟩ hgo
        have hF := hin.out.done
        obtain ⟨Ar, nr, cr, hBr, hqr⟩ := HP.out
        have HQ := Lib.hid hqr
        have c2 := hBr.cell 2
        by_cases hf : fm (-1) (acc.map Wq.sw) = true
        · have hpS : Wq.st Wq.pV s0 = some r := by rw [vecS_of, hF]; simp only; rw [if_pos hf]
          have HE := Lib.hid hpS
          have HV := Lib.hid (vecVS_of hF hf)
          rw [hf] at HF
          have HB := Lib.hid hBr
          clear hBr hqr hpS hgo hinv hcap hF hf
          go_wp2_with fail
          refine (HF.out wr (Rd.of_own HO.out)).mono ?_
          rintro e w5 ⟨rfl, hb5⟩
          have ho5 := own_below HO.out hb5 (Nat.le_refl _)
          have hB5 := HB.out.go hb5
          have f2 := hB5.frozen 2
          have d2 := hB5.cell 2
          have hP5 := HP.out.go hb5
          have hb6 := hb.below (hb5.mono hbs)
          have HB5 := Lib.hid hB5
          clear HB c2 hB5
          go_wp2
          go_ret
          have hu := But.set_ (g := g) w5 (p := ⟨g, 2, none⟩) rfl (.bool false)
          refine ⟨acc.map Wq.sw, A', c', by rw [HA.out]; rfl, by rw [HA.out]; exact own_but ho5 hu (by omega), ?_, hb6.trans hu, fun q hq => HV.out.symm⟩
          rw [HE.out]
          obtain ⟨q1, q2, q3, q4⟩ := HQ.out
          exact ⟨Ar, nr, cr, HB5.out.set_ 2 (.bool false), (q1.below (hb5.mono (by omega))).but hu (by have := hb5.size; omega) (Nat.le_refl _), q2, q3, q4⟩
        · have hf' : fm (-1) (acc.map Wq.sw) = false := by simpa using hf
          have hpS : Wq.st Wq.pV s0 = none := by rw [vecS_of, hF]; simp only; rw [if_neg hf]
          have HE := Lib.hid hpS
          rw [hf'] at HF
          have HB := Lib.hid hBr
          clear hBr hqr hpS hgo hinv hcap hF hf hf'
          go_wp2_with fail
          refine (HF.out wr (Rd.of_own HO.out)).mono ?_
          rintro e w5 ⟨rfl, hb5⟩
          have ho5 := own_below HO.out hb5 (Nat.le_refl _)
          have hB5 := HB.out.go hb5
          have f2 := hB5.frozen 2
          have d2 := hB5.cell 2
          have hb6 := hb.below (hb5.mono hbs)
          have HB5 := Lib.hid hB5
          clear HB c2 hB5
          go_wp2
          go_ret
          have hu := But.set_ (g := g) w5 (p := ⟨g, 2, none⟩) rfl (.bool true)
          refine ⟨acc.map Wq.sw, A', c', by rw [HA.out]; rfl, by rw [HA.out]; exact own_but ho5 hu (by omega), ?_, hb6.trans hu, fun q hq => by rw [HE.out] at hq; cases hq⟩
          rw [HE.out]
          exact ⟨Ar, nr, cr, _, HB5.out.set_ 2 (.bool true)⟩
end Go.Proofs.YtndlcimckfndiaaDoor
