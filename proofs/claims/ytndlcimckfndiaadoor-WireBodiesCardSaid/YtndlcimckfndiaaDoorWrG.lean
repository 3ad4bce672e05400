/- Walks over wire.Vector and its parts. -/
import Derived.Test.YtndlcimckfndiaaDoorWrC
import Derived.Test.YtndlcimckfndiaaDoorWr3
import Derived.Test.YtndlcimckfndiaaDoorMVec
namespace Go.Proofs.YtndlcimckfndiaaDoor
open Go.RowKit
set_option maxRecDepth 100000

/-- What a call reads: the thing, how many bytes, the error; what a reader has left. -/
def gV {α : Type} (p : List UInt8 → Option (α × List UInt8)) (d : α) (l : List UInt8) : α := match p l with | none => d | some (v, _) => v
def gK {α : Type} (p : List UInt8 → Option (α × List UInt8)) (l : List UInt8) : Nat := match p l with | none => 0 | some (_, r) => l.length - r.length
def gE {α : Type} (p : List UInt8 → Option (α × List UInt8)) (l : List UInt8) : Nat := match p l with | none => 4 | some _ => 0
theorem g_no {α : Type} {p : List UInt8 → Option (α × List UInt8)} {d : α} {l : List UInt8} (h : p l = none) : gV p d l = d ∧ gK p l = 0 ∧ gE p l = 4 := by unfold gV gK gE; rw [h]; exact ⟨rfl, rfl, rfl⟩
theorem g_yes {α : Type} {p : List UInt8 → Option (α × List UInt8)} {d : α} {l r : List UInt8} {v : α} (h : p l = some (v, r)) : gV p d l = v ∧ gK p l = l.length - r.length ∧ gE p l = 0 := by unfold gV gK gE; rw [h]; exact ⟨rfl, rfl, rfl⟩

set_option maxHeartbeats 1000000 in
/-- The reader's next stamp. -/
theorem rdStamp_any (g T : Nat) (s : Option (List UInt8)) (w : World) (h : PR w g T s) :
    Calls Tryd.prog 52 #[.pointer (some ⟨g, 0, none⟩)] w fun e w' => e = .returned (.agg #[.int .i64 (numV (numS s) : Nat), .int .i64 (numV s : Nat)]) ∧ PR w' g T (numS (numS s)) ∧ But g w w' := by
  have hb0 : Below w.heap.size w (w.alloc (.cells #[.int .i64 0, .int .i64 0] 61)) := (Below.refl _ _).alloc (Nat.le_refl _) _
  have hlt := h.lt
  have hx := Blk.new w 61 #[.int .i64 0, .int .i64 0]
  have G1 := Lib.hid (rdNum_any g T s _ (h.go hb0))
  have G2 := Lib.hid fun (W : World) h => rdNum_any g T (numS s) W h
  have HX := Lib.hid hx
  have HB := Lib.hid hb0
  clear h hx hb0
  generalize numV s = a at G1
  generalize numV (numS s) = b at G2
  go_enter Tryd.func52, Tryd.ntmps52
  go_wp2_with (go_at_call 51; first
    | (refine (G2.out _ hP1).mono ?_; rintro e w2 ⟨rfl, hP2, hu2⟩; have hx2 := (HX.out.but hu1 (by omega)).but hu2 (by omega); have f0 := hx2.frozen 0; have f1 := hx2.frozen 1; have c0 := hx2.cell 0; have c1 := hx2.cell 1)
    | (refine G1.out.mono ?_; rintro e w1 ⟨rfl, hP1, hu1⟩))
  have hx3 : Blk ((w2.setCell ⟨w.heap.size, 0, none⟩ (.int .i64 b)).setCell ⟨w.heap.size, 1, none⟩ (.int .i64 a)) w.heap.size 61 #[.int .i64 b, .int .i64 a] := (hx2.set_ 0 (.int .i64 b)).set_ 1 (.int .i64 a)
  refine bodyPost_ret (results_cell_row rfl _ _ w.heap.size 61 _ _ _ rfl hx3 Tryd.underlying61 rfl (by kernel_rfl)) rfl ⟨rfl, ?_, ?_⟩
  · exact hP2.but ((But.set_ (g := w.heap.size) w2 (p := ⟨w.heap.size, 0, none⟩) rfl _).trans (But.set_ (g := w.heap.size) _ (p := ⟨w.heap.size, 1, none⟩) rfl _)) hlt
  · exact (((But.of HB.out).trans hu1).trans hu2).below (((Below.refl _ _).setCell (p := ⟨w.heap.size, 0, none⟩) (Nat.le_refl _) _).setCell (p := ⟨w.heap.size, 1, none⟩) (Nat.le_refl _) _)
theorem pV_all {l : List UInt8} : Wq.pV l = match all2 l with | none => none | some (v, q) => if fm (-1) (v.map Wq.sw) = true then some (v.map Wq.sw, q) else none := by
  unfold Wq.pV all2
  rcases Wq.pN l with _ | ⟨n, r⟩ <;> rfl

set_option maxHeartbeats 1000000 in
/-- end: all that was read. -/
theorem endV_ok (g T : Nat) (v : Value) (l : List UInt8) (w : World) (h : PR w g T (some l)) :
    Calls Tryd.prog 53 #[.pointer (some ⟨g, 0, none⟩), v, .bool true] w fun e w' => e = .returned (.tuple #[v, .int .i64 ((T - l.length : Nat) : Int), .int .i64 0]) ∧ ∃ n, w' = w.drewN n := by
  obtain ⟨A, n, c, hB, hq⟩ := h
  have c1 := hB.cell 1
  have c2 := hB.cell 2
  clear hB hq
  go_enter Tryd.func53, Tryd.ntmps53
  go_wp2
  go_quiet (fail)
  go_wp2
  go_ret3
  exact ⟨rfl, _, rfl⟩
set_option maxHeartbeats 1000000 in
/-- end: nothing. -/
theorem endV_bad (g T : Nat) (v : Value) (f : Bool) (s : Option (List UInt8)) (w : World) (h : PR w g T s) (hs : s = none ∨ f = false) :
    Calls Tryd.prog 53 #[.pointer (some ⟨g, 0, none⟩), v, .bool f] w fun e w' => e = .returned (.tuple #[.slice none 0 0, .int .i64 0, .int .i64 4]) ∧ PR w' g T none ∧ But g w w' := by
  rcases s with _ | l
  · obtain ⟨A, n, c, k, hB⟩ := h
    have c2 := hB.cell 2
    have f2 := hB.frozen 2
    have HB := Lib.hid hB
    clear hB hs
    go_enter Tryd.func53, Tryd.ntmps53
    go_wp2
    go_ret3
    exact ⟨rfl, ⟨A, n, c, k, HB.out.set_ 2 (.bool true)⟩, But.set_ w (p := ⟨g, 2, none⟩) rfl _⟩
  · obtain rfl : f = false := by
      rcases hs with h | h
      · cases h
      · exact h
    obtain ⟨A, n, c, hB, _⟩ := h
    have c2 := hB.cell 2
    have f2 := hB.frozen 2
    have HB := Lib.hid hB
    clear hB hs
    go_enter Tryd.func53, Tryd.ntmps53
    go_wp2
    go_ret3
    exact ⟨rfl, ⟨A, n, c, _, HB.out.set_ 2 (.bool true)⟩, But.set_ w (p := ⟨g, 2, none⟩) rfl _⟩

set_option maxHeartbeats 4000000 in
/-- wire.Vector. -/
theorem wireVec_any (A : Option Addr) (n c : Nat) (l : List UInt8) (w : World) (hl : l.length = n) (hR : Rd w w.heap.size 1 A n c (bv l)) (hn : n ≤ 4294967296) :
    Calls Tryd.prog 15 #[.slice A n c] w fun e w' => ∃ A' c', e = .returned (.tuple #[.slice A' (gV Wq.pV [] l).length c', .int .i64 (gK Wq.pV l), .int .i64 (gE Wq.pV l)]) ∧
      w'.ownsRow w.heap.size 61 2 (.slice A' (gV Wq.pV [] l).length c') (gV Wq.pV [] l).length (sv (gV Wq.pV [] l)) ∧ Below w.heap.size w w' := by
  obtain ⟨i0, hi0, hz0, hz1, hz2⟩ := info_parts stamp_info
  have hP0 : PR (w.alloc (.cells #[.slice A n c, .int .i64 0, .bool false] 90)) w.heap.size n (some l) := by
    refine ⟨A, n, c, ?_, hR.alloc (Nat.le_refl _) _, hl, by omega, by have := hR.cap; have := hR.max; omega⟩
    rw [hl, Nat.sub_self]
    exact Blk.new w _ _
  have hb0 : Below w.heap.size w (w.alloc (.cells #[.slice A n c, .int .i64 0, .bool false] 90)) := (Below.refl _ _).alloc (Nat.le_refl _) _
  obtain ⟨w0, hw0⟩ : ∃ w0, w0 = w.alloc (.cells #[.slice A n c, .int .i64 0, .bool false] 90) := ⟨_, rfl⟩
  rw [← hw0] at hP0 hb0
  have HW := Lib.hid hw0.symm
  have HL := Lib.hid hl
  have hcap := Lib.hid (show Cap2 0 (numS (some l)) n from numS_cap (show 0 + l.length ≤ n by omega))
  have hinv := Lib.hid (Inv2.start l)
  have hk0 := numV_lt (some l)
  obtain ⟨k0, hk0e⟩ : ∃ k0, k0 = numV (some l) := ⟨_, rfl⟩
  have H1 := Lib.hid fun (W : World) (s : Option (List UInt8)) (h : PR W w.heap.size n s) => rdNum_any w.heap.size n s W h
  have H10 := H1.out w0 (some l) hP0
  rw [← hk0e] at H10 hk0 hinv
  have H0 := Lib.hid H10
  clear H10 hk0e hl hR hw0
  go_enter Tryd.func15, Tryd.ntmps15
  go_wp2_with fail
  rw [HW.out]
  refine H0.out.mono ?_
  rintro e w1 ⟨rfl, hP1, hu1⟩
  have hs0 := hP0.lt
  have hs1 := hu1.size
  have hb1 := below_but hb0 hu1 (by omega) (Nat.le_refl _)
  clear H0 hu1 hP0 hb0
  go_wp2_with fail
  go_loopw [6, 7] (fun v6 v7 wr => ∃ (k m c' : Nat) (A' : Option Addr) (s : Option (List UInt8)) (acc : List (Int × Int)), v7 = .int .i64 k ∧ v6 = .slice A' m c' ∧ k ≤ k0 ∧ PR wr w.heap.size n s ∧ Below w.heap.size w wr ∧
    wr.ownsRow (w.heap.size + 1) 61 2 (.slice A' m c') m (sv (acc.map Wq.sw)) ∧ Hid (acc.length = m) ∧ Hid (Cap2 m s n) ∧ Hid (Inv2 k s acc (all2 l))) (fun _ v7 _ => (intOf v7).toNat)
  case atStart => exact ⟨k0, 0, 0, none, _, [], rfl, rfl, Nat.le_refl _, hP1, hb1, World.ownsRow_nil _ _ _ _, rfl, hcap, hinv⟩
  case round =>
    obtain ⟨k, m, c', A', s, acc, rfl, rfl, hk, hP, hb, ho, hacc, hca, hin⟩ := hrel
    have hlt := hP.lt
    have HP := Lib.hid hP
    have HO := Lib.hid ho
    clear hP ho
    by_cases hgo : 0 < k ∧ s ≠ none
    · obtain ⟨hk1, hs⟩ := hgo
      obtain ⟨l1, rfl⟩ : ∃ l1, s = some l1 := by
        cases s with
        | none => exact absurd rfl hs
        | some l1 => exact ⟨l1, rfl⟩
      obtain ⟨Ar, nr, cr, hBr, hqr⟩ := HP.out
      have c2 := hBr.cell 2
      clear hBr hqr hs
      obtain ⟨lo, hlo⟩ : ∃ lo, lo = numV (some l1) := ⟨_, rfl⟩
      obtain ⟨s1, hs1⟩ : ∃ s1, s1 = numS (some l1) := ⟨_, rfl⟩
      obtain ⟨hi, hhi⟩ : ∃ hi, hi = numV s1 := ⟨_, rfl⟩
      obtain ⟨s2, hs2⟩ : ∃ s2, s2 = numS s1 := ⟨_, rfl⟩
      have hcap1 : m + l1.length ≤ n := hca.out
      have HIN := Lib.hid (show Inv2 (k - 1) s2 (acc ++ [((lo : Int), (hi : Int))]) (all2 l) by
        have h := hin.out
        rw [show k = (k - 1) + 1 by omega] at h
        rw [hs2, hlo, hhi, hs1]
        exact h.next)
      have HCA := Lib.hid (show Cap2 (m + 1) s2 n by rw [hs2]; exact numS_cap (by rw [hs1]; exact numS_cap1 hca.out))
      have C1 := rdStamp_any w.heap.size n (some l1) wr HP.out
      rw [← hlo, ← hs1, ← hhi, ← hs2] at C1
      have G1 := Lib.hid C1
      have h63 : m + 1 ≤ maxLen := by unfold maxLen; omega
      have h1max : 1 ≤ maxLen := by unfold maxLen; omega
      have hbs := hb.size
      have hm32 : m ≤ 4294967296 := by omega
      clear C1 hlo hs1 hhi hs2 hin hca hcap1
      go_wp2_with fail
      refine G1.out.mono ?_
      rintro e w3 ⟨rfl, hP3, hu3⟩
      have hs3 := hu3.size
      have ho3 := own_but HO.out hu3 (by omega)
      have hb3 := below_but hb hu3 (by omega) (Nat.le_refl _)
      clear hu3 HO hb HP c2 G1
      go_wp2_with (at_builtin; go_must (refine wpList_append_rd _ rfl (.tmp 24) (.tmp 27) _ rfl (w.heap.size + 1) 61 i0 _ 2 16 Tryd.underlying22 hi0 hz0 hz1 hz2 rfl (by decide) (.slice A' m c') m _ rfl (ho3.alloc _) (w3.heap.size + 1) (some ⟨w3.heap.size, 0, none⟩) 1 1 [.int .i64 (hi : Int), .int .i64 (lo : Int)] rfl (Rd.new w3 _ 2 1 #[.int .i64 (hi : Int), .int .i64 (lo : Int)] rfl h1max) (sv_oneCell [((hi : Int), (lo : Int))]) h63 (by omega) (by simp; omega) ?_); intro A3 c3 w4 ho4 hg4 hat4)
      have hbg : Below (w.heap.size + 1) w3 w4 := ((Below.refl _ _).alloc (by omega) _).trans (grown_below hg4 (by simp; omega) (fun g hg => own_lt ho3 g hg))
      go_roundw
      case rel =>
        exact ⟨k - 1, m + 1, c3, A3, s2, acc ++ [((lo : Int), (hi : Int))], by rw [show ((k : Int) - 1) = ((k - 1 : Nat) : Int) by omega], rfl, by omega, hP3.below hbg (by omega), hb3.trans (hbg.mono (by omega)), by rw [List.map_append, sv_app]; exact ho4,
          by show _ = _; rw [List.length_append, hacc.out]; rfl, HCA, HIN⟩
      case measure => simp [intOf]; omega
    · have HF := Lib.hid fun (W : World) (hR : Rd W W.heap.size 2 A' m c' (sv (acc.map Wq.sw))) => formed_any A' m c' (acc.map Wq.sw) W (by rw [List.length_map]; exact hacc.out) hR
      have hbs := hb.size
      rcases s with _ | r
      · have hpS : Wq.pV l = none := by
          have h : all2 l = none := hin.out
          rw [pV_all, h]
        have HE := Lib.hid (g_no (d := []) hpS)
        obtain ⟨Ar, nr, cr, kr, hBr⟩ := HP.out
        have c2 := hBr.cell 2
        clear hBr hpS hgo hinv hcap
        by_cases hk0 : 0 < k
        all_goals
          go_wp2_with fail
          refine (HF.out wr (Rd.of_own HO.out)).mono ?_
          rintro e w5 ⟨rfl, hb5⟩
          go_wp2_with fail
          refine (endV_bad w.heap.size n (.slice A' m c') (fm (-1) (acc.map Wq.sw)) none w5 (HP.out.go hb5) (.inl rfl)).mono ?_
          rintro e w6 ⟨rfl, hP6, hu6⟩
          go_wp2
          go_ret3
          obtain ⟨e1, e2, e3⟩ := HE.out
          rw [e1, e2, e3]
          exact ⟨none, 0, rfl, World.ownsRow_nil _ _ _ _, below_but (below_then hb (Nat.le_refl _) hb5) hu6 (by have := hb5.size; omega) (Nat.le_refl _)⟩
      · obtain rfl : k = 0 := by
          rcases Nat.eq_zero_or_pos k with h | h
          · exact h
          · exact absurd ⟨h, by simp⟩ hgo
        have hF := hin.out.done
        obtain ⟨Ar, nr, cr, hBr, hqr⟩ := HP.out
        have c2 := hBr.cell 2
        by_cases hf : fm (-1) (acc.map Wq.sw) = true
        · have hpS : Wq.pV l = some (acc.map Wq.sw, r) := by rw [pV_all, hF]; simp only; rw [if_pos hf]
          have HE := Lib.hid (g_yes (d := []) hpS)
          have HA := Lib.hid (show (acc.map Wq.sw).length = m by rw [List.length_map]; exact hacc.out)
          rw [hf] at HF
          clear hBr hqr hpS hgo hinv hcap hF hf
          go_wp2_with fail
          refine (HF.out wr (Rd.of_own HO.out)).mono ?_
          rintro e w5 ⟨rfl, hb5⟩
          have ho5 := own_below HO.out hb5 (Nat.le_refl _)
          go_wp2_with fail
          refine (endV_ok w.heap.size n (.slice A' m c') r w5 (HP.out.go hb5)).mono ?_
          rintro e w6 ⟨rfl, n6, rfl⟩
          go_wp2
          go_ret3
          obtain ⟨e1, e2, e3⟩ := HE.out
          rw [e1, e2, e3, HL.out, HA.out]
          exact ⟨A', c', rfl, own_less (own_drewN ho5 n6) (by omega), below_drewN (below_then hb (Nat.le_refl _) hb5) n6⟩
        · have hf' : fm (-1) (acc.map Wq.sw) = false := by simpa using hf
          have hpS : Wq.pV l = none := by rw [pV_all, hF]; simp only; rw [if_neg hf]
          have HE := Lib.hid (g_no (d := []) hpS)
          rw [hf'] at HF
          clear hBr hqr hpS hgo hinv hcap hF hf hf'
          go_wp2_with fail
          refine (HF.out wr (Rd.of_own HO.out)).mono ?_
          rintro e w5 ⟨rfl, hb5⟩
          go_wp2_with fail
          refine (endV_bad w.heap.size n (.slice A' m c') false (some r) w5 (HP.out.go hb5) (.inr rfl)).mono ?_
          rintro e w6 ⟨rfl, hP6, hu6⟩
          go_wp2
          go_ret3
          obtain ⟨e1, e2, e3⟩ := HE.out
          rw [e1, e2, e3]
          exact ⟨none, 0, rfl, World.ownsRow_nil _ _ _ _, below_but (below_then hb (Nat.le_refl _) hb5) hu6 (by have := hb5.size; omega) (Nat.le_refl _)⟩
end Go.Proofs.YtndlcimckfndiaaDoor
