/- Texts of one layer in one file: WrG, WrH, WrI, WrJ. -/
import Derived.Test.YtndlcimckfndiaaDoorMWa
import Derived.Test.YtndlcimckfndiaaDoorWr3
import Derived.Test.YtndlcimckfndiaaDoorMVec
import Derived.Test.YtndlcimckfndiaaDoorMPk
namespace Go.Proofs.YtndlcimckfndiaaDoor
open Go.RowKit
set_option maxRecDepth 100000

/-- What a call reads: the thing, how many bytes, the error; what a reader has left. -/
def gV {α : Type} (p : List UInt8 → Option (α × List UInt8)) (d : α) (l : List UInt8) : α := match p l with | none => d | some (v, _) => v
def gK {α : Type} (p : List UInt8 → Option (α × List UInt8)) (l : List UInt8) : Nat := match p l with | none => 0 | some (_, r) => l.length - r.length
def gE {α : Type} (p : List UInt8 → Option (α × List UInt8)) (l : List UInt8) : Nat := match p l with | none => 4 | some _ => 0
theorem g_no {α : Type} {p : List UInt8 → Option (α × List UInt8)} {d : α} {l : List UInt8} (h : p l = none) : gV p d l = d ∧ gK p l = 0 ∧ gE p l = 4 := by unfold gV gK gE; rw [h]; exact ⟨rfl, rfl, rfl⟩
theorem g_yes {α : Type} {p : List UInt8 → Option (α × List UInt8)} {d : α} {l r : List UInt8} {v : α} (h : p l = some (v, r)) : gV p d l = v ∧ gK p l = l.length - r.length ∧ gE p l = 0 := by unfold gV gK gE; rw [h]; exact ⟨rfl, rfl, rfl⟩

set_option maxHeartbeats 1000000 in
/-- The reader's next stamp. -/
theorem rdStamp_any (g T : Nat) (s : Option (List UInt8)) (w : World) (h : PR w g T s) :
    Calls Tryd.prog 52 #[.pointer (some ⟨g, 0, none⟩)] w fun e w' => e = .returned (.agg #[.int .i64 (numV (numS s) : Nat), .int .i64 (numV s : Nat)]) ∧ PR w' g T (numS (numS s)) ∧ But g w w' := by
  have hb0 : Below w.heap.size w (w.alloc (.cells #[.int .i64 0, .int .i64 0] 61)) := (Below.refl _ _).alloc (Nat.le_refl _) _
  have hlt := h.lt
  have hx := Blk.new w 61 #[.int .i64 0, .int .i64 0]
  have G1 := Lib.hid (rdNum_any g T s _ (h.go hb0))
  have G2 := Lib.hid fun (W : World) h => rdNum_any g T (numS s) W h
  have HX := Lib.hid hx
  have HB := Lib.hid hb0
  clear h hx hb0
  generalize numV s = a at G1
  generalize numV (numS s) = b at G2
  go_enter Tryd.func52, Tryd.ntmps52
  go_wp2_with (go_at_call 51; first
    | (refine (G2.out _ hP1).mono ?_; rintro e w2 ⟨rfl, hP2, hu2⟩; have hx2 := (HX.out.but hu1 (by omega)).but hu2 (by omega); have f0 := hx2.frozen 0; have f1 := hx2.frozen 1; have c0 := hx2.cell 0; have c1 := hx2.cell 1)
    | (refine G1.out.mono ?_; rintro e w1 ⟨rfl, hP1, hu1⟩))
  have hx3 : Blk ((w2.setCell ⟨w.heap.size, 0, none⟩ (.int .i64 b)).setCell ⟨w.heap.size, 1, none⟩ (.int .i64 a)) w.heap.size 61 #[.int .i64 b, .int .i64 a] := (hx2.set_ 0 (.int .i64 b)).set_ 1 (.int .i64 a)
  refine bodyPost_ret (results_cell_row rfl _ _ w.heap.size 61 _ _ _ rfl hx3 Tryd.underlying61 rfl (by kernel_rfl)) rfl ⟨rfl, ?_, ?_⟩
  · exact hP2.but ((But.set_ (g := w.heap.size) w2 (p := ⟨w.heap.size, 0, none⟩) rfl _).trans (But.set_ (g := w.heap.size) _ (p := ⟨w.heap.size, 1, none⟩) rfl _)) hlt
  · exact (((But.of HB.out).trans hu1).trans hu2).below (((Below.refl _ _).setCell (p := ⟨w.heap.size, 0, none⟩) (Nat.le_refl _) _).setCell (p := ⟨w.heap.size, 1, none⟩) (Nat.le_refl _) _)
theorem pV_all {l : List UInt8} : Wq.pV l = match all2 l with | none => none | some (v, q) => if fm (-1) (v.map Wq.sw) = true then some (v.map Wq.sw, q) else none := by
  unfold Wq.pV all2
  rcases Wq.pN l with _ | ⟨n, r⟩ <;> rfl

set_option maxHeartbeats 1000000 in
/-- end: all that was read. -/
theorem endV_ok (g T : Nat) (v : Value) (l : List UInt8) (w : World) (h : PR w g T (some l)) :
    Calls Tryd.prog 53 #[.pointer (some ⟨g, 0, none⟩), v, .bool true] w fun e w' => e = .returned (.tuple #[v, .int .i64 ((T - l.length : Nat) : Int), .int .i64 0]) ∧ ∃ n, w' = w.drewN n := by
  obtain ⟨A, n, c, hB, hq⟩ := h
  have c1 := hB.cell 1
  have c2 := hB.cell 2
  clear hB hq
  go_enter Tryd.func53, Tryd.ntmps53
  go_wp2
  go_quiet (fail)
  go_wp2
  go_ret3
  exact ⟨rfl, _, rfl⟩
set_option maxHeartbeats 1000000 in
/-- end: nothing. -/
theorem endV_bad (g T : Nat) (v : Value) (f : Bool) (s : Option (List UInt8)) (w : World) (h : PR w g T s) (hs : s = none ∨ f = false) :
    Calls Tryd.prog 53 #[.pointer (some ⟨g, 0, none⟩), v, .bool f] w fun e w' => e = .returned (.tuple #[.slice none 0 0, .int .i64 0, .int .i64 4]) ∧ PR w' g T none ∧ But g w w' := by
  rcases s with _ | l
  · obtain ⟨A, n, c, k, hB⟩ := h
    have c2 := hB.cell 2
    have f2 := hB.frozen 2
    have HB := Lib.hid hB
    clear hB hs
    go_enter Tryd.func53, Tryd.ntmps53
    go_wp2
    go_ret3
    exact ⟨rfl, ⟨A, n, c, k, HB.out.set_ 2 (.bool true)⟩, But.set_ w (p := ⟨g, 2, none⟩) rfl _⟩
  · obtain rfl : f = false := by
      rcases hs with h | h
      · cases h
      · exact h
    obtain ⟨A, n, c, hB, _⟩ := h
    have c2 := hB.cell 2
    have f2 := hB.frozen 2
    have HB := Lib.hid hB
    clear hB hs
    go_enter Tryd.func53, Tryd.ntmps53
    go_wp2
    go_ret3
    exact ⟨rfl, ⟨A, n, c, _, HB.out.set_ 2 (.bool true)⟩, But.set_ w (p := ⟨g, 2, none⟩) rfl _⟩

set_option maxHeartbeats 4000000 in
/-- wire.Vector. -/
theorem wireVec_any (A : Option Addr) (n c : Nat) (l : List UInt8) (w : World) (hl : l.length = n) (hR : Rd w w.heap.size 1 A n c (bv l)) (hn : n ≤ 4294967296) :
    Calls Tryd.prog 15 #[.slice A n c] w fun e w' => ∃ A' c', e = .returned (.tuple #[.slice A' (gV Wq.pV [] l).length c', .int .i64 (gK Wq.pV l), .int .i64 (gE Wq.pV l)]) ∧
      w'.ownsRow w.heap.size 61 2 (.slice A' (gV Wq.pV [] l).length c') (gV Wq.pV [] l).length (sv (gV Wq.pV [] l)) ∧ Below w.heap.size w w' := by
  obtain ⟨i0, hi0, hz0, hz1, hz2⟩ := info_parts stamp_info
  have hP0 : PR (w.alloc (.cells #[.slice A n c, .int .i64 0, .bool false] 90)) w.heap.size n (some l) := by
    refine ⟨A, n, c, ?_, hR.alloc (Nat.le_refl _) _, hl, by omega, by have := hR.cap; have := hR.max; omega⟩
    rw [hl, Nat.sub_self]
    exact Blk.new w _ _
  have hb0 : Below w.heap.size w (w.alloc (.cells #[.slice A n c, .int .i64 0, .bool false] 90)) := (Below.refl _ _).alloc (Nat.le_refl _) _
  obtain ⟨w0, hw0⟩ : ∃ w0, w0 = w.alloc (.cells #[.slice A n c, .int .i64 0, .bool false] 90) := ⟨_, rfl⟩
  rw [← hw0] at hP0 hb0
  have HW := Lib.hid hw0.symm
  have HL := Lib.hid hl
  have hcap := Lib.hid (show Cap2 0 (numS (some l)) n from numS_cap (show 0 + l.length ≤ n by omega))
  have hinv := Lib.hid (Inv2.start l)
  have hk0 := numV_lt (some l)
  obtain ⟨k0, hk0e⟩ : ∃ k0, k0 = numV (some l) := ⟨_, rfl⟩
  have H1 := Lib.hid fun (W : World) (s : Option (List UInt8)) (h : PR W w.heap.size n s) => rdNum_any w.heap.size n s W h
  have H10 := H1.out w0 (some l) hP0
  rw [← hk0e] at H10 hk0 hinv
  have H0 := Lib.hid H10
  clear H10 hk0e hl hR hw0
  go_enter Tryd.func15, Tryd.ntmps15
  go_wp2_with fail
  rw [HW.out]
  refine H0.out.mono ?_
  rintro e w1 ⟨rfl, hP1, hu1⟩
  have hs0 := hP0.lt
  have hs1 := hu1.size
  have hb1 := below_but hb0 hu1 (by omega) (Nat.le_refl _)
  clear H0 hu1 hP0 hb0
  go_wp2_with fail
  go_loopw [6, 7] (fun v6 v7 wr => ∃ (k m c' : Nat) (A' : Option Addr) (s : Option (List UInt8)) (acc : List (Int × Int)), v7 = .int .i64 k ∧ v6 = .slice A' m c' ∧ k ≤ k0 ∧ PR wr w.heap.size n s ∧ Below w.heap.size w wr ∧
    wr.ownsRow (w.heap.size + 1) 61 2 (.slice A' m c') m (sv (acc.map Wq.sw)) ∧ Hid (acc.length = m) ∧ Hid (Cap2 m s n) ∧ Hid (Inv2 k s acc (all2 l))) (fun _ v7 _ => (intOf v7).toNat)
  case atStart => exact ⟨k0, 0, 0, none, _, [], rfl, rfl, Nat.le_refl _, hP1, hb1, World.ownsRow_nil _ _ _ _, rfl, hcap, hinv⟩
  case round =>
    obtain ⟨k, m, c', A', s, acc, rfl, rfl, hk, hP, hb, ho, hacc, hca, hin⟩ := hrel
    have hlt := hP.lt
    have HP := Lib.hid hP
    have HO := Lib.hid ho
    clear hP ho
    by_cases hgo : 0 < k ∧ s ≠ none
    · obtain ⟨hk1, hs⟩ := hgo
      obtain ⟨l1, rfl⟩ : ∃ l1, s = some l1 := by
        cases s with
        | none => exact absurd rfl hs
        | some l1 => exact ⟨l1, rfl⟩
      obtain ⟨Ar, nr, cr, hBr, hqr⟩ := HP.out
      have c2 := hBr.cell 2
      clear hBr hqr hs
      obtain ⟨lo, hlo⟩ : ∃ lo, lo = numV (some l1) := ⟨_, rfl⟩
      obtain ⟨s1, hs1⟩ : ∃ s1, s1 = numS (some l1) := ⟨_, rfl⟩
      obtain ⟨hi, hhi⟩ : ∃ hi, hi = numV s1 := ⟨_, rfl⟩
      obtain ⟨s2, hs2⟩ : ∃ s2, s2 = numS s1 := ⟨_, rfl⟩
      have hcap1 : m + l1.length ≤ n := hca.out
      have HIN := Lib.hid (show Inv2 (k - 1) s2 (acc ++ [((lo : Int), (hi : Int))]) (all2 l) by
        have h := hin.out
        rw [show k = (k - 1) + 1 by omega] at h
        rw [hs2, hlo, hhi, hs1]
        exact h.next)
      have HCA := Lib.hid (show Cap2 (m + 1) s2 n by rw [hs2]; exact numS_cap (by rw [hs1]; exact numS_cap1 hca.out))
      have C1 := rdStamp_any w.heap.size n (some l1) wr HP.out
      rw [← hlo, ← hs1, ← hhi, ← hs2] at C1
      have G1 := Lib.hid C1
      have h63 : m + 1 ≤ maxLen := by unfold maxLen; omega
      have h1max : 1 ≤ maxLen := by unfold maxLen; omega
      have hbs := hb.size
      have hm32 : m ≤ 4294967296 := by omega
      clear C1 hlo hs1 hhi hs2 hin hca hcap1
      go_wp2_with fail
      refine G1.out.mono ?_
      rintro e w3 ⟨rfl, hP3, hu3⟩
      have hs3 := hu3.size
      have ho3 := own_but HO.out hu3 (by omega)
      have hb3 := below_but hb hu3 (by omega) (Nat.le_refl _)
      clear hu3 HO hb HP c2 G1
      go_wp2_with (at_builtin; go_must (refine wpList_append_rd _ rfl (.tmp 24) (.tmp 27) _ rfl (w.heap.size + 1) 61 i0 _ 2 16 Tryd.underlying22 hi0 hz0 hz1 hz2 rfl (by decide) (.slice A' m c') m _ rfl (ho3.alloc _) (w3.heap.size + 1) (some ⟨w3.heap.size, 0, none⟩) 1 1 [.int .i64 (hi : Int), .int .i64 (lo : Int)] rfl (Rd.new w3 _ 2 1 #[.int .i64 (hi : Int), .int .i64 (lo : Int)] rfl h1max) (sv_oneCell [((hi : Int), (lo : Int))]) h63 (by omega) (by simp; omega) ?_); intro A3 c3 w4 ho4 hg4 hat4)
      have hbg : Below (w.heap.size + 1) w3 w4 := ((Below.refl _ _).alloc (by omega) _).trans (grown_below hg4 (by simp; omega) (fun g hg => own_lt ho3 g hg))
      go_roundw
      case rel =>
        exact ⟨k - 1, m + 1, c3, A3, s2, acc ++ [((lo : Int), (hi : Int))], by rw [show ((k : Int) - 1) = ((k - 1 : Nat) : Int) by omega], rfl, by omega, hP3.below hbg (by omega), hb3.trans (hbg.mono (by omega)), by rw [List.map_append, sv_app]; exact ho4,
          by show _ = _; rw [List.length_append, hacc.out]; rfl, HCA, HIN⟩
      case measure => simp [intOf]; omega
    · have HF := Lib.hid fun (W : World) (hR : Rd W W.heap.size 2 A' m c' (sv (acc.map Wq.sw))) => formed_any A' m c' (acc.map Wq.sw) W (by rw [List.length_map]; exact hacc.out) hR
      have hbs := hb.size
      rcases s with _ | r
      · have hpS : Wq.pV l = none := by
          have h : all2 l = none := hin.out
          rw [pV_all, h]
        have HE := Lib.hid (g_no (d := []) hpS)
        obtain ⟨Ar, nr, cr, kr, hBr⟩ := HP.out
        have c2 := hBr.cell 2
        clear hBr hpS hgo hinv hcap
        by_cases hk0 : 0 < k
        all_goals
          go_wp2_with fail
          refine (HF.out wr (Rd.of_own HO.out)).mono ?_
          rintro e w5 ⟨rfl, hb5⟩
          go_wp2_with fail
          refine (endV_bad w.heap.size n (.slice A' m c') (fm (-1) (acc.map Wq.sw)) none w5 (HP.out.go hb5) (.inl rfl)).mono ?_
          rintro e w6 ⟨rfl, hP6, hu6⟩
          go_wp2
          go_ret3
          obtain ⟨e1, e2, e3⟩ := HE.out
          rw [e1, e2, e3]
          exact ⟨none, 0, rfl, World.ownsRow_nil _ _ _ _, below_but (below_then hb (Nat.le_refl _) hb5) hu6 (by have := hb5.size; omega) (Nat.le_refl _)⟩
      · obtain rfl : k = 0 := by
          rcases Nat.eq_zero_or_pos k with h | h
          · exact h
          · exact absurd ⟨h, by simp⟩ hgo
        have hF := hin.out.done
        obtain ⟨Ar, nr, cr, hBr, hqr⟩ := HP.out
        have c2 := hBr.cell 2
        by_cases hf : fm (-1) (acc.map Wq.sw) = true
        · have hpS : Wq.pV l = some (acc.map Wq.sw, r) := by rw [pV_all, hF]; simp only; rw [if_pos hf]
          have HE := Lib.hid (g_yes (d := []) hpS)
          have HA := Lib.hid (show (acc.map Wq.sw).length = m by rw [List.length_map]; exact hacc.out)
          rw [hf] at HF
          clear hBr hqr hpS hgo hinv hcap hF hf
          go_wp2_with fail
          refine (HF.out wr (Rd.of_own HO.out)).mono ?_
          rintro e w5 ⟨rfl, hb5⟩
          have ho5 := own_below HO.out hb5 (Nat.le_refl _)
          go_wp2_with fail
          refine (endV_ok w.heap.size n (.slice A' m c') r w5 (HP.out.go hb5)).mono ?_
          rintro e w6 ⟨rfl, n6, rfl⟩
          go_wp2
          go_ret3
          obtain ⟨e1, e2, e3⟩ := HE.out
          rw [e1, e2, e3, HL.out, HA.out]
          exact ⟨A', c', rfl, own_less (own_drewN ho5 n6) (by omega), below_drewN (below_then hb (Nat.le_refl _) hb5) n6⟩
        · have hf' : fm (-1) (acc.map Wq.sw) = false := by simpa using hf
          have hpS : Wq.pV l = none := by rw [pV_all, hF]; simp only; rw [if_neg hf]
          have HE := Lib.hid (g_no (d := []) hpS)
          rw [hf'] at HF
          clear hBr hqr hpS hgo hinv hcap hF hf hf'
          go_wp2_with fail
          refine (HF.out wr (Rd.of_own HO.out)).mono ?_
          rintro e w5 ⟨rfl, hb5⟩
          go_wp2_with fail
          refine (endV_bad w.heap.size n (.slice A' m c') false (some r) w5 (HP.out.go hb5) (.inr rfl)).mono ?_
          rintro e w6 ⟨rfl, hP6, hu6⟩
          go_wp2
          go_ret3
          obtain ⟨e1, e2, e3⟩ := HE.out
          rw [e1, e2, e3]
          exact ⟨none, 0, rfl, World.ownsRow_nil _ _ _ _, below_but (below_then hb (Nat.le_refl _) hb5) hu6 (by have := hb5.size; omega) (Nat.le_refl _)⟩
end Go.Proofs.YtndlcimckfndiaaDoor

namespace Go.Proofs.YtndlcimckfndiaaDoor
open Go.RowKit
set_option maxRecDepth 100000

theorem appendVec_no (A D : Option Addr) (n c m d : Nat) (sp : List Vc.St) (w : World) (hl2 : sp.length = m) (hR2 : Rd w w.heap.size 2 D m d (sv sp)) (hf : fm (-1) sp = false) :
    Calls Tryd.prog 13 #[.slice A n c, .slice D m d] w fun e w' => e = .returned (.tuple #[.slice none 0 0, .int .i64 1]) ∧ Below w.heap.size w w' := by
  have H1 := formed_any D m d sp w hl2 hR2
  rw [hf] at H1
  have G1 := Lib.hid H1
  clear H1 hR2 hl2
  go_enter Tryd.func13, Tryd.ntmps13
  go_wp2_with fail
  refine G1.out.mono ?_
  rintro e w1 ⟨rfl, hb1⟩
  go_wp2
  go_ret2
  exact ⟨rfl, hb1⟩

theorem lV_take (sp : List Vc.St) (k : Nat) (h : k < sp.length) : Wq.lP ((sp.take (k + 1)).map Wq.sw) = Wq.lP ((sp.take k).map Wq.sw) ++ layAll [sp[k].2, sp[k].1] := by
  unfold Wq.lP
  rw [List.take_succ_eq_append_getElem h, List.map_append, List.flatMap_append]; simp [layAll, Wq.sw]
theorem fm_u63s {sp : List Vc.St} (hf : fm (-1) sp = true) (hc : Wq.cts sp) : ∀ s ∈ sp, Wq.u63 s.2 ∧ Wq.u63 s.1 := fun s hs => Wq.fm_sw hf hc (Wq.sw s) (List.mem_map_of_mem hs)

set_option maxHeartbeats 4000000 in
/-- wire.AppendVector. -/
theorem appendVec_any (A D : Option Addr) (n c m d : Nat) (l : List UInt8) (sp : List Vc.St) (w : World) (hl : l.length = n) (hR : Rd w w.heap.size 1 A n c (bv l)) (hl2 : sp.length = m) (hR2 : Rd w w.heap.size 2 D m d (sv sp)) (hf : fm (-1) sp = true) (hc : Wq.cts sp) (hn : n + 2400 ≤ 140737488355328) :
    Calls Tryd.prog 13 #[.slice A n c, .slice D m d] w fun e w' => ∃ v, e = .returned (.tuple #[v, .int .i64 0]) ∧ BytesAre w.heap.size w (l ++ Wq.lV sp) v w' := by
  have H1 := formed_any D m d sp w hl2 hR2
  rw [hf] at H1
  have G1 := Lib.hid H1
  have hm := Wq.fm_len hf
  rw [hl2] at hm
  have HU := Lib.hid (fm_u63s hf hc)
  have HL2 := Lib.hid hl2
  have HR := Lib.hid hR
  have HL := Lib.hid hl
  have hum : Wq.u63 (m : Int) := ⟨by omega, by omega⟩
  have h1max : 1 ≤ maxLen := by unfold maxLen; omega
  have h2max : 2 ≤ maxLen := by unfold maxLen; omega
  clear H1 hl2 hR hl hf
  go_enter Tryd.func13, Tryd.ntmps13
  go_wp2_with fail
  refine G1.out.mono ?_
  rintro e w1 ⟨rfl, hb1⟩
  have hs1 := hb1.size
  have hbA : Below w.heap.size w (w1.alloc (.cells #[.int .i64 m] 3)) := hb1.alloc hs1 _
  have hRn := Rd.new w1 3 1 1 #[.int .i64 m] rfl h1max
  have hRb := HR.out.go hbA
  have G2 := Lib.hid (lay_any A (some ⟨w1.heap.size, 0, none⟩) n c 1 1 l [(m : Int)] (w1.alloc (.cells #[.int .i64 m] 3)) HL.out hRb rfl (by rw [World.size_alloc]; exact hRn) (by simpa using hum) (by omega) (by omega))
  clear G1 hRn hRb hb1
  go_wp2_with fail
  refine G2.out.mono ?_
  rintro e w2 ⟨v2, rfl, A2, c2, rfl, ho2, hb2⟩
  have hbw2 := below_then hbA (Nat.le_refl _) hb2
  have HHL := Lib.hid (show (l ++ layAll [(m : Int)]).length ≤ n + 9 by
    rw [List.length_append, HL.out]
    have := layAll_len [(m : Int)] (by simpa using hum)
    simp at this; omega)
  obtain ⟨l2, hl2⟩ : ∃ l2, l2 = l ++ layAll [(m : Int)] := ⟨_, rfl⟩
  rw [← hl2] at ho2 HHL
  obtain ⟨n2, hn2⟩ : ∃ n2, n2 = l2.length := ⟨_, rfl⟩
  rw [← hn2] at ho2 HHL
  have hn2le := HHL.out
  have HL22 := Lib.hid hl2
  have HN2 := Lib.hid hn2
  rw [← hl2, ← hn2]
  clear G2 hb2 hbA hl2 hn2
  go_wp2_with fail
  go_loopw [6, 8, 19] (fun v6 _ v19 wr => ∃ (k N c' : Nat) (A' : Option Addr), v19 = .int .i64 k ∧ v6 = .slice A' N c' ∧ k ≤ m ∧ N ≤ n2 + 18 * k ∧ wr.ownsRow w.heap.size 5 1 (.slice A' N c') N (bv (l2 ++ Wq.lP ((sp.take k).map Wq.sw))) ∧ Below w.heap.size w wr ∧
    Hid ((l2 ++ Wq.lP ((sp.take k).map Wq.sw)).length = N)) (fun _ _ v19 _ => m - (intOf v19).toNat)
  case atStart => exact ⟨0, n2, c2, A2, rfl, rfl, by omega, by omega, by simpa [Wq.lP] using own_less ho2 (by simp; omega), hbw2, by show _ = _; simp [Wq.lP, HN2.out]⟩
  case round =>
    obtain ⟨k, N, c', A', rfl, rfl, hk, hN, ho, hb, hq⟩ := hrel
    have hbs := hb.size
    have HO := Lib.hid ho
    by_cases hlt : k < m
    · have hks : k < sp.length := by rw [HL2.out]; exact hlt
      obtain ⟨b, o, rfl, hab, g0, g1⟩ := hR2.stamp HL2.out hlt
      have h0 := (hb.cell (p := ⟨b, o + k * 2, none⟩) hab).trans g0
      have h1 := (hb.cell (p := ⟨b, o + k * 2 + 1, none⟩) hab).trans g1
      have HT := Lib.hid (lV_take sp k hks)
      have HUk := Lib.hid (HU.out _ (List.getElem_mem hks))
      generalize hlo : (sp[k]'hks).1 = hi at h0 g0 HT HUk
      generalize hhi : (sp[k]'hks).2 = lo at h1 g1 HT HUk
      have hbA : Below w.heap.size w ((wr.alloc (.cells #[.int .i64 hi, .int .i64 lo] 61)).alloc (.cells #[.int .i64 lo, .int .i64 hi] 3)) := (hb.alloc hbs _).alloc (by simp; omega) _
      have hRn := Rd.new (wr.alloc (.cells #[.int .i64 hi, .int .i64 lo] 61)) 3 1 2 #[.int .i64 lo, .int .i64 hi] rfl h2max
      have hRb := ((Rd.of_own ho).alloc (Nat.le_refl _) (.cells #[.int .i64 hi, .int .i64 lo] 61)).alloc (by simp) (.cells #[.int .i64 lo, .int .i64 hi] 3)
      have hu2 : ∀ x ∈ [lo, hi], Wq.u63 x := by
        intro x hx
        simp only [List.mem_cons, List.not_mem_nil, or_false] at hx
        rcases hx with rfl | rfl
        · exact HUk.out.1
        · exact HUk.out.2
      have G3 := Lib.hid (lay_any A' (some ⟨wr.heap.size + 1, 0, none⟩) N c' 2 2 (l2 ++ Wq.lP ((sp.take k).map Wq.sw)) [lo, hi] _ hq.out (hRb.more (by simp; omega)) rfl (by rw [World.size_alloc] at hRn; rw [World.size_alloc, World.size_alloc]; exact hRn) hu2 (by omega) (by omega))
      have HE := Lib.hid (layAll_len [lo, hi] hu2)
      have HBA := Lib.hid hbA
      clear hlo hhi ho hRn hRb hu2 hks hb hbA g0 g1 hR2 HUk
      go_wp2_with fail
      refine G3.out.mono ?_
      rintro e w3 ⟨v3, rfl, A3, c3, rfl, ho3, hb3⟩
      have hb4 := below_then HBA.out (Nat.le_refl _) hb3
      have e1 : l2 ++ Wq.lP ((sp.take k).map Wq.sw) ++ layAll [lo, hi] = l2 ++ Wq.lP ((sp.take (k + 1)).map Wq.sw) := by rw [HT.out, List.append_assoc]
      have hlen : (l2 ++ Wq.lP ((sp.take k).map Wq.sw) ++ layAll [lo, hi]).length ≤ N + 18 := by
        have := HE.out
        rw [List.length_append, hq.out]; simp at this; omega
      obtain ⟨N3, hN3⟩ : ∃ N3, N3 = (l2 ++ Wq.lP ((sp.take k).map Wq.sw) ++ layAll [lo, hi]).length := ⟨_, rfl⟩
      rw [← hN3] at ho3 hlen ⊢
      rw [e1] at hN3 ho3
      have HN3 := Lib.hid hN3
      clear G3 hb3 e1 hN3
      go_wp2
      go_roundw
      case rel =>
        exact ⟨k + 1, N3, c3, A3, by go_num, rfl, by omega, by omega, own_less ho3 (by simp; omega), hb4, HN3.out.symm⟩
      case measure => simp [intOf]; omega
    · obtain rfl : k = m := by omega
      clear hR2 ho
      go_wp2
      go_ret2
      have e0 : sp.take k = sp := List.take_of_length_le (by rw [HL2.out]; exact Nat.le_refl _)
      have q1 := hq.out
      have q3 := HO.out
      rw [e0, HL22.out] at q1 q3
      have e2 : l ++ layAll [(k : Int)] ++ Wq.lP (sp.map Wq.sw) = l ++ Wq.lV sp := by
        unfold Wq.lV; rw [HL2.out]; simp [layAll]
      rw [e2] at q1 q3
      exact ⟨_, rfl, A', c', by rw [q1]; rfl, by rw [q1]; exact q3, hb⟩

set_option maxHeartbeats 8000000 in
theorem refVecBytes_any (D : Option Addr) (m d : Nat) (sp : List Vc.St) (w : World) (hl2 : sp.length = m) (hR2 : Rd w w.heap.size 2 D m d (sv sp)) (hf : fm (-1) sp = true) (hc : Wq.cts sp) :
    Calls Tryd.prog 12 #[.slice D m d] w fun e w' => ∃ v, e = .returned v ∧ BytesAre w.heap.size w (Wq.lV sp) v w' := by
  obtain ⟨i0, hi0, hz0, hz1, hz2⟩ := info_parts u8_info
  have hm := Wq.fm_len hf
  rw [hl2] at hm
  have HU := Lib.hid (fm_u63s hf hc)
  have HL2 := Lib.hid hl2
  have G1 := Lib.hid (refBytes_any m w (by omega))
  obtain ⟨n2, hn2⟩ : ∃ n2, n2 = (Pk.lay m).length := ⟨_, rfl⟩
  have hn9 : n2 ≤ 9 := by rw [hn2]; exact Pk.lay_len9 (by omega)
  rw [← hn2] at G1
  have HN2 := Lib.hid hn2
  clear hl2 hf hn2
  go_enter Tryd.func12, Tryd.ntmps12
  go_wp2_with fail
  refine G1.out.mono ?_
  rintro e w1 ⟨A2, c2, rfl, ho2, hb1⟩
  clear G1
  go_wp2_with fail
  go_loopw [3, 4] (fun v6 v19 wr => ∃ (k N c' : Nat) (A' : Option Addr), v19 = .int .i64 k ∧ v6 = .slice A' N c' ∧ k ≤ m ∧ N ≤ n2 + 18 * k ∧ wr.ownsRow w.heap.size 5 1 (.slice A' N c') N (bv (Pk.lay m ++ Wq.lP ((sp.take k).map Wq.sw))) ∧ Below w.heap.size w wr ∧
    Hid ((Pk.lay m ++ Wq.lP ((sp.take k).map Wq.sw)).length = N)) (fun _ v19 _ => m - (intOf v19).toNat)
  case atStart => exact ⟨0, n2, c2, A2, rfl, rfl, by omega, by omega, by simpa [Wq.lP] using ho2, hb1, by show _ = _; simp [Wq.lP, HN2.out]⟩
  case round =>
    obtain ⟨k, N, c', A', rfl, rfl, hk, hN, ho, hb, hq⟩ := hrel
    by_cases hlt : k < m
    · have hks : k < sp.length := by rw [HL2.out]; exact hlt
      obtain ⟨b, o, rfl, hab, g0, g1⟩ := hR2.stamp HL2.out hlt
      have HT := Lib.hid (lV_take sp k hks)
      have HUk := Lib.hid (HU.out _ (List.getElem_mem hks))
      generalize (sp[k]'hks).1 = hi at g0 HT HUk
      generalize (sp[k]'hks).2 = lo at g1 HT HUk
      obtain ⟨x, hx⟩ : ∃ x : Nat, lo = (x : Int) := ⟨lo.toNat, by have := HUk.out.1.1; omega⟩
      obtain ⟨y, hy⟩ : ∃ y : Nat, hi = (y : Int) := ⟨hi.toNat, by have := HUk.out.2.1; omega⟩
      subst hx hy
      have hx9 := u63_len HUk.out.1
      have hy9 := u63_len HUk.out.2
      rw [Int.toNat_natCast] at hx9 hy9
      have G2 := Lib.hid fun W => refBytes_any x W (by have := HUk.out.1.2; omega)
      have G3 := Lib.hid fun W => refBytes_any y W (by have := HUk.out.2.2; omega)
      obtain ⟨lx, hlx⟩ : ∃ lx, lx = (Pk.lay x).length := ⟨_, rfl⟩
      obtain ⟨ly, hly⟩ : ∃ ly, ly = (Pk.lay y).length := ⟨_, rfl⟩
      rw [← hlx] at G2 hx9
      rw [← hly] at G3 hy9
      have HLX := Lib.hid hlx
      have HLY := Lib.hid hly
      have HS := Lib.hid fun W (hb : Below w.heap.size w W) => (show (W.cell? ⟨b, o + k * 2, none⟩ = some (.int .i64 (y : Int)) ∧ W.cell? ⟨b, o + k * 2 + 1, none⟩ = some (.int .i64 (x : Int))) from
        ⟨(hb.cell (p := ⟨b, o + k * 2, none⟩) hab).trans g0, (hb.cell (p := ⟨b, o + k * 2 + 1, none⟩) hab).trans g1⟩)
      obtain ⟨l2, hl2⟩ : ∃ l2, l2 = Pk.lay m ++ Wq.lP ((sp.take k).map Wq.sw) := ⟨_, rfl⟩
      rw [← hl2] at ho hq
      have HL := Lib.hid hl2
      have E := Lib.hid (show wr.drew.ownsRow w.heap.size 5 1 (.slice A' N c') N (bv l2) from ho)
      have kw : Below w.heap.size w wr.drew := hb.drew
      have h63 : N + lx ≤ maxLen := by unfold maxLen; omega
      have h63b : N + lx + ly ≤ maxLen := by unfold maxLen; omega
      clear ho hb hlx hly hks g0 g1 hl2 hR2
      go_wp2_with fail
      refine region_nrm fun KK hKK => ?_
      refine wp_region_held_drew (S := (fun W => W.cell? ⟨b, o + k * 2, none⟩ = some (.int .i64 (y : Int)) ∧ W.cell? ⟨b, o + k * 2 + 1, none⟩ = some (.int .i64 (x : Int)))) (by kernel_rfl) (by first | exact HS.out _ kw) (fun hHeld => ?_)
      refine wpAnyH_putD (i := 0) (d := 14) (v := ?_) rfl rfl (by kernel_rfl) (by kernel_rfl) (by kernel_rfl) (fun _ _ _ h => h) (Or.inl ⟨by kernel_rfl, ?_⟩) (by first | exact HS.out _ kw) ?_
      rotate_left
      · (intro w hS; (try dsimp only at hS); go_simp <;> with_reducible rfl)
      try simp only [List.setIfInBounds_toArray, List.set_cons_zero, List.set_cons_succ]
      refine wpAnyH_putD (i := 1) (d := 15) (v := ?_) rfl rfl (by kernel_rfl) (by kernel_rfl) (by kernel_rfl) (fun _ _ _ h => h) (Or.inl ⟨by kernel_rfl, ?_⟩) (by first | exact HS.out _ kw) ?_
      rotate_left
      · (intro w hS; (try dsimp only at hS); go_simp <;> with_reducible rfl)
      try simp only [List.setIfInBounds_toArray, List.set_cons_zero, List.set_cons_succ]
      refine wpAnyH_putD (i := 2) (d := 16) (v := ?_) rfl rfl (by kernel_rfl) (by kernel_rfl) (by kernel_rfl) (fun _ _ _ h => h) (Or.inl ⟨by kernel_rfl, ?_⟩) (by first | exact HS.out _ kw) ?_
      rotate_left
      · (intro w hS; (try dsimp only at hS); go_simp <;> with_reducible rfl)
      try simp only [List.setIfInBounds_toArray, List.set_cons_zero, List.set_cons_succ]
      refine wpAnyH_putD (i := 3) (d := 17) (v := ?_) rfl rfl (by kernel_rfl) (by kernel_rfl) (by kernel_rfl) (fun _ _ _ h => h) (Or.inl ⟨by kernel_rfl, ?_⟩) (by first | exact HS.out _ kw) ?_
      rotate_left
      · (intro w hS; (try dsimp only at hS); go_simp <;> with_reducible rfl)
      try simp only [List.setIfInBounds_toArray, List.set_cons_zero, List.set_cons_succ]
      refine wpAnyH_putD (i := 4) (d := 18) (v := ?_) rfl rfl (by kernel_rfl) (by kernel_rfl) (by kernel_rfl) (fun _ _ _ h => h) (Or.inl ⟨by kernel_rfl, ?_⟩) (by first | exact HS.out _ kw) ?_
      rotate_left
      · (intro w hS; (try dsimp only at hS); go_simp <;> with_reducible rfl)
      try simp only [List.setIfInBounds_toArray, List.set_cons_zero, List.set_cons_succ]
      refine wpAnyH_putD (i := 5) (d := 19) (v := ?_) rfl rfl (by kernel_rfl) (by kernel_rfl) (by kernel_rfl) (fun _ _ _ h => h) (Or.inl ⟨by kernel_rfl, ?_⟩) (by first | exact HS.out _ kw) ?_
      rotate_left
      · (intro w hS; (try dsimp only at hS); go_simp <;> with_reducible rfl)
      try simp only [List.setIfInBounds_toArray, List.set_cons_zero, List.set_cons_succ]
      refine wpAnyH_putD (i := 8) (d := 22) (v := ?_) rfl rfl (by kernel_rfl) (by kernel_rfl) (by kernel_rfl) (fun _ _ _ h => h) (Or.inl ⟨by kernel_rfl, ?_⟩) (by first | exact HS.out _ kw) ?_
      rotate_left
      · (intro w hS; (try dsimp only at hS); go_simp <;> with_reducible rfl)
      try simp only [List.setIfInBounds_toArray, List.set_cons_zero, List.set_cons_succ]
      refine wpAnyH_putD (i := 9) (d := 23) (v := ?_) rfl rfl (by kernel_rfl) (by kernel_rfl) (by kernel_rfl) (fun _ _ _ h => h) (Or.inl ⟨by kernel_rfl, ?_⟩) (by first | exact HS.out _ kw) ?_
      rotate_left
      · (intro w hS; (try dsimp only at hS); go_simp <;> with_reducible rfl)
      try simp only [List.setIfInBounds_toArray, List.set_cons_zero, List.set_cons_succ]
      refine wpAnyH_putD (i := 10) (d := 24) (v := ?_) rfl rfl (by kernel_rfl) (by kernel_rfl) (by kernel_rfl) (fun _ _ _ h => h) (Or.inl ⟨by kernel_rfl, ?_⟩) (by first | exact HS.out _ kw) ?_
      rotate_left
      · (intro w hS; (try dsimp only at hS); go_simp <;> with_reducible rfl)
      try simp only [List.setIfInBounds_toArray, List.set_cons_zero, List.set_cons_succ]
      refine wpAnyH_putD (i := 11) (d := 25) (v := ?_) rfl rfl (by kernel_rfl) (by kernel_rfl) (by kernel_rfl) (fun _ _ _ h => h) (Or.inl ⟨by kernel_rfl, ?_⟩) (by first | exact HS.out _ kw) ?_
      rotate_left
      · (intro w hS; (try dsimp only at hS); go_simp <;> with_reducible rfl)
      try simp only [List.setIfInBounds_toArray, List.set_cons_zero, List.set_cons_succ]
      refine wpAnyH_putD (i := 12) (d := 26) (v := ?_) rfl rfl (by kernel_rfl) (by kernel_rfl) (by kernel_rfl) (fun _ _ _ h => h) (Or.inl ⟨by kernel_rfl, ?_⟩) (by first | exact HS.out _ kw) ?_
      rotate_left
      · (intro w hS; (try dsimp only at hS); go_simp <;> with_reducible rfl)
      try simp only [List.setIfInBounds_toArray, List.set_cons_zero, List.set_cons_succ]
      refine wpAnyH_ready (rs := [6]) (by kernel_rfl) (by simp) ?_
      refine AllReadyH.cons rfl (fun K hK => ?_) AllReadyH.nil
      go_simp
      refine (G2.out _).mono ?_
      rintro e W1 ⟨D1, d1, rfl, ho1, hb'⟩
      have C := Lib.hid ho1
      have E := Lib.hid (own_below E.out hb' (Nat.le_refl _))
      have kw := below_then kw (Nat.le_refl _) hb'
      clear ho1 hb'
      refine hK.out _ _ (by first | exact HS.out _ kw) (fun hHeld => ?_)
      clear hK K
      refine wpAnyH_ready (rs := [7]) (by kernel_rfl) (by simp) ?_
      refine AllReadyH.cons rfl (fun K hK => ?_) AllReadyH.nil
      rw [if_pos (by kernel_rfl)]
      refine wp_append_rd _ (.tmp 14) (.tmp 20) _ rfl w.heap.size 5 i0 _ 1 1 Tryd.underlying23 hi0 hz0 hz1 hz2 rfl (by decide) _ N (bv l2) rfl E.out _ D1 lx d1 (bv (Pk.lay x)) rfl (Rd.of_own C.out) (bv_oneCell _) h63 (by omega) kw.size ?_
      intro A14 c14 V14 ho hg hat
      have kw := kw.trans (grown_below hg kw.size (fun g hg' => (E.out.lt g hg').1))
      have E := Lib.hid ho
      clear ho hg hat C
      refine hK.out _ _ (by first | exact HS.out _ kw) (fun hHeld => ?_)
      clear hK K
      refine wpAnyH_ready (rs := [13]) (by kernel_rfl) (by simp) ?_
      refine AllReadyH.cons rfl (fun K hK => ?_) AllReadyH.nil
      go_simp
      refine (G3.out _).mono ?_
      rintro e W2 ⟨D2, d2, rfl, ho1, hb'⟩
      have C := Lib.hid ho1
      have E := Lib.hid (own_below E.out hb' (Nat.le_refl _))
      have kw := below_then kw (Nat.le_refl _) hb'
      clear ho1 hb'
      refine hK.out _ _ (by first | exact HS.out _ kw) (fun hHeld => ?_)
      clear hK K
      refine wpAnyH_ready (rs := [14]) (by kernel_rfl) (by simp) ?_
      refine AllReadyH.cons rfl (fun K hK => ?_) AllReadyH.nil
      rw [if_pos (by kernel_rfl)]
      refine wp_append_rd _ (.tmp 21) (.tmp 27) _ rfl w.heap.size 5 i0 _ 1 1 Tryd.underlying23 hi0 hz0 hz1 hz2 rfl (by decide) _ (N + lx) (bv l2 ++ bv (Pk.lay x)) rfl E.out _ D2 ly d2 (bv (Pk.lay y)) rfl (Rd.of_own C.out) (bv_oneCell _) h63b (by omega) kw.size ?_
      intro A21 c21 V21 ho hg hat
      have kw := kw.trans (grown_below hg kw.size (fun g hg' => (E.out.lt g hg').1))
      have E := Lib.hid ho
      clear ho hg hat C
      refine hK.out _ _ (by first | exact HS.out _ kw) (fun hHeld => ?_)
      clear hK K
      refine wpAnyH_putD (i := 15) (d := 3) (v := ?_) rfl rfl (by kernel_rfl) (by kernel_rfl) (by kernel_rfl) (fun _ _ _ h => h) (Or.inl ⟨by kernel_rfl, ?_⟩) (by first | exact HS.out _ kw) ?_
      rotate_left
      · (intro w hS; (try dsimp only at hS); go_simp <;> with_reducible rfl)
      try simp only [List.setIfInBounds_toArray, List.set_cons_zero, List.set_cons_succ]
      refine wpAnyH_done (by kernel_rfl) ?_ _
      refine Nrm.out (hKK _ _ ?_)
      go_wp2
      go_roundw
      case rel =>
        have e3 : Pk.lay m ++ Wq.lP ((sp.take (k + 1)).map Wq.sw) = l2 ++ Pk.lay x ++ Pk.lay y := by rw [HT.out, HL.out]; simp [layAll]
        refine ⟨k + 1, N + lx + ly, c21, A21, by go_num, rfl, by omega, by omega, ?_, kw, ?_⟩
        · rw [e3, bv_app, bv_app]; exact E.out
        · show _ = _
          rw [e3, List.length_append, List.length_append, hq.out, HLX.out, HLY.out]
      case measure => simp [intOf]; omega
    · obtain rfl : k = m := by omega
      have HO := Lib.hid ho
      clear hR2 ho
      go_wp2
      go_ret
      have e0 : sp.take k = sp := List.take_of_length_le (by rw [HL2.out]; exact Nat.le_refl _)
      have q1 := hq.out
      have q3 := HO.out
      rw [e0] at q1 q3
      have e2 : Pk.lay k ++ Wq.lP (sp.map Wq.sw) = Wq.lV sp := by unfold Wq.lV; rw [HL2.out]
      rw [e2] at q1 q3
      exact ⟨_, rfl, A', c', by rw [q1]; rfl, by rw [q1]; exact q3, hb⟩
end Go.Proofs.YtndlcimckfndiaaDoor

namespace Go.Proofs.YtndlcimckfndiaaDoor
open Go.RowKit
set_option maxRecDepth 100000

theorem vecS_of {s : Option (List UInt8)} : Wq.st Wq.pV s = match all2S s with | none => none | some (v, q) => if fm (-1) (v.map Wq.sw) = true then some q else none := by
  cases s with
  | none => rfl
  | some l =>
    have e : all2S (some l) = all2 l := rfl
    rw [e]
    unfold Wq.st
    simp only
    rw [pV_all]
    rcases all2 l with _ | ⟨v, q⟩
    · rfl
    · simp only
      by_cases hf : fm (-1) (v.map Wq.sw) = true
      · rw [if_pos hf, if_pos hf]
      · rw [if_neg hf, if_neg hf]
theorem vecVS_of {s : Option (List UInt8)} {v : List (Int × Int)} {q : List UInt8} (h : all2S s = some (v, q)) (hf : fm (-1) (v.map Wq.sw) = true) : Wq.vl Wq.pV [] s = v.map Wq.sw := by
  cases s with
  | none => cases h
  | some l =>
    have h' : all2 l = some (v, q) := h
    show gV Wq.pV [] l = _
    unfold gV
    rw [pV_all, h']
    simp only
    rw [if_pos hf]
set_option maxHeartbeats 4000000 in
/-- The document's next vector. -/
theorem refRdVec_any (g : Nat) (L : List UInt8) (s0 : Option (List UInt8)) (w : World) (h : RR w g L s0) (hn : L.length ≤ 4294967296) :
    Calls Tryd.prog 14 #[.pointer (some ⟨g, 0, none⟩)] w fun e w' => ∃ v A' c', e = .returned (.slice A' v.length c') ∧
      w'.ownsRow w.heap.size 61 2 (.slice A' v.length c') v.length (sv v) ∧ RR w' g L (Wq.st Wq.pV s0) ∧ But g w w' ∧ (∀ q, Wq.st Wq.pV s0 = some q → v = Wq.vl Wq.pV [] s0) := by
  obtain ⟨i0, hi0, hz0, hz1, hz2⟩ := info_parts stamp_info
  have hlt0 := h.lt
  have HC0 : Cap2 0 s0 L.length := by
    cases s0 with
    | none => show 0 ≤ _; omega
    | some l => obtain ⟨A, n, c, _, _, _, _, hle⟩ := h; show 0 + l.length ≤ _; omega
  have hcap := Lib.hid (numS_cap HC0)
  have hinv := Lib.hid (Inv2.startS s0)
  have hk0 := numV_lt s0
  obtain ⟨k0, hk0e⟩ : ∃ k0, k0 = numV s0 := ⟨_, rfl⟩
  have H1 := Lib.hid fun (W : World) (s : Option (List UInt8)) (h : RR W g L s) => refRdNum_any g L s W h
  have H10 := H1.out w s0 h
  rw [← hk0e] at H10 hk0 hinv
  have H0 := Lib.hid H10
  obtain ⟨N, hN⟩ : ∃ N, N = L.length := ⟨_, rfl⟩
  rw [← hN] at hn hcap
  clear H10 hk0e h HC0 hN
  go_enter Tryd.func14, Tryd.ntmps14
  go_wp2_with fail
  refine H0.out.mono ?_
  rintro e w1 ⟨rfl, hP1, hu1⟩
  have hs1 := hu1.size
  clear H0
  go_wp2_with fail
  go_loopw [3, 4, 5] (fun v6 v7 _ wr => ∃ (k m c' : Nat) (A' : Option Addr) (s : Option (List UInt8)) (acc : List (Int × Int)), v7 = .int .i64 k ∧ v6 = .slice A' m c' ∧ k ≤ k0 ∧ RR wr g L s ∧ But g w wr ∧
    wr.ownsRow w.heap.size 61 2 (.slice A' m c') m (sv (acc.map Wq.sw)) ∧ Hid (acc.length = m) ∧ Hid (Cap2 m s N) ∧ Hid (Inv2 k s acc (all2S s0))) (fun _ v7 _ _ => (intOf v7).toNat)
  case atStart => exact ⟨k0, 0, 0, none, _, [], rfl, rfl, Nat.le_refl _, hP1, hu1, World.ownsRow_nil _ _ _ _, rfl, hcap, hinv⟩
  case round =>
    obtain ⟨k, m, c', A', s, acc, rfl, rfl, hk, hP, hb, ho, hacc, hca, hin⟩ := hrel
    have hlt := hP.lt
    have HP := Lib.hid hP
    have HO := Lib.hid ho
    have hbs := hb.size
    clear hP ho
    by_cases hgo : 0 < k ∧ s ≠ none
    · obtain ⟨hk1, hs⟩ := hgo
      obtain ⟨l1, rfl⟩ : ∃ l1, s = some l1 := by
        cases s with
        | none => exact absurd rfl hs
        | some l1 => exact ⟨l1, rfl⟩
      obtain ⟨Ar, nr, cr, hBr, hqr⟩ := HP.out
      have c2 := hBr.cell 2
      clear hBr hs hqr
      obtain ⟨lo, hlo⟩ : ∃ lo, lo = numV (some l1) := ⟨_, rfl⟩
      obtain ⟨s1, hs1⟩ : ∃ s1, s1 = numS (some l1) := ⟨_, rfl⟩
      obtain ⟨hi, hhi⟩ : ∃ hi, hi = numV s1 := ⟨_, rfl⟩
      obtain ⟨s2, hs2⟩ : ∃ s2, s2 = numS s1 := ⟨_, rfl⟩
      have hcap1 : m + l1.length ≤ N := hca.out
      have HIN := Lib.hid (show Inv2 (k - 1) s2 (acc ++ [((lo : Int), (hi : Int))]) (all2S s0) by
        have h := hin.out
        rw [show k = (k - 1) + 1 by omega] at h
        rw [hs2, hlo, hhi, hs1]
        exact h.next)
      have HCA := Lib.hid (show Cap2 (m + 1) s2 N by rw [hs2]; exact numS_cap (by rw [hs1]; exact numS_cap1 hca.out))
      have C1 := H1.out wr (some l1) HP.out
      rw [← hlo, ← hs1] at C1
      have G1 := Lib.hid C1
      have G2 := Lib.hid fun (W : World) (h : RR W g L s1) => H1.out W s1 h
      rw [← hhi, ← hs2] at G2
      have h63 : m + 1 ≤ maxLen := by unfold maxLen; omega
      have h1max : 1 ≤ maxLen := by unfold maxLen; omega
      have hm32 : m ≤ 4294967296 := by omega
      clear C1 hlo hs1 hhi hs2 hin hca hcap1
      go_wp2_with fail
      refine G1.out.mono ?_
      rintro e w2 ⟨rfl, hP2, hu2⟩
      have hs2 := hu2.size
      have hx2 := Blk.new w2 61 #[.int .i64 0, .int .i64 (lo : Int)]
      have hb2 : Below w2.heap.size w2 (w2.alloc (.cells #[.int .i64 0, .int .i64 (lo : Int)] 61)) := (Below.refl _ _).alloc (Nat.le_refl _) _
      go_wp2_with fail
      refine (G2.out _ (hP2.go hb2)).mono ?_
      rintro e w3 ⟨rfl, hP3, hu3⟩
      have hs3 := hu3.size
      rw [World.size_alloc] at hs3
      have hne : (Value.slice A' m c').ownBlock ≠ some w2.heap.size := fun e => by have := (HO.out.lt _ e).2; omega
      have hx3 := hx2.but hu3 (by omega)
      have ho3 := own_butN (own_but ((own_but HO.out hu2 (by omega)).alloc (.cells #[.int .i64 0, .int .i64 (lo : Int)] 61)) hu3 (by omega)) (But.set_ (g := w2.heap.size) w3 (p := ⟨w2.heap.size, 0, none⟩) rfl (.int .i64 hi)) hne
      have hb3 : But g w w3 := ((hb.trans hu2).trans (But.of hb2)).trans hu3
      have hP4 : RR (w3.setCell ⟨w2.heap.size, 0, none⟩ (.int .i64 hi)) g L s2 := hP3.but (But.set_ (g := w2.heap.size) w3 (p := ⟨w2.heap.size, 0, none⟩) rfl (.int .i64 hi)) (by omega)
      have hb4 : Below w.heap.size w3 (w3.setCell ⟨w2.heap.size, 0, none⟩ (.int .i64 hi)) := (Below.refl _ _).setCell (p := ⟨w2.heap.size, 0, none⟩) (by show _ ≤ w2.heap.size; omega) _
      have d0 := hx3.cell 0
      have d1 := hx3.cell 1
      have d2 := hx3.frozen 0
      have HX3 := Lib.hid hx3
      clear hx2 hb2 hu2 hu3 hP2 hP3 HO HP hb hx3 c2 G1 G2
      go_wp2_with (at_builtin; go_must (refine wpList_append_rd _ rfl (.tmp 25) (.tmp 27) _ rfl w.heap.size 61 i0 _ 2 16 Tryd.underlying22 hi0 hz0 hz1 hz2 rfl (by decide) (.slice A' m c') m _ rfl (ho3.alloc _) _ (some ⟨w3.heap.size, 0, none⟩) 1 1 [.int .i64 (hi : Int), .int .i64 (lo : Int)] rfl (by have := Rd.new (w3.setCell ⟨w2.heap.size, 0, none⟩ (.int .i64 hi)) 61 2 1 #[.int .i64 (hi : Int), .int .i64 (lo : Int)] rfl h1max; simpa using this) (sv_oneCell [((hi : Int), (lo : Int))]) h63 (by omega) (by simp; omega) ?_); intro A3 c3 w4 ho4 hg4 hat4)
      have hbg : Below w.heap.size (w3.setCell ⟨w2.heap.size, 0, none⟩ (.int .i64 hi)) w4 := ((Below.refl _ _).alloc (by simp; omega) _).trans (grown_below hg4 (by simp; omega) (fun g hg => own_lt ho3 g hg))
      go_roundw
      case rel =>
        exact ⟨k - 1, m + 1, c3, A3, s2, acc ++ [((lo : Int), (hi : Int))], by rw [show ((k : Int) - 1) = ((k - 1 : Nat) : Int) by omega], rfl, by omega, hP4.below hbg (by omega), hb3.below (hb4.trans hbg),
          by rw [List.map_append, sv_app]; exact ho4, by show _ = _; rw [List.length_append, hacc.out]; rfl, HCA, HIN⟩
      case measure => simp [intOf]; omega
    · have HF := Lib.hid fun (W : World) (hR : Rd W W.heap.size 2 A' m c' (sv (acc.map Wq.sw))) => refFormed_any A' m c' (acc.map Wq.sw) W (by rw [List.length_map]; exact hacc.out) hR
      have HA := Lib.hid (show (acc.map Wq.sw).length = m by rw [List.length_map]; exact hacc.out)
      rcases s with _ | r
      · have hpS : Wq.st Wq.pV s0 = none := by
          have h : all2S s0 = none := hin.out
          rw [vecS_of, h]
        have HE := Lib.hid hpS
        obtain ⟨Ar, nr, cr, kr, hBr⟩ := HP.out
        have c2 := hBr.cell 2
        have f2 := hBr.frozen 2
        have HB := Lib.hid hBr
        clear hBr hpS hgo hinv hcap
        by_cases hk0 : 0 < k
        all_goals
          go_wp2
          go_ret
          have hu := But.set_ (g := g) wr (p := ⟨g, 2, none⟩) rfl (.bool true)
          refine ⟨acc.map Wq.sw, A', c', by rw [HA.out]; rfl, by rw [HA.out]; exact own_but HO.out hu (by omega), ?_, hb.trans hu, fun q hq => by rw [HE.out] at hq; cases hq⟩
          rw [HE.out]
          exact ⟨Ar, nr, cr, kr, HB.out.set_ 2 (.bool true)⟩
      · obtain rfl : k = 0 := by
          rcases Nat.eq_zero_or_pos k with h | h
          · exact h
          · exact absurd ⟨h, by simp⟩ hgo
        have hF := hin.out.done
        obtain ⟨Ar, nr, cr, hBr, hqr⟩ := HP.out
        have HQ := Lib.hid hqr
        have c2 := hBr.cell 2
        by_cases hf : fm (-1) (acc.map Wq.sw) = true
        · have hpS : Wq.st Wq.pV s0 = some r := by rw [vecS_of, hF]; simp only; rw [if_pos hf]
          have HE := Lib.hid hpS
          have HV := Lib.hid (vecVS_of hF hf)
          rw [hf] at HF
          have HB := Lib.hid hBr
          clear hBr hqr hpS hgo hinv hcap hF hf
          go_wp2_with fail
          refine (HF.out wr (Rd.of_own HO.out)).mono ?_
          rintro e w5 ⟨rfl, hb5⟩
          have ho5 := own_below HO.out hb5 (Nat.le_refl _)
          have hB5 := HB.out.go hb5
          have f2 := hB5.frozen 2
          have d2 := hB5.cell 2
          have hP5 := HP.out.go hb5
          have hb6 := hb.below (hb5.mono hbs)
          have HB5 := Lib.hid hB5
          clear HB c2 hB5
          go_wp2
          go_ret
          have hu := But.set_ (g := g) w5 (p := ⟨g, 2, none⟩) rfl (.bool false)
          refine ⟨acc.map Wq.sw, A', c', by rw [HA.out]; rfl, by rw [HA.out]; exact own_but ho5 hu (by omega), ?_, hb6.trans hu, fun q hq => HV.out.symm⟩
          rw [HE.out]
          obtain ⟨q1, q2, q3, q4⟩ := HQ.out
          exact ⟨Ar, nr, cr, HB5.out.set_ 2 (.bool false), (q1.below (hb5.mono (by omega))).but hu (by have := hb5.size; omega) (Nat.le_refl _), q2, q3, q4⟩
        · have hf' : fm (-1) (acc.map Wq.sw) = false := by simpa using hf
          have hpS : Wq.st Wq.pV s0 = none := by rw [vecS_of, hF]; simp only; rw [if_neg hf]
          have HE := Lib.hid hpS
          rw [hf'] at HF
          have HB := Lib.hid hBr
          clear hBr hqr hpS hgo hinv hcap hF hf hf'
          go_wp2_with fail
          refine (HF.out wr (Rd.of_own HO.out)).mono ?_
          rintro e w5 ⟨rfl, hb5⟩
          have ho5 := own_below HO.out hb5 (Nat.le_refl _)
          have hB5 := HB.out.go hb5
          have f2 := hB5.frozen 2
          have d2 := hB5.cell 2
          have hb6 := hb.below (hb5.mono hbs)
          have HB5 := Lib.hid hB5
          clear HB c2 hB5
          go_wp2
          go_ret
          have hu := But.set_ (g := g) w5 (p := ⟨g, 2, none⟩) rfl (.bool true)
          refine ⟨acc.map Wq.sw, A', c', by rw [HA.out]; rfl, by rw [HA.out]; exact own_but ho5 hu (by omega), ?_, hb6.trans hu, fun q hq => by rw [HE.out] at hq; cases hq⟩
          rw [HE.out]
          exact ⟨Ar, nr, cr, _, HB5.out.set_ 2 (.bool true)⟩
end Go.Proofs.YtndlcimckfndiaaDoor

namespace Go.Proofs.YtndlcimckfndiaaDoor
open Go.RowKit
set_option maxRecDepth 100000

theorem drop_back {l x r : List UInt8} (h : l = x ++ r) : l.drop (l.length - r.length) = r ∧ r.length ≤ l.length := by
  subst h
  exact ⟨by simp, by simp⟩
theorem gS_some {α : Type} {p : List UInt8 → Option (α × List UInt8)} {l r : List UInt8} {v : α} (h : p l = some (v, r)) : Wq.st p (some l) = some r := by unfold Wq.st; simp only [h]
theorem gS_no {α : Type} {p : List UInt8 → Option (α × List UInt8)} {l : List UInt8} (h : p l = none) : Wq.st p (some l) = none := by unfold Wq.st; simp only [h]

theorem wireSet_g (A : Option Addr) (n c : Nat) (l : List UInt8) (w : World) (hl : l.length = n) (hR : Rd w w.heap.size 1 A n c (bv l)) (hn : n ≤ 4294967296) :
    Calls Tryd.prog 23 #[.slice A n c] w fun e w' => ∃ A' c', e = .returned (.tuple #[.slice A' (gV Wq.pS [] l).length c', .int .i64 (gK Wq.pS l), .int .i64 (gE Wq.pS l)]) ∧
      w'.ownsRow w.heap.size 97 2 (.slice A' (gV Wq.pS [] l).length c') (gV Wq.pS [] l).length (sv (gV Wq.pS [] l)) ∧ Below w.heap.size w w' := by
  have h := wireSet_any A n c l w hl hR hn
  have e1 : setV l = gV Wq.pS [] l := by unfold setV gV; rcases Wq.pS l with _ | ⟨_, _⟩ <;> rfl
  have e2 : setK l = gK Wq.pS l := by unfold setK gK; rcases Wq.pS l with _ | ⟨_, _⟩ <;> rfl
  have e3 : setE l = gE Wq.pS l := by unfold setE gE; rcases Wq.pS l with _ | ⟨_, _⟩ <;> rfl
  rw [e1, e2, e3] at h
  exact h


set_option maxHeartbeats 2000000 in
theorem partVec_any (g T : Nat) (s : Option (List UInt8)) (w : World) (h : PR w g T s) (hT32 : T ≤ 4294967296) :
    Calls Tryd.prog 62 #[.pointer (some ⟨g, 0, none⟩), .func (.func 15) #[] #[]] w fun e w' => ∃ A' c', e = .returned (.slice A' (Wq.vl Wq.pV [] s).length c') ∧
      w'.ownsRow w.heap.size 61 2 (.slice A' (Wq.vl Wq.pV [] s).length c') (Wq.vl Wq.pV [] s).length (sv (Wq.vl Wq.pV [] s)) ∧ PR w' g T (Wq.st Wq.pV s) ∧ But g w w' := by
  rcases s with _ | l
  · have h' := h
    obtain ⟨A, n, c, k, hB⟩ := h
    have c2 := hB.cell 2
    have H := Lib.hid h'
    clear hB h'
    go_enter Tryd.func62, Tryd.ntmps62
    go_wp2
    go_ret
    exact ⟨none, 0, rfl, World.ownsRow_nil _ _ _ _, H.out, But.refl _ _⟩
  · obtain ⟨A, n, c, hB, hR, hl, hT, hm⟩ := h
    have H1 := wireVec_any A n c l w hl (hR.more (Nat.le_of_lt hB.lt)) (by omega)
    have c0 := hB.cell 0
    have c2 := hB.cell 2
    have hlt := hB.lt
    unfold maxLen at hm
    have hgv : Wq.vl Wq.pV [] (some l) = gV Wq.pV [] l := rfl
    rw [hgv]
    rcases hp : Wq.pV l with _ | ⟨v, r⟩
    · obtain ⟨e1, e2, e3⟩ := g_no (d := []) hp
      rw [e1, e2, e3] at H1
      rw [e1, gS_no hp]
      have G1 := Lib.hid H1
      have G2 := Lib.hid fun (W : World) hB => took_bad g (.slice A n c) (.int .i64 ((T - l.length : Nat) : Int)) 0 4 W hB (by omega)
      have HB := Lib.hid hB
      clear H1 hR hl hp hB e1 e2 e3 hgv
      go_enter Tryd.func62, Tryd.ntmps62
      go_wp2_with fail
      refine G1.out.mono ?_
      rintro e w1 ⟨A1, c1, rfl, ho1, hb1⟩
      have hB1 := HB.out.go hb1
      clear c0 c2
      go_wp2_with fail
      refine (G2.out w1 hB1).mono ?_
      rintro e w2 ⟨rfl, hB2, hu2⟩
      go_wp2
      go_ret
      exact ⟨A1, c1, rfl, own_but ho1 hu2 hlt, ⟨_, _, _, _, hB2⟩, (But.of hb1).trans hu2⟩
    · obtain ⟨e1, e2, e3⟩ := g_yes (d := []) hp
      obtain ⟨d1, d2⟩ := drop_back (Wq.pV_back hp).1
      rw [e1, e2, e3] at H1
      rw [e1, gS_some hp]
      obtain ⟨k, hk⟩ : ∃ k, k = l.length - r.length := ⟨_, rfl⟩
      rw [← hk] at H1 d1
      have G1 := Lib.hid H1
      have G2 := Lib.hid fun (W : World) hB => took_ok g k n c A ((T - l.length : Nat) : Int) W hB (by omega) (by omega) (by omega)
      have HB := Lib.hid hB
      have HR := Lib.hid (hR.from_ (k := k) (by omega))
      have HE := Lib.hid (show (((T - l.length : Nat) : Int) + k) = ((T - r.length : Nat) : Int) by omega)
      have HD := Lib.hid d1
      have hrl : r.length = n - k := by omega
      have hrt : r.length ≤ T := by omega
      clear H1 hR hl hp hB e1 e2 e3 hgv d1 hk
      go_enter Tryd.func62, Tryd.ntmps62
      go_wp2_with fail
      refine G1.out.mono ?_
      rintro e w1 ⟨A1, c1, rfl, ho1, hb1⟩
      have hB1 := HB.out.go hb1
      have hs1 := hb1.size
      clear c0 c2
      go_wp2_with fail
      refine (G2.out w1 hB1).mono ?_
      rintro e w2 ⟨rfl, hB2, hu2⟩
      go_wp2
      go_ret
      have h2 := HR.out
      rw [Nat.mul_one, ← bv_drop, HD.out] at h2
      rw [HE.out] at hB2
      exact ⟨A1, c1, rfl, own_but ho1 hu2 hlt, ⟨_, _, _, hB2, ((h2.below (hb1.mono (Nat.le_of_lt hlt))).but hu2 (by omega) (Nat.le_refl _)), hrl, hrt, by unfold maxLen; exact hm⟩, (But.of hb1).trans hu2⟩

set_option maxHeartbeats 2000000 in
theorem partSet_any (g T : Nat) (s : Option (List UInt8)) (w : World) (h : PR w g T s) (hT32 : T ≤ 4294967296) :
    Calls Tryd.prog 63 #[.pointer (some ⟨g, 0, none⟩), .func (.func 23) #[] #[]] w fun e w' => ∃ A' c', e = .returned (.slice A' (Wq.vl Wq.pS [] s).length c') ∧
      w'.ownsRow w.heap.size 97 2 (.slice A' (Wq.vl Wq.pS [] s).length c') (Wq.vl Wq.pS [] s).length (sv (Wq.vl Wq.pS [] s)) ∧ PR w' g T (Wq.st Wq.pS s) ∧ But g w w' := by
  rcases s with _ | l
  · have h' := h
    obtain ⟨A, n, c, k, hB⟩ := h
    have c2 := hB.cell 2
    have H := Lib.hid h'
    clear hB h'
    go_enter Tryd.func63, Tryd.ntmps63
    go_wp2
    go_ret
    exact ⟨none, 0, rfl, World.ownsRow_nil _ _ _ _, H.out, But.refl _ _⟩
  · obtain ⟨A, n, c, hB, hR, hl, hT, hm⟩ := h
    have H1 := wireSet_g A n c l w hl (hR.more (Nat.le_of_lt hB.lt)) (by omega)
    have c0 := hB.cell 0
    have c2 := hB.cell 2
    have hlt := hB.lt
    unfold maxLen at hm
    have hgv : Wq.vl Wq.pS [] (some l) = gV Wq.pS [] l := rfl
    rw [hgv]
    rcases hp : Wq.pS l with _ | ⟨v, r⟩
    · obtain ⟨e1, e2, e3⟩ := g_no (d := []) hp
      rw [e1, e2, e3] at H1
      rw [e1, gS_no hp]
      have G1 := Lib.hid H1
      have G2 := Lib.hid fun (W : World) hB => took_bad g (.slice A n c) (.int .i64 ((T - l.length : Nat) : Int)) 0 4 W hB (by omega)
      have HB := Lib.hid hB
      clear H1 hR hl hp hB e1 e2 e3 hgv
      go_enter Tryd.func63, Tryd.ntmps63
      go_wp2_with fail
      refine G1.out.mono ?_
      rintro e w1 ⟨A1, c1, rfl, ho1, hb1⟩
      have hB1 := HB.out.go hb1
      clear c0 c2
      go_wp2_with fail
      refine (G2.out w1 hB1).mono ?_
      rintro e w2 ⟨rfl, hB2, hu2⟩
      go_wp2
      go_ret
      exact ⟨A1, c1, rfl, own_but ho1 hu2 hlt, ⟨_, _, _, _, hB2⟩, (But.of hb1).trans hu2⟩
    · obtain ⟨e1, e2, e3⟩ := g_yes (d := []) hp
      obtain ⟨d1, d2⟩ := drop_back (Wq.pS_back hp).1
      rw [e1, e2, e3] at H1
      rw [e1, gS_some hp]
      obtain ⟨k, hk⟩ : ∃ k, k = l.length - r.length := ⟨_, rfl⟩
      rw [← hk] at H1 d1
      have G1 := Lib.hid H1
      have G2 := Lib.hid fun (W : World) hB => took_ok g k n c A ((T - l.length : Nat) : Int) W hB (by omega) (by omega) (by omega)
      have HB := Lib.hid hB
      have HR := Lib.hid (hR.from_ (k := k) (by omega))
      have HE := Lib.hid (show (((T - l.length : Nat) : Int) + k) = ((T - r.length : Nat) : Int) by omega)
      have HD := Lib.hid d1
      have hrl : r.length = n - k := by omega
      have hrt : r.length ≤ T := by omega
      clear H1 hR hl hp hB e1 e2 e3 hgv d1 hk
      go_enter Tryd.func63, Tryd.ntmps63
      go_wp2_with fail
      refine G1.out.mono ?_
      rintro e w1 ⟨A1, c1, rfl, ho1, hb1⟩
      have hB1 := HB.out.go hb1
      have hs1 := hb1.size
      clear c0 c2
      go_wp2_with fail
      refine (G2.out w1 hB1).mono ?_
      rintro e w2 ⟨rfl, hB2, hu2⟩
      go_wp2
      go_ret
      have h2 := HR.out
      rw [Nat.mul_one, ← bv_drop, HD.out] at h2
      rw [HE.out] at hB2
      exact ⟨A1, c1, rfl, own_but ho1 hu2 hlt, ⟨_, _, _, hB2, ((h2.below (hb1.mono (Nat.le_of_lt hlt))).but hu2 (by omega) (Nat.le_refl _)), hrl, hrt, by unfold maxLen; exact hm⟩, (But.of hb1).trans hu2⟩

/-- The row of a body. -/
theorem bodyRow_is {A : Option Addr} {n c : Nat} {l : List UInt8} {w : World} {r : List UInt8} {j er m : Nat} (h : rowOf l (256 : Nat) = (r, j, er)) (hm : r.length = m) (hl : l.length = n) (hR : Rd w w.heap.size 1 A n c (bv l)) (hn : n ≤ 140737488355328) :
    Calls Tryd.prog 71 #[.slice A n c] w fun e w' => ∃ A' c', e = .returned (.tuple #[.slice A' m c', .int .i64 j, .int .i64 er]) ∧ w'.ownsRow w.heap.size 5 1 (.slice A' m c') m (bv r) ∧ Below w.heap.size w w' := by
  have G1 := Lib.hid (row_is h hm hl hR hn)
  clear h hl hR
  go_enter Tryd.func71, Tryd.ntmps71
  go_wp2_with (go_at_call 72; go_must (refine G1.out.mono ?_); rintro e w1 ⟨A1, c1, rfl, ho1, hb1⟩)
  go_ret3
  exact ⟨A1, c1, rfl, ho1, hb1⟩

set_option maxHeartbeats 2000000 in
theorem partRow_any (g T : Nat) (s : Option (List UInt8)) (w : World) (h : PR w g T s) (hT32 : T ≤ 140737488355328) :
    Calls Tryd.prog 70 #[.pointer (some ⟨g, 0, none⟩), .func (.func 71) #[] #[]] w fun e w' => ∃ A' c', e = .returned (.slice A' (Wq.vl (Wq.pR 256) [] s).length c') ∧
      w'.ownsRow w.heap.size 5 1 (.slice A' (Wq.vl (Wq.pR 256) [] s).length c') (Wq.vl (Wq.pR 256) [] s).length (bv (Wq.vl (Wq.pR 256) [] s)) ∧ PR w' g T (Wq.st (Wq.pR 256) s) ∧ But g w w' := by
  rcases s with _ | l
  · have h' := h
    obtain ⟨A, n, c, k, hB⟩ := h
    have c2 := hB.cell 2
    have H := Lib.hid h'
    clear hB h'
    go_enter Tryd.func70, Tryd.ntmps70
    go_wp2
    go_ret
    exact ⟨none, 0, rfl, World.ownsRow_nil _ _ _ _, H.out, But.refl _ _⟩
  · obtain ⟨A, n, c, hB, hR, hl, hT, hm⟩ := h
    have c0 := hB.cell 0
    have c2 := hB.cell 2
    have hlt := hB.lt
    unfold maxLen at hm
    have hgv : Wq.vl (Wq.pR 256) [] (some l) = gV (Wq.pR 256) [] l := rfl
    rw [hgv]
    rcases rowOf_pR l 256 with ⟨v, k0, hr, hk0, hp⟩ | ⟨er, her, hr, hp⟩
    rotate_left
    · have H1 := bodyRow_is hr rfl hl (hR.more (Nat.le_of_lt hB.lt)) (by omega)
      obtain ⟨e1, e2, e3⟩ := g_no (d := []) hp
      rw [e1, gS_no hp]
      have he2 : (er : Int) ≠ 0 := by omega
      have G1 := Lib.hid H1
      have G2 := Lib.hid fun (W : World) hB => took_bad g (.slice A n c) (.int .i64 ((T - l.length : Nat) : Int)) 0 er W hB he2
      have HB := Lib.hid hB
      clear H1 hR hl hp hB e1 e2 e3 hgv hr
      go_enter Tryd.func70, Tryd.ntmps70
      go_wp2_with fail
      refine G1.out.mono ?_
      rintro e w1 ⟨A1, c1, rfl, ho1, hb1⟩
      have hB1 := HB.out.go hb1
      clear c0 c2
      go_wp2_with fail
      refine (G2.out w1 hB1).mono ?_
      rintro e w2 ⟨rfl, hB2, hu2⟩
      go_wp2
      go_ret
      exact ⟨A1, c1, rfl, own_but ho1 hu2 hlt, ⟨_, _, _, _, hB2⟩, (But.of hb1).trans hu2⟩
    · have H1 := bodyRow_is hr rfl hl (hR.more (Nat.le_of_lt hB.lt)) (by omega)
      obtain ⟨e1, e2, e3⟩ := g_yes (d := []) hp
      obtain ⟨r, hre⟩ : ∃ r, r = l.drop k0 := ⟨_, rfl⟩
      rw [← hre] at hp
      have d1 := hre.symm
      have d2 : r.length ≤ l.length := by rw [hre, List.length_drop]; omega
      have hk : k0 = l.length - r.length := by rw [hre, List.length_drop]; omega
      rw [e1, gS_some hp]
      obtain ⟨k, rfl⟩ : ∃ k, k = k0 := ⟨_, rfl⟩
      have G1 := Lib.hid H1
      have G2 := Lib.hid fun (W : World) hB => took_ok g k n c A ((T - l.length : Nat) : Int) W hB (by omega) (by omega) (by omega)
      have HB := Lib.hid hB
      have HR := Lib.hid (hR.from_ (k := k) (by omega))
      have HE := Lib.hid (show (((T - l.length : Nat) : Int) + k) = ((T - r.length : Nat) : Int) by omega)
      have HD := Lib.hid d1
      have hrl : r.length = n - k := by omega
      have hrt : r.length ≤ T := by omega
      clear H1 hR hl hp hB e1 e2 e3 hgv d1 hk hr hre
      go_enter Tryd.func70, Tryd.ntmps70
      go_wp2_with fail
      refine G1.out.mono ?_
      rintro e w1 ⟨A1, c1, rfl, ho1, hb1⟩
      have hB1 := HB.out.go hb1
      have hs1 := hb1.size
      clear c0 c2
      go_wp2_with fail
      refine (G2.out w1 hB1).mono ?_
      rintro e w2 ⟨rfl, hB2, hu2⟩
      go_wp2
      go_ret
      have h2 := HR.out
      rw [Nat.mul_one, ← bv_drop, HD.out] at h2
      rw [HE.out] at hB2
      exact ⟨A1, c1, rfl, own_but ho1 hu2 hlt, ⟨_, _, _, hB2, ((h2.below (hb1.mono (Nat.le_of_lt hlt))).but hu2 (by omega) (Nat.le_refl _)), hrl, hrt, by unfold maxLen; exact hm⟩, (But.of hb1).trans hu2⟩
end Go.Proofs.YtndlcimckfndiaaDoor

