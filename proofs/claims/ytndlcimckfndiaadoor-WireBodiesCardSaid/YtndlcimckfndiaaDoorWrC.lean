/- Walks over the readers' sets: wire.Set, the document's Reader.Set. -/
import Derived.Test.YtndlcimckfndiaaDoorWrB
import Derived.Test.YtndlcimckfndiaaDoorSpB
namespace Go.Proofs.YtndlcimckfndiaaDoor
open Go.RowKit
set_option maxRecDepth 100000

/-- What is read of pairs so far. -/
def Inv2 (k : Nat) (s : Option (List UInt8)) (acc : List (Int × Int)) (F : Option (List (Int × Int) × List UInt8)) : Prop := match s with
  | none => F = none
  | some l => F = match Wq.pP k l with | none => none | some (v, r) => some (acc ++ v, r)
def all2 (l : List UInt8) : Option (List (Int × Int) × List UInt8) := match Wq.pN l with | none => none | some (n, r) => Wq.pP n r
theorem Inv2.start (l : List UInt8) : Inv2 (numV (some l)) (numS (some l)) [] (all2 l) := by
  rcases h : Wq.pN l with _ | ⟨n, r⟩
  · rw [numS_no h]
    show all2 l = none
    unfold all2; rw [h]
  · rw [numS_some h, numV_some h]
    show all2 l = match Wq.pP n r with | none => none | some (v, r) => some ([] ++ v, r)
    unfold all2; rw [h]
    simp only [List.nil_append]
    rcases Wq.pP n r with _ | ⟨v, q⟩ <;> rfl
theorem Inv2.next {k : Nat} {l : List UInt8} {acc : List (Int × Int)} {F : Option (List (Int × Int) × List UInt8)} (h : Inv2 (k + 1) (some l) acc F) :
    Inv2 k (numS (numS (some l))) (acc ++ [((numV (some l) : Int), (numV (numS (some l)) : Int))]) F := by
  have h' : F = match Wq.pP (k + 1) l with | none => none | some (v, r) => some (acc ++ v, r) := h
  rw [Wq.pP] at h'
  rcases h1 : Wq.pN l with _ | ⟨a, r⟩
  · rw [numS_no h1]
    rw [h1] at h'
    exact h'
  · rw [numS_some h1, numV_some h1]
    rw [h1] at h'
    rcases h2 : Wq.pN r with _ | ⟨b, q⟩
    · rw [numS_no h2]
      simp only [h2] at h'
      exact h'
    · rw [numS_some h2, numV_some h2]
      simp only [h2] at h'
      show F = match Wq.pP k q with | none => none | some (v, r) => some (_ ++ v, r)
      rw [h']
      rcases Wq.pP k q with _ | ⟨v, t⟩
      · rfl
      · simp
theorem Inv2.done {l : List UInt8} {acc : List (Int × Int)} {F : Option (List (Int × Int) × List UInt8)} (h : Inv2 0 (some l) acc F) : F = some (acc, l) := by
  have : F = some (acc ++ [], l) := h
  rwa [List.append_nil] at this
/-- How many pairs there can be. -/
def Cap2 (m : Nat) (s : Option (List UInt8)) (N : Nat) : Prop := match s with | none => m ≤ N + 1 | some l => m + l.length ≤ N
theorem numS_cap {s : Option (List UInt8)} {m N : Nat} (h : Cap2 m s N) : Cap2 m (numS s) N := by
  cases s with
  | none => exact h
  | some l =>
    have h' : m + l.length ≤ N := h
    rcases h1 : Wq.pN l with _ | ⟨a, r⟩
    · rw [numS_no h1]; show m ≤ N + 1; omega
    · have := Wq.pN_len h1
      rw [numS_some h1]; show m + r.length ≤ N; omega
theorem numS_cap1 {l : List UInt8} {m N : Nat} (h : Cap2 m (some l) N) : Cap2 (m + 1) (numS (some l)) N := by
  have h' : m + l.length ≤ N := h
  rcases h1 : Wq.pN l with _ | ⟨a, r⟩
  · rw [numS_no h1]; show m + 1 ≤ N + 1; omega
  · have := Wq.pN_len h1
    rw [numS_some h1]; show m + 1 + r.length ≤ N; omega
theorem Cap2.le {s : Option (List UInt8)} {m N : Nat} (h : Cap2 m s N) : m ≤ N + 1 := by
  cases s with
  | none => exact h
  | some l => have h' : m + l.length ≤ N := h; omega

/-- The set that bytes begin with: its spans, its size, the error. -/
def setV (l : List UInt8) : List Sn.Sp := match Wq.pS l with | none => [] | some (v, _) => v
def setK (l : List UInt8) : Nat := match Wq.pS l with | none => 0 | some (_, r) => l.length - r.length
def setE (l : List UInt8) : Nat := match Wq.pS l with | none => 4 | some _ => 0
theorem set_no {l : List UInt8} (h : Wq.pS l = none) : setV l = [] ∧ setK l = 0 ∧ setE l = 4 := by unfold setV setK setE; rw [h]; exact ⟨rfl, rfl, rfl⟩
theorem set_yes {l r : List UInt8} {v : List Sn.Sp} (h : Wq.pS l = some (v, r)) : setV l = v ∧ setK l = l.length - r.length ∧ setE l = 0 := by unfold setV setK setE; rw [h]; exact ⟨rfl, rfl, rfl⟩
theorem pS_all {l : List UInt8} : Wq.pS l = match all2 l with | none => none | some (v, q) => if Sn.fmS (-2) v = true then some (v, q) else none := by
  unfold Wq.pS all2
  rcases Wq.pN l with _ | ⟨n, r⟩ <;> rfl

set_option maxHeartbeats 1000000 in
/-- end: all that was read. -/
theorem endS_ok (g T : Nat) (v : Value) (l : List UInt8) (w : World) (h : PR w g T (some l)) :
    Calls Tryd.prog 57 #[.pointer (some ⟨g, 0, none⟩), v, .bool true] w fun e w' => e = .returned (.tuple #[v, .int .i64 ((T - l.length : Nat) : Int), .int .i64 0]) ∧ ∃ n, w' = w.drewN n := by
  obtain ⟨A, n, c, hB, hq⟩ := h
  have c1 := hB.cell 1
  have c2 := hB.cell 2
  clear hB hq
  go_enter Tryd.func57, Tryd.ntmps57
  go_wp2
  go_quiet (fail)
  go_wp2
  go_ret3
  exact ⟨rfl, _, rfl⟩
set_option maxHeartbeats 1000000 in
/-- end: nothing. -/
theorem endS_bad (g T : Nat) (v : Value) (f : Bool) (s : Option (List UInt8)) (w : World) (h : PR w g T s) (hs : s = none ∨ f = false) :
    Calls Tryd.prog 57 #[.pointer (some ⟨g, 0, none⟩), v, .bool f] w fun e w' => e = .returned (.tuple #[.slice none 0 0, .int .i64 0, .int .i64 4]) ∧ PR w' g T none ∧ But g w w' := by
  rcases s with _ | l
  · obtain ⟨A, n, c, k, hB⟩ := h
    have c2 := hB.cell 2
    have f2 := hB.frozen 2
    have HB := Lib.hid hB
    clear hB hs
    go_enter Tryd.func57, Tryd.ntmps57
    go_wp2
    go_ret3
    exact ⟨rfl, ⟨A, n, c, k, HB.out.set_ 2 (.bool true)⟩, But.set_ w (p := ⟨g, 2, none⟩) rfl _⟩
  · obtain rfl : f = false := by
      rcases hs with h | h
      · cases h
      · exact h
    obtain ⟨A, n, c, hB, _⟩ := h
    have c2 := hB.cell 2
    have f2 := hB.frozen 2
    have HB := Lib.hid hB
    clear hB hs
    go_enter Tryd.func57, Tryd.ntmps57
    go_wp2
    go_ret3
    exact ⟨rfl, ⟨A, n, c, _, HB.out.set_ 2 (.bool true)⟩, But.set_ w (p := ⟨g, 2, none⟩) rfl _⟩

set_option maxHeartbeats 4000000 in
/-- wire.Set. -/
theorem wireSet_any (A : Option Addr) (n c : Nat) (l : List UInt8) (w : World) (hl : l.length = n) (hR : Rd w w.heap.size 1 A n c (bv l)) (hn : n ≤ 4294967296) :
    Calls Tryd.prog 23 #[.slice A n c] w fun e w' => ∃ A' c', e = .returned (.tuple #[.slice A' (setV l).length c', .int .i64 (setK l), .int .i64 (setE l)]) ∧
      w'.ownsRow w.heap.size 97 2 (.slice A' (setV l).length c') (setV l).length (sv (setV l)) ∧ Below w.heap.size w w' := by
  obtain ⟨i0, hi0, hz0, hz1, hz2⟩ := info_parts span_info
  have hP0 : PR (w.alloc (.cells #[.slice A n c, .int .i64 0, .bool false] 90)) w.heap.size n (some l) := by
    refine ⟨A, n, c, ?_, hR.alloc (Nat.le_refl _) _, hl, by omega, by have := hR.cap; have := hR.max; omega⟩
    rw [hl, Nat.sub_self]
    exact Blk.new w _ _
  have hb0 : Below w.heap.size w (w.alloc (.cells #[.slice A n c, .int .i64 0, .bool false] 90)) := (Below.refl _ _).alloc (Nat.le_refl _) _
  obtain ⟨w0, hw0⟩ : ∃ w0, w0 = w.alloc (.cells #[.slice A n c, .int .i64 0, .bool false] 90) := ⟨_, rfl⟩
  rw [← hw0] at hP0 hb0
  have HW := Lib.hid hw0.symm
  have HL := Lib.hid hl
  have hcap := Lib.hid (show Cap2 0 (numS (some l)) n from numS_cap (show 0 + l.length ≤ n by omega))
  have hinv := Lib.hid (Inv2.start l)
  have hk0 := numV_lt (some l)
  obtain ⟨k0, hk0e⟩ : ∃ k0, k0 = numV (some l) := ⟨_, rfl⟩
  have H1 := Lib.hid fun (W : World) (s : Option (List UInt8)) (h : PR W w.heap.size n s) => rdNum_any w.heap.size n s W h
  have H10 := H1.out w0 (some l) hP0
  rw [← hk0e] at H10 hk0 hinv
  have H0 := Lib.hid H10
  clear H10 hk0e hl hR hw0
  go_enter Tryd.func23, Tryd.ntmps23
  go_wp2_with fail
  rw [HW.out]
  refine H0.out.mono ?_
  rintro e w1 ⟨rfl, hP1, hu1⟩
  have hs0 := hP0.lt
  have hs1 := hu1.size
  have hb1 := below_but hb0 hu1 (by omega) (Nat.le_refl _)
  clear H0 hu1 hP0 hb0
  go_wp2_with fail
  go_loopw [6, 7, 8] (fun v6 v7 _ wr => ∃ (k m c' : Nat) (A' : Option Addr) (s : Option (List UInt8)) (acc : List (Int × Int)), v7 = .int .i64 k ∧ v6 = .slice A' m c' ∧ k ≤ k0 ∧ PR wr w.heap.size n s ∧ Below w.heap.size w wr ∧
    wr.ownsRow (w.heap.size + 1) 97 2 (.slice A' m c') m (sv acc) ∧ Hid (acc.length = m) ∧ Hid (Cap2 m s n) ∧ Hid (Inv2 k s acc (all2 l))) (fun _ v7 _ _ => (intOf v7).toNat)
  case atStart => exact ⟨k0, 0, 0, none, _, [], rfl, rfl, Nat.le_refl _, hP1, hb1, World.ownsRow_nil _ _ _ _, rfl, hcap, hinv⟩
  case round =>
    obtain ⟨k, m, c', A', s, acc, rfl, rfl, hk, hP, hb, ho, hacc, hca, hin⟩ := hrel
    have hlt := hP.lt
    have HP := Lib.hid hP
    have HO := Lib.hid ho
    clear hP ho
    by_cases hgo : 0 < k ∧ s ≠ none
    · obtain ⟨hk1, hs⟩ := hgo
      obtain ⟨l1, rfl⟩ : ∃ l1, s = some l1 := by
        cases s with
        | none => exact absurd rfl hs
        | some l1 => exact ⟨l1, rfl⟩
      obtain ⟨Ar, nr, cr, hBr, hqr⟩ := HP.out
      have c2 := hBr.cell 2
      clear hBr hqr hs
      obtain ⟨lo, hlo⟩ : ∃ lo, lo = numV (some l1) := ⟨_, rfl⟩
      obtain ⟨s1, hs1⟩ : ∃ s1, s1 = numS (some l1) := ⟨_, rfl⟩
      obtain ⟨hi, hhi⟩ : ∃ hi, hi = numV s1 := ⟨_, rfl⟩
      obtain ⟨s2, hs2⟩ : ∃ s2, s2 = numS s1 := ⟨_, rfl⟩
      have hcap1 : m + l1.length ≤ n := hca.out
      have HIN := Lib.hid (show Inv2 (k - 1) s2 (acc ++ [((lo : Int), (hi : Int))]) (all2 l) by
        have h := hin.out
        rw [show k = (k - 1) + 1 by omega] at h
        rw [hs2, hlo, hhi, hs1]
        exact h.next)
      have HCA := Lib.hid (show Cap2 (m + 1) s2 n by rw [hs2]; exact numS_cap (by rw [hs1]; exact numS_cap1 hca.out))
      have C1 := H1.out wr (some l1) HP.out
      rw [← hlo, ← hs1] at C1
      have C2 := H1.out
      have G1 := Lib.hid C1
      have G2 := Lib.hid fun (W : World) (h : PR W w.heap.size n s1) => H1.out W s1 h
      rw [← hhi, ← hs2] at G2
      have h63 : m + 1 ≤ maxLen := by unfold maxLen; omega
      have h1max : 1 ≤ maxLen := by unfold maxLen; omega
      have hbs := hb.size
      have hm32 : m ≤ 4294967296 := by omega
      clear C1 C2 hlo hs1 hhi hs2 hin hca hcap1
      go_wp2_with fail
      refine G1.out.mono ?_
      rintro e w2 ⟨rfl, hP2, hu2⟩
      have hs2 := hu2.size
      go_wp2_with fail
      refine (G2.out w2 hP2).mono ?_
      rintro e w3 ⟨rfl, hP3, hu3⟩
      have hs3 := hu3.size
      have ho3 := own_but (own_but HO.out hu2 (by omega)) hu3 (by omega)
      have hb3 := below_but (below_but hb hu2 (by omega) (Nat.le_refl _)) hu3 (by omega) (Nat.le_refl _)
      clear hu2 hu3 hP2 HO hb HP c2 G1 G2
      go_wp2_with (at_builtin; go_must (refine wpList_append_rd _ rfl (.tmp 27) (.tmp 32) _ rfl (w.heap.size + 1) 97 i0 _ 2 16 Tryd.underlying40 hi0 hz0 hz1 hz2 rfl (by decide) (.slice A' m c') m _ rfl (ho3.alloc _) (w3.heap.size + 1) (some ⟨w3.heap.size, 0, none⟩) 1 1 [.int .i64 (lo : Int), .int .i64 (hi : Int)] rfl (Rd.new w3 _ 2 1 #[.int .i64 (lo : Int), .int .i64 (hi : Int)] rfl h1max) (sv_oneCell [((lo : Int), (hi : Int))]) h63 (by omega) (by simp; omega) ?_); intro A3 c3 w4 ho4 hg4 hat4)
      have hbg : Below (w.heap.size + 1) w3 w4 := ((Below.refl _ _).alloc (by omega) _).trans (grown_below hg4 (by simp; omega) (fun g hg => own_lt ho3 g hg))
      go_roundw
      case rel =>
        exact ⟨k - 1, m + 1, c3, A3, s2, acc ++ [((lo : Int), (hi : Int))], by rw [show ((k : Int) - 1) = ((k - 1 : Nat) : Int) by omega], rfl, by omega, hP3.below hbg (by omega), hb3.trans (hbg.mono (by omega)), by rw [sv_app]; exact ho4,
          by show _ = _; rw [List.length_append, hacc.out]; rfl, HCA, HIN⟩
      case measure => simp [intOf]; omega
    · have HF := Lib.hid fun (W : World) (hR : Rd W W.heap.size 2 A' m c' (sv acc)) => formedS_any A' m c' acc W hacc.out hR
      have hbs := hb.size
      rcases s with _ | r
      · have hpS : Wq.pS l = none := by
          have h : all2 l = none := hin.out
          rw [pS_all, h]
        have HE := Lib.hid (set_no hpS)
        obtain ⟨Ar, nr, cr, kr, hBr⟩ := HP.out
        have c2 := hBr.cell 2
        clear hBr hpS hgo hinv hcap
        by_cases hk0 : 0 < k
        all_goals
          go_wp2_with fail
          refine (HF.out wr (Rd.of_own HO.out)).mono ?_
          rintro e w5 ⟨rfl, hb5⟩
          go_wp2_with fail
          refine (endS_bad w.heap.size n (.slice A' m c') (Sn.fmS (-2) acc) none w5 (HP.out.go hb5) (.inl rfl)).mono ?_
          rintro e w6 ⟨rfl, hP6, hu6⟩
          go_wp2
          go_ret3
          obtain ⟨e1, e2, e3⟩ := HE.out
          rw [e1, e2, e3]
          exact ⟨none, 0, rfl, World.ownsRow_nil _ _ _ _, below_but (below_then hb (Nat.le_refl _) hb5) hu6 (by have := hb5.size; omega) (Nat.le_refl _)⟩
      · obtain rfl : k = 0 := by
          rcases Nat.eq_zero_or_pos k with h | h
          · exact h
          · exact absurd ⟨h, by simp⟩ hgo
        have hF := hin.out.done
        obtain ⟨Ar, nr, cr, hBr, hqr⟩ := HP.out
        have c2 := hBr.cell 2
        by_cases hf : Sn.fmS (-2) acc = true
        · have hpS : Wq.pS l = some (acc, r) := by rw [pS_all, hF]; simp only; rw [if_pos hf]
          have HE := Lib.hid (set_yes hpS)
          have HA := Lib.hid hacc.out
          rw [hf] at HF
          clear hBr hqr hpS hgo hinv hcap hF hf
          go_wp2_with fail
          refine (HF.out wr (Rd.of_own HO.out)).mono ?_
          rintro e w5 ⟨rfl, hb5⟩
          have ho5 := own_below HO.out hb5 (Nat.le_refl _)
          go_wp2_with fail
          refine (endS_ok w.heap.size n (.slice A' m c') r w5 (HP.out.go hb5)).mono ?_
          rintro e w6 ⟨rfl, n6, rfl⟩
          go_wp2
          go_ret3
          obtain ⟨e1, e2, e3⟩ := HE.out
          rw [e1, e2, e3, HL.out, HA.out]
          exact ⟨A', c', rfl, own_less (own_drewN ho5 n6) (by omega), below_drewN (below_then hb (Nat.le_refl _) hb5) n6⟩
        · have hf' : Sn.fmS (-2) acc = false := by simpa using hf
          have hpS : Wq.pS l = none := by rw [pS_all, hF]; simp only; rw [if_neg hf]
          have HE := Lib.hid (set_no hpS)
          rw [hf'] at HF
          clear hBr hqr hpS hgo hinv hcap hF hf hf'
          go_wp2_with fail
          refine (HF.out wr (Rd.of_own HO.out)).mono ?_
          rintro e w5 ⟨rfl, hb5⟩
          go_wp2_with fail
          refine (endS_bad w.heap.size n (.slice A' m c') false (some r) w5 (HP.out.go hb5) (.inr rfl)).mono ?_
          rintro e w6 ⟨rfl, hP6, hu6⟩
          go_wp2
          go_ret3
          obtain ⟨e1, e2, e3⟩ := HE.out
          rw [e1, e2, e3]
          exact ⟨none, 0, rfl, World.ownsRow_nil _ _ _ _, below_but (below_then hb (Nat.le_refl _) hb5) hu6 (by have := hb5.size; omega) (Nat.le_refl _)⟩
end Go.Proofs.YtndlcimckfndiaaDoor
