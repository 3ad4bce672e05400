/- Walks over note.place, slices.BinarySearchFunc at writes. -/
import Derived.Test.YtnibkniggiokkaaDoorNtE
import Derived.Test.YtnibkniggiokkaaDoorCmp
namespace Go.Proofs.YtnibkniggiokkaaDoor
open Go.RowKit
set_option maxRecDepth 100000

theorem placeCmp_any (q : Wr) (o : Int) (w : World) : Calls Tryd.prog 83 #[.agg #[.int .i64 q.1.1, .int .i64 q.1.2, .int .i64 q.2.1, .bool q.2.2], .int .i64 o] w fun e w' => e = .returned (.int .i64 (cmpI q.2.1 o)) ∧ Below w.heap.size w w' := by
  have H1 := Lib.hid cmpI_any
  generalize hz : cmpI q.2.1 o = z
  have HZ := Lib.hid hz
  clear hz
  go_enter Tryd.func83, Tryd.ntmps83
  go_wp2_with (go_at_call 54; go_must (refine (H1.out _ _ _).mono ?_); rintro e w' ⟨rfl, rfl⟩)
  go_ret
  exact ⟨by rw [← HZ.out]; rfl, (Below.refl _ _).alloc (Nat.le_refl _) _⟩

/-- What a search among rising objects answers. -/
def Found (l : List Wr) (o : Int) (w : World) (e : Ending) (w' : World) : Prop := ∃ (i : Nat) (b : Bool), e = .returned (.tuple #[.int .i64 i, .bool b]) ∧ i ≤ l.length ∧ (b = true → ∃ h : i < l.length, l[i].2.1 = o ∧ atO l o = some l[i]) ∧ (b = false → atO l o = none) ∧ Below w.heap.size w w'

set_option maxHeartbeats 4000000 in
theorem search_any (A : Option Addr) (n c : Nat) (l : List Wr) (o : Int) (w : World) (hl : l.length = n) (hR : Rd w w.heap.size 4 A n c (wv l)) (hr : rise (-1) l = true) (hn : n ≤ 4398046511104) :
    Calls Tryd.prog 82 #[.slice A n c, .int .i64 o, .func (.func 83) #[] #[]] w (Found l o w) := by
  have hmax : n ≤ 9223372036854775807 := by have h1 := hR.cap; have h2 := hR.max; unfold maxLen at h2; omega
  have HL := Lib.hid hl
  have HR := Lib.hid hR
  have HI := Lib.hid (rise_lt (-1) l hr)
  have HRI := Lib.hid hr
  clear hl hR hr
  go_enter Tryd.func82, Tryd.ntmps82
  go_wp2
  go_loopw [9, 10, 11] (fun x y _ wr => ∃ i j : Nat, i ≤ j ∧ j ≤ n ∧ x = .int .i64 i ∧ y = .int .i64 j ∧ Below w.heap.size w wr ∧ Hid (∀ t (ht : t < l.length), t < i → l[t].2.1 < o) ∧ Hid (∀ t (ht : t < l.length), j ≤ t → o ≤ l[t].2.1)) (fun x y _ _ => (intOf y).toNat - (intOf x).toNat)
  case atStart => exact ⟨0, n, by omega, by omega, rfl, rfl, Below.refl _ _, (fun t ht h => by omega), (fun t ht h => by have := HL.out; omega)⟩
  case round =>
    obtain ⟨i, j, hij, hj, rfl, rfl, hb, h1, h2⟩ := hrel
    by_cases hlt : i < j
    · obtain ⟨m, hm⟩ : ∃ m : Nat, ((i : Int) + (j : Int)) / 2 = (m : Int) := ⟨(i + j) / 2, by omega⟩
      have hm1 : i ≤ m := by omega
      have hm2 : m < j := by omega
      have hml : m < l.length := by rw [HL.out]; omega
      obtain ⟨b, off, rfl, hbb, g0, g1, g2, g3⟩ := (HR.out.below hb).write HL.out hml
      have HC := placeCmp_any l[m] o wr
      have HO := Lib.hid (show l[m].2.1 = l[m].2.1 from rfl)
      generalize hob : l[m].2.1 = ob at g2 HC
      generalize l[m].1.1 = sc at g0 HC
      generalize l[m].1.2 = sn at g1 HC
      generalize l[m].2.2 = gn at g3 HC
      have HB := Lib.hid hb
      have HOB := Lib.hid hob
      have hin : (0 : Int) ≤ (m : Int) ∧ (m : Int) < (n : Int) := by omega
      clear hob hb HO
      by_cases hc : ob < o
      · rw [show cmpI ob o = -1 by unfold cmpI; rw [if_pos hc]] at HC
        have HC := Lib.hid HC
        go_wp2_with (go_at_call 83; go_must (refine HC.out.mono ?_); rintro e w' ⟨rfl, hb'⟩)
        go_roundw
        case rel =>
          refine ⟨m + 1, j, by omega, hj, by go_num, rfl, below_then HB.out (Nat.le_refl _) hb', fun t ht h => ?_, h2⟩
          rcases Nat.lt_or_ge t m with h3 | h3
          · have := HI.out t m h3 hml
            have := HOB.out
            omega
          · obtain rfl : t = m := by omega
            rw [HOB.out]; exact hc
        case measure => simp [intOf]; omega
      · obtain ⟨z, hz⟩ : ∃ z, cmpI ob o = z := ⟨_, rfl⟩
        have hz0 : 0 ≤ z := by rw [← hz]; unfold cmpI; rw [if_neg hc]; split <;> omega
        rw [hz] at HC
        have HC := Lib.hid HC
        clear hz
        go_wp2_with (go_at_call 83; go_must (refine HC.out.mono ?_); rintro e w' ⟨rfl, hb'⟩)
        go_roundw
        case rel =>
          refine ⟨i, m, by omega, by omega, rfl, rfl, below_then HB.out (Nat.le_refl _) hb', h1, fun t ht h => ?_⟩
          rcases Nat.lt_or_ge m t with h3 | h3
          · have := HI.out m t h3 ht
            have := HOB.out
            omega
          · obtain rfl : t = m := by omega
            rw [HOB.out]; omega
        case measure => simp [intOf]; omega
    · obtain rfl : i = j := by omega
      have HB := Lib.hid hb
      by_cases hin : i < n
      · have hil : i < l.length := by rw [HL.out]; exact hin
        obtain ⟨b, off, rfl, hbb, g0, g1, g2, g3⟩ := (HR.out.below hb).write HL.out hil
        have HC := placeCmp_any l[i] o wr
        generalize hob : l[i].2.1 = ob at g2 HC
        generalize l[i].1.1 = sc at g0 HC
        generalize l[i].1.2 = sn at g1 HC
        generalize l[i].2.2 = gn at g3 HC
        have HOB := Lib.hid hob
        have hge : o ≤ ob := by rw [← hob]; exact h2.out i hil (Nat.le_refl _)
        clear hob hb
        by_cases he : ob = o
        · have hF : Found l o w (.returned (.tuple #[.int .i64 (i : Int), .bool true])) = fun w' => Below w.heap.size w w' := by
            funext w'
            refine propext ⟨fun ⟨_, _, _, _, _, _, h⟩ => h, fun h => ⟨i, true, rfl, by omega, fun _ => ⟨hil, HOB.out.trans he, atO_hit HRI.out hil (HOB.out.trans he)⟩, (fun h => by cases h), h⟩⟩
          have HF := Lib.hid hF
          rw [show cmpI ob o = 0 by unfold cmpI; rw [if_neg (by omega), if_neg (by omega)]] at HC
          have HC := Lib.hid HC
          clear he hF
          go_wp2_with (go_at_call 83; go_must (refine HC.out.mono ?_); rintro e w' ⟨rfl, hb'⟩)
          go_ret2
          show Found l o w (.returned (.tuple #[.int .i64 (i : Int), .bool true])) _
          rw [HF.out]
          exact below_then HB.out (Nat.le_refl _) hb'
        · have hno : atO l o = none := atO_miss (k := i) (fun t ht h => h1.out t ht h) (fun t ht h => by
            rcases Nat.lt_or_ge i t with h3 | h3
            · have := HI.out i t h3 ht
              have := HOB.out
              omega
            · obtain rfl : t = i := by omega
              rw [HOB.out]; omega)
          have hF : Found l o w (.returned (.tuple #[.int .i64 (i : Int), .bool false])) = fun w' => Below w.heap.size w w' := by
            funext w'
            refine propext ⟨fun ⟨_, _, _, _, _, _, h⟩ => h, fun h => ⟨i, false, rfl, by omega, (fun h => by cases h), fun _ => hno, h⟩⟩
          have HF := Lib.hid hF
          rw [show cmpI ob o = 1 by unfold cmpI; rw [if_neg (by omega), if_pos (by omega)]] at HC
          have HC := Lib.hid HC
          clear he hF hno
          go_wp2_with (go_at_call 83; go_must (refine HC.out.mono ?_); rintro e w' ⟨rfl, hb'⟩)
          go_ret2
          show Found l o w (.returned (.tuple #[.int .i64 (i : Int), .bool false])) _
          rw [HF.out]
          exact below_then HB.out (Nat.le_refl _) hb'
      · have hno : atO l o = none := atO_miss (k := i) (fun t ht h => h1.out t ht h) (fun t ht h => by have := HL.out; omega)
        have hF : Found l o w (.returned (.tuple #[.int .i64 (i : Int), .bool false])) = fun w' => Below w.heap.size w w' := by
          funext w'
          refine propext ⟨fun ⟨_, _, _, _, _, _, h⟩ => h, fun h => ⟨i, false, rfl, by have := HL.out; omega, (fun h => by cases h), fun _ => hno, h⟩⟩
        have HF := Lib.hid hF
        clear hF hno
        go_wp2
        go_ret2
        show Found l o w (.returned (.tuple #[.int .i64 (i : Int), .bool false])) _
        rw [HF.out]
        exact HB.out
end Go.Proofs.YtnibkniggiokkaaDoor
