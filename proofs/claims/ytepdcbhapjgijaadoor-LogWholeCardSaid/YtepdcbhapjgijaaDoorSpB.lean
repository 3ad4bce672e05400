/- Walks over the document's Same, Copy, Formed, Has at spans, and over span.Formed, span.Has. -/
import Derived.Test.YtepdcbhapjgijaaDoorSpA
import Derived.Test.YtepdcbhapjgijaaDoorNt0
namespace Go.Proofs.YtepdcbhapjgijaaDoor
open Go.RowKit
set_option maxRecDepth 100000

theorem fmS_drop (e : Int) (l : List Sn.Sp) (k : Nat) (h : k < l.length) : Sn.fmS e (l.drop k) = (decide (l[k].1 ≤ l[k].2) && (decide (l[k].2 ≤ 255) && (decide (0 ≤ l[k].1) && (decide (e + 1 < l[k].1) && Sn.fmS l[k].2 (l.drop (k + 1)))))) := by
  rw [List.drop_eq_getElem_cons h, Sn.fmS]

set_option maxHeartbeats 2000000 in
theorem formedS_any (A : Option Addr) (n c : Nat) (l : List Sn.Sp) (w : World) (hl : l.length = n) (hR : Rd w w.heap.size 2 A n c (sv l)) :
    Calls Tryd.prog 44 #[.slice A n c] w fun e w' => e = .returned (.bool (Sn.fmS (-2) l)) ∧ Below w.heap.size w w' := by
  have hmax : n ≤ 9223372036854775807 := by have h1 := hR.cap; have h2 := hR.max; unfold maxLen at h2; omega
  go_enter Tryd.func44, Tryd.ntmps44
  go_wp2
  go_loopw [3, 8] (fun x i wr => ∃ (k : Nat) (e : Int), k ≤ n ∧ i = .int .i64 k ∧ x = .int .i64 e ∧ -2 ≤ e ∧ e ≤ 255 ∧ Below w.heap.size w wr ∧ Hid (Sn.fmS (-2) l = Sn.fmS e (l.drop k))) (fun _ i _ => n - (intOf i).toNat)
  case atStart => exact ⟨0, -2, by omega, rfl, rfl, by omega, by omega, Below.refl _ _, rfl⟩
  case round =>
    obtain ⟨k, e, hk, rfl, rfl, he1, he2, hb, hf⟩ := hrel
    by_cases hlt : k < n
    · have hkl : k < l.length := by omega
      obtain ⟨b, o, rfl, hab, h0, h1⟩ := (hR.below hb).stamp hl hlt
      have HD := Lib.hid (fmS_drop e l k hkl)
      generalize hlo : (l[k]'hkl).1 = lo at h0 HD
      generalize hhi : (l[k]'hkl).2 = hi at h1 HD
      have HB := Lib.hid (hb.alloc hb.size (.cells #[.int .i64 lo, .int .i64 hi] 59))
      have HF := Lib.hid (hf.out.trans HD.out)
      clear hlo hhi hb hf HD hR hl
      by_cases c1 : lo ≤ hi
      · by_cases c2 : hi ≤ 255
        · by_cases c3 : 0 ≤ lo
          · by_cases c4 : e + 1 < lo
            · have HN := Lib.hid (show Sn.fmS (-2) l = Sn.fmS hi (l.drop (k + 1)) by rw [HF.out]; simp [c1, c2, c3, c4])
              have d1 : decide (lo > hi) = false := by simp; omega
              have d2 : decide (hi > 255) = false := by simp; omega
              have d3 : decide (lo < 0) = false := by simp; omega
              go_wp2
              go_roundw
              case rel => exact ⟨k + 1, hi, by omega, by go_num, rfl, by omega, by omega, HB.out, HN.out⟩
              case measure => simp [intOf]; omega
            · have HN := Lib.hid (show Sn.fmS (-2) l = false by rw [HF.out]; simp [c4])
              go_wp2
              go_ret
              exact ⟨by rw [HN.out]; rfl, HB.out⟩
          · have HN := Lib.hid (show Sn.fmS (-2) l = false by rw [HF.out]; simp [c3])
            have d3 : decide (lo < 0) = true := by simp; omega
            go_wp2
            go_ret
            exact ⟨by rw [HN.out]; rfl, HB.out⟩
        · have HN := Lib.hid (show Sn.fmS (-2) l = false by rw [HF.out]; simp [c2])
          have d3 : decide (hi > 255) = true := by simp; omega
          go_wp2
          go_ret
          exact ⟨by rw [HN.out]; rfl, HB.out⟩
      · have HN := Lib.hid (show Sn.fmS (-2) l = false by rw [HF.out]; simp [c1])
        have d3 : decide (lo > hi) = true := by simp; omega
        go_wp2
        go_ret
        exact ⟨by rw [HN.out]; rfl, HB.out⟩
    · obtain rfl : k = n := by omega
      have HN := Lib.hid (show Sn.fmS (-2) l = true by rw [hf.out, List.drop_of_length_le (by omega)]; rfl)
      have HB := Lib.hid hb
      clear hb hf hR hl
      go_wp2
      go_ret
      exact ⟨by rw [HN.out]; rfl, HB.out⟩

/-- The test that span.Has hands on: is the object that lies in a box within a span? -/
theorem hasTest_any (lo hi x : Int) (Bx : Nat) (w : World) (hx : w.cell? ⟨Bx, 0, none⟩ = some (.int .i64 x)) :
    Calls Tryd.prog 60 #[.agg #[.int .i64 lo, .int .i64 hi], .pointer (some ⟨Bx, 0, none⟩)] w fun e w' => e = .returned (.bool (decide (lo ≤ x) && decide (x ≤ hi))) ∧ Below w.heap.size w w' := by
  have hlt := World.block_lt_of_cell? _ _ hx
  have hb : Below w.heap.size w (w.alloc (.cells #[.int .i64 lo, .int .i64 hi] 59)) := (Below.refl _ _).alloc (Nat.le_refl _) _
  by_cases c1 : lo ≤ x
  · have HX := Lib.hid (show (decide (lo ≤ x) && decide (x ≤ hi)) = decide (x ≤ hi) by simp [c1])
    rw [HX.out]
    go_enter Tryd.func60, Tryd.ntmps60
    go_wp2
    go_ret
    exact ⟨rfl, hb⟩
  · have HX := Lib.hid (show (decide (lo ≤ x) && decide (x ≤ hi)) = false by simp [c1])
    rw [HX.out]
    have hd : decide (lo ≤ x) = false := by simpa using c1
    go_enter Tryd.func60, Tryd.ntmps60
    go_wp2
    go_ret
    exact ⟨rfl, hb⟩
end Go.Proofs.YtepdcbhapjgijaaDoor
