/- Walk over span.Of. -/
import Derived.Test.YtepdcbhapjgijaaDoorSpH
namespace Go.Proofs.YtepdcbhapjgijaaDoor
open Go.RowKit
set_option maxRecDepth 100000

/-- Numbers as cells. -/
def zv (L : List Int) : List Value := L.map (Value.int .i64)
/-- Each number as a span of its own. -/
def ones (L : List Int) : List Sn.Sp := L.map fun o => (o, o)
set_option maxHeartbeats 4000000 in
theorem spanOf_any (A : Option Addr) (n c : Nat) (L : List Int) (w : World) (hl : L.length = n) (hR : Rd w w.heap.size 1 A n c (zv L)) (hn : n ≤ 8796093022208) :
    Calls Tryd.prog 30 #[.slice A n c] w fun e w' => SpOut w w' e (Sn.tidy (ones L)) := by
  obtain ⟨i0, hi0, hz0, hz1, hz2⟩ := info_parts spanE_info
  have h1max : 1 ≤ maxLen := by unfold maxLen; omega
  have hmx : n ≤ maxLen := by unfold maxLen; omega
  have HR := Lib.hid hR
  have HL := Lib.hid hl
  have HT := Lib.hid (fun (V : World) (A1 : Option Addr) (c1 : Nat) (h : Rd V V.heap.size 2 A1 n c1 (sv (ones L))) => tidy_any A1 n c1 (ones L) V (by unfold ones; rw [List.length_map]; exact hl) h hn)
  clear hR hl
  go_enter Tryd.func30, Tryd.ntmps30
  go_wp2
  go_loopw [3, 8] (fun v3 v8 wr => ∃ (k c' : Nat) (A' : Option Addr), v8 = .int .i64 k ∧ v3 = .slice A' k c' ∧ k ≤ n ∧ Below w.heap.size w wr ∧ Hid (wr.ownsRow w.heap.size 59 2 (.slice A' k c') k (sv (ones (L.take k))))) (fun _ v8 _ => n - (intOf v8).toNat)
  case atStart => exact ⟨0, 0, none, rfl, rfl, by omega, Below.refl _ _, World.ownsRow_nil _ _ _ _⟩
  case round =>
    obtain ⟨k, c', A', rfl, rfl, hk, hb, ho⟩ := hrel
    have hbs := hb.size
    by_cases hlt : k < n
    · obtain ⟨bb, o, rfl, hab, hc⟩ := (HR.out.below hb).plain (by omega) (by omega)
      have hkl : k < L.length := by rw [HL.out]; exact hlt
      have g0 := hc k (.int .i64 (L[k]'hkl)) (by unfold zv; rw [List.getElem?_map, List.getElem?_eq_getElem hkl]; rfl)
      have HT1 := Lib.hid (show ones (L.take (k + 1)) = ones (L.take k) ++ [((L[k]'hkl), (L[k]'hkl))] by rw [List.take_succ_eq_append_getElem hkl]; unfold ones; rw [List.map_append]; rfl)
      clear hc
      generalize (L[k]'hkl) = z at g0 HT1
      have h63 : k + 1 ≤ maxLen := by omega
      have HRN := Lib.hid (Rd.new wr 59 2 1 #[.int .i64 z, .int .i64 z] rfl h1max)
      clear hkl
      go_wp2_with (at_builtin; go_must (refine wpList_append_rd _ rfl (.tmp 12) (.tmp 16) _ rfl w.heap.size 59 i0 _ 2 16 Tryd.underlying35 hi0 hz0 hz1 hz2 rfl (by decide) (.slice A' k c') k _ rfl (ho.out.alloc _) _ (some ⟨_, 0, none⟩) 1 1 [.int .i64 z, .int .i64 z] rfl HRN.out (by intro u hu; simp at hu; subst hu; rfl) h63 (by omega) (by simp; omega) ?_); intro A3 c3 w3 ho3 hg3 hat3)
      have hb3 := (hb.alloc hbs _).trans (grown_below hg3 (by simp; omega) (fun j hj => own_lt ho.out j hj))
      go_roundw
      case rel => exact ⟨k + 1, c3, A3, by go_num, rfl, by omega, hb3, by rw [HT1.out, sv_app]; exact ho3⟩
      case measure => simp [intOf]; omega
    · obtain rfl : k = n := by omega
      have ho2 := ho.out
      rw [List.take_of_length_le (by rw [HL.out]; exact Nat.le_refl _)] at ho2
      go_wp2_with (go_at_call 51; go_must (refine (HT.out _ _ _ (Rd.of_own ho2)).mono ?_); rintro e w2 ⟨A2, c2, rfl, ho3, hb2⟩)
      go_ret
      exact ⟨A2, c2, rfl, own_less ho3 hbs, below_then hb (Nat.le_refl _) hb2⟩
end Go.Proofs.YtepdcbhapjgijaaDoor
