/- Walk over the law SpanOfs. -/
import Derived.Test.YtafbaagjokomcaaSpS
import Derived.Test.YtafbaagjokomcaaSpV
import Derived.BigQuiet
namespace Go.Proofs.Ytafbaagjokomcaa
open Go.RowKit
set_option maxRecDepth 100000

theorem intE_info : (Try.prog.info? 3).map (fun i => (i.zero, i.size, i.bytes)) = some (some (.int .i64 0), 1, 8) := by kernel_rfl
theorem zv_oneCell (L : List Int) : ∀ u ∈ zv L, u.oneCell' = true := by
  intro u hu
  simp only [zv, List.mem_map] at hu
  obtain ⟨z, _, rfl⟩ := hu
  rfl
theorem zv_at (L : List Int) (k : Nat) (h : k < L.length) : (zv L)[k]? = some (.int .i64 L[k]) := by unfold zv; rw [List.getElem?_map, List.getElem?_eq_getElem h]; rfl

set_option maxHeartbeats 4000000 in
theorem spanOfs_walk (A : Option Addr) (n c : Nat) (L : List Int) (w : World) (hl : L.length = n) (hR : Rd w w.heap.size 1 A n c (zv L)) (hn : n ≤ 8796093022208) :
    Calls Try.prog 3 #[.slice A n c] w fun e w' => e = .returned (.bool true) ∧ Below w.heap.size w w' := by
  obtain ⟨i0, hi0, hz0, hz1, hz2⟩ := info_parts intE_info
  have HR := Lib.hid (fun (V : World) (hb : Below w.heap.size w V) => hR.go hb)
  have HL := Lib.hid hl
  have G0 := Lib.hid (aliveS_any w)
  have G1 := Lib.hid fun (W : World) (D : Option Addr) (d : Nat) h => spanOf_any D n d L W hl h hn
  have G2 := Lib.hid fun (W : World) h => refSome_any A n c L W hl h
  have E1 := fun (W : World) (X Y : Option Addr) (x y p : Nat) (u : List Vc.St) hu h1 h2 => sameS_any X Y p x p y u u W hu hu h1 h2
  simp only [decide_true] at E1
  have E1 := Lib.hid E1
  have h63 : 0 + n ≤ maxLen := by unfold maxLen; omega
  clear hR hl
  generalize Sn.tidy (ones L) = T at G1 G2
  go_enter Try.func3, Try.ntmps3
  go_wp2_with (first
    | (go_at_call 9; go_must (refine G0.out.mono ?_); rintro e w1 ⟨rfl, hb1⟩)
    | (at_builtin; go_must (refine wpList_append_rd _ rfl (.tmp 8) (.tmp 9) _ rfl w1.heap.size 3 i0 _ 1 8 Try.underlying22 hi0 hz0 hz1 hz2 rfl (by decide) (.slice (some ⟨w1.heap.size, 0, none⟩) 0 0) 0 [] rfl (own_empty w1 _ _) w1.heap.size A n c (zv L) rfl ((HR.out _ hb1).alloc (Nat.le_refl _) _) (zv_oneCell _) h63 (by omega) (by simp) ?_); intro A2 c2 w2 ho2 hg2 hat2; have hb2 : Below w1.heap.size w1 w2 := ((Below.refl _ _).alloc (Nat.le_refl _) _).trans (grown_below hg2 (by simp) (by simp [Value.ownBlock])); have hR2 : Rd w2 w2.heap.size 1 A2 n c2 (zv L) := by
        have := Rd.of_own ho2
        rw [Nat.zero_add, List.nil_append] at this
        exact this)
    | (go_at_call 10; go_must (refine (G1.out _ _ _ hR2).mono ?_); rintro e w3 ⟨A3, c3, rfl, ho3, hb3⟩))
  have HR2 := Lib.hid (hR2.go hb3)
  have HO3 := Lib.hid (Rd.of_own ho3)
  have HB := Lib.hid (below_then (below_then hb1 (Nat.le_refl _) hb2) (Nat.le_refl _) hb3)
  clear hR2 ho3 hb1 hb2 hb3 ho2 hg2 hat2
  go_loopw [5] (fun v5 wr => ∃ k : Nat, k ≤ n ∧ v5 = .int .i64 k ∧ Below w3.heap.size w3 wr) (fun v5 _ => n - (intOf v5).toNat)
  case atStart => exact ⟨0, by omega, rfl, Below.refl _ _⟩
  case round =>
    obtain ⟨k, hk, rfl, hb⟩ := hrel
    by_cases hlt : k < n
    · obtain ⟨bb, o, rfl, hab, hc⟩ := (HR2.out.below hb).plain (by omega) (by omega)
      obtain ⟨b2, o2, rfl, hab2, hc2⟩ := (HR.out _ (below_then HB.out (Nat.le_refl _) hb)).plain (by omega) (by omega)
      have hkl : k < L.length := by rw [HL.out]; exact hlt
      have g0 := hc k _ (zv_at L k hkl)
      have g1 := hc2 k _ (zv_at L k hkl)
      clear hc hc2
      generalize (L[k]'hkl) = z at g0 g1
      have HBB := Lib.hid hb
      clear hb hkl
      go_wp2
      go_region
      go_wp2
      go_roundw
      case rel => exact ⟨k + 1, by omega, by go_num, HBB.out.drew⟩
      case measure => simp [intOf]; omega
    · obtain rfl : k = n := by omega
      have HBB := Lib.hid (below_then HB.out (Nat.le_refl _) hb)
      have HO4 := Lib.hid (HO3.out.go hb)
      clear hb
      go_wp2_with (first
        | (go_at_call 12; go_must (refine (G2.out _ (HR.out _ HBB.out)).mono ?_); rintro e w4 ⟨A4, c4, rfl, ho4, hb4⟩)
        | (go_at_call 11; go_must (refine (E1.out _ _ _ _ _ _ T rfl (HO4.out.go hb4) (Rd.of_own ho4)).mono ?_); rintro e w5 ⟨rfl, hb5⟩))
      go_ret
      exact ⟨rfl, below_then (below_then HBB.out (Nat.le_refl _) hb4) (Nat.le_refl _) hb5⟩
end Go.Proofs.Ytafbaagjokomcaa
