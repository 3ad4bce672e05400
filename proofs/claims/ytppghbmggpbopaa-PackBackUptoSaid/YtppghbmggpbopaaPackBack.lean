/- PackBack holds where the arguments are of bulk at most 1048576 (the second form; at arguments near 2^47 bytes what is laid would pass what a slice may hold): a number and a row that are laid are read as they were, whatever stands behind. -/
import Derived.Test.YtppghbmggpbopaaPackFrame
import Derived.Test.YtppghbmggpbopaaPackNil
namespace Go.Proofs.Ytppghbmggpbopaa
open Go.ChangeShapes Go.WideShapes Go.ChangeAt Go.RowKit
set_option maxRecDepth 100000

theorem rowOf_back (r s : List UInt8) (hm : r.length < 9223372036854775808) : rowOf (Pk.lay r.length ++ r ++ s) r.length = (r, (Pk.lay r.length).length + r.length, 0) := by
  have hx := Pk.num_lay hm (r ++ s)
  rw [← List.append_assoc] at hx
  rw [rowOf_ok (by omega) hx (by omega) (by simp only [List.length_append]; omega)]
  rw [List.append_assoc, List.drop_left' rfl, List.take_left' rfl]

set_option maxHeartbeats 2000000 in
theorem packBack_walk (x : Int) (A B : Option Addr) (m c q d : Nat) (r s : List UInt8) (w : World) (hr : r.length = m) (hs : s.length = q) (hR : Rd w w.heap.size 1 A m c (bv r)) (hS : Rd w w.heap.size 1 B q d (bv s)) (hn : m + 9 + q ≤ 1048576 * 4) (hx : x ≤ 9223372036854775807) :
    Calls Try.prog 7 #[.int .i64 x, .slice A m c, .slice B q d] w fun e w' => e = .returned (.bool true) ∧ Below w.heap.size w w' := by
  obtain ⟨i0, hi0, hz0, hz1, hz2⟩ := info_parts u8_info
  obtain ⟨k, hk⟩ : ∃ k, (Pk.lay m).length = k := ⟨_, rfl⟩
  have hk9 : k ≤ 9 := by rw [← hk]; exact Pk.lay_len9 (by omega)
  have hro : rowOf (Pk.lay m ++ r ++ s) m = (r, k + m, 0) := by have := rowOf_back r s (by omega); rw [hr, hk] at this; exact this
  have hll : (Pk.lay m ++ r ++ s).length = k + m + q := by simp [hr, hs, hk]; omega
  have h63 : k + m + q ≤ maxLen := by unfold maxLen; omega
  have HKL := Lib.hid hk
  have HR := Lib.hid hR
  have HS := Lib.hid hS
  have HM := Lib.hid hr
  have HQ := Lib.hid hs
  have HRO := Lib.hid hro
  have HLL := Lib.hid hll
  clear hR hS hk hr hs hro hll
  go_enter Try.func7, Try.ntmps7
  go_wp2_with fail
  refine (alive_any _).mono ?_
  rintro e w1 ⟨rfl, hb1⟩
  have HR1 := Lib.hid (HR.out.go hb1)
  have HS1 := Lib.hid (HS.out.go hb1)
  clear HR HS
  go_wp2_with fail
  have H2 := appendRow_nil A m c r w1 HR1.out (by omega)
  rw [HKL.out] at H2
  refine H2.mono ?_
  clear H2
  rintro e w2 ⟨A2, c2, rfl, ho2, hb2⟩
  have hbb2 := below_then hb1 (Nat.le_refl _) hb2
  have HR2 := Lib.hid (HR1.out.below hb2)
  have HS2 := Lib.hid (HS1.out.below hb2)
  clear HR1 HS1
  go_wp2_with (first
    | (at_builtin; go_must (refine wpList_append_rd _ rfl (.tmp 21) (.tmp 22) _ rfl w1.heap.size 5 i0 _ 1 1 Try.underlying22 hi0 hz0 hz1 hz2 rfl (by decide) _ _ _ rfl ho2 w1.heap.size B q d (bv s) rfl HS2.out (bv_oneCell s) h63 (by omega) hb2.size ?_); intro A3 c3 w3 ho3 hg3 hat3)
    | fail)
  have hb23 : Below w1.heap.size w2 w3 := grown_below hg3 hb2.size (own_lt ho2)
  have hbb3 := hbb2.trans (hb23.mono hb1.size)
  have hs3 := Nat.le_trans hb2.size hb23.size
  have HR3 := Lib.hid ((HR2.out.below hb23).more hs3)
  have HS3 := Lib.hid ((HS2.out.below hb23).more hs3)
  have HO3 := Lib.hid (by have := Rd.of_own ho3; rwa [← bv_app] at this)
  clear hb1 hb2 hbb2 HR2 HS2 ho2 hg3 hat3 ho3 hb23
  refine (row_is HRO.out HM.out HLL.out HO3.out (by omega)).mono ?_
  rintro e w4 ⟨A4, c4, rfl, ho4, hb4⟩
  have hbb4 := below_then hbb3 (Nat.le_refl _) hb4
  have HR4 := Lib.hid (HR3.out.go hb4)
  have HS4 := Lib.hid (HS3.out.go hb4)
  have HO4 := Lib.hid (Rd.of_own ho4)
  clear hbb3 hb4 HR3 HS3 HO3 ho4 hs3
  go_wp2_with fail
  have H5 := appendRow_nil A m c r w4 HR4.out (by omega)
  rw [HKL.out] at H5
  refine H5.mono ?_
  clear H5
  rintro e w5 ⟨A5, c5, rfl, ho5, hb5⟩
  have hbb5 := below_then hbb4 (Nat.le_refl _) hb5
  have HS5 := Lib.hid (HS4.out.go hb5)
  have HT := Lib.hid (same_any A4 A m c4 m c w5.heap.size w5.heap.size r r w5 (HO4.out.go hb5) (HR4.out.go hb5))
  rw [beq_self_eq_true] at HT
  clear hbb4 hb5 HR4 HS4 HO4 ho5
  rcases Int.lt_or_le x 0 with hneg | hpos
  · go_wp2_with (go_at_call 14; go_must (refine HT.out.mono ?_); rintro e w6 ⟨rfl, rfl⟩)
    go_ret
    exact ⟨rfl, hbb5⟩
  · obtain ⟨y, rfl⟩ := Int.eq_ofNat_of_zero_le hpos
    obtain ⟨j, hj⟩ : ∃ j, (Pk.lay y).length = j := ⟨_, rfl⟩
    have hy : y < 9223372036854775808 := by omega
    have hj9 : j ≤ 9 := by rw [← hj]; exact Pk.lay_len9 hy
    have HJ := Lib.hid hj
    have HY := Lib.hid hy
    clear hj hy hx hpos
    go_wp2_with (go_at_call 14; go_must (refine HT.out.mono ?_); rintro e w6 ⟨rfl, rfl⟩)
    have H6 := appendNumber_nil y w5 (by rw [HJ.out]; exact hj9)
    rw [HJ.out] at H6
    refine H6.mono ?_
    clear H6 HT
    rintro e w6 ⟨A6, c6, rfl, ho6, hb6⟩
    have hbb6 := below_then hbb5 (Nat.le_refl _) hb6
    have HS6 := Lib.hid (HS5.out.go hb6)
    have HO6 := Lib.hid (Rd.of_own ho6)
    clear hbb5 hb6 HS5 ho6
    go_wp2_with fail
    refine (copy_any A6 j c6 _ w6 HO6.out (bv_oneCell _) (by omega)).mono ?_
    rintro e w7 ⟨A7, c7, rfl, ho7, hb7⟩
    have hbb7 := below_then hbb6 (Nat.le_refl _) hb7
    have HS7 := Lib.hid (HS6.out.below hb7)
    have hs7 := hb7.size
    have hs6 := hbb6.size
    have h63b : j + q ≤ maxLen := by unfold maxLen; omega
    clear hbb6 hb7 HS6 HO6
    go_wp2_with (first
      | (at_builtin; go_must (refine wpList_append_rd _ rfl (.tmp 54) (.tmp 55) _ rfl w6.heap.size 5 i0 _ 1 1 Try.underlying22 hi0 hz0 hz1 hz2 rfl (by decide) _ _ _ rfl ho7 w6.heap.size B q d (bv s) rfl HS7.out (bv_oneCell s) h63b (by omega) hs7 ?_); intro A8 c8 w8 ho8 hg8 hat8)
      | fail)
    have hb78 : Below w6.heap.size w7 w8 := grown_below hg8 hs7 (own_lt ho7)
    have hbb8 := hbb7.trans (hb78.mono hs6)
    have HO8 := Lib.hid (by have := Rd.of_own ho8; rwa [← bv_app] at this)
    have HN := number_is (Pk.num_lay HY.out s) (by rw [List.length_append, HJ.out, HQ.out]) HO8.out
    rw [HJ.out] at HN
    have HN := Lib.hid HN
    clear hbb7 hb78 HS7 ho7 ho8 hg8 hat8
    refine HN.out.mono ?_
    rintro e w9 ⟨rfl, rfl⟩
    go_wp2
    go_ret
    exact ⟨rfl, hbb8⟩

theorem packBack_step (H : Type) (enc : TypeId × Value → H) (W : World) (base : Nat) (args : Array Value) (ds gs : List (DataW H)) (before : List MemPlace)
    (hval0 : ∀ (j : Nat) t v, Try.f7.params[j]? = some t → args[j]? = some v → Value.okWide Try.prog W .any base t v)
    (hW : DataW.Whole enc Try.prog Try.f7.params.toList Rows.packBackSpec.vars false W args.toList ds gs before)
    (hk : Rows.uptoSmall H (ds ++ gs) = true) :
    Calls Try.prog 7 args W fun e W' => ∃ v, e = .returned v ∧ Rows.packBackSpec.post enc Try.prog Try.f7 false true false false W args v W' := by
  have hval : ∀ (j : Nat) t v, Try.f7.params[j]? = some t → args[j]? = some v → Value.okWide Try.prog W .any base t v := hval0
  have hW' := hW
  obtain ⟨p, q, hA0, hV, rfl, hfz, hnd⟩ := hW
  have hA : DataW.TrodAll enc Try.prog W 0 (fun _ => true) true Try.f7.params.toList args.toList ds p := hA0
  rw [Try.params7] at hA hval
  obtain ⟨v0, v1, v2, d0, d1, d2, p0, p1, p2, rfl, rfl, rfl, h0, h1, h2⟩ := trodAll_three hA
  obtain ⟨rfl, rfl⟩ := trodVars_none hV
  simp only [List.append_nil] at hW' hk
  obtain ⟨x0, rfl, rfl, rfl, wx0⟩ := open_int Try.underlying3 (hval 0 3 v0 rfl rfl) h0
  have hx0 := i64_of_wf wx0
  obtain ⟨A1, n1, c1, l1, rfl, hl1, hc1, hR1⟩ := open_bytes Try.underlying22 Try.underlying5 (by kernel_rfl) (hval 1 22 v1 rfl rfl) h1
  have hcap1 := hR1.cap
  obtain ⟨A2, n2, c2, l2, rfl, hl2, hc2, hR2⟩ := open_bytes Try.underlying22 Try.underlying5 (by kernel_rfl) (hval 2 22 v2 rfl rfl) h2
  have hcap2 := hR2.cap
  have hbk := uptoBound hk
  have hz1 := Nat.le_trans (cap_le d1) (Nat.le_trans (part_le (l := [_, d1, d2]) (by simp)) hbk)
  rw [← hc1] at hz1
  have hz2 := Nat.le_trans (cap_le d2) (Nat.le_trans (part_le (l := [_, d1, d2]) (by simp)) hbk)
  rw [← hc2] at hz2
  refine (packBack_walk x0 A1 A2 n1 c1 n2 c2 l1 l2 W hl1 hl2 hR1 hR2 (by omega) hx0.2).mono fun e W' ⟨he, hb⟩ => ?_
  exact ⟨_, he, law_post laidOut (by kernel_rfl) (tb := 4) (by kernel_rfl) Try.underlying4 rfl hW' rfl hb⟩

theorem packBack_lifted (os : Os) (started : os.Started) (H : Type) (enc : TypeId × Value → H) (F : Stop.Interp) :
    ReturnsInHanded {} Try.checked os 7 .any ((Rows.OpenSpec.upto Rows.packBackSpec).pre6 enc Try.prog Try.f7 Rows.packBackUptoRow.domain false) (((Rows.OpenSpec.upto Rows.packBackSpec).at F).post enc Try.prog Try.f7 false true false false) := by
  refine returnsInHanded_of_cond (C := Try.checked) (s := Rows.OpenSpec.upto Rows.packBackSpec) (k := Rows.uptoSmall) rfl own started (by kernel_rfl) Try.func7
    (OpenSpec.witness (enc := enc) (C := Try.checked) (s := Rows.OpenSpec.upto Rows.packBackSpec) (k := Rows.uptoSmall) rfl false ⟨#[], #[.int .i64 0, .slice none 0 0, .slice none 0 0], []⟩ 8 (by kernel_rfl) (by kernel_rfl) (by kernel_rfl)
      (x := ([.lit (.int .i64 0), .nil, .nil], [], [])) (by kernel_rfl) rfl (by kernel_rfl)) ?_
  intro W base args ds gs before hval hW _ hk _
  exact packBack_step H enc W base args ds gs before hval hW hk

theorem packBack_holds : Rows.PackBackUptoSaid :=
  OpenClaim.holds_of_cond 7 Try.f7 rfl rfl rfl rfl rfl rfl rfl ⟨rfl, rfl, rfl, rfl, rfl⟩ rfl rfl rfl rfl rfl (by kernel_rfl) Try.func7 (by kernel_rfl)
    (of_decide_eq_true (by kernel_rfl)) (by unfold Func.isWrapper; first | (rw [if_pos (by decide +kernel)]; kernel_rfl) | (rw [if_neg (by decide +kernel)]; exact ⟨rfl, rfl⟩))
    (fun os started H enc _ F => packBack_lifted os started H enc F)
#print axioms packBack_holds
end Go.Proofs.Ytppghbmggpbopaa
