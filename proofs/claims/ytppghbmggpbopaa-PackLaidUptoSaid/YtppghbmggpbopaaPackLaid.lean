/- PackLaid holds where the arguments are of bulk at most 1048576 (the second form; at arguments near 2^47 bytes the row laid behind the bytes would pass what a slice may hold): any row is laid behind any bytes as the document says, and what stood in their spare room stays. -/
import Derived.Test.YtppghbmggpbopaaPackFrame
namespace Go.Proofs.Ytppghbmggpbopaa
open Go.ChangeShapes Go.WideShapes Go.ChangeAt Go.RowKit
set_option maxRecDepth 100000

set_option maxHeartbeats 1000000 in
theorem packLaid_walk (A B : Option Addr) (n c m d : Nat) (l r : List UInt8) (w : World) (hl : l.length = n) (hr : r.length = m) (hR : Rd w w.heap.size 1 A n c (bv l)) (hR2 : Rd w w.heap.size 1 B m d (bv r)) (hn : n + 9 + m ≤ 140737488355328) :
    Calls Try.prog 3 #[.slice A n c, .slice B m d] w fun e w' => e = .returned (.bool true) ∧ Below w.heap.size w w' := by
  obtain ⟨k, hk⟩ : ∃ k, (Pk.lay m).length = k := ⟨_, rfl⟩
  have hk9 : k ≤ 9 := by rw [← hk]; exact Pk.lay_len9 (by omega)
  have HKL := Lib.hid hk
  have HR := Lib.hid hR
  have HR2 := Lib.hid hR2
  have HL := Lib.hid hl
  have HM := Lib.hid hr
  clear hR hR2 hl hk hr
  go_enter Try.func3, Try.ntmps3
  go_wp2_with fail
  refine (alive_any _).mono ?_
  rintro e w1 ⟨rfl, hb⟩
  have HR1 := Lib.hid ((HR.out.below hb).more hb.size)
  have HS1 := Lib.hid ((HR2.out.below hb).more hb.size)
  clear HR HR2
  go_wp2_with fail
  refine (spare_any A n c l w1 HR1.out (by omega)).mono ?_
  rintro e w2 ⟨A2, c2, rfl, ho2, hb2⟩
  have hbb : Below w.heap.size w w2 := hb.trans (hb2.mono hb.size)
  have HO2 := Lib.hid ho2
  have HR2 := Lib.hid ((HR1.out.below hb2).more hb2.size)
  have HS2 := Lib.hid ((HS1.out.below hb2).more hb2.size)
  have HRS := Lib.hid (by have := (Rd.of_own ho2).upto (m := n) (by omega); rwa [Nat.mul_one, ← bv_take, List.take_left' HL.out] at this)
  clear hb hb2 ho2 HR1 HS1
  go_wp2_with fail
  have H3 := appendRow_any A2 B n c2 m d l r w2 HL.out HRS.out HS2.out hn
  rw [HKL.out, Nat.add_assoc, List.append_assoc] at H3
  refine H3.mono ?_
  clear H3
  rintro e w3 ⟨A3, c3, rfl, ho3, hb3⟩
  have hbb3 : Below w.heap.size w w3 := hbb.trans (hb3.mono hbb.size)
  have HR3 := Lib.hid ((HR2.out.below hb3).more hb3.size)
  have HS3 := Lib.hid ((HS2.out.below hb3).more hb3.size)
  have HO2' := Lib.hid ((Rd.of_own HO2.out).go hb3)
  clear hb3 hbb HR2 HRS HS2
  obtain ⟨hc3, hs1, hs2⟩ := own_split ho3 HL.out
  have HX1 := Lib.hid hs1
  have HX2 := Lib.hid hs2
  clear ho3 hs1 hs2
  go_wp2_with fail
  have H4 := refLaid_any B m d r w3 HS3.out (by omega)
  rw [HKL.out] at H4
  refine H4.mono ?_
  clear H4
  rintro e w4 ⟨A4, c4, rfl, ho4, hb4⟩
  have HB := Lib.hid (hbb3.trans (hb4.mono hbb3.size))
  have HK := Lib.hid (kept_any A2 A n c2 c w4.heap.size w4.heap.size l w4 (by omega) HL.out (HO2'.out.go hb4) (HR3.out.go hb4))
  have HT1 := Lib.hid (same_any A3 A n c3 n c w4.heap.size w4.heap.size l l w4 (HX1.out.go hb4) (HR3.out.go hb4))
  have HT2 := Lib.hid (same_any (cutAt 1 A3 c3 n) A4 (k + m) (c3 - n) (k + m) c4 w4.heap.size w4.heap.size (Pk.lay m ++ r) (Pk.lay m ++ r) w4 (HX2.out.go hb4) (Rd.of_own ho4))
  rw [beq_self_eq_true] at HT1 HT2
  have hu := fun W => run_upto (P := Try.prog) W 22 5 1 Try.underlying22 size_u8 A3 (n + (k + m)) c3 .i64 n n rfl (by omega)
  have hf := fun W => run_from (P := Try.prog) W 22 5 1 Try.underlying22 size_u8 A3 (n + (k + m)) c3 .i64 n n rfl (by omega)
  simp only [Nat.add_sub_cancel_left] at hf
  clear hbb3 hb4 HR3 HS3 HX1 HX2 ho4 HO2' HO2
  go_wp2_with (first
    | (go_at_call 13; go_must (refine HK.out.mono ?_); rintro e w5 ⟨rfl, rfl⟩)
    | (go_at_call 14; refine HT1.out.mono ?_; rintro e w5 ⟨rfl, rfl⟩)
    | (go_at_call 14; go_must (refine HT2.out.mono ?_); rintro e w5 ⟨rfl, rfl⟩))
  go_ret
  exact ⟨rfl, HB.out⟩

theorem packLaid_step (H : Type) (enc : TypeId × Value → H) (W : World) (base : Nat) (args : Array Value) (ds gs : List (DataW H)) (before : List MemPlace)
    (hval0 : ∀ (j : Nat) t v, Try.f3.params[j]? = some t → args[j]? = some v → Value.okWide Try.prog W .any base t v)
    (hW : DataW.Whole enc Try.prog Try.f3.params.toList Rows.packLaidSpec.vars false W args.toList ds gs before)
    (hk : Rows.uptoSmall H (ds ++ gs) = true) :
    Calls Try.prog 3 args W fun e W' => ∃ v, e = .returned v ∧ Rows.packLaidSpec.post enc Try.prog Try.f3 false true false false W args v W' := by
  have hval : ∀ (j : Nat) t v, Try.f3.params[j]? = some t → args[j]? = some v → Value.okWide Try.prog W .any base t v := hval0
  have hW' := hW
  obtain ⟨p, q, hA0, hV, rfl, hfz, hnd⟩ := hW
  have hA : DataW.TrodAll enc Try.prog W 0 (fun _ => true) true Try.f3.params.toList args.toList ds p := hA0
  rw [Try.params3] at hA hval
  obtain ⟨v0, v1, d0, d1, p0, p1, rfl, rfl, rfl, h0, h1⟩ := trodAll_two hA
  obtain ⟨rfl, rfl⟩ := trodVars_none hV
  simp only [List.append_nil] at hW' hk
  obtain ⟨A0, n0, c0, l0, rfl, hl0, hc0, hR0⟩ := open_bytes Try.underlying22 Try.underlying5 (by kernel_rfl) (hval 0 22 v0 rfl rfl) h0
  have hcap0 := hR0.cap
  obtain ⟨A1, n1, c1, l1, rfl, hl1, hc1, hR1⟩ := open_bytes Try.underlying22 Try.underlying5 (by kernel_rfl) (hval 1 22 v1 rfl rfl) h1
  have hcap1 := hR1.cap
  have hbk := uptoBound hk
  have hz0 := Nat.le_trans (cap_le d0) (Nat.le_trans (part_le (l := [d0, d1]) (by simp)) hbk)
  rw [← hc0] at hz0
  have hz1 := Nat.le_trans (cap_le d1) (Nat.le_trans (part_le (l := [d0, d1]) (by simp)) hbk)
  rw [← hc1] at hz1
  refine (packLaid_walk A0 A1 n0 c0 n1 c1 l0 l1 W hl0 hl1 hR0 hR1 (by omega)).mono fun e W' ⟨he, hb⟩ => ?_
  exact ⟨_, he, law_post laidOut (by kernel_rfl) (tb := 4) (by kernel_rfl) Try.underlying4 rfl hW' rfl hb⟩

theorem packLaid_lifted (os : Os) (started : os.Started) (H : Type) (enc : TypeId × Value → H) (F : Stop.Interp) :
    ReturnsInHanded {} Try.checked os 3 .any ((Rows.OpenSpec.upto Rows.packLaidSpec).pre6 enc Try.prog Try.f3 Rows.packLaidUptoRow.domain false) (((Rows.OpenSpec.upto Rows.packLaidSpec).at F).post enc Try.prog Try.f3 false true false false) := by
  refine returnsInHanded_of_cond (C := Try.checked) (s := Rows.OpenSpec.upto Rows.packLaidSpec) (k := Rows.uptoSmall) rfl own started (by kernel_rfl) Try.func3
    (OpenSpec.witness (enc := enc) (C := Try.checked) (s := Rows.OpenSpec.upto Rows.packLaidSpec) (k := Rows.uptoSmall) rfl false ⟨#[], #[.slice none 0 0, .slice none 0 0], []⟩ 8 (by kernel_rfl) (by kernel_rfl) (by kernel_rfl)
      (x := ([.nil, .nil], [], [])) (by kernel_rfl) rfl (by kernel_rfl)) ?_
  intro W base args ds gs before hval hW _ hk _
  exact packLaid_step H enc W base args ds gs before hval hW hk

theorem packLaid_holds : Rows.PackLaidUptoSaid :=
  OpenClaim.holds_of_cond 3 Try.f3 rfl rfl rfl rfl rfl rfl rfl ⟨rfl, rfl, rfl, rfl, rfl⟩ rfl rfl rfl rfl rfl (by kernel_rfl) Try.func3 (by kernel_rfl)
    (of_decide_eq_true (by kernel_rfl)) (by unfold Func.isWrapper; first | (rw [if_pos (by decide +kernel)]; kernel_rfl) | (rw [if_neg (by decide +kernel)]; exact ⟨rfl, rfl⟩))
    (fun os started H enc _ F => packLaid_lifted os started H enc F)
#print axioms packLaid_holds
end Go.Proofs.Ytppghbmggpbopaa
