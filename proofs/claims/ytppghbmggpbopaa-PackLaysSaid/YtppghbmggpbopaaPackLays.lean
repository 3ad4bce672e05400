/- PackLays holds for every input: any number is laid behind any bytes as the document says, or refused, and what stood in their spare room stays. No condition. -/
import Derived.Test.YtppghbmggpbopaaPackFrame
namespace Go.Proofs.Ytppghbmggpbopaa
open Go.ChangeShapes Go.WideShapes Go.ChangeAt Go.RowKit
set_option maxRecDepth 100000

set_option maxHeartbeats 1000000 in
theorem packLays_neg (A : Option Addr) (n c : Nat) (l : List UInt8) (x : Int) (w : World) (hl : l.length = n) (hR : Rd w w.heap.size 1 A n c (bv l)) (hn : n + 9 ≤ 140737488355328) (hx : x < 0) :
    Calls Try.prog 4 #[.slice A n c, .int .i64 x] w fun e w' => e = .returned (.bool true) ∧ Below w.heap.size w w' := by
  have HR := Lib.hid hR
  have HL := Lib.hid hl
  clear hR hl
  go_enter Try.func4, Try.ntmps4
  go_wp2_with fail
  refine (alive_any _).mono ?_
  rintro e w1 ⟨rfl, hb⟩
  have HR1 := Lib.hid ((HR.out.below hb).more hb.size)
  clear HR
  go_wp2_with fail
  refine (spare_any A n c l w1 HR1.out (by omega)).mono ?_
  rintro e w2 ⟨A2, c2, rfl, ho2, hb2⟩
  have hbb : Below w.heap.size w w2 := hb.trans (hb2.mono hb.size)
  have HK := Lib.hid (kept_any A2 A n c2 c w2.heap.size w2.heap.size l w2 (by omega) HL.out ((Rd.of_own ho2)) ((HR1.out.below hb2).more hb2.size))
  clear hb hb2 ho2
  go_wp2_with (first
    | (go_at_call 15; go_must (refine (appendNumber_neg _ _ _ _ _ hx).mono ?_); rintro e w3 ⟨rfl, rfl⟩)
    | (go_at_call 13; go_must (refine HK.out.mono ?_); rintro e w3 ⟨rfl, rfl⟩)
    | (go_at_call 16; go_must (refine (len_neg _ _ hx).mono ?_); rintro e w3 ⟨rfl, rfl⟩))
  go_ret
  exact ⟨rfl, hbb⟩

set_option maxHeartbeats 1000000 in
theorem packLays_pos (A : Option Addr) (n c : Nat) (l : List UInt8) (x : Nat) (w : World) (hl : l.length = n) (hR : Rd w w.heap.size 1 A n c (bv l)) (hn : n + 9 ≤ 140737488355328) (hx : x < 9223372036854775808) :
    Calls Try.prog 4 #[.slice A n c, .int .i64 x] w fun e w' => e = .returned (.bool true) ∧ Below w.heap.size w w' := by
  obtain ⟨k, hk⟩ : ∃ k, (Pk.lay x).length = k := ⟨_, rfl⟩
  have hk9 : k ≤ 9 := by rw [← hk]; exact Pk.lay_len9 hx
  have HX := Lib.hid hx
  have HKL := Lib.hid hk
  have HR := Lib.hid hR
  have HL := Lib.hid hl
  clear hR hl hx hk
  go_enter Try.func4, Try.ntmps4
  go_wp2_with fail
  refine (alive_any _).mono ?_
  rintro e w1 ⟨rfl, hb⟩
  have HR1 := Lib.hid ((HR.out.below hb).more hb.size)
  clear HR
  go_wp2_with fail
  refine (spare_any A n c l w1 HR1.out (by omega)).mono ?_
  rintro e w2 ⟨A2, c2, rfl, ho2, hb2⟩
  have hbb : Below w.heap.size w w2 := hb.trans (hb2.mono hb.size)
  have HO2 := Lib.hid ho2
  have HR2 := Lib.hid ((HR1.out.below hb2).more hb2.size)
  have HRS := Lib.hid (by have := (Rd.of_own ho2).upto (m := n) (by omega); rwa [Nat.mul_one, ← bv_take, List.take_left' HL.out] at this)
  clear hb hb2 ho2 HR1
  go_wp2_with fail
  have H3 := appendNumber_any A2 n c2 x l w2 HL.out HRS.out hn (by rw [HKL.out]; exact hk9)
  rw [HKL.out] at H3
  refine H3.mono ?_
  clear H3
  rintro e w3 ⟨A3, c3, rfl, ho3, hb3⟩
  have hbb3 : Below w.heap.size w w3 := hbb.trans (hb3.mono hbb.size)
  have HR3 := Lib.hid ((HR2.out.below hb3).more hb3.size)
  have HK := Lib.hid (kept_any A2 A n c2 c w2.heap.size w3.heap.size l w3 (by omega) HL.out ((Rd.of_own HO2.out).below hb3) HR3.out)
  clear hb3 hbb HR2 HRS HO2
  obtain ⟨hc3, hs1, hs2⟩ := own_split ho3 HL.out
  have HO3 := Lib.hid ho3
  have HS1 := Lib.hid hs1
  have HS2 := Lib.hid hs2
  clear ho3 hs1 hs2
  go_wp2_with fail
  refine HK.out.mono ?_
  clear HK
  rintro e w4 ⟨rfl, rfl⟩
  go_wp2_with fail
  have H4 := refBytes_any x w3 HX.out
  rw [HKL.out] at H4
  refine H4.mono ?_
  clear H4
  rintro e w4 ⟨A4, c4, rfl, ho4, hb4⟩
  have HB := Lib.hid (hbb3.trans (hb4.mono hbb3.size))
  have HS3 := Lib.hid (same_any A3 A n c3 n c w3.heap.size w3.heap.size l l w4 (HS1.out.below hb4) (HR3.out.below hb4))
  have HS4 := Lib.hid (same_any (cutAt 1 A3 c3 n) A4 k (c3 - n) k c4 w3.heap.size w4.heap.size (Pk.lay x) (Pk.lay x) w4 (HS2.out.below hb4) (Rd.of_own ho4))
  have HLen := Lib.hid (len_any x w4 (by rw [HKL.out]; exact hk9))
  rw [HKL.out] at HLen
  rw [beq_self_eq_true] at HS3 HS4
  have hu := fun W => run_upto (P := Try.prog) W 22 5 1 Try.underlying22 size_u8 A3 (n + k) c3 .i64 n n rfl (by omega)
  have hf := fun W => run_from (P := Try.prog) W 22 5 1 Try.underlying22 size_u8 A3 (n + k) c3 .i64 n n rfl (by omega)
  simp only [Nat.add_sub_cancel_left] at hf
  clear hbb3 hb4 HR3 HS1 HS2 ho4 HO3
  go_wp2_with (first
    | (go_at_call 14; refine HS3.out.mono ?_; rintro e w5 ⟨rfl, rfl⟩)
    | (go_at_call 14; go_must (refine HS4.out.mono ?_); rintro e w5 ⟨rfl, rfl⟩)
    | (go_at_call 16; go_must (refine HLen.out.mono ?_); rintro e w5 ⟨rfl, rfl⟩))
  go_ret
  exact ⟨rfl, HB.out⟩

theorem packLays_walk (A : Option Addr) (n c : Nat) (l : List UInt8) (x : Int) (w : World) (hl : l.length = n) (hR : Rd w w.heap.size 1 A n c (bv l)) (hn : n + 9 ≤ 140737488355328) (hx : x ≤ 9223372036854775807) :
    Calls Try.prog 4 #[.slice A n c, .int .i64 x] w fun e w' => e = .returned (.bool true) ∧ Below w.heap.size w w' := by
  rcases Int.lt_or_le x 0 with h | h
  · exact packLays_neg A n c l x w hl hR hn h
  · obtain ⟨y, rfl⟩ := Int.eq_ofNat_of_zero_le h
    exact packLays_pos A n c l y w hl hR hn (by omega)

theorem packLays_step (H : Type) (enc : TypeId × Value → H) (W : World) (base : Nat) (args : Array Value) (ds gs : List (DataW H)) (before : List MemPlace)
    (hval0 : ∀ (j : Nat) t v, Try.f4.params[j]? = some t → args[j]? = some v → Value.okWide Try.prog W .any base t v)
    (hW : DataW.Whole enc Try.prog Try.f4.params.toList Rows.packLaysSpec.vars false W args.toList ds gs before)
    (hsz : (DataW.weightsEach Try.prog (Try.f4.params.toList ++ Rows.packLaysSpec.plain.varTypes Try.prog) (ds ++ gs)).all (· ≤ reachBytes) = true) :
    Calls Try.prog 4 args W fun e W' => ∃ v, e = .returned v ∧ Rows.packLaysSpec.post enc Try.prog Try.f4 false true false false W args v W' := by
  have hval : ∀ (j : Nat) t v, Try.f4.params[j]? = some t → args[j]? = some v → Value.okWide Try.prog W .any base t v := hval0
  have hW' := hW
  obtain ⟨p, q, hA0, hV, rfl, hfz, hnd⟩ := hW
  have hA : DataW.TrodAll enc Try.prog W 0 (fun _ => true) true Try.f4.params.toList args.toList ds p := hA0
  rw [Try.params4] at hA hval hsz
  obtain ⟨v0, v1, d0, d1, p0, p1, rfl, rfl, rfl, h0, h1⟩ := trodAll_two hA
  obtain ⟨rfl, rfl⟩ := trodVars_none hV
  simp only [List.append_nil] at hW' hsz
  obtain ⟨A0, n0, c0, l0, rfl, hl0, hc0, hR0⟩ := open_bytes Try.underlying22 Try.underlying5 (by kernel_rfl) (hval 0 22 v0 rfl rfl) h0
  have hz0 := reach_slice hsz (j := 0) rfl rfl Try.underlying22
  rw [show Try.prog.bytesOf 5 = 1 by kernel_rfl, Nat.mul_one, ← hc0] at hz0
  have hcap0 := hR0.cap
  obtain ⟨x1, rfl, rfl, rfl, wx1⟩ := open_int Try.underlying3 (hval 1 3 v1 rfl rfl) h1
  have hx1 := i64_of_wf wx1
  refine (packLays_walk A0 n0 c0 l0 x1 W hl0 hR0 (by omega) hx1.2).mono fun e W' ⟨he, hb⟩ => ?_
  exact ⟨_, he, law_post laidOut (by kernel_rfl) (tb := 4) (by kernel_rfl) Try.underlying4 rfl hW' rfl hb⟩

theorem packLays_lifted (os : Os) (started : os.Started) (H : Type) (enc : TypeId × Value → H) :
    ReturnsInHanded {} Try.checked os 4 .any (Rows.packLaysSpec.pre6 enc Try.prog Try.f4 Rows.packLaysRow.domain false) (Rows.packLaysSpec.post enc Try.prog Try.f4 false true false false) := by
  refine returnsInHanded_of_change_sized (C := Try.checked) own started (by kernel_rfl) Try.func4
    (ChangeSpec.witness6 (enc := enc) (C := Try.checked) false ⟨#[], #[.slice none 0 0, .int .i64 0], []⟩ 8 (by kernel_rfl) (by kernel_rfl) (by kernel_rfl) (by kernel_rfl)) ?_
  intro W base args ds gs before hval hW _ hsz _
  exact packLays_step H enc W base args ds gs before hval hW hsz

theorem packLays_holds : Rows.PackLaysSaid :=
  OpenClaim.holds_of_wide 4 Try.f4 rfl rfl rfl rfl rfl rfl rfl ⟨rfl, rfl, rfl, rfl, rfl⟩ rfl rfl rfl rfl rfl (by kernel_rfl) Try.func4 (by kernel_rfl)
    (of_decide_eq_true (by kernel_rfl)) (by unfold Func.isWrapper; first | (rw [if_pos (by decide +kernel)]; kernel_rfl) | (rw [if_neg (by decide +kernel)]; exact ⟨rfl, rfl⟩))
    (fun os started H enc _ => packLays_lifted os started H enc)
#print axioms packLays_holds
end Go.Proofs.Ytppghbmggpbopaa
