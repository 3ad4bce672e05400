/- PackOne holds for every input: what is read, laid again, are the same bytes. No condition. -/
import Derived.Test.YtppghbmggpbopaaPackFrame
import Derived.Test.YtppghbmggpbopaaPackNil
import Derived.Deep.RegionHeld3
namespace Go.Proofs.Ytppghbmggpbopaa
open Go.ChangeShapes Go.WideShapes Go.ChangeAt Go.RowKit
set_option maxRecDepth 100000

theorem take_two (l : List UInt8) (k x : Nat) : l.take k ++ (l.drop k).take x = l.take (k + x) := by
  rw [List.take_add]

set_option maxHeartbeats 2000000 in
/-- The number is right, the row is not. -/
theorem packOne_norow (A : Option Addr) (n c x k er : Nat) (l : List UInt8) (w : World) (hl : l.length = n) (hR : Rd w w.heap.size 1 A n c (bv l)) (hn : n + 9 ≤ 140737488355328) (hx : Pk.num l 0 l = (x, k, 0)) (hro : rowOf l n = ([], 0, er)) (her : er ≠ 0) :
    Calls Try.prog 8 #[.slice A n c] w fun e w' => e = .returned (.bool true) ∧ Below w.heap.size w w' := by
  obtain ⟨b1, b2, b3, b4, b5⟩ := Pk.num_back hx
  rw [hl] at b3
  have hcap := hR.cap
  have hlen : (l.take k).length = k := by rw [List.length_take]; omega
  have he2 : ((er : Int) != 0) = true := bne_iff_ne.2 (by omega)
  have H1 := Lib.hid fun (W : World) (hR : Rd W W.heap.size 1 A n c (bv l)) => number_is hx hl hR
  have H2 := Lib.hid fun (W : World) (hR : Rd W W.heap.size 1 A n c (bv l)) => row_is (m := 0) hro rfl hl hR (by omega)
  have H3 := fun (W : World) => appendNumber_nil x W (by rw [b4, hlen]; exact b2)
  rw [b4, hlen] at H3
  have HR := Lib.hid hR
  have H3 := Lib.hid H3
  have hu := fun W => run_upto (P := Try.prog) W 22 5 1 Try.underlying22 size_u8 A n c .i64 k k rfl (by omega)
  clear hR hl hx hro her b4 b5 hlen
  go_enter Try.func8, Try.ntmps8
  go_wp2_with fail
  refine (alive_any _).mono ?_
  rintro e w1 ⟨rfl, hb1⟩
  have HR1 := Lib.hid ((HR.out.below hb1).more hb1.size)
  clear HR
  go_wp2_with fail
  refine (H1.out _ HR1.out).mono ?_
  rintro e w2 ⟨rfl, rfl⟩
  go_wp2_with fail
  refine (H3.out _).mono ?_
  rintro e w2 ⟨A2, c2, rfl, ho2, hb2⟩
  have HR2 := Lib.hid ((HR1.out.below hb2).more hb2.size)
  have hbb := hb1.trans (hb2.mono hb1.size)
  have HS := Lib.hid (same_any A2 A k c2 k c w2.heap.size w2.heap.size (l.take k) (l.take k) w2 (Rd.of_own ho2) (by have := HR2.out.upto (m := k) (by omega); rwa [Nat.mul_one, ← bv_take] at this))
  rw [beq_self_eq_true] at HS
  clear hb1 hb2 ho2 HR1
  go_wp2_with (first
    | (go_at_call 14; go_must (refine HS.out.mono ?_); rintro e w3 ⟨rfl, rfl⟩)
    | (go_at_call 21; go_must (refine (H2.out _ HR2.out).mono ?_); rintro e w3 ⟨A3, c3, rfl, ho3, hb3⟩))
  go_ret
  exact ⟨rfl, hbb.trans (hb3.mono hbb.size)⟩

set_option maxHeartbeats 600000 in
/-- The number and the row are right. -/
theorem packOne_row (A : Option Addr) (n c x k : Nat) (l : List UInt8) (w : World) (hl : l.length = n) (hR : Rd w w.heap.size 1 A n c (bv l)) (hn : n + 9 ≤ 140737488355328) (hx : Pk.num l 0 l = (x, k, 0))
    (hkx : k + x ≤ n) (hro : rowOf l n = ((l.drop k).take x, k + x, 0)) (hrl : ((l.drop k).take x).length = x) :
    Calls Try.prog 8 #[.slice A n c] w fun e w' => e = .returned (.bool true) ∧ Below w.heap.size w w' := by
  obtain ⟨b1, b2, b3, b4, b5⟩ := Pk.num_back hx
  rw [hl] at b3
  have hcap := hR.cap
  have hlen : (l.take k).length = k := by rw [List.length_take]; omega
  have H1 := Lib.hid fun (W : World) (hR : Rd W W.heap.size 1 A n c (bv l)) => number_is hx hl hR
  have H2 := Lib.hid fun (W : World) (hR : Rd W W.heap.size 1 A n c (bv l)) => row_is hro hrl hl hR (by omega)
  have H3 := fun (W : World) => appendNumber_nil x W (by rw [b4, hlen]; exact b2)
  have H4 := fun (W : World) (A2 : Option Addr) (c2 : Nat) (hR2 : Rd W W.heap.size 1 A2 x c2 (bv ((l.drop k).take x))) => appendRow_nil A2 x c2 _ W hR2 (by omega)
  rw [b4, hlen] at H3
  rw [b4, hlen, take_two] at H4
  have HR := Lib.hid hR
  have H3 := Lib.hid H3
  have H4 := Lib.hid H4
  have hu := fun W => run_upto (P := Try.prog) W 22 5 1 Try.underlying22 size_u8 A n c .i64 k k rfl (by omega)
  have hu2 := fun W => run_upto (P := Try.prog) W 22 5 1 Try.underlying22 size_u8 A n c .i64 ((k : Int) + (x : Int)) (k + x) (by omega) (by omega)
  clear hR hl hx hro b4 b5 hlen hrl
  go_enter Try.func8, Try.ntmps8
  go_wp2_with fail
  refine (alive_any _).mono ?_
  rintro e w1 ⟨rfl, hb1⟩
  have HR1 := Lib.hid ((HR.out.below hb1).more hb1.size)
  clear HR
  go_wp2_with fail
  refine (H1.out _ HR1.out).mono ?_
  rintro e w2 ⟨rfl, rfl⟩
  go_wp2_with fail
  refine (H3.out _).mono ?_
  rintro e w2 ⟨A2, c2, rfl, ho2, hb2⟩
  have HR2 := Lib.hid ((HR1.out.below hb2).more hb2.size)
  have hbb := hb1.trans (hb2.mono hb1.size)
  have HS := Lib.hid (same_any A2 A k c2 k c w2.heap.size w2.heap.size (l.take k) (l.take k) w2 (Rd.of_own ho2) (by have := HR2.out.upto (m := k) (by omega); rwa [Nat.mul_one, ← bv_take] at this))
  rw [beq_self_eq_true] at HS
  clear hb1 hb2 ho2 HR1
  go_wp2_with (first
    | (go_at_call 14; go_must (refine HS.out.mono ?_); rintro e w3 ⟨rfl, rfl⟩)
    | (go_at_call 21; go_must (refine (H2.out _ HR2.out).mono ?_); rintro e w3 ⟨A3, c3, rfl, ho3, hb3⟩))
  have HR3 := Lib.hid ((HR2.out.below hb3).more hb3.size)
  have HO3 := Lib.hid (Rd.of_own ho3)
  have hb13 := hbb.trans (hb3.mono hbb.size)
  have hd : decide ((k : Int) + (x : Int) ≤ (n : Int)) = true := by simp; omega
  clear HS hbb hb3 ho3 HR2 H1 H2 H3 hcap hn b1 b2 b3
  have hy : ∀ s : Value, s = s := fun _ => rfl
  clear hy hu
  have hdw : w3.drew.heap.size = w3.heap.size := rfl
  clear hdw
  refine region_nrm fun K hK => ?_
  go_region_held3 (fun _ => True) (trivial) (first
    | (go_at_call 11; go_must (refine (H4.out _ _ _ (HO3.out.drew)).mono ?_); rintro e w4 ⟨A4, c4, rfl, ho4, hb4⟩)
    | (go_at_call 14; go_must (refine (same_any A4 A (k + x) c4 (k + x) c w4.heap.size w3.heap.size (l.take (k + x)) (l.take (k + x)) w4 (Rd.of_own ho4) (by have := ((HR3.out.drew).below hb4).upto (m := k + x) (by omega); rwa [Nat.mul_one, ← bv_take] at this)).mono ?_); rw [beq_self_eq_true]; rintro e w5 ⟨rfl, rfl⟩))
  refine Nrm.out (hK _ _ ?_)
  go_wp2
  go_ret
  exact ⟨rfl, (hb13.drew).trans (hb4.mono hb13.size)⟩

set_option maxHeartbeats 2000000 in
theorem packOne_err (A : Option Addr) (n c : Nat) (l : List UInt8) (w : World) (hl : l.length = n) (hR : Rd w w.heap.size 1 A n c (bv l)) (hn : n + 9 ≤ 140737488355328) (hnum : (Pk.num l 0 l).2.2 ≠ 0) :
    Calls Try.prog 8 #[.slice A n c] w fun e w' => e = .returned (.bool true) ∧ Below w.heap.size w w' := by
  obtain ⟨x, k, er, hx⟩ : ∃ x k er, Pk.num l 0 l = (x, k, er) := ⟨_, _, _, rfl⟩
  rw [hx] at hnum
  simp only at hnum
  have hro : rowOf l n = ([], 0, er) := rowOf_err (by omega) hx hnum
  have he' : ((er : Int) == 0) = false := beq_eq_false_iff_ne.2 (by omega)
  have he2 : ((er : Int) != 0) = true := bne_iff_ne.2 (by omega)
  have H1 := Lib.hid fun (W : World) (hR : Rd W W.heap.size 1 A n c (bv l)) => number_is hx hl hR
  have H2 := Lib.hid fun (W : World) (hR : Rd W W.heap.size 1 A n c (bv l)) => row_is (m := 0) hro rfl hl hR (by omega)
  have HR := Lib.hid hR
  clear hR hl hx hro hnum
  go_enter Try.func8, Try.ntmps8
  go_wp2_with fail
  refine (alive_any _).mono ?_
  rintro e w1 ⟨rfl, hb1⟩
  have HR1 := Lib.hid ((HR.out.below hb1).more hb1.size)
  clear HR
  go_wp2_with (first
    | (go_at_call 18; go_must (refine (H1.out _ HR1.out).mono ?_); rintro e w2 ⟨rfl, rfl⟩)
    | (go_at_call 21; go_must (refine (H2.out _ HR1.out).mono ?_); rintro e w2 ⟨A2, c2, rfl, ho2, hb2⟩))
  go_ret
  exact ⟨rfl, hb1.trans (hb2.mono hb1.size)⟩

theorem packOne_walk (A : Option Addr) (n c : Nat) (l : List UInt8) (w : World) (hl : l.length = n) (hR : Rd w w.heap.size 1 A n c (bv l)) (hn : n + 9 ≤ 140737488355328) :
    Calls Try.prog 8 #[.slice A n c] w fun e w' => e = .returned (.bool true) ∧ Below w.heap.size w w' := by
  by_cases hz : (Pk.num l 0 l).2.2 = 0
  · rcases rowOf_len l with ⟨er, h1, h2⟩ | ⟨x, k, h1, h2, h3, h4, h5, h6, h7⟩
    · obtain ⟨x, k, e3, hx⟩ : ∃ x k er, Pk.num l 0 l = (x, k, er) := ⟨_, _, _, rfl⟩
      rw [hx] at hz
      simp only at hz
      subst hz
      rw [hl] at h1
      exact packOne_norow A n c x k er l w hl hR hn hx h1 h2
    · rw [hl] at h2 h3
      exact packOne_row A n c x k l w hl hR hn h1 h2 h3 h7
  · exact packOne_err A n c l w hl hR hn hz

theorem packOne_step (H : Type) (enc : TypeId × Value → H) (W : World) (base : Nat) (args : Array Value) (ds gs : List (DataW H)) (before : List MemPlace)
    (hval0 : ∀ (j : Nat) t v, Try.f8.params[j]? = some t → args[j]? = some v → Value.okWide Try.prog W .any base t v)
    (hW : DataW.Whole enc Try.prog Try.f8.params.toList Rows.packOneSpec.vars false W args.toList ds gs before)
    (hsz : (DataW.weightsEach Try.prog (Try.f8.params.toList ++ Rows.packOneSpec.plain.varTypes Try.prog) (ds ++ gs)).all (· ≤ reachBytes) = true) :
    Calls Try.prog 8 args W fun e W' => ∃ v, e = .returned v ∧ Rows.packOneSpec.post enc Try.prog Try.f8 false true false false W args v W' := by
  have hval : ∀ (j : Nat) t v, Try.f8.params[j]? = some t → args[j]? = some v → Value.okWide Try.prog W .any base t v := hval0
  have hW' := hW
  obtain ⟨p, q, hA0, hV, rfl, hfz, hnd⟩ := hW
  have hA : DataW.TrodAll enc Try.prog W 0 (fun _ => true) true Try.f8.params.toList args.toList ds p := hA0
  rw [Try.params8] at hA hval hsz
  obtain ⟨v0, d0, rfl, rfl, h0⟩ := trodAll_one hA
  obtain ⟨rfl, rfl⟩ := trodVars_none hV
  simp only [List.append_nil] at hW' hsz
  obtain ⟨A0, n0, c0, l0, rfl, hl0, hc0, hR0⟩ := open_bytes Try.underlying22 Try.underlying5 (by kernel_rfl) (hval 0 22 v0 rfl rfl) h0
  have hz0 := reach_slice hsz (j := 0) rfl rfl Try.underlying22
  rw [show Try.prog.bytesOf 5 = 1 by kernel_rfl, Nat.mul_one, ← hc0] at hz0
  have hcap0 := hR0.cap
  refine (packOne_walk A0 n0 c0 l0 W hl0 hR0 (by omega)).mono fun e W' ⟨he, hb⟩ => ?_
  exact ⟨_, he, law_post laidOut (by kernel_rfl) (tb := 4) (by kernel_rfl) Try.underlying4 rfl hW' rfl hb⟩

theorem packOne_lifted (os : Os) (started : os.Started) (H : Type) (enc : TypeId × Value → H) :
    ReturnsInHanded {} Try.checked os 8 .any (Rows.packOneSpec.pre6 enc Try.prog Try.f8 Rows.packOneRow.domain false) (Rows.packOneSpec.post enc Try.prog Try.f8 false true false false) := by
  refine returnsInHanded_of_change_sized (C := Try.checked) own started (by kernel_rfl) Try.func8
    (ChangeSpec.witness6 (enc := enc) (C := Try.checked) false ⟨#[], #[.slice none 0 0], []⟩ 8 (by kernel_rfl) (by kernel_rfl) (by kernel_rfl) (by kernel_rfl)) ?_
  intro W base args ds gs before hval hW _ hsz _
  exact packOne_step H enc W base args ds gs before hval hW hsz

theorem packOne_holds : Rows.PackOneSaid :=
  OpenClaim.holds_of_wide 8 Try.f8 rfl rfl rfl rfl rfl rfl rfl ⟨rfl, rfl, rfl, rfl, rfl⟩ rfl rfl rfl rfl rfl (by kernel_rfl) Try.func8 (by kernel_rfl)
    (of_decide_eq_true (by kernel_rfl)) (by unfold Func.isWrapper; first | (rw [if_pos (by decide +kernel)]; kernel_rfl) | (rw [if_neg (by decide +kernel)]; exact ⟨rfl, rfl⟩))
    (fun os started H enc _ => packOne_lifted os started H enc)
#print axioms packOne_holds
end Go.Proofs.Ytppghbmggpbopaa
