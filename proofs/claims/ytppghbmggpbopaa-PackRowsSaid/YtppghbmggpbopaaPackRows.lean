/- PackRows holds for every input: the row that any bytes begin with is the document's, or its error, and it is new memory. No condition. -/
import Derived.Test.YtppghbmggpbopaaPackFrame
namespace Go.Proofs.Ytppghbmggpbopaa
open Go.ChangeShapes Go.WideShapes Go.ChangeAt Go.RowKit
set_option maxRecDepth 100000

set_option maxHeartbeats 1000000 in
theorem packRows_walk (A : Option Addr) (n c : Nat) (l : List UInt8) (most : Int) (w : World) (hl : l.length = n) (hR : Rd w w.heap.size 1 A n c (bv l)) (hn : n ≤ 140737488355328) :
    Calls Try.prog 6 #[.slice A n c, .int .i64 most] w fun e w' => e = .returned (.bool true) ∧ Below w.heap.size w w' := by
  have HR := Lib.hid hR
  have HL := Lib.hid hl
  clear hR hl
  go_enter Try.func6, Try.ntmps6
  go_wp2_with fail
  refine (alive_any _).mono ?_
  rintro e w1 ⟨rfl, hb1⟩
  have HR1 := Lib.hid ((HR.out.below hb1).more hb1.size)
  clear HR
  go_wp2_with fail
  refine (copy_any A n c (bv l) w1 HR1.out (bv_oneCell _) hn).mono ?_
  rintro e w2 ⟨A2, c2, rfl, ho2, hb2⟩
  have hbb : Below w.heap.size w w2 := hb1.trans (hb2.mono hb1.size)
  have HR2 := Lib.hid ((HR1.out.below hb2).more hb2.size)
  have HO2 := Lib.hid (Rd.of_own ho2)
  clear hb1 hb2 ho2 HR1
  go_wp2_with fail
  refine (row_any A2 n c2 l most w2 HL.out HO2.out hn).mono ?_
  obtain ⟨r, hr⟩ : ∃ r, r = rowOf l most := ⟨_, rfl⟩
  rw [← hr]
  have HRow := Lib.hid hr
  clear hr
  rintro e w3 ⟨A3, c3, rfl, ho3, hb3⟩
  have HR3 := Lib.hid ((HR2.out.below hb3).more hb3.size)
  have HO3 := Lib.hid ho3
  clear ho3
  go_wp2_with fail
  refine (refRow_any A n c l most w3 HL.out HR3.out hn).mono ?_
  rw [← HRow.out]
  rintro e w4 ⟨A4, c4, rfl, ho4, hb4⟩
  have hb24 : Below w2.heap.size w2 w4 := hb3.trans (hb4.mono hb3.size)
  have HO4 := Lib.hid (own_below HO3.out hb4 (Nat.le_refl _))
  obtain ⟨m, hm⟩ : ∃ m, m = r.1.length := ⟨_, rfl⟩
  have HS := Lib.hid (same_any A3 A4 m c3 m c4 w4.heap.size w4.heap.size r.1 r.1 w4 (by rw [hm]; exact Rd.of_own HO4.out) (by rw [hm]; exact Rd.of_own ho4))
  rw [beq_self_eq_true] at HS
  rw [← hm] at HO4 ⊢
  have hmax : m ≤ 9223372036854775807 := by
    have h1 := (Rd.of_own HO4.out).cap
    have h2 := (Rd.of_own HO4.out).max
    unfold maxLen at h2; omega
  have HM := Lib.hid hm
  clear hm ho4 hb3 hb4 HO3 HRow HR3
  go_wp2_with (go_at_call 14; go_must (refine HS.out.mono ?_); rintro e w5 ⟨rfl, rfl⟩)
  go_loopw [13] (fun i wr => ∃ (k : Nat) (zs : List Int), k ≤ m ∧ i = .int .i64 k ∧ zs.length = m ∧ Below w2.heap.size w2 wr ∧ wr.ownsRow w2.heap.size 5 1 (.slice A3 m c3) m (zs.map (Value.int .u8))) (fun i _ => m - (intOf i).toNat)
  case atStart =>
    refine ⟨0, r.1.map (fun b => (b.toNat : Int)), by omega, rfl, by rw [List.length_map, ← HM.out], hb24, ?_⟩
    have := HO4.out
    simpa [bv, Function.comp_def] using this
  case round =>
    obtain ⟨k, zs, hk, rfl, hzl, hb5, ho5⟩ := hrel
    by_cases hlt : k < m
    · obtain ⟨g, rfl, hg, hc⟩ := own_at ho5 (by omega)
      have hc1 := hc k hlt
      have hf1 := ho5.frozenAt k
      have hkz : k < zs.length := by omega
      rw [List.getElem?_map, List.getElem?_eq_getElem hkz] at hc1
      simp only [Option.map_some] at hc1
      have HO5 := Lib.hid ho5
      have HZ := Lib.hid hzl
      generalize zs[k] = z at hc1
      clear hc ho5 hzl hkz
      go_wp2
      go_roundw
      case rel =>
        refine ⟨k + 1, zs.set k (bits BinOp.xor IntKind.u8 z 255), by omega, by go_num, by rw [List.length_set]; exact HZ.out, hb5.setCell (p := ⟨g, k, none⟩) hg _, ?_⟩
        rw [List.map_set]
        exact (HO5.out.stored k _).1
      case measure => simp [intOf]; omega
    · obtain rfl : k = m := by omega
      have HB := Lib.hid (hbb.trans (hb5.mono hbb.size))
      have HS2 := Lib.hid (same_any A2 A n c2 n c w2.heap.size w2.heap.size l l wr (HO2.out.below hb5) (HR2.out.below hb5))
      rw [beq_self_eq_true] at HS2
      clear ho5 hb5 hzl hb24 hbb
      go_wp2_with (go_at_call 14; go_must (refine HS2.out.mono ?_); rintro e w5 ⟨rfl, rfl⟩)
      go_ret
      exact ⟨rfl, HB.out⟩

theorem packRows_step (H : Type) (enc : TypeId × Value → H) (W : World) (base : Nat) (args : Array Value) (ds gs : List (DataW H)) (before : List MemPlace)
    (hval0 : ∀ (j : Nat) t v, Try.f6.params[j]? = some t → args[j]? = some v → Value.okWide Try.prog W .any base t v)
    (hW : DataW.Whole enc Try.prog Try.f6.params.toList Rows.packRowsSpec.vars false W args.toList ds gs before)
    (hsz : (DataW.weightsEach Try.prog (Try.f6.params.toList ++ Rows.packRowsSpec.plain.varTypes Try.prog) (ds ++ gs)).all (· ≤ reachBytes) = true) :
    Calls Try.prog 6 args W fun e W' => ∃ v, e = .returned v ∧ Rows.packRowsSpec.post enc Try.prog Try.f6 false true false false W args v W' := by
  have hval : ∀ (j : Nat) t v, Try.f6.params[j]? = some t → args[j]? = some v → Value.okWide Try.prog W .any base t v := hval0
  have hW' := hW
  obtain ⟨p, q, hA0, hV, rfl, hfz, hnd⟩ := hW
  have hA : DataW.TrodAll enc Try.prog W 0 (fun _ => true) true Try.f6.params.toList args.toList ds p := hA0
  rw [Try.params6] at hA hval hsz
  obtain ⟨v0, v1, d0, d1, p0, p1, rfl, rfl, rfl, h0, h1⟩ := trodAll_two hA
  obtain ⟨rfl, rfl⟩ := trodVars_none hV
  simp only [List.append_nil] at hW' hsz
  obtain ⟨A0, n0, c0, l0, rfl, hl0, hc0, hR0⟩ := open_bytes Try.underlying22 Try.underlying5 (by kernel_rfl) (hval 0 22 v0 rfl rfl) h0
  have hz0 := reach_slice hsz (j := 0) rfl rfl Try.underlying22
  rw [show Try.prog.bytesOf 5 = 1 by kernel_rfl, Nat.mul_one, ← hc0] at hz0
  have hcap0 := hR0.cap
  obtain ⟨x1, rfl, rfl, rfl, wx1⟩ := open_int Try.underlying3 (hval 1 3 v1 rfl rfl) h1
  have hx1 := i64_of_wf wx1
  refine (packRows_walk A0 n0 c0 l0 x1 W hl0 hR0 (by omega)).mono fun e W' ⟨he, hb⟩ => ?_
  exact ⟨_, he, law_post laidOut (by kernel_rfl) (tb := 4) (by kernel_rfl) Try.underlying4 rfl hW' rfl hb⟩

theorem packRows_lifted (os : Os) (started : os.Started) (H : Type) (enc : TypeId × Value → H) :
    ReturnsInHanded {} Try.checked os 6 .any (Rows.packRowsSpec.pre6 enc Try.prog Try.f6 Rows.packRowsRow.domain false) (Rows.packRowsSpec.post enc Try.prog Try.f6 false true false false) := by
  refine returnsInHanded_of_change_sized (C := Try.checked) own started (by kernel_rfl) Try.func6
    (ChangeSpec.witness6 (enc := enc) (C := Try.checked) false ⟨#[], #[.slice none 0 0, .int .i64 0], []⟩ 8 (by kernel_rfl) (by kernel_rfl) (by kernel_rfl) (by kernel_rfl)) ?_
  intro W base args ds gs before hval hW _ hsz _
  exact packRows_step H enc W base args ds gs before hval hW hsz

theorem packRows_holds : Rows.PackRowsSaid :=
  OpenClaim.holds_of_wide 6 Try.f6 rfl rfl rfl rfl rfl rfl rfl ⟨rfl, rfl, rfl, rfl, rfl⟩ rfl rfl rfl rfl rfl (by kernel_rfl) Try.func6 (by kernel_rfl)
    (of_decide_eq_true (by kernel_rfl)) (by unfold Func.isWrapper; first | (rw [if_pos (by decide +kernel)]; kernel_rfl) | (rw [if_neg (by decide +kernel)]; exact ⟨rfl, rfl⟩))
    (fun os started H enc _ => packRows_lifted os started H enc)
#print axioms packRows_holds
end Go.Proofs.Ytppghbmggpbopaa
