/- SpanOfs: the set of any numbers is the document's, and the numbers stay. Condition: what is read is of bulk at most 1048576.
-/
import Derived.Test.YtafbaagjokomcaaSpX
import Derived.Test.YtafbaagjokomcaaSpFr
namespace Go.Proofs.Ytafbaagjokomcaa
open Go.ChangeShapes Go.WideShapes Go.ChangeAt Go.RowKit
set_option maxRecDepth 100000

theorem spanOfs_step (H : Type) (enc : TypeId × Value → H) (W : World) (base : Nat) (args : Array Value) (ds gs : List (DataW H)) (before : List MemPlace)
    (hval0 : ∀ (j : Nat) t v, Try.f3.params[j]? = some t → args[j]? = some v → Value.okWide Try.prog W .any base t v)
    (hW : DataW.Whole enc Try.prog Try.f3.params.toList Rows.spanOfsSpec.vars false W args.toList ds gs before)
    (hk : Rows.uptoSmall H (ds ++ gs) = true) :
    Calls Try.prog 3 args W fun e W' => ∃ v, e = .returned v ∧ Rows.spanOfsSpec.post enc Try.prog Try.f3 false true false false W args v W' := by
  have hval : ∀ (j : Nat) t v, Try.f3.params[j]? = some t → args[j]? = some v → Value.okWide Try.prog W .any base t v := hval0
  have hW' := hW
  obtain ⟨p, q, hA0, hV, rfl, hfz, hnd⟩ := hW
  have hA : DataW.TrodAll enc Try.prog W 0 (fun _ => true) true Try.f3.params.toList args.toList ds p := hA0
  rw [Try.params3] at hA hval
  obtain ⟨v0, d0, rfl, rfl, h0⟩ := trodAll_one hA
  obtain ⟨rfl, rfl⟩ := trodVars_none hV
  simp only [List.append_nil] at hW' hk
  have hbk := uptoBound hk
  have hu0 := Nat.le_trans (part_le (d := d0) (l := [d0]) (by simp)) hbk
  obtain ⟨s0, rfl, ok0⟩ := opens_ints.arg_slice Try.underlying22 (hval 0 22 v0 rfl rfl) h0
  have hcap0 := ok0.rd.cap
  have hz0 := Nat.le_trans (cap_le d0) hu0
  rw [← ok0.cap] at hz0
  refine (spanOfs_walk s0.A s0.n s0.c s0.xs W ok0.len (by rw [show zv s0.xs = s0.xs.flatMap (fun z => [Value.int .i64 z]) from List.map_eq_flatMap ..]; exact ok0.rd) (by omega)).mono fun e W' ⟨he, hb⟩ => ?_
  exact ⟨_, he, law_post laidOut (by kernel_rfl) (tb := 4) (by kernel_rfl) Try.underlying4 rfl hW' rfl hb⟩

theorem spanOfs_lifted (os : Os) (started : os.Started) (H : Type) (enc : TypeId × Value → H) (F : Stop.Interp) :
    ReturnsInHanded {} Try.checked os 3 .any ((Rows.OpenSpec.upto Rows.spanOfsSpec).pre6 enc Try.prog Try.f3 Rows.spanOfsUptoRow.domain false) (((Rows.OpenSpec.upto Rows.spanOfsSpec).at F).post enc Try.prog Try.f3 false true false false) := by
  refine returnsInHanded_of_cond (C := Try.checked) (s := Rows.OpenSpec.upto Rows.spanOfsSpec) (k := Rows.uptoSmall) rfl own started (by kernel_rfl) Try.func3
    (OpenSpec.witness (enc := enc) (C := Try.checked) (s := Rows.OpenSpec.upto Rows.spanOfsSpec) (k := Rows.uptoSmall) rfl false ⟨#[], #[.slice none 0 0], []⟩ 8 (by kernel_rfl) (by kernel_rfl) (by kernel_rfl)
      (x := ([.nil], [], [])) (by kernel_rfl) rfl (by kernel_rfl)) ?_
  intro W base args ds gs before hval hW _ hk _
  exact spanOfs_step H enc W base args ds gs before hval hW hk

theorem spanOfs_holds : Rows.SpanOfsUptoSaid :=
  OpenClaim.holds_of_cond 3 Try.f3 rfl rfl rfl rfl rfl rfl rfl ⟨rfl, rfl, rfl, rfl, rfl⟩ rfl rfl rfl rfl rfl (by kernel_rfl) Try.func3 (by kernel_rfl)
    (of_decide_eq_true (by kernel_rfl)) (by unfold Func.isWrapper; first | (rw [if_pos (by decide +kernel)]; kernel_rfl) | (rw [if_neg (by decide +kernel)]; exact ⟨rfl, rfl⟩))
    (fun os started H enc _ F => spanOfs_lifted os started H enc F)
#print axioms spanOfs_holds
end Go.Proofs.Ytafbaagjokomcaa
