/- SpanJoins: the join of up to 100 lists is the document's, and formed, and the lists stay. Condition: what is read is of bulk at most 1048576.
-/
import Derived.Test.YtafbaagjokomcaaSpY
import Derived.Test.YtafbaagjokomcaaSpFr2
namespace Go.Proofs.Ytafbaagjokomcaa
open Go.ChangeShapes Go.WideShapes Go.ChangeAt Go.RowKit
set_option maxRecDepth 100000

theorem spanJoins_step (H : Type) (enc : TypeId × Value → H) (W : World) (base : Nat) (args : Array Value) (ds gs : List (DataW H)) (before : List MemPlace)
    (hval0 : ∀ (j : Nat) t v, Try.f6.params[j]? = some t → args[j]? = some v → Value.okWide Try.prog W .any base t v)
    (hW : DataW.Whole enc Try.prog Try.f6.params.toList Rows.spanJoinsSpec.vars false W args.toList ds gs before)
    (hk : Rows.uptoSmall H (ds ++ gs) = true) :
    Calls Try.prog 6 args W fun e W' => ∃ v, e = .returned v ∧ Rows.spanJoinsSpec.post enc Try.prog Try.f6 false true false false W args v W' := by
  have hval : ∀ (j : Nat) t v, Try.f6.params[j]? = some t → args[j]? = some v → Value.okWide Try.prog W .any base t v := hval0
  have hW' := hW
  obtain ⟨p, q, hA0, hV, rfl, hfz, hnd⟩ := hW
  have hA : DataW.TrodAll enc Try.prog W 0 (fun _ => true) true Try.f6.params.toList args.toList ds p := hA0
  rw [Try.params6] at hA hval
  obtain ⟨v0, d0, rfl, rfl, h0⟩ := trodAll_one hA
  obtain ⟨rfl, rfl⟩ := trodVars_none hV
  simp only [List.append_nil] at hW' hk
  have hbk := uptoBound hk
  have hu0 := Nat.le_trans (part_le (d := d0) (l := [d0]) (by simp)) hbk
  obtain ⟨s0, rfl, ok0⟩ := opens_lists.arg_slice Try.underlying38 (hval 0 38 v0 rfl rfl) h0
  have hcap0 := ok0.rd.cap
  have hz0 := Nat.le_trans (cap_le d0) hu0
  rw [← ok0.cap] at hz0
  refine (spanJoins_walk s0.A s0.n s0.c (s0.xs.map (·.xs)) W (by rw [List.length_map]; exact ok0.len) (lists_rd ok0) (fun u hu => Nat.le_trans (lists_small ok0 hu0 u hu) (by omega)) (fun hn => by have h1 := flat_le _ (lists_small ok0 hu0); rw [List.length_map, ok0.len] at h1; have h2 := Nat.mul_le_mul_right 1048576 hn; omega)).mono fun e W' ⟨he, hb⟩ => ?_
  exact ⟨_, he, law_post laidOut (by kernel_rfl) (tb := 4) (by kernel_rfl) Try.underlying4 rfl hW' rfl hb⟩

theorem spanJoins_lifted (os : Os) (started : os.Started) (H : Type) (enc : TypeId × Value → H) (F : Stop.Interp) :
    ReturnsInHanded {} Try.checked os 6 .any ((Rows.OpenSpec.upto Rows.spanJoinsSpec).pre6 enc Try.prog Try.f6 Rows.spanJoinsUptoRow.domain false) (((Rows.OpenSpec.upto Rows.spanJoinsSpec).at F).post enc Try.prog Try.f6 false true false false) := by
  refine returnsInHanded_of_cond (C := Try.checked) (s := Rows.OpenSpec.upto Rows.spanJoinsSpec) (k := Rows.uptoSmall) rfl own started (by kernel_rfl) Try.func6
    (OpenSpec.witness (enc := enc) (C := Try.checked) (s := Rows.OpenSpec.upto Rows.spanJoinsSpec) (k := Rows.uptoSmall) rfl false ⟨#[], #[.slice none 0 0], []⟩ 8 (by kernel_rfl) (by kernel_rfl) (by kernel_rfl)
      (x := ([.nil], [], [])) (by kernel_rfl) rfl (by kernel_rfl)) ?_
  intro W base args ds gs before hval hW _ hk _
  exact spanJoins_step H enc W base args ds gs before hval hW hk

theorem spanJoins_holds : Rows.SpanJoinsUptoSaid :=
  OpenClaim.holds_of_cond 6 Try.f6 rfl rfl rfl rfl rfl rfl rfl ⟨rfl, rfl, rfl, rfl, rfl⟩ rfl rfl rfl rfl rfl (by kernel_rfl) Try.func6 (by kernel_rfl)
    (of_decide_eq_true (by kernel_rfl)) (by unfold Func.isWrapper; first | (rw [if_pos (by decide +kernel)]; kernel_rfl) | (rw [if_neg (by decide +kernel)]; exact ⟨rfl, rfl⟩))
    (fun os started H enc _ F => spanJoins_lifted os started H enc F)
#print axioms spanJoins_holds
end Go.Proofs.Ytafbaagjokomcaa
