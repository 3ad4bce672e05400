/- SpanSets: what two sets have together and what the first has alone make it up again; a set and the rest are all objects, with nothing in both. Condition: what is read is of bulk at most 1048576.
-/
import Derived.Test.YtafbaagjokomcaaSpZa
import Derived.Test.YtafbaagjokomcaaSpFr
namespace Go.Proofs.Ytafbaagjokomcaa
open Go.ChangeShapes Go.WideShapes Go.ChangeAt Go.RowKit
set_option maxRecDepth 100000

theorem spanSets_step (H : Type) (enc : TypeId × Value → H) (W : World) (base : Nat) (args : Array Value) (ds gs : List (DataW H)) (before : List MemPlace)
    (hval0 : ∀ (j : Nat) t v, Try.f8.params[j]? = some t → args[j]? = some v → Value.okWide Try.prog W .any base t v)
    (hW : DataW.Whole enc Try.prog Try.f8.params.toList Rows.spanSetsSpec.vars false W args.toList ds gs before)
    (hk : Rows.uptoSmall H (ds ++ gs) = true) :
    Calls Try.prog 8 args W fun e W' => ∃ v, e = .returned v ∧ Rows.spanSetsSpec.post enc Try.prog Try.f8 false true false false W args v W' := by
  have hval : ∀ (j : Nat) t v, Try.f8.params[j]? = some t → args[j]? = some v → Value.okWide Try.prog W .any base t v := hval0
  have hW' := hW
  obtain ⟨p, q, hA0, hV, rfl, hfz, hnd⟩ := hW
  have hA : DataW.TrodAll enc Try.prog W 0 (fun _ => true) true Try.f8.params.toList args.toList ds p := hA0
  rw [Try.params8] at hA hval
  obtain ⟨v0, v1, v2, d0, d1, d2, p0, p1, p2, rfl, rfl, rfl, h0, h1, h2⟩ := trodAll_three hA
  obtain ⟨rfl, rfl⟩ := trodVars_none hV
  simp only [List.append_nil] at hW' hk
  have hbk := uptoBound hk
  have hu0 := Nat.le_trans (part_le (d := d0) (l := [d0, d1, d2]) (by simp)) hbk
  obtain ⟨s0, rfl, ok0⟩ := opens_spans.arg_slice Try.underlying24 (hval 0 24 v0 rfl rfl) h0
  have hcap0 := ok0.rd.cap
  have hz0 := Nat.le_trans (cap_le d0) hu0
  rw [← ok0.cap] at hz0
  have hu1 := Nat.le_trans (part_le (d := d1) (l := [d0, d1, d2]) (by simp)) hbk
  obtain ⟨s1, rfl, ok1⟩ := opens_spans.arg_slice Try.underlying24 (hval 1 24 v1 rfl rfl) h1
  have hcap1 := ok1.rd.cap
  have hz1 := Nat.le_trans (cap_le d1) hu1
  rw [← ok1.cap] at hz1
  have hu2 := Nat.le_trans (part_le (d := d2) (l := [d0, d1, d2]) (by simp)) hbk
  obtain ⟨x2, rfl, rfl, rfl, wx2⟩ := open_int Try.underlying3 (hval 2 3 v2 rfl rfl) h2
  have hx2 := i64_of_wf wx2
  refine (spanSets_walk s0.A s0.n s0.c s0.xs s1.A s1.n s1.c s1.xs x2 W ok0.len ok0.rd ok1.len ok1.rd (by omega)).mono fun e W' ⟨he, hb⟩ => ?_
  exact ⟨_, he, law_post laidOut (by kernel_rfl) (tb := 4) (by kernel_rfl) Try.underlying4 rfl hW' rfl hb⟩

theorem spanSets_lifted (os : Os) (started : os.Started) (H : Type) (enc : TypeId × Value → H) (F : Stop.Interp) :
    ReturnsInHanded {} Try.checked os 8 .any ((Rows.OpenSpec.upto Rows.spanSetsSpec).pre6 enc Try.prog Try.f8 Rows.spanSetsUptoRow.domain false) (((Rows.OpenSpec.upto Rows.spanSetsSpec).at F).post enc Try.prog Try.f8 false true false false) := by
  refine returnsInHanded_of_cond (C := Try.checked) (s := Rows.OpenSpec.upto Rows.spanSetsSpec) (k := Rows.uptoSmall) rfl own started (by kernel_rfl) Try.func8
    (OpenSpec.witness (enc := enc) (C := Try.checked) (s := Rows.OpenSpec.upto Rows.spanSetsSpec) (k := Rows.uptoSmall) rfl false ⟨#[], #[.slice none 0 0, .slice none 0 0, .int .i64 0], []⟩ 8 (by kernel_rfl) (by kernel_rfl) (by kernel_rfl)
      (x := ([.nil, .nil, .lit (.int .i64 0)], [], [])) (by kernel_rfl) rfl (by kernel_rfl)) ?_
  intro W base args ds gs before hval hW _ hk _
  exact spanSets_step H enc W base args ds gs before hval hW hk

theorem spanSets_holds : Rows.SpanSetsUptoSaid :=
  OpenClaim.holds_of_cond 8 Try.f8 rfl rfl rfl rfl rfl rfl rfl ⟨rfl, rfl, rfl, rfl, rfl⟩ rfl rfl rfl rfl rfl (by kernel_rfl) Try.func8 (by kernel_rfl)
    (of_decide_eq_true (by kernel_rfl)) (by unfold Func.isWrapper; first | (rw [if_pos (by decide +kernel)]; kernel_rfl) | (rw [if_neg (by decide +kernel)]; exact ⟨rfl, rfl⟩))
    (fun os started H enc _ F => spanSets_lifted os started H enc F)
#print axioms spanSets_holds
end Go.Proofs.Ytafbaagjokomcaa
