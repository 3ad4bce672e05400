/- LogCuts holds for every input: any log is synced, and cut, as the document says, or refused. No condition; the tied card: the table of math/bits lies as the pruned copy's initialiser lays it.
-/
import Derived.Test.YtldcgmnfohhjbaaDoorLgN
import Derived.Test.YtldcgmnfohhjbaaDoorLgFr
namespace Go.Proofs.YtldcgmnfohhjbaaDoor
open Go.ChangeShapes Go.WideShapes Go.ChangeAt Go.RowKit
set_option maxRecDepth 100000
theorem logCuts_step (H : Type) (enc : TypeId × Value → H) (W : World) (base : Nat) (args : Array Value) (ds gs : List (DataW H)) (before : List MemPlace)
    (hval0 : ∀ (j : Nat) t v, Tryd.f9.params[j]? = some t → args[j]? = some v → Value.okWide Tryd.prog W .any base t v)
    (hW : DataW.Whole enc Tryd.prog Tryd.f9.params.toList Rows.logCutsSpec.vars false W args.toList ds gs before)
    (hsz0 : (DataW.weightsEach Tryd.prog (Tryd.f9.params.toList ++ Rows.logCutsSpec.plain.varTypes Tryd.prog) (ds ++ gs)).all (· ≤ reachBytes) = true) (hL : laidMetH Tryd.prog Rows.noteOfsRow.laid W) :
    Calls Tryd.prog 9 args W fun e W' => ∃ v, e = .returned v ∧ Rows.logCutsSpec.post enc Tryd.prog Tryd.f9 false true false false W args v W' := by
  have hval : ∀ (j : Nat) t v, Tryd.f9.params[j]? = some t → args[j]? = some v → Value.okWide Tryd.prog W .any base t v := hval0
  have hsz := hsz0
  have hW' := hW
  obtain ⟨p, q, hA0, hV, rfl, hfz, hnd⟩ := hW
  have hA : DataW.TrodAll enc Tryd.prog W 0 (fun _ => true) true Tryd.f9.params.toList args.toList ds p := hA0
  rw [Tryd.params9] at hA hval hsz
  obtain ⟨v0, d0, rfl, rfl, h0⟩ := trodAll_one hA
  obtain ⟨rfl, rfl⟩ := trodVars_none hV
  simp only [List.append_nil] at hW' hsz
  obtain ⟨v0, b0, L0, su0, rfl, hG0, hz0⟩ := open_log (hval 0 47 v0 rfl rfl) h0 (Fit.arg hsz (j := 0) rfl rfl)
  refine (logCuts_walk v0 b0 L0 su0 W (table hL) hG0 hz0).mono fun e W' ⟨he, hb⟩ => ?_
  exact ⟨_, he, law_post laidOut (by kernel_rfl) (tb := 4) (by kernel_rfl) Tryd.underlying4 rfl hW' rfl hb⟩

theorem logCuts_met (os : Os) : laidMet Tryd.prog Rows.noteOfsRow.laid ((laidWorld os).forCall (fun _ _ => 0) ⟨#[], #[.agg #[.slice none 0 0, .slice none 0 0, .int .i64 0]], []⟩).memory :=
  laidMet_of_run' 8 (by kernel_rfl) (by kernel_rfl)
theorem logCuts_reads (os : Os) {H : Type} (enc : TypeId × Value → H) : ∃ places, DataW.whole enc Tryd.prog ((laidWorld os).forCall (fun _ _ => 0) ⟨#[], #[.agg #[.slice none 0 0, .slice none 0 0, .int .i64 0]], []⟩).memory Tryd.f9.params.toList Rows.logCutsSpec.vars false (#[.agg #[.slice none 0 0, .slice none 0 0, .int .i64 0]] : Array Value).toList 8 = some ([.agg [.nil, .nil, .lit (.int .i64 0)]], [], places) :=
  ⟨[], by kernel_rfl⟩
theorem logCuts_lifted (os : Os) (started : os.Started) (H : Type) (enc : TypeId × Value → H) (F : Stop.Interp) :
    ReturnsInHanded {} Tryd.checked os 9 .any ((OpenSpec.ofChange Rows.logCutsSpec).preRow enc Tryd.prog Tryd.f9 Rows.logCutsRow.domain false Rows.logCutsRow.laid) (((OpenSpec.ofChange Rows.logCutsSpec).at F).post enc Tryd.prog Tryd.f9 false true false false) := by
  obtain ⟨places, hx⟩ := logCuts_reads os enc
  refine returnsInHanded_of_row (C := Tryd.checked) (s := OpenSpec.ofChange Rows.logCutsSpec) own started (by kernel_rfl) Tryd.func9
    (witness_row_at (enc := enc) (C := Tryd.checked) false (laidWorld os) #[.agg #[.slice none 0 0, .slice none 0 0, .int .i64 0]] rfl (by kernel_rfl) (by kernel_rfl) (by kernel_rfl)
      (OpenSpec.preRow_of_cond 8 hx (by kernel_rfl) (fun k hk => by cases hk) (by kernel_rfl) (logCuts_met os))) ?_
  intro W base args ds gs before hval hW _ _ hsz hL _ _
  exact logCuts_step H enc W base args ds gs before hval hW hsz hL

theorem logCuts_said : Rows.LogCutsSaid :=
  OpenClaim.holds_of_cond 9 Tryd.f9 rfl rfl rfl rfl rfl rfl rfl ⟨rfl, rfl, rfl, rfl, rfl⟩ rfl rfl rfl rfl rfl (by kernel_rfl) Tryd.func9 (by kernel_rfl)
    (of_decide_eq_true (by kernel_rfl)) (by unfold Func.isWrapper; first | (rw [if_pos (by decide +kernel)]; kernel_rfl) | (rw [if_neg (by decide +kernel)]; exact ⟨rfl, rfl⟩))
    (fun os started H enc _ F => by rw [OpenClaim.pre_eq_preRow]; exact logCuts_lifted os started H enc F)

theorem logCuts_card : Rows.LogCutsCardSaid :=
  Claim7.holds_tied_plain_at .later [] _ _ _ _ logCuts_said (fun _ h => by cases h) (by kernel_rfl) (fun _ h => by cases h) logCuts_row_tie rfl ⟨rfl, rfl⟩ (by kernel_rfl) rfl (plain_of (k := 9) (fk := Tryd.f9) (by kernel_rfl) Tryd.func9 (by kernel_rfl) (by kernel_rfl)) (by kernel_rfl)
#print axioms logCuts_card
end Go.Proofs.YtldcgmnfohhjbaaDoor
