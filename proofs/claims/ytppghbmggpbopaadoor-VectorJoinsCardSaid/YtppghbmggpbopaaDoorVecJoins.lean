/- VectorJoins holds for every input: the join and the meet of up to 100 lists are the document's, and the lists stay. No condition; the tied card: the table of math/bits lies as its text lays it.
-/
import Derived.Test.YtppghbmggpbopaaDoorVecV
import Derived.Test.YtppghbmggpbopaaDoorVecFr
namespace Go.Proofs.YtppghbmggpbopaaDoor
open Go.ChangeShapes Go.WideShapes Go.ChangeAt Go.RowKit
set_option maxRecDepth 100000
theorem vectorJoins_step (H : Type) (enc : TypeId × Value → H) (W : World) (base : Nat) (args : Array Value) (ds gs : List (DataW H)) (before : List MemPlace)
    (hval0 : ∀ (j : Nat) t v, Tryd.f5.params[j]? = some t → args[j]? = some v → Value.okWide Tryd.prog W .any base t v)
    (hW : DataW.Whole enc Tryd.prog Tryd.f5.params.toList Rows.vectorJoinsSpec.vars false W args.toList ds gs before)
    (hsz0 : (DataW.weightsEach Tryd.prog (Tryd.f5.params.toList ++ Rows.vectorJoinsSpec.plain.varTypes Tryd.prog) (ds ++ gs)).all (· ≤ reachBytes) = true) (hL : laidMetH Tryd.prog Rows.vectorWalksRow.laid W) :
    Calls Tryd.prog 5 args W fun e W' => ∃ v, e = .returned v ∧ Rows.vectorJoinsSpec.post enc Tryd.prog Tryd.f5 false true false false W args v W' := by
  have hval : ∀ (j : Nat) t v, Tryd.f5.params[j]? = some t → args[j]? = some v → Value.okWide Tryd.prog W .any base t v := hval0
  have hsz := hsz0
  have hW' := hW
  obtain ⟨p, q, hA0, hV, rfl, hfz, hnd⟩ := hW
  have hA : DataW.TrodAll enc Tryd.prog W 0 (fun _ => true) true Tryd.f5.params.toList args.toList ds p := hA0
  rw [Tryd.params5] at hA hval hsz
  obtain ⟨v0, d0, rfl, rfl, h0⟩ := trodAll_one hA
  obtain ⟨rfl, rfl⟩ := trodVars_none hV
  simp only [List.append_nil] at hW' hsz
  obtain ⟨A0, n0, c0, l0, rfl, hl0, hR0, hn0⟩ := open_lists (hval 0 35 v0 rfl rfl) h0 (Fit.arg hsz (j := 0) rfl rfl)
  refine (vectorJoins_walk A0 n0 c0 l0 W (table hL) hl0 hR0 hn0).mono fun e W' ⟨he, hb⟩ => ?_
  exact ⟨_, he, law_post laidOut (by kernel_rfl) (tb := 4) (by kernel_rfl) Tryd.underlying4 rfl hW' rfl hb⟩

theorem vectorJoins_met (os : Os) : laidMet Tryd.prog Rows.vectorWalksRow.laid ((laidWorld os).forCall (fun _ _ => 0) ⟨#[], #[.slice none 0 0], []⟩).memory :=
  laidMet_of_run' 8 (by kernel_rfl) (by kernel_rfl)
theorem vectorJoins_reads (os : Os) {H : Type} (enc : TypeId × Value → H) : ∃ places, DataW.whole enc Tryd.prog ((laidWorld os).forCall (fun _ _ => 0) ⟨#[], #[.slice none 0 0], []⟩).memory Tryd.f5.params.toList Rows.vectorJoinsSpec.vars false (#[.slice none 0 0] : Array Value).toList 8 = some ([.nil], [], places) :=
  ⟨[], by kernel_rfl⟩
theorem vectorJoins_lifted (os : Os) (started : os.Started) (H : Type) (enc : TypeId × Value → H) (F : Stop.Interp) :
    ReturnsInHanded {} Tryd.checked os 5 .any ((OpenSpec.ofChange Rows.vectorJoinsSpec).preRow enc Tryd.prog Tryd.f5 Rows.vectorJoinsRow.domain false Rows.vectorJoinsRow.laid) (((OpenSpec.ofChange Rows.vectorJoinsSpec).at F).post enc Tryd.prog Tryd.f5 false true false false) := by
  obtain ⟨places, hx⟩ := vectorJoins_reads os enc
  refine returnsInHanded_of_row (C := Tryd.checked) (s := OpenSpec.ofChange Rows.vectorJoinsSpec) own started (by kernel_rfl) Tryd.func5
    (witness_row_at (enc := enc) (C := Tryd.checked) false (laidWorld os) #[.slice none 0 0] rfl (by kernel_rfl) (by kernel_rfl) (by kernel_rfl)
      (OpenSpec.preRow_of_cond 8 hx (by kernel_rfl) (fun k hk => by cases hk) (by kernel_rfl) (vectorJoins_met os))) ?_
  intro W base args ds gs before hval hW _ _ hsz hL _ _
  exact vectorJoins_step H enc W base args ds gs before hval hW hsz hL

theorem vectorJoins_said : Rows.VectorJoinsSaid :=
  OpenClaim.holds_of_cond 5 Tryd.f5 rfl rfl rfl rfl rfl rfl rfl ⟨rfl, rfl, rfl, rfl, rfl⟩ rfl rfl rfl rfl rfl (by kernel_rfl) Tryd.func5 (by kernel_rfl)
    (of_decide_eq_true (by kernel_rfl)) (by unfold Func.isWrapper; first | (rw [if_pos (by decide +kernel)]; kernel_rfl) | (rw [if_neg (by decide +kernel)]; exact ⟨rfl, rfl⟩))
    (fun os started H enc _ F => by rw [OpenClaim.pre_eq_preRow]; exact vectorJoins_lifted os started H enc F)

theorem vectorJoins_card : Rows.VectorJoinsCardSaid :=
  Claim7.holds_tied_plain_at .later [] _ _ _ _ vectorJoins_said (fun _ h => by cases h) (by kernel_rfl) (fun _ h => by cases h) vectorJoins_row_tie rfl ⟨rfl, rfl⟩ (by kernel_rfl) rfl (plain_of (k := 5) (fk := Tryd.f5) (by kernel_rfl) Tryd.func5 (by kernel_rfl) (by kernel_rfl)) (by kernel_rfl)
#print axioms vectorJoins_card
end Go.Proofs.YtppghbmggpbopaaDoor
