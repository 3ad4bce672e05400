/- WireBodies: what AppendBody writes and what Body reads are the document's, for every input. The tied card: the table of math/bits lies as its text lays it.
-/
import Derived.Test.YtndlcimckfndiaaDoorWrZ
import Derived.Test.YtndlcimckfndiaaDoorWrFs
namespace Go.Proofs.YtndlcimckfndiaaDoor
open Go.ChangeShapes Go.WideShapes Go.ChangeAt Go.RowKit
set_option maxRecDepth 100000
theorem wireBodies_step (H : Type) (enc : TypeId × Value → H) (W : World) (base : Nat) (args : Array Value) (ds gs : List (DataW H)) (before : List MemPlace)
    (hval0 : ∀ (j : Nat) t v, Tryd.f6.params[j]? = some t → args[j]? = some v → Value.okWide Tryd.prog W .any base t v)
    (hW : DataW.Whole enc Tryd.prog Tryd.f6.params.toList Rows.wireBodiesSpec.vars false W args.toList ds gs before)
    (hsz0 : (DataW.weightsEach Tryd.prog (Tryd.f6.params.toList ++ Rows.wireBodiesSpec.plain.varTypes Tryd.prog) (ds ++ gs)).all (· ≤ reachBytes) = true) (_hL : laidMetH Tryd.prog Rows.wireVectorsRow.laid W) :
    Calls Tryd.prog 6 args W fun e W' => ∃ v, e = .returned v ∧ Rows.wireBodiesSpec.post enc Tryd.prog Tryd.f6 false true false false W args v W' := by
  have hval : ∀ (j : Nat) t v, Tryd.f6.params[j]? = some t → args[j]? = some v → Value.okWide Tryd.prog W .any base t v := hval0
  have hsz := hsz0
  have hW' := hW
  obtain ⟨p, q, hA0, hV, rfl, hfz, hnd⟩ := hW
  have hA : DataW.TrodAll enc Tryd.prog W 0 (fun _ => true) true Tryd.f6.params.toList args.toList ds p := hA0
  rw [Tryd.params6] at hA hval hsz
  obtain ⟨v0, v1, d0, d1, p0, p1, rfl, rfl, rfl, h0, h1⟩ := trodAll_two hA
  obtain ⟨rfl, rfl⟩ := trodVars_none hV
  simp only [List.append_nil] at hW' hsz
  obtain ⟨x0, A0, c0, rfl, hR0, hc0⟩ := open_bodyC (hval 0 63 v0 rfl rfl) h0
  obtain ⟨A1, n1, c1, l1, rfl, hl1, hc1, hR1⟩ := open_bytes Tryd.underlying23 Tryd.underlying5 (by kernel_rfl) (hval 1 23 v1 rfl rfl) h1
  have hcap1 := hR1.cap
  have hz1 := reach_slice hsz (j := 1) rfl rfl Tryd.underlying23
  rw [show Tryd.prog.bytesOf 5 = 1 by kernel_rfl, Nat.mul_one, ← hc1] at hz1
  refine (wireBodies_walk x0 A0 A1 c0 n1 c1 l1 W hR0 hc0 hl1 hR1 (by omega)).mono fun e W' ⟨he, hb⟩ => ?_
  exact ⟨_, he, law_post laidOut (by kernel_rfl) (tb := 4) (by kernel_rfl) Tryd.underlying4 rfl hW' rfl hb⟩

theorem wireBodies_met (os : Os) : laidMet Tryd.prog Rows.wireBodiesRow.laid ((laidWorld os).forCall (fun _ _ => 0) ⟨#[], #[.agg #[.int .i64 0, .int .i64 0, .int .i64 0, .slice none 0 0], .slice none 0 0], []⟩).memory :=
  laidMet_of_run' 8 (by kernel_rfl) (by kernel_rfl)
theorem wireBodies_reads (os : Os) {H : Type} (enc : TypeId × Value → H) : ∃ places, DataW.whole enc Tryd.prog ((laidWorld os).forCall (fun _ _ => 0) ⟨#[], #[.agg #[.int .i64 0, .int .i64 0, .int .i64 0, .slice none 0 0], .slice none 0 0], []⟩).memory Tryd.f6.params.toList Rows.wireBodiesSpec.vars false (#[.agg #[.int .i64 0, .int .i64 0, .int .i64 0, .slice none 0 0], .slice none 0 0] : Array Value).toList 8 = some ([.agg [.lit (.int .i64 0), .agg [.lit (.int .i64 0), .lit (.int .i64 0)], .nil], .nil], [], places) :=
  ⟨[], by kernel_rfl⟩
theorem wireBodies_lifted (os : Os) (started : os.Started) (H : Type) (enc : TypeId × Value → H) (F : Stop.Interp) :
    ReturnsInHanded {} Tryd.checked os 6 .any ((OpenSpec.ofChange Rows.wireBodiesSpec).preRow enc Tryd.prog Tryd.f6 Rows.wireBodiesRow.domain false Rows.wireBodiesRow.laid) (((OpenSpec.ofChange Rows.wireBodiesSpec).at F).post enc Tryd.prog Tryd.f6 false true false false) := by
  obtain ⟨places, hx⟩ := wireBodies_reads os enc
  refine returnsInHanded_of_row (C := Tryd.checked) (s := OpenSpec.ofChange Rows.wireBodiesSpec) own started (by kernel_rfl) Tryd.func6
    (witness_row_at (enc := enc) (C := Tryd.checked) false (laidWorld os) #[.agg #[.int .i64 0, .int .i64 0, .int .i64 0, .slice none 0 0], .slice none 0 0] rfl (by kernel_rfl) (by kernel_rfl) (by kernel_rfl)
      (OpenSpec.preRow_of_cond 8 hx (by kernel_rfl) (fun k hk => by cases hk) (by kernel_rfl) (wireBodies_met os))) ?_
  intro W base args ds gs before hval hW _ hcond hsz hL _ _
  exact wireBodies_step H enc W base args ds gs before hval hW hsz hL

theorem wireBodies_said : Rows.WireBodiesSaid :=
  OpenClaim.holds_of_cond 6 Tryd.f6 rfl rfl rfl rfl rfl rfl rfl ⟨rfl, rfl, rfl, rfl, rfl⟩ rfl rfl rfl rfl rfl (by kernel_rfl) Tryd.func6 (by kernel_rfl)
    (of_decide_eq_true (by kernel_rfl)) (by unfold Func.isWrapper; first | (rw [if_pos (by decide +kernel)]; kernel_rfl) | (rw [if_neg (by decide +kernel)]; exact ⟨rfl, rfl⟩))
    (fun os started H enc _ F => by rw [OpenClaim.pre_eq_preRow]; exact wireBodies_lifted os started H enc F)

theorem wireBodies_card : Rows.WireBodiesCardSaid :=
  Claim7.holds_tied_plain_at .later [] _ _ _ _ wireBodies_said (fun _ h => by cases h) (by kernel_rfl) (fun _ h => by cases h) wireBodies_row_tie rfl ⟨rfl, rfl⟩ (by kernel_rfl) rfl (plain_of (k := 6) (fk := Tryd.f6) (by kernel_rfl) Tryd.func6 (by kernel_rfl) (by kernel_rfl)) (by kernel_rfl)
#print axioms wireBodies_card
end Go.Proofs.YtndlcimckfndiaaDoor
