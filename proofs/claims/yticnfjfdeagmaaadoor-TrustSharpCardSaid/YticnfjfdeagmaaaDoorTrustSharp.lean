/- TrustSharp holds for every input. No condition; the tied card.
-/
import Derived.Test.YticnfjfdeagmaaaDoorTwP
import Derived.Test.YticnfjfdeagmaaaDoorTwFr
namespace Go.Proofs.YticnfjfdeagmaaaDoor
open Go.ChangeShapes Go.WideShapes Go.ChangeAt Go.RowKit
set_option maxRecDepth 100000
theorem trustSharp_step (H : Type) (enc : TypeId × Value → H) (W : World) (base : Nat) (args : Array Value) (ds gs : List (DataW H)) (before : List MemPlace)
    (hval0 : ∀ (j : Nat) t v, Tryd.f5.params[j]? = some t → args[j]? = some v → Value.okWide Tryd.prog W .any base t v)
    (hW : DataW.Whole enc Tryd.prog Tryd.f5.params.toList Rows.trustSharpSpec.vars false W args.toList ds gs before)
    (hsz0 : (DataW.weightsEach Tryd.prog (Tryd.f5.params.toList ++ Rows.trustSharpSpec.plain.varTypes Tryd.prog) (ds ++ gs)).all (· ≤ reachBytes) = true) (hL : laidMetH Tryd.prog Rows.trustSincesRow.laid W) :
    Calls Tryd.prog 5 args W fun e W' => ∃ v, e = .returned v ∧ Rows.trustSharpSpec.post enc Tryd.prog Tryd.f5 false true false false W args v W' := by
  have hval : ∀ (j : Nat) t v, Tryd.f5.params[j]? = some t → args[j]? = some v → Value.okWide Tryd.prog W .any base t v := hval0
  have hsz := hsz0
  have hW' := hW
  obtain ⟨p, q, hA0, hV, rfl, hfz, hnd⟩ := hW
  have hA : DataW.TrodAll enc Tryd.prog W 0 (fun _ => true) true Tryd.f5.params.toList args.toList ds p := hA0
  rw [Tryd.params5] at hA hval hsz
  obtain ⟨v0, v1, v2, d0, d1, d2, p0, p1, p2, rfl, rfl, rfl, h0, h1, h2⟩ := trodAll_three hA
  obtain ⟨rfl, rfl⟩ := trodVars_none hV
  simp only [List.append_nil] at hW' hsz
  obtain ⟨A0, n0, c0, L0, rfl, hR0, hz0⟩ := open_zones (hval 0 22 v0 rfl rfl) h0 (Fit.arg hsz (j := 0) rfl rfl)
  obtain ⟨A1, n1, c1, l1, rfl, hl1, hR1, hn1⟩ := open_stamps (hval 1 23 v1 rfl rfl) h1 (Fit.arg hsz (j := 1) rfl rfl)
  obtain ⟨v2, x2, rfl, hN2, hs2⟩ := open_note (hval 2 27 v2 rfl rfl) h2 (Fit.arg hsz (j := 2) rfl rfl)
  refine (trustSharp_walk A0 A1 n0 c0 n1 c1 L0 l1 v2 x2 W (table hL) hR0 hl1 hR1 hN2).mono fun e W' ⟨he, hb⟩ => ?_
  exact ⟨_, he, law_post laidOut (by kernel_rfl) (tb := 4) (by kernel_rfl) Tryd.underlying4 rfl hW' rfl hb⟩

theorem trustSharp_met (os : Os) : laidMet Tryd.prog Rows.trustSincesRow.laid ((laidWorld os).forCall (fun _ _ => 0) ⟨#[], #[.slice none 0 0, .slice none 0 0, .agg #[.slice none 0 0, .slice none 0 0, .slice none 0 0, .slice none 0 0]], []⟩).memory :=
  laidMet_of_run' 8 (by kernel_rfl) (by kernel_rfl)
theorem trustSharp_reads (os : Os) {H : Type} (enc : TypeId × Value → H) : ∃ places, DataW.whole enc Tryd.prog ((laidWorld os).forCall (fun _ _ => 0) ⟨#[], #[.slice none 0 0, .slice none 0 0, .agg #[.slice none 0 0, .slice none 0 0, .slice none 0 0, .slice none 0 0]], []⟩).memory Tryd.f5.params.toList Rows.trustSharpSpec.vars false (#[.slice none 0 0, .slice none 0 0, .agg #[.slice none 0 0, .slice none 0 0, .slice none 0 0, .slice none 0 0]] : Array Value).toList 8 = some ([.nil, .nil, .agg [.nil, .nil, .nil, .nil]], [], places) :=
  ⟨[], by kernel_rfl⟩
theorem trustSharp_lifted (os : Os) (started : os.Started) (H : Type) (enc : TypeId × Value → H) (F : Stop.Interp) :
    ReturnsInHanded {} Tryd.checked os 5 .any ((OpenSpec.ofChange Rows.trustSharpSpec).preRow enc Tryd.prog Tryd.f5 Rows.trustSharpRow.domain false Rows.trustSharpRow.laid) (((OpenSpec.ofChange Rows.trustSharpSpec).at F).post enc Tryd.prog Tryd.f5 false true false false) := by
  obtain ⟨places, hx⟩ := trustSharp_reads os enc
  refine returnsInHanded_of_row (C := Tryd.checked) (s := OpenSpec.ofChange Rows.trustSharpSpec) own started (by kernel_rfl) Tryd.func5
    (witness_row_at (enc := enc) (C := Tryd.checked) false (laidWorld os) #[.slice none 0 0, .slice none 0 0, .agg #[.slice none 0 0, .slice none 0 0, .slice none 0 0, .slice none 0 0]] rfl (by kernel_rfl) (by kernel_rfl) (by kernel_rfl)
      (OpenSpec.preRow_of_cond 8 hx (by kernel_rfl) (fun k hk => by cases hk) (by kernel_rfl) (trustSharp_met os))) ?_
  intro W base args ds gs before hval hW _ _ hsz hL _ _
  exact trustSharp_step H enc W base args ds gs before hval hW hsz hL

theorem trustSharp_said : Rows.TrustSharpSaid :=
  OpenClaim.holds_of_cond 5 Tryd.f5 rfl rfl rfl rfl rfl rfl rfl ⟨rfl, rfl, rfl, rfl, rfl⟩ rfl rfl rfl rfl rfl (by kernel_rfl) Tryd.func5 (by kernel_rfl)
    (of_decide_eq_true (by kernel_rfl)) (by unfold Func.isWrapper; first | (rw [if_pos (by decide +kernel)]; kernel_rfl) | (rw [if_neg (by decide +kernel)]; exact ⟨rfl, rfl⟩))
    (fun os started H enc _ F => by rw [OpenClaim.pre_eq_preRow]; exact trustSharp_lifted os started H enc F)

theorem trustSharp_card : Rows.TrustSharpCardSaid :=
  Claim7.holds_tied_plain_at .later [] _ _ _ _ trustSharp_said (fun _ h => by cases h) (by kernel_rfl) (fun _ h => by cases h) trustSharp_row_tie rfl ⟨rfl, rfl⟩ (by kernel_rfl) rfl (plain_of (k := 5) (fk := Tryd.f5) (by kernel_rfl) Tryd.func5 (by kernel_rfl) (by kernel_rfl)) (by kernel_rfl)
#print axioms trustSharp_card
end Go.Proofs.YticnfjfdeagmaaaDoor
