/- TrustMends holds for every input: a note of what mends tells just that. No condition; the tied card.
-/
import Derived.Test.YticnfjfdeagmaaaDoorTwQ
import Derived.Test.YticnfjfdeagmaaaDoorTwS
namespace Go.Proofs.YticnfjfdeagmaaaDoor
open Go.ChangeShapes Go.WideShapes Go.ChangeAt Go.RowKit
set_option maxRecDepth 100000
theorem trustMends_step (H : Type) (enc : TypeId × Value → H) (W : World) (base : Nat) (args : Array Value) (ds gs : List (DataW H)) (before : List MemPlace)
    (hval0 : ∀ (j : Nat) t v, Tryd.f7.params[j]? = some t → args[j]? = some v → Value.okWide Tryd.prog W .any base t v)
    (hW : DataW.Whole enc Tryd.prog Tryd.f7.params.toList Rows.trustMendsSpec.vars false W args.toList ds gs before)
    (hsz0 : (DataW.weightsEach Tryd.prog (Tryd.f7.params.toList ++ Rows.trustMendsSpec.plain.varTypes Tryd.prog) (ds ++ gs)).all (· ≤ reachBytes) = true) (hL : laidMetH Tryd.prog Rows.trustSincesRow.laid W) :
    Calls Tryd.prog 7 args W fun e W' => ∃ v, e = .returned v ∧ Rows.trustMendsSpec.post enc Tryd.prog Tryd.f7 false true false false W args v W' := by
  have hval : ∀ (j : Nat) t v, Tryd.f7.params[j]? = some t → args[j]? = some v → Value.okWide Tryd.prog W .any base t v := hval0
  have hsz := hsz0
  have hW' := hW
  obtain ⟨p, q, hA0, hV, rfl, hfz, hnd⟩ := hW
  have hA : DataW.TrodAll enc Tryd.prog W 0 (fun _ => true) true Tryd.f7.params.toList args.toList ds p := hA0
  rw [Tryd.params7] at hA hval hsz
  obtain ⟨v0, v1, v2, d0, d1, d2, p0, p1, p2, rfl, rfl, rfl, h0, h1, h2⟩ := trodAll_three hA
  obtain ⟨rfl, rfl⟩ := trodVars_none hV
  simp only [List.append_nil] at hW' hsz
  obtain ⟨A0, n0, c0, L0, rfl, hR0, hz0⟩ := open_zones (hval 0 22 v0 rfl rfl) h0 (Fit.arg hsz (j := 0) rfl rfl)
  obtain ⟨A1, n1, c1, l1, rfl, hl1, hR1, hn1⟩ := open_stamps (hval 1 23 v1 rfl rfl) h1 (Fit.arg hsz (j := 1) rfl rfl)
  obtain ⟨A2, n2, c2, B2, m2, e2, l2, r2, rfl, hl2, hR2, hn2, hr2, hS2⟩ := open_pair (hval 2 44 v2 rfl rfl) h2 (Fit.arg hsz (j := 2) rfl rfl)
  refine (trustMends_walk A0 A1 A2 B2 n0 c0 n1 c1 n2 c2 m2 e2 L0 l1 l2 r2 W (table hL) hR0 hl1 hR1 hl2 hR2 hn2 hr2 hS2).mono fun e W' ⟨he, hb⟩ => ?_
  exact ⟨_, he, law_post laidOut (by kernel_rfl) (tb := 4) (by kernel_rfl) Tryd.underlying4 rfl hW' rfl hb⟩

theorem trustMends_met (os : Os) : laidMet Tryd.prog Rows.trustSincesRow.laid ((laidWorld os).forCall (fun _ _ => 0) ⟨#[], #[.slice none 0 0, .slice none 0 0, .agg #[.slice none 0 0, .slice none 0 0]], []⟩).memory :=
  laidMet_of_run' 8 (by kernel_rfl) (by kernel_rfl)
theorem trustMends_reads (os : Os) {H : Type} (enc : TypeId × Value → H) : ∃ places, DataW.whole enc Tryd.prog ((laidWorld os).forCall (fun _ _ => 0) ⟨#[], #[.slice none 0 0, .slice none 0 0, .agg #[.slice none 0 0, .slice none 0 0]], []⟩).memory Tryd.f7.params.toList Rows.trustMendsSpec.vars false (#[.slice none 0 0, .slice none 0 0, .agg #[.slice none 0 0, .slice none 0 0]] : Array Value).toList 8 = some ([.nil, .nil, .agg [.nil, .nil]], [], places) :=
  ⟨[], by kernel_rfl⟩
theorem trustMends_lifted (os : Os) (started : os.Started) (H : Type) (enc : TypeId × Value → H) (F : Stop.Interp) :
    ReturnsInHanded {} Tryd.checked os 7 .any ((OpenSpec.ofChange Rows.trustMendsSpec).preRow enc Tryd.prog Tryd.f7 Rows.trustMendsRow.domain false Rows.trustMendsRow.laid) (((OpenSpec.ofChange Rows.trustMendsSpec).at F).post enc Tryd.prog Tryd.f7 false true false false) := by
  obtain ⟨places, hx⟩ := trustMends_reads os enc
  refine returnsInHanded_of_row (C := Tryd.checked) (s := OpenSpec.ofChange Rows.trustMendsSpec) own started (by kernel_rfl) Tryd.func7
    (witness_row_at (enc := enc) (C := Tryd.checked) false (laidWorld os) #[.slice none 0 0, .slice none 0 0, .agg #[.slice none 0 0, .slice none 0 0]] rfl (by kernel_rfl) (by kernel_rfl) (by kernel_rfl)
      (OpenSpec.preRow_of_cond 8 hx (by kernel_rfl) (fun k hk => by cases hk) (by kernel_rfl) (trustMends_met os))) ?_
  intro W base args ds gs before hval hW _ _ hsz hL _ _
  exact trustMends_step H enc W base args ds gs before hval hW hsz hL

theorem trustMends_said : Rows.TrustMendsSaid :=
  OpenClaim.holds_of_cond 7 Tryd.f7 rfl rfl rfl rfl rfl rfl rfl ⟨rfl, rfl, rfl, rfl, rfl⟩ rfl rfl rfl rfl rfl (by kernel_rfl) Tryd.func7 (by kernel_rfl)
    (of_decide_eq_true (by kernel_rfl)) (by unfold Func.isWrapper; first | (rw [if_pos (by decide +kernel)]; kernel_rfl) | (rw [if_neg (by decide +kernel)]; exact ⟨rfl, rfl⟩))
    (fun os started H enc _ F => by rw [OpenClaim.pre_eq_preRow]; exact trustMends_lifted os started H enc F)

theorem trustMends_card : Rows.TrustMendsCardSaid :=
  Claim7.holds_tied_plain_at .later [] _ _ _ _ trustMends_said (fun _ h => by cases h) (by kernel_rfl) (fun _ h => by cases h) trustMends_row_tie rfl ⟨rfl, rfl⟩ (by kernel_rfl) rfl (plain_of (k := 7) (fk := Tryd.f7) (by kernel_rfl) Tryd.func7 (by kernel_rfl) (by kernel_rfl)) (by kernel_rfl)
#print axioms trustMends_card
end Go.Proofs.YticnfjfdeagmaaaDoor
