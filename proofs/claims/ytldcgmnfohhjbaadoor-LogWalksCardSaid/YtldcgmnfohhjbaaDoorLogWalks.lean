/- LogWalks holds for every input: the places and notes of any log are told in order, up to where the loop is left; nothing of one that isn't formed. No condition; the tied card: the table of math/bits lies as the pruned copy's initialiser lays it.
-/
import Derived.Test.YtldcgmnfohhjbaaDoorLgO
import Derived.Test.YtldcgmnfohhjbaaDoorLgFr
namespace Go.Proofs.YtldcgmnfohhjbaaDoor
open Go.ChangeShapes Go.WideShapes Go.ChangeAt Go.RowKit
set_option maxRecDepth 100000
theorem logWalks_step (H : Type) (enc : TypeId × Value → H) (W : World) (base : Nat) (args : Array Value) (ds gs : List (DataW H)) (before : List MemPlace)
    (hval0 : ∀ (j : Nat) t v, Tryd.f8.params[j]? = some t → args[j]? = some v → Value.okWide Tryd.prog W .any base t v)
    (hW : DataW.Whole enc Tryd.prog Tryd.f8.params.toList Rows.logWalksSpec.vars false W args.toList ds gs before)
    (hsz0 : (DataW.weightsEach Tryd.prog (Tryd.f8.params.toList ++ Rows.logWalksSpec.plain.varTypes Tryd.prog) (ds ++ gs)).all (· ≤ reachBytes) = true) (hL : laidMetH Tryd.prog Rows.noteOfsRow.laid W) :
    Calls Tryd.prog 8 args W fun e W' => ∃ v, e = .returned v ∧ Rows.logWalksSpec.post enc Tryd.prog Tryd.f8 false true false false W args v W' := by
  have hval : ∀ (j : Nat) t v, Tryd.f8.params[j]? = some t → args[j]? = some v → Value.okWide Tryd.prog W .any base t v := hval0
  have hsz := hsz0
  have hW' := hW
  obtain ⟨p, q, hA0, hV, rfl, hfz, hnd⟩ := hW
  have hA : DataW.TrodAll enc Tryd.prog W 0 (fun _ => true) true Tryd.f8.params.toList args.toList ds p := hA0
  rw [Tryd.params8] at hA hval hsz
  obtain ⟨v0, v1, v2, d0, d1, d2, p0, p1, p2, rfl, rfl, rfl, h0, h1, h2⟩ := trodAll_three hA
  obtain ⟨rfl, rfl⟩ := trodVars_none hV
  simp only [List.append_nil] at hW' hsz
  obtain ⟨v0, b0, L0, su0, rfl, hG0, hz0⟩ := open_log (hval 0 47 v0 rfl rfl) h0 (Fit.arg hsz (j := 0) rfl rfl)
  obtain ⟨x1, rfl, rfl, rfl, wx1⟩ := open_int Tryd.underlying3 (hval 1 3 v1 rfl rfl) h1
  have hx1 := i64_of_wf wx1
  obtain ⟨x2, rfl, rfl, rfl, wx2⟩ := open_int Tryd.underlying5 (hval 2 5 v2 rfl rfl) h2
  have hx2 := u8_of_wf wx2
  refine (logWalks_walk v0 b0 L0 su0 x1 x2 W (table hL) hG0 hz0 hx2.1 hx2.2 hx1.2).mono fun e W' ⟨he, hb⟩ => ?_
  exact ⟨_, he, law_post laidOut (by kernel_rfl) (tb := 4) (by kernel_rfl) Tryd.underlying4 rfl hW' rfl hb⟩

theorem logWalks_met (os : Os) : laidMet Tryd.prog Rows.noteOfsRow.laid ((laidWorld os).forCall (fun _ _ => 0) ⟨#[], #[.agg #[.slice none 0 0, .slice none 0 0, .int .i64 0], .int .i64 0, .int .u8 0], []⟩).memory :=
  laidMet_of_run' 8 (by kernel_rfl) (by kernel_rfl)
theorem logWalks_reads (os : Os) {H : Type} (enc : TypeId × Value → H) : ∃ places, DataW.whole enc Tryd.prog ((laidWorld os).forCall (fun _ _ => 0) ⟨#[], #[.agg #[.slice none 0 0, .slice none 0 0, .int .i64 0], .int .i64 0, .int .u8 0], []⟩).memory Tryd.f8.params.toList Rows.logWalksSpec.vars false (#[.agg #[.slice none 0 0, .slice none 0 0, .int .i64 0], .int .i64 0, .int .u8 0] : Array Value).toList 8 = some ([.agg [.nil, .nil, .lit (.int .i64 0)], .lit (.int .i64 0), .lit (.int .u8 0)], [], places) :=
  ⟨[], by kernel_rfl⟩
theorem logWalks_lifted (os : Os) (started : os.Started) (H : Type) (enc : TypeId × Value → H) (F : Stop.Interp) :
    ReturnsInHanded {} Tryd.checked os 8 .any ((OpenSpec.ofChange Rows.logWalksSpec).preRow enc Tryd.prog Tryd.f8 Rows.logWalksRow.domain false Rows.logWalksRow.laid) (((OpenSpec.ofChange Rows.logWalksSpec).at F).post enc Tryd.prog Tryd.f8 false true false false) := by
  obtain ⟨places, hx⟩ := logWalks_reads os enc
  refine returnsInHanded_of_row (C := Tryd.checked) (s := OpenSpec.ofChange Rows.logWalksSpec) own started (by kernel_rfl) Tryd.func8
    (witness_row_at (enc := enc) (C := Tryd.checked) false (laidWorld os) #[.agg #[.slice none 0 0, .slice none 0 0, .int .i64 0], .int .i64 0, .int .u8 0] rfl (by kernel_rfl) (by kernel_rfl) (by kernel_rfl)
      (OpenSpec.preRow_of_cond 8 hx (by kernel_rfl) (fun k hk => by cases hk) (by kernel_rfl) (logWalks_met os))) ?_
  intro W base args ds gs before hval hW _ _ hsz hL _ _
  exact logWalks_step H enc W base args ds gs before hval hW hsz hL

theorem logWalks_said : Rows.LogWalksSaid :=
  OpenClaim.holds_of_cond 8 Tryd.f8 rfl rfl rfl rfl rfl rfl rfl ⟨rfl, rfl, rfl, rfl, rfl⟩ rfl rfl rfl rfl rfl (by kernel_rfl) Tryd.func8 (by kernel_rfl)
    (of_decide_eq_true (by kernel_rfl)) (by unfold Func.isWrapper; first | (rw [if_pos (by decide +kernel)]; kernel_rfl) | (rw [if_neg (by decide +kernel)]; exact ⟨rfl, rfl⟩))
    (fun os started H enc _ F => by rw [OpenClaim.pre_eq_preRow]; exact logWalks_lifted os started H enc F)

theorem logWalks_card : Rows.LogWalksCardSaid :=
  Claim7.holds_tied_plain_at .later [] _ _ _ _ logWalks_said (fun _ h => by cases h) (by kernel_rfl) (fun _ h => by cases h) logWalks_row_tie rfl ⟨rfl, rfl⟩ (by kernel_rfl) rfl (plain_of (k := 8) (fk := Tryd.f8) (by kernel_rfl) Tryd.func8 (by kernel_rfl) (by kernel_rfl)) (by kernel_rfl)
#print axioms logWalks_card
end Go.Proofs.YtldcgmnfohhjbaaDoor
