/- Lemmas for the claim, layer 52. -/
import Derived.Test.YtmbeahbgafkjfaaGreatDoorKc51
set_option maxRecDepth 100000
namespace Go.Proofs.YtmbeahbgafkjfaaGreatDoor
open Go.ChangeShapes Go.WideShapes Go.ChangeAt Go.RowKit
theorem entryChecks_step (H:Type) (enc:TypeId×Value->H) (W:World) (base:Nat) (args:Array Value) (ds gs:List (DataW H)) (before:List MemPlace)
  (hval0:∀(j:Nat) t v,Tryz.f7.params[j]?=some t->args[j]?=some v->Value.okWide Tryz.prog W .any base t v)
  (hW:DataW.Whole enc Tryz.prog Tryz.f7.params.toList Rows.entryChecksSpec.vars false W args.toList ds gs before)
  (hsz0:(DataW.weightsEach Tryz.prog (Tryz.f7.params.toList++Rows.entryChecksSpec.plain.varTypes Tryz.prog) (ds++gs)).all (·<=reachBytes)=true) (hL:laidMetH Tryz.prog Rows.entryEncodesRow.laid W):
  Calls Tryz.prog 7 args W fun e W'=>∃v,e=.returned v/\Rows.entryChecksSpec.post enc Tryz.prog Tryz.f7 false true false false W args v W':=by
 have hval:∀(j:Nat) t v,Tryz.f7.params[j]?=some t->args[j]?=some v->Value.okWide Tryz.prog W .any base t v:=hval0;have hsz:=hsz0;have hW':=hW;obtain⟨p,q,hA0,hV,rfl,hfz,hnd⟩:=hW;have hA:DataW.TrodAll enc Tryz.prog W 0 (fun _=>true) true Tryz.f7.params.toList args.toList ds p:=hA0;rw[Tryz.params7] at hA hval hsz;obtain⟨v0,v1,v2,d0,d1,d2,p0,p1,p2,rfl,rfl,rfl,h0,h1,h2⟩:=trodAll_three hA;obtain⟨rfl,rfl⟩:=trodVars_none hV;simp only[List.append_nil] at hW' hsz;obtain⟨A0,n0,c0,Q0,rfl,hQ0,hB0⟩:=open_entriesC (hval 0 58 v0 rfl rfl) h0 (Fit.arg hsz (j:=0) rfl rfl);obtain⟨u1,x1,L1,M1,rfl,hE1,hc1,hB1⟩:=open_viewC (hval 1 35 v1 rfl rfl) h1 (Fit.arg hsz (j:=1) rfl rfl);obtain⟨A2,n2,c2,S2,rfl,hS2,hB2⟩:=open_subsC (hval 2 36 v2 rfl rfl) h2 (Fit.arg hsz (j:=2) rfl rfl);refine(entryChecks_walk A0 n0 c0 Q0 u1 x1 L1 M1 A2 n2 c2 S2 W (table hL) hQ0 hB0 hE1 hS2).mono fun e W' ⟨he,hb⟩=>?_;exact⟨_,he,law_post laidOut (by kernel_rfl) (tb:=4) (by kernel_rfl) Tryz.underlying4 rfl hW' rfl hb⟩
theorem entryChecks_met (os:Os):laidMet Tryz.prog Rows.entryChecksRow.laid ((laidWorld os).forCall (fun _ _=>0) ⟨#[],#[.slice none 0 0,.agg #[.slice none 0 0,.slice none 0 0,.slice none 0 0,.slice none 0 0,.int .i64 0],.slice none 0 0],[]⟩).memory:=
 laidMet_of_run' 8 (by kernel_rfl) (by kernel_rfl)
theorem entryChecks_reads (os:Os) {H:Type} (enc:TypeId×Value->H):∃places,DataW.whole enc Tryz.prog ((laidWorld os).forCall (fun _ _=>0) ⟨#[],#[.slice none 0 0,.agg #[.slice none 0 0,.slice none 0 0,.slice none 0 0,.slice none 0 0,.int .i64 0],.slice none 0 0],[]⟩).memory Tryz.f7.params.toList Rows.entryChecksSpec.vars false (#[.slice none 0 0,.agg #[.slice none 0 0,.slice none 0 0,.slice none 0 0,.slice none 0 0,.int .i64 0],.slice none 0 0]:Array Value).toList 8=some ([.nil,.agg [.nil,.nil,.nil,.nil,.lit (.int .i64 0)],.nil],[],places):=
 ⟨[],by kernel_rfl⟩
theorem entryChecks_lifted (os:Os) (started:os.Started) (H:Type) (enc:TypeId×Value->H) (F:Stop.Interp):
  ReturnsInHanded {} Tryz.checked os 7 .any ((OpenSpec.ofChange Rows.entryChecksSpec).preRow enc Tryz.prog Tryz.f7 Rows.entryChecksRow.domain false Rows.entryChecksRow.laid) (((OpenSpec.ofChange Rows.entryChecksSpec).at F).post enc Tryz.prog Tryz.f7 false true false false):=by
 obtain⟨places,hx⟩:=entryChecks_reads os enc;refine returnsInHanded_of_row (C:=Tryz.checked) (s:=OpenSpec.ofChange Rows.entryChecksSpec) own started (by kernel_rfl) Tryz.func7
  (witness_row_at (enc:=enc) (C:=Tryz.checked) false (laidWorld os) #[.slice none 0 0,.agg #[.slice none 0 0,.slice none 0 0,.slice none 0 0,.slice none 0 0,.int .i64 0],.slice none 0 0] rfl (by kernel_rfl) (by kernel_rfl) (by kernel_rfl)
   (OpenSpec.preRow_of_cond 8 hx (by kernel_rfl) (fun k hk=>by cases hk) (by kernel_rfl) (entryChecks_met os))) ?_
 intro W base args ds gs before hval hW _ hcond hsz hL _ _;exact entryChecks_step H enc W base args ds gs before hval hW hsz hL
theorem entryChecks_said:Rows.EntryChecksSaid:=
 OpenClaim.holds_of_cond 7 Tryz.f7 rfl rfl rfl rfl rfl rfl rfl ⟨rfl,rfl,rfl,rfl,rfl⟩ rfl rfl rfl rfl rfl (by kernel_rfl) Tryz.func7 (by kernel_rfl)
  (of_decide_eq_true (by kernel_rfl)) (by unfold Func.isWrapper;first | (rw[if_pos (by decide +kernel)];kernel_rfl) | (rw[if_neg (by decide +kernel)];exact⟨rfl,rfl⟩))
  (fun os started H enc _ F=>by rw[OpenClaim.pre_eq_preRow];exact entryChecks_lifted os started H enc F)
theorem entryChecks_card:Rows.EntryChecksCardSaid:=
 Claim7.holds_tied_plain_at .later [] _ _ _ _ entryChecks_said (fun _ h=>by cases h) (by kernel_rfl) (fun _ h=>by cases h) entryChecks_row_tie rfl ⟨rfl,rfl⟩ (by kernel_rfl) rfl (plain_of (k:=7) (fk:=Tryz.f7) (by kernel_rfl) Tryz.func7 (by kernel_rfl) (by kernel_rfl)) (by kernel_rfl)
end Go.Proofs.YtmbeahbgafkjfaaGreatDoor
