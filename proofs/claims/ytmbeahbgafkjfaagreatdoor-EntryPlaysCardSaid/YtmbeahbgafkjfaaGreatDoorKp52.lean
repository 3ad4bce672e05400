/- EntryPlays: any entry is played upon any view and subscriptions as the document says, or refused, and what was handed in stays. The tied card: the table of math/bits lies as its text lays it. -/
import Derived.Test.YtmbeahbgafkjfaaGreatDoorKp51
set_option linter.unusedSimpArgs false
set_option maxRecDepth 100000
namespace Go.Proofs.YtmbeahbgafkjfaaGreatDoor
open Go.Proofs.Tryz
open Go.ChangeShapes Go.WideShapes Go.ChangeAt Go.RowKit
theorem Jb3 (H:Type) (enc:TypeId×Value->H) (W:World) (base:Nat) (args:Array Value) (ds gs:List (DataW H)) (before:List MemPlace)
  (hval0:∀(j:Nat) t v,Tryz.f5.params[j]?=some t->args[j]?=some v->Value.okWide prog W .any base t v)
  (hW:DataW.Whole enc prog Tryz.f5.params.toList Rows.entryPlaysSpec.vars false W args.toList ds gs before)
  (hsz0:(DataW.weightsEach prog (Tryz.f5.params.toList++Rows.entryPlaysSpec.plain.varTypes prog) (ds++gs)).all (·<=reachBytes)=true) (hL:laidMetH prog Rows.entryEncodesRow.laid W):
  Calls prog 5 args W fun e W'=>∃v,e=.returned v/\Rows.entryPlaysSpec.post enc prog Tryz.f5 false true false false W args v W':=by
 have hval:∀(j:Nat) t v,Tryz.f5.params[j]?=some t->args[j]?=some v->Value.okWide prog W .any base t v:=hval0;have hsz:=hsz0;have hW':=hW;obtain⟨p,q,hA0,hV,rfl,hfz,hnd⟩:=hW;have hA:DataW.TrodAll enc prog W 0 (fun _=>true) true Tryz.f5.params.toList args.toList ds p:=hA0;rw[Tryz.params5] at hA hval hsz;obtain⟨v0,v1,v2,d0,d1,d2,p0,p1,p2,rfl,rfl,rfl,h0,h1,h2⟩:=trodAll_three hA;obtain⟨rfl,rfl⟩:=trodVars_none hV;simp only[EG] at hW' hsz;obtain⟨u0,x0,L0,M0,rfl,hE0,hc0,hB0⟩:=JhQ (hval 0 35 v0 rfl rfl) h0 (KT.arg hsz (j:=0) rfl rfl);obtain⟨A1,n1,c1,S1,rfl,hS1,hB1⟩:=Jhv (hval 1 36 v1 rfl rfl) h1 (KT.arg hsz (j:=1) rfl rfl);obtain⟨u2,x2,L2,M2,S2,rfl,hE2,hc2,hB2⟩:=Jg0 (hval 2 38 v2 rfl rfl) h2 (KT.arg hsz (j:=2) rfl rfl);refine(JbZ u0 x0 L0 M0 A1 n1 c1 S1 u2 x2 W (Jpk hL) hE0 ⟨hB0.k,hB0.z,hB0.h,hB0.b,fun p hp=>EY (hB0.y p hp) (by decide)⟩ hS1 hB1.n hB1.each ⟨L2,M2,S2,hE2⟩ ⟨hc2.b,by rw[hE2.nt.l1,hE2.nt.l2,hE2.nt.l3,hE2.nt.l4];exact hB2.s1,hB2.s2⟩).mono fun e W' ⟨he,hb⟩=>?_;exact⟨_,he,Jmd Jm4 (by kernel_rfl) (tb:=4) (by kernel_rfl) underlying4 rfl hW' rfl hb⟩
theorem JcW (os:Os):laidMet prog Rows.entryPlaysRow.laid ((Jbr os).forCall (fun _ _=>0) ⟨#[],#[.agg #[.slice none 0 0,.slice none 0 0,.slice none 0 0,.slice none 0 0,.int .i64 0],.slice none 0 0,.agg #[.int .i64 0,.slice none 0 0,.slice none 0 0,.slice none 0 0,.slice none 0 0,.int .i64 0,.int .i64 0,.int .i64 0,.slice none 0 0,.int .i64 0,.slice none 0 0,.slice none 0 0,.slice none 0 0,.slice none 0 0,.slice none 0 0,.int .i64 0,.slice none 0 0]],[]⟩).memory:=
 laidMet_of_run' 8 (by kernel_rfl) (by kernel_rfl)
theorem Jbq (os:Os) {H:Type} (enc:TypeId×Value->H):∃places,DataW.whole enc prog ((Jbr os).forCall (fun _ _=>0) ⟨#[],#[.agg #[.slice none 0 0,.slice none 0 0,.slice none 0 0,.slice none 0 0,.int .i64 0],.slice none 0 0,.agg #[.int .i64 0,.slice none 0 0,.slice none 0 0,.slice none 0 0,.slice none 0 0,.int .i64 0,.int .i64 0,.int .i64 0,.slice none 0 0,.int .i64 0,.slice none 0 0,.slice none 0 0,.slice none 0 0,.slice none 0 0,.slice none 0 0,.int .i64 0,.slice none 0 0]],[]⟩).memory Tryz.f5.params.toList Rows.entryPlaysSpec.vars false (#[.agg #[.slice none 0 0,.slice none 0 0,.slice none 0 0,.slice none 0 0,.int .i64 0],.slice none 0 0,.agg #[.int .i64 0,.slice none 0 0,.slice none 0 0,.slice none 0 0,.slice none 0 0,.int .i64 0,.int .i64 0,.int .i64 0,.slice none 0 0,.int .i64 0,.slice none 0 0,.slice none 0 0,.slice none 0 0,.slice none 0 0,.slice none 0 0,.int .i64 0,.slice none 0 0]]:Array Value).toList 8=some ([.agg [.nil,.nil,.nil,.nil,.lit (.int .i64 0)],.nil,.agg [.lit (.int .i64 0),.agg [.nil,.nil,.nil,.nil],.agg [.lit (.int .i64 0),.agg [.lit (.int .i64 0),.lit (.int .i64 0)],.nil],.lit (.int .i64 0),.nil,.agg [.nil,.nil,.nil,.nil,.lit (.int .i64 0)],.nil]],[],places):=
 ⟨[],by kernel_rfl⟩
theorem JaP (os:Os) (started:os.Started) (H:Type) (enc:TypeId×Value->H) (F:Stop.Interp):
  ReturnsInHanded {} Tryz.checked os 5 .any ((OpenSpec.ofChange Rows.entryPlaysSpec).preRow enc prog Tryz.f5 Rows.entryPlaysRow.domain false Rows.entryPlaysRow.laid) (((OpenSpec.ofChange Rows.entryPlaysSpec).at F).post enc prog Tryz.f5 false true false false):=by
 obtain⟨places,hx⟩:=Jbq os enc;refine returnsInHanded_of_row (C:=Tryz.checked) (s:=OpenSpec.ofChange Rows.entryPlaysSpec) own started (by kernel_rfl) func5
  (witness_row_at (enc:=enc) (C:=Tryz.checked) false (Jbr os) #[.agg #[.slice none 0 0,.slice none 0 0,.slice none 0 0,.slice none 0 0,.int .i64 0],.slice none 0 0,.agg #[.int .i64 0,.slice none 0 0,.slice none 0 0,.slice none 0 0,.slice none 0 0,.int .i64 0,.int .i64 0,.int .i64 0,.slice none 0 0,.int .i64 0,.slice none 0 0,.slice none 0 0,.slice none 0 0,.slice none 0 0,.slice none 0 0,.int .i64 0,.slice none 0 0]] rfl (by kernel_rfl) (by kernel_rfl) (by kernel_rfl)
   (OpenSpec.preRow_of_cond 8 hx (by kernel_rfl) (fun k hk=>by cases hk) (by kernel_rfl) (JcW os))) ?_
 intro W base args ds gs before hval hW _ hcond hsz hL _ _;exact Jb3 H enc W base args ds gs before hval hW hsz hL
theorem Jb2:Rows.EntryPlaysSaid:=
 OpenClaim.holds_of_cond 5 Tryz.f5 rfl rfl rfl rfl rfl rfl rfl ⟨rfl,rfl,rfl,rfl,rfl⟩ rfl rfl rfl rfl rfl (by kernel_rfl) func5 (by kernel_rfl)
  (of_decide_eq_true (by kernel_rfl)) (by unfold Func.isWrapper;first | (rw[Ei (by decide +kernel)];kernel_rfl) | (rw[Ef (by decide +kernel)];exact⟨rfl,rfl⟩))
  (fun os started H enc _ F=>by rw[OpenClaim.pre_eq_preRow];exact JaP os started H enc F)
theorem entryPlays_card:Rows.EntryPlaysCardSaid:=
 Claim7.holds_tied_plain_at .later [] _ _ _ _ Jb2 (fun _ h=>by cases h) (by kernel_rfl) (fun _ h=>by cases h) entryPlays_row_tie rfl ⟨rfl,rfl⟩ (by kernel_rfl) rfl (JlF (k:=5) (fk:=Tryz.f5) (by kernel_rfl) func5 (by kernel_rfl) (by kernel_rfl)) (by kernel_rfl)
end Go.Proofs.YtmbeahbgafkjfaaGreatDoor
