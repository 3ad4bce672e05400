/- Lemmas for the claim, layer 52. -/
import Derived.Test.YtmbeahbgafkjfaaGreatDoorKb51
set_option maxRecDepth 100000
namespace Go.Proofs.YtmbeahbgafkjfaaGreatDoor
open Go.ChangeShapes Go.WideShapes Go.ChangeAt Go.RowKit
theorem entryBack_step (H:Type) (enc:TypeId×Value→H) (W:World) (base:Nat) (args:Array Value) (ds gs:List (DataW H)) (before:List MemPlace)
  (hval0:∀(j:Nat) t v,Tryz.f6.params[j]?=some t→args[j]?=some v→Value.okWide Tryz.prog W .any base t v)
  (hW:DataW.Whole enc Tryz.prog Tryz.f6.params.toList Rows.entryBackSpec.vars false W args.toList ds gs before)
  (hk:Rows.uptoSmall H (ds++gs)=true)
  (hsz0:(DataW.weightsEach Tryz.prog (Tryz.f6.params.toList++Rows.entryBackSpec.plain.varTypes Tryz.prog) (ds++gs)).all (·≤reachBytes)=true) (hL:laidMetH Tryz.prog Rows.entryEncodesRow.laid W):
  Calls Tryz.prog 6 args W fun e W'=>∃v,e=.returned v∧Rows.entryBackSpec.post enc Tryz.prog Tryz.f6 false true false false W args v W':=by
 have hval:∀(j:Nat) t v,Tryz.f6.params[j]?=some t→args[j]?=some v→Value.okWide Tryz.prog W .any base t v:=hval0
 have hsz:=hsz0
 have hW':=hW
 obtain⟨p,q,hA0,hV,rfl,hfz,hnd⟩:=hW
 have hA:DataW.TrodAll enc Tryz.prog W 0 (fun _=>true) true Tryz.f6.params.toList args.toList ds p:=hA0
 rw[Tryz.params6] at hA hval hsz
 obtain⟨v0,v1,d0,d1,p0,p1,rfl,rfl,rfl,h0,h1⟩:=trodAll_two hA
 obtain⟨rfl,rfl⟩:=trodVars_none hV
 simp only[List.append_nil] at hW' hsz hk
 have hbk:=uptoBound hk
 have hu0:=Nat.le_trans (part_le (d:=d0) (l:=[d0,d1]) (by simp)) hbk
 obtain⟨u0,x0,L0,M0,S0,rfl,hE0,hc0,hB0⟩:=open_entryC (hval 0 38 v0 rfl rfl) h0 (Fit.arg hsz (j:=0) rfl rfl)
 have hu1:=Nat.le_trans (part_le (d:=d1) (l:=[d0,d1]) (by simp)) hbk
 obtain⟨A1,n1,c1,l1,rfl,hl1,hc1,hR1⟩:=open_bytes Tryz.underlying29 Tryz.underlying5 (by kernel_rfl) (hval 1 29 v1 rfl rfl) h1
 have hcap1:=hR1.cap
 have hz1:=Nat.le_trans (cap_le d1) hu1
 rw[←hc1] at hz1
 refine(entryBack_walk x0 u0 L0 M0 S0 A1 n1 c1 l1 W (table hL) hE0 hc0 hB0.s1 hB0.s2 hl1 hR1 (by omega)).mono fun e W' ⟨he,hb⟩=>?_
 exact⟨_,he,law_post laidOut (by kernel_rfl) (tb:=4) (by kernel_rfl) Tryz.underlying4 rfl hW' rfl hb⟩
theorem entryBack_met (os:Os):laidMet Tryz.prog Rows.entryBackUptoRow.laid ((laidWorld os).forCall (fun _ _=>0) ⟨#[],#[.agg #[.int .i64 0,.slice none 0 0,.slice none 0 0,.slice none 0 0,.slice none 0 0,.int .i64 0,.int .i64 0,.int .i64 0,.slice none 0 0,.int .i64 0,.slice none 0 0,.slice none 0 0,.slice none 0 0,.slice none 0 0,.slice none 0 0,.int .i64 0,.slice none 0 0],.slice none 0 0],[]⟩).memory:=
 laidMet_of_run' 8 (by kernel_rfl) (by kernel_rfl)
theorem entryBack_reads (os:Os) {H:Type} (enc:TypeId×Value→H):∃places,DataW.whole enc Tryz.prog ((laidWorld os).forCall (fun _ _=>0) ⟨#[],#[.agg #[.int .i64 0,.slice none 0 0,.slice none 0 0,.slice none 0 0,.slice none 0 0,.int .i64 0,.int .i64 0,.int .i64 0,.slice none 0 0,.int .i64 0,.slice none 0 0,.slice none 0 0,.slice none 0 0,.slice none 0 0,.slice none 0 0,.int .i64 0,.slice none 0 0],.slice none 0 0],[]⟩).memory Tryz.f6.params.toList Rows.entryBackSpec.vars false (#[.agg #[.int .i64 0,.slice none 0 0,.slice none 0 0,.slice none 0 0,.slice none 0 0,.int .i64 0,.int .i64 0,.int .i64 0,.slice none 0 0,.int .i64 0,.slice none 0 0,.slice none 0 0,.slice none 0 0,.slice none 0 0,.slice none 0 0,.int .i64 0,.slice none 0 0],.slice none 0 0]:Array Value).toList 8=some ([.agg [.lit (.int .i64 0),.agg [.nil,.nil,.nil,.nil],.agg [.lit (.int .i64 0),.agg [.lit (.int .i64 0),.lit (.int .i64 0)],.nil],.lit (.int .i64 0),.nil,.agg [.nil,.nil,.nil,.nil,.lit (.int .i64 0)],.nil],.nil],[],places):=
 ⟨[],by kernel_rfl⟩
theorem entryBack_lifted (os:Os) (started:os.Started) (H:Type) (enc:TypeId×Value→H) (F:Stop.Interp):
  ReturnsInHanded {} Tryz.checked os 6 .any ((Rows.OpenSpec.upto Rows.entryBackSpec).preRow enc Tryz.prog Tryz.f6 Rows.entryBackUptoRow.domain false Rows.entryBackUptoRow.laid) (((Rows.OpenSpec.upto Rows.entryBackSpec).at F).post enc Tryz.prog Tryz.f6 false true false false):=by
 obtain⟨places,hx⟩:=entryBack_reads os enc
 refine returnsInHanded_of_row (C:=Tryz.checked) (s:=Rows.OpenSpec.upto Rows.entryBackSpec) own started (by kernel_rfl) Tryz.func6
  (witness_row_at (enc:=enc) (C:=Tryz.checked) false (laidWorld os) #[.agg #[.int .i64 0,.slice none 0 0,.slice none 0 0,.slice none 0 0,.slice none 0 0,.int .i64 0,.int .i64 0,.int .i64 0,.slice none 0 0,.int .i64 0,.slice none 0 0,.slice none 0 0,.slice none 0 0,.slice none 0 0,.slice none 0 0,.int .i64 0,.slice none 0 0],.slice none 0 0] rfl (by kernel_rfl) (by kernel_rfl) (by kernel_rfl)
   (OpenSpec.preRow_of_cond 8 hx (by kernel_rfl) (fun k hk=>by cases hk;kernel_rfl) (by kernel_rfl) (entryBack_met os))) ?_
 intro W base args ds gs before hval hW _ hcond hsz hL _ _
 exact entryBack_step H enc W base args ds gs before hval hW (hcond _ rfl) hsz hL
theorem entryBack_said:Rows.EntryBackUptoSaid:=
 OpenClaim.holds_of_cond 6 Tryz.f6 rfl rfl rfl rfl rfl rfl rfl ⟨rfl,rfl,rfl,rfl,rfl⟩ rfl rfl rfl rfl rfl (by kernel_rfl) Tryz.func6 (by kernel_rfl)
  (of_decide_eq_true (by kernel_rfl)) (by unfold Func.isWrapper;first | (rw[if_pos (by decide +kernel)];kernel_rfl) | (rw[if_neg (by decide +kernel)];exact⟨rfl,rfl⟩))
  (fun os started H enc _ F=>by rw[OpenClaim.pre_eq_preRow];exact entryBack_lifted os started H enc F)
theorem entryBack_card:Rows.EntryBackUptoCardSaid:=
 Claim7.holds_tied_plain_at .later [] _ _ _ _ entryBack_said (fun _ h=>by cases h) (by kernel_rfl) (fun _ h=>by cases h) entryBackUpto_row_tie rfl ⟨rfl,rfl⟩ (by kernel_rfl) rfl (plain_of (k:=6) (fk:=Tryz.f6) (by kernel_rfl) Tryz.func6 (by kernel_rfl) (by kernel_rfl)) (by kernel_rfl)
end Go.Proofs.YtmbeahbgafkjfaaGreatDoor
