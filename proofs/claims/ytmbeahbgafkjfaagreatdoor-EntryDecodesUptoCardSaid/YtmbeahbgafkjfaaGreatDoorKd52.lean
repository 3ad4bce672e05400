/- Lemmas for the claim, layer 52. -/
import Derived.Test.YtmbeahbgafkjfaaGreatDoorKd51
set_option maxRecDepth 100000
namespace Go.Proofs.YtmbeahbgafkjfaaGreatDoor
open Go.ChangeShapes Go.WideShapes Go.ChangeAt Go.RowKit
theorem entryDecodes_step (H:Type) (enc:TypeId×Value→H) (W:World) (base:Nat) (args:Array Value) (ds gs:List (DataW H)) (before:List MemPlace)
  (hval0:∀(j:Nat) t v,Tryz.f4.params[j]?=some t→args[j]?=some v→Value.okWide Tryz.prog W .any base t v)
  (hW:DataW.Whole enc Tryz.prog Tryz.f4.params.toList Rows.entryDecodesSpec.vars false W args.toList ds gs before)
  (hk:Rows.uptoSmall H (ds++gs)=true)
  (hsz0:(DataW.weightsEach Tryz.prog (Tryz.f4.params.toList++Rows.entryDecodesSpec.plain.varTypes Tryz.prog) (ds++gs)).all (·≤reachBytes)=true) (hL:laidMetH Tryz.prog Rows.entryEncodesRow.laid W):
  Calls Tryz.prog 4 args W fun e W'=>∃v,e=.returned v∧Rows.entryDecodesSpec.post enc Tryz.prog Tryz.f4 false true false false W args v W':=by
 have hval:∀(j:Nat) t v,Tryz.f4.params[j]?=some t→args[j]?=some v→Value.okWide Tryz.prog W .any base t v:=hval0
 have hsz:=hsz0
 have hW':=hW
 obtain⟨p,q,hA0,hV,rfl,hfz,hnd⟩:=hW
 have hA:DataW.TrodAll enc Tryz.prog W 0 (fun _=>true) true Tryz.f4.params.toList args.toList ds p:=hA0
 rw[Tryz.params4] at hA hval hsz
 obtain⟨v0,d0,rfl,rfl,h0⟩:=trodAll_one hA
 obtain⟨rfl,rfl⟩:=trodVars_none hV
 simp only[List.append_nil] at hW' hsz hk
 have hbk:=uptoBound hk
 have hu0:=Nat.le_trans (part_le (d:=d0) (l:=[d0]) (by simp)) hbk
 obtain⟨A0,n0,c0,l0,rfl,hl0,hc0,hR0⟩:=open_bytes Tryz.underlying29 Tryz.underlying5 (by kernel_rfl) (hval 0 29 v0 rfl rfl) h0
 have hcap0:=hR0.cap
 have hz0:=Nat.le_trans (cap_le d0) hu0
 rw[←hc0] at hz0
 refine(entryDecodes_walk A0 n0 c0 l0 W (table hL) hl0 hR0 (by omega)).mono fun e W' ⟨he,hb⟩=>?_
 exact⟨_,he,law_post laidOut (by kernel_rfl) (tb:=4) (by kernel_rfl) Tryz.underlying4 rfl hW' rfl hb⟩
theorem entryDecodes_met (os:Os):laidMet Tryz.prog Rows.entryDecodesUptoRow.laid ((laidWorld os).forCall (fun _ _=>0) ⟨#[],#[.slice none 0 0],[]⟩).memory:=
 laidMet_of_run' 8 (by kernel_rfl) (by kernel_rfl)
theorem entryDecodes_reads (os:Os) {H:Type} (enc:TypeId×Value→H):∃places,DataW.whole enc Tryz.prog ((laidWorld os).forCall (fun _ _=>0) ⟨#[],#[.slice none 0 0],[]⟩).memory Tryz.f4.params.toList Rows.entryDecodesSpec.vars false (#[.slice none 0 0]:Array Value).toList 8=some ([.nil],[],places):=
 ⟨[],by kernel_rfl⟩
theorem entryDecodes_lifted (os:Os) (started:os.Started) (H:Type) (enc:TypeId×Value→H) (F:Stop.Interp):
  ReturnsInHanded {} Tryz.checked os 4 .any ((Rows.OpenSpec.upto Rows.entryDecodesSpec).preRow enc Tryz.prog Tryz.f4 Rows.entryDecodesUptoRow.domain false Rows.entryDecodesUptoRow.laid) (((Rows.OpenSpec.upto Rows.entryDecodesSpec).at F).post enc Tryz.prog Tryz.f4 false true false false):=by
 obtain⟨places,hx⟩:=entryDecodes_reads os enc
 refine returnsInHanded_of_row (C:=Tryz.checked) (s:=Rows.OpenSpec.upto Rows.entryDecodesSpec) own started (by kernel_rfl) Tryz.func4
  (witness_row_at (enc:=enc) (C:=Tryz.checked) false (laidWorld os) #[.slice none 0 0] rfl (by kernel_rfl) (by kernel_rfl) (by kernel_rfl)
   (OpenSpec.preRow_of_cond 8 hx (by kernel_rfl) (fun k hk=>by cases hk;kernel_rfl) (by kernel_rfl) (entryDecodes_met os))) ?_
 intro W base args ds gs before hval hW _ hcond hsz hL _ _
 exact entryDecodes_step H enc W base args ds gs before hval hW (hcond _ rfl) hsz hL
theorem entryDecodes_said:Rows.EntryDecodesUptoSaid:=
 OpenClaim.holds_of_cond 4 Tryz.f4 rfl rfl rfl rfl rfl rfl rfl ⟨rfl,rfl,rfl,rfl,rfl⟩ rfl rfl rfl rfl rfl (by kernel_rfl) Tryz.func4 (by kernel_rfl)
  (of_decide_eq_true (by kernel_rfl)) (by unfold Func.isWrapper;first | (rw[if_pos (by decide +kernel)];kernel_rfl) | (rw[if_neg (by decide +kernel)];exact⟨rfl,rfl⟩))
  (fun os started H enc _ F=>by rw[OpenClaim.pre_eq_preRow];exact entryDecodes_lifted os started H enc F)
theorem entryDecodes_card:Rows.EntryDecodesUptoCardSaid:=
 Claim7.holds_tied_plain_at .later [] _ _ _ _ entryDecodes_said (fun _ h=>by cases h) (by kernel_rfl) (fun _ h=>by cases h) entryDecodesUpto_row_tie rfl ⟨rfl,rfl⟩ (by kernel_rfl) rfl (plain_of (k:=4) (fk:=Tryz.f4) (by kernel_rfl) Tryz.func4 (by kernel_rfl) (by kernel_rfl)) (by kernel_rfl)
end Go.Proofs.YtmbeahbgafkjfaaGreatDoor
