/- Lemmas for the claim, layer 32. -/
import Derived.Test.YtmbeahbgafkjfaaGreatDoorKq31
set_option maxRecDepth 100000
namespace Go.Proofs.YtmbeahbgafkjfaaGreatDoor
open Wq
def ent1 (x:Ent):Ent:=⟨1,x.note,bdz,0,[],vw0,[]⟩
def ent2 (x:Ent):Ent:=⟨2,ntz,x.body,0,[],vw0,[]⟩
def ent3 (x:Ent):Ent:=⟨3,x.note,x.body,0,[],vw0,[]⟩
def ent4 (x:Ent):Ent:=⟨4,ntz,bdz,x.from_,x.int,vw0,[]⟩
def ent5 (x:Ent):Ent:=⟨5,ntz,bdz,0,[],x.view,x.subs⟩
theorem bareB_iff (x:Bd):bareB x=true↔x=bdz:=⟨bareB_is,fun h=>by rw[h];rfl⟩
theorem emptyN_iff (x:Nt):emptyN x=true↔x=ntz:=⟨emptyN_is,fun h=>by rw[h];rfl⟩
theorem noSub_iff (x:Ent):noSub x=true↔x.from_=0∧x.int=[]:=⟨noSub_is,fun h=>by unfold noSub;rw[h.1,h.2];rfl⟩
theorem noChk_iff (x:Ent):noChk x=true↔x.view=vw0∧x.subs=[]:=⟨noChk_is,fun h=>by unfold noChk;rw[h.1,h.2];rfl⟩
theorem ent_iff (x:Ent) (k:Int) (n:Nt) (b:Bd) (f:Int) (i:List Sn.Sp) (v:Vw) (s:List Sb):x=⟨k,n,b,f,i,v,s⟩↔x.kind=k∧x.note=n∧x.body=b∧x.from_=f∧x.int=i∧x.view=v∧x.subs=s:=by
 obtain⟨a1,a2,a3,a4,a5,a6,a7⟩:=x
 simp
theorem same1 (x:Ent) (h:x.kind=1):entE x (ent1 x)=(bareB x.body && (noSub x && noChk x)):=by
 rw[Bool.eq_iff_iff,entE_iff,ent1,ent_iff,Bool.and_eq_true,Bool.and_eq_true,bareB_iff,noSub_iff,noChk_iff]
 exact⟨fun ⟨_,_,a,b,c,d,e⟩=>⟨a,⟨b,c⟩,d,e⟩,fun ⟨a,⟨b,c⟩,d,e⟩=>⟨h,rfl,a,b,c,d,e⟩⟩
theorem same2 (x:Ent) (h:x.kind=2):entE x (ent2 x)=(emptyN x.note && (noSub x && noChk x)):=by
 rw[Bool.eq_iff_iff,entE_iff,ent2,ent_iff,Bool.and_eq_true,Bool.and_eq_true,emptyN_iff,noSub_iff,noChk_iff]
 exact⟨fun ⟨_,a,_,b,c,d,e⟩=>⟨a,⟨b,c⟩,d,e⟩,fun ⟨a,⟨b,c⟩,d,e⟩=>⟨h,a,rfl,b,c,d,e⟩⟩
theorem same3 (x:Ent) (h:x.kind=3):entE x (ent3 x)=(noSub x && noChk x):=by
 rw[Bool.eq_iff_iff,entE_iff,ent3,ent_iff,Bool.and_eq_true,noSub_iff,noChk_iff]
 exact⟨fun ⟨_,_,_,b,c,d,e⟩=>⟨⟨b,c⟩,d,e⟩,fun ⟨⟨b,c⟩,d,e⟩=>⟨h,rfl,rfl,b,c,d,e⟩⟩
theorem same4 (x:Ent) (h:x.kind=4):entE x (ent4 x)=(emptyN x.note && (bareB x.body && noChk x)):=by
 rw[Bool.eq_iff_iff,entE_iff,ent4,ent_iff,Bool.and_eq_true,Bool.and_eq_true,emptyN_iff,bareB_iff,noChk_iff]
 exact⟨fun ⟨_,a,b,_,_,d,e⟩=>⟨a,b,d,e⟩,fun ⟨a,b,d,e⟩=>⟨h,a,b,rfl,rfl,d,e⟩⟩
theorem same5 (x:Ent) (h:x.kind=5):entE x (ent5 x)=(emptyN x.note && (bareB x.body && noSub x)):=by
 rw[Bool.eq_iff_iff,entE_iff,ent5,ent_iff,Bool.and_eq_true,Bool.and_eq_true,emptyN_iff,bareB_iff,noSub_iff]
 exact⟨fun ⟨_,a,b,d,e,_,_⟩=>⟨a,b,d,e⟩,fun ⟨a,b,d,e⟩=>⟨h,a,b,d,e,rfl,rfl⟩⟩
theorem entF_1 (x:Ent) (h:x.kind=1):entF x=(ntF x.note && entE x (ent1 x)):=by
 rw[same1 x h];unfold entF;rw[if_pos h]
theorem entF_2 (x:Ent) (h:x.kind=2):entF x=(bdF x.body && entE x (ent2 x)):=by
 rw[same2 x h];unfold entF;rw[if_neg (by rw[h];decide),if_pos h]
 cases emptyN x.note<;>cases bdF x.body<;>simp
theorem entF_3 (x:Ent) (h:x.kind=3):entF x=(entE x (ent3 x) && (match x.note.w with | [w]=>ntF x.note && ofWr w x.body | _=>false)):=by
 rw[same3 x h];unfold entF;rw[if_neg (by rw[h];decide),if_neg (by rw[h];decide),if_pos h]
 rfl
theorem entF_4 (x:Ent) (h:x.kind=4):entF x=(((decide (0≤x.from_) && decide (x.from_≤63)) && Sn.fmS (-2) x.int) && entE x (ent4 x)):=by
 rw[same4 x h];unfold entF;rw[if_neg (by rw[h];decide),if_neg (by rw[h];decide),if_neg (by rw[h];decide),if_pos h]
 exact Bool.and_comm _ _
theorem entF_5 (x:Ent) (h:x.kind=5):entF x=((vwF x.view && restF x.subs) && entE x (ent5 x)):=by
 rw[same5 x h];unfold entF;rw[if_neg (by rw[h];decide),if_neg (by rw[h];decide),if_neg (by rw[h];decide),if_neg (by rw[h];decide),if_pos h]
 exact Bool.and_comm _ _
theorem entF_no (x:Ent) (h:¬ (x.kind=1∨x.kind=2∨x.kind=3∨x.kind=4∨x.kind=5)):entF x=false:=by
 unfold entF
 rw[if_neg (by omega),if_neg (by omega),if_neg (by omega),if_neg (by omega),if_neg (by omega)]
open Go.RowKit Wq
theorem NtRd.none_ (w:World) (B:Nat):NtRd w B ⟨none,0,0,none,0,0,none,0,0,none,0,0⟩ ntz:=⟨rfl,Rd.none_,rfl,Rd.none_,rfl,Rd.none_,rfl,Rd.none_⟩
theorem VwRd.none_ (w:World) (B:Nat):VwRd w B ⟨none,0,none,0,none,0,none,0⟩ vw0 [] []:=⟨Rd.none_,RdZ.none_ _ _,rfl,Rd.none_,RdBs.none_ _ _,rfl⟩
theorem oneW_bad {x:Ent} (h:ntF x.note=false):oneW x=false:=by
 by_cases h1:x.note.w.length=1
 ·obtain⟨q,_,e⟩:=oneW_yes h1
  rw[e,h];rfl
 ·exact oneW_no h1
theorem bareB_E (x:Bd):bdE x bdz=bareB x:=by rw[Bool.eq_iff_iff,bdE_iff,bareB_iff]
theorem entF_3b (x:Ent) (h:x.kind=3):entF x=(entE x (ent3 x) && oneW x):=entF_3 x h
end Go.Proofs.YtmbeahbgafkjfaaGreatDoor
