/- Lemmas for the claim, layer 46. -/
import Derived.Test.YtmbeahbgafkjfaaGreatDoorKc45
set_option maxRecDepth 100000
set_option linter.unusedSimpArgs false
namespace Go.Proofs.YtmbeahbgafkjfaaGreatDoor
open Go.RowKit
namespace Wq
section
variable {l r q q2:List UInt8} {n:Nt} {b:Bd} {k:Int}
theorem pEnt_0 (h:pI l=none):pEnt l=none:=by unfold pEnt;rw[h]
theorem pEnt_4a (h:pI l=some (4,r)) (h2:pI r=none):pEnt l=none:=by unfold pEnt pTwo;rw[h];simp[h2]
theorem pEnt_4b (h:pI l=some (4,r)) {f:Int} (h2:pI r=some (f,q)) (h3:pS q=none):pEnt l=none:=by unfold pEnt pTwo;rw[h];simp[h2,h3]
theorem pEnt_4y (h:pI l=some (4,r)) {f:Int} (h2:pI r=some (f,q)) {i:List Sn.Sp} (h3:pS q=some (i,q2)):pEnt l=some (⟨4,ntz,bdz,f,i,vw0,[]⟩,q2):=by unfold pEnt pTwo;rw[h];simp[h2,h3]
theorem pEnt_5n (h:pI l=some (5,r)) (h2:pVw r=none):pEnt l=none:=by unfold pEnt pTwo;rw[h];simp[h2]
theorem pEnt_5y (h:pI l=some (5,r)) {v:Vw} (h2:pVw r=some (v,q)):pEnt l=lstK pSb (fun s q=>some (⟨5,ntz,bdz,0,[],v,s⟩,q)) q:=by
 rw[<-lst_is];unfold pEnt pTwo;rw[h];simp only[show ¬ ((5:Int)=1) by decide,show ¬ ((5:Int)=2) by decide,show ¬ ((5:Int)=3) by decide,show ¬ ((5:Int)=4) by decide,if_false,if_true,h2];rcases pLst pSb q with _ | ⟨s,t⟩<;>rfl
theorem pSb_1 (h:pI l=none):pSb l=none:=by simp only[pSb,pTwo,h]
theorem pSb_2 {f:Int} (h:pI l=some (f,r)) (h2:pS r=none):pSb l=none:=by simp only[pSb,pTwo,h,h2]
theorem pSb_3 {f:Int} {i:List Sn.Sp} (h:pI l=some (f,r)) (h2:pS r=some (i,q)):pSb l=some (⟨f,i,0,0,false,false,false⟩,q):=by simp only[pSb,pTwo,h,h2]
theorem pSb_short {x:Sb} (h:pSb l=some (x,r)):r.length < l.length:=by
 rw[(pSb_back h).1,List.length_append];have:=lay_pos x.from_.toNat;unfold lSb lI;simp only[List.length_append];omega
theorem decE_no (h:pEnt l=none):decE l=none:=by unfold decE;rw[h]
theorem decE_more {x:Ent} (h:pEnt l=some (x,r)) (hr:r≠[]):decE l=none:=by
 unfold decE;rw[h]
 cases r with
 | nil=>exact absurd rfl hr
 | cons a t=>rfl
theorem decE_bad {x:Ent} (h:pEnt l=some (x,[])) (hf:entF x=false):decE l=none:=by unfold decE;rw[h];simp[hf]
theorem decE_good {x:Ent} (h:pEnt l=some (x,[])) (hf:entF x=true):decE l=some x:=by unfold decE;rw[h];simp[hf]
end
end Wq
theorem lit_wf {o:Int} (h0:0<=o) (h1:o<=255):(Lit.int .i64 o).wf=true:=by
 unfold Lit.wf;simp only[Bool.and_eq_true,decide_eq_true_eq];constructor
 ·have:IntKind.i64.min<=0:=by decide
  omega
 ·have:255<=IntKind.i64.max:=by decide
  omega
theorem flat_pos {α:Type} (f:α->List UInt8):∀(l:List α),(∀x∈l,0 < (f x).length)->l.length<=(l.flatMap f).length
 | [],_=>by simp
 | x :: r,h=>by
  have h1:=flat_pos f r fun y hy=>h y (List.mem_cons_of_mem _ hy);have h2:=h x (List.mem_cons_self ..);rw[List.flatMap_cons,List.length_append,List.length_cons];omega
theorem nt_bd {n:Nt} (h:ntF n=true):n.s.length+n.e.length+n.b.length+n.w.length<=9223372036854775807:=by
 obtain⟨h1,h2,h3,h4⟩:=Wq.ntF_parts h;have:=Wq.fm_len h1;have:=Wq.fm_len h2;have:=Sn.fmS_128 h3;have:=Wq.ntW_len h4;omega
theorem vw_bd {v:Vw} {l r:List UInt8} (h:Wq.pVw l=some (v,r)) (hl:l.length<=4294967296):v.known.length+v.zones.length+v.held.length+v.bods.length<=9223372036854775807/\∀y∈v.bods,(Lit.int .i64 y.o).wf=true:=by
 obtain⟨e,hC⟩:=Wq.pVw_back h;have h0:=Wq.fm_len hC.k.1;have h1:=flat_pos lZn v.zones fun x _=>by
  have:=Wq.lay_pos x.1.1.toNat;unfold lZn lI;simp only[List.length_append];omega
 have h2:=flat_pos lHd v.held fun x _=>by
  have:=Wq.lay_pos x.2.1.toNat;unfold lHd lI;simp only[List.length_append];omega
 have h3:=flat_pos Wq.lB v.bods fun x _=>by
  have:=Wq.lay_pos x.o.toNat;unfold Wq.lB;simp only[List.length_append];omega
 rw[e] at hl;unfold lVw at hl;simp only[List.length_append] at hl;refine⟨by omega,fun y hy=>?_⟩;obtain⟨a,b,_⟩:=(Wq.bdF_iff y).1 (hC.b.2 y hy).1;exact lit_wf a b
theorem bd_nt {k:Int} {n:Nt} (h:ntF n=true) {b:Wq.Bd} (hb:b.s.1 < 9223372036854775808):EntBd ⟨k,n,b,0,[],Wq.vw0,[]⟩:=⟨hb,nt_bd h,(show 0+0+0+0<=9223372036854775807 by decide),fun y hy=>by cases hy⟩
theorem bd_no {k f:Int} {i:List Sn.Sp} {b:Wq.Bd} (hb:b.s.1 < 9223372036854775808):EntBd ⟨k,Wq.ntz,b,f,i,Wq.vw0,[]⟩:=⟨hb,(show 0+0+0+0<=9223372036854775807 by decide),(show 0+0+0+0<=9223372036854775807 by decide),fun y hy=>by cases hy⟩
theorem pEnt_bd {l r:List UInt8} {x:Ent} (h:Wq.pEnt l=some (x,r)) (hl:l.length<=4294967296):EntBd x:=by
 have hz:Wq.bdz.s.1 < 9223372036854775808:=by decide
 unfold Wq.pEnt at h
 split at h
 ·cases h
 rename_i k r1 hk;have hl1:r1.length<=4294967296:=by
  have:=(Wq.pI_back hk).1;rw[this,List.length_append] at hl;omega
 split at h
 ·split at h
  ·cases h
  ·rename_i n q hn;injection h with h;injection h with h1 h2;subst h1;exact bd_nt (Wq.pNt_back hn).2.1 hz
 split at h
 ·split at h
  ·cases h
  ·rename_i b q hn;injection h with h;injection h with h1 h2;subst h1;exact bd_no (Wq.pB_back hn).2.2
 split at h
 ·split at h
  ·cases h
  ·rename_i n q hn
   split at h
   ·injection h with h;injection h with h1 h2;subst h1;exact bd_nt (Wq.pNt_back hn).2.1 hz
   ·split at h
    ·injection h with h;injection h with h1 h2;subst h1;exact bd_nt (Wq.pNt_back hn).2.1 hz
    ·split at h
     ·cases h
     ·rename_i b s hb;injection h with h;injection h with h1 h2;subst h1;exact bd_nt (Wq.pNt_back hn).2.1 (Wq.pB_back hb).2.2
 split at h
 ·split at h
  ·cases h
  ·injection h with h;injection h with h1 h2;subst h1;exact bd_no hz
 split at h
 ·split at h
  ·cases h
  ·rename_i v s q hn;injection h with h;injection h with h1 h2;subst h1;obtain⟨t,a1,_⟩:=Wq.pTwo_back hn;obtain⟨b1,b2⟩:=vw_bd a1 hl1;exact⟨hz,(show 0+0+0+0<=9223372036854775807 by decide),b1,b2⟩
 ·injection h with h;injection h with h1 h2;subst h1;exact bd_no hz
end Go.Proofs.YtmbeahbgafkjfaaGreatDoor
