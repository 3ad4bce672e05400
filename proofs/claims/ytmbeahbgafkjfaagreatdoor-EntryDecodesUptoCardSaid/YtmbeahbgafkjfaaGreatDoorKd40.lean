/- Lemmas for the claim, layer 40. -/
import Derived.Test.YtmbeahbgafkjfaaGreatDoorKd36
import Derived.Test.YtmbeahbgafkjfaaGreatDoorKd39
set_option maxRecDepth 100000
namespace Go.Proofs.YtmbeahbgafkjfaaGreatDoor.Wq
def fin {α:Type} (x:α) (t:Option (List UInt8)):Option (α×List UInt8):=match t with
 | none=>none
 | some q=>some (x,q)
theorem onS_some {α:Type} {x:α} {t:Option (List UInt8)}:onS (fun q=>some (x,q)) t=fin x t:=by cases t<;>rfl
def kE (k:Int) (r:List UInt8):Option (Ent×List UInt8):=
  if k=1 then match pNt r with
   | none=>none
   | some (n,q)=>some (⟨k,n,bdz,0,[],vw0,[]⟩,q)
  else if k=2 then match pB r with
   | none=>none
   | some (b,q)=>some (⟨k,ntz,b,0,[],vw0,[]⟩,q)
  else if k=3 then match pNt r with
   | none=>none
   | some (n,q)=>match n.w with
    | []=>some (⟨k,n,bdz,0,[],vw0,[]⟩,q)
    | w :: _=>if w.2.2=true then some (⟨k,n,bdz,0,[],vw0,[]⟩,q) else match pB q with
     | none=>none
     | some (b,s)=>some (⟨k,n,b,0,[],vw0,[]⟩,s)
  else if k=4 then match pTwo pI pS r with
   | none=>none
   | some ((f,i),q)=>some (⟨k,ntz,bdz,f,i,vw0,[]⟩,q)
  else if k=5 then match pTwo pVw (pLst pSb) r with
   | none=>none
   | some ((v,s),q)=>some (⟨k,ntz,bdz,0,[],v,s⟩,q)
  else some (⟨k,ntz,bdz,0,[],vw0,[]⟩,r)
theorem pEnt_kind (l:List UInt8):pEnt l=onS (kE (numV (some l):Int)) (numS (some l)):=by
 rw[show pEnt l=onS pEnt (some l) from rfl,show pEnt=fun l=>thn (pI l) kE from funext fun l=>by
  unfold pEnt thn kE
  rcases pI l with _ | ⟨k,r⟩<;>rfl,onS_pI]
def g3 (n:Nt) (q:List UInt8):Option (Ent×List UInt8):=match n.w with
 | []=>some (⟨3,n,bdz,0,[],vw0,[]⟩,q)
 | w :: _=>if w.2.2=true then some (⟨3,n,bdz,0,[],vw0,[]⟩,q) else thn (pB q) fun b s=>some (⟨3,n,b,0,[],vw0,[]⟩,s)
section
variable {F:Option (Ent×List UInt8)} {t:Option (List UInt8)} {n:Nt} {b:Bd} {i:List Sn.Sp} {v:Vw} {dn:Nt}
theorem ent_1 (h:F=onS (kE 1) t) (hn:∀q,st pNt t=some q→n=vl pNt dn t):F=fin ⟨1,n,bdz,0,[],vw0,[]⟩ (st pNt t):=by
 rw[h,show kE 1=fun r=>thn (pNt r) fun n q=>some (⟨1,n,bdz,0,[],vw0,[]⟩,q) from funext fun r=>by
  unfold kE;rw[if_pos rfl];rcases pNt r with _ | ⟨n,q⟩<;>rfl,onS_st hn]
 exact onS_some
theorem ent_2 (h:F=onS (kE 2) t) (hb:∀q,st pB t=some q→b=vl pB bd0 t):F=fin ⟨2,ntz,b,0,[],vw0,[]⟩ (st pB t):=by
 rw[h,show kE 2=fun r=>thn (pB r) fun b q=>some (⟨2,ntz,b,0,[],vw0,[]⟩,q) from funext fun r=>by
  unfold kE;rw[if_neg (by decide),if_pos rfl];rcases pB r with _ | ⟨n,q⟩<;>rfl,onS_st hb]
 exact onS_some
theorem ent_3 (h:F=onS (kE 3) t) (hn:∀q,st pNt t=some q→n=vl pNt dn t):F=onS (g3 n) (st pNt t):=by
 rw[h,show kE 3=fun r=>thn (pNt r) g3 from funext fun r=>by
  unfold kE;rw[if_neg (by decide),if_neg (by decide),if_pos rfl]
  rcases pNt r with _ | ⟨⟨ns,ne,nb,_ | ⟨w,r⟩⟩,q⟩
  ·rfl
  ·rfl
  ·simp only[thn,g3]
   split
   ·rfl
   ·rcases pB q with _ | ⟨b,s⟩<;>rfl,onS_st hn]
theorem ent_3e (h:F=onS (g3 n) t) (hw:n.w=[]):F=fin ⟨3,n,bdz,0,[],vw0,[]⟩ t:=by
 rw[h,show g3 n=fun q=>some (⟨3,n,bdz,0,[],vw0,[]⟩,q) from funext fun q=>by unfold g3;rw[hw]]
 exact onS_some
theorem ent_3g (h:F=onS (g3 n) t) {w:Wr} {r:List Wr} (hw:n.w=w :: r) (hg:w.2.2=true):F=fin ⟨3,n,bdz,0,[],vw0,[]⟩ t:=by
 rw[h,show g3 n=fun q=>some (⟨3,n,bdz,0,[],vw0,[]⟩,q) from funext fun q=>by unfold g3;rw[hw];simp only;rw[if_pos hg]]
 exact onS_some
theorem ent_3b (h:F=onS (g3 n) t) {w:Wr} {r:List Wr} (hw:n.w=w :: r) (hg:w.2.2=false) (hb:∀q,st pB t=some q→b=vl pB bd0 t):F=fin ⟨3,n,b,0,[],vw0,[]⟩ (st pB t):=by
 rw[h,show g3 n=fun q=>thn (pB q) fun b s=>some (⟨3,n,b,0,[],vw0,[]⟩,s) from funext fun q=>by unfold g3;rw[hw];simp only;rw[if_neg (by rw[hg];decide)],onS_st hb]
 exact onS_some
theorem ent_4 (h:F=onS (kE 4) t) (hi:∀q,st pS (numS t)=some q→i=vl pS [] (numS t)):F=fin ⟨4,ntz,bdz,(numV t:Int),i,vw0,[]⟩ (st pS (numS t)):=by
 rw[h,show kE 4=fun r=>thn (pI r) fun f r=>thn (pS r) fun i q=>some (⟨4,ntz,bdz,f,i,vw0,[]⟩,q) from funext fun r=>by
  unfold kE pTwo;rw[if_neg (by decide),if_neg (by decide),if_neg (by decide),if_pos rfl]
  rcases pI r with _ | ⟨f,r⟩
  ·rfl
  simp only[thn]
  rcases pS r with _ | ⟨i,q⟩<;>rfl,onS_pI,onS_st hi]
 exact onS_some
theorem ent_5 (h:F=onS (kE 5) t) (hv:∀q,st pVw t=some q→v=vl pVw vw0 t):F=onS (fun q=>repK pSb (fun s q=>some ((⟨5,ntz,bdz,0,[],v,s⟩:Ent),q)) (numV (st pVw t)) q []) (numS (st pVw t)):=by
 rw[h,show kE 5=fun r=>thn (pVw r) fun v=>lstK pSb (fun s q=>some ((⟨5,ntz,bdz,0,[],v,s⟩:Ent),q)) from funext fun r=>by
  unfold kE pTwo;rw[if_neg (by decide),if_neg (by decide),if_neg (by decide),if_neg (by decide),if_pos rfl]
  rcases pVw r with _ | ⟨v,q⟩
  ·rfl
  simp only[thn]
  rw[←lst_is]
  rcases pLst pSb q with _ | ⟨s,q⟩<;>rfl,onS_st hv,onS_lst]
theorem ent_5s {c:Nat} {acc:List Sb} (h:F=onS (fun q=>repK pSb (fun s q=>some ((⟨5,ntz,bdz,0,[],v,s⟩:Ent),q)) (c+1) q acc) t) (hi:∀q,st pS (numS t)=some q→i=vl pS [] (numS t)):
  F=onS (fun q=>repK pSb (fun s q=>some ((⟨5,ntz,bdz,0,[],v,s⟩:Ent),q)) c q (acc++[⟨(numV t:Int),i,0,0,false,false,false⟩])) (st pS (numS t)):=by
 rw[h,show (fun q=>repK pSb (fun s q=>some ((⟨5,ntz,bdz,0,[],v,s⟩:Ent),q)) (c+1) q acc)=fun l=>thn (pI l) fun f r=>thn (pS r) fun i q=>repK pSb (fun s q=>some ((⟨5,ntz,bdz,0,[],v,s⟩:Ent),q)) c q (acc++[⟨f,i,0,0,false,false,false⟩]) from funext fun l=>by
  rcases h1:pI l with _ | ⟨f,r⟩
  ·rw[repK_no (pSb_1 h1)];rfl
  show _=thn (pS r) _
  rcases h2:pS r with _ | ⟨i,q⟩
  ·rw[repK_no (pSb_2 h1 h2)];rfl
  ·rw[repK_yes (pSb_3 h1 h2)];rfl,onS_pI,onS_st hi]
theorem ent_5e {acc:List Sb} (h:F=onS (fun q=>repK pSb (fun s q=>some ((⟨5,ntz,bdz,0,[],v,s⟩:Ent),q)) 0 q acc) t):F=fin ⟨5,ntz,bdz,0,[],v,acc⟩ t:=by
 rw[h,onS_zero];exact onS_some
theorem ent_o {k:Int} (h:F=onS (kE k) t) (k1:¬ k=1) (k2:¬ k=2) (k3:¬ k=3) (k4:¬ k=4) (k5:¬ k=5):F=fin ⟨k,ntz,bdz,0,[],vw0,[]⟩ t:=by
 rw[h,show kE k=fun r=>some (⟨k,ntz,bdz,0,[],vw0,[]⟩,r) from funext fun r=>by unfold kE;rw[if_neg k1,if_neg k2,if_neg k3,if_neg k4,if_neg k5]]
 exact onS_some
end
end Go.Proofs.YtmbeahbgafkjfaaGreatDoor.Wq
namespace Go.Proofs.YtmbeahbgafkjfaaGreatDoor
open Go.RowKit
theorem But.tail {g X:Nat} {w W W':World} (h:But g w W) (k:But X W W') (hX:w.heap.size≤X):But g w W':=h.below (below_but (Below.refl _ _) k h.size hX)
structure DE (w W:World) (g X base:Nat) (l:List UInt8) (t:Option (List UInt8)) (u:EV) (x:Ent) (L:List (ZV×Zn)) (M:List (BV×Wq.Bd)) (S:List (SV×Sb)):Prop extends EC W X base u x L M S where
 rr:RR W g l t
 but:But g w W
 hg:g < X
 hb:g < base
 hX:base≤X+1
 hw:w.heap.size≤X
 hwb:w.heap.size≤base
section
variable {w W W':World} {g X base:Nat} {l:List UInt8} {t t':Option (List UInt8)} {u u':EV} {x x':Ent} {L L':List (ZV×Zn)} {M M':List (BV×Wq.Bd)} {S S':List (SV×Sb)}
theorem DE.call (h:DE w W g X base l t u x L M S) (hb:But g W W') (hr:RR W' g l t'):DE w W' g X base l t' u x L M S:=
 ⟨h.toEC.call hb (by have:=h.hg;omega) h.hb,hr,h.but.trans hb,h.hg,h.hb,h.hX,h.hw,h.hwb⟩
theorem DE.grow (h:DE w W g X base l t u x L M S) (hb:Below W.heap.size W W'):DE w W' g X base l t u x L M S:=
 ⟨h.toEC.grow hb,h.rr.go hb,h.but.trans (But.of hb),h.hg,h.hb,h.hX,h.hw,h.hwb⟩
theorem DE.put (h:DE w W g X base l t u x L M S) (k:But X W W'∧EC W' X base u' x' L' M' S'):DE w W' g X base l t u' x' L' M' S':=
 ⟨k.2,h.rr.but k.1 h.hg,h.but.tail k.1 h.hw,h.hg,h.hb,h.hX,h.hw,h.hwb⟩
theorem DE.le (h:DE w W g X base l t u x L M S):base≤W.heap.size:=Nat.le_trans h.hX h.blk.lt
theorem DE.sub_ (h:DE w W g X base l t u x L M S) {p:SV×Sb} (hp:W.ownsRow base 63 2 (.slice p.1.A p.2.int.length p.1.c) p.2.int.length (sv p.2.int)) {A':Option Addr} {c':Nat}
  (hgr:W.grownBy W' (Value.slice u.sA x.subs.length u.sc).ownBlock) (ho:W'.ownsRow base 65 7 (.slice A' (x.subs.length+1) c') (x.subs.length+1) (sbv S++sbl p)):
  DE w (W'.setCell ⟨X,16,none⟩ (.slice A' (x.subs.length+1) c')) g X base l t ⟨u.nv,u.bA,u.bc,u.iA,u.ic,u.vv,A',c'⟩ ⟨x.kind,x.note,x.body,x.from_,x.int,x.view,x.subs++[p.2]⟩ L M (S++[p]):=by
 have k:=h.toEC.sub_ hp hgr ho
 have hbl:=h.toEC.low hgr h.le
 exact⟨k.2,(h.rr.below hbl h.hb).but k.1 h.hg,(h.but.below (hbl.mono h.hwb)).tail k.1 h.hw,h.hg,h.hb,h.hX,h.hw,h.hwb⟩
end
end Go.Proofs.YtmbeahbgafkjfaaGreatDoor
namespace Go.Proofs.YtmbeahbgafkjfaaGreatDoor
open Wq
def ent1 (x:Ent):Ent:=⟨1,x.note,bdz,0,[],vw0,[]⟩
def ent2 (x:Ent):Ent:=⟨2,ntz,x.body,0,[],vw0,[]⟩
def ent3 (x:Ent):Ent:=⟨3,x.note,x.body,0,[],vw0,[]⟩
def ent4 (x:Ent):Ent:=⟨4,ntz,bdz,x.from_,x.int,vw0,[]⟩
def ent5 (x:Ent):Ent:=⟨5,ntz,bdz,0,[],x.view,x.subs⟩
theorem bareB_iff (x:Bd):bareB x=true↔x=bdz:=⟨bareB_is,fun h=>by rw[h];rfl⟩
theorem emptyN_iff (x:Nt):emptyN x=true↔x=ntz:=⟨emptyN_is,fun h=>by rw[h];rfl⟩
theorem noSub_iff (x:Ent):noSub x=true↔x.from_=0∧x.int=[]:=⟨noSub_is,fun h=>by unfold noSub;rw[h.1,h.2];rfl⟩
theorem noChk_iff (x:Ent):noChk x=true↔x.view=vw0∧x.subs=[]:=⟨noChk_is,fun h=>by unfold noChk;rw[h.1,h.2];rfl⟩
theorem ent_iff (x:Ent) (k:Int) (n:Nt) (b:Bd) (f:Int) (i:List Sn.Sp) (v:Vw) (s:List Sb):x=⟨k,n,b,f,i,v,s⟩↔x.kind=k∧x.note=n∧x.body=b∧x.from_=f∧x.int=i∧x.view=v∧x.subs=s:=by
 obtain⟨a1,a2,a3,a4,a5,a6,a7⟩:=x
 simp
theorem same1 (x:Ent) (h:x.kind=1):entE x (ent1 x)=(bareB x.body && (noSub x && noChk x)):=by
 rw[Bool.eq_iff_iff,entE_iff,ent1,ent_iff,Bool.and_eq_true,Bool.and_eq_true,bareB_iff,noSub_iff,noChk_iff]
 exact⟨fun ⟨_,_,a,b,c,d,e⟩=>⟨a,⟨b,c⟩,d,e⟩,fun ⟨a,⟨b,c⟩,d,e⟩=>⟨h,rfl,a,b,c,d,e⟩⟩
theorem same2 (x:Ent) (h:x.kind=2):entE x (ent2 x)=(emptyN x.note && (noSub x && noChk x)):=by
 rw[Bool.eq_iff_iff,entE_iff,ent2,ent_iff,Bool.and_eq_true,Bool.and_eq_true,emptyN_iff,noSub_iff,noChk_iff]
 exact⟨fun ⟨_,a,_,b,c,d,e⟩=>⟨a,⟨b,c⟩,d,e⟩,fun ⟨a,⟨b,c⟩,d,e⟩=>⟨h,a,rfl,b,c,d,e⟩⟩
theorem same3 (x:Ent) (h:x.kind=3):entE x (ent3 x)=(noSub x && noChk x):=by
 rw[Bool.eq_iff_iff,entE_iff,ent3,ent_iff,Bool.and_eq_true,noSub_iff,noChk_iff]
 exact⟨fun ⟨_,_,_,b,c,d,e⟩=>⟨⟨b,c⟩,d,e⟩,fun ⟨⟨b,c⟩,d,e⟩=>⟨h,rfl,rfl,b,c,d,e⟩⟩
theorem same4 (x:Ent) (h:x.kind=4):entE x (ent4 x)=(emptyN x.note && (bareB x.body && noChk x)):=by
 rw[Bool.eq_iff_iff,entE_iff,ent4,ent_iff,Bool.and_eq_true,Bool.and_eq_true,emptyN_iff,bareB_iff,noChk_iff]
 exact⟨fun ⟨_,a,b,_,_,d,e⟩=>⟨a,b,d,e⟩,fun ⟨a,b,d,e⟩=>⟨h,a,b,rfl,rfl,d,e⟩⟩
theorem same5 (x:Ent) (h:x.kind=5):entE x (ent5 x)=(emptyN x.note && (bareB x.body && noSub x)):=by
 rw[Bool.eq_iff_iff,entE_iff,ent5,ent_iff,Bool.and_eq_true,Bool.and_eq_true,emptyN_iff,bareB_iff,noSub_iff]
 exact⟨fun ⟨_,a,b,d,e,_,_⟩=>⟨a,b,d,e⟩,fun ⟨a,b,d,e⟩=>⟨h,a,b,d,e,rfl,rfl⟩⟩
theorem entF_1 (x:Ent) (h:x.kind=1):entF x=(ntF x.note && entE x (ent1 x)):=by
 rw[same1 x h];unfold entF;rw[if_pos h]
theorem entF_2 (x:Ent) (h:x.kind=2):entF x=(bdF x.body && entE x (ent2 x)):=by
 rw[same2 x h];unfold entF;rw[if_neg (by rw[h];decide),if_pos h]
 cases emptyN x.note<;>cases bdF x.body<;>simp
theorem entF_3 (x:Ent) (h:x.kind=3):entF x=(entE x (ent3 x) && (match x.note.w with | [w]=>ntF x.note && ofWr w x.body | _=>false)):=by
 rw[same3 x h];unfold entF;rw[if_neg (by rw[h];decide),if_neg (by rw[h];decide),if_pos h]
 rfl
theorem entF_4 (x:Ent) (h:x.kind=4):entF x=(((decide (0≤x.from_) && decide (x.from_≤63)) && Sn.fmS (-2) x.int) && entE x (ent4 x)):=by
 rw[same4 x h];unfold entF;rw[if_neg (by rw[h];decide),if_neg (by rw[h];decide),if_neg (by rw[h];decide),if_pos h]
 exact Bool.and_comm _ _
theorem entF_5 (x:Ent) (h:x.kind=5):entF x=((vwF x.view && restF x.subs) && entE x (ent5 x)):=by
 rw[same5 x h];unfold entF;rw[if_neg (by rw[h];decide),if_neg (by rw[h];decide),if_neg (by rw[h];decide),if_neg (by rw[h];decide),if_pos h]
 exact Bool.and_comm _ _
theorem entF_no (x:Ent) (h:¬ (x.kind=1∨x.kind=2∨x.kind=3∨x.kind=4∨x.kind=5)):entF x=false:=by
 unfold entF
 rw[if_neg (by omega),if_neg (by omega),if_neg (by omega),if_neg (by omega),if_neg (by omega)]
open Go.RowKit Wq
theorem NtRd.none_ (w:World) (B:Nat):NtRd w B ⟨none,0,0,none,0,0,none,0,0,none,0,0⟩ ntz:=⟨rfl,Rd.none_,rfl,Rd.none_,rfl,Rd.none_,rfl,Rd.none_⟩
theorem VwRd.none_ (w:World) (B:Nat):VwRd w B ⟨none,0,none,0,none,0,none,0⟩ vw0 [] []:=⟨Rd.none_,RdZ.none_ _ _,rfl,Rd.none_,RdBs.none_ _ _,rfl⟩
theorem oneW_bad {x:Ent} (h:ntF x.note=false):oneW x=false:=by
 by_cases h1:x.note.w.length=1
 ·obtain⟨q,_,e⟩:=oneW_yes h1
  rw[e,h];rfl
 ·exact oneW_no h1
theorem bareB_E (x:Bd):bdE x bdz=bareB x:=by rw[Bool.eq_iff_iff,bdE_iff,bareB_iff]
theorem entF_3b (x:Ent) (h:x.kind=3):entF x=(entE x (ent3 x) && oneW x):=entF_3 x h
end Go.Proofs.YtmbeahbgafkjfaaGreatDoor
