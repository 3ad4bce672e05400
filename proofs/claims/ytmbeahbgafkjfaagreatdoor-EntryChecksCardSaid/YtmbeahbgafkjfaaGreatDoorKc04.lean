/- Lemmas for the claim, layer 4. -/
import Derived.Test.YtmbeahbgafkjfaaGreatDoorKc03
set_option maxRecDepth 100000
set_option maxHeartbeats 16000000
namespace Go.Proofs.YtmbeahbgafkjfaaGreatDoor
def shF:Int->List Wr->Bool
 | _,[]=>true
 | last,w :: r=>((decide (0<=w.2.1) && decide (w.2.1<=255)) && Vc.right w.1) && (decide (last < w.2.1) && shF w.2.1 r)
theorem shF_rise:∀{l:List Wr} {last:Int},shF last l=true->rise last l=true
 | [],_,_=>rfl
 | w :: r,last,h=>by
  simp only[shF,Bool.and_eq_true] at h;rw[rise,h.2.1,shF_rise h.2.2];rfl
theorem shF_drop (last:Int) (l:List Wr) (k:Nat) (h:k < l.length):shF last (l.drop k)=(((decide (0<=l[k].2.1) && decide (l[k].2.1<=255)) && Vc.right l[k].1) && (decide (last < l[k].2.1) && shF l[k].2.1 (l.drop (k+1)))):=by
 rw[List.drop_eq_getElem_cons h,shF]
def usedB:List Wq.Bd->Nat
 | []=>0
 | x :: r=>x.v.length+usedB r
theorem usedB_snoc (l:List Wq.Bd) (x:Wq.Bd):usedB (l++[x])=usedB l+x.v.length:=by
 induction l with
 | nil=>simp[usedB]
 | cons y r ih=>rw[List.cons_append,usedB,usedB,ih];omega
def newsB:List Int->List Wq.Bd->Bool
 | _,[]=>true
 | seen,x :: r=>(!seen.contains x.o && Wq.bdF x) && newsB (seen++[x.o]) r
theorem newsB_drop (seen:List Int) (l:List Wq.Bd) (k:Nat) (h:k < l.length):newsB seen (l.drop k)=((!seen.contains l[k].o && Wq.bdF l[k]) && newsB (seen++[l[k].o]) (l.drop (k+1))):=by
 rw[List.drop_eq_getElem_cons h,newsB]
def caF (l:List Wq.Bd) (room:Int):Bool:=(decide (0<=room) && (decide (room<=16777216) && decide (l.length<=256))) && (newsB [] l && decide ((usedB l:Int)<=room))
structure Vw where
 known:List Vc.St
 zones:List Zn
 held:List Wr
 bods:List Wq.Bd
 room:Int
def reachd (z:List Zn) (known:List Vc.St) (w:Wr):Bool:=hasB (reach z known w.2.1) w.1
def wantd (held:List Wr) (x:Wq.Bd):Bool:=match atO held x.o with
 | none=>false
 | some w=>decide (w.1=x.s) && !w.2.2
def ahead1 (known:List Vc.St) (x:Zn):Bool:=decide (standB (covB (Vc.cnt x.2) (Vc.cnt known)) (covB (Vc.cnt known) (Vc.cnt x.2))=1)
def vwF (v:Vw):Bool:=(fm (-1) v.known && (zF (-1) none v.zones && (shF (-1) v.held && caF v.bods v.room))) && (v.zones.all (ahead1 v.known) && (v.held.all (reachd v.zones v.known) && v.bods.all (wantd v.held)))
structure Sb where
 from_:Int
 int:List Sn.Sp
 ses:Int
 seq:Int
 live:Bool
 heard:Bool
 idle:Bool
def sbZ (s:Sb):Bool:=(decide (s.ses=0) && decide (s.seq=0)) && (!s.live && (!s.heard && !s.idle))
def sbF (last:Int) (s:Sb):Bool:=(decide (last < s.from_) && decide (s.from_<=63)) && ((!s.int.isEmpty && Sn.fmS (-2) s.int) && sbZ s)
def rstF:Int->List Sb->Bool
 | _,[]=>true
 | last,s :: r=>sbF last s && rstF s.from_ r
def restF (l:List Sb):Bool:=rstF (-1) l && decide (l.length<=16)
theorem rstF_drop (last:Int) (l:List Sb) (k:Nat) (h:k < l.length):rstF last (l.drop k)=(sbF last l[k] && rstF l[k].from_ (l.drop (k+1))):=by
 rw[List.drop_eq_getElem_cons h,rstF]
structure Ent where
 kind:Int
 note:Nt
 body:Wq.Bd
 from_:Int
 int:List Sn.Sp
 view:Vw
 subs:List Sb
def bareB (x:Wq.Bd):Bool:=decide (x.o=0) && (decide (x.s=(0,0)) && x.v.isEmpty)
def emptyN (n:Nt):Bool:=(n.s.isEmpty && n.e.isEmpty) && (n.b.isEmpty && n.w.isEmpty)
def blankV (v:Vw):Bool:=((v.known.isEmpty && v.zones.isEmpty) && (v.held.isEmpty && v.bods.isEmpty)) && decide (v.room=0)
def noSub (x:Ent):Bool:=decide (x.from_=0) && x.int.isEmpty
def noChk (x:Ent):Bool:=blankV x.view && x.subs.isEmpty
def ofWr (w:Wr) (x:Wq.Bd):Bool:=if w.2.2=true then bareB x else (Wq.bdF x && (decide (x.o=w.2.1) && decide (x.s=w.1)))
def entF (x:Ent):Bool:=
 if x.kind=1 then ntF x.note && (bareB x.body && (noSub x && noChk x))
 else if x.kind=2 then emptyN x.note && (Wq.bdF x.body && (noSub x && noChk x))
 else if x.kind=3 then (noSub x && noChk x) && (match x.note.w with
  | [w]=>ntF x.note && ofWr w x.body
  | _=>false)
 else if x.kind=4 then (emptyN x.note && (bareB x.body && noChk x)) && ((decide (0<=x.from_) && decide (x.from_<=63)) && Sn.fmS (-2) x.int)
 else if x.kind=5 then (emptyN x.note && (bareB x.body && noSub x)) && (vwF x.view && restF x.subs)
 else false
/-! ### Bytes -/
open Wq
def lI (n:Int):List UInt8:=Pk.lay n.toNat
def lZn (x:Zn):List UInt8:=lI x.1.1++(lI x.1.2++lV x.2)
def lHd (w:Wr):List UInt8:=lI w.2.1++(lI w.1.2++(lI w.1.1++lI (if w.2.2=true then 1 else 0)))
def lVw (v:Vw):List UInt8:=lV v.known++(Pk.lay v.zones.length++(v.zones.flatMap lZn++(Pk.lay v.held.length++(v.held.flatMap lHd++(Pk.lay v.bods.length++(v.bods.flatMap lB++lI v.room))))))
def lSb (s:Sb):List UInt8:=lI s.from_++lS s.int
def lEnt (x:Ent):List UInt8:=lI x.kind++(
 if x.kind=1 then lNt x.note
 else if x.kind=2 then lB x.body
 else if x.kind=3 then lNt x.note++(match x.note.w with
  | w :: _=>if w.2.2=true then [] else lB x.body
  | []=>[])
 else if x.kind=4 then lI x.from_++lS x.int
 else lVw x.view++(Pk.lay x.subs.length++x.subs.flatMap lSb))
end Go.Proofs.YtmbeahbgafkjfaaGreatDoor
namespace Go.Proofs.YtmbeahbgafkjfaaGreatDoor.Wq
def pRep {α:Type} (p:List UInt8->Option (α×List UInt8)):Nat->List UInt8->Option (List α×List UInt8)
 | 0,l=>some ([],l)
 | n+1,l=>match p l with
  | none=>none
  | some (x,r)=>match pRep p n r with
   | none=>none
   | some (v,q)=>some (x :: v,q)
theorem pRep_lay {α:Type} {p:List UInt8->Option (α×List UInt8)} {lay:α->List UInt8}:∀(v:List α) (r:List UInt8),(∀x∈v,∀r,p (lay x++r)=some (x,r))->pRep p v.length (v.flatMap lay++r)=some (v,r)
 | [],r,_=>rfl
 | x :: v,r,h=>by
  rw[List.flatMap_cons,List.append_assoc,List.length_cons,pRep,h x (List.mem_cons_self ..)];simp only;rw[pRep_lay v r fun y hy=>h y (List.mem_cons_of_mem _ hy)]
theorem pRep_back {α:Type} {p:List UInt8->Option (α×List UInt8)} {lay:α->List UInt8} {Q:α->Prop} (hp:∀l x r,p l=some (x,r)->l=lay x++r/\Q x):∀(n:Nat) (l:List UInt8) (v:List α) (r:List UInt8),pRep p n l=some (v,r)->v.length=n/\l=v.flatMap lay++r/\∀x∈v,Q x
 | 0,l,v,r,h=>by
  rw[pRep] at h;injection h with h;injection h with h1 h2;subst h1 h2;exact⟨rfl,rfl,fun x hx=>by cases hx⟩
 | n+1,l,v,r,h=>by
  rw[pRep] at h
  split at h
  ·cases h
  ·rename_i x r1 h1
   split at h
   ·cases h
   ·rename_i v1 q h2;injection h with h;injection h with h3 h4;subst h3 h4;obtain⟨e1,q1⟩:=hp _ _ _ h1;obtain⟨e2,e3,q2⟩:=pRep_back hp n _ _ _ h2;refine⟨by rw[List.length_cons,e2],by rw[e1,e3,List.flatMap_cons,List.append_assoc],fun y hy=>?_⟩;rcases List.mem_cons.1 hy with rfl | hy
    ·exact q1
    ·exact q2 y hy
def pTwo {α β:Type} (p:List UInt8->Option (α×List UInt8)) (q:List UInt8->Option (β×List UInt8)) (l:List UInt8):Option ((α×β)×List UInt8):=match p l with
 | none=>none
 | some (x,r)=>match q r with
  | none=>none
  | some (y,s)=>some ((x,y),s)
theorem pTwo_lay {α β:Type} {p:List UInt8->Option (α×List UInt8)} {q:List UInt8->Option (β×List UInt8)} {u v r:List UInt8} {x:α} {y:β} (h1:p (u++(v++r))=some (x,v++r)) (h2:q (v++r)=some (y,r)):pTwo p q ((u++v)++r)=some ((x,y),r):=by
 unfold pTwo;rw[List.append_assoc,h1];simp only;rw[h2]
theorem pTwo_back {α β:Type} {p:List UInt8->Option (α×List UInt8)} {q:List UInt8->Option (β×List UInt8)} {l r:List UInt8} {x:α} {y:β} (h:pTwo p q l=some ((x,y),r)):∃s,p l=some (x,s)/\q s=some (y,r):=by
 unfold pTwo at h
 split at h
 ·cases h
 ·rename_i a s h1
  split at h
  ·cases h
  ·rename_i b t h2;injection h with h;injection h with h3 h4;injection h3 with h5 h6;subst h4 h5 h6;exact⟨s,h1,h2⟩
def pI (l:List UInt8):Option (Int×List UInt8):=match pN l with
 | none=>none
 | some (n,r)=>some ((n:Int),r)
theorem pI_lay {x:Int} (h:u63 x) (r:List UInt8):pI (lI x++r)=some (x,r):=by
 unfold pI lI;rw[pN_layI h];simp only[Int.toNat_of_nonneg h.1]
theorem pI_back {l r:List UInt8} {x:Int} (h:pI l=some (x,r)):l=lI x++r/\u63 x:=by
 unfold pI at h
 split at h
 ·cases h
 ·rename_i n r1 h1;injection h with h;injection h with h2 h3;subst h2 h3;obtain⟨e,e2⟩:=pN_back h1;exact⟨by unfold lI;rw[Int.toNat_natCast];exact e,by unfold u63;omega⟩
def pZn (l:List UInt8):Option (Zn×List UInt8):=match pTwo pI (pTwo pI pV) l with
 | none=>none
 | some ((lo,hi,v),r)=>some (((lo,hi),v),r)
def znC (x:Zn):Prop:=(u63 x.1.1/\u63 x.1.2)/\fm (-1) x.2=true/\cts x.2
theorem pZn_lay {x:Zn} (h:znC x) (r:List UInt8):pZn (lZn x++r)=some (x,r):=by
 obtain⟨⟨h1,h2⟩,h3,h4⟩:=h;unfold pZn lZn;rw[pTwo_lay (p:=pI) (q:=pTwo pI pV) (x:=x.1.1) (y:=(x.1.2,x.2)) (pI_lay h1 _) (pTwo_lay (pI_lay h2 _) (pV_lay h3 h4 r))]
theorem pZn_back {l:List UInt8} {x:Zn} {r:List UInt8} (h:pZn l=some (x,r)):l=lZn x++r/\znC x:=by
 unfold pZn at h
 split at h
 ·cases h
 ·rename_i lo hi v r1 h1;injection h with h;injection h with h2 h3;subst h2 h3;obtain⟨s,a1,a2⟩:=pTwo_back h1;obtain⟨t,a3,a4⟩:=pTwo_back a2;obtain⟨e1,q1⟩:=pI_back a1;obtain⟨e2,q2⟩:=pI_back a3;obtain⟨e3,q3,q4⟩:=pV_back a4;exact⟨by unfold lZn;rw[e1,e2,e3];simp,⟨q1,q2⟩,q3,q4⟩
def pHd (l:List UInt8):Option (Wr×List UInt8):=match pTwo pI (pTwo pI (pTwo pI pI)) l with
 | none=>none
 | some ((o,n,c,g),r)=>if g=0 then some (((c,n),o,false),r) else if g=1 then some (((c,n),o,true),r) else none
def hdC (w:Wr):Prop:=u63 w.2.1/\u63 w.1.2/\u63 w.1.1
theorem u63_g (b:Bool):u63 (if b=true then 1 else 0):=by cases b<;>simp[u63]
theorem pHd_lay {w:Wr} (h:hdC w) (r:List UInt8):pHd (lHd w++r)=some (w,r):=by
 obtain⟨h1,h2,h3⟩:=h;unfold pHd lHd;rw[pTwo_lay (p:=pI) (x:=w.2.1) (y:=(w.1.2,w.1.1,(if w.2.2=true then (1:Int) else 0))) (pI_lay h1 _) (pTwo_lay (pI_lay h2 _) (pTwo_lay (pI_lay h3 _) (pI_lay (u63_g w.2.2) r)))];obtain⟨⟨c,n⟩,o,g⟩:=w;cases g<;>simp
theorem pHd_back {l:List UInt8} {w:Wr} {r:List UInt8} (h:pHd l=some (w,r)):l=lHd w++r/\hdC w:=by
 unfold pHd at h
 split at h
 ·cases h
 ·rename_i o n c g r1 h1;obtain⟨s,a1,a2⟩:=pTwo_back h1;obtain⟨t,a3,a4⟩:=pTwo_back a2;obtain⟨u,a5,a6⟩:=pTwo_back a4;obtain⟨e1,q1⟩:=pI_back a1;obtain⟨e2,q2⟩:=pI_back a3;obtain⟨e3,q3⟩:=pI_back a5;obtain⟨e4,q4⟩:=pI_back a6
  split at h
  ·rename_i hg;injection h with h;injection h with h2 h3;subst h2 h3 hg;exact⟨by unfold lHd;rw[e1,e2,e3,e4];simp,q1,q2,q3⟩
  ·split at h
   ·rename_i hg;injection h with h;injection h with h2 h3;subst h2 h3 hg;exact⟨by unfold lHd;rw[e1,e2,e3,e4];simp,q1,q2,q3⟩
   ·cases h
def pLst {α:Type} (p:List UInt8->Option (α×List UInt8)) (l:List UInt8):Option (List α×List UInt8):=match pN l with
 | none=>none
 | some (n,r)=>pRep p n r
theorem pLst_lay {α:Type} {p:List UInt8->Option (α×List UInt8)} {lay:α->List UInt8} {v:List α} (r:List UInt8) (hl:v.length < 9223372036854775808) (h:∀x∈v,∀r,p (lay x++r)=some (x,r)):pLst p ((Pk.lay v.length++v.flatMap lay)++r)=some (v,r):=by
 unfold pLst;rw[List.append_assoc,pN_lay hl];exact pRep_lay v r h
theorem pLst_back {α:Type} {p:List UInt8->Option (α×List UInt8)} {lay:α->List UInt8} {Q:α->Prop} (hp:∀l x r,p l=some (x,r)->l=lay x++r/\Q x) {l r:List UInt8} {v:List α} (h:pLst p l=some (v,r)):l=(Pk.lay v.length++v.flatMap lay)++r/\(v.length < 9223372036854775808/\∀x∈v,Q x):=by
 unfold pLst at h
 split at h
 ·cases h
 ·rename_i n r1 h1;obtain⟨e1,e2⟩:=pN_back h1;obtain⟨a,b,c⟩:=pRep_back hp _ _ _ _ h;subst a;exact⟨by rw[e1,b,List.append_assoc],e2,c⟩
def pVw (l:List UInt8):Option (Vw×List UInt8):=match pTwo pV (pTwo (pLst pZn) (pTwo (pLst pHd) (pTwo (pLst pB) pI))) l with
 | none=>none
 | some ((k,z,h,b,m),r)=>some (⟨k,z,h,b,m⟩,r)
structure VwC (v:Vw):Prop where
 k:fm (-1) v.known=true/\cts v.known
 z:v.zones.length < 9223372036854775808/\∀x∈v.zones,znC x
 h:v.held.length < 9223372036854775808/\∀x∈v.held,hdC x
 b:v.bods.length < 9223372036854775808/\∀x∈v.bods,bdF x=true/\x.s.1 < 9223372036854775808
 r:u63 v.room
theorem pVw_lay {v:Vw} (h:VwC v) (r:List UInt8):pVw (lVw v++r)=some (v,r):=by
 have e:lVw v=lV v.known++((Pk.lay v.zones.length++v.zones.flatMap lZn)++((Pk.lay v.held.length++v.held.flatMap lHd)++((Pk.lay v.bods.length++v.bods.flatMap lB)++lI v.room))):=by unfold lVw;simp
 unfold pVw;rw[e,pTwo_lay (p:=pV) (x:=v.known) (y:=(v.zones,v.held,v.bods,v.room)) (pV_lay h.k.1 h.k.2 _) (pTwo_lay (pLst_lay _ h.z.1 fun x hx r=>pZn_lay (h.z.2 x hx) r) (pTwo_lay (pLst_lay _ h.h.1 fun x hx r=>pHd_lay (h.h.2 x hx) r) (pTwo_lay (pLst_lay _ h.b.1 fun x hx r=>pB_lay (h.b.2 x hx).1 (h.b.2 x hx).2 r) (pI_lay h.r r))))]
theorem pVw_back {l r:List UInt8} {v:Vw} (h:pVw l=some (v,r)):l=lVw v++r/\VwC v:=by
 unfold pVw at h
 split at h
 ·cases h
 ·rename_i k z hd b m r1 h1;injection h with h;injection h with h2 h3;subst h2 h3;obtain⟨s,a1,a2⟩:=pTwo_back h1;obtain⟨t,a3,a4⟩:=pTwo_back a2;obtain⟨u,a5,a6⟩:=pTwo_back a4;obtain⟨v,a7,a8⟩:=pTwo_back a6;obtain⟨e1,q1⟩:=pV_back a1;obtain⟨e2,q2⟩:=pLst_back (lay:=lZn) (Q:=znC) (fun _ _ _ h=>pZn_back h) a3;obtain⟨e3,q3⟩:=pLst_back (lay:=lHd) (Q:=hdC) (fun _ _ _ h=>pHd_back h) a5;obtain⟨e4,q4⟩:=pLst_back (lay:=lB) (Q:=fun x=>bdF x=true/\x.s.1 < 9223372036854775808) (fun _ _ _ h=>pB_back h) a7;obtain⟨e5,q5⟩:=pI_back a8;exact⟨by unfold lVw;rw[e1,e2,e3,e4,e5];simp,⟨q1,q2,q3,q4,q5⟩⟩
def pSb (l:List UInt8):Option (Sb×List UInt8):=match pTwo pI pS l with
 | none=>none
 | some ((f,i),r)=>some (⟨f,i,0,0,false,false,false⟩,r)
theorem pSb_lay {s:Sb} (h1:u63 s.from_) (h2:Sn.fmS (-2) s.int=true) (h3:sbZ s=true) (r:List UInt8):pSb (lSb s++r)=some (s,r):=by
 unfold pSb lSb;rw[pTwo_lay (p:=pI) (q:=pS) (x:=s.from_) (y:=s.int) (pI_lay h1 _) (pS_lay h2 r)];obtain⟨f,i,a,b,c,d,e⟩:=s;unfold sbZ at h3;simp only[Bool.and_eq_true,decide_eq_true_eq,Bool.not_eq_true'] at h3;obtain⟨⟨rfl,rfl⟩,rfl,rfl,rfl⟩:=h3;rfl
theorem pSb_back {l r:List UInt8} {s:Sb} (h:pSb l=some (s,r)):l=lSb s++r/\(u63 s.from_/\Sn.fmS (-2) s.int=true):=by
 unfold pSb at h
 split at h
 ·cases h
 ·rename_i f i r1 h1;injection h with h;injection h with h2 h3;subst h2 h3;obtain⟨s,a1,a2⟩:=pTwo_back h1;obtain⟨e1,q1⟩:=pI_back a1;obtain⟨e2,q2⟩:=pS_back a2;exact⟨by unfold lSb;rw[e1,e2];simp,q1,q2⟩
end Go.Proofs.YtmbeahbgafkjfaaGreatDoor.Wq
namespace Go.Proofs.YtmbeahbgafkjfaaGreatDoor.Wq
def bdz:Bd:=⟨0,(0,0),[]⟩
def ntz:Nt:=⟨[],[],[],[]⟩
def vw0:Vw:=⟨[],[],[],[],0⟩
theorem isEmpty_nil {α:Type} {l:List α} (h:l.isEmpty=true):l=[]:=List.isEmpty_iff.1 h
theorem bareB_is {x:Bd} (h:bareB x=true):x=bdz:=by
 unfold bareB at h;simp only[Bool.and_eq_true,decide_eq_true_eq] at h;obtain⟨o,s,v⟩:=x;obtain⟨h1,h2,h3⟩:=h;have:=isEmpty_nil h3;simp only at h1 h2 this;rw[h1,h2,this];rfl
theorem emptyN_is {x:Nt} (h:emptyN x=true):x=ntz:=by
 unfold emptyN at h;simp only[Bool.and_eq_true] at h;obtain⟨⟨h1,h2⟩,h3,h4⟩:=h;obtain⟨a,b,c,d⟩:=x;have:=isEmpty_nil h1;have:=isEmpty_nil h2;have:=isEmpty_nil h3;have:=isEmpty_nil h4
 simp_all [ntz]
theorem blankV_is {x:Vw} (h:blankV x=true):x=vw0:=by
 unfold blankV at h;simp only[Bool.and_eq_true,decide_eq_true_eq] at h;obtain⟨⟨⟨h1,h2⟩,h3,h4⟩,h5⟩:=h;obtain⟨a,b,c,d,e⟩:=x;have:=isEmpty_nil h1;have:=isEmpty_nil h2;have:=isEmpty_nil h3;have:=isEmpty_nil h4
 simp_all [vw0]
theorem noSub_is {x:Ent} (h:noSub x=true):x.from_=0/\x.int=[]:=by
 unfold noSub at h;simp only[Bool.and_eq_true,decide_eq_true_eq] at h;exact⟨h.1,isEmpty_nil h.2⟩
theorem noChk_is {x:Ent} (h:noChk x=true):x.view=vw0/\x.subs=[]:=by
 unfold noChk at h;simp only[Bool.and_eq_true] at h;exact⟨blankV_is h.1,isEmpty_nil h.2⟩
def pEnt (l:List UInt8):Option (Ent×List UInt8):=match pI l with
 | none=>none
 | some (k,r)=>
  if k=1 then match pNt r with
   | none=>none
   | some (n,q)=>some (⟨k,n,bdz,0,[],vw0,[]⟩,q)
  else if k=2 then match pB r with
   | none=>none
   | some (b,q)=>some (⟨k,ntz,b,0,[],vw0,[]⟩,q)
  else if k=3 then match pNt r with
   | none=>none
   | some (n,q)=>match n.w with
    | []=>some (⟨k,n,bdz,0,[],vw0,[]⟩,q)
    | w :: _=>if w.2.2=true then some (⟨k,n,bdz,0,[],vw0,[]⟩,q) else match pB q with
     | none=>none
     | some (b,s)=>some (⟨k,n,b,0,[],vw0,[]⟩,s)
  else if k=4 then match pTwo pI pS r with
   | none=>none
   | some ((f,i),q)=>some (⟨k,ntz,bdz,f,i,vw0,[]⟩,q)
  else if k=5 then match pTwo pVw (pLst pSb) r with
   | none=>none
   | some ((v,s),q)=>some (⟨k,ntz,bdz,0,[],v,s⟩,q)
  else some (⟨k,ntz,bdz,0,[],vw0,[]⟩,r)
def decE (l:List UInt8):Option Ent:=match pEnt l with
 | some (x,[])=>if entF x=true then some x else none
 | _=>none
structure EntC (x:Ent):Prop where
 n:ntC x.note
 b:x.body.s.1 < 9223372036854775808
 k:cts x.view.known
 z:∀y∈x.view.zones,cts y.2
 h:∀w∈x.view.held,w.1.1 < 9223372036854775808
 y:∀y∈x.view.bods,y.s.1 < 9223372036854775808
theorem shF_hd:∀{l:List Wr} {last:Int},shF last l=true->∀w∈l,0<=w.2.1/\w.2.1<=255/\0 < w.1.1/\0<=w.1.2/\w.1.2 < 64
 | [],_,_,w,hw=>by cases hw
 | x :: r,last,h,w,hw=>by
  rw[shF] at h;simp only[Bool.and_eq_true,decide_eq_true_eq] at h;rcases List.mem_cons.1 hw with rfl | hw
  ·obtain⟨⟨⟨h1,h2⟩,h3⟩,_⟩:=h;obtain⟨a,b,c⟩:=(Vc.right_iff _).1 h3;exact⟨h1,h2,a,b,c⟩
  ·exact shF_hd h.2.2 w hw
theorem shF_len:∀{l:List Wr} {last:Int},shF last l=true->-1<=last->(l.length:Int)<=255 - last\/l=[]
 | [],_,_,_=>Or.inr rfl
 | x :: r,last,h,hl=>by
  rw[shF] at h;simp only[Bool.and_eq_true,decide_eq_true_eq] at h;left;rcases shF_len h.2.2 (by omega) with h1 | rfl
  ·rw[List.length_cons];omega
  ·rw[List.length_cons,List.length_nil];omega
theorem newsB_all:∀{l:List Bd} {seen:List Int},newsB seen l=true->∀x∈l,bdF x=true
 | [],_,_,x,hx=>by cases hx
 | y :: r,seen,h,x,hx=>by
  rw[newsB] at h;simp only[Bool.and_eq_true] at h;rcases List.mem_cons.1 hx with rfl | hx
  ·exact h.1.2
  ·exact newsB_all h.2 x hx
theorem zF_all:∀{l:List Zn} {e:Int} {p:Option (List Vc.St)},zF e p l=true->-1<=e->(∀x∈l,(0<=x.1.1/\x.1.1<=x.1.2/\x.1.2<=255)/\fm (-1) x.2=true)/\(l.length:Int)<=255 - e\/l=[]
 | [],_,_,_,_=>Or.inr rfl
 | y :: r,e,p,h,he=>by
  rw[zF,Bool.and_eq_true] at h;obtain⟨h1,h2⟩:=h;unfold zStep at h1;simp only[Bool.and_eq_true,decide_eq_true_eq] at h1;obtain⟨⟨a,b,c⟩,d,_⟩:=h1;left;rcases zF_all h2 (by omega) with ⟨h3,h4⟩ | rfl
  ·refine⟨fun x hx=>?_,by rw[List.length_cons];omega⟩;rcases List.mem_cons.1 hx with rfl | hx
   ·exact⟨⟨by omega,b,c⟩,d⟩
   ·exact h3 x hx
  ·refine⟨fun x hx=>?_,by simp;omega⟩;rw[List.mem_singleton] at hx;subst hx;exact⟨⟨by omega,b,c⟩,d⟩
theorem vwF_parts {v:Vw} (h:vwF v=true):fm (-1) v.known=true/\zF (-1) none v.zones=true/\shF (-1) v.held=true/\caF v.bods v.room=true:=by
 unfold vwF at h;simp only[Bool.and_eq_true] at h;exact⟨h.1.1,h.1.2.1,h.1.2.2.1,h.1.2.2.2⟩
theorem vwC_of {x:Ent} (h:vwF x.view=true) (hc:EntC x):VwC x.view:=by
 obtain⟨h1,h2,h3,h4⟩:=vwF_parts h;unfold caF at h4;simp only[Bool.and_eq_true,decide_eq_true_eq] at h4;obtain⟨⟨r0,r1,r2⟩,r3,_⟩:=h4;refine⟨⟨h1,hc.k⟩,?_,?_,⟨by omega,fun y hy=>⟨newsB_all r3 y hy,hc.y y hy⟩⟩,⟨r0,by omega⟩⟩
 ·rcases zF_all h2 (by omega) with ⟨a,b⟩ | e
  ·refine⟨by omega,fun y hy=>⟨⟨⟨(a y hy).1.1,?_⟩,⟨?_,?_⟩⟩,(a y hy).2,hc.z y hy⟩⟩<;>have:=(a y hy).1<;>omega
  ·rw[e];exact⟨by simp,fun y hy=>by cases hy⟩
 ·refine⟨?_,fun w hw=>?_⟩
  ·rcases shF_len h3 (by omega) with a | e
   ·omega
   ·rw[e];simp
  ·obtain⟨a,b,c,d,e⟩:=shF_hd h3 w hw;exact⟨⟨a,by omega⟩,⟨d,by omega⟩,⟨by omega,hc.h w hw⟩⟩
theorem rstF_all:∀{l:List Sb} {last:Int},rstF last l=true->-1<=last->∀s∈l,u63 s.from_/\Sn.fmS (-2) s.int=true/\sbZ s=true
 | [],_,_,_,s,hs=>by cases hs
 | y :: r,last,h,hl,s,hs=>by
  rw[rstF,Bool.and_eq_true] at h;obtain⟨h1,h2⟩:=h;unfold sbF at h1;simp only[Bool.and_eq_true,decide_eq_true_eq] at h1;obtain⟨⟨a,b⟩,⟨_,c⟩,d⟩:=h1;rcases List.mem_cons.1 hs with rfl | hs
  ·exact⟨⟨by omega,by omega⟩,c,d⟩
  ·exact rstF_all h2 (by omega) s hs
end Go.Proofs.YtmbeahbgafkjfaaGreatDoor.Wq
namespace Go.Proofs.YtmbeahbgafkjfaaGreatDoor
open Go.RowKit
theorem ofInt_i64 (a:Nat) (ha:a < 9223372036854775808):(BitVec.ofInt 64 (a:Int)).toNat=a:=by
 rw[BitVec.ofInt_natCast,BitVec.toNat_ofNat];exact Nat.mod_eq_of_lt (by omega)
theorem i64_or_nat (a b:Nat) (ha:a < 9223372036854775808) (hb:b < 9223372036854775808):bits .or .i64 (a:Int) (b:Int)=((a ||| b:Nat):Int):=by
 have hx:a ||| b < 2 ^ 63:=Nat.or_lt_two_pow (by omega) (by omega);show IntKind.i64.wrap ((BitVec.ofInt 64 (a:Int) ||| BitVec.ofInt 64 (b:Int)).toNat:Int)=_;rw[BitVec.toNat_or,ofInt_i64 a ha,ofInt_i64 b hb,IntKind.wrap_i64];omega
theorem andNot128:∀b:Nat,b < 256->bits .andNot .u8 (b:Int) 128=((b % 128:Nat):Int):=by decide +kernel
theorem and128_hi:∀b:Nat,b < 256->128<=b->bits .and .u8 (b:Int) 128=128:=by decide +kernel
theorem and128_lo:∀b:Nat,b < 256->b < 128->bits .and .u8 (b:Int) 128=0:=by decide +kernel
theorem or_shift (x y j:Nat) (hx:x < 2 ^ j):x ||| (y * 2 ^ j)=x+y * 2 ^ j:=by
 rw[Nat.or_comm,<-Nat.shiftLeft_eq,<-Nat.shiftLeft_add_eq_or_of_lt hx,Nat.add_comm]
theorem pow7 (k:Nat):(2:Nat) ^ (7 * k)=128 ^ k:=by rw[Nat.pow_mul]
theorem step_bits (x b k:Nat) (hb:b < 256) (hk:k < 9) (hx:x < 128 ^ k):
  bits .or .i64 (x:Int) (wrap64 (wrap64 (bits .andNot .u8 (b:Int) 128) * 2 ^ (7 * k)))=((x+b % 128 * 128 ^ k:Nat):Int):=by
 have hp:128 ^ k<=128 ^ 8:=Nat.pow_le_pow_right (by omega) (by omega);have e8:128 ^ 8=72057594037927936:=by decide
 have hm:b % 128 * 128 ^ k<=127 * 128 ^ k:=Nat.mul_le_mul_right _ (by omega);have w1:wrap64 ((b % 128:Nat):Int)=((b % 128:Nat):Int):=IntWalk.wrap64_in _ (by omega);have e2:((b % 128:Nat):Int) * 2 ^ (7 * k)=((b % 128 * 128 ^ k:Nat):Int):=by rw[<-pow7];simp
 have w2:wrap64 ((b % 128 * 128 ^ k:Nat):Int)=((b % 128 * 128 ^ k:Nat):Int):=IntWalk.wrap64_in _ (by omega);rw[andNot128 b hb,w1,e2,w2,i64_or_nat _ _ (by omega) (by omega),<-pow7,or_shift _ _ _ (by rw[pow7];exact hx)]
theorem num_end4 (l r:List UInt8) (k:Nat) (h:9<=k):Pk.num l k r=(0,0,4):=by
 cases r with
 | nil=>rw[Pk.num,if_neg (by omega)]
 | cons c r=>rw[Pk.num,if_pos h]
theorem num_end5 (l:List UInt8) (k:Nat) (h:k < 9):Pk.num l k []=(0,0,5):=by rw[Pk.num,if_pos h]
theorem num_on (l:List UInt8) (k:Nat) (hl:k < l.length) (hk:k < 9) (h:128<=l[k].toNat):Pk.num l k (l.drop k)=Pk.num l (k+1) (l.drop (k+1)):=by
 rw[List.drop_eq_getElem_cons hl,Pk.num,if_neg (by omega),if_pos h]
theorem num_zero (l:List UInt8) (k:Nat) (hl:k < l.length) (hk:k < 9) (h:l[k].toNat=0) (h0:0 < k):Pk.num l k (l.drop k)=(0,0,4):=by
 rw[List.drop_eq_getElem_cons hl,Pk.num,if_neg (by omega),if_neg (by omega),if_pos ⟨h,h0⟩]
theorem num_last (l:List UInt8) (k:Nat) (hl:k < l.length) (hk:k < 9) (h:l[k].toNat < 128) (h0:¬ (l[k].toNat=0/\0 < k)):Pk.num l k (l.drop k)=(Pk.val l (k+1),k+1,0):=by
 rw[List.drop_eq_getElem_cons hl,Pk.num,if_neg (by omega),if_neg (by omega),if_neg h0]
theorem ret3 {a b c a' b' c':Int} (h1:a=a') (h2:b=b') (h3:c=c'):Ending.returned (.tuple #[.int .i64 a,.int .i64 b,.int .i64 c])=.returned (.tuple #[.int .i64 a',.int .i64 b',.int .i64 c']):=by rw[h1,h2,h3]
theorem size_u8:∀w,(Go.sizeOf 5).run Tryz.prog w=.ok 1 w:=fun _=>by kernel_rfl
theorem number_any (A:Option Addr) (n c:Nat) (l:List UInt8) (w:World) (hl:l.length=n) (hR:Rd w w.heap.size 1 A n c (bv l)):
  Calls Tryz.prog 120 #[.slice A n c] w fun e w'=>e=.returned (.tuple #[.int .i64 (Pk.num l 0 l).1,.int .i64 (Pk.num l 0 l).2.1,.int .i64 (Pk.num l 0 l).2.2])/\w=w':=by
 obtain⟨m,hm⟩:∃m,m=min n 9:=⟨_,rfl⟩;have hcap:=hR.cap;have hmin:(if (9:Int) < (n:Int) then (9:Int) else (n:Int))=m:=by split<;>omega
 have hs:∀W,(Instr.slice 29 (.slice A n c) none (some (.int .i64 (m:Int))) none).run Tryz.prog W=.ok (.slice A m c) W:=
  fun W=>run_upto W 29 5 1 Tryz.underlying29 size_u8 A n c .i64 m m rfl (by omega)
 have hm9:m<=9:=by omega
 have hmn:m<=n:=by omega
 have HM:=Hz_ hm;have HL:=Hz_ hl;clear hm;go_enter Tryz.func120,Tryz.ntmps120;go_wp2;go_loop [2,13] (fun x i=>∃k:Nat,k<=m/\i=.int .i64 k/\x=.int .i64 (Pk.val l k)/\Hid (Pk.num l 0 l=Pk.num l k (l.drop k))) (fun _ i=>m - (intOf i).toNat)
 case atStart=>exact⟨0,by omega,rfl,by rw[Pk.val_zero];rfl,rfl⟩
 case round=>
  obtain⟨k,hk,rfl,rfl,hd⟩:=hrel;by_cases hlt:k < m
  ·have hkl:k < l.length:=by omega
   have hk9:k < 9:=by omega
   obtain⟨ad,u,rfl,hb,hx,hc⟩:=hR.at_ (k:=k) (by omega);rw[bv_at l k hkl] at hx;obtain rfl:Value.int .u8 (l[k].toNat:Int)=u:=by simpa using hx
   clear hx;obtain⟨b,hb'⟩:∃b,b=l[k].toNat:=⟨_,rfl⟩;have hb256:b < 256:=by have:=UInt8.toNat_lt l[k];omega
   rw[<-hb'] at hc;have HB:=Hz_ hb';clear hb' hs hmin hR;obtain⟨x,hx⟩:∃x,x=Pk.val l k:=⟨_,rfl⟩;rw[<-hx];have HX:=Hz_ hx;clear hx;have hxl:x < 128 ^ k:=by rw[HX.out];exact Pk.val_lt l k
   have HS:=Hz_ (step_bits x b k hb256 hk9 hxl);have HV:=Hz_ (Pk.val_snoc l k hkl);clear hxl;by_cases h128:128<=b
   ·have h1:=and128_hi b hb256 h128;go_wp2;go_round
    case rel=>
     refine⟨k+1,by omega,by go_num,?_,?_⟩
     ·rw[HS.out,HV.out,<-HB.out,<-HX.out]
     ·show _=_;rw[hd.out,num_on l k hkl hk9 (by rw[<-HB.out];exact h128)]
    case measure=>simp[intOf];omega
   ·have h1:=and128_lo b hb256 (by omega);by_cases h0:b=0
    ·subst h0;by_cases hk0:0 < k
     ·have hd0:decide ((0:Int) < (k:Int))=true:=by simpa using hk0
      go_wp2;go_ret3;exact⟨by rw[hd.out,num_zero l k hkl hk9 HB.out.symm hk0];rfl,rfl⟩
     ·have hd0:decide ((0:Int) < (k:Int))=false:=by simpa using hk0
      go_wp2;go_ret3;exact⟨by rw[hd.out,num_last l k hkl hk9 (by rw[<-HB.out];omega) (by omega)];exact ret3 (by rw[HV.out,<-HB.out,<-HX.out];exact HS.out) rfl rfl,rfl⟩
    ·have hb0:((b:Int) == 0)=false:=by simpa using h0
     go_wp2;go_ret3;exact⟨by rw[hd.out,num_last l k hkl hk9 (by rw[<-HB.out];omega) (by rw[<-HB.out];omega)];exact ret3 (by rw[HV.out,<-HB.out,<-HX.out];exact HS.out) rfl rfl,rfl⟩
  ·obtain rfl:k=m:=by omega
   clear hs hmin hR;by_cases hn9:n < 9
   ·go_wp2;go_ret3;exact⟨by rw[hd.out,List.drop_of_length_le (by have:=HL.out;have:=HM.out;omega),num_end5 _ _ (by have:=HM.out;omega)];rfl,rfl⟩
   ·go_wp2;go_ret3;exact⟨by rw[hd.out,num_end4 _ _ _ (by have:=HM.out;omega)];rfl,rfl⟩
theorem u8_info:(Tryz.prog.info? 5).map (fun i=>(i.zero,i.size,i.bytes))=some (some (.int .u8 0),1,1):=by kernel_rfl
theorem clone_any (A:Option Addr) (n c:Nat) (xs:List Value) (w:World) (hR:Rd w w.heap.size 1 A n c xs) (h1:∀u∈xs,u.oneCell'=true) (hn:n<=140737488355328):
  Calls Tryz.prog 168 #[.slice A n c] w fun e w'=>∃A' c',e=.returned (.slice A' n c')/\w'.ownsRow w.heap.size 5 1 (.slice A' n c') n xs/\Below w.heap.size w w':=by
 have hmax:=hR.max;have hcap:=hR.cap;rcases A with _ | ad
 ·have hc0:=hR.nil rfl;obtain rfl:n=0:=by omega
  subst hc0;have hx:xs=[]:=List.eq_nil_of_length_eq_zero (by simpa using hR.len);subst hx;have ht:=fun W=>Lib.run_eql_slice_nil (P:=Tryz.prog) W 29 5 none 0 0 0 0 Tryz.underlying29;clear hR h1;go_enter Tryz.func168,Tryz.ntmps168;go_wp2;go_ret;exact⟨none,0,rfl,World.ownsRow_nil _ _ _ _,Below.refl _ _⟩
 ·have ht:=fun W=>Lib.run_eql_slice_nil (P:=Tryz.prog) W 29 5 (some ad) n c 0 0 Tryz.underlying29;obtain⟨i0,hi0,hz0,hz1,hz2⟩:=info_parts u8_info;have h63:0+n<=maxLen:=by omega
  go_enter Tryz.func168,Tryz.ntmps168;go_wp2_with (at_builtin;go_must (refine wpList_append_rd _ rfl (.tmp 5) (.tmp 6) _ rfl w.heap.size 5 i0 _ 1 1 Tryz.underlying29 hi0 hz0 hz1 hz2 rfl (by decide) (.slice (some ⟨w.heap.size,0,none⟩) 0 0) 0 [] rfl (own_empty w _ _) w.heap.size (some ad) n c xs rfl (hR.alloc Zl _) h1 h63 (by omega) (by simp) ?_);intro A' c' w1 hown hg hat);go_ret;exact⟨A',c',rfl,by simpa using hown,(Zr.alloc Zl _).trans (grown_below hg (by simp) (by simp[Value.ownBlock]))⟩
theorem own_first {P:Program} {w:World} {base:Nat} {e:TypeId} {n c:Nat} {A:Option Addr} {xs:List Value} (h:w.ownsRow base e 1 (.slice A n c) n xs):
  ∃olds:List Value,olds.length=c/\olds.take n=xs/\n<=c/\c<=maxLen/\∀W:World,(∀k,k < w.heap.size->W.heap[k]?=w.heap[k]?)->(Builtin.firstCells 1 c (.slice A c c)).run P W=.ok olds.toArray W:=by
 rcases h.2 with ⟨hv,h0⟩ | ⟨g,cap,cur,hv,hb,hh,hn,hm,hs,ht⟩
 ·injection hv with h1 h2 h3;subst h1 h2 h3;refine⟨[],rfl,?_,Nat.le_refl _,by simp[maxLen],fun W _=>by simp[Builtin.firstCells]⟩;have:=h.1;rw[List.take_nil];exact(List.eq_nil_of_length_eq_zero (by simpa using this)).symm
 ·injection hv with h1 h2 h3;subst h1 h3;refine⟨cur.toList,by simpa using hs,by simpa using ht,hn,hm,fun W hW=>?_⟩;have hg:W.heap[g]?=some (.cells cur e (0,0)):=by rw[hW g (Array.getElem?_eq_some_iff.1 hh).1];exact hh
  refine run_firstCells_some (P:=P) W 1 c ⟨g,0,none⟩ c c cur.toList (by simpa using hs) fun j u hu=>?_;have hadd:(⟨g,0,none⟩:Addr).add j=⟨g,j,none⟩:=by unfold Addr.add;split<;>simp_all
  rw[hadd,cell_of_row _ g j cur e (0,0) hg];simpa using hu
theorem grow_any (A:Option Addr) (n c base:Nat) (xs:List Value) (w:World) (hown:w.ownsRow base 5 1 (.slice A n c) n xs) (hn:n+9<=140737488355328) (hbase:base<=w.heap.size):
  Calls Tryz.prog 167 #[.slice A n c,.int .i64 9] w fun e w'=>∃A' c',e=.returned (.slice A' n c')/\w'.ownsRow base 5 1 (.slice A' n c') n xs/\Below w.heap.size w w':=by
 obtain⟨olds,ho1,ho2,hnc,hcm,ho3⟩:=own_first (P:=Tryz.prog) hown;unfold maxLen at hcm;by_cases hroom:n+9<=c
 ·clear ho3 ho2;go_enter Tryz.func167,Tryz.ntmps167;go_wp2;go_ret;exact⟨A,c,rfl,hown,Below.refl _ _⟩
 ·obtain⟨k,hk⟩:∃k:Nat,9 - ((c:Int) - (n:Int))=(k:Int):=⟨n+9 - c,by omega⟩;obtain⟨i0,hi0,hz0,hz1,hz2⟩:=info_parts u8_info;have hk0:0 < k:=by omega
  have hu:∀W,(Instr.slice 29 (.slice A n c) none (some (.int .i64 (c:Int))) none).run Tryz.prog W=.ok (.slice A c c) W:=
   fun W=>run_upto W 29 5 1 Tryz.underlying29 size_u8 A n c .i64 c c rfl Zl
  have hfit:Builtin.nextslicecap (c+k) c * i0.bytes<=281474976710656:=growslice_fits (by omega) (by rw[hz2];omega);have hz:=Lib.run_append_grow_zeros (P:=Tryz.prog) w 29 3 29 5 i0 (.int .u8 0) .i64 .i64 Tryz.underlying29 Tryz.underlying3 hi0 hz0 A c c olds
   (by rw[hz1];exact ho3 w.drew (fun _ _=>rfl)) k hk0 (by rw[hz1];decide) (by omega) (by omega) (by rw[hz2];omega) hfit
  have hge:=grownCap_ge w (c+k) c 5;have hgm:=grownCap_le_maxLen w (c+k) c 5 (by unfold maxLen;omega);have HO:=Hz_ ho1;have HT:=Hz_ ho2;generalize grownCap w (c+k) c 5=N at hz hge hgm;have Hz:=Hz_ hz;have HM:=Hz_ hgm;clear hz ho3 hfit ho1 ho2 hgm;go_enter Tryz.func167,Tryz.ntmps167;go_wp2_with (at_builtin;go_must (refine Lib.wpList_append_run _ rfl _ _ _ _ rfl _ _ rfl rfl _ _ Hz.out ?_));go_ret;have h1:=hown.1;have h2:=HO.out;refine⟨_,_,rfl,⟨h1,.inr ⟨w.heap.size,N,_,rfl,hbase,heap_alloc_new w.drew _,by omega,HM.out,?_,?_⟩⟩,(Zr.drew).alloc Zl _⟩
  ·simp only[Array.size_append,List.size_toArray,size_zeroCells,h2];simp;omega
  ·simp only[Array.toList_append];rw[List.take_append_of_le_length (by omega),Nat.mul_one];exact HT.out
theorem or128_fin:∀m:Nat,m < 256->bits BinOp.or .u8 (m:Int) 128=((m % 128+128:Nat):Int):=by decide +kernel
theorem or128 (m:Nat):bits BinOp.or .u8 ((m:Int) % 256) 128=((UInt8.ofNat (m % 128+128)).toNat:Int):=by
 rw[Pk.toNat_ofNat (by omega),show ((m:Int) % 256)=((m % 256:Nat):Int) by omega,or128_fin _ (by omega)];omega
theorem one_oneCell (k:IntKind) (x:Int):∀u∈[Value.int k x],u.oneCell'=true:=by
 intro u hu;rw[List.mem_singleton] at hu;subst hu;rfl
theorem appendNumber_any (A:Option Addr) (n c x:Nat) (l:List UInt8) (w:World) (hl:l.length=n) (hR:Rd w w.heap.size 1 A n c (bv l)) (hn:n+9<=140737488355328) (hx:(Pk.lay x).length<=9):
  Calls Tryz.prog 101 #[.slice A n c,.int .i64 x] w fun e w'=>∃A' c',e=.returned (.tuple #[.slice A' (n+(Pk.lay x).length) c',.int .i64 0]) /\
   w'.ownsRow w.heap.size 5 1 (.slice A' (n+(Pk.lay x).length) c') (n+(Pk.lay x).length) (bv (l++Pk.lay x))/\Below w.heap.size w w':=by
 obtain⟨i0,hi0,hz0,hz1,hz2⟩:=info_parts u8_info;have HX:=Hz_ hx;have HL:=Hz_ hl;clear hx hl;have H1:=Hz_ (clone_any A n c (bv l) w hR (bv_oneCell l) (by omega));have HR:=Hz_ hR;clear hR;go_enter Tryz.func101,Tryz.ntmps101;go_wp2_with fail;refine H1.out.mono ?_;rintro e w1 ⟨A1,c1,rfl,ho1,hb1⟩;go_wp2_with fail;refine(grow_any A1 n c1 w.heap.size (bv l) w1 ho1 hn hb1.size).mono ?_;rintro e w2 ⟨A2,c2,rfl,ho2,hb2⟩;have hb12:Below w.heap.size w w2:=hb1.trans (hb2.mono hb1.size);clear hb1 hb2 ho1 H1;go_wp2_with fail;go_loopw [1,6] (fun x' v wr=>∃(m k c':Nat) (A':Option Addr) (pre:List UInt8),x'=.int .i64 m/\v=.slice A' (n+k) c'/\wr.ownsRow w.heap.size 5 1 (.slice A' (n+k) c') (n+k) (bv (l++pre))/\Below w.heap.size w wr/\k<=8/\Hid (Pk.lay x=pre++Pk.lay m/\pre.length=k)) (fun x' _ _=>(intOf x').toNat)
 case atStart=>
  exact⟨x,0,c2,A2,[],rfl,rfl,by simpa using ho2,hb12,by omega,by simp[Hid]⟩
 case round=>
  obtain⟨m,k,c',A',pre,rfl,rfl,ho,hb,hk,hh⟩:=hrel;have HR2:=Hz_ ho;clear ho;have h1max:1<=maxLen:=by unfold maxLen;omega
  have h63:n+k+1<=maxLen:=by unfold maxLen;omega
  by_cases hm:128<=m
  ·obtain⟨d,hd⟩:∃d,d=UInt8.ofNat (m % 128+128):=⟨_,rfl⟩;have hbits:bits BinOp.or .u8 ((m:Int) % 256) 128=((d.toNat:Nat):Int):=by rw[hd];exact or128 m
   obtain⟨q,hq⟩:∃q,q=d.toNat:=⟨_,rfl⟩;rw[<-hq] at hbits;have HD:=Hz_ hd;have HQ:=Hz_ hq;clear hd hq;go_wp2_with (at_builtin;go_must (refine wpList_append_rd _ rfl (.tmp 16) (.tmp 20) _ rfl w.heap.size 5 i0 _ 1 1 Tryz.underlying29 hi0 hz0 hz1 hz2 rfl (by decide) (.slice A' (n+k) c') (n+k) (bv (l++pre)) rfl (HR2.out.alloc _) (wr.heap.size+1) (some ⟨wr.heap.size,0,none⟩) 1 1 [.int .u8 (q:Int)] rfl (Rd.new wr _ 1 1 #[.int .u8 (q:Int)] rfl h1max) (one_oneCell _ _) h63 (by omega) (by have:=hb.size;simp;omega) ?_);intro A3 c3 w3 ho3 hg3 hat3);go_roundw
   case rel=>
    refine⟨m / 128,k+1,c3,A3,pre++[d],by go_num,rfl,?_,?_,?_,?_⟩
    ·have:=ho3;rw[HQ.out,<-bv_one,<-bv_app,List.append_assoc] at this;exact this
    ·exact(hb.alloc hb.size _).trans (grown_below hg3 (by have:=hb.size;simp;omega) (own_lt HR2.out))
    ·obtain⟨e1,e2⟩:=hh.out;have e3:=HX.out;rw[e1,List.length_append,Pk.lay_more hm,List.length_cons] at e3;have:=Pk.lay_pos (m / 128);omega
    ·obtain⟨e1,e2⟩:=hh.out;exact⟨by rw[e1,Pk.lay_more hm,HD.out];simp,by simp[e2]⟩
   case measure=>simp[intOf];omega
  ·obtain⟨d,hd⟩:∃d,d=UInt8.ofNat m:=⟨_,rfl⟩;have hq:(d.toNat:Int)=m:=by rw[hd,Pk.toNat_ofNat (by omega)]
   have HD:=Hz_ hd;have HQ:=Hz_ hq;clear hd hq;go_wp2_with (at_builtin;go_must (refine wpList_append_rd _ rfl (.tmp 22) (.tmp 25) _ rfl w.heap.size 5 i0 _ 1 1 Tryz.underlying29 hi0 hz0 hz1 hz2 rfl (by decide) (.slice A' (n+k) c') (n+k) (bv (l++pre)) rfl (HR2.out.alloc _) (wr.heap.size+1) (some ⟨wr.heap.size,0,none⟩) 1 1 [.int .u8 (m:Int)] rfl (Rd.new wr _ 1 1 #[.int .u8 (m:Int)] rfl h1max) (one_oneCell _ _) h63 (by omega) (by have:=hb.size;simp;omega) ?_);intro A3 c3 w3 ho3 hg3 hat3);go_ret2;obtain⟨e1,e2⟩:=hh.out;have e3:Pk.lay x=pre++[d]:=by rw[e1,Pk.lay_small (by omega),HD.out]
   have e4:(Pk.lay x).length=k+1:=by rw[e3];simp[e2]
   rw[e4];refine⟨A3,c3,rfl,?_,?_⟩
   ·have:=ho3;rw[<-HQ.out,<-bv_one,<-bv_app,List.append_assoc,<-e3] at this;exact this
   ·exact(hb.alloc hb.size _).trans (grown_below hg3 (by have:=hb.size;simp;omega) (own_lt HR2.out))
theorem lay_len_max {m c:Nat} (h:m<=c) (hc:c<=maxLen):(Pk.lay m).length<=9:=Pk.lay_len9 (by unfold maxLen at hc;omega)
theorem appendRow_any (A A2:Option Addr) (n c m c2:Nat) (l r:List UInt8) (w:World) (hl:l.length=n) (hR:Rd w w.heap.size 1 A n c (bv l)) (hR2:Rd w w.heap.size 1 A2 m c2 (bv r)) (hn:n+9+m<=140737488355328):
  Calls Tryz.prog 105 #[.slice A n c,.slice A2 m c2] w fun e w'=>∃A' c',e=.returned (.slice A' (n+(Pk.lay m).length+m) c') /\
   w'.ownsRow w.heap.size 5 1 (.slice A' (n+(Pk.lay m).length+m) c') (n+(Pk.lay m).length+m) (bv (l++Pk.lay m++r))/\Below w.heap.size w w':=by
 obtain⟨i0,hi0,hz0,hz1,hz2⟩:=info_parts u8_info;have h9:=lay_len_max hR2.cap hR2.max;have H1:=Hz_ (appendNumber_any A n c m l w hl hR (by omega) h9);have HR2:=Hz_ hR2;clear hR hR2 hl;go_enter Tryz.func105,Tryz.ntmps105;go_wp2_with fail;refine H1.out.mono ?_;clear H1;rintro e w1 ⟨A1,c1,rfl,ho1,hb1⟩;have h63:n+(Pk.lay m).length+m<=maxLen:=by unfold maxLen;omega
 go_wp2_with (at_builtin;go_must (refine wpList_append_rd _ rfl (.tmp 14) (.tmp 15) _ rfl w.heap.size 5 i0 _ 1 1 Tryz.underlying29 hi0 hz0 hz1 hz2 rfl (by decide) _ _ _ rfl ho1 w.heap.size A2 m c2 (bv r) rfl (HR2.out.below hb1) (bv_oneCell r) h63 (by omega) hb1.size ?_);intro A3 c3 w3 ho3 hg3 hat3);go_ret;exact⟨A3,c3,rfl,by rw[bv_app];exact ho3,hb1.trans (grown_below hg3 hb1.size (own_lt ho1))⟩
def rowOf (l:List UInt8) (most:Int):List UInt8×Nat×Nat:=
 if most < 0 then ([],0,1) else
 if (Pk.num l 0 l).2.2≠0 then ([],0,(Pk.num l 0 l).2.2) else
 if most < ((Pk.num l 0 l).1:Int) then ([],0,4) else
 if (l.length:Int) - ((Pk.num l 0 l).2.1:Int) < ((Pk.num l 0 l).1:Int) then ([],0,5) else
 ((l.drop (Pk.num l 0 l).2.1).take (Pk.num l 0 l).1,(Pk.num l 0 l).2.1+(Pk.num l 0 l).1,0)
theorem number_is {A:Option Addr} {n c:Nat} {l:List UInt8} {w:World} {x k er:Nat} (h:Pk.num l 0 l=(x,k,er)) (hl:l.length=n) (hR:Rd w w.heap.size 1 A n c (bv l)):
  Calls Tryz.prog 120 #[.slice A n c] w fun e w'=>e=.returned (.tuple #[.int .i64 x,.int .i64 k,.int .i64 er])/\w=w':=by
 have:=number_any A n c l w hl hR;rw[h] at this;exact this
def RowRet (base:Nat) (w:World) (r:List UInt8×Nat×Nat) (e:Ending) (w':World):Prop:=
 ∃A' c',e=.returned (.tuple #[.slice A' r.1.length c',.int .i64 r.2.1,.int .i64 r.2.2])/\w'.ownsRow base 5 1 (.slice A' r.1.length c') r.1.length (bv r.1)/\Below base w w'
theorem RowRet.none_ (w:World) (er:Nat):RowRet w.heap.size w ([],0,er) (.returned (.tuple #[.slice none 0 0,.int .i64 0,.int .i64 er])) w:=
 ⟨none,0,rfl,World.ownsRow_nil _ _ _ _,Below.refl _ _⟩
theorem rowOf_neg {l:List UInt8} {most:Int} (h:most < 0):rowOf l most=([],0,1):=by rw[rowOf,if_pos h]
theorem rowOf_err {l:List UInt8} {most:Int} {x k er:Nat} (h:¬ most < 0) (hx:Pk.num l 0 l=(x,k,er)) (he:er≠0):rowOf l most=([],0,er):=by
 rw[rowOf,if_neg h,hx,if_pos he]
theorem rowOf_most {l:List UInt8} {most:Int} {x k:Nat} (h:¬ most < 0) (hx:Pk.num l 0 l=(x,k,0)) (hm:most < (x:Int)):rowOf l most=([],0,4):=by
 rw[rowOf,if_neg h,hx,if_neg (by simp),if_pos hm]
theorem rowOf_short {l:List UInt8} {most:Int} {x k:Nat} (h:¬ most < 0) (hx:Pk.num l 0 l=(x,k,0)) (hm:¬ most < (x:Int)) (hs:(l.length:Int) - (k:Int) < (x:Int)):rowOf l most=([],0,5):=by
 rw[rowOf,if_neg h,hx,if_neg (by simp),if_neg hm,if_pos hs]
theorem rowOf_ok {l:List UInt8} {most:Int} {x k:Nat} (h:¬ most < 0) (hx:Pk.num l 0 l=(x,k,0)) (hm:¬ most < (x:Int)) (hs:¬ (l.length:Int) - (k:Int) < (x:Int)):rowOf l most=((l.drop k).take x,k+x,0):=by
 rw[rowOf,if_neg h,hx,if_neg (by simp),if_neg hm,if_neg hs]
theorem row_any (A:Option Addr) (n c:Nat) (l:List UInt8) (most:Int) (w:World) (hl:l.length=n) (hR:Rd w w.heap.size 1 A n c (bv l)) (hn:n<=140737488355328):
  Calls Tryz.prog 129 #[.slice A n c,.int .i64 most] w (RowRet w.heap.size w (rowOf l most)):=by
 have hcap:=hR.cap;by_cases hneg:most < 0
 ·rw[rowOf_neg hneg];clear hR hl hcap;go_enter Tryz.func129,Tryz.ntmps129;go_wp2;go_ret3;exact RowRet.none_ w 1
 obtain⟨x,k,er,hx⟩:∃x k er,Pk.num l 0 l=(x,k,er):=⟨_,_,_,rfl⟩;have H1:=Hz_ (number_is hx hl hR);by_cases he:er=0
 ·subst he;obtain⟨b1,b2,b3,b4,b5⟩:=Pk.num_back hx;have hkn:k<=n:=by omega
  clear b4;by_cases hm:most < (x:Int)
  ·rw[rowOf_most hneg hx hm];clear hR hl hcap hx;go_enter Tryz.func129,Tryz.ntmps129;go_wp2_with (go_at_call 120;go_must (refine H1.out.mono ?_);rintro e w1 ⟨rfl,rfl⟩);go_ret3;exact RowRet.none_ w 4
  by_cases hs:(n:Int) - (k:Int) < (x:Int)
  ·rw[rowOf_short hneg hx hm (by rw[hl];exact hs)];clear hR hl hcap hx;go_enter Tryz.func129,Tryz.ntmps129;go_wp2_with (go_at_call 120;go_must (refine H1.out.mono ?_);rintro e w1 ⟨rfl,rfl⟩);go_ret3;exact RowRet.none_ w 5
  ·rw[rowOf_ok hneg hx hm (by rw[hl];exact hs)];have hkx:k+x<=n:=by omega
   have hcut:=hR.cut (k:=k) (m:=k+x) (by omega) hkx;rw[show k+x - k=x by omega,Nat.mul_one,Nat.mul_one,<-bv_drop,<-bv_take] at hcut;have hsl:∀W,(Instr.slice 29 (.slice A n c) (some (.int .i64 (k:Int))) (some (.int .i64 ((k:Int)+(x:Int)))) none).run Tryz.prog W=.ok (.slice (cutAt 1 A c k) x (c - k)) W:=fun W=>by
    have:=run_cut W 29 5 1 Tryz.underlying29 size_u8 A n c .i64 .i64 k ((k:Int)+x) k (k+x) rfl (by omega) (by omega) (by omega)
    rwa [show k+x - k=x by omega] at this
   have hlen:((l.drop k).take x).length=x:=by rw[List.length_take,List.length_drop];omega
   have H2:=Hz_ (clone_any _ _ _ _ w hcut (bv_oneCell _) (by omega));have HL:=Hz_ hlen;clear hR hl hx hcut hlen;go_enter Tryz.func129,Tryz.ntmps129;go_wp2_with (first | (go_at_call 120;go_must (refine H1.out.mono ?_);rintro e w1 ⟨rfl,rfl⟩) | (go_at_call 168;go_must (refine H2.out.mono ?_);rintro e w1 ⟨A',c',rfl,ho,hb⟩));go_ret3;have hlen:=HL.out;exact⟨A',c',by simp only[hlen];rfl,by simp only[hlen];exact ho,hb⟩
 ·rw[rowOf_err hneg hx he];have he':((er:Int) != 0)=true:=bne_iff_ne.2 (by omega);clear hR hl hcap hx;go_enter Tryz.func129,Tryz.ntmps129;go_wp2_with (go_at_call 120;go_must (refine H1.out.mono ?_);rintro e w1 ⟨rfl,rfl⟩);go_ret3;exact RowRet.none_ w er
theorem run_convert_rd {P:Program} {w:World} {B n c:Nat} {A:Option Addr} {l:List UInt8} (src e dst:TypeId) (hs:P.underlying src=some (.slice e)) (he:P.underlying e=some (.int .u8)) (hd:P.underlying dst=some .string)
  (hR:Rd w B 1 A n c (bv l)):(convert src dst (.slice A n c)).run P w=.ok (.string ⟨l.toArray⟩) w:=by
 have hln:l.length=n:=by have:=hR.len;rw[bv_len] at this;omega
 rcases A with _ | ad
 ·have hc0:=hR.nil rfl;have hcap:=hR.cap;obtain rfl:n=0:=by omega
  have hx:l=[]:=List.eq_nil_of_length_eq_zero hln;subst hx;exact run_convert_bytes_nil w src e hs he 0 c dst hd
 ·have hl:(loadCells ad n).run P w=.ok (bv l).toArray w:=by
   have:=run_loadCells_list (P:=P) w ad (bv l) (fun j v hj=>by
    rcases Nat.eq_zero_or_pos n with h0 | h0
    ·have hx:l=[]:=List.eq_nil_of_length_eq_zero (by omega);subst hx;simp[bv] at hj
    ·obtain⟨ad',h,_,hc⟩:=hR.at0 h0;injection h with h;subst h;exact hc j v hj)
   rwa [bv_len,hln] at this
  have e1:bv l=(l.map fun b=>(b.toNat:Int)).map (Value.int .u8):=by simp[bv]
  rw[e1] at hl;rw[run_convert_bytes_string w src dst e _ n c hs he hd,run_bytesToString w ad n c _ hl,foldl_push_bytes];simp[ByteArray.empty,ByteArray.emptyWithCapacity,Function.comp_def];rfl
theorem sameB_any (A A2:Option Addr) (n c m c2 B B2:Nat) (l r:List UInt8) (w:World) (hR:Rd w B 1 A n c (bv l)) (hR2:Rd w B2 1 A2 m c2 (bv r)):
  Calls Tryz.prog 11 #[.slice A n c,.slice A2 m c2] w fun e w'=>e=.returned (.bool (l == r))/\w=w':=by
 have h1:=run_convert_rd (P:=Tryz.prog) 29 5 9 Tryz.underlying29 Tryz.underlying5 Tryz.underlying9 hR;have h2:=run_convert_rd (P:=Tryz.prog) 29 5 9 Tryz.underlying29 Tryz.underlying5 Tryz.underlying9 hR2;clear hR hR2;go_enter Tryz.func11,Tryz.ntmps11;go_wp2;go_ret;exact⟨by simp,rfl⟩
end Go.Proofs.YtmbeahbgafkjfaaGreatDoor
