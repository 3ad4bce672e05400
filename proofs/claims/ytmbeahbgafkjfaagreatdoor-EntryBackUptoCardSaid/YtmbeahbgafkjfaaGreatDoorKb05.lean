/- Lemmas for the claim, layer 5. -/
import Derived.Test.YtmbeahbgafkjfaaGreatDoorKb04
set_option maxRecDepth 100000
set_option maxHeartbeats 16000000
namespace Go.Proofs.YtmbeahbgafkjfaaGreatDoor
def shF:Int→List Wr→Bool
 | _,[]=>true
 | last,w :: r=>((decide (0≤w.2.1) && decide (w.2.1≤255)) && Vc.right w.1) && (decide (last < w.2.1) && shF w.2.1 r)
theorem shF_rise:∀{l:List Wr} {last:Int},shF last l=true→rise last l=true
 | [],_,_=>rfl
 | w :: r,last,h=>by
  simp only[shF,Bool.and_eq_true] at h
  rw[rise,h.2.1,shF_rise h.2.2];rfl
theorem shF_drop (last:Int) (l:List Wr) (k:Nat) (h:k < l.length):shF last (l.drop k)=(((decide (0≤l[k].2.1) && decide (l[k].2.1≤255)) && Vc.right l[k].1) && (decide (last < l[k].2.1) && shF l[k].2.1 (l.drop (k+1)))):=by
 rw[List.drop_eq_getElem_cons h,shF]
def usedB:List Wq.Bd→Nat
 | []=>0
 | x :: r=>x.v.length+usedB r
theorem usedB_snoc (l:List Wq.Bd) (x:Wq.Bd):usedB (l++[x])=usedB l+x.v.length:=by
 induction l with
 | nil=>simp[usedB]
 | cons y r ih=>rw[List.cons_append,usedB,usedB,ih];omega
def newsB:List Int→List Wq.Bd→Bool
 | _,[]=>true
 | seen,x :: r=>(!seen.contains x.o && Wq.bdF x) && newsB (seen++[x.o]) r
theorem newsB_drop (seen:List Int) (l:List Wq.Bd) (k:Nat) (h:k < l.length):newsB seen (l.drop k)=((!seen.contains l[k].o && Wq.bdF l[k]) && newsB (seen++[l[k].o]) (l.drop (k+1))):=by
 rw[List.drop_eq_getElem_cons h,newsB]
def caF (l:List Wq.Bd) (room:Int):Bool:=(decide (0≤room) && (decide (room≤16777216) && decide (l.length≤256))) && (newsB [] l && decide ((usedB l:Int)≤room))
structure Vw where
 known:List Vc.St
 zones:List Zn
 held:List Wr
 bods:List Wq.Bd
 room:Int
def reachd (z:List Zn) (known:List Vc.St) (w:Wr):Bool:=hasB (reach z known w.2.1) w.1
def wantd (held:List Wr) (x:Wq.Bd):Bool:=match atO held x.o with
 | none=>false
 | some w=>decide (w.1=x.s) && !w.2.2
def ahead1 (known:List Vc.St) (x:Zn):Bool:=decide (standB (covB (Vc.cnt x.2) (Vc.cnt known)) (covB (Vc.cnt known) (Vc.cnt x.2))=1)
def vwF (v:Vw):Bool:=(fm (-1) v.known && (zF (-1) none v.zones && (shF (-1) v.held && caF v.bods v.room))) && (v.zones.all (ahead1 v.known) && (v.held.all (reachd v.zones v.known) && v.bods.all (wantd v.held)))
structure Sb where
 from_:Int
 int:List Sn.Sp
 ses:Int
 seq:Int
 live:Bool
 heard:Bool
 idle:Bool
def sbZ (s:Sb):Bool:=(decide (s.ses=0) && decide (s.seq=0)) && (!s.live && (!s.heard && !s.idle))
def sbF (last:Int) (s:Sb):Bool:=(decide (last < s.from_) && decide (s.from_≤63)) && ((!s.int.isEmpty && Sn.fmS (-2) s.int) && sbZ s)
def rstF:Int→List Sb→Bool
 | _,[]=>true
 | last,s :: r=>sbF last s && rstF s.from_ r
def restF (l:List Sb):Bool:=rstF (-1) l && decide (l.length≤16)
theorem rstF_drop (last:Int) (l:List Sb) (k:Nat) (h:k < l.length):rstF last (l.drop k)=(sbF last l[k] && rstF l[k].from_ (l.drop (k+1))):=by
 rw[List.drop_eq_getElem_cons h,rstF]
structure Ent where
 kind:Int
 note:Nt
 body:Wq.Bd
 from_:Int
 int:List Sn.Sp
 view:Vw
 subs:List Sb
def bareB (x:Wq.Bd):Bool:=decide (x.o=0) && (decide (x.s=(0,0)) && x.v.isEmpty)
def emptyN (n:Nt):Bool:=(n.s.isEmpty && n.e.isEmpty) && (n.b.isEmpty && n.w.isEmpty)
def blankV (v:Vw):Bool:=((v.known.isEmpty && v.zones.isEmpty) && (v.held.isEmpty && v.bods.isEmpty)) && decide (v.room=0)
def noSub (x:Ent):Bool:=decide (x.from_=0) && x.int.isEmpty
def noChk (x:Ent):Bool:=blankV x.view && x.subs.isEmpty
def ofWr (w:Wr) (x:Wq.Bd):Bool:=if w.2.2=true then bareB x else (Wq.bdF x && (decide (x.o=w.2.1) && decide (x.s=w.1)))
def entF (x:Ent):Bool:=
 if x.kind=1 then ntF x.note && (bareB x.body && (noSub x && noChk x))
 else if x.kind=2 then emptyN x.note && (Wq.bdF x.body && (noSub x && noChk x))
 else if x.kind=3 then (noSub x && noChk x) && (match x.note.w with
  | [w]=>ntF x.note && ofWr w x.body
  | _=>false)
 else if x.kind=4 then (emptyN x.note && (bareB x.body && noChk x)) && ((decide (0≤x.from_) && decide (x.from_≤63)) && Sn.fmS (-2) x.int)
 else if x.kind=5 then (emptyN x.note && (bareB x.body && noSub x)) && (vwF x.view && restF x.subs)
 else false
/-! ### Bytes -/
open Wq
def lI (n:Int):List UInt8:=Pk.lay n.toNat
def lZn (x:Zn):List UInt8:=lI x.1.1++(lI x.1.2++lV x.2)
def lHd (w:Wr):List UInt8:=lI w.2.1++(lI w.1.2++(lI w.1.1++lI (if w.2.2=true then 1 else 0)))
def lVw (v:Vw):List UInt8:=lV v.known++(Pk.lay v.zones.length++(v.zones.flatMap lZn++(Pk.lay v.held.length++(v.held.flatMap lHd++(Pk.lay v.bods.length++(v.bods.flatMap lB++lI v.room))))))
def lSb (s:Sb):List UInt8:=lI s.from_++lS s.int
def lEnt (x:Ent):List UInt8:=lI x.kind++(
 if x.kind=1 then lNt x.note
 else if x.kind=2 then lB x.body
 else if x.kind=3 then lNt x.note++(match x.note.w with
  | w :: _=>if w.2.2=true then [] else lB x.body
  | []=>[])
 else if x.kind=4 then lI x.from_++lS x.int
 else lVw x.view++(Pk.lay x.subs.length++x.subs.flatMap lSb))
end Go.Proofs.YtmbeahbgafkjfaaGreatDoor
namespace Go.Proofs.YtmbeahbgafkjfaaGreatDoor.Wq
def pRep {α:Type} (p:List UInt8→Option (α×List UInt8)):Nat→List UInt8→Option (List α×List UInt8)
 | 0,l=>some ([],l)
 | n+1,l=>match p l with
  | none=>none
  | some (x,r)=>match pRep p n r with
   | none=>none
   | some (v,q)=>some (x :: v,q)
theorem pRep_lay {α:Type} {p:List UInt8→Option (α×List UInt8)} {lay:α→List UInt8}:∀(v:List α) (r:List UInt8),(∀x∈v,∀r,p (lay x++r)=some (x,r))→pRep p v.length (v.flatMap lay++r)=some (v,r)
 | [],r,_=>rfl
 | x :: v,r,h=>by
  rw[List.flatMap_cons,List.append_assoc,List.length_cons,pRep,h x (List.mem_cons_self ..)]
  simp only
  rw[pRep_lay v r fun y hy=>h y (List.mem_cons_of_mem _ hy)]
theorem pRep_back {α:Type} {p:List UInt8→Option (α×List UInt8)} {lay:α→List UInt8} {Q:α→Prop} (hp:∀l x r,p l=some (x,r)→l=lay x++r∧Q x):∀(n:Nat) (l:List UInt8) (v:List α) (r:List UInt8),pRep p n l=some (v,r)→v.length=n∧l=v.flatMap lay++r∧∀x∈v,Q x
 | 0,l,v,r,h=>by
  rw[pRep] at h
  injection h with h
  injection h with h1 h2
  subst h1 h2
  exact⟨rfl,rfl,fun x hx=>by cases hx⟩
 | n+1,l,v,r,h=>by
  rw[pRep] at h
  split at h
  ·cases h
  ·rename_i x r1 h1
   split at h
   ·cases h
   ·rename_i v1 q h2
    injection h with h
    injection h with h3 h4
    subst h3 h4
    obtain⟨e1,q1⟩:=hp _ _ _ h1
    obtain⟨e2,e3,q2⟩:=pRep_back hp n _ _ _ h2
    refine⟨by rw[List.length_cons,e2],by rw[e1,e3,List.flatMap_cons,List.append_assoc],fun y hy=>?_⟩
    rcases List.mem_cons.1 hy with rfl | hy
    ·exact q1
    ·exact q2 y hy
def pTwo {α β:Type} (p:List UInt8→Option (α×List UInt8)) (q:List UInt8→Option (β×List UInt8)) (l:List UInt8):Option ((α×β)×List UInt8):=match p l with
 | none=>none
 | some (x,r)=>match q r with
  | none=>none
  | some (y,s)=>some ((x,y),s)
theorem pTwo_lay {α β:Type} {p:List UInt8→Option (α×List UInt8)} {q:List UInt8→Option (β×List UInt8)} {u v r:List UInt8} {x:α} {y:β} (h1:p (u++(v++r))=some (x,v++r)) (h2:q (v++r)=some (y,r)):pTwo p q ((u++v)++r)=some ((x,y),r):=by
 unfold pTwo
 rw[List.append_assoc,h1]
 simp only
 rw[h2]
theorem pTwo_back {α β:Type} {p:List UInt8→Option (α×List UInt8)} {q:List UInt8→Option (β×List UInt8)} {l r:List UInt8} {x:α} {y:β} (h:pTwo p q l=some ((x,y),r)):∃s,p l=some (x,s)∧q s=some (y,r):=by
 unfold pTwo at h
 split at h
 ·cases h
 ·rename_i a s h1
  split at h
  ·cases h
  ·rename_i b t h2
   injection h with h
   injection h with h3 h4
   injection h3 with h5 h6
   subst h4 h5 h6
   exact⟨s,h1,h2⟩
def pI (l:List UInt8):Option (Int×List UInt8):=match pN l with
 | none=>none
 | some (n,r)=>some ((n:Int),r)
theorem pI_lay {x:Int} (h:u63 x) (r:List UInt8):pI (lI x++r)=some (x,r):=by
 unfold pI lI
 rw[pN_layI h]
 simp only[Int.toNat_of_nonneg h.1]
theorem pI_back {l r:List UInt8} {x:Int} (h:pI l=some (x,r)):l=lI x++r∧u63 x:=by
 unfold pI at h
 split at h
 ·cases h
 ·rename_i n r1 h1
  injection h with h
  injection h with h2 h3
  subst h2 h3
  obtain⟨e,e2⟩:=pN_back h1
  exact⟨by unfold lI;rw[Int.toNat_natCast];exact e,by unfold u63;omega⟩
def pZn (l:List UInt8):Option (Zn×List UInt8):=match pTwo pI (pTwo pI pV) l with
 | none=>none
 | some ((lo,hi,v),r)=>some (((lo,hi),v),r)
def znC (x:Zn):Prop:=(u63 x.1.1∧u63 x.1.2)∧fm (-1) x.2=true∧cts x.2
theorem pZn_lay {x:Zn} (h:znC x) (r:List UInt8):pZn (lZn x++r)=some (x,r):=by
 obtain⟨⟨h1,h2⟩,h3,h4⟩:=h
 unfold pZn lZn
 rw[pTwo_lay (p:=pI) (q:=pTwo pI pV) (x:=x.1.1) (y:=(x.1.2,x.2)) (pI_lay h1 _) (pTwo_lay (pI_lay h2 _) (pV_lay h3 h4 r))]
theorem pZn_back {l:List UInt8} {x:Zn} {r:List UInt8} (h:pZn l=some (x,r)):l=lZn x++r∧znC x:=by
 unfold pZn at h
 split at h
 ·cases h
 ·rename_i lo hi v r1 h1
  injection h with h
  injection h with h2 h3
  subst h2 h3
  obtain⟨s,a1,a2⟩:=pTwo_back h1
  obtain⟨t,a3,a4⟩:=pTwo_back a2
  obtain⟨e1,q1⟩:=pI_back a1
  obtain⟨e2,q2⟩:=pI_back a3
  obtain⟨e3,q3,q4⟩:=pV_back a4
  exact⟨by unfold lZn;rw[e1,e2,e3];simp,⟨q1,q2⟩,q3,q4⟩
def pHd (l:List UInt8):Option (Wr×List UInt8):=match pTwo pI (pTwo pI (pTwo pI pI)) l with
 | none=>none
 | some ((o,n,c,g),r)=>if g=0 then some (((c,n),o,false),r) else if g=1 then some (((c,n),o,true),r) else none
def hdC (w:Wr):Prop:=u63 w.2.1∧u63 w.1.2∧u63 w.1.1
theorem u63_g (b:Bool):u63 (if b=true then 1 else 0):=by cases b<;>simp[u63]
theorem pHd_lay {w:Wr} (h:hdC w) (r:List UInt8):pHd (lHd w++r)=some (w,r):=by
 obtain⟨h1,h2,h3⟩:=h
 unfold pHd lHd
 rw[pTwo_lay (p:=pI) (x:=w.2.1) (y:=(w.1.2,w.1.1,(if w.2.2=true then (1:Int) else 0))) (pI_lay h1 _) (pTwo_lay (pI_lay h2 _) (pTwo_lay (pI_lay h3 _) (pI_lay (u63_g w.2.2) r)))]
 obtain⟨⟨c,n⟩,o,g⟩:=w
 cases g<;>simp
theorem pHd_back {l:List UInt8} {w:Wr} {r:List UInt8} (h:pHd l=some (w,r)):l=lHd w++r∧hdC w:=by
 unfold pHd at h
 split at h
 ·cases h
 ·rename_i o n c g r1 h1
  obtain⟨s,a1,a2⟩:=pTwo_back h1
  obtain⟨t,a3,a4⟩:=pTwo_back a2
  obtain⟨u,a5,a6⟩:=pTwo_back a4
  obtain⟨e1,q1⟩:=pI_back a1
  obtain⟨e2,q2⟩:=pI_back a3
  obtain⟨e3,q3⟩:=pI_back a5
  obtain⟨e4,q4⟩:=pI_back a6
  split at h
  ·rename_i hg
   injection h with h
   injection h with h2 h3
   subst h2 h3 hg
   exact⟨by unfold lHd;rw[e1,e2,e3,e4];simp,q1,q2,q3⟩
  ·split at h
   ·rename_i hg
    injection h with h
    injection h with h2 h3
    subst h2 h3 hg
    exact⟨by unfold lHd;rw[e1,e2,e3,e4];simp,q1,q2,q3⟩
   ·cases h
def pLst {α:Type} (p:List UInt8→Option (α×List UInt8)) (l:List UInt8):Option (List α×List UInt8):=match pN l with
 | none=>none
 | some (n,r)=>pRep p n r
theorem pLst_lay {α:Type} {p:List UInt8→Option (α×List UInt8)} {lay:α→List UInt8} {v:List α} (r:List UInt8) (hl:v.length < 9223372036854775808) (h:∀x∈v,∀r,p (lay x++r)=some (x,r)):pLst p ((Pk.lay v.length++v.flatMap lay)++r)=some (v,r):=by
 unfold pLst
 rw[List.append_assoc,pN_lay hl]
 exact pRep_lay v r h
theorem pLst_back {α:Type} {p:List UInt8→Option (α×List UInt8)} {lay:α→List UInt8} {Q:α→Prop} (hp:∀l x r,p l=some (x,r)→l=lay x++r∧Q x) {l r:List UInt8} {v:List α} (h:pLst p l=some (v,r)):l=(Pk.lay v.length++v.flatMap lay)++r∧(v.length < 9223372036854775808∧∀x∈v,Q x):=by
 unfold pLst at h
 split at h
 ·cases h
 ·rename_i n r1 h1
  obtain⟨e1,e2⟩:=pN_back h1
  obtain⟨a,b,c⟩:=pRep_back hp _ _ _ _ h
  subst a
  exact⟨by rw[e1,b,List.append_assoc],e2,c⟩
def pVw (l:List UInt8):Option (Vw×List UInt8):=match pTwo pV (pTwo (pLst pZn) (pTwo (pLst pHd) (pTwo (pLst pB) pI))) l with
 | none=>none
 | some ((k,z,h,b,m),r)=>some (⟨k,z,h,b,m⟩,r)
structure VwC (v:Vw):Prop where
 k:fm (-1) v.known=true∧cts v.known
 z:v.zones.length < 9223372036854775808∧∀x∈v.zones,znC x
 h:v.held.length < 9223372036854775808∧∀x∈v.held,hdC x
 b:v.bods.length < 9223372036854775808∧∀x∈v.bods,bdF x=true∧x.s.1 < 9223372036854775808
 r:u63 v.room
theorem pVw_lay {v:Vw} (h:VwC v) (r:List UInt8):pVw (lVw v++r)=some (v,r):=by
 have e:lVw v=lV v.known++((Pk.lay v.zones.length++v.zones.flatMap lZn)++((Pk.lay v.held.length++v.held.flatMap lHd)++((Pk.lay v.bods.length++v.bods.flatMap lB)++lI v.room))):=by unfold lVw;simp
 unfold pVw
 rw[e,pTwo_lay (p:=pV) (x:=v.known) (y:=(v.zones,v.held,v.bods,v.room)) (pV_lay h.k.1 h.k.2 _) (pTwo_lay (pLst_lay _ h.z.1 fun x hx r=>pZn_lay (h.z.2 x hx) r) (pTwo_lay (pLst_lay _ h.h.1 fun x hx r=>pHd_lay (h.h.2 x hx) r) (pTwo_lay (pLst_lay _ h.b.1 fun x hx r=>pB_lay (h.b.2 x hx).1 (h.b.2 x hx).2 r) (pI_lay h.r r))))]
theorem pVw_back {l r:List UInt8} {v:Vw} (h:pVw l=some (v,r)):l=lVw v++r∧VwC v:=by
 unfold pVw at h
 split at h
 ·cases h
 ·rename_i k z hd b m r1 h1
  injection h with h
  injection h with h2 h3
  subst h2 h3
  obtain⟨s,a1,a2⟩:=pTwo_back h1
  obtain⟨t,a3,a4⟩:=pTwo_back a2
  obtain⟨u,a5,a6⟩:=pTwo_back a4
  obtain⟨v,a7,a8⟩:=pTwo_back a6
  obtain⟨e1,q1⟩:=pV_back a1
  obtain⟨e2,q2⟩:=pLst_back (lay:=lZn) (Q:=znC) (fun _ _ _ h=>pZn_back h) a3
  obtain⟨e3,q3⟩:=pLst_back (lay:=lHd) (Q:=hdC) (fun _ _ _ h=>pHd_back h) a5
  obtain⟨e4,q4⟩:=pLst_back (lay:=lB) (Q:=fun x=>bdF x=true∧x.s.1 < 9223372036854775808) (fun _ _ _ h=>pB_back h) a7
  obtain⟨e5,q5⟩:=pI_back a8
  exact⟨by unfold lVw;rw[e1,e2,e3,e4,e5];simp,⟨q1,q2,q3,q4,q5⟩⟩
def pSb (l:List UInt8):Option (Sb×List UInt8):=match pTwo pI pS l with
 | none=>none
 | some ((f,i),r)=>some (⟨f,i,0,0,false,false,false⟩,r)
theorem pSb_lay {s:Sb} (h1:u63 s.from_) (h2:Sn.fmS (-2) s.int=true) (h3:sbZ s=true) (r:List UInt8):pSb (lSb s++r)=some (s,r):=by
 unfold pSb lSb
 rw[pTwo_lay (p:=pI) (q:=pS) (x:=s.from_) (y:=s.int) (pI_lay h1 _) (pS_lay h2 r)]
 obtain⟨f,i,a,b,c,d,e⟩:=s
 unfold sbZ at h3
 simp only[Bool.and_eq_true,decide_eq_true_eq,Bool.not_eq_true'] at h3
 obtain⟨⟨rfl,rfl⟩,rfl,rfl,rfl⟩:=h3
 rfl
theorem pSb_back {l r:List UInt8} {s:Sb} (h:pSb l=some (s,r)):l=lSb s++r∧(u63 s.from_∧Sn.fmS (-2) s.int=true):=by
 unfold pSb at h
 split at h
 ·cases h
 ·rename_i f i r1 h1
  injection h with h
  injection h with h2 h3
  subst h2 h3
  obtain⟨s,a1,a2⟩:=pTwo_back h1
  obtain⟨e1,q1⟩:=pI_back a1
  obtain⟨e2,q2⟩:=pS_back a2
  exact⟨by unfold lSb;rw[e1,e2];simp,q1,q2⟩
end Go.Proofs.YtmbeahbgafkjfaaGreatDoor.Wq
namespace Go.Proofs.YtmbeahbgafkjfaaGreatDoor.Wq
def bdz:Bd:=⟨0,(0,0),[]⟩
def ntz:Nt:=⟨[],[],[],[]⟩
def vw0:Vw:=⟨[],[],[],[],0⟩
theorem isEmpty_nil {α:Type} {l:List α} (h:l.isEmpty=true):l=[]:=List.isEmpty_iff.1 h
theorem bareB_is {x:Bd} (h:bareB x=true):x=bdz:=by
 unfold bareB at h
 simp only[Bool.and_eq_true,decide_eq_true_eq] at h
 obtain⟨o,s,v⟩:=x
 obtain⟨h1,h2,h3⟩:=h
 have:=isEmpty_nil h3
 simp only at h1 h2 this
 rw[h1,h2,this];rfl
theorem emptyN_is {x:Nt} (h:emptyN x=true):x=ntz:=by
 unfold emptyN at h
 simp only[Bool.and_eq_true] at h
 obtain⟨⟨h1,h2⟩,h3,h4⟩:=h
 obtain⟨a,b,c,d⟩:=x
 have:=isEmpty_nil h1
 have:=isEmpty_nil h2
 have:=isEmpty_nil h3
 have:=isEmpty_nil h4
 simp_all [ntz]
theorem blankV_is {x:Vw} (h:blankV x=true):x=vw0:=by
 unfold blankV at h
 simp only[Bool.and_eq_true,decide_eq_true_eq] at h
 obtain⟨⟨⟨h1,h2⟩,h3,h4⟩,h5⟩:=h
 obtain⟨a,b,c,d,e⟩:=x
 have:=isEmpty_nil h1
 have:=isEmpty_nil h2
 have:=isEmpty_nil h3
 have:=isEmpty_nil h4
 simp_all [vw0]
theorem noSub_is {x:Ent} (h:noSub x=true):x.from_=0∧x.int=[]:=by
 unfold noSub at h
 simp only[Bool.and_eq_true,decide_eq_true_eq] at h
 exact⟨h.1,isEmpty_nil h.2⟩
theorem noChk_is {x:Ent} (h:noChk x=true):x.view=vw0∧x.subs=[]:=by
 unfold noChk at h
 simp only[Bool.and_eq_true] at h
 exact⟨blankV_is h.1,isEmpty_nil h.2⟩
def pEnt (l:List UInt8):Option (Ent×List UInt8):=match pI l with
 | none=>none
 | some (k,r)=>
  if k=1 then match pNt r with
   | none=>none
   | some (n,q)=>some (⟨k,n,bdz,0,[],vw0,[]⟩,q)
  else if k=2 then match pB r with
   | none=>none
   | some (b,q)=>some (⟨k,ntz,b,0,[],vw0,[]⟩,q)
  else if k=3 then match pNt r with
   | none=>none
   | some (n,q)=>match n.w with
    | []=>some (⟨k,n,bdz,0,[],vw0,[]⟩,q)
    | w :: _=>if w.2.2=true then some (⟨k,n,bdz,0,[],vw0,[]⟩,q) else match pB q with
     | none=>none
     | some (b,s)=>some (⟨k,n,b,0,[],vw0,[]⟩,s)
  else if k=4 then match pTwo pI pS r with
   | none=>none
   | some ((f,i),q)=>some (⟨k,ntz,bdz,f,i,vw0,[]⟩,q)
  else if k=5 then match pTwo pVw (pLst pSb) r with
   | none=>none
   | some ((v,s),q)=>some (⟨k,ntz,bdz,0,[],v,s⟩,q)
  else some (⟨k,ntz,bdz,0,[],vw0,[]⟩,r)
def decE (l:List UInt8):Option Ent:=match pEnt l with
 | some (x,[])=>if entF x=true then some x else none
 | _=>none
structure EntC (x:Ent):Prop where
 n:ntC x.note
 b:x.body.s.1 < 9223372036854775808
 k:cts x.view.known
 z:∀y∈x.view.zones,cts y.2
 h:∀w∈x.view.held,w.1.1 < 9223372036854775808
 y:∀y∈x.view.bods,y.s.1 < 9223372036854775808
theorem shF_hd:∀{l:List Wr} {last:Int},shF last l=true→∀w∈l,0≤w.2.1∧w.2.1≤255∧0 < w.1.1∧0≤w.1.2∧w.1.2 < 64
 | [],_,_,w,hw=>by cases hw
 | x :: r,last,h,w,hw=>by
  rw[shF] at h
  simp only[Bool.and_eq_true,decide_eq_true_eq] at h
  rcases List.mem_cons.1 hw with rfl | hw
  ·obtain⟨⟨⟨h1,h2⟩,h3⟩,_⟩:=h
   obtain⟨a,b,c⟩:=(Vc.right_iff _).1 h3
   exact⟨h1,h2,a,b,c⟩
  ·exact shF_hd h.2.2 w hw
theorem shF_len:∀{l:List Wr} {last:Int},shF last l=true→-1≤last→(l.length:Int)≤255 - last∨l=[]
 | [],_,_,_=>Or.inr rfl
 | x :: r,last,h,hl=>by
  rw[shF] at h
  simp only[Bool.and_eq_true,decide_eq_true_eq] at h
  left
  rcases shF_len h.2.2 (by omega) with h1 | rfl
  ·rw[List.length_cons];omega
  ·rw[List.length_cons,List.length_nil];omega
theorem newsB_all:∀{l:List Bd} {seen:List Int},newsB seen l=true→∀x∈l,bdF x=true
 | [],_,_,x,hx=>by cases hx
 | y :: r,seen,h,x,hx=>by
  rw[newsB] at h
  simp only[Bool.and_eq_true] at h
  rcases List.mem_cons.1 hx with rfl | hx
  ·exact h.1.2
  ·exact newsB_all h.2 x hx
theorem zF_all:∀{l:List Zn} {e:Int} {p:Option (List Vc.St)},zF e p l=true→-1≤e→(∀x∈l,(0≤x.1.1∧x.1.1≤x.1.2∧x.1.2≤255)∧fm (-1) x.2=true)∧(l.length:Int)≤255 - e∨l=[]
 | [],_,_,_,_=>Or.inr rfl
 | y :: r,e,p,h,he=>by
  rw[zF,Bool.and_eq_true] at h
  obtain⟨h1,h2⟩:=h
  unfold zStep at h1
  simp only[Bool.and_eq_true,decide_eq_true_eq] at h1
  obtain⟨⟨a,b,c⟩,d,_⟩:=h1
  left
  rcases zF_all h2 (by omega) with ⟨h3,h4⟩ | rfl
  ·refine⟨fun x hx=>?_,by rw[List.length_cons];omega⟩
   rcases List.mem_cons.1 hx with rfl | hx
   ·exact⟨⟨by omega,b,c⟩,d⟩
   ·exact h3 x hx
  ·refine⟨fun x hx=>?_,by simp;omega⟩
   rw[List.mem_singleton] at hx
   subst hx
   exact⟨⟨by omega,b,c⟩,d⟩
theorem vwF_parts {v:Vw} (h:vwF v=true):fm (-1) v.known=true∧zF (-1) none v.zones=true∧shF (-1) v.held=true∧caF v.bods v.room=true:=by
 unfold vwF at h
 simp only[Bool.and_eq_true] at h
 exact⟨h.1.1,h.1.2.1,h.1.2.2.1,h.1.2.2.2⟩
theorem vwC_of {x:Ent} (h:vwF x.view=true) (hc:EntC x):VwC x.view:=by
 obtain⟨h1,h2,h3,h4⟩:=vwF_parts h
 unfold caF at h4
 simp only[Bool.and_eq_true,decide_eq_true_eq] at h4
 obtain⟨⟨r0,r1,r2⟩,r3,_⟩:=h4
 refine⟨⟨h1,hc.k⟩,?_,?_,⟨by omega,fun y hy=>⟨newsB_all r3 y hy,hc.y y hy⟩⟩,⟨r0,by omega⟩⟩
 ·rcases zF_all h2 (by omega) with ⟨a,b⟩ | e
  ·refine⟨by omega,fun y hy=>⟨⟨⟨(a y hy).1.1,?_⟩,⟨?_,?_⟩⟩,(a y hy).2,hc.z y hy⟩⟩<;>have:=(a y hy).1<;>omega
  ·rw[e];exact⟨by simp,fun y hy=>by cases hy⟩
 ·refine⟨?_,fun w hw=>?_⟩
  ·rcases shF_len h3 (by omega) with a | e
   ·omega
   ·rw[e];simp
  ·obtain⟨a,b,c,d,e⟩:=shF_hd h3 w hw
   exact⟨⟨a,by omega⟩,⟨d,by omega⟩,⟨by omega,hc.h w hw⟩⟩
theorem rstF_all:∀{l:List Sb} {last:Int},rstF last l=true→-1≤last→∀s∈l,u63 s.from_∧Sn.fmS (-2) s.int=true∧sbZ s=true
 | [],_,_,_,s,hs=>by cases hs
 | y :: r,last,h,hl,s,hs=>by
  rw[rstF,Bool.and_eq_true] at h
  obtain⟨h1,h2⟩:=h
  unfold sbF at h1
  simp only[Bool.and_eq_true,decide_eq_true_eq] at h1
  obtain⟨⟨a,b⟩,⟨_,c⟩,d⟩:=h1
  rcases List.mem_cons.1 hs with rfl | hs
  ·exact⟨⟨by omega,by omega⟩,c,d⟩
  ·exact rstF_all h2 (by omega) s hs
theorem decE_enc {x:Ent} (h:entF x=true) (hc:EntC x):decE (lEnt x)=some x:=by
 have hh:=h
 obtain⟨kind,note,body,from_,int,view,subs⟩:=x
 unfold entF at hh
 simp only at hh
 suffices hp:pEnt (lEnt ⟨kind,note,body,from_,int,view,subs⟩)=some (⟨kind,note,body,from_,int,view,subs⟩,[]) by
  unfold decE
  rw[hp]
  simp only
  rw[if_pos h]
 unfold pEnt lEnt
 by_cases k1:kind=1
 ·subst k1
  simp only[if_true,Bool.and_eq_true] at hh
  obtain⟨a,b,c,d⟩:=hh
  have e1:=bareB_is b
  obtain⟨e2,e3⟩:=noSub_is c
  obtain⟨e4,e5⟩:=noChk_is d
  simp only at e1 e2 e3 e4 e5
  subst e1 e2 e3 e4 e5
  rw[pI_lay (x:=1) (show Wq.u63 1 from ⟨by decide,by decide⟩)]
  simp only[if_true]
  have:=pNt_lay a hc.n []
  rw[List.append_nil] at this
  rw[this]
 ·by_cases k2:kind=2
  ·subst k2
   simp only[if_true,if_neg k1,Bool.and_eq_true] at hh
   obtain⟨a,b,c,d⟩:=hh
   have e1:=emptyN_is a
   obtain⟨e2,e3⟩:=noSub_is c
   obtain⟨e4,e5⟩:=noChk_is d
   simp only at e1 e2 e3 e4 e5
   subst e1 e2 e3 e4 e5
   rw[pI_lay (x:=2) (show Wq.u63 2 from ⟨by decide,by decide⟩)]
   simp only[if_true,if_neg k1]
   have:=pB_lay b hc.b []
   rw[List.append_nil] at this
   rw[this]
  ·by_cases k3:kind=3
   ·subst k3
    simp only[if_true,if_neg k1,if_neg k2,Bool.and_eq_true] at hh
    obtain⟨⟨c,d⟩,f⟩:=hh
    obtain⟨e2,e3⟩:=noSub_is c
    obtain⟨e4,e5⟩:=noChk_is d
    simp only at e2 e3 e4 e5
    subst e2 e3 e4 e5
    rw[pI_lay (x:=3) (show Wq.u63 3 from ⟨by decide,by decide⟩)]
    simp only[if_true,if_neg k1,if_neg k2]
    rcases hw:note.w with _ | ⟨w,r⟩
    ·rw[hw] at f;cases f
    ·rw[hw] at f
     rcases r with _ | ⟨w2,r⟩
     ·simp only[Bool.and_eq_true] at f
      obtain⟨a,b⟩:=f
      unfold ofWr at b
      simp only
      by_cases hg:w.2.2=true
      ·rw[if_pos hg] at b
       have e1:=bareB_is b
       subst e1
       rw[if_pos hg]
       have:=pNt_lay a hc.n []
       rw[this]
       simp only
       rw[hw]
       simp only
       rw[if_pos hg]
      ·rw[if_neg hg] at b
       simp only[Bool.and_eq_true,decide_eq_true_eq] at b
       rw[if_neg hg,pNt_lay a hc.n]
       simp only
       rw[hw]
       simp only
       rw[if_neg hg]
       have:=pB_lay b.1 hc.b []
       rw[List.append_nil] at this
       rw[this]
     ·cases f
   ·by_cases k4:kind=4
    ·subst k4
     simp only[if_true,if_neg k1,if_neg k2,if_neg k3,Bool.and_eq_true,decide_eq_true_eq] at hh
     obtain⟨⟨a,b,c⟩,⟨d1,d2⟩,d3⟩:=hh
     have e1:=emptyN_is a
     have e2:=bareB_is b
     obtain⟨e4,e5⟩:=noChk_is c
     simp only at e1 e2 e4 e5
     subst e1 e2 e4 e5
     rw[pI_lay (x:=4) (show Wq.u63 4 from ⟨by decide,by decide⟩)]
     simp only[if_true,if_neg k1,if_neg k2,if_neg k3]
     have:=pTwo_lay (p:=pI) (q:=pS) (r:=[]) (pI_lay (x:=from_) ⟨d1,by omega⟩ _) (pS_lay d3 [])
     rw[List.append_nil] at this
     rw[this]
    ·by_cases k5:kind=5
     ·subst k5
      simp only[if_true,if_neg k1,if_neg k2,if_neg k3,if_neg k4,Bool.and_eq_true] at hh
      obtain⟨⟨a,b,c⟩,d,e⟩:=hh
      have e1:=emptyN_is a
      have e2:=bareB_is b
      obtain⟨e4,e5⟩:=noSub_is c
      simp only at e1 e2 e4 e5
      subst e1 e2 e4 e5
      unfold restF at e
      simp only[Bool.and_eq_true,decide_eq_true_eq] at e
      rw[pI_lay (x:=5) (show Wq.u63 5 from ⟨by decide,by decide⟩)]
      simp only[if_true,if_neg k1,if_neg k2,if_neg k3,if_neg k4]
      have:=pTwo_lay (p:=pVw) (q:=pLst pSb) (r:=[]) (pVw_lay (vwC_of d hc) _) (pLst_lay (p:=pSb) (lay:=lSb) (v:=subs) [] (by omega) fun s hs r=>by
       obtain⟨f1,f2,f3⟩:=rstF_all e.1 (by omega) s hs
       exact pSb_lay f1 f2 f3 r)
      rw[List.append_nil] at this
      rw[this]
     ·simp only[if_neg k1,if_neg k2,if_neg k3,if_neg k4,if_neg k5] at hh
      cases hh
theorem decE_back {l:List UInt8} {x:Ent} (h:decE l=some x):l=lEnt x∧entF x=true:=by
 unfold decE at h
 split at h
 ·rename_i y hy
  split at h
  ·rename_i hf
   injection h with h
   subst h
   refine⟨?_,hf⟩
   unfold pEnt at hy
   split at hy
   ·cases hy
   ·rename_i k r hk
    obtain⟨ek,_⟩:=pI_back hk
    rw[ek]
    split at hy
    ·rename_i k1
     split at hy
     ·cases hy
     ·rename_i n q hn
      injection hy with hy
      injection hy with h1 h2
      subst h1 h2
      obtain⟨e1,_⟩:=pNt_back hn
      unfold lEnt
      simp only[k1,if_true]
      rw[e1,List.append_nil]
    ·rename_i k1
     split at hy
     ·rename_i k2
      split at hy
      ·cases hy
      ·rename_i n q hn
       injection hy with hy
       injection hy with h1 h2
       subst h1 h2
       obtain⟨e1,_⟩:=pB_back hn
       unfold lEnt
       simp only[if_neg k1,if_pos k2]
       rw[e1,List.append_nil]
     ·rename_i k2
      split at hy
      ·rename_i k3
       split at hy
       ·cases hy
       ·rename_i n q hn
        obtain⟨e1,_⟩:=pNt_back hn
        split at hy
        ·rename_i hw
         injection hy with hy
         injection hy with h1 h2
         subst h1 h2
         unfold lEnt
         simp only[if_neg k1,if_neg k2,if_pos k3,hw]
         rw[e1]
        ·rename_i w rr hw
         split at hy
         ·rename_i hg
          injection hy with hy
          injection hy with h1 h2
          subst h1 h2
          unfold lEnt
          simp only[if_neg k1,if_neg k2,if_pos k3,hw,if_pos hg]
          rw[e1]
         ·rename_i hg
          split at hy
          ·cases hy
          ·rename_i b s hb
           injection hy with hy
           injection hy with h1 h2
           subst h1 h2
           obtain⟨e2,_⟩:=pB_back hb
           unfold lEnt
           simp only[if_neg k1,if_neg k2,if_pos k3,hw,if_neg hg]
           rw[e1,e2,List.append_nil]
      ·rename_i k3
       split at hy
       ·rename_i k4
        split at hy
        ·cases hy
        ·rename_i f i q hn
         injection hy with hy
         injection hy with h1 h2
         subst h1 h2
         obtain⟨s,a1,a2⟩:=pTwo_back hn
         obtain⟨e1,_⟩:=pI_back a1
         obtain⟨e2,_⟩:=pS_back a2
         unfold lEnt
         simp only[if_neg k1,if_neg k2,if_neg k3,if_pos k4]
         rw[e1,e2,List.append_nil]
       ·rename_i k4
        split at hy
        ·rename_i k5
         split at hy
         ·cases hy
         ·rename_i v s q hn
          injection hy with hy
          injection hy with h1 h2
          subst h1 h2
          obtain⟨t,a1,a2⟩:=pTwo_back hn
          obtain⟨e1,_⟩:=pVw_back a1
          obtain⟨e2,_⟩:=pLst_back (lay:=lSb) (Q:=fun s=>u63 s.from_∧Sn.fmS (-2) s.int=true) (fun _ _ _ h=>pSb_back h) a2
          unfold lEnt
          simp only[if_neg k1,if_neg k2,if_neg k3,if_neg k4]
          rw[e1,e2,List.append_nil]
        ·rename_i k5
         injection hy with hy
         injection hy with h1 h2
         subst h1
         unfold entF at hf
         simp only[if_neg k1,if_neg k2,if_neg k3,if_neg k4,if_neg k5] at hf
         cases hf
  ·cases h
 ·cases h
end Go.Proofs.YtmbeahbgafkjfaaGreatDoor.Wq
namespace Go.Proofs.YtmbeahbgafkjfaaGreatDoor
open Go.RowKit
theorem span_info:(Tryz.prog.info? 63).map (fun i=>(i.zero,i.size,i.bytes))=some (some (.agg #[.int .i64 0,.int .i64 0]),2,16):=by kernel_rfl
def part (p:Nat→Bool) (lo o:Nat):Nat→Bool:=fun n=>p n || (decide (lo≤n) && decide (n < o))
theorem sameS_any (A D:Option Addr) (n c m d:Nat) (u v:List Vc.St) (w:World) (hl:u.length=n) (hl2:v.length=m) (hR:Rd w w.heap.size 2 A n c (sv u)) (hR2:Rd w w.heap.size 2 D m d (sv v)):
  Calls Tryz.prog 62 #[.slice A n c,.slice D m d] w fun e w'=>e=.returned (.bool (decide (u=v)))∧Below w.heap.size w w':=by
 have hmax:n≤9223372036854775807:=by have h1:=hR.cap;have h2:=hR.max;unfold maxLen at h2;omega
 by_cases hnm:n=m
 ·subst hnm
  go_enter Tryz.func62,Tryz.ntmps62
  go_wp2
  go_loopw [5] (fun i wr=>∃(k:Nat),k≤n∧i=.int .i64 k∧decide (u=v)=decide (u.drop k=v.drop k)∧Below w.heap.size w wr) (fun i _=>n - (intOf i).toNat)
  case atStart=>exact⟨0,by omega,rfl,rfl,Below.refl _ _⟩
  case round=>
   obtain⟨k,hk,rfl,hdd,hb⟩:=hrel
   by_cases hlt:k < n
   ·have hk1:k < u.length:=by omega
    have hk2:k < v.length:=by omega
    obtain⟨b,o,rfl,hab,h0,h1⟩:=(hR.below hb).stamp hl hlt
    obtain⟨b2,o2,rfl,hab2,h02,h12⟩:=(hR2.below hb).stamp hl2 hlt
    have HD:=Hz_ hdd
    have HE:=Hz_ (show u[k]=((u[k]'hk1).1,(u[k]'hk1).2) from rfl)
    have HE2:=Hz_ (show v[k]=((v[k]'hk2).1,(v[k]'hk2).2) from rfl)
    generalize (u[k]'hk1).1=sc at h0 HE
    generalize (u[k]'hk1).2=sn at h1 HE
    generalize (v[k]'hk2).1=tc at h02 HE2
    generalize (v[k]'hk2).2=tn at h12 HE2
    have HB:=Hz_ hb
    clear hdd hb hR hR2
    by_cases e1:sc=tc
    ·subst e1
     by_cases e2:sn=tn
     ·subst e2
      have HN:=Hz_ (dec_drop hk1 hk2 (by rw[HE.out,HE2.out]))
      go_wp2
      go_quiet (fail)
      go_wp2
      go_roundw
      case rel=>exact⟨k+1,by omega,by go_num,by rw[HD.out,HN.out],below_drewN HB.out _⟩
      case measure=>simp[intOf];omega
     ·have HN:=Hz_ (show decide (u=v)=false by
       rw[decide_eq_false_iff_not];intro h;subst h;exact e2 (congrArg Prod.snd (HE.out.symm.trans HE2.out)))
      go_wp2
      go_quiet (fail)
      go_wp2
      go_ret
      exact⟨by rw[HN.out];rfl,below_drewN HB.out _⟩
    ·have HN:=Hz_ (show decide (u=v)=false by
      rw[decide_eq_false_iff_not];intro h;subst h;exact e1 (congrArg Prod.fst (HE.out.symm.trans HE2.out)))
     go_wp2
     go_quiet (fail)
     go_wp2
     go_ret
     exact⟨by rw[HN.out];rfl,below_drewN HB.out _⟩
   ·obtain rfl:k=n:=by omega
    have HX:=Hz_ (show decide (u=v)=true by rw[hdd,List.drop_of_length_le (by omega),List.drop_of_length_le (by omega)];simp)
    clear hdd
    go_wp2
    go_ret
    exact⟨by rw[HX.out];rfl,hb⟩
 ·have HN:=Hz_ (show decide (u=v)=false by rw[decide_eq_false_iff_not];intro h;subst h;omega)
  have hne:¬ ((n:Int)=(m:Int)):=by omega
  go_enter Tryz.func62,Tryz.ntmps62
  go_wp2
  all_goals first
   | (exfalso;omega)
   | (go_ret;exact⟨by rw[HN.out];rfl,Below.refl _ _⟩)
theorem fmS_drop (e:Int) (l:List Sn.Sp) (k:Nat) (h:k < l.length):Sn.fmS e (l.drop k)=(decide (l[k].1≤l[k].2) && (decide (l[k].2≤255) && (decide (0≤l[k].1) && (decide (e+1 < l[k].1) && Sn.fmS l[k].2 (l.drop (k+1)))))):=by
 rw[List.drop_eq_getElem_cons h,Sn.fmS]
theorem formedS_any (A:Option Addr) (n c:Nat) (l:List Sn.Sp) (w:World) (hl:l.length=n) (hR:Rd w w.heap.size 2 A n c (sv l)):
  Calls Tryz.prog 41 #[.slice A n c] w fun e w'=>e=.returned (.bool (Sn.fmS (-2) l))∧Below w.heap.size w w':=by
 have hmax:n≤9223372036854775807:=by have h1:=hR.cap;have h2:=hR.max;unfold maxLen at h2;omega
 go_enter Tryz.func41,Tryz.ntmps41
 go_wp2
 go_loopw [3,8] (fun x i wr=>∃(k:Nat) (e:Int),k≤n∧i=.int .i64 k∧x=.int .i64 e∧-2≤e∧e≤255∧Below w.heap.size w wr∧Hid (Sn.fmS (-2) l=Sn.fmS e (l.drop k))) (fun _ i _=>n - (intOf i).toNat)
 case atStart=>exact⟨0,-2,by omega,rfl,rfl,by omega,by omega,Below.refl _ _,rfl⟩
 case round=>
  obtain⟨k,e,hk,rfl,rfl,he1,he2,hb,hf⟩:=hrel
  by_cases hlt:k < n
  ·have hkl:k < l.length:=by omega
   obtain⟨b,o,rfl,hab,h0,h1⟩:=(hR.below hb).stamp hl hlt
   have HD:=Hz_ (fmS_drop e l k hkl)
   generalize hlo:(l[k]'hkl).1=lo at h0 HD
   generalize hhi:(l[k]'hkl).2=hi at h1 HD
   have HB:=Hz_ (hb.alloc hb.size (.cells #[.int .i64 lo,.int .i64 hi] 63))
   have HF:=Hz_ (hf.out.trans HD.out)
   clear hlo hhi hb hf HD hR hl
   by_cases c1:lo≤hi
   ·by_cases c2:hi≤255
    ·by_cases c3:0≤lo
     ·by_cases c4:e+1 < lo
      ·have HN:=Hz_ (show Sn.fmS (-2) l=Sn.fmS hi (l.drop (k+1)) by rw[HF.out];simp[c1,c2,c3,c4])
       have d1:decide (lo > hi)=false:=by simp;omega
       have d2:decide (hi > 255)=false:=by simp;omega
       have d3:decide (lo < 0)=false:=by simp;omega
       go_wp2
       go_roundw
       case rel=>exact⟨k+1,hi,by omega,by go_num,rfl,by omega,by omega,HB.out,HN.out⟩
       case measure=>simp[intOf];omega
      ·have HN:=Hz_ (show Sn.fmS (-2) l=false by rw[HF.out];simp[c4])
       go_wp2
       go_ret
       exact⟨by rw[HN.out];rfl,HB.out⟩
     ·have HN:=Hz_ (show Sn.fmS (-2) l=false by rw[HF.out];simp[c3])
      have d3:decide (lo < 0)=true:=by simp;omega
      go_wp2
      go_ret
      exact⟨by rw[HN.out];rfl,HB.out⟩
    ·have HN:=Hz_ (show Sn.fmS (-2) l=false by rw[HF.out];simp[c2])
     have d3:decide (hi > 255)=true:=by simp;omega
     go_wp2
     go_ret
     exact⟨by rw[HN.out];rfl,HB.out⟩
   ·have HN:=Hz_ (show Sn.fmS (-2) l=false by rw[HF.out];simp[c1])
    have d3:decide (lo > hi)=true:=by simp;omega
    go_wp2
    go_ret
    exact⟨by rw[HN.out];rfl,HB.out⟩
  ·obtain rfl:k=n:=by omega
   have HN:=Hz_ (show Sn.fmS (-2) l=true by rw[hf.out,List.drop_of_length_le (by omega)];rfl)
   have HB:=Hz_ hb
   clear hb hf hR hl
   go_wp2
   go_ret
   exact⟨by rw[HN.out];rfl,HB.out⟩
theorem hasTest_any (lo hi x:Int) (Bx:Nat) (w:World) (hx:w.cell? ⟨Bx,0,none⟩=some (.int .i64 x)):
  Calls Tryz.prog 172 #[.agg #[.int .i64 lo,.int .i64 hi],.pointer (some ⟨Bx,0,none⟩)] w fun e w'=>e=.returned (.bool (decide (lo≤x) && decide (x≤hi)))∧Below w.heap.size w w':=by
 have hlt:=World.block_lt_of_cell? _ _ hx
 have hb:Below w.heap.size w (w.alloc (.cells #[.int .i64 lo,.int .i64 hi] 63)):=(Below.refl _ _).alloc (Nat.le_refl _) _
 by_cases c1:lo≤x
 ·have HX:=Hz_ (show (decide (lo≤x) && decide (x≤hi))=decide (x≤hi) by simp[c1])
  rw[HX.out]
  go_enter Tryz.func172,Tryz.ntmps172
  go_wp2
  go_ret
  exact⟨rfl,hb⟩
 ·have HX:=Hz_ (show (decide (lo≤x) && decide (x≤hi))=false by simp[c1])
  rw[HX.out]
  have hd:decide (lo≤x)=false:=by simpa using c1
  go_enter Tryz.func172,Tryz.ntmps172
  go_wp2
  go_ret
  exact⟨rfl,hb⟩
end Go.Proofs.YtmbeahbgafkjfaaGreatDoor
