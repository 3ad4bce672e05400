/- Lemmas, layer 3. -/
import Derived.Test.YtmbeahbgafkjfaaGreatDoorKp00
import Derived.Test.YtmbeahbgafkjfaaGreatDoorKp02
set_option linter.unusedSimpArgs false
set_option maxRecDepth 100000
set_option maxHeartbeats 16000000
open Go.Proofs.Tryz Go.RowKit
namespace Go.Proofs.YtmbeahbgafkjfaaGreatDoor
abbrev Wr:=Vc.St×Int×Bool
structure Nt where
 s:List Vc.St
 e:List Vc.St
 b:List Sn.Sp
 w:List Wr
def Yx (l:List Sn.Sp) (o:Int):Bool:=(decide (0<=o) && decide (o<=255)) && Sn.Xs l o
def wOk (e:List Vc.St) (b:List Sn.Sp) (last:Int) (w:Wr):Bool:=decide (last < w.2.1) && ((decide (0<=w.2.1) && decide (w.2.1<=255)) && (!Yx b w.2.1 && QD e w.1))
def ntW (e:List Vc.St) (b:List Sn.Sp):Int->List Wr->Bool
 | _,[]=>true
 | last,w :: r=>wOk e b last w && ntW e b w.2.1 r
theorem JgS (e:List Vc.St) (b:List Sn.Sp) (last:Int) (l:List Wr) (k:Nat) (h:k < l.length):ntW e b last (l.drop k)=(wOk e b last l[k] && ntW e b l[k].2.1 (l.drop (k+1))):=by
 rw[Eh h,ntW]
def Xj (u v:List Vc.St):Bool:=QL (Vc.Jz u) (Vc.Jz v)
def ntH (n:Nt):Bool:=fm (-1) n.s && (fm (-1) n.e && (Xj n.e n.s && Sn.Xp (-2) n.b))
def Yw (n:Nt):Bool:=ntH n && ntW n.e n.b (-1) n.w
def ZI (l:List Wr) (k:Nat):Int:=if h:k≠0/\k - 1 < l.length then (l[k - 1]'h.2).2.1 else -1
theorem YY (l:List Wr) (k:Nat) (h:k < l.length):ZI l (k+1)=l[k].2.1:=by
 unfold ZI;rw[dif_pos ⟨by omega,by simpa using h⟩];simp
theorem Ol (l:List Wr):ZI l 0=-1:=by unfold ZI;rw[dif_neg (by simp)]
theorem JiL (e:List Vc.St) (b:List Sn.Sp) (last:Int) (w:Wr):wOk e b last w=(QD e w.1 && ((decide (0<=w.2.1) && decide (w.2.1<=255)) && (!Yx b w.2.1 && decide (last < w.2.1)))):=by
 unfold wOk;cases QD e w.1<;>cases Yx b w.2.1<;>cases decide (last < w.2.1)<;>simp
def Xy (l:List Wr) (o:Int):Option Wr:=l.find? fun w=>decide (w.2.1=o)
def UY:Int->List Wr->Bool
 | _,[]=>true
 | last,w :: r=>decide (last < w.2.1) && UY w.2.1 r
theorem Ji9:∀(last:Int) (l:List Wr),UY last l=true->∀w∈l,last < w.2.1
 | _,[],_,w,hw=>by cases hw
 | last,x :: r,h,w,hw=>by
  rw[UY,Ea,Ej] at h;rcases EE.1 hw with rfl | hw
  ·exact h.1
  ·have:=Ji9 _ r h.2 w hw;omega
theorem Jfg:∀(last:Int) (l:List Wr),UY last l=true->∀i j (hi:i < j) (hj:j < l.length),(l[i]'(by omega)).2.1 < l[j].2.1
 | _,[],_,i,j,_,hj=>by simp at hj
 | last,x :: r,h,0,j+1,_,hj=>by
  rw[UY,Ea] at h;exact Ji9 _ r h.2 _ (En _)
 | last,x :: r,h,i+1,j+1,hi,hj=>by
  rw[UY,Ea] at h;exact Jfg _ r h.2 i j (by omega) (by simpa using hj)
theorem Jm1 {last:Int} {l:List Wr} (h:UY last l=true) {o:Int} {k:Nat} (hk:k < l.length) (ho:l[k].2.1=o):Xy l o=some l[k]:=by
 unfold Xy;rw[List.find?_eq_some_iff_getElem];refine⟨by simpa using ho,k,hk,rfl,fun j hj=>?_⟩;have:=Jfg last l h j k hj hk;simp;omega
theorem JfW {l:List Wr} {o:Int} {k:Nat} (h1:∀i (hi:i < l.length),i < k->l[i].2.1 < o) (h2:∀i (hi:i < l.length),k<=i->o < l[i].2.1):Xy l o=none:=by
 unfold Xy;rw[List.find?_eq_none];intro w hw;obtain⟨i,hi,rfl⟩:=Na hw;rcases FI i k with hlt | hge
 ·have:=h1 i hi hlt;simp;omega
 ·have:=h2 i hi hge;simp;omega
theorem JlI (l:List Wr) (o:Int) (k:Nat) (h:k < l.length):Xy (l.drop k) o=if l[k].2.1=o then some l[k] else Xy (l.drop (k+1)) o:=by
 unfold Xy;rw[Eh h,List.find?_cons];by_cases e:l[k].2.1=o<;>simp[e]
end Go.Proofs.YtmbeahbgafkjfaaGreatDoor
namespace Go.Proofs.YtmbeahbgafkjfaaGreatDoor.Wq
def sw (s:Int×Int):Int×Int:=(s.2,s.1)
theorem Jpj (v:List (Int×Int)):(v.map sw).map sw=v:=by
 rw[List.map_map];have:sw ∘ sw=id:=by funext s;rfl
 rw[this,List.map_id]
def pV (l:List UInt8):Option (List Vc.St×List UInt8):=match pN l with
 | none=>none
 | some (n,r)=>match pP n r with
  | none=>none
  | some (v,q)=>if fm (-1) (v.map sw)=true then some (v.map sw,q) else none
def lV (v:List Vc.St):List UInt8:=Pk.lay v.length++lP (v.map sw)
theorem Jh0:∀(last:Int) (v:List Vc.St),fm last v=true->-1<=last->(∀s∈v,0 < s.1/\last < s.2/\s.2 < 64)/\(v.length:Int)<=63 - last\/(v=[])
 | _,[],_,_=>.inr rfl
 | last,s :: r,h,hl=>by
  rw[fm,Ea,Ea,Ej,Vc.JT] at h;obtain⟨⟨h1,h2,h3⟩,h4,h5⟩:=h;refine .inl ?_;rcases Jh0 s.2 r h5 (by omega) with ⟨h6,h7⟩ | rfl
  ·refine⟨fun t ht=>?_,by rw[List.length_cons];omega⟩;rcases EE.1 ht with rfl | ht
   ·exact⟨h1,h4,h3⟩
   ·obtain⟨a,b,c⟩:=h6 t ht;exact⟨a,by omega,c⟩
  ·refine⟨fun t ht=>?_,by simp;omega⟩;rw[Ez] at ht;subst ht;exact⟨h1,h4,h3⟩
theorem JcJ {v:List Vc.St} (h:fm (-1) v=true):v.length<=64:=by
 rcases Jh0 (-1) v h (by omega) with ⟨_,h2⟩ | rfl
 ·omega
 ·simp
def cts (v:List Vc.St):Prop:=∀s∈v,s.1 < 9223372036854775808
theorem Jpo {v:List Vc.St} (h:fm (-1) v=true) (hc:cts v):∀s∈v.map sw,Ua s.1/\Ua s.2:=by
 intro s hs;obtain⟨t,ht,rfl⟩:=Gp.1 hs;rcases Jh0 (-1) v h (by omega) with ⟨h2,_⟩ | rfl
 ·obtain⟨a,b,c⟩:=h2 t ht;have:=hc t ht;exact⟨⟨by show 0<=t.2;omega,by show t.2 < _;omega⟩,⟨by show 0<=t.1;omega,this⟩⟩
 ·cases ht
theorem JeF {v:List Vc.St} (h:fm (-1) v=true) (hc:cts v) (r:List UInt8):pV (lV v++r)=some (v,r):=by
 have:=JcJ h;unfold pV lV;rw[Er,Jap (by omega)];simp only;have e:=Jhl (v.map sw) r (Jpo h hc);rw[Gl] at e;rw[e];simp only;rw[Jpj,Ei h]
def pW:Nat->List UInt8->Option (List Wr×List UInt8)
 | 0,l=>some ([],l)
 | n+1,l=>match pN l with
  | none=>none
  | some (o,r1)=>match pN r1 with
   | none=>none
   | some (a,r2)=>match pN r2 with
    | none=>none
    | some (b,r3)=>match pN r3 with
     | none=>none
     | some (g,r4)=>if 1 < g then none else match pW n r4 with
      | none=>none
      | some (v,t)=>some ((((b:Int),(a:Int)),(o:Int),decide (g=1)) :: v,t)
def gn (g:Bool):Nat:=if g then 1 else 0
def lW1 (w:Wr):List UInt8:=Pk.lay w.2.1.toNat++(Pk.lay w.1.2.toNat++(Pk.lay w.1.1.toNat++Pk.lay (gn w.2.2)))
def lW (v:List Wr):List UInt8:=v.flatMap lW1
theorem Jnv (w:Wr) (v:List Wr):lW (w :: v)=lW1 w++lW v:=by simp[lW]
def wU (w:Wr):Prop:=Ua w.2.1/\Ua w.1.2/\Ua w.1.1
theorem Jlg:∀(v:List Wr) (r:List UInt8),(∀w∈v,wU w)->pW v.length (lW v++r)=some (v,r)
 | [],r,_=>rfl
 | w :: v,r,h=>by
  obtain⟨h1,h2,h3⟩:=h w (by simp);have e1:=h1.1;have e2:=h2.1;have e3:=h3.1;rw[List.length_cons,pW,Jnv,lW1,Er,Er,Er,Er,Zj h1];simp only;rw[Zj h2];simp only;rw[Zj h3];simp only;rw[Jap (by unfold gn;split<;>omega)];simp only;rw[Ef (by unfold gn;split<;>omega),Jlg v r fun t ht=>h t (by simp[ht])];simp only[Fz e1,Fz e2,Fz e3];obtain⟨⟨c,n⟩,o,g⟩:=w;cases g<;>rfl
def pNt (l:List UInt8):Option (Nt×List UInt8):=match pV l with
 | none=>none
 | some (s,r1)=>match pV r1 with
  | none=>none
  | some (e,r2)=>match pS r2 with
   | none=>none
   | some (b,r3)=>match pN r3 with
    | none=>none
    | some (n,r4)=>match pW n r4 with
     | none=>none
     | some (w,r5)=>if Yw ⟨s,e,b,w⟩=true then some (⟨s,e,b,w⟩,r5) else none
def lNt (x:Nt):List UInt8:=lV x.s++(lV x.e++(lS x.b++(Pk.lay x.w.length++lW x.w)))
theorem Jeb {x:Nt} (h:Yw x=true):fm (-1) x.s=true/\fm (-1) x.e=true/\Sn.Xp (-2) x.b=true/\ntW x.e x.b (-1) x.w=true:=by
 unfold Yw ntH at h;simp only[Ea] at h;exact⟨h.1.1,h.1.2.1,h.1.2.2.2,h.2⟩
def ntC (x:Nt):Prop:=cts x.s/\cts x.e/\∀w∈x.w,w.1.1 < 9223372036854775808
theorem Jfd (e:List Vc.St) (b:List Sn.Sp):∀(last:Int) (l:List Wr),ntW e b last l=true->-1<=last->(∀w∈l,0<=w.2.1/\w.2.1<=255/\last < w.2.1/\0 < w.1.1/\0<=w.1.2/\w.1.2 < 64)/\((l.length:Int)<=255 - last\/l=[])
 | _,[],_,_=>⟨(fun w hw=>by cases hw),Or.inr rfl⟩
 | last,w :: r,h,hl=>by
  rw[ntW,Ea] at h;obtain⟨h1,h2⟩:=h;unfold wOk QD at h1;simp only[Ea,Ej] at h1;obtain⟨a1,⟨a2,a3⟩,_,a5,_⟩:=h1;obtain⟨b1,b2,b3⟩:=(Vc.JT _).1 a5;obtain⟨c1,c2⟩:=Jfd e b w.2.1 r h2 (by omega);refine⟨fun t ht=>?_,.inl ?_⟩
  ·rcases EE.1 ht with rfl | ht
   ·exact⟨a2,a3,a1,b1,b2,b3⟩
   ·obtain⟨d1,d2,d3,d4⟩:=c1 t ht;exact⟨d1,d2,by omega,d4⟩
  ·rw[List.length_cons];rcases c2 with c2 | rfl
   ·omega
   ·simp;omega
theorem Jm6 {e:List Vc.St} {b:List Sn.Sp} {l:List Wr} (h:ntW e b (-1) l=true):l.length<=256:=by
 rcases(Jfd e b (-1) l h (by omega)).2 with h2 | rfl
 ·omega
 ·simp
theorem Jpi {x:Nt} (h:Yw x=true) (hc:ntC x):∀w∈x.w,wU w:=by
 obtain⟨_,_,_,h4⟩:=Jeb h;intro w hw;obtain⟨a1,a2,a3,a4,a5,a6⟩:=(Jfd _ _ _ _ h4 (by omega)).1 w hw;exact⟨⟨a1,by omega⟩,⟨a5,by omega⟩,⟨by omega,hc.2.2 w hw⟩⟩
theorem Jfb {x:Nt} (h:Yw x=true) (hc:ntC x) (r:List UInt8):pNt (lNt x++r)=some (x,r):=by
 obtain⟨h1,h2,h3,h4⟩:=Jeb h;have hl:=Jm6 h4;unfold pNt lNt;rw[Er,JeF h1 hc.1];simp only;rw[Er,JeF h2 hc.2.1];simp only;rw[Er,JhZ h3];simp only;rw[Er,Jap (by omega)];simp only;rw[Jlg _ _ (Jpi h hc)];simp only;rw[Ei h]
structure Bd where
 o:Int
 s:Vc.St
 v:List UInt8
def bdF (x:Bd):Bool:=(decide (0<=x.o) && decide (x.o<=255)) && (Vc.right x.s && decide (x.v.length<=256))
theorem Zs (x:Bd):bdF x=true↔0<=x.o/\x.o<=255/\0 < x.s.1/\0<=x.s.2/\x.s.2 < 64/\x.v.length<=256:=by
 unfold bdF;rw[Ea,Ea,Ea,Vc.JT,Ej,Ej,Ej];constructor
 ·rintro⟨⟨a,b⟩,⟨c,d,e⟩,f⟩;exact⟨a,b,c,d,e,f⟩
 ·rintro⟨a,b,c,d,e,f⟩;exact⟨⟨a,b⟩,⟨c,d,e⟩,f⟩
def pB (l:List UInt8):Option (Bd×List UInt8):=match pN l with
 | none=>none
 | some (o,r1)=>match pN r1 with
  | none=>none
  | some (a,r2)=>match pN r2 with
   | none=>none
   | some (b,r3)=>match pR 256 r3 with
    | none=>none
    | some (v,r4)=>if bdF ⟨(o:Int),((b:Int),(a:Int)),v⟩=true then some (⟨(o:Int),((b:Int),(a:Int)),v⟩,r4) else none
def lB (x:Bd):List UInt8:=Pk.lay x.o.toNat++(Pk.lay x.s.2.toNat++(Pk.lay x.s.1.toNat++lR x.v))
theorem Jh1 {x:Bd} (h:bdF x=true) (hc:x.s.1 < 9223372036854775808) (r:List UInt8):pB (lB x++r)=some (x,r):=by
 obtain⟨a,b,c,d,e,f⟩:=(Zs x).1 h;unfold pB lB;rw[Er,Zj ⟨a,by omega⟩];simp only;rw[Er,Zj ⟨d,by omega⟩];simp only;rw[Er,Zj ⟨by omega,hc⟩];simp only;rw[JoJ f (by omega)];simp only[Fz a,Fz d,Fz (Int.le_of_lt c)];rw[Ei h]
end Go.Proofs.YtmbeahbgafkjfaaGreatDoor.Wq
namespace Go.Proofs.YtmbeahbgafkjfaaGreatDoor.Sn
def JdM (s:Sp):Option Sp:=if max s.1 0<=min s.2 255 then some (max s.1 0,min s.2 255) else none
def cut (l:List Sp):List Sp:=l.filterMap JdM
theorem Jmq (l:List Sp) (s:Sp):cut (l++[s])=cut l++(JdM s).toList:=by
 unfold cut;rw[List.filterMap_append];cases h:JdM s<;>simp[h]
def okS (s:Sp):Prop:=0<=s.1/\s.1<=s.2/\s.2<=255
theorem Jk4 {l:List Sp} {s:Sp} (h:s∈cut l):okS s:=by
 unfold cut at h;obtain⟨t,_,ht⟩:=List.mem_filterMap.1 h;unfold JdM at ht
 split at ht
 ·rename_i hc;injection ht with ht;subst ht;refine⟨?_,?_,?_⟩<;>simp only<;>omega
 ·cases ht
theorem Jnm (s:Sp) (o:Int) (h0:0<=o) (h1:o<=255):Xs (JdM s).toList o=(decide (s.1<=o) && decide (o<=s.2)):=by
 unfold JdM;split
 ·simp only[Option.toList_some,Xs,List.any_cons,List.any_nil,FN];rw[EM];simp;omega
 ·simp only[Option.toList_none,Xs,List.any_nil];rw[EM];simp;omega
theorem Jn0 (l:List Sp) (o:Int) (h0:0<=o) (h1:o<=255):Xs (cut l) o=Xs l o:=by
 induction l with
 | nil=>rfl
 | cons s r ih=>
  have e:cut (s :: r)=(JdM s).toList++cut r:=by
   unfold cut;cases h:JdM s<;>simp[h]
  rw[e,XI,Qi,ih,Jnm s o h0 h1]
def XJ (out:List Sp) (s:Sp):List Sp:=
 match out.getLast? with
 | some t=>if s.1<=t.2+1 then out.dropLast++[(t.1,max t.2 s.2)] else out++[s]
 | none=>[s]
theorem JaN (s:Sp):XJ [] s=[s]:=rfl
theorem KJ (u:List Sp) (t s:Sp):XJ (u++[t]) s=if s.1<=t.2+1 then u++[(t.1,max t.2 s.2)] else u++[t]++[s]:=by
 unfold XJ;simp
def put (l:List Sp):List Sp:=l.foldl XJ []
theorem Jda (l:List Sp) (s:Sp):put (l++[s])=XJ (put l) s:=by simp[put]
def JgN:List Sp->Prop
 | []=>True
 | s :: r=>(∀t∈r,s.1<=t.1)/\JgN r
theorem JkC {l:List Sp} {s:Sp} (h:JgN (l++[s])):JgN l/\∀t∈l,t.1<=s.1:=by
 induction l with
 | nil=>exact⟨trivial,fun t ht=>by cases ht⟩
 | cons x r ih=>
  obtain⟨h1,h2⟩:=h;obtain⟨h3,h4⟩:=ih h2;exact⟨⟨fun t ht=>h1 t (Fc _ ht),h3⟩,fun t ht=>by
   rcases EE.1 ht with rfl | ht
   ·exact h1 s (by simp)
   ·exact h4 t ht⟩
theorem Joy:∀(l:List Sp),(∀s∈l,okS s)->JgN l->Xp (-2) (put l)=true/\(∀o,Xs (put l) o=Xs l o)/\(∀t,(put l).getLast?=some t->(∃s∈l,t.1=s.1)/\∀s∈l,s.2<=t.2)/\(put l=[]->l=[]):=by
 intro l
 induction h:l.length generalizing l with
 | zero=>
  intro _ _;obtain rfl:=Ey h;exact⟨rfl,fun o=>rfl,(fun t ht=>by cases ht),fun _=>rfl⟩
 | succ n ih=>
  intro hok hris;obtain⟨r,s,rfl⟩:∃r s,l=r++[s]:=⟨_,_,(FS (by intro e;rw[e] at h;cases h)).symm⟩;have hr:r.length=n:=by simpa using h
  obtain⟨hris',hle⟩:=JkC hris;obtain⟨h1,h2,h3,h4⟩:=ih r hr (fun s hs=>hok s (Fc _ hs)) hris';obtain⟨a1,a2,a3⟩:=hok s (by simp);rw[Jda];rcases hp:(put r).getLast? with _ | t
  ·have hn:put r=[]:=by simpa using hp
   obtain rfl:=h4 hn;rw[hn,JaN];refine⟨by simp[Xp];omega,fun o=>by simp,fun t ht=>?_,fun h=>by cases h⟩;obtain rfl:s=t:=by simpa using ht
   exact⟨⟨s,by simp,rfl⟩,fun u hu=>by simp at hu;subst hu;exact Gt _⟩
  ·obtain⟨u,hu⟩:∃u,put r=u++[t]:=by
    have hne:put r≠[]:=by intro e;rw[e] at hp;cases hp
    refine⟨(put r).dropLast,?_⟩;have:=List.getLast?_eq_some_getLast hne;rw[hp] at this;injection this with this;rw[this];exact(FS hne).symm
   obtain⟨⟨s0,hs0,e0⟩,hmx⟩:=h3 t hp;have hts:t.1<=s.1:=by rw[e0];exact hle s0 hs0
   rw[hu] at h1 h2 ⊢;obtain⟨b1,b2,b3,b4,b5,b6⟩:=Ky.1 h1;rw[KJ];split
   ·rename_i hc;refine⟨Ky.2 ⟨b1,by simp only;omega,by simp only;omega,b4,b5,b6⟩,fun o=>?_,fun t' ht=>?_,fun h=>by simp at h⟩
    ·rw[XI,XI,<-h2 o,XI];simp only[Xs,List.any_cons,List.any_nil,FN];rw[EM];simp;constructor
     ·rintro(h | ⟨h,k⟩)
      ·exact .inl (.inl h)
      ·omega
     ·rintro((h | ⟨h,k⟩) | ⟨h,k⟩)
      ·exact .inl h
      ·right;omega
      ·right;omega
    ·obtain rfl:(t.1,max t.2 s.2)=t':=by simpa using ht
     refine⟨⟨s0,Fc _ hs0,e0⟩,fun v hv=>?_⟩;rcases EB.1 hv with hv | hv
     ·have:=hmx v hv;simp only;omega
     ·simp at hv;subst hv;simp only;omega
   ·rename_i hc;refine⟨Ky.2 ⟨h1,a2,a3,a1,fun t' ht=>?_,fun h=>by simp at h⟩,fun o=>?_,fun t' ht=>?_,fun h=>by simp at h⟩
    ·obtain rfl:t=t':=by simpa using ht
     omega
    ·rw[XI,h2 o,XI]
    ·obtain rfl:s=t':=by simpa using ht
     refine⟨⟨s,by simp,rfl⟩,fun v hv=>?_⟩;rcases EB.1 hv with hv | hv
     ·have:=hmx v hv;omega
     ·simp at hv;subst hv;exact Gt _
def YW (l:List Sp):List Sp:=of (Qp l)
theorem OM (l:List Sp):Xp (-2) (YW l)=true:=Zz _
theorem OH (l:List Sp) (o:Int) (h0:0<=o) (h1:o<=255):Xs (YW l) o=Xs l o:=by
 obtain⟨k,rfl⟩:=Fd h0;unfold YW;rw[JcC _ k (by omega)];rfl
theorem UI (l:List Sp):(YW l).length<=128:=XV (OM l)
theorem Jnd {l m:List Sp} (h:List.Perm l m) (o:Int):Xs l o=Xs m o:=by
 unfold Xs;rw[EM,NZ,NZ];exact⟨fun ⟨x,hx,hh⟩=>⟨x,h.mem_iff.1 hx,hh⟩,fun ⟨x,hx,hh⟩=>⟨x,h.mem_iff.2 hx,hh⟩⟩
theorem Jg5 {l c:List Sp} (hp:List.Perm (cut l) c) (hr:JgN c):put c=YW l:=by
 obtain⟨h1,h2,_,_⟩:=Joy c (fun s hs=>Jk4 (hp.mem_iff.2 hs)) hr;refine Jce h1 (OM l) fun o h0 h255=>?_;rw[h2,<-Jnd hp,Jn0 l o h0 h255,OH l o h0 h255]
end Go.Proofs.YtmbeahbgafkjfaaGreatDoor.Sn
namespace Go.Proofs.YtmbeahbgafkjfaaGreatDoor
theorem Jf1:∀(last:Int) (l:List Wr),UY last l=true↔(∀w∈l,last < w.2.1)/\l.Pairwise fun a b=>a.2.1 < b.2.1
 | last,[]=>by simp[UY]
 | last,x :: r=>by
  rw[UY,Ea,Ej,Jf1 x.2.1 r,Fp];constructor
  ·rintro⟨h1,h2,h3⟩;refine⟨fun w hw=>?_,h2,h3⟩;rcases EE.1 hw with rfl | hw
   ·exact h1
   ·have:=h2 w hw;omega
  ·rintro⟨h1,h2,h3⟩;exact⟨h1 x (by simp),h2,h3⟩
theorem JiB (e:List Vc.St) (b:List Sn.Sp):∀(last:Int) (l:List Wr),ntW e b last l=true↔UY last l=true/\∀w∈l,(0<=w.2.1/\w.2.1<=255)/\Yx b w.2.1=false/\QD e w.1=true
 | last,[]=>by simp[ntW,UY]
 | last,x :: r=>by
  rw[ntW,UY,Ea,Ea,JiB e b x.2.1 r];unfold wOk;simp only[Ea,Ej,Gv,EE,forall_eq_or_imp];constructor
  ·rintro⟨⟨a1,a2,a3,a4⟩,a5,a6⟩;exact⟨⟨a1,a5⟩,⟨a2,a3,a4⟩,a6⟩
  ·rintro⟨⟨a1,a5⟩,⟨a2,a3,a4⟩,a6⟩;exact⟨⟨a1,a2,a3,a4⟩,a5,a6⟩
def Xm (sp:List Sn.Sp) (l:List Wr):List Wr:=l.filter fun w=>Yx sp w.2.1
theorem Yu {v:List Vc.St} (h:fm (-1) v=true):v.length<=64:=by
 have:∀(last:Int) (v:List Vc.St),fm last v=true->-1<=last->(v.length:Int)<=63 - last\/v=[]:=by
  intro last v
  induction v generalizing last with
  | nil=>exact fun _ _=>.inr rfl
  | cons s r ih=>
   intro h hl;rw[fm,Ea,Ea,Ej,Vc.JT] at h;obtain⟨⟨h1,h2,h3⟩,h4,h5⟩:=h;refine .inl ?_;rcases ih s.2 h5 (by omega) with h6 | rfl
   ·rw[List.length_cons];omega
   ·simp;omega
 rcases this (-1) v h (by omega) with h | rfl
 ·omega
 ·simp
theorem Jey {e:List Vc.St} {b:List Sn.Sp} {l:List Wr} (h:ntW e b (-1) l=true):l.length<=256:=by
 have:∀(last:Int) (l:List Wr),ntW e b last l=true->-1<=last->(l.length:Int)<=255 - last\/l=[]:=by
  intro last l
  induction l generalizing last with
  | nil=>exact fun _ _=>.inr rfl
  | cons w r ih=>
   intro h hl;rw[ntW,Ea] at h;obtain⟨h1,h2⟩:=h;unfold wOk at h1;simp only[Ea,Ej] at h1;refine .inl ?_;rcases ih w.2.1 h2 (by omega) with h6 | rfl
   ·rw[List.length_cons];omega
   ·simp;omega
 rcases this (-1) l h (by omega) with h | rfl
 ·omega
 ·simp
abbrev Zn:=Sn.Sp×List Vc.St
def YP (e:Int) (p:Option (List Vc.St)) (x:Zn):Bool:=
 (decide (e < x.1.1) && (decide (x.1.1<=x.1.2) && decide (x.1.2<=255))) && (fm (-1) x.2 && !(decide (p=some x.2) && decide (x.1.1=e+1)))
def zF:Int->Option (List Vc.St)->List Zn->Bool
 | _,_,[]=>true
 | e,p,x :: r=>YP e p x && zF x.1.2 (some x.2) r
def Xg (o:Int) (x:Zn):Bool:=decide (x.1.1<=o) && decide (o<=x.1.2)
def Qd (z:List Zn) (known:List Vc.St) (o:Int):List Vc.St:=
 match z.find? (Xg o) with
 | some x=>x.2
 | none=>known
def KP (known:List Vc.St):Int->List Zn->List Zn
 | a,[]=>if a<=255 then [((a,255),known)] else []
 | a,x :: r=>(if a < x.1.1 then [((a,x.1.1 - 1),known)] else [])++x :: KP known (x.1.2+1) r
theorem Qo {e:Int} {p:Option (List Vc.St)} {x:Zn} (h:YP e p x=true):e < x.1.1/\x.1.1<=x.1.2/\x.1.2<=255/\fm (-1) x.2=true:=by
 unfold YP at h;simp only[Ea,Ej] at h;exact⟨h.1.1,h.1.2.1,h.1.2.2,h.2.1⟩
theorem Qc {o:Int} {x:Zn}:Xg o x=true↔x.1.1<=o/\o<=x.1.2:=by unfold Xg;simp
theorem Jew:∀{e:Int} {p:Option (List Vc.St)} {z:List Zn} {o:Int},zF e p z=true->o<=e->z.find? (Xg o)=none
 | _,_,[],_,_,_=>rfl
 | e,p,x :: r,o,h,ho=>by
  rw[zF,Ea] at h;obtain⟨h1,h2,h3,_⟩:=Qo h.1;rw[List.find?_cons,show Xg o x=false by unfold Xg;simp;omega];exact Jew h.2 (by omega)
theorem JbJ:∀{e:Int} {p:Option (List Vc.St)} {z:List Zn},zF e p z=true->∀x∈z,fm (-1) x.2=true
 | _,_,[],_,_,hx=>by cases hx
 | e,p,y :: r,h,x,hx=>by
  rw[zF,Ea] at h;rcases EE.1 hx with rfl | hx
  ·exact(Qo h.1).2.2.2
  ·exact JbJ h.2 x hx
theorem Jmh:∀{e:Int} {p:Option (List Vc.St)} {z:List Zn},zF e p z=true->-1<=e->(z.length:Int)<=255 - e\/z=[]
 | _,_,[],_,_=>.inr rfl
 | e,p,x :: r,h,he=>by
  rw[zF,Ea] at h;obtain⟨h1,h2,h3,_⟩:=Qo h.1;refine .inl ?_;rcases Jmh h.2 (by omega) with h4 | rfl
  ·rw[List.length_cons];omega
  ·simp;omega
theorem JcO {z:List Zn} (h:zF (-1) none z=true):z.length<=256:=by
 rcases Jmh h (by omega) with h | rfl
 ·omega
 ·simp
theorem Kk (known:List Vc.St):∀{e:Int} {p:Option (List Vc.St)} {z:List Zn},zF e p z=true->∀q∈KP known (e+1) z,(e < q.1.1/\q.1.1<=q.1.2/\q.1.2<=255)/\∀o,Xg o q=true->Qd z known o=q.2
 | e,p,[],_,q,hq=>by
  rw[KP] at hq
  split at hq
  ·rcases Ez.1 hq with rfl;exact⟨⟨by dsimp only;omega,by dsimp only;omega,by dsimp only;omega⟩,fun o _=>rfl⟩
  ·cases hq
 | e,p,x :: r,h,q,hq=>by
  rw[zF,Ea] at h;obtain⟨h1,h2,h3,_⟩:=Qo h.1;rw[KP,EB,EE] at hq;rcases hq with hq | rfl | hq
  ·split at hq
   ·rcases Ez.1 hq with rfl;refine⟨⟨by dsimp only;omega,by dsimp only;omega,by dsimp only;omega⟩,fun o ho=>?_⟩;have:=Qc.1 ho;dsimp only at this;unfold Qd;rw[List.find?_cons,show Xg o x=false by unfold Xg;simp;omega];dsimp only;rw[Jew h.2 (by omega)]
   ·cases hq
  ·refine⟨⟨h1,h2,h3⟩,fun o ho=>?_⟩;unfold Qd;rw[List.find?_cons,ho]
  ·obtain⟨⟨a1,a2,a3⟩,a4⟩:=Kk known h.2 q hq;refine⟨⟨by omega,a2,a3⟩,fun o ho=>?_⟩;rw[<-a4 o ho];have:=Qc.1 ho;unfold Qd;rw[List.find?_cons,show Xg o x=false by unfold Xg;simp;omega]
theorem Jjj (known:List Vc.St):∀{e:Int} {p:Option (List Vc.St)} {z:List Zn} {o:Int},zF e p z=true->e < o->o<=255->∃q∈KP known (e+1) z,Xg o q=true
 | e,p,[],o,_,h0,h1=>by
  rw[KP,Ei (by omega)];exact⟨_,Ez.2 rfl,Qc.2 ⟨by dsimp only;omega,h1⟩⟩
 | e,p,x :: r,o,h,h0,h1=>by
  rw[zF,Ea] at h;obtain⟨b1,b2,b3,_⟩:=Qo h.1;rw[KP];rcases NS o x.1.1 with c | c
  ·rw[Ei (by omega)];exact⟨_,Fc _ (Ez.2 rfl),Qc.2 ⟨by dsimp only;omega,by dsimp only;omega⟩⟩
  ·rcases NS x.1.2 o with d | d
   ·obtain⟨q,hq,hi⟩:=Jjj known h.2 d h1;exact⟨q,Np _ (ER _ hq),hi⟩
   ·exact⟨x,Np _ (EW ..),Qc.2 ⟨c,d⟩⟩
end Go.Proofs.YtmbeahbgafkjfaaGreatDoor
namespace Go.Proofs.YtmbeahbgafkjfaaGreatDoor.Sn
theorem ZO {e f:Int} {l:List Sp} (h:Xp f l=true) (he:e<=f):Xp e l=true:=by
 cases l with
 | nil=>rfl
 | cons s r=>
  obtain⟨h1,h2,h3,h4,h5⟩:=Qh.1 h;exact Qh.2 ⟨h1,h2,h3,by omega,h5⟩
def Kf (s t:Sp):List Sp:=if max s.1 t.1<=min s.2 t.2 then [(max s.1 t.1,min s.2 t.2)] else []
def mtg:List Sp->List Sp->List Sp
 | [],_=>[]
 | _ :: _,[]=>[]
 | s :: p,t :: q=>Kf s t++(if s.2 < t.2 then mtg p (t :: q) else mtg (s :: p) q)
termination_by x y=>x.length+y.length
theorem JeH (y:List Sp):mtg [] y=[]:=by rw[mtg]
theorem Jf2 (x:List Sp):mtg x []=[]:=by cases x<;>rw[mtg]
theorem Of (s t:Sp) (p q:List Sp):mtg (s :: p) (t :: q)=Kf s t++(if s.2 < t.2 then mtg p (t :: q) else mtg (s :: p) q):=by rw[mtg]
theorem Jjg (s t:Sp) (o:Int):Xs (Kf s t) o=((decide (s.1<=o) && decide (o<=s.2)) && (decide (t.1<=o) && decide (o<=t.2))):=by
 unfold Kf;split
 ·simp only[Xs,List.any_cons,List.any_nil,FN];rw[EM];simp;omega
 ·simp only[Xs,List.any_nil];rw[EM];simp;omega
theorem Joj:∀(n:Nat) (x y:List Sp),x.length+y.length=n->∀(e f:Int),Xp e x=true->Xp f y=true->Xp (max e f) (mtg x y)=true/\∀o,Xs (mtg x y) o=(Xs x o && Xs y o):=by
 intro n
 induction n with
 | zero=>
  intro x y hn e f _ _;obtain rfl:=Ey (show x.length=0 by omega);rw[JeH];exact⟨rfl,fun o=>by simp[Xs]⟩
 | succ n ih=>
  intro x y hn e f hx hy;rcases x with _ | ⟨s,p⟩
  ·rw[JeH];exact⟨rfl,fun o=>by simp[Xs]⟩
  ·rcases y with _ | ⟨t,q⟩
   ·rw[Jf2];exact⟨rfl,fun o=>by simp[Xs]⟩
   ·obtain⟨a1,a2,a3,a4,a5⟩:=Qh.1 hx;obtain⟨b1,b2,b3,b4,b5⟩:=Qh.1 hy;rw[Of];by_cases hc:s.2 < t.2
    ·rw[Ei hc];obtain⟨h1,h2⟩:=ih p (t :: q) (by simp only[List.length_cons] at hn ⊢;omega) s.2 f a5 hy;refine⟨?_,fun o=>?_⟩
     ·unfold Kf;split
      ·exact Qh.2 ⟨by simp only;omega,by simp only;omega,by simp only;omega,by simp only;omega,ZO h1 (by simp only;omega)⟩
      ·exact ZO h1 (by omega)
     ·rw[XI,h2,Jjg,Qi s,Qi t];have hq:=fun h=>JcX b5 o h;rw[EM];simp only[Bool.or_eq_true,Ea,Ej];constructor
      ·rintro(⟨h3,h4⟩ | ⟨h3,h4⟩)
       ·exact⟨.inl h3,.inl h4⟩
       ·exact⟨.inr h3,h4⟩
      ·rintro⟨h3 | h3,h4 | h4⟩
       ·exact .inl ⟨h3,h4⟩
       ·have:=hq h4;omega
       ·exact .inr ⟨h3,.inl h4⟩
       ·exact .inr ⟨h3,.inr h4⟩
    ·rw[Ef hc];obtain⟨h1,h2⟩:=ih (s :: p) q (by simp only[List.length_cons] at hn ⊢;omega) e t.2 hx b5;refine⟨?_,fun o=>?_⟩
     ·unfold Kf;split
      ·exact Qh.2 ⟨by simp only;omega,by simp only;omega,by simp only;omega,by simp only;omega,ZO h1 (by simp only;omega)⟩
      ·exact ZO h1 (by omega)
     ·rw[XI,h2,Jjg,Qi s,Qi t];have hp:=fun h=>JcX a5 o h;rw[EM];simp only[Bool.or_eq_true,Ea,Ej];constructor
      ·rintro(⟨h3,h4⟩ | ⟨h3,h4⟩)
       ·exact⟨.inl h3,.inl h4⟩
       ·exact⟨h3,.inr h4⟩
      ·rintro⟨h3 | h3,h4 | h4⟩
       ·exact .inl ⟨h3,h4⟩
       ·exact .inr ⟨.inl h3,h4⟩
       ·have:=hp h3;omega
       ·exact .inr ⟨.inr h3,h4⟩
def JbH (a b:List Sp):List Sp:=of fun o=>Qp a o && Qp b o
theorem Jle (a b:List Sp):mtg (YW a) (YW b)=JbH a b:=by
 obtain⟨h1,h2⟩:=Joj _ _ _ rfl _ _ (OM a) (OM b);refine Jce (ZO h1 (by omega)) (Zz _) fun o h0 h255=>?_;obtain⟨k,rfl⟩:=Fd h0;rw[h2,OH a _ h0 h255,OH b _ h0 h255,JbH,JcC _ k (by omega)];rfl
def rst:Int->List Sp->List Sp
 | from_,[]=>if from_<=255 then [(from_,255)] else []
 | from_,s :: r=>(if from_ < s.1 then [(from_,s.1 - 1)] else [])++rst (s.2+1) r
theorem Jou:∀(l:List Sp) (e f:Int),Xp e l=true->f<=e+2->0<=f->Xp (f - 2) (rst f l)=true/\∀o,0<=o->o<=255->Xs (rst f l) o=(decide (f<=o) && !Xs l o):=by
 intro l
 induction l with
 | nil=>
  intro e f _ _ h0;rw[rst];split
  ·exact⟨by simp[Xp];omega,fun o _ h=>by simp[Xs,h]⟩
  ·exact⟨rfl,fun o _ h=>by simp[Xs];omega⟩
 | cons s r ih=>
  intro e f h hf h0;obtain⟨a1,a2,a3,a4,a5⟩:=Qh.1 h;obtain⟨h1,h2⟩:=ih s.2 (s.2+1) a5 (by omega) (by omega);rw[rst];refine⟨?_,fun o ho h255=>?_⟩
  ·split
   ·exact Qh.2 ⟨by simp only;omega,by simp only;omega,by simp only;omega,by simp only;omega,ZO h1 (by simp only;omega)⟩
   ·exact ZO h1 (by omega)
  ·rw[XI,h2 o ho h255,Qi];have hr:=fun h=>JcX a5 o h;rcases hb:Xs r o with _ | _
   ·split
    ·simp only[Xs,List.any_cons,List.any_nil,FN];rw[EM];simp;omega
    ·simp only[Xs,List.any_nil];rw[EM];simp;omega
   ·have:=hr hb;split
    ·simp only[Xs,List.any_cons,List.any_nil,FN];rw[EM];simp;omega
    ·simp[Xs]
def Ko (l:List Sp):List Sp:=of fun o=>!Qp l o
theorem Jmz (l:List Sp):rst 0 (YW l)=Ko l:=by
 obtain⟨h1,h2⟩:=Jou (YW l) (-2) 0 (OM l) (by omega) (by omega);refine Jce h1 (Zz _) fun o h0 h255=>?_;obtain⟨k,rfl⟩:=Fd h0;rw[h2 _ h0 h255,OH l _ h0 h255,Ko,JcC _ k (by omega),Eu h0,Fb];rfl
theorem JkZ (p:Nat->Bool) (o:Nat) (h:o < 256):Qp (of p) o=p o:=JcC p o h
def JiK (a b:List Sp):List Sp:=of fun o=>Qp a o && !Qp b o
theorem JjS (a b:List Sp):JbH a (Ko b)=JiK a b:=Jk2 fun o ho=>by rw[Ko,JkZ _ o ho]
theorem Jow {e:Int} {l:List Sp} (h:Xp e l=true):∀s∈l,okS s:=by
 induction l generalizing e with
 | nil=>intro s hs;cases hs
 | cons t r ih=>
  obtain⟨a1,a2,a3,a4,a5⟩:=Qh.1 h;intro s hs;rcases EE.1 hs with rfl | hs
  ·exact⟨a3,a1,a2⟩
  ·exact ih a5 s hs
end Go.Proofs.YtmbeahbgafkjfaaGreatDoor.Sn
namespace Go.Proofs.YtmbeahbgafkjfaaGreatDoor
def Xu:Int->List Wr->Bool
 | _,[]=>true
 | last,w :: r=>((decide (0<=w.2.1) && decide (w.2.1<=255)) && Vc.right w.1) && (decide (last < w.2.1) && Xu w.2.1 r)
theorem JcA:∀{l:List Wr} {last:Int},Xu last l=true->UY last l=true
 | [],_,_=>rfl
 | w :: r,last,h=>by
  simp only[Xu,Ea] at h;rw[UY,h.2.1,JcA h.2.2];rfl
theorem JgC (last:Int) (l:List Wr) (k:Nat) (h:k < l.length):Xu last (l.drop k)=(((decide (0<=l[k].2.1) && decide (l[k].2.1<=255)) && Vc.right l[k].1) && (decide (last < l[k].2.1) && Xu l[k].2.1 (l.drop (k+1)))):=by
 rw[Eh h,Xu]
def JC:List Wq.Bd->Nat
 | []=>0
 | x :: r=>x.v.length+JC r
theorem Jid (l:List Wq.Bd) (x:Wq.Bd):JC (l++[x])=JC l+x.v.length:=by
 induction l with
 | nil=>simp[JC]
 | cons y r ih=>rw[List.cons_append,JC,JC,ih];omega
def Qz:List Int->List Wq.Bd->Bool
 | _,[]=>true
 | Xm,x :: r=>(!Xm.contains x.o && Wq.bdF x) && Qz (Xm++[x.o]) r
theorem Jco (Xm:List Int) (l:List Wq.Bd) (k:Nat) (h:k < l.length):Qz Xm (l.drop k)=((!Xm.contains l[k].o && Wq.bdF l[k]) && Qz (Xm++[l[k].o]) (l.drop (k+1))):=by
 rw[Eh h,Qz]
def caF (l:List Wq.Bd) (room:Int):Bool:=(decide (0<=room) && (decide (room<=16777216) && decide (l.length<=256))) && (Qz [] l && decide ((JC l:Int)<=room))
structure Vw where
 known:List Vc.St
 zones:List Zn
 held:List Wr
 bods:List Wq.Bd
 room:Int
def Ue (z:List Zn) (known:List Vc.St) (w:Wr):Bool:=QD (Qd z known w.2.1) w.1
def JV (held:List Wr) (x:Wq.Bd):Bool:=match Xy held x.o with
 | none=>false
 | some w=>decide (w.1=x.s) && !w.2.2
def QU (known:List Vc.St) (x:Zn):Bool:=decide (Oj (QL (Vc.Jz x.2) (Vc.Jz known)) (QL (Vc.Jz known) (Vc.Jz x.2))=1)
def Ut (v:Vw):Bool:=(fm (-1) v.known && (zF (-1) none v.zones && (Xu (-1) v.held && caF v.bods v.room))) && (v.zones.all (QU v.known) && (v.held.all (Ue v.zones v.known) && v.bods.all (JV v.held)))
structure Sb where
 from_:Int
 int:List Sn.Sp
 ses:Int
 seq:Int
 live:Bool
 heard:Bool
 idle:Bool
def sbZ (s:Sb):Bool:=(decide (s.ses=0) && decide (s.seq=0)) && (!s.live && (!s.heard && !s.idle))
def sbF (last:Int) (s:Sb):Bool:=(decide (last < s.from_) && decide (s.from_<=63)) && ((!s.int.isEmpty && Sn.Xp (-2) s.int) && sbZ s)
def QS:Int->List Sb->Bool
 | _,[]=>true
 | last,s :: r=>sbF last s && QS s.from_ r
def Qy (l:List Sb):Bool:=QS (-1) l && decide (l.length<=16)
theorem Jeq (last:Int) (l:List Sb) (k:Nat) (h:k < l.length):QS last (l.drop k)=(sbF last l[k] && QS l[k].from_ (l.drop (k+1))):=by
 rw[Eh h,QS]
structure Qw where
 kind:Int
 note:Nt
 body:Wq.Bd
 from_:Int
 int:List Sn.Sp
 view:Vw
 subs:List Sb
def XK (x:Wq.Bd):Bool:=decide (x.o=0) && (decide (x.s=(0,0)) && x.v.isEmpty)
def Ya (n:Nt):Bool:=(n.s.isEmpty && n.e.isEmpty) && (n.b.isEmpty && n.w.isEmpty)
def UT (v:Vw):Bool:=((v.known.isEmpty && v.zones.isEmpty) && (v.held.isEmpty && v.bods.isEmpty)) && decide (v.room=0)
def ZE (x:Qw):Bool:=decide (x.from_=0) && x.int.isEmpty
def ZB (x:Qw):Bool:=UT x.view && x.subs.isEmpty
def Jbj (w:Wr) (x:Wq.Bd):Bool:=if w.2.2=true then XK x else (Wq.bdF x && (decide (x.o=w.2.1) && decide (x.s=w.1)))
def Xd (x:Qw):Bool:=
 if x.kind=1 then Yw x.note && (XK x.body && (ZE x && ZB x))
 else if x.kind=2 then Ya x.note && (Wq.bdF x.body && (ZE x && ZB x))
 else if x.kind=3 then (ZE x && ZB x) && (match x.note.w with
  | [w]=>Yw x.note && Jbj w x.body
  | _=>false)
 else if x.kind=4 then (Ya x.note && (XK x.body && ZB x)) && ((decide (0<=x.from_) && decide (x.from_<=63)) && Sn.Xp (-2) x.int)
 else if x.kind=5 then (Ya x.note && (XK x.body && ZE x)) && (Ut x.view && Qy x.subs)
 else false
/-! ### Bytes -/
open Wq
def lI (n:Int):List UInt8:=Pk.lay n.toNat
def lZn (x:Zn):List UInt8:=lI x.1.1++(lI x.1.2++lV x.2)
def lHd (w:Wr):List UInt8:=lI w.2.1++(lI w.1.2++(lI w.1.1++lI (if w.2.2=true then 1 else 0)))
def lVw (v:Vw):List UInt8:=lV v.known++(Pk.lay v.zones.length++(v.zones.flatMap lZn++(Pk.lay v.held.length++(v.held.flatMap lHd++(Pk.lay v.bods.length++(v.bods.flatMap lB++lI v.room))))))
def lSb (s:Sb):List UInt8:=lI s.from_++lS s.int
def Jfv (x:Qw):List UInt8:=lI x.kind++(
 if x.kind=1 then lNt x.note
 else if x.kind=2 then lB x.body
 else if x.kind=3 then lNt x.note++(match x.note.w with
  | w :: _=>if w.2.2=true then [] else lB x.body
  | []=>[])
 else if x.kind=4 then lI x.from_++lS x.int
 else lVw x.view++(Pk.lay x.subs.length++x.subs.flatMap lSb))
end Go.Proofs.YtmbeahbgafkjfaaGreatDoor
namespace Go.Proofs.YtmbeahbgafkjfaaGreatDoor.Wq
def JmL {α:Type} (p:List UInt8->Option (α×List UInt8)):Nat->List UInt8->Option (List α×List UInt8)
 | 0,l=>some ([],l)
 | n+1,l=>match p l with
  | none=>none
  | some (x,r)=>match JmL p n r with
   | none=>none
   | some (v,q)=>some (x :: v,q)
theorem Jf8 {α:Type} {p:List UInt8->Option (α×List UInt8)} {lay:α->List UInt8}:∀(v:List α) (r:List UInt8),(∀x∈v,∀r,p (lay x++r)=some (x,r))->JmL p v.length (v.flatMap lay++r)=some (v,r)
 | [],r,_=>rfl
 | x :: v,r,h=>by
  rw[Gu,Er,List.length_cons,JmL,h x (EW ..)];simp only;rw[Jf8 v r fun y hy=>h y (ER _ hy)]
def Jag {α β:Type} (p:List UInt8->Option (α×List UInt8)) (q:List UInt8->Option (β×List UInt8)) (l:List UInt8):Option ((α×β)×List UInt8):=match p l with
 | none=>none
 | some (x,r)=>match q r with
  | none=>none
  | some (y,s)=>some ((x,y),s)
theorem Xk {α β:Type} {p:List UInt8->Option (α×List UInt8)} {q:List UInt8->Option (β×List UInt8)} {u v r:List UInt8} {x:α} {y:β} (h1:p (u++(v++r))=some (x,v++r)) (h2:q (v++r)=some (y,r)):Jag p q ((u++v)++r)=some ((x,y),r):=by
 unfold Jag;rw[Er,h1];simp only;rw[h2]
def pI (l:List UInt8):Option (Int×List UInt8):=match pN l with
 | none=>none
 | some (n,r)=>some ((n:Int),r)
theorem Yn {x:Int} (h:Ua x) (r:List UInt8):pI (lI x++r)=some (x,r):=by
 unfold pI lI;rw[Zj h];simp only[Fz h.1]
def pZn (l:List UInt8):Option (Zn×List UInt8):=match Jag pI (Jag pI pV) l with
 | none=>none
 | some ((lo,hi,v),r)=>some (((lo,hi),v),r)
def znC (x:Zn):Prop:=(Ua x.1.1/\Ua x.1.2)/\fm (-1) x.2=true/\cts x.2
theorem Jnb {x:Zn} (h:znC x) (r:List UInt8):pZn (lZn x++r)=some (x,r):=by
 obtain⟨⟨h1,h2⟩,h3,h4⟩:=h;unfold pZn lZn;rw[Xk (p:=pI) (q:=Jag pI pV) (x:=x.1.1) (y:=(x.1.2,x.2)) (Yn h1 _) (Xk (Yn h2 _) (JeF h3 h4 r))]
def pHd (l:List UInt8):Option (Wr×List UInt8):=match Jag pI (Jag pI (Jag pI pI)) l with
 | none=>none
 | some ((o,n,c,g),r)=>if g=0 then some (((c,n),o,false),r) else if g=1 then some (((c,n),o,true),r) else none
def hdC (w:Wr):Prop:=Ua w.2.1/\Ua w.1.2/\Ua w.1.1
theorem Jo3 (b:Bool):Ua (if b=true then 1 else 0):=by cases b<;>simp[Ua]
theorem JmP {w:Wr} (h:hdC w) (r:List UInt8):pHd (lHd w++r)=some (w,r):=by
 obtain⟨h1,h2,h3⟩:=h;unfold pHd lHd;rw[Xk (p:=pI) (x:=w.2.1) (y:=(w.1.2,w.1.1,(if w.2.2=true then (1:Int) else 0))) (Yn h1 _) (Xk (Yn h2 _) (Xk (Yn h3 _) (Yn (Jo3 w.2.2) r)))];obtain⟨⟨c,n⟩,o,g⟩:=w;cases g<;>simp
def Jhg {α:Type} (p:List UInt8->Option (α×List UInt8)) (l:List UInt8):Option (List α×List UInt8):=match pN l with
 | none=>none
 | some (n,r)=>JmL p n r
theorem Ja1 {α:Type} {p:List UInt8->Option (α×List UInt8)} {lay:α->List UInt8} {v:List α} (r:List UInt8) (hl:v.length < 9223372036854775808) (h:∀x∈v,∀r,p (lay x++r)=some (x,r)):Jhg p ((Pk.lay v.length++v.flatMap lay)++r)=some (v,r):=by
 unfold Jhg;rw[Er,Jap hl];exact Jf8 v r h
def pVw (l:List UInt8):Option (Vw×List UInt8):=match Jag pV (Jag (Jhg pZn) (Jag (Jhg pHd) (Jag (Jhg pB) pI))) l with
 | none=>none
 | some ((k,z,h,b,m),r)=>some (⟨k,z,h,b,m⟩,r)
structure VwC (v:Vw):Prop where
 k:fm (-1) v.known=true/\cts v.known
 z:v.zones.length < 9223372036854775808/\∀x∈v.zones,znC x
 h:v.held.length < 9223372036854775808/\∀x∈v.held,hdC x
 b:v.bods.length < 9223372036854775808/\∀x∈v.bods,bdF x=true/\x.s.1 < 9223372036854775808
 r:Ua v.room
theorem JnM {v:Vw} (h:VwC v) (r:List UInt8):pVw (lVw v++r)=some (v,r):=by
 have e:lVw v=lV v.known++((Pk.lay v.zones.length++v.zones.flatMap lZn)++((Pk.lay v.held.length++v.held.flatMap lHd)++((Pk.lay v.bods.length++v.bods.flatMap lB)++lI v.room))):=by unfold lVw;simp
 unfold pVw;rw[e,Xk (p:=pV) (x:=v.known) (y:=(v.zones,v.held,v.bods,v.room)) (JeF h.k.1 h.k.2 _) (Xk (Ja1 _ h.z.1 fun x hx r=>Jnb (h.z.2 x hx) r) (Xk (Ja1 _ h.h.1 fun x hx r=>JmP (h.h.2 x hx) r) (Xk (Ja1 _ h.b.1 fun x hx r=>Jh1 (h.b.2 x hx).1 (h.b.2 x hx).2 r) (Yn h.r r))))]
def pSb (l:List UInt8):Option (Sb×List UInt8):=match Jag pI pS l with
 | none=>none
 | some ((f,i),r)=>some (⟨f,i,0,0,false,false,false⟩,r)
theorem JnU {s:Sb} (h1:Ua s.from_) (h2:Sn.Xp (-2) s.int=true) (h3:sbZ s=true) (r:List UInt8):pSb (lSb s++r)=some (s,r):=by
 unfold pSb lSb;rw[Xk (p:=pI) (q:=pS) (x:=s.from_) (y:=s.int) (Yn h1 _) (JhZ h2 r)];obtain⟨f,i,a,b,c,d,e⟩:=s;unfold sbZ at h3;simp only[Ea,Ej,Gv] at h3;obtain⟨⟨rfl,rfl⟩,rfl,rfl,rfl⟩:=h3;rfl
end Go.Proofs.YtmbeahbgafkjfaaGreatDoor.Wq
namespace Go.Proofs.YtmbeahbgafkjfaaGreatDoor.Wq
def bdz:Bd:=⟨0,(0,0),[]⟩
def ntz:Nt:=⟨[],[],[],[]⟩
def vw0:Vw:=⟨[],[],[],[],0⟩
theorem Qs {α:Type} {l:List α} (h:l.isEmpty=true):l=[]:=List.isEmpty_iff.1 h
theorem bareB_is {x:Bd} (h:XK x=true):x=bdz:=by
 unfold XK at h;simp only[Ea,Ej] at h;obtain⟨o,s,v⟩:=x;obtain⟨h1,h2,h3⟩:=h;have:=Qs h3;simp only at h1 h2 this;rw[h1,h2,this];rfl
theorem emptyN_is {x:Nt} (h:Ya x=true):x=ntz:=by
 unfold Ya at h;simp only[Ea] at h;obtain⟨⟨h1,h2⟩,h3,h4⟩:=h;obtain⟨a,b,c,d⟩:=x;have:=Qs h1;have:=Qs h2;have:=Qs h3;have:=Qs h4
 simp_all [ntz]
theorem JkH {x:Vw} (h:UT x=true):x=vw0:=by
 unfold UT at h;simp only[Ea,Ej] at h;obtain⟨⟨⟨h1,h2⟩,h3,h4⟩,h5⟩:=h;obtain⟨a,b,c,d,e⟩:=x;have:=Qs h1;have:=Qs h2;have:=Qs h3;have:=Qs h4
 simp_all [vw0]
theorem noSub_is {x:Qw} (h:ZE x=true):x.from_=0/\x.int=[]:=by
 unfold ZE at h;simp only[Ea,Ej] at h;exact⟨h.1,Qs h.2⟩
theorem noChk_is {x:Qw} (h:ZB x=true):x.view=vw0/\x.subs=[]:=by
 unfold ZB at h;simp only[Ea] at h;exact⟨JkH h.1,Qs h.2⟩
def JoE (l:List UInt8):Option (Qw×List UInt8):=match pI l with
 | none=>none
 | some (k,r)=>
  if k=1 then match pNt r with
   | none=>none
   | some (n,q)=>some (⟨k,n,bdz,0,[],vw0,[]⟩,q)
  else if k=2 then match pB r with
   | none=>none
   | some (b,q)=>some (⟨k,ntz,b,0,[],vw0,[]⟩,q)
  else if k=3 then match pNt r with
   | none=>none
   | some (n,q)=>match n.w with
    | []=>some (⟨k,n,bdz,0,[],vw0,[]⟩,q)
    | w :: _=>if w.2.2=true then some (⟨k,n,bdz,0,[],vw0,[]⟩,q) else match pB q with
     | none=>none
     | some (b,s)=>some (⟨k,n,b,0,[],vw0,[]⟩,s)
  else if k=4 then match Jag pI pS r with
   | none=>none
   | some ((f,i),q)=>some (⟨k,ntz,bdz,f,i,vw0,[]⟩,q)
  else if k=5 then match Jag pVw (Jhg pSb) r with
   | none=>none
   | some ((v,s),q)=>some (⟨k,ntz,bdz,0,[],v,s⟩,q)
  else some (⟨k,ntz,bdz,0,[],vw0,[]⟩,r)
def Jip (l:List UInt8):Option Qw:=match JoE l with
 | some (x,[])=>if Xd x=true then some x else none
 | _=>none
structure JeJ (x:Qw):Prop where
 n:ntC x.note
 b:x.body.s.1 < 9223372036854775808
 k:cts x.view.known
 z:∀y∈x.view.zones,cts y.2
 h:∀w∈x.view.held,w.1.1 < 9223372036854775808
 y:∀y∈x.view.bods,y.s.1 < 9223372036854775808
theorem Jhw:∀{l:List Wr} {last:Int},Xu last l=true->∀w∈l,0<=w.2.1/\w.2.1<=255/\0 < w.1.1/\0<=w.1.2/\w.1.2 < 64
 | [],_,_,w,hw=>by cases hw
 | x :: r,last,h,w,hw=>by
  rw[Xu] at h;simp only[Ea,Ej] at h;rcases EE.1 hw with rfl | hw
  ·obtain⟨⟨⟨h1,h2⟩,h3⟩,_⟩:=h;obtain⟨a,b,c⟩:=(Vc.JT _).1 h3;exact⟨h1,h2,a,b,c⟩
  ·exact Jhw h.2.2 w hw
theorem ZW:∀{l:List Wr} {last:Int},Xu last l=true->-1<=last->(l.length:Int)<=255 - last\/l=[]
 | [],_,_,_=>Or.inr rfl
 | x :: r,last,h,hl=>by
  rw[Xu] at h;simp only[Ea,Ej] at h;left;rcases ZW h.2.2 (by omega) with h1 | rfl
  ·rw[List.length_cons];omega
  ·rw[List.length_cons,List.length_nil];omega
theorem OK:∀{l:List Bd} {Xm:List Int},Qz Xm l=true->∀x∈l,bdF x=true
 | [],_,_,x,hx=>by cases hx
 | y :: r,Xm,h,x,hx=>by
  rw[Qz] at h;simp only[Ea] at h;rcases EE.1 hx with rfl | hx
  ·exact h.1.2
  ·exact OK h.2 x hx
theorem Jld:∀{l:List Zn} {e:Int} {p:Option (List Vc.St)},zF e p l=true->-1<=e->(∀x∈l,(0<=x.1.1/\x.1.1<=x.1.2/\x.1.2<=255)/\fm (-1) x.2=true)/\(l.length:Int)<=255 - e\/l=[]
 | [],_,_,_,_=>Or.inr rfl
 | y :: r,e,p,h,he=>by
  rw[zF,Ea] at h;obtain⟨h1,h2⟩:=h;unfold YP at h1;simp only[Ea,Ej] at h1;obtain⟨⟨a,b,c⟩,d,_⟩:=h1;left;rcases Jld h2 (by omega) with ⟨h3,h4⟩ | rfl
  ·refine⟨fun x hx=>?_,by rw[List.length_cons];omega⟩;rcases EE.1 hx with rfl | hx
   ·exact⟨⟨by omega,b,c⟩,d⟩
   ·exact h3 x hx
  ·refine⟨fun x hx=>?_,by simp;omega⟩;rw[Ez] at hx;subst hx;exact⟨⟨by omega,b,c⟩,d⟩
theorem QY {v:Vw} (h:Ut v=true):fm (-1) v.known=true/\zF (-1) none v.zones=true/\Xu (-1) v.held=true/\caF v.bods v.room=true:=by
 unfold Ut at h;simp only[Ea] at h;exact⟨h.1.1,h.1.2.1,h.1.2.2.1,h.1.2.2.2⟩
theorem Jox {x:Qw} (h:Ut x.view=true) (hc:JeJ x):VwC x.view:=by
 obtain⟨h1,h2,h3,h4⟩:=QY h;unfold caF at h4;simp only[Ea,Ej] at h4;obtain⟨⟨r0,r1,r2⟩,r3,_⟩:=h4;refine⟨⟨h1,hc.k⟩,?_,?_,⟨by omega,fun y hy=>⟨OK r3 y hy,hc.y y hy⟩⟩,⟨r0,by omega⟩⟩
 ·rcases Jld h2 (by omega) with ⟨a,b⟩ | e
  ·refine⟨by omega,fun y hy=>⟨⟨⟨(a y hy).1.1,?_⟩,⟨?_,?_⟩⟩,(a y hy).2,hc.z y hy⟩⟩<;>have:=(a y hy).1<;>omega
  ·rw[e];exact⟨by simp,fun y hy=>by cases hy⟩
 ·refine⟨?_,fun w hw=>?_⟩
  ·rcases ZW h3 (by omega) with a | e
   ·omega
   ·rw[e];simp
  ·obtain⟨a,b,c,d,e⟩:=Jhw h3 w hw;exact⟨⟨a,by omega⟩,⟨d,by omega⟩,⟨by omega,hc.h w hw⟩⟩
theorem Jc6:∀{l:List Sb} {last:Int},QS last l=true->-1<=last->∀s∈l,Ua s.from_/\Sn.Xp (-2) s.int=true/\sbZ s=true
 | [],_,_,_,s,hs=>by cases hs
 | y :: r,last,h,hl,s,hs=>by
  rw[QS,Ea] at h;obtain⟨h1,h2⟩:=h;unfold sbF at h1;simp only[Ea,Ej] at h1;obtain⟨⟨a,b⟩,⟨_,c⟩,d⟩:=h1;rcases EE.1 hs with rfl | hs
  ·exact⟨⟨by omega,by omega⟩,c,d⟩
  ·exact Jc6 h2 (by omega) s hs
theorem Jms {x:Qw} (h:Xd x=true) (hc:JeJ x):Jip (Jfv x)=some x:=by
 have hh:=h;obtain⟨kind,note,body,from_,int,view,subs⟩:=x;unfold Xd at hh;simp only at hh;suffices hp:JoE (Jfv ⟨kind,note,body,from_,int,view,subs⟩)=some (⟨kind,note,body,from_,int,view,subs⟩,[]) by
  unfold Jip;rw[hp];simp only;rw[Ei h]
 unfold JoE Jfv;by_cases k1:kind=1
 ·subst k1;simp only[Nf,Ea] at hh;obtain⟨a,b,c,d⟩:=hh;have e1:=bareB_is b;obtain⟨e2,e3⟩:=noSub_is c;obtain⟨e4,e5⟩:=noChk_is d;simp only at e1 e2 e3 e4 e5;subst e1 e2 e3 e4 e5;rw[Yn (x:=1) (show Wq.Ua 1 from ⟨by decide,by decide⟩)];simp only[Nf];have:=Jfb a hc.n [];rw[EG] at this;rw[this]
 ·by_cases k2:kind=2
  ·subst k2;simp only[Nf,Ef k1,Ea] at hh;obtain⟨a,b,c,d⟩:=hh;have e1:=emptyN_is a;obtain⟨e2,e3⟩:=noSub_is c;obtain⟨e4,e5⟩:=noChk_is d;simp only at e1 e2 e3 e4 e5;subst e1 e2 e3 e4 e5;rw[Yn (x:=2) (show Wq.Ua 2 from ⟨by decide,by decide⟩)];simp only[Nf,Ef k1];have:=Jh1 b hc.b [];rw[EG] at this;rw[this]
  ·by_cases k3:kind=3
   ·subst k3;simp only[Nf,Ef k1,Ef k2,Ea] at hh;obtain⟨⟨c,d⟩,f⟩:=hh;obtain⟨e2,e3⟩:=noSub_is c;obtain⟨e4,e5⟩:=noChk_is d;simp only at e2 e3 e4 e5;subst e2 e3 e4 e5;rw[Yn (x:=3) (show Wq.Ua 3 from ⟨by decide,by decide⟩)];simp only[Nf,Ef k1,Ef k2];rcases hw:note.w with _ | ⟨w,r⟩
    ·rw[hw] at f;cases f
    ·rw[hw] at f;rcases r with _ | ⟨w2,r⟩
     ·simp only[Ea] at f;obtain⟨a,b⟩:=f;unfold Jbj at b;simp only;by_cases hg:w.2.2=true
      ·rw[Ei hg] at b;have e1:=bareB_is b;subst e1;rw[Ei hg];have:=Jfb a hc.n [];rw[this];simp only;rw[hw];simp only;rw[Ei hg]
      ·rw[Ef hg] at b;simp only[Ea,Ej] at b;rw[Ef hg,Jfb a hc.n];simp only;rw[hw];simp only;rw[Ef hg];have:=Jh1 b.1 hc.b [];rw[EG] at this;rw[this]
     ·cases f
   ·by_cases k4:kind=4
    ·subst k4;simp only[Nf,Ef k1,Ef k2,Ef k3,Ea,Ej] at hh;obtain⟨⟨a,b,c⟩,⟨d1,d2⟩,d3⟩:=hh;have e1:=emptyN_is a;have e2:=bareB_is b;obtain⟨e4,e5⟩:=noChk_is c;simp only at e1 e2 e4 e5;subst e1 e2 e4 e5;rw[Yn (x:=4) (show Wq.Ua 4 from ⟨by decide,by decide⟩)];simp only[Nf,Ef k1,Ef k2,Ef k3];have:=Xk (p:=pI) (q:=pS) (r:=[]) (Yn (x:=from_) ⟨d1,by omega⟩ _) (JhZ d3 []);rw[EG] at this;rw[this]
    ·by_cases k5:kind=5
     ·subst k5;simp only[Nf,Ef k1,Ef k2,Ef k3,Ef k4,Ea] at hh;obtain⟨⟨a,b,c⟩,d,e⟩:=hh;have e1:=emptyN_is a;have e2:=bareB_is b;obtain⟨e4,e5⟩:=noSub_is c;simp only at e1 e2 e4 e5;subst e1 e2 e4 e5;unfold Qy at e;simp only[Ea,Ej] at e;rw[Yn (x:=5) (show Wq.Ua 5 from ⟨by decide,by decide⟩)];simp only[Nf,Ef k1,Ef k2,Ef k3,Ef k4];have:=Xk (p:=pVw) (q:=Jhg pSb) (r:=[]) (JnM (Jox d hc) _) (Ja1 (p:=pSb) (lay:=lSb) (v:=subs) [] (by omega) fun s hs r=>by
       obtain⟨f1,f2,f3⟩:=Jc6 e.1 (by omega) s hs;exact JnU f1 f2 f3 r)
      rw[EG] at this;rw[this]
     ·simp only[Ef k1,Ef k2,Ef k3,Ef k4,Ef k5] at hh;cases hh
end Go.Proofs.YtmbeahbgafkjfaaGreatDoor.Wq
namespace Go.Proofs.YtmbeahbgafkjfaaGreatDoor
theorem Jd7 (a:Nat) (ha:a < 9223372036854775808):(BitVec.ofInt 64 (a:Int)).toNat=a:=by
 rw[BitVec.ofInt_natCast,BitVec.toNat_ofNat];exact Nat.mod_eq_of_lt (by omega)
theorem Jhk (a b:Nat) (ha:a < 9223372036854775808) (hb:b < 9223372036854775808):bits .or .i64 (a:Int) (b:Int)=((a ||| b:Nat):Int):=by
 have hx:a ||| b < 2 ^ 63:=Nat.or_lt_two_pow (by omega) (by omega);show IntKind.i64.wrap ((BitVec.ofInt 64 (a:Int) ||| BitVec.ofInt 64 (b:Int)).toNat:Int)=_;rw[BitVec.toNat_or,Jd7 a ha,Jd7 b hb,IntKind.wrap_i64];omega
theorem Jkt:∀b:Nat,b < 256->bits .andNot .u8 (b:Int) 128=((b % 128:Nat):Int):=by decide +kernel
theorem JjW:∀b:Nat,b < 256->128<=b->bits .and .u8 (b:Int) 128=128:=by decide +kernel
theorem JkB:∀b:Nat,b < 256->b < 128->bits .and .u8 (b:Int) 128=0:=by decide +kernel
theorem Jl7 (x y j:Nat) (hx:x < 2 ^ j):x ||| (y * 2 ^ j)=x+y * 2 ^ j:=by
 rw[Nat.or_comm,<-Nat.shiftLeft_eq,<-Nat.shiftLeft_add_eq_or_of_lt hx,Nat.add_comm]
theorem JoA (k:Nat):(2:Nat) ^ (7 * k)=128 ^ k:=by rw[Nat.pow_mul]
theorem JjO (x b k:Nat) (hb:b < 256) (hk:k < 9) (hx:x < 128 ^ k):
  bits .or .i64 (x:Int) (wrap64 (wrap64 (bits .andNot .u8 (b:Int) 128) * 2 ^ (7 * k)))=((x+b % 128 * 128 ^ k:Nat):Int):=by
 have hp:128 ^ k<=128 ^ 8:=Nat.pow_le_pow_right (by omega) (by omega);have e8:128 ^ 8=72057594037927936:=by decide
 have hm:b % 128 * 128 ^ k<=127 * 128 ^ k:=Ff _ (by omega);have w1:wrap64 ((b % 128:Nat):Int)=((b % 128:Nat):Int):=IntWalk.wrap64_in _ (by omega);have e2:((b % 128:Nat):Int) * 2 ^ (7 * k)=((b % 128 * 128 ^ k:Nat):Int):=by rw[<-JoA];simp
 have w2:wrap64 ((b % 128 * 128 ^ k:Nat):Int)=((b % 128 * 128 ^ k:Nat):Int):=IntWalk.wrap64_in _ (by omega);rw[Jkt b hb,w1,e2,w2,Jhk _ _ (by omega) (by omega),<-JoA,Jl7 _ _ _ (by rw[JoA];exact hx)]
theorem JlN (l r:List UInt8) (k:Nat) (h:9<=k):Pk.Kj l k r=(0,0,4):=by
 cases r with
 | nil=>rw[Pk.Kj,Ef (by omega)]
 | cons c r=>rw[Pk.Kj,Ei h]
theorem Jlt (l:List UInt8) (k:Nat) (h:k < 9):Pk.Kj l k []=(0,0,5):=by rw[Pk.Kj,Ei h]
theorem Jom (l:List UInt8) (k:Nat) (hl:k < l.length) (hk:k < 9) (h:128<=l[k].toNat):Pk.Kj l k (l.drop k)=Pk.Kj l (k+1) (l.drop (k+1)):=by
 rw[Eh hl,Pk.Kj,Ef (by omega),Ei h]
theorem JlZ (l:List UInt8) (k:Nat) (hl:k < l.length) (hk:k < 9) (h:l[k].toNat=0) (h0:0 < k):Pk.Kj l k (l.drop k)=(0,0,4):=by
 rw[Eh hl,Pk.Kj,Ef (by omega),Ef (by omega),Ei ⟨h,h0⟩]
theorem Jg9 (l:List UInt8) (k:Nat) (hl:k < l.length) (hk:k < 9) (h:l[k].toNat < 128) (h0:¬ (l[k].toNat=0/\0 < k)):Pk.Kj l k (l.drop k)=(Pk.val l (k+1),k+1,0):=by
 rw[Eh hl,Pk.Kj,Ef (by omega),Ef (by omega),Ef h0]
theorem Jpp {a b c a' b' c':Int} (h1:a=a') (h2:b=b') (h3:c=c'):Ending.returned (.tuple #[.int .i64 a,.int .i64 b,.int .i64 c])=.returned (.tuple #[.int .i64 a',.int .i64 b',.int .i64 c']):=by rw[h1,h2,h3]
theorem JaB:∀w,(Go.sizeOf 5).run prog w=.ok 1 w:=fun _=>by kernel_rfl
theorem JhV (A:OA) (n c:Nat) (l:List UInt8) (w:World) (hl:l.length=n) (hR:Rd w w.heap.size 1 A n c (bv l)):
  Calls prog 120 #[.slice A n c] w fun e w'=>e=.returned (.tuple #[.int .i64 (Pk.Kj l 0 l).1,.int .i64 (Pk.Kj l 0 l).2.1,.int .i64 (Pk.Kj l 0 l).2.2])/\w=w':=by
 obtain⟨m,hm⟩:∃m,m=min n 9:=⟨_,rfl⟩;have hcap:=hR.cap;have hmin:(if (9:Int) < (n:Int) then (9:Int) else (n:Int))=m:=by split<;>omega
 have hs:∀W,(Instr.slice 29 (.slice A n c) none (some (.int .i64 (m:Int))) none).run prog W=.ok (.slice A m c) W:=
  fun W=>JaM W 29 5 1 underlying29 JaB A n c .i64 m m rfl (by omega)
 have hm9:m<=9:=by omega
 have hmn:m<=n:=by omega
 have HM:=Ja hm;have HL:=Ja hl;clear hm;go_enter func120,ntmps120;go_wp2;go_loop [2,13] (fun x i=>∃k:Nat,k<=m/\i=.int .i64 k/\x=.int .i64 (Pk.val l k)/\Hid (Pk.Kj l 0 l=Pk.Kj l k (l.drop k))) (fun _ i=>m - (intOf i).toNat)
 case atStart=>exact⟨0,by omega,rfl,by rw[Pk.YV];rfl,rfl⟩
 case round=>
  obtain⟨k,hk,rfl,rfl,hd⟩:=hrel;by_cases hlt:k < m
  ·have hkl:k < l.length:=by omega
   have hk9:k < 9:=by omega
   obtain⟨ad,u,rfl,hb,hx,hc⟩:=hR.at_ (k:=k) (by omega);rw[Jo6 l k hkl] at hx;obtain rfl:Value.int .u8 (l[k].toNat:Int)=u:=by simpa using hx
   clear hx;obtain⟨b,hb'⟩:∃b,b=l[k].toNat:=⟨_,rfl⟩;have hb256:b < 256:=by have:=UInt8.toNat_lt l[k];omega
   rw[<-hb'] at hc;have HB:=Ja hb';clear hb' hs hmin hR;obtain⟨x,hx⟩:∃x,x=Pk.val l k:=⟨_,rfl⟩;rw[<-hx];have HX:=Ja hx;clear hx;have hxl:x < 128 ^ k:=by rw[HX.out];exact Pk.JkU l k
   have HS:=Ja (JjO x b k hb256 hk9 hxl);have HV:=Ja (Pk.Jlv l k hkl);clear hxl;by_cases h128:128<=b
   ·have h1:=JjW b hb256 h128;go_wp2;go_round
    case rel=>
     refine⟨k+1,by omega,by go_num,?_,?_⟩
     ·rw[HS.out,HV.out,<-HB.out,<-HX.out]
     ·show _=_;rw[hd.out,Jom l k hkl hk9 (by rw[<-HB.out];exact h128)]
    case measure=>simp[intOf];omega
   ·have h1:=JkB b hb256 (by omega);by_cases h0:b=0
    ·subst h0;by_cases hk0:0 < k
     ·have hd0:decide ((0:Int) < (k:Int))=true:=by simpa using hk0
      go_wp2;go_ret3;exact⟨by rw[hd.out,JlZ l k hkl hk9 HB.out.symm hk0];rfl,rfl⟩
     ·have hd0:decide ((0:Int) < (k:Int))=false:=by simpa using hk0
      go_wp2;go_ret3;exact⟨by rw[hd.out,Jg9 l k hkl hk9 (by rw[<-HB.out];omega) (by omega)];exact Jpp (by rw[HV.out,<-HB.out,<-HX.out];exact HS.out) rfl rfl,rfl⟩
    ·have hb0:((b:Int) == 0)=false:=by simpa using h0
     go_wp2;go_ret3;exact⟨by rw[hd.out,Jg9 l k hkl hk9 (by rw[<-HB.out];omega) (by rw[<-HB.out];omega)];exact Jpp (by rw[HV.out,<-HB.out,<-HX.out];exact HS.out) rfl rfl,rfl⟩
  ·obtain rfl:k=m:=by omega
   clear hs hmin hR;by_cases hn9:n < 9
   ·go_wp2;go_ret3;exact⟨by rw[hd.out,Ed (by have:=HL.out;have:=HM.out;omega),Jlt _ _ (by have:=HM.out;omega)];rfl,rfl⟩
   ·go_wp2;go_ret3;exact⟨by rw[hd.out,JlN _ _ _ (by have:=HM.out;omega)];rfl,rfl⟩
theorem JaU:(prog.info? 5).map (fun i=>(i.zero,i.size,i.bytes))=some (some (.int .u8 0),1,1):=by kernel_rfl
theorem Jd0 (A:OA) (n c:Nat) (xs:List Value) (w:World) (hR:Rd w w.heap.size 1 A n c xs) (h1:∀u∈xs,u.oneCell'=true) (hn:n<=140737488355328):
  Calls prog 168 #[.slice A n c] w fun e w'=>∃A' c',e=.returned (.slice A' n c')/\w'.ownsRow w.heap.size 5 1 (.slice A' n c') n xs/\Bz w w':=by
 have hmax:=hR.max;have hcap:=hR.cap;rcases A with _ | ad
 ·have hc0:=hR.nil rfl;obtain rfl:n=0:=by omega
  subst hc0;have hx:xs=[]:=Ey (by simpa using hR.len);subst hx;have ht:=fun W=>Fh (P:=prog) W 29 5 none 0 0 0 0 underlying29;clear hR h1;go_enter func168,ntmps168;go_wp2;go_ret;exact⟨none,0,rfl,ED _ _ _ _,Ec _ _⟩
 ·have ht:=fun W=>Fh (P:=prog) W 29 5 (some ad) n c 0 0 underlying29;obtain⟨i0,hi0,hz0,hz1,hz2⟩:=EN JaU;have h63:0+n<=maxLen:=by omega
  go_enter func168,ntmps168;go_wp2_with (at_builtin;go_must (refine Jh _ rfl (.tmp 5) (.tmp 6) _ rfl w.heap.size 5 i0 _ 1 1 underlying29 hi0 hz0 hz1 hz2 rfl (by decide) (.slice (some ⟨w.heap.size,0,none⟩) 0 0) 0 [] rfl (QT w _ _) w.heap.size (some ad) n c xs rfl (hR.alloc Zl _) h1 h63 (by omega) (by simp) ?_);intro A' c' w1 hown hg hat);go_ret;exact⟨A',c',rfl,by simpa using hown,(Zr.alloc Zl _).trans (Jb hg (by simp) (by simp[Value.ownBlock]))⟩
theorem Jkz {P:Program} {w:World} {base:Nat} {e:TypeId} {n c:Nat} {A:OA} {xs:List Value} (h:w.ownsRow base e 1 (.slice A n c) n xs):
  ∃olds:List Value,olds.length=c/\olds.take n=xs/\n<=c/\c<=maxLen/\∀W:World,(∀k,k < w.heap.size->W.heap[k]?=w.heap[k]?)->(Builtin.firstCells 1 c (.slice A c c)).run P W=.ok olds.toArray W:=by
 rcases h.2 with ⟨hv,h0⟩ | ⟨g,cap,cur,hv,hb,hh,hn,hm,hs,ht⟩
 ·injection hv with h1 h2 h3;subst h1 h2 h3;refine⟨[],rfl,?_,Ek _,by simp[maxLen],fun W _=>by simp[Builtin.firstCells]⟩;have:=h.1;rw[List.take_nil];exact(Ey (by simpa using this)).symm
 ·injection hv with h1 h2 h3;subst h1 h3;refine⟨cur.toList,by simpa using hs,by simpa using ht,hn,hm,fun W hW=>?_⟩;have hg:W.heap[g]?=some (.cells cur e (0,0)):=by rw[hW g (EA.1 hh).1];exact hh
  refine run_firstCells_some (P:=P) W 1 c ⟨g,0,none⟩ c c cur.toList (by simpa using hs) fun j u hu=>?_;have hadd:(⟨g,0,none⟩:Addr).add j=⟨g,j,none⟩:=by unfold Addr.add;split<;>simp_all
  rw[hadd,Nx _ g j cur e (0,0) hg];simpa using hu
theorem Jla (A:OA) (n c base:Nat) (xs:List Value) (w:World) (hown:w.ownsRow base 5 1 (.slice A n c) n xs) (hn:n+9<=140737488355328) (hbase:base<=w.heap.size):
  Calls prog 167 #[.slice A n c,.int .i64 9] w fun e w'=>∃A' c',e=.returned (.slice A' n c')/\w'.ownsRow base 5 1 (.slice A' n c') n xs/\Bz w w':=by
 obtain⟨olds,ho1,ho2,hnc,hcm,ho3⟩:=Jkz (P:=prog) hown;unfold maxLen at hcm;by_cases hroom:n+9<=c
 ·clear ho3 ho2;go_enter func167,ntmps167;go_wp2;go_ret;exact⟨A,c,rfl,hown,Ec _ _⟩
 ·obtain⟨k,hk⟩:∃k:Nat,9 - ((c:Int) - (n:Int))=(k:Int):=⟨n+9 - c,by omega⟩;obtain⟨i0,hi0,hz0,hz1,hz2⟩:=EN JaU;have hk0:0 < k:=by omega
  have hu:∀W,(Instr.slice 29 (.slice A n c) none (some (.int .i64 (c:Int))) none).run prog W=.ok (.slice A c c) W:=
   fun W=>JaM W 29 5 1 underlying29 JaB A n c .i64 c c rfl Zl
  have hfit:Builtin.nextslicecap (c+k) c * i0.bytes<=281474976710656:=NQ (by omega) (by rw[hz2];omega);have hz:=GK (P:=prog) w 29 3 29 5 i0 (.int .u8 0) .i64 .i64 underlying29 underlying3 hi0 hz0 A c c olds
   (by rw[hz1];exact ho3 w.drew (fun _ _=>rfl)) k hk0 (by rw[hz1];decide) (by omega) (by omega) (by rw[hz2];omega) hfit
  have hge:=Rl w (c+k) c 5;have hgm:=Ng w (c+k) c 5 (by unfold maxLen;omega);have HO:=Ja ho1;have HT:=Ja ho2;generalize grownCap w (c+k) c 5=N at hz hge hgm;have Hz:=Ja hz;have HM:=Ja hgm;clear hz ho3 hfit ho1 ho2 hgm;go_enter func167,ntmps167;go_wp2_with (at_builtin;go_must (refine Lib.wpList_append_run _ rfl _ _ _ _ rfl _ _ rfl rfl _ _ Hz.out ?_));go_ret;have h1:=hown.1;have h2:=HO.out;refine⟨_,_,rfl,⟨h1,.inr ⟨w.heap.size,N,_,rfl,hbase,Nb w.drew _,by omega,HM.out,?_,?_⟩⟩,(Zr.drew).alloc Zl _⟩
  ·simp only[Array.size_append,Fo,Rg,h2];simp;omega
  ·simp only[NI];rw[ET (by omega),Nat.mul_one];exact HT.out
theorem JkD:∀m:Nat,m < 256->bits BinOp.or .u8 (m:Int) 128=((m % 128+128:Nat):Int):=by decide +kernel
theorem JoW (m:Nat):bits BinOp.or .u8 ((m:Int) % 256) 128=((UInt8.ofNat (m % 128+128)).toNat:Int):=by
 rw[Pk.ZR (by omega),show ((m:Int) % 256)=((m % 256:Nat):Int) by omega,JkD _ (by omega)];omega
theorem JbV (k:IntKind) (x:Int):∀u∈[Value.int k x],u.oneCell'=true:=by
 intro u hu;rw[Ez] at hu;subst hu;rfl
theorem YE (A:OA) (n c x:Nat) (l:List UInt8) (w:World) (hl:l.length=n) (hR:Rd w w.heap.size 1 A n c (bv l)) (hn:n+9<=140737488355328) (hx:(Pk.lay x).length<=9):
  Calls prog 101 #[.slice A n c,.int .i64 x] w fun e w'=>∃A' c',e=.returned (.tuple #[.slice A' (n+(Pk.lay x).length) c',.int .i64 0]) /\
   w'.ownsRow w.heap.size 5 1 (.slice A' (n+(Pk.lay x).length) c') (n+(Pk.lay x).length) (bv (l++Pk.lay x))/\Bz w w':=by
 obtain⟨i0,hi0,hz0,hz1,hz2⟩:=EN JaU;have HX:=Ja hx;have HL:=Ja hl;clear hx hl;have H1:=Ja (Jd0 A n c (bv l) w hR (Un l) (by omega));have HR:=Ja hR;clear hR;go_enter func101,ntmps101;go_wp2_with fail;refine H1.out.mono ?_;rintro e w1 ⟨A1,c1,rfl,ho1,hb1⟩;go_wp2_with fail;refine(Jla A1 n c1 w.heap.size (bv l) w1 ho1 hn hb1.size).mono ?_;rintro e w2 ⟨A2,c2,rfl,ho2,hb2⟩;have hb12:Bz w w2:=hb1.trans (hb2.mono hb1.size);clear hb1 hb2 ho1 H1;go_wp2_with fail;go_loopw [1,6] (fun x' v wr=>∃(m k c':Nat) (A':OA) (pre:List UInt8),x'=.int .i64 m/\v=.slice A' (n+k) c'/\wr.ownsRow w.heap.size 5 1 (.slice A' (n+k) c') (n+k) (bv (l++pre))/\Bz w wr/\k<=8/\Hid (Pk.lay x=pre++Pk.lay m/\pre.length=k)) (fun x' _ _=>(intOf x').toNat)
 case atStart=>
  exact⟨x,0,c2,A2,[],rfl,rfl,by simpa using ho2,hb12,by omega,by simp[Hid]⟩
 case round=>
  obtain⟨m,k,c',A',pre,rfl,rfl,ho,hb,hk,hh⟩:=hrel;have HR2:=Ja ho;clear ho;have h1max:1<=maxLen:=by unfold maxLen;omega
  have h63:n+k+1<=maxLen:=by unfold maxLen;omega
  by_cases hm:128<=m
  ·obtain⟨d,hd⟩:∃d,d=UInt8.ofNat (m % 128+128):=⟨_,rfl⟩;have hbits:bits BinOp.or .u8 ((m:Int) % 256) 128=((d.toNat:Nat):Int):=by rw[hd];exact JoW m
   obtain⟨q,hq⟩:∃q,q=d.toNat:=⟨_,rfl⟩;rw[<-hq] at hbits;have HD:=Ja hd;have HQ:=Ja hq;clear hd hq;go_wp2_with (at_builtin;go_must (refine Jh _ rfl (.tmp 16) (.tmp 20) _ rfl w.heap.size 5 i0 _ 1 1 underlying29 hi0 hz0 hz1 hz2 rfl (by decide) (.slice A' (n+k) c') (n+k) (bv (l++pre)) rfl (HR2.out.alloc _) (wr.heap.size+1) (some ⟨wr.heap.size,0,none⟩) 1 1 [.int .u8 (q:Int)] rfl (Rd.new wr _ 1 1 #[.int .u8 (q:Int)] rfl h1max) (JbV _ _) h63 (by omega) (by have:=hb.size;simp;omega) ?_);intro A3 c3 w3 ho3 hg3 hat3);go_roundw
   case rel=>
    refine⟨m / 128,k+1,c3,A3,pre++[d],by go_num,rfl,?_,?_,?_,?_⟩
    ·have:=ho3;rw[HQ.out,<-JkS,<-JhW,Er] at this;exact this
    ·exact(hb.alloc hb.size _).trans (Jb hg3 (by have:=hb.size;simp;omega) (JM HR2.out))
    ·obtain⟨e1,e2⟩:=hh.out;have e3:=HX.out;rw[e1,Eb,Pk.Kq hm,List.length_cons] at e3;have:=Pk.Ji1 (m / 128);omega
    ·obtain⟨e1,e2⟩:=hh.out;exact⟨by rw[e1,Pk.Kq hm,HD.out];simp,by simp[e2]⟩
   case measure=>simp[intOf];omega
  ·obtain⟨d,hd⟩:∃d,d=UInt8.ofNat m:=⟨_,rfl⟩;have hq:(d.toNat:Int)=m:=by rw[hd,Pk.ZR (by omega)]
   have HD:=Ja hd;have HQ:=Ja hq;clear hd hq;go_wp2_with (at_builtin;go_must (refine Jh _ rfl (.tmp 22) (.tmp 25) _ rfl w.heap.size 5 i0 _ 1 1 underlying29 hi0 hz0 hz1 hz2 rfl (by decide) (.slice A' (n+k) c') (n+k) (bv (l++pre)) rfl (HR2.out.alloc _) (wr.heap.size+1) (some ⟨wr.heap.size,0,none⟩) 1 1 [.int .u8 (m:Int)] rfl (Rd.new wr _ 1 1 #[.int .u8 (m:Int)] rfl h1max) (JbV _ _) h63 (by omega) (by have:=hb.size;simp;omega) ?_);intro A3 c3 w3 ho3 hg3 hat3);go_ret2;obtain⟨e1,e2⟩:=hh.out;have e3:Pk.lay x=pre++[d]:=by rw[e1,Pk.Zu (by omega),HD.out]
   have e4:(Pk.lay x).length=k+1:=by rw[e3];simp[e2]
   rw[e4];refine⟨A3,c3,rfl,?_,?_⟩
   ·have:=ho3;rw[<-HQ.out,<-JkS,<-JhW,Er,<-e3] at this;exact this
   ·exact(hb.alloc hb.size _).trans (Jb hg3 (by have:=hb.size;simp;omega) (JM HR2.out))
theorem Jgs {m c:Nat} (h:m<=c) (hc:c<=maxLen):(Pk.lay m).length<=9:=Pk.UR (by unfold maxLen at hc;omega)
theorem Jdv (A A2:OA) (n c m c2:Nat) (l r:List UInt8) (w:World) (hl:l.length=n) (hR:Rd w w.heap.size 1 A n c (bv l)) (hR2:Rd w w.heap.size 1 A2 m c2 (bv r)) (hn:n+9+m<=140737488355328):
  Calls prog 105 #[.slice A n c,.slice A2 m c2] w fun e w'=>∃A' c',e=.returned (.slice A' (n+(Pk.lay m).length+m) c') /\
   w'.ownsRow w.heap.size 5 1 (.slice A' (n+(Pk.lay m).length+m) c') (n+(Pk.lay m).length+m) (bv (l++Pk.lay m++r))/\Bz w w':=by
 obtain⟨i0,hi0,hz0,hz1,hz2⟩:=EN JaU;have h9:=Jgs hR2.cap hR2.max;have H1:=Ja (YE A n c m l w hl hR (by omega) h9);have HR2:=Ja hR2;clear hR hR2 hl;go_enter func105,ntmps105;go_wp2_with fail;refine H1.out.mono ?_;clear H1;rintro e w1 ⟨A1,c1,rfl,ho1,hb1⟩;have h63:n+(Pk.lay m).length+m<=maxLen:=by unfold maxLen;omega
 go_wp2_with (at_builtin;go_must (refine Jh _ rfl (.tmp 14) (.tmp 15) _ rfl w.heap.size 5 i0 _ 1 1 underlying29 hi0 hz0 hz1 hz2 rfl (by decide) _ _ _ rfl ho1 w.heap.size A2 m c2 (bv r) rfl (HR2.out.below hb1) (Un r) h63 (by omega) hb1.size ?_);intro A3 c3 w3 ho3 hg3 hat3);go_ret;exact⟨A3,c3,rfl,by rw[JhW];exact ho3,hb1.trans (Jb hg3 hb1.size (JM ho1))⟩
theorem JkN (A:OA) (n c:Nat) (xs:List Value) (w:World) (hR:Rd w w.heap.size 1 A n c xs) (h1:∀u∈xs,u.oneCell'=true) (hn:n<=140737488355328):
  Calls prog 14 #[.slice A n c] w fun e w'=>∃A' c',e=.returned (.slice A' n c')/\w'.ownsRow w.heap.size 5 1 (.slice A' n c') n xs/\Bz w w':=by
 have hmax:=hR.max;have hcap:=hR.cap;obtain⟨i0,hi0,hz0,hz1,hz2⟩:=EN JaU;have h63:0+n<=maxLen:=by omega
 go_enter func14,ntmps14;go_wp2_with (at_builtin;go_must (refine Jh _ rfl (.tmp 3) (.tmp 4) _ rfl w.heap.size 5 i0 _ 1 1 underlying29 hi0 hz0 hz1 hz2 rfl (by decide) (.slice (some ⟨w.heap.size,0,none⟩) 0 0) 0 [] rfl (QT w _ _) w.heap.size A n c xs rfl (hR.alloc Zl _) h1 h63 (by omega) (by simp) ?_);intro A' c' w1 hown hg hat);go_ret;exact⟨A',c',rfl,by simpa using hown,(Zr.alloc Zl _).trans (Jb hg (by simp) (by simp[Value.ownBlock]))⟩
theorem JdW {A:OA} {n c:Nat} {l:List UInt8} {w:World} {x k er:Nat} (h:Pk.Kj l 0 l=(x,k,er)) (hl:l.length=n) (hR:Rd w w.heap.size 1 A n c (bv l)):
  Calls prog 120 #[.slice A n c] w fun e w'=>e=.returned (.tuple #[.int .i64 x,.int .i64 k,.int .i64 er])/\w=w':=by
 have:=JhV A n c l w hl hR;rw[h] at this;exact this
theorem Oa {P:Program} {w:World} {B n c:Nat} {A:OA} {l:List UInt8} (src e dst:TypeId) (hs:P.underlying src=some (.slice e)) (he:P.underlying e=some (.int .u8)) (hd:P.underlying dst=some .string)
  (hR:Rd w B 1 A n c (bv l)):(convert src dst (.slice A n c)).run P w=.ok (.string ⟨l.toArray⟩) w:=by
 have hln:l.length=n:=by have:=hR.len;rw[Jmw] at this;omega
 rcases A with _ | ad
 ·have hc0:=hR.nil rfl;have hcap:=hR.cap;obtain rfl:n=0:=by omega
  have hx:l=[]:=Ey hln;subst hx;exact run_convert_bytes_nil w src e hs he 0 c dst hd
 ·have hl:(loadCells ad n).run P w=.ok (bv l).toArray w:=by
   have:=run_loadCells_list (P:=P) w ad (bv l) (fun j v hj=>by
    rcases NN n with h0 | h0
    ·have hx:l=[]:=Ey (by omega);subst hx;simp[bv] at hj
    ·obtain⟨ad',h,_,hc⟩:=hR.at0 h0;injection h with h;subst h;exact hc j v hj)
   rwa [Jmw,hln] at this
  have e1:bv l=(l.map fun b=>(b.toNat:Int)).map (Value.int .u8):=by simp[bv]
  rw[e1] at hl;rw[run_convert_bytes_string w src dst e _ n c hs he hd,run_bytesToString w ad n c _ hl,foldl_push_bytes];simp[ByteArray.empty,ByteArray.emptyWithCapacity,Function.comp_def];rfl
theorem Jd4 (A A2:OA) (n c m c2 B B2:Nat) (l r:List UInt8) (w:World) (hR:Rd w B 1 A n c (bv l)) (hR2:Rd w B2 1 A2 m c2 (bv r)):
  Calls prog 11 #[.slice A n c,.slice A2 m c2] w fun e w'=>e=.returned (.bool (l == r))/\w=w':=by
 have h1:=Oa (P:=prog) 29 5 9 underlying29 underlying5 underlying9 hR;have h2:=Oa (P:=prog) 29 5 9 underlying29 underlying5 underlying9 hR2;clear hR hR2;go_enter func11,ntmps11;go_wp2;go_ret;exact⟨by simp,rfl⟩
end Go.Proofs.YtmbeahbgafkjfaaGreatDoor
