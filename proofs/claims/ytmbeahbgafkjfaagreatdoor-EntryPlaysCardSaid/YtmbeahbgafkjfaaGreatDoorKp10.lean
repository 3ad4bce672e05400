/- Lemmas, layer 10. -/
import Derived.Test.YtmbeahbgafkjfaaGreatDoorKp09
set_option linter.unusedSimpArgs false
set_option maxRecDepth 100000
set_option maxHeartbeats 16000000
namespace Go.Proofs.YtmbeahbgafkjfaaGreatDoor
open Go.Proofs.Tryz Go.RowKit
structure ZV where
 A:OA
 n:Nat
 c:Nat
def zvl (p:ZV×Zn):List Value:=[.int .i64 p.2.1.1,.int .i64 p.2.1.2,.slice p.1.A p.1.n p.1.c]
def zvv (L:List (ZV×Zn)):List Value:=L.flatMap zvl
def Jv (L:List (ZV×Zn)):List Zn:=L.map (·.2)
theorem JH (L:List (ZV×Zn)):(Jv L).length=L.length:=by simp[Jv]
theorem XE (L:List (ZV×Zn)) (k:Nat) (h:k < L.length):(Jv L)[k]'(by rw[JH];exact h)=L[k].2:=by simp[Jv]
theorem JA (L M:List (ZV×Zn)):Jv (L++M)=Jv L++Jv M:=by simp[Jv]
theorem Jcd (L M:List (ZV×Zn)):zvv (L++M)=zvv L++zvv M:=by simp[zvv]
theorem JoK (L:List (ZV×Zn)) (k:Nat) (h:k < L.length) (j:Nat) (hj:j < 3):(zvv L)[k * 3+j]?=(zvl L[k])[j]?:=ZZ zvl 3 (by decide) L (fun _ _=>rfl) k h j hj
theorem Jb7 (L:List (ZV×Zn)):(zvv L).length=L.length * 3:=Xw zvl 3 L (fun _ _=>rfl)
theorem JL (p:ZV×Zn):∀u∈zvl p,u.oneCell'=true:=by
 intro u hu;simp only[zvl,EE,Gd,Rb] at hu;rcases hu with h | h | h<;>subst h<;>rfl
structure Zc (w:World) (B:Nat) (A:OA) (n c:Nat) (L:List (ZV×Zn)):Prop where
 len:L.length=n
 rd:Rd w B 3 A n c (zvv L)
 each:∀p∈L,p.2.2.length=p.1.n/\Rd w B 2 p.1.A p.1.n p.1.c (sv p.2.2)
theorem Zc.go {w w':World} {A:OA} {n c:Nat} {L:List (ZV×Zn)} (h:Zc w w.heap.size A n c L) (hb:Bz w w'):Zc w' w'.heap.size A n c L:=⟨h.len,h.rd.go hb,fun p hp=>⟨(h.each p hp).1,(h.each p hp).2.go hb⟩⟩
theorem Zc.below {w w':World} {B:Nat} {A:OA} {n c:Nat} {L:List (ZV×Zn)} (h:Zc w B A n c L) (hb:Below B w w'):Zc w' B A n c L:=⟨h.len,h.rd.below hb,fun p hp=>⟨(h.each p hp).1,(h.each p hp).2.below hb⟩⟩
theorem Zc.more {w:World} {B B':Nat} {A:OA} {n c:Nat} {L:List (ZV×Zn)} (h:Zc w B A n c L) (hb:B<=B'):Zc w B' A n c L:=⟨h.len,h.rd.more hb,fun p hp=>⟨(h.each p hp).1,(h.each p hp).2.more hb⟩⟩
theorem Zc.none_ (w:World) (B:Nat):Zc w B none 0 0 []:=⟨rfl,Rd.none_,fun p hp=>by cases hp⟩
theorem Zc.zone {w:World} {B n c k:Nat} {A:OA} {L:List (ZV×Zn)} (h:Zc w B A n c L) (hk:k < L.length):
  ∃b o,A=some ⟨b,o,none⟩/\b < B/\w.cell? ⟨b,o+k * 3,none⟩=some (.int .i64 L[k].2.1.1)/\w.cell? ⟨b,o+k * 3+1,none⟩=some (.int .i64 L[k].2.1.2) /\
   w.cell? ⟨b,o+k * 3+2,none⟩=some (.slice L[k].1.A L[k].1.n L[k].1.c):=by
 have hl:=h.len;obtain⟨b,o,rfl,hb,hc⟩:=h.rd.plain (by omega) (by decide);have e:∀j,j < 3->∀u,(zvl L[k])[j]?=some u->w.cell? ⟨b,o+k * 3+j,none⟩=some u:=fun j hj u hu=>by
  rw[NK];exact hc (k * 3+j) u (by rw[JoK L k hk j hj,hu])
 exact⟨b,o,rfl,hb,e 0 (by decide) _ rfl,e 1 (by decide) _ rfl,e 2 (by decide) _ rfl⟩
theorem Zc.max {w:World} {B n c:Nat} {A:OA} {L:List (ZV×Zn)} (h:Zc w B A n c L):n<=9223372036854775807:=by
 have h1:=h.rd.cap;have h2:=h.rd.max;unfold maxLen at h2;omega
def YH (z:List Zn) (k:Nat):Int:=if h:k≠0/\k - 1 < z.length then (z[k - 1]'h.2).1.2 else -1
def UV (z:List Zn) (k:Nat):Option (List Vc.St):=if h:k≠0/\k - 1 < z.length then some (z[k - 1]'h.2).2 else none
theorem Yb (z:List Zn):YH z 0=-1:=by unfold YH;rw[dif_neg (by simp)]
theorem ZY (z:List Zn):UV z 0=none:=by unfold UV;rw[dif_neg (by simp)]
theorem ZT (z:List Zn) (k:Nat) (h:k < z.length):YH z (k+1)=z[k].1.2:=by
 unfold YH;rw[dif_pos ⟨by omega,by simpa using h⟩];simp
theorem ZS (z:List Zn) (k:Nat) (h:k < z.length):UV z (k+1)=some z[k].2:=by
 unfold UV;rw[dif_pos ⟨by omega,by simpa using h⟩];simp
theorem Jix (e:Int) (p:Option (List Vc.St)) (z:List Zn) (k:Nat) (h:k < z.length):zF e p (z.drop k)=(YP e p z[k] && zF z[k].1.2 (some z[k].2) (z.drop (k+1))):=by
 rw[Eh h,zF]
theorem Jma (e:Int) (p:Option (List Vc.St)) (z:List Zn) (k:Nat) (h:z.length<=k):zF e p (z.drop k)=true:=by
 rw[Ed h];rfl
theorem QN {w wr:World} {q:Nat} (h:Hid (wr=w.drewN q)) (m:Nat):Hid (wr.drewN m=w.drewN (q+m)):=Ja (by rw[h.out,World.drewN_drewN])
theorem Jem (A D:OA) (n c m d:Nat) (u v:List Vc.St) (w:World) (hl:u.length=n) (hl2:v.length=m) (hR:Rd w w.heap.size 2 A n c (sv u)) (hR2:Rd w w.heap.size 2 D m d (sv v)):
  Calls prog 160 #[.slice A n c,.slice D m d] w fun e w'=>e=.returned (.bool (decide (u=v)))/\∃q,w'=w.drewN q:=by
 have hmax:n<=9223372036854775807:=by have h1:=hR.cap;have h2:=hR.max;unfold maxLen at h2;omega
 by_cases hnm:n=m
 ·subst hnm;go_enter func160,ntmps160;go_wp2;go_loopw [13] (fun i wr=>∃(k q:Nat),k<=n/\i=.int .i64 k/\decide (u=v)=decide (u.drop k=v.drop k)/\Hid (wr=w.drewN q)) (fun i _=>n - (intOf i).toNat)
  case atStart=>exact⟨0,0,by omega,rfl,rfl,Ja rfl⟩
  case round=>
   obtain⟨k,q,hk,rfl,hdd,hq⟩:=hrel;have hR:=hR.drewN q;have hR2:=hR2.drewN q;rw[<-hq.out] at hR hR2;by_cases hlt:k < n
   ·have hk1:k < u.length:=by omega
    have hk2:k < v.length:=by omega
    obtain⟨b,o,rfl,hab,h0,h1⟩:=hR.stamp hl hlt;obtain⟨b2,o2,rfl,hab2,h02,h12⟩:=hR2.stamp hl2 hlt;have HD:=Ja hdd;have HE:=Ja (show u[k]=((u[k]'hk1).1,(u[k]'hk1).2) from rfl);have HE2:=Ja (show v[k]=((v[k]'hk2).1,(v[k]'hk2).2) from rfl);generalize (u[k]'hk1).1=sc at h0 HE;generalize (u[k]'hk1).2=sn at h1 HE;generalize (v[k]'hk2).1=tc at h02 HE2;generalize (v[k]'hk2).2=tn at h12 HE2;clear hdd hR hR2;by_cases e1:sc=tc
    ·subst e1;by_cases e2:sn=tn
     ·subst e2;have HN:=Ja (JaT hk1 hk2 (by rw[HE.out,HE2.out]));go_wp2;go_quiet (fail);go_wp2;go_roundw
      case rel=>exact⟨k+1,_,by omega,by go_num,by rw[HD.out,HN.out],QN hq _⟩
      case measure=>simp[intOf];omega
     ·have HN:=Ja (show decide (u=v)=false by
       rw[EI];intro h;subst h;exact e2 (congrArg Prod.snd (HE.out.symm.trans HE2.out)))
      go_wp2;go_quiet (fail);go_wp2;go_ret;exact⟨by rw[HN.out];rfl,_,(QN hq _).out⟩
    ·have HN:=Ja (show decide (u=v)=false by
      rw[EI];intro h;subst h;exact e1 (congrArg Prod.fst (HE.out.symm.trans HE2.out)))
     go_wp2;go_quiet (fail);go_wp2;go_ret;exact⟨by rw[HN.out];rfl,_,(QN hq _).out⟩
   ·obtain rfl:k=n:=by omega
    have HX:=Ja (show decide (u=v)=true by rw[hdd,Ed (by omega),Ed (by omega)];simp);clear hdd;go_wp2;go_ret;exact⟨by rw[HX.out];rfl,q,hq.out⟩
 ·have HN:=Ja (show decide (u=v)=false by rw[EI];intro h;subst h;omega);have hne:¬ ((n:Int)=(m:Int)):=by omega
  go_enter func160,ntmps160;go_wp2;go_ret;exact⟨by rw[HN.out];rfl,0,rfl⟩
theorem Jbv (A D:OA) (n c m d:Nat) (u v:List Vc.St) (w:World) (hl:u.length=n) (hl2:v.length=m) (hR:Rd w w.heap.size 2 A n c (sv u)) (hR2:Rd w w.heap.size 2 D m d (sv v)):
  Calls prog 80 #[.slice A n c,.slice D m d] w fun e w'=>e=.returned (.bool (decide (u=v)))/\∃q,w'=w.drewN q:=by
 have hmax:n<=9223372036854775807:=by have h1:=hR.cap;have h2:=hR.max;unfold maxLen at h2;omega
 by_cases hnm:n=m
 ·subst hnm;go_enter func80,ntmps80;go_wp2;go_loopw [5] (fun i wr=>∃(k q:Nat),k<=n/\i=.int .i64 k/\decide (u=v)=decide (u.drop k=v.drop k)/\Hid (wr=w.drewN q)) (fun i _=>n - (intOf i).toNat)
  case atStart=>exact⟨0,0,by omega,rfl,rfl,Ja rfl⟩
  case round=>
   obtain⟨k,q,hk,rfl,hdd,hq⟩:=hrel;have hR:=hR.drewN q;have hR2:=hR2.drewN q;rw[<-hq.out] at hR hR2;by_cases hlt:k < n
   ·have hk1:k < u.length:=by omega
    have hk2:k < v.length:=by omega
    obtain⟨b,o,rfl,hab,h0,h1⟩:=hR.stamp hl hlt;obtain⟨b2,o2,rfl,hab2,h02,h12⟩:=hR2.stamp hl2 hlt;have HD:=Ja hdd;have HE:=Ja (show u[k]=((u[k]'hk1).1,(u[k]'hk1).2) from rfl);have HE2:=Ja (show v[k]=((v[k]'hk2).1,(v[k]'hk2).2) from rfl);generalize (u[k]'hk1).1=sc at h0 HE;generalize (u[k]'hk1).2=sn at h1 HE;generalize (v[k]'hk2).1=tc at h02 HE2;generalize (v[k]'hk2).2=tn at h12 HE2;clear hdd hR hR2;by_cases e1:sc=tc
    ·subst e1;by_cases e2:sn=tn
     ·subst e2;have HN:=Ja (JaT hk1 hk2 (by rw[HE.out,HE2.out]));go_wp2;go_quiet (fail);go_wp2;go_roundw
      case rel=>exact⟨k+1,_,by omega,by go_num,by rw[HD.out,HN.out],QN hq _⟩
      case measure=>simp[intOf];omega
     ·have HN:=Ja (show decide (u=v)=false by
       rw[EI];intro h;subst h;exact e2 (congrArg Prod.snd (HE.out.symm.trans HE2.out)))
      go_wp2;go_quiet (fail);go_wp2;go_ret;exact⟨by rw[HN.out];rfl,_,(QN hq _).out⟩
    ·have HN:=Ja (show decide (u=v)=false by
      rw[EI];intro h;subst h;exact e1 (congrArg Prod.fst (HE.out.symm.trans HE2.out)))
     go_wp2;go_quiet (fail);go_wp2;go_ret;exact⟨by rw[HN.out];rfl,_,(QN hq _).out⟩
   ·obtain rfl:k=n:=by omega
    have HX:=Ja (show decide (u=v)=true by rw[hdd,Ed (by omega),Ed (by omega)];simp);clear hdd;go_wp2;go_ret;exact⟨by rw[HX.out];rfl,q,hq.out⟩
 ·have HN:=Ja (show decide (u=v)=false by rw[EI];intro h;subst h;omega);have hne:¬ ((n:Int)=(m:Int)):=by omega
  go_enter func80,ntmps80;go_wp2;go_ret;exact⟨by rw[HN.out];rfl,0,rfl⟩
theorem Jm.three {w:World} {g:Nat} {t:TypeId} {a b c:Value} (h:Jm w g t #[a,b,c]):w.cell? ⟨g,0,none⟩=some a/\w.cell? ⟨g,1,none⟩=some b/\w.cell? ⟨g,2,none⟩=some c:=⟨h.cell 0,h.cell 1,h.cell 2⟩
theorem Zb (A:OA) (n c:Nat) (L:List (ZV×Zn)) (w:World) (hR:Zc w w.heap.size A n c L):
  Calls prog 92 #[.slice A n c] w fun e w'=>e=.returned (.bool (zF (-1) none (Jv L)))/\Bz w w':=by
 have hmax:=hR.max;have hln:=hR.len;have HL:=Ja hln;have HR:=Ja hR;have HD:=Ja fun e p k h=>Jix e p (Jv L) k h;have HE:=Ja fun e p k h=>Jma e p (Jv L) k h;clear hR hln;go_enter func92,ntmps92;go_wp2;go_loopw [3,8] (fun v3 v8 wr=>∃(k:Nat),k<=n/\v8=.int .i64 k/\v3=.int .i64 (YH (Jv L) k)/\(-1<=YH (Jv L) k/\YH (Jv L) k<=255)/\Bz w wr/\Hid (zF (-1) none (Jv L)=zF (YH (Jv L) k) (UV (Jv L) k) ((Jv L).drop k))) (fun _ v8 _=>n - (intOf v8).toNat)
 case atStart=>exact⟨0,by omega,rfl,by rw[Yb],by rw[Yb];omega,Ec _ _,by rw[Yb,ZY];rfl⟩
 case round=>
  obtain⟨k,hk,rfl,rfl,hre,hb,hr⟩:=hrel;have hbs:=hb.size;by_cases hlt:k < n
  ·have hkL:k < L.length:=by rw[HL.out];exact hlt
   have hkZ:k < (Jv L).length:=by rw[JH];exact hkL
   obtain⟨b,o,rfl,hab,g0,g1,g2⟩:=(HR.out.below hb).zone hkL;obtain⟨hvl,hRv⟩:=HR.out.each _ (En hkL);have hd:=hr.out.trans (HD.out _ _ k hkZ);have he1:=ZT (Jv L) k hkZ;have hp1:=ZS (Jv L) k hkZ;rw[XE L k hkL] at hd he1 hp1;obtain⟨p,hp⟩:∃p,p=UV (Jv L) k:=⟨_,rfl⟩;have HP:=Ja hp;rw[<-hp] at hd;obtain⟨e,he⟩:∃e,e=YH (Jv L) k:=⟨_,rfl⟩;have HEE:=Ja he;rw[<-he] at hd hre ⊢;generalize hq:L[k]=q at g0 g1 g2 hvl hRv hd he1 hp1;have HQ:=Ja hq;obtain⟨⟨Av,nv,cv⟩,⟨lo,hi⟩,u⟩:=q;dsimp only at g0 g1 g2 hvl hRv hd he1 hp1;have hst:YP e p ((lo,hi),u)=((decide (e < lo) && (decide (lo<=hi) && decide (hi<=255))) && (fm (-1) u && !(decide (p=some u) && decide (lo=e+1)))):=rfl;have hb1:=hb.alloc hbs (.cells #[.int .i64 lo,.int .i64 hi,.slice Av nv cv] 129);have hX:=Jm.new wr 129 #[.int .i64 lo,.int .i64 hi,.slice Av nv cv];have F:=YD Av nv cv u _ hvl ((hRv.below hb1).more hb1.size);have HB:=Ja hb1;have HX:=Ja hX;have HE1:=Ja he1;have HP1:=Ja hp1;have HVL:=Ja hvl;have HRV:=Ja hRv;have HST:=Ja hst;have HDD:=Ja hd;clear hd hst he1 hp1 hvl hRv hp he hq hX hr hb hab;by_cases c1:lo<=e
   ·have HN:=Ja (show zF (-1) none (Jv L)=false by rw[HDD.out,HST.out];simp[show ¬ e < lo by omega]);go_wp2;go_ret;exact⟨by rw[HN.out];rfl,HB.out⟩
   ·by_cases c2:lo > hi
    ·have HN:=Ja (show zF (-1) none (Jv L)=false by rw[HDD.out,HST.out];simp[show ¬ lo<=hi by omega]);go_wp2;go_ret;exact⟨by rw[HN.out];rfl,HB.out⟩
    ·by_cases c3:hi > 255
     ·have HN:=Ja (show zF (-1) none (Jv L)=false by rw[HDD.out,HST.out];simp[show ¬ hi<=255 by omega]);go_wp2;go_ret;exact⟨by rw[HN.out];rfl,HB.out⟩
     ·rcases hf:fm (-1) u with _ | _
      ·have HN:=Ja (show zF (-1) none (Jv L)=false by rw[HDD.out,HST.out,hf];simp);rw[hf] at F;have F:=Ja F;clear hf;go_wp2_with fail;refine Jd F.out fun w1 hb1=>?_;have HB1:=Ja (Jg HB.out hb1);clear hb1;go_wp2;go_ret;exact⟨by rw[HN.out];rfl,HB1.out⟩
      ·rw[hf] at F;have HSS:=Ja (show YP e p ((lo,hi),u)=!(decide (p=some u) && decide (lo=e+1)) by rw[HST.out,hf,Eu (show e < lo by omega),Eu (show lo<=hi by omega),Eu (show hi<=255 by omega)];simp);have F:=Ja F;clear hf HST;go_wp2_with fail;refine F.out.mono ?_;rintro e' w1 ⟨rfl,hb1⟩;have HB1:=Ja (Jg HB.out hb1);have HX1:=Ja (HX.out.go hb1);obtain⟨x0,x1,x2⟩:=HX1.out.three;clear hb1 HB HX F g0 g1 g2;by_cases hk0:k=0
       ·have hpn:p=none:=by rw[HP.out,hk0,ZY]
        have HN:=Ja (show zF (-1) none (Jv L)=zF hi (some u) ((Jv L).drop (k+1)) by rw[HDD.out,HSS.out,hpn];simp);have dk:decide (0 < k)=false:=by simp;omega
        clear hpn hk0;go_wp2;go_quiet (fail);go_wp2;go_roundw
        case rel=>exact⟨k+1,by omega,by go_num,by rw[HE1.out],by rw[HE1.out];omega,Jr HB1.out _,by show _=_;rw[HN.out,HE1.out,HP1.out]⟩
        case measure=>simp[intOf];omega
       ·obtain⟨i,rfl⟩:∃i,k=i+1:=⟨k - 1,by omega⟩;have hiL:i < L.length:=by omega
        have dk:decide (0 < i+1)=true:=by simp
        have he2:=ZT (Jv L) i (by rw[JH];exact hiL);have hp2:=ZS (Jv L) i (by rw[JH];exact hiL);rw[XE L i hiL] at he2 hp2;have w1e:IntKind.i64.wrap (e+1)=e+1:=EJ _ (by omega);have w2e:IntKind.i64.wrap (((i+1:Nat):Int) - 1)=(i:Int):=by rw[show (((i+1:Nat):Int) - 1)=(i:Int) by omega];exact EJ _ (by omega)
        have hpe:=HP.out;rw[hp2] at hpe;have hin:(0:Int)<=(i:Int)/\(i:Int) < (n:Int):=by omega
        by_cases c4:lo=e+1
        ·subst c4;obtain⟨b',o',e',hbb',p0,p1,p2⟩:=(HR.out.below (Jg (HB1.out) Zr)).zone hiL;obtain⟨hvl2,hRv2⟩:=HR.out.each _ (En hiL);obtain⟨rfl,rfl⟩:b=b'/\o=o':=by injection e' with e';injection e' with e1 e2;exact⟨e1,e2⟩
         generalize L[i]=q2 at p0 p1 p2 hvl2 hRv2 hpe;obtain⟨⟨Ai,ni,ci⟩,⟨lo2,hi2⟩,u2⟩:=q2;dsimp only at p0 p1 p2 hvl2 hRv2 hpe;have G:=fun m=>Jem Av Ai nv cv ni ci u u2 (w1.drewN m) HVL.out hvl2 (((HRV.out.below HB1.out).more HB1.out.size).drewN m) (((hRv2.below HB1.out).more HB1.out.size).drewN m);have HPE:=Ja hpe;have e8:IntKind.i64.wrap (i:Int)=(i:Int):=EJ _ (by omega);have e9:(((i+1:Nat):Int) - 1)=(i:Int):=by omega
         clear hpe he2 hp2 p0 p1 e' hbb' hvl2 hRv2;by_cases c5:u=u2
         ·have HN:=Ja (show zF (-1) none (Jv L)=false by rw[HDD.out,HSS.out,HPE.out,c5];simp);simp only[Eu c5] at G;have G:=Ja G;clear c5;go_wp2;go_quiet ((go_at_call 160;exact GG (G.out _)));go_wp2;go_ret;exact⟨by rw[HN.out];rfl,Jr HB1.out _⟩
         ·have HN:=Ja (show zF (-1) none (Jv L)=zF hi (some u) ((Jv L).drop (i+1+1)) by rw[HDD.out,HSS.out,HPE.out,Ew (show ¬ some u2=some u from fun h=>c5 (Fq h).symm)];simp);simp only[Ew c5] at G;have G:=Ja G;clear c5;go_wp2;go_quiet ((go_at_call 160;exact GG (G.out _)));go_wp2;go_roundw
          case rel=>exact⟨i+1+1,by omega,by go_num,by rw[HE1.out],by rw[HE1.out];omega,Jr HB1.out _,by show _=_;rw[HN.out,HE1.out,HP1.out]⟩
          case measure=>simp[intOf];omega
        ·have HN:=Ja (show zF (-1) none (Jv L)=zF hi (some u) ((Jv L).drop (i+1+1)) by rw[HDD.out,HSS.out,Ew c4];simp);have d4:(lo == e+1)=false:=by simpa using c4
         clear hpe he2 hp2 c4;go_wp2;go_quiet (fail);go_wp2;go_roundw
         case rel=>exact⟨i+1+1,by omega,by go_num,by rw[HE1.out],by rw[HE1.out];omega,Jr HB1.out _,by show _=_;rw[HN.out,HE1.out,HP1.out]⟩
         case measure=>simp[intOf];omega
  ·obtain rfl:k=n:=by omega
   have HN:=Ja (show zF (-1) none (Jv L)=true by rw[hr.out,HE.out _ _ _ (by rw[JH,HL.out];exact Ek _)]);clear hr;go_wp2;go_ret;exact⟨by rw[HN.out];rfl,hb⟩
theorem Zk {w w':World} (hb:Bz w w') (row:Option Nat):w.grownBy w' row:=⟨hb.os,hb.tape,hb.output,hb.size,fun k hk _=>hb.block k hk⟩
structure BV where
 A:OA
 c:Nat
def bvl (p:BV×Wq.Bd):List Value:=[.int .i64 p.2.o,.int .i64 p.2.s.1,.int .i64 p.2.s.2,.slice p.1.A p.2.v.length p.1.c]
def KU (L:List (BV×Wq.Bd)):List Value:=L.flatMap bvl
def JG (L:List (BV×Wq.Bd)):List Wq.Bd:=L.map (·.2)
theorem Jt (L:List (BV×Wq.Bd)):(JG L).length=L.length:=by simp[JG]
theorem Xr (L:List (BV×Wq.Bd)) (k:Nat) (h:k < L.length):(JG L)[k]'(by rw[Jt];exact h)=L[k].2:=by simp[JG]
theorem Kb (L M:List (BV×Wq.Bd)):JG (L++M)=JG L++JG M:=by simp[JG]
theorem JaY (L M:List (BV×Wq.Bd)):KU (L++M)=KU L++KU M:=by simp[KU]
theorem Jlc (L:List (BV×Wq.Bd)) (k:Nat) (h:k < L.length) (j:Nat) (hj:j < 4):(KU L)[k * 4+j]?=(bvl L[k])[j]?:=ZZ bvl 4 (by decide) L (fun _ _=>rfl) k h j hj
theorem Uc (L:List (BV×Wq.Bd)):(KU L).length=L.length * 4:=Xw bvl 4 L (fun _ _=>rfl)
theorem UO (p:BV×Wq.Bd):∀u∈bvl p,u.oneCell'=true:=by
 intro u hu;simp only[bvl,EE,Gd,Rb] at hu;rcases hu with h | h | h | h<;>subst h<;>rfl
theorem JbK (L:List (BV×Wq.Bd)):∀u∈KU L,u.oneCell'=true:=by
 intro u hu;simp only[KU,Gy] at hu;obtain⟨p,_,hp⟩:=hu;exact UO p u hp
structure QI (w:World) (B:Nat) (A:OA) (n c:Nat) (L:List (BV×Wq.Bd)):Prop where
 len:L.length=n
 rd:Rd w B 4 A n c (KU L)
 each:∀p∈L,Rd w B 1 p.1.A p.2.v.length p.1.c (bv p.2.v)
 wf:∀p∈L,(Lit.int .i64 p.2.o).wf=true
theorem QI.go {w w':World} {A:OA} {n c:Nat} {L:List (BV×Wq.Bd)} (h:QI w w.heap.size A n c L) (hb:Bz w w'):QI w' w'.heap.size A n c L:=⟨h.len,h.rd.go hb,fun p hp=>(h.each p hp).go hb,h.wf⟩
theorem QI.below {w w':World} {B:Nat} {A:OA} {n c:Nat} {L:List (BV×Wq.Bd)} (h:QI w B A n c L) (hb:Below B w w'):QI w' B A n c L:=⟨h.len,h.rd.below hb,fun p hp=>(h.each p hp).below hb,h.wf⟩
theorem QI.more {w:World} {B B':Nat} {A:OA} {n c:Nat} {L:List (BV×Wq.Bd)} (h:QI w B A n c L) (hb:B<=B'):QI w B' A n c L:=⟨h.len,h.rd.more hb,fun p hp=>(h.each p hp).more hb,h.wf⟩
theorem QI.none_ (w:World) (B:Nat):QI w B none 0 0 []:=⟨rfl,Rd.none_,(fun p hp=>by cases hp),(fun p hp=>by cases hp)⟩
theorem QI.body {w:World} {B n c k:Nat} {A:OA} {L:List (BV×Wq.Bd)} (h:QI w B A n c L) (hk:k < L.length):
  ∃b o,A=some ⟨b,o,none⟩/\b < B/\w.cell? ⟨b,o+k * 4,none⟩=some (.int .i64 L[k].2.o)/\w.cell? ⟨b,o+k * 4+1,none⟩=some (.int .i64 L[k].2.s.1) /\
   w.cell? ⟨b,o+k * 4+2,none⟩=some (.int .i64 L[k].2.s.2)/\w.cell? ⟨b,o+k * 4+3,none⟩=some (.slice L[k].1.A L[k].2.v.length L[k].1.c):=by
 have hl:=h.len;obtain⟨b,o,rfl,hb,hc⟩:=h.rd.plain (by omega) (by decide);have e:∀j,j < 4->∀u,(bvl L[k])[j]?=some u->w.cell? ⟨b,o+k * 4+j,none⟩=some u:=fun j hj u hu=>by
  rw[NK];exact hc (k * 4+j) u (by rw[Jlc L k hk j hj,hu])
 exact⟨b,o,rfl,hb,e 0 (by decide) _ rfl,e 1 (by decide) _ rfl,e 2 (by decide) _ rfl,e 3 (by decide) _ rfl⟩
theorem QI.max {w:World} {B n c:Nat} {A:OA} {L:List (BV×Wq.Bd)} (h:QI w B A n c L):n<=9223372036854775807:=by
 have h1:=h.rd.cap;have h2:=h.rd.max;unfold maxLen at h2;omega
theorem JcZ (l:List Wq.Bd) (k:Nat) (h:k < l.length):JC (l.take (k+1))=JC (l.take k)+l[k].v.length:=by
 rw[NR,Em h];exact Jid _ _
theorem JcI:∀(l:List Wq.Bd) (k:Nat),JC (l.take k)<=JC l
 | [],k=>by simp
 | x :: r,0=>by simp[JC]
 | x :: r,k+1=>by rw[List.take_succ_cons,JC,JC];have:=JcI r k;omega
theorem Jax:∀(l:List Wq.Bd) (Xm:List Int),Qz Xm l=true->JC l<=256 * l.length
 | [],_,_=>by simp[JC]
 | x :: r,Xm,h=>by
  rw[Qz,Ea,Ea] at h;have h1:=Jax r _ h.2;have h2:=((Wq.Zs x).1 h.1.2).2.2.2.2.2;rw[JC,List.length_cons];omega
theorem OS (A:OA) (n c:Nat) (L:List (BV×Wq.Bd)) (w:World) (hR:QI w w.heap.size A n c L) (hu:JC (JG L)<=9223372036854775807):
  Calls prog 163 #[.slice A n c] w fun e w'=>e=.returned (.int .i64 (JC (JG L):Nat))/\Bz w w':=by
 have hmax:=hR.max;have HL:=Ja hR.len;have HW:=Ja fun (W:World) (hb:Bz w W) k (hk:k < L.length)=>(hR.below hb).body hk;have HS:=Ja fun k (hk:k < (JG L).length)=>JcZ (JG L) k hk;have HE:=Ja fun k=>JcI (JG L) k;clear hR;go_enter func163,ntmps163;go_wp2;go_loopw [3,8] (fun a i wr=>∃(j:Nat),j<=n/\i=.int .i64 j/\a=.int .i64 (JC ((JG L).take j):Nat)/\Bz w wr) (fun _ i _=>n - (intOf i).toNat)
 case atStart=>exact⟨0,by omega,rfl,rfl,Ec _ _⟩
 case round=>
  obtain⟨j,hj,rfl,rfl,hb⟩:=hrel;by_cases hlt:j < n
  ·have hjl:j < L.length:=by rw[HL.out];exact hlt
   obtain⟨b,o,rfl,hbb,g0,g1,g2,g3⟩:=HW.out wr hb j hjl;have hs:=HS.out j (by rw[Jt];exact hjl);have hle:=HE.out (j+1);rw[Xr L j hjl] at hs;have HN:=Ja hs;have e1:((JC ((JG L).take j):Nat):Int)+(L[j].2.v.length:Int)=((JC ((JG L).take (j+1)):Nat):Int):=by rw[hs];omega
   have e2:IntKind.i64.wrap ((JC ((JG L).take (j+1)):Nat):Int)=((JC ((JG L).take (j+1)):Nat):Int):=EJ _ (by omega);obtain⟨u2,hu2⟩:∃u2,u2=JC ((JG L).take (j+1)):=⟨_,rfl⟩;have HU:=Ja hu2;rw[<-hu2] at e1 e2 HN;clear hu2;generalize JC ((JG L).take j)=u1 at e1 HN ⊢;generalize L[j].2.o=x0 at g0;generalize L[j].2.s.1=x1 at g1;generalize L[j].2.s.2=x2 at g2;generalize L[j].2.v.length=m at g3 e1 HN;generalize L[j].1.A=x3 at g3;generalize L[j].1.c=x4 at g3;clear hs hle;have HB:=Ja (hb.alloc hb.size (.cells #[.int .i64 x0,.int .i64 x1,.int .i64 x2,.slice x3 m x4] 31));go_wp2;go_roundw
   case rel=>exact⟨j+1,by omega,by go_num,by rw[<-HU.out],HB.out⟩
   case measure=>simp[intOf];omega
  ·obtain rfl:j=n:=by omega
   have HN:=Ja (show JC ((JG L).take j)=JC (JG L) by rw[Eo (by rw[Jt,HL.out];exact Ek _)]);rw[HN.out];go_wp2;go_ret;exact⟨rfl,hb⟩
theorem OR (A:OA) (n c:Nat) (L:List (BV×Wq.Bd)) (w:World) (hR:QI w w.heap.size A n c L) (hu:JC (JG L)<=9223372036854775807):
  Calls prog 156 #[.slice A n c] w fun e w'=>e=.returned (.int .i64 (JC (JG L):Nat))/\Bz w w':=by
 have hmax:=hR.max;have HL:=Ja hR.len;have HW:=Ja fun (W:World) (hb:Bz w W) k (hk:k < L.length)=>(hR.below hb).body hk;have HS:=Ja fun k (hk:k < (JG L).length)=>JcZ (JG L) k hk;have HE:=Ja fun k=>JcI (JG L) k;clear hR;go_enter func156,ntmps156;go_wp2;go_loopw [3,4] (fun a i wr=>∃(j:Nat),j<=n/\i=.int .i64 j/\a=.int .i64 (JC ((JG L).take j):Nat)/\Bz w wr) (fun _ i _=>n - (intOf i).toNat)
 case atStart=>exact⟨0,by omega,rfl,rfl,Ec _ _⟩
 case round=>
  obtain⟨j,hj,rfl,rfl,hb⟩:=hrel;by_cases hlt:j < n
  ·have hjl:j < L.length:=by rw[HL.out];exact hlt
   obtain⟨b,o,rfl,hbb,g0,g1,g2,g3⟩:=HW.out wr hb j hjl;have hs:=HS.out j (by rw[Jt];exact hjl);have hle:=HE.out (j+1);rw[Xr L j hjl] at hs;have HN:=Ja hs;have e1:((JC ((JG L).take j):Nat):Int)+(L[j].2.v.length:Int)=((JC ((JG L).take (j+1)):Nat):Int):=by rw[hs];omega
   have e2:IntKind.i64.wrap ((JC ((JG L).take (j+1)):Nat):Int)=((JC ((JG L).take (j+1)):Nat):Int):=EJ _ (by omega);obtain⟨u2,hu2⟩:∃u2,u2=JC ((JG L).take (j+1)):=⟨_,rfl⟩;have HU:=Ja hu2;rw[<-hu2] at e1 e2 HN;clear hu2;generalize JC ((JG L).take j)=u1 at e1 HN ⊢;generalize L[j].2.o=x0 at g0;generalize L[j].2.s.1=x1 at g1;generalize L[j].2.s.2=x2 at g2;generalize L[j].2.v.length=m at g3 e1 HN;generalize L[j].1.A=x3 at g3;generalize L[j].1.c=x4 at g3;clear hs hle;have HB:=Ja hb;go_wp2;go_roundw
   case rel=>exact⟨j+1,by omega,by go_num,by rw[<-HU.out],HB.out⟩
   case measure=>simp[intOf];omega
  ·obtain rfl:j=n:=by omega
   have HN:=Ja (show JC ((JG L).take j)=JC (JG L) by rw[Eo (by rw[Jt,HL.out];exact Ek _)]);rw[HN.out];go_wp2;go_ret;exact⟨rfl,hb⟩
theorem ZD (x:Wq.Bd) (A:OA) (c:Nat) (w:World):
  Calls prog 162 #[.agg (JO x A c)] w fun e w'=>e=.returned (.bool (Wq.bdF x))/\Bz w w':=by
 obtain⟨o,⟨a,b⟩,v⟩:=x;unfold JO Wq.bdF;dsimp only;generalize v.length=n;have hX:=Jm.new w 31 #[.int .i64 o,.int .i64 a,.int .i64 b,.slice A n c];have hb0:Bz w (w.alloc (.cells #[.int .i64 o,.int .i64 a,.int .i64 b,.slice A n c] 31)):=Zr.alloc Zl _;have HX:=Ja hX;have HB:=Ja hb0;have HG:=Ja fun W=>Yz a b W;have e2:decide (n<=256)=decide ((n:Int)<=256):=by rw[EM];simp;omega
 rw[e2];clear hX hb0 e2;generalize Vc.right (a,b)=z at HG;by_cases h0:0<=o
 ·by_cases h1:o < 256
  ·have e1:decide (o<=255)=true:=by simp;omega
   have h2:o<=255:=by omega
   rw[Eu h0,e1];simp only[Fb];rcases z with _ | _
   all_goals
    go_enter func162,ntmps162;go_wp2_with (go_at_call 159;go_must (refine Jd (HG.out _) fun w1 hb1=>?_);have q2:=(HX.out.go hb1).cell 3);go_ret;exact⟨rfl,Jg HB.out hb1⟩
  ·have e1:decide (o<=255)=false:=by simp;omega
   have h2:¬ o<=255:=by omega
   rw[Eu h0,e1];simp only[Fb,FZ];go_enter func162,ntmps162;go_wp2;go_ret;exact⟨rfl,HB.out⟩
 ·rw[Ew h0];simp only[FZ];go_enter func162,ntmps162;go_wp2;go_ret;exact⟨rfl,HB.out⟩
def JdO (s:List Int):DataW Unit:=Maps.setOf (.lit (.bool true)) (s.map (Lit.int .i64))
theorem Jel (s:List Int) (o:Int):JdO (s++[o])=(JdO s).put (.int .i64 o) (.lit (.bool true)):=by
 unfold JdO;rw[GM];exact Maps.setOf_snoc _ _ _
theorem JjD (s:List Int):Maps.IsMap (JdO s):=by
 refine Maps.Tidy.isMap (Maps.tidy_setOf _ _ fun x hx=>?_);obtain⟨y,_,rfl⟩:=Gp.1 hx;trivial
theorem JkQ (s:List Int) (o:Int):(JdO s).atKey (.int .i64 o) (.lit (.bool false))=.lit (.bool (s.contains o)):=by
 obtain⟨r,rfl⟩:∃r,s=r.reverse:=⟨s.reverse,(List.reverse_reverse s).symm⟩
 induction r with
 | nil=>rfl
 | cons x r ih=>
  rw[List.reverse_cons,Jel];by_cases h:o=x
  ·subst h;rw[Maps.atKey_put_same (JjD _) (show WideAt.IsKeyLit (.int .i64 o) from trivial)];simp
  ·rw[Maps.atKey_put_other (by intro h2;injection h2 with _ h2;exact h h2),ih];congr 2;simp[h]
theorem Jbc (w:World):(zeroValue 4).run prog w=.ok (.bool false) w:=rfl
theorem JlM (l:List Wq.Bd) (room:Int) (h1:0<=room) (h2:room<=16777216) (h3:l.length<=256):caF l room=(Qz [] l && decide ((JC l:Int)<=room)):=by
 unfold caF;rw[Eu h1,Eu h2,Eu h3];rfl
theorem Jbw (l:List Wq.Bd) (room:Int) (h:¬ (0<=room/\room<=16777216/\l.length<=256)):caF l room=false:=by
 unfold caF;by_cases h1:0<=room
 ·by_cases h2:room<=16777216
  ·rw[Ew (fun h3:l.length<=256=>h ⟨h1,h2,h3⟩)];simp
  ·rw[Ew h2];simp
 ·rw[Ew h1];simp
theorem YZ (A:OA) (n c:Nat) (L:List (BV×Wq.Bd)) (room:Int) (w:World) (hR:QI w w.heap.size A n c L):
  Calls prog 94 #[.slice A n c,.int .i64 room] w fun e w'=>e=.returned (.bool (caF (JG L) room))/\Bz w w':=by
 have hmax:=hR.max;have hmm:=@run_makeMap prog;have HL:=Ja hR.len;have HRR:=Ja hR;by_cases r1:room < 0
 ·have HN:=Ja (Jbw (JG L) room (by omega));rw[HN.out];go_enter func94,ntmps94;go_wp2;go_ret;exact⟨rfl,Ec _ _⟩
 by_cases r2:room > 16777216
 ·have HN:=Ja (Jbw (JG L) room (by omega));rw[HN.out];go_enter func94,ntmps94;go_wp2;go_ret;exact⟨rfl,Ec _ _⟩
 by_cases r3:(n:Int) > 256
 ·have HN:=Ja (Jbw (JG L) room (by rw[Jt,HL.out];omega));rw[HN.out];go_enter func94,ntmps94;go_wp2;go_ret;exact⟨rfl,Ec _ _⟩
 have HC:=Ja (JlM (JG L) room (by omega) (by omega) (by rw[Jt,HL.out];omega));have HW:=Ja fun (W:World) (hb:Bz w W) k (hk:k < L.length)=>(hR.below hb).body hk;have HD:=Ja fun Xm k h=>Jco Xm (JG L) k h;rw[HC.out];clear hR;go_enter func94,ntmps94;go_wp2;go_loopw [22] (fun i wr=>∃(j:Nat),j<=n/\i=.int .i64 j/\Bz w wr/\wr.ownsMap prog 3 (plainElem prog 4) w.heap.size j (JdO (((JG L).take j).map (·.o)))/\Hid (Qz [] (JG L)=Qz (((JG L).take j).map (·.o)) ((JG L).drop j))) (fun i _=>n - (intOf i).toNat)
 case atStart=>exact⟨0,by omega,rfl,Zr.alloc Zl _,World.ownsMap_made _ _ _ _,Ja rfl⟩
 case round=>
  obtain⟨j,hj,rfl,hb,hown,hr⟩:=hrel;by_cases hlt:j < n
  ·have hjl:j < L.length:=by rw[HL.out];exact hlt
   have hjb:j < (JG L).length:=by rw[Jt];exact hjl
   obtain⟨b,o,rfl,hbb,g0,g1,g2,g3⟩:=HW.out wr hb j hjl;have hwf:=HRR.out.wf _ (En hjl);have hkey:keyOf prog 3 (.int .i64 L[j].2.o)=some (.int .i64 L[j].2.o):=Maps.keyOf_int_mk underlying3 hwf;have hd:=hr.out.trans (HD.out _ j hjb);have htk:((JG L).take (j+1)).map (·.o)=((JG L).take j).map (·.o)++[L[j].2.o]:=by rw[NR,Em hjb,GM,Xr L j hjl];rfl
   rw[Xr L j hjl] at hd;have hat:=JkQ (((JG L).take j).map (·.o)) L[j].2.o;have hput:=Jel (((JG L).take j).map (·.o)) L[j].2.o;have G0:=fun W=>ZD L[j].2 L[j].1.A L[j].1.c W;unfold JO at G0;generalize Wq.bdF L[j].2=z at G0 hd;have G:=Ja G0;have HDD:=Ja hd;have HTK:=Ja htk;have HPUT:=Ja hput;generalize ((JG L).take j).map (·.o)=Xm at hown hat HTK HPUT HDD;generalize L[j].2.o=x0 at g0 hwf hkey hat G HDD HTK HPUT;generalize L[j].2.s.1=x1 at g1 G;generalize L[j].2.s.2=x2 at g2 G;generalize L[j].2.v.length=m at g3 G;generalize L[j].1.A=x3 at g3 G;generalize L[j].1.c=x4 at g3 G;have HB:=Ja (hb.alloc hb.size (.cells #[.int .i64 x0,.int .i64 x1,.int .i64 x2,.slice x3 m x4] 31));have HX:=Ja (Jm.new wr 31 #[.int .i64 x0,.int .i64 x1,.int .i64 x2,.slice x3 m x4]);have HO1:=Ja (hown.alloc (.cells #[.int .i64 x0,.int .i64 x1,.int .i64 x2,.slice x3 m x4] 31));generalize Xm.contains x0=c0 at hat HDD;have HAT:=Ja hat;have hbz:=hb.size;clear hown hd htk hput hat G0 hr hb hbb;cases c0
   ·cases z
    ·have HN:=Ja (show Qz [] (JG L)=false by rw[HDD.out];rfl);go_wp2_with (first
      | (at_lookup;refine Xf _ rfl _ _ 193 rfl 3 4 (Rj underlying3) underlying193 underlying4 (Jbc _) w.heap.size j _ rfl HO1.out _ _ rfl hkey ?_;intro c hc;rw[HAT.out] at hc;injection hc with hc;injection hc with hc;subst hc)
      | (go_at_call 162;go_must (refine Jd (G.out _) fun w1 hb1=>?_);have HB1:=Ja (Jg HB.out hb1);have HO2:=Ja (HO1.out.kept (Zk hb1 none) (by simp));obtain⟨y0,y1,y2,y3⟩:=(HX.out.go hb1).quad;clear hb1)
      | go_in)
     go_ret;exact⟨by rw[HN.out];rfl,HB1.out⟩
    ·have HN:=Ja (show Qz [] (JG L)=Qz (Xm++[x0]) ((JG L).drop (j+1)) by rw[HDD.out];rfl);go_wp2_with (first
      | (at_lookup;refine Xf _ rfl _ _ 193 rfl 3 4 (Rj underlying3) underlying193 underlying4 (Jbc _) w.heap.size j _ rfl HO1.out _ _ rfl hkey ?_;intro c hc;rw[HAT.out] at hc;injection hc with hc;injection hc with hc;subst hc)
      | (go_at_call 162;go_must (refine Jd (G.out _) fun w1 hb1=>?_);have HB1:=Ja (Jg HB.out hb1);have HO2:=Ja (HO1.out.kept (Zk hb1 none) (by simp));obtain⟨y0,y1,y2,y3⟩:=(HX.out.go hb1).quad;clear hb1)
      | (at_mapUpdate;refine wpList_mapUpdate_own _ rfl _ _ _ 193 rfl 3 4 (Rj underlying3) underlying193 (plainElem (H:=Unit) prog 4) w.heap.size j _ rfl HO2.out (by unfold maxLen;omega) _ _ _ rfl rfl hkey _ [] (plainElem_bool underlying4 true) ?_;intro w2 hown2 hgrow2;have HO3:=Ja hown2;have HB2:=Ja (HB1.out.grown hgrow2 HB1.out.size (fun j hj=>by cases hj;exact Ek _));clear hown2 hgrow2)
      | go_in)
     go_roundw
     case rel=>exact⟨j+1,by omega,by go_num,HB2.out,by rw[HTK.out,HPUT.out];exact HO3.out,by rw[HTK.out];exact HN⟩
     case measure=>simp[intOf];omega
   ·have HN:=Ja (show Qz [] (JG L)=false by rw[HDD.out];rfl);go_wp2_with (first
     | (at_lookup;refine Xf _ rfl _ _ 193 rfl 3 4 (Rj underlying3) underlying193 underlying4 (Jbc _) w.heap.size j _ rfl HO1.out _ _ rfl hkey ?_;intro c hc;rw[HAT.out] at hc;injection hc with hc;injection hc with hc;subst hc)
     | go_in)
    go_ret;exact⟨by rw[HN.out];rfl,HB.out⟩
  ·obtain rfl:j=n:=by omega
   have HN:=Ja (show Qz [] (JG L)=true by rw[hr.out,Ed (by rw[Jt,HL.out];exact Ek _)];rfl);have G:=Ja (OS A j c L wr ((HRR.out.below hb).more hb.size) (by have:=Jax _ _ HN.out;rw[Jt,HL.out] at this;omega));clear hr;go_wp2_with fail;refine Jd G.out fun w1 hb1=>?_;have HB:=Ja (Jg hb hb1);clear hb1;generalize hu:JC (JG L)=u;have HU:=Ja hu;clear hu;go_wp2;go_ret;exact⟨by rw[HN.out,HU.out];rfl,HB.out⟩
def Jgd (s:List Int):Nat->Bool:=fun n=>s.contains (n:Int)
theorem Jkc (s:List Int) (o:Nat) (n:Nat):JaD (Jgd s) o true n=Jgd (s++[(o:Int)]) n:=by
 unfold JaD Jgd;by_cases e:n=o
 ·subst e;simp
 ·rw[Ef e];have:¬ ((n:Int)=(o:Int)):=by omega
  simp[this]
theorem Uv (A:OA) (n c:Nat) (L:List (BV×Wq.Bd)) (room:Int) (w:World) (hR:QI w w.heap.size A n c L):
  Calls prog 87 #[.slice A n c,.int .i64 room] w fun e w'=>e=.returned (.bool (caF (JG L) room))/\Bz w w':=by
 obtain⟨hz,hi⟩:=FG Uk;have HI:=Ja hi;clear hi;have hmax:=hR.max;have HL:=Ja hR.len;have HRR:=Ja hR;by_cases r1:room < 0
 ·have HN:=Ja (Jbw (JG L) room (by omega));rw[HN.out];go_enter func87,ntmps87;go_wp2;go_ret;exact⟨rfl,Ec _ _⟩
 by_cases r2:room > 16777216
 ·have HN:=Ja (Jbw (JG L) room (by omega));rw[HN.out];go_enter func87,ntmps87;go_wp2;go_ret;exact⟨rfl,Ec _ _⟩
 by_cases r3:(n:Int) > 256
 ·have HN:=Ja (Jbw (JG L) room (by rw[Jt,HL.out];omega));rw[HN.out];go_enter func87,ntmps87;go_wp2;go_ret;exact⟨rfl,Ec _ _⟩
 have HC:=Ja (JlM (JG L) room (by omega) (by omega) (by rw[Jt,HL.out];omega));have HW:=Ja fun (W:World) (hb:Bz w W) k (hk:k < L.length)=>(hR.below hb).body hk;have HD:=Ja fun Xm k h=>Jco Xm (JG L) k h;rw[HC.out];clear hR;go_enter func87,ntmps87;go_wp2;go_loopw [6] (fun i wr=>∃(j:Nat),j<=n/\i=.int .i64 j/\Bz w wr/\Jm wr w.heap.size 149 (Xv (Jgd (((JG L).take j).map (·.o))))/\Hid (Qz [] (JG L)=Qz (((JG L).take j).map (·.o)) ((JG L).drop j))) (fun i _=>n - (intOf i).toNat)
 case atStart=>exact⟨0,by omega,rfl,Zr.alloc Zl _,Jm.new _ _ _,Ja rfl⟩
 case round=>
  obtain⟨j,hj,rfl,hb,hblk,hr⟩:=hrel;by_cases hlt:j < n
  ·have hjl:j < L.length:=by rw[HL.out];exact hlt
   have hjb:j < (JG L).length:=by rw[Jt];exact hjl
   obtain⟨b,o,rfl,hbb,g0,g1,g2,g3⟩:=HW.out wr hb j hjl;have hd:=hr.out.trans (HD.out _ j hjb);have htk:((JG L).take (j+1)).map (·.o)=((JG L).take j).map (·.o)++[L[j].2.o]:=by rw[NR,Em hjb,GM,Xr L j hjl];rfl
   rw[Xr L j hjl] at hd;have G0:=fun W=>QE L[j].2 L[j].1.A L[j].1.c W;have hpos:Wq.bdF L[j].2=true->0<=L[j].2.o/\L[j].2.o<=255:=fun h=>⟨((Wq.Zs _).1 h).1,((Wq.Zs _).1 h).2.1⟩;unfold JO at G0;generalize Wq.bdF L[j].2=z at G0 hd hpos;have G:=Ja G0;have HDD:=Ja hd;have HTK:=Ja htk;generalize ((JG L).take j).map (·.o)=Xm at hblk HTK HDD;generalize L[j].2.o=x0 at g0 G HDD HTK hpos;generalize L[j].2.s.1=x1 at g1 G;generalize L[j].2.s.2=x2 at g2 G;generalize L[j].2.v.length=m at g3 G;generalize L[j].1.A=x3 at g3 G;generalize L[j].1.c=x4 at g3 G;have HB:=Ja hb;have HK:=Ja hblk;have hw:w.heap.size < wr.heap.size:=hblk.lt;have hlb:b < wr.heap.size:=by omega
   have HG0:=Ja g0;clear hblk hd htk G0 hr hb;cases z
   ·have HN:=Ja (show Qz [] (JG L)=false by rw[HDD.out];simp);clear hpos;go_wp2_with (go_at_call 44;go_must (refine Jd (G.out _) fun w1 hb1=>?_);have HB1:=Ja (Jg HB.out hb1);clear hb1);go_ret;exact⟨by rw[HN.out];rfl,HB1.out⟩
   ·obtain⟨p1,p2⟩:=hpos rfl;obtain⟨u,rfl⟩:∃u:Nat,x0=(u:Int):=⟨x0.toNat,by omega⟩;have hu:u < 256:=by omega
    have HC0:Hid ((Xv (Jgd Xm))[u]?=some (.bool (Xm.contains (u:Int)))):=Ja (YJ _ _ hu);generalize hc0:Xm.contains (u:Int)=c0 at HC0 HDD;clear hpos p1 p2 hc0;cases c0
    ·have HN:=Ja (show Qz [] (JG L)=Qz (Xm++[(u:Int)]) ((JG L).drop (j+1)) by rw[HDD.out];rfl);go_wp2_with (go_at_call 44;go_must (refine Jd (G.out _) fun w1 hb1=>?_);have HB1:=Ja (Jg HB.out hb1);have HK1:=Ja (HK.out.go hb1);have g0x:=(hb1.cell (p:=⟨b,o+j * 4,none⟩) hlb).trans HG0.out;have gu:=HK1.out.cell u;rw[HC0.out] at gu;have fu:=HK1.out.frozen u;clear hb1);go_roundw
     case rel=>
      refine⟨j+1,by omega,by go_num,HB1.out.setCell (p:=⟨w.heap.size,u,none⟩) Zl _,?_,by rw[HTK.out];exact HN⟩;have h5:=HK1.out.set_ u (.bool true);rw[JcM _ _ _ hu,Ug (fun n _=>Jkc Xm u n)] at h5;rw[HTK.out];exact h5
     case measure=>simp[intOf];omega
    ·have HN:=Ja (show Qz [] (JG L)=false by rw[HDD.out];rfl);go_wp2_with (go_at_call 44;go_must (refine Jd (G.out _) fun w1 hb1=>?_);have HB1:=Ja (Jg HB.out hb1);have HK1:=Ja (HK.out.go hb1);have g0x:=(hb1.cell (p:=⟨b,o+j * 4,none⟩) hlb).trans HG0.out;have gu:=HK1.out.cell u;rw[HC0.out] at gu;have fu:=HK1.out.frozen u;clear hb1);go_ret;exact⟨by rw[HN.out];rfl,HB1.out⟩
  ·obtain rfl:j=n:=by omega
   have HN:=Ja (show Qz [] (JG L)=true by rw[hr.out,Ed (by rw[Jt,HL.out];exact Ek _)];rfl);have G:=Ja (OR A j c L wr ((HRR.out.below hb).more hb.size) (by have:=Jax _ _ HN.out;rw[Jt,HL.out] at this;omega));clear hr;go_wp2_with fail;refine Jd G.out fun w1 hb1=>?_;have HB:=Ja (Jg hb hb1);clear hb1;generalize hu:JC (JG L)=u;have HU:=Ja hu;clear hu;go_wp2;go_ret;exact⟨by rw[HN.out,HU.out];rfl,HB.out⟩
end Go.Proofs.YtmbeahbgafkjfaaGreatDoor
