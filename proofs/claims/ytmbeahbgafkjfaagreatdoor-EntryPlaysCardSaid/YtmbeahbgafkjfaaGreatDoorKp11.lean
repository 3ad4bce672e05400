/- Lemmas, layer 11. -/
import Derived.Test.YtmbeahbgafkjfaaGreatDoorKp10
set_option linter.unusedSimpArgs false
set_option maxRecDepth 100000
set_option maxHeartbeats 16000000
namespace Go.Proofs.YtmbeahbgafkjfaaGreatDoor
open Go.Proofs.Tryz Go.RowKit
theorem Jm.two2 {w:World} {g:Nat} {t:TypeId} {a b:Value} (h:Jm w g t #[a,b]):w.cell? ⟨g,0,none⟩=some a/\w.cell? ⟨g,1,none⟩=some b:=⟨h.cell 0,h.cell 1⟩
theorem XZ (A:OA) (n c:Nat) (L:List (ZV×Zn)) (w:World) (hR:Zc w w.heap.size A n c L):
  Calls prog 85 #[.slice A n c] w fun e w'=>e=.returned (.bool (zF (-1) none (Jv L)))/\Bz w w':=by
 have hmax:=hR.max;have hln:=hR.len;have HL:=Ja hln;have HR:=Ja hR;have HD:=Ja fun e p k h=>Jix e p (Jv L) k h;have HE:=Ja fun e p k h=>Jma e p (Jv L) k h;clear hR hln;go_enter func85,ntmps85;go_wp2;go_loopw [3] (fun v3 wr=>∃(k:Nat),k<=n/\v3=.int .i64 k/\(-1<=YH (Jv L) k/\YH (Jv L) k<=255)/\Bz w wr/\Hid (zF (-1) none (Jv L)=zF (YH (Jv L) k) (UV (Jv L) k) ((Jv L).drop k))) (fun v3 _=>n - (intOf v3).toNat)
 case atStart=>exact⟨0,by omega,rfl,by rw[Yb];omega,Ec _ _,by rw[Yb,ZY];rfl⟩
 case round=>
  obtain⟨k,hk,rfl,hre,hb,hr⟩:=hrel;have hbs:=hb.size;by_cases hlt:k < n
  ·have hkL:k < L.length:=by rw[HL.out];exact hlt
   have hkZ:k < (Jv L).length:=by rw[JH];exact hkL
   obtain⟨b,o,rfl,hab,g0,g1,g2⟩:=(HR.out.below hb).zone hkL;obtain⟨hvl,hRv⟩:=HR.out.each _ (En hkL);have hd:=hr.out.trans (HD.out _ _ k hkZ);have he1:=ZT (Jv L) k hkZ;have hp1:=ZS (Jv L) k hkZ;rw[XE L k hkL] at hd he1 hp1;obtain⟨p,hp⟩:∃p,p=UV (Jv L) k:=⟨_,rfl⟩;have HP:=Ja hp;rw[<-hp] at hd;obtain⟨e,he⟩:∃e,e=YH (Jv L) k:=⟨_,rfl⟩;have HEE:=Ja he;rw[<-he] at hd hre;generalize hq:L[k]=q at g0 g1 g2 hvl hRv hd he1 hp1;have HQ:=Ja hq;obtain⟨⟨Av,nv,cv⟩,⟨lo,hi⟩,u⟩:=q;dsimp only at g0 g1 g2 hvl hRv hd he1 hp1;have hst:YP e p ((lo,hi),u)=((decide (e < lo) && (decide (lo<=hi) && decide (hi<=255))) && (fm (-1) u && !(decide (p=some u) && decide (lo=e+1)))):=rfl;have hb1:=hb.alloc hbs (.cells #[.int .i64 lo,.int .i64 hi] 63);have hX:=Jm.new wr 63 #[.int .i64 lo,.int .i64 hi];have F:=Xo Av nv cv u _ hvl ((hRv.below hb1).more hb1.size);have g2':=Ny wr (.cells #[.int .i64 lo,.int .i64 hi] 63) ⟨b,o+k * 3+2,none⟩ (Ep _ _ g2);rw[g2] at g2';have HG2:=Ja fun (W:World) (hw:Below (wr.alloc (.cells #[.int .i64 lo,.int .i64 hi] 63)).heap.size (wr.alloc (.cells #[.int .i64 lo,.int .i64 hi] 63)) W)=>(hw.cell (p:=⟨b,o+k * 3+2,none⟩) (Ep _ _ g2')).trans g2';have HB:=Ja hb1;have HX:=Ja hX;have HE1:=Ja he1;have HP1:=Ja hp1;have HVL:=Ja hvl;have HRV:=Ja hRv;have HST:=Ja hst;have HDD:=Ja hd;clear hd hst he1 hp1 hvl hRv hp he hq hX hr hb hab;by_cases c1:lo < 0
   ·have HN:=Ja (show zF (-1) none (Jv L)=false by rw[HDD.out,HST.out];simp[show ¬ e < lo by omega]);go_wp2;go_ret;exact⟨by rw[HN.out];rfl,HB.out⟩
   ·by_cases c2:lo > hi
    ·have HN:=Ja (show zF (-1) none (Jv L)=false by rw[HDD.out,HST.out];simp[show ¬ lo<=hi by omega]);go_wp2;go_ret;exact⟨by rw[HN.out];rfl,HB.out⟩
    ·by_cases c3:hi > 255
     ·have HN:=Ja (show zF (-1) none (Jv L)=false by rw[HDD.out,HST.out];simp[show ¬ hi<=255 by omega]);go_wp2;go_ret;exact⟨by rw[HN.out];rfl,HB.out⟩
     ·rcases hf:fm (-1) u with _ | _
      ·have HN:=Ja (show zF (-1) none (Jv L)=false by rw[HDD.out,HST.out,hf];simp);rw[hf] at F;have F:=Ja F;clear hf;go_wp2_with fail;refine Jd F.out fun w1 hb1=>?_;have HB1:=Ja (Jg HB.out hb1);clear hb1;go_wp2;go_ret;exact⟨by rw[HN.out];rfl,HB1.out⟩
      ·rw[hf] at F;have HSS:=Ja (show YP e p ((lo,hi),u)=(decide (e < lo) && !(decide (p=some u) && decide (lo=e+1))) by rw[HST.out,hf,Eu (show lo<=hi by omega),Eu (show hi<=255 by omega)];simp);have F:=Ja F;clear hf HST;go_wp2_with fail;refine F.out.mono ?_;rintro e' w1 ⟨rfl,hb1⟩;have HB1:=Ja (Jg HB.out hb1);have HX1:=Ja (HX.out.go hb1);have g2:=HG2.out _ hb1;obtain⟨x0,x1⟩:=HX1.out.two2;clear hb1 HB HX F g0 g1 HG2 g2';by_cases hk0:k=0
       ·have hpn:p=none:=by rw[HP.out,hk0,ZY]
        have hen:e=-1:=by rw[HEE.out,hk0,Yb]
        have HN:=Ja (show zF (-1) none (Jv L)=zF hi (some u) ((Jv L).drop (k+1)) by rw[HDD.out,HSS.out,hpn,Eu (show e < lo by omega)];simp);have dk:decide (0 < k)=false:=by simp;omega
        clear hpn hk0 hen g2;go_wp2;go_quiet (fail);go_wp2;go_roundw
        case rel=>exact⟨k+1,by omega,by go_num,by rw[HE1.out];omega,Jr HB1.out _,by show _=_;rw[HN.out,HE1.out,HP1.out]⟩
        case measure=>simp[intOf];omega
       ·obtain⟨i,rfl⟩:∃i,k=i+1:=⟨k - 1,by omega⟩;have hiL:i < L.length:=by omega
        have dk:decide (0 < i+1)=true:=by simp
        have he2:=ZT (Jv L) i (by rw[JH];exact hiL);have hp2:=ZS (Jv L) i (by rw[JH];exact hiL);rw[XE L i hiL] at he2 hp2;have hpe:=HP.out;rw[hp2] at hpe;have hee:=HEE.out;rw[he2] at hee;have hin:(0:Int)<=(i:Int)/\(i:Int) < (n:Int):=by omega
        have e8:IntKind.i64.wrap (i:Int)=(i:Int):=EJ _ (by omega);have e9:(((i+1:Nat):Int) - 1)=(i:Int):=by omega
        have w1e:IntKind.i64.wrap (lo - 1)=lo - 1:=EJ _ (by omega);obtain⟨b',o',e',hbb',p0,p1,p2⟩:=(HR.out.below HB1.out).zone hiL;obtain⟨hvl2,hRv2⟩:=HR.out.each _ (En hiL);obtain⟨rfl,rfl⟩:b=b'/\o=o':=by injection e' with e';injection e' with e1 e2;exact⟨e1,e2⟩
        generalize L[i]=q2 at p0 p1 p2 hvl2 hRv2 hpe hee;obtain⟨⟨Ai,ni,ci⟩,⟨lo2,hi2⟩,u2⟩:=q2;dsimp only at p0 p1 p2 hvl2 hRv2 hpe hee;subst hee;have HPE:=Ja hpe;have G:=fun m=>Jbv Ai Av ni ci nv cv u2 u (w1.drewN m) hvl2 HVL.out (((hRv2.below HB1.out).more HB1.out.size).drewN m) (((HRV.out.below HB1.out).more HB1.out.size).drewN m);clear hpe he2 hp2 p0 e' hbb' hvl2 hRv2;by_cases c6:e ≥ lo
        ·have HN:=Ja (show zF (-1) none (Jv L)=false by rw[HDD.out,HSS.out,Ew (show ¬ e < lo by omega)];rfl);have d6:decide (e ≥ lo)=true:=Eu c6;clear G p2;go_wp2;go_quiet (fail);go_wp2;go_ret;exact⟨by rw[HN.out];rfl,Jr HB1.out _⟩
        ·have d6:decide (e ≥ lo)=false:=Ew c6;have d7:decide (e < lo)=true:=Eu (by omega);by_cases c4:e=lo - 1
         ·obtain rfl:lo=e+1:=by omega
          have d4:(e == e+1 - 1)=true:=by simp
          have w1f:IntKind.i64.wrap (e+1 - 1)=e:=by rw[show e+1 - 1=e by omega];exact EJ _ (by omega)
          have w1g:IntKind.i64.wrap e=e:=EJ _ (by omega);clear c4 w1e;by_cases c5:u2=u
          ·have HN:=Ja (show zF (-1) none (Jv L)=false by rw[HDD.out,HSS.out,HPE.out,c5,d7];simp);simp only[Eu c5] at G;have G:=Ja G;clear c5 c6;go_wp2;go_quiet ((go_at_call 80;exact GG (G.out _)));go_wp2;go_ret;exact⟨by rw[HN.out];rfl,Jr HB1.out _⟩
          ·have HN:=Ja (show zF (-1) none (Jv L)=zF hi (some u) ((Jv L).drop (i+1+1)) by rw[HDD.out,HSS.out,HPE.out,d7,Ew (show ¬ some u2=some u from fun h=>c5 (Fq h))];simp);simp only[Ew c5] at G;have G:=Ja G;clear c5 c6;go_wp2;go_quiet ((go_at_call 80;exact GG (G.out _)));go_wp2;go_roundw
           case rel=>exact⟨i+1+1,by omega,by go_num,by rw[HE1.out];omega,Jr HB1.out _,by show _=_;rw[HN.out,HE1.out,HP1.out]⟩
           case measure=>simp[intOf];omega
         ·have d4:(e == lo - 1)=false:=by simpa using c4
          have HN:=Ja (show zF (-1) none (Jv L)=zF hi (some u) ((Jv L).drop (i+1+1)) by rw[HDD.out,HSS.out,d7,Ew (show ¬ lo=e+1 by omega)];simp);clear G c6 c4 p2;go_wp2;go_quiet (fail);go_wp2;go_roundw
          case rel=>exact⟨i+1+1,by omega,by go_num,by rw[HE1.out];omega,Jr HB1.out _,by show _=_;rw[HN.out,HE1.out,HP1.out]⟩
          case measure=>simp[intOf];omega
  ·obtain rfl:k=n:=by omega
   have HN:=Ja (show zF (-1) none (Jv L)=true by rw[hr.out,HE.out _ _ _ (by rw[JH,HL.out];exact Ek _)]);clear hr;go_wp2;go_ret;exact⟨by rw[HN.out];rfl,hb⟩
def AtZ (L:List (ZV×Zn)) (o:Int) (w:World) (e:Ending) (w':World):Prop:=
 w=w'/\((∃k,∃h:k < L.length,e=.returned (.int .i64 (k:Int))/\(Jv L).find? (Xg o)=some L[k].2)\/(e=.returned (.int .i64 (-1))/\(Jv L).find? (Xg o)=none))
theorem Jeo (o:Int) (z:List Zn) (k:Nat) (h:k < z.length):(z.drop k).find? (Xg o)=if Xg o z[k]=true then some z[k] else (z.drop (k+1)).find? (Xg o):=by
 rw[Eh h,List.find?_cons];rcases Xg o z[k] with _ | _<;>rfl
theorem Jji {o lo hi:Int} {u:List Vc.St} (h:¬ lo<=o):Xg o ((lo,hi),u)=false:=by unfold Xg;simp;omega
theorem Jjf {o lo hi:Int} {u:List Vc.St} (h:¬ o<=hi):Xg o ((lo,hi),u)=false:=by unfold Xg;simp;omega
theorem JiQ {o lo hi:Int} {u:List Vc.St} (h:lo<=o) (h2:o<=hi):Xg o ((lo,hi),u)=true:=by unfold Xg;simp;omega
theorem Jdb (A:OA) (n c:Nat) (L:List (ZV×Zn)) (o:Int) (w:World) (hR:Zc w w.heap.size A n c L):
  Calls prog 199 #[.slice A n c,.int .i64 o] w (AtZ L o w):=by
 have hmax:=hR.max;have hln:=hR.len;have HL:=Ja hln;have HD:=Ja fun k h=>Jeo o (Jv L) k h;have HR:=Ja hR;clear hln hR;go_enter func199,ntmps199;go_wp2;go_loopw [5] (fun v5 wr=>∃(k:Nat),k<=n/\v5=.int .i64 k/\w=wr/\Hid ((Jv L).find? (Xg o)=((Jv L).drop k).find? (Xg o))) (fun v5 _=>n - (intOf v5).toNat)
 case atStart=>exact⟨0,by omega,rfl,rfl,rfl⟩
 case round=>
  obtain⟨k,hk,rfl,rfl,hr⟩:=hrel;by_cases hlt:k < n
  ·have hkL:k < L.length:=by rw[HL.out];exact hlt
   have hkZ:k < (Jv L).length:=by rw[JH];exact hkL
   obtain⟨b,oo,rfl,hab,g0,g1,g2⟩:=HR.out.zone hkL;have hd:=hr.out.trans (HD.out k hkZ);rw[XE L k hkL] at hd;have HK:=Ja hkL;generalize hq:L[k]=q at g0 g1 g2 hd;have HQ:=Ja hq;obtain⟨⟨Av,nv,cv⟩,⟨lo,hi⟩,u⟩:=q;dsimp only at g0 g1 g2 hd;have HDD:=Ja hd;clear hq hd hr hab g2;by_cases c1:lo<=o
   ·by_cases c2:o<=hi
    ·have HN:=Ja (show (Jv L).find? (Xg o)=some ((lo,hi),u) by rw[HDD.out,Ei (JiQ c1 c2)]);go_wp2;go_ret;exact⟨rfl,.inl ⟨k,HK.out,rfl,HN.out.trans (congrArg some (congrArg Prod.snd HQ.out).symm)⟩⟩
    ·have HN:=Ja (show (Jv L).find? (Xg o)=((Jv L).drop (k+1)).find? (Xg o) by rw[HDD.out,Ef (by rw[Jjf c2];simp)]);go_wp2;go_roundw
     case rel=>exact⟨k+1,by omega,by go_num,trivial,HN.out⟩
     case measure=>simp[intOf];omega
   ·have HN:=Ja (show (Jv L).find? (Xg o)=((Jv L).drop (k+1)).find? (Xg o) by rw[HDD.out,Ef (by rw[Jji c1];simp)]);go_wp2;go_roundw
    case rel=>exact⟨k+1,by omega,by go_num,trivial,HN.out⟩
    case measure=>simp[intOf];omega
  ·obtain rfl:k=n:=by omega
   have HN:=Ja (show (Jv L).find? (Xg o)=none by rw[hr.out,Ed (by rw[JH,HL.out];exact Ek _)];rfl);clear hr;go_wp2;go_ret;exact⟨rfl,.inr ⟨rfl,HN.out⟩⟩
theorem JjP {L M:List Zn} {k:Nat} (h1:k < L.length) (h2:k < M.length) (he:L[k]=M[k]):decide (L.drop k=M.drop k)=decide (L.drop (k+1)=M.drop (k+1)):=by
 rw[Eh h1,Eh h2,he];exact NC.2 ⟨fun h=>(List.cons.inj h).2,fun h=>by rw[h]⟩
theorem Jcv (A D:OA) (n c m d:Nat) (L M:List (ZV×Zn)) (w:World) (hR:Zc w w.heap.size A n c L) (hR2:Zc w w.heap.size D m d M):
  Calls prog 81 #[.slice A n c,.slice D m d] w fun e w'=>e=.returned (.bool (decide (Jv L=Jv M)))/\∃q,w'=w.drewN q:=by
 have hmax:=hR.max;have hln:=hR.len;have hln2:=hR2.len;have HL:=Ja hln;have HL2:=Ja hln2;have HR:=Ja hR;have HR2:=Ja hR2;clear hR hR2;by_cases hnm:n=m
 ·subst hnm;clear hln hln2;go_enter func81,ntmps81;go_wp2;go_loopw [5] (fun i wr=>∃(k q:Nat),k<=n/\i=.int .i64 k/\Hid (decide (Jv L=Jv M)=decide ((Jv L).drop k=(Jv M).drop k))/\Hid (wr=w.drewN q)) (fun i _=>n - (intOf i).toNat)
  case atStart=>exact⟨0,0,by omega,rfl,Ja rfl,Ja rfl⟩
  case round=>
   obtain⟨k,q,hk,rfl,hdd,hq⟩:=hrel;have hb:Bz w wr:=by rw[hq.out];exact Jr Zr q
   by_cases hlt:k < n
   ·have hk1:k < L.length:=by rw[HL.out];exact hlt
    have hk2:k < M.length:=by rw[HL2.out];exact hlt
    have hz1:k < (Jv L).length:=by rw[JH];exact hk1
    have hz2:k < (Jv M).length:=by rw[JH];exact hk2
    obtain⟨b,o,rfl,hab,g0,g1,g2⟩:=(HR.out.below hb).zone hk1;obtain⟨b2,o2,rfl,hab2,h0,h1,h2⟩:=(HR2.out.below hb).zone hk2;obtain⟨hvl,hRv⟩:=HR.out.each _ (En hk1);obtain⟨hvl2,hRv2⟩:=HR2.out.each _ (En hk2);have hN:=fun (h:L[k].2=M[k].2)=>hdd.out.trans (JjP hz1 hz2 (by rw[XE L k hk1,XE M k hk2,h]));have hO:=fun (h:¬ L[k].2=M[k].2)=>(show decide (Jv L=Jv M)=false by
     rw[EI];intro e;apply h;have e1:=XE L k hk1;have e2:=XE M k hk2;rw[<-e1,<-e2];simp only[e])
    generalize L[k]=q1 at g0 g1 g2 hvl hRv hN hO;generalize M[k]=q2 at h0 h1 h2 hvl2 hRv2 hN hO;obtain⟨⟨Av,nv,cv⟩,⟨lo,hi⟩,u⟩:=q1;obtain⟨⟨Au,nu,cu⟩,⟨lo2,hi2⟩,u2⟩:=q2;dsimp only at g0 g1 g2 hvl hRv hN hO h0 h1 h2 hvl2 hRv2;have HNN:=Ja hN;have HOO:=Ja hO;have G:=fun p=>Jbv Av Au nv cv nu cu u u2 (wr.drewN p) hvl hvl2 (((hRv.below hb).more hb.size).drewN p) (((hRv2.below hb).more hb.size).drewN p);clear hN hO hvl hvl2 hRv hRv2 hdd hb hab hab2;by_cases c1:lo=lo2
    ·subst c1;by_cases c2:hi=hi2
     ·subst c2;by_cases c3:u=u2
      ·subst c3;have HN:=Ja (HNN.out rfl);simp only[Rm] at G;have G:=Ja G;go_wp2;go_quiet ((go_at_call 80;exact GG (G.out _)));go_wp2;go_roundw
       case rel=>exact⟨k+1,_,by omega,by go_num,HN,QN hq _⟩
       case measure=>simp[intOf];omega
      ·have HN:=Ja (HOO.out (by simpa using c3));simp only[Ew c3] at G;have G:=Ja G;clear c3;go_wp2;go_quiet ((go_at_call 80;exact GG (G.out _)));go_wp2;go_ret;exact⟨by rw[HN.out];rfl,_,(QN hq _).out⟩
     ·have HN:=Ja (HOO.out (by intro h;injection h with h;injection h with h3 h4;exact c2 h4));clear G;go_wp2;go_quiet (fail);go_wp2;go_ret;exact⟨by rw[HN.out];rfl,_,(QN hq _).out⟩
    ·have HN:=Ja (HOO.out (by intro h;injection h with h;injection h with h3 h4;exact c1 h3));clear G;go_wp2;go_quiet (fail);go_wp2;go_ret;exact⟨by rw[HN.out];rfl,_,(QN hq _).out⟩
   ·obtain rfl:k=n:=by omega
    have HX:=Ja (show decide (Jv L=Jv M)=true by rw[hdd.out,Ed (by rw[JH,HL.out];exact Ek _),Ed (by rw[JH,HL2.out];exact Ek _)];simp);clear hdd;go_wp2;go_ret;exact⟨by rw[HX.out];rfl,q,hq.out⟩
 ·have HN:=Ja (show decide (Jv L=Jv M)=false by
   rw[EI];intro h;have:=congrArg List.length h;rw[JH,JH] at this;omega)
  have hne:¬ ((n:Int)=(m:Int)):=by omega
  clear hln hln2;go_enter func81,ntmps81;go_wp2;go_ret;exact⟨by rw[HN.out];rfl,0,rfl⟩
theorem Kr:(prog.info? 129).map (fun i=>(i.zero,i.size,i.bytes))=some (some (.agg #[.int .i64 0,.int .i64 0,.slice none 0 0]),3,40):=by kernel_rfl
structure Qk (w:World) (base:Nat) (A:OA) (k c:Nat) (L:List (ZV×Zn)):Prop where
 row:w.ownsRow base 129 3 (.slice A k c) k (zvv L)
 el:∀p∈L,p.2.2.length=p.1.n/\w.ownsRow base 28 2 (.slice p.1.A p.1.n p.1.c) p.1.n (sv p.2.2)
theorem Qk.nil (w:World) (base:Nat):Qk w base none 0 0 []:=⟨ED _ _ _ _,by simp⟩
theorem Qk.below {w w':World} {base:Nat} {A:OA} {k c:Nat} {L:List (ZV×Zn)} (h:Qk w base A k c L) (hb:Bz w w'):Qk w' base A k c L:=
 ⟨Jf h.row hb Zl,fun p hp=>⟨(h.el p hp).1,Jf (h.el p hp).2 hb Zl⟩⟩
theorem Qk.less {w:World} {base base':Nat} {A:OA} {k c:Nat} {L:List (ZV×Zn)} (h:Qk w base A k c L) (hb:base'<=base):Qk w base' A k c L:=
 ⟨Jk h.row hb,fun p hp=>⟨(h.el p hp).1,Jk (h.el p hp).2 hb⟩⟩
theorem Qk.push {w w':World} {base:Nat} {A A':OA} {k c c':Nat} {L:List (ZV×Zn)} {p:ZV×Zn} (h:Qk w base A k c L) (hp:p.2.2.length=p.1.n/\w.ownsRow base 28 2 (.slice p.1.A p.1.n p.1.c) p.1.n (sv p.2.2))
  (hg:w.grownBy w' (Value.slice A k c).ownBlock) (ho:w'.ownsRow base 129 3 (.slice A' (k+1) c') (k+1) (zvv L++zvl p)):Qk w' base A' (k+1) c' (L++[p]):=by
 refine⟨by rw[Jcd];simpa[zvv] using ho,fun z hz=>?_⟩;rcases EB.1 hz with hz | hz
 ·exact⟨(h.el z hz).1,(h.el z hz).2.kept hg (Qb (h.el z hz).2 h.row (by decide))⟩
 ·obtain rfl:z=p:=by simpa using hz
  exact⟨hp.1,hp.2.kept hg (Qb hp.2 h.row (by decide))⟩
theorem Qk.len {w:World} {base:Nat} {A:OA} {k c:Nat} {L:List (ZV×Zn)} (h:Qk w base A k c L):L.length=k:=by
 have:=h.row.1;rw[Jb7] at this;omega
theorem Qk.rd {w:World} {base:Nat} {A:OA} {k c:Nat} {L:List (ZV×Zn)} (h:Qk w base A k c L):Zc w w.heap.size A k c L:=
 ⟨h.len,Rd.of_own h.row,fun p hp=>⟨(h.el p hp).1,Rd.of_own (h.el p hp).2⟩⟩
structure Jov (n:Nat) (L:List (ZV×Zn)):Prop where
 n:n<=3518437208883
 each:∀p∈L,p.1.n<=8796093022208
theorem JbB (A:OA) (n c:Nat) (L:List (ZV×Zn)) (w:World) (hR:Zc w w.heap.size A n c L) (hz:Jov n L):
  Calls prog 64 #[.slice A n c] w fun e w'=>∃A' c' M,e=.returned (.slice A' n c')/\Qk w' w.heap.size A' n c' M/\Jv M=Jv L/\Bz w w':=by
 obtain⟨i0,hi0,hz0,hz1,hz2⟩:=EN Kr;have hn:=hz.n;have h1max:1<=maxLen:=by unfold maxLen;omega
 have hln:=hR.len;have HL:=Ja hln;have HR:=Ja hR;have HZ:=Ja hz.each;clear hR hln hz;go_enter func64,ntmps64;go_wp2;go_loopw [3,4] (fun v3 v4 wr=>∃(k c':Nat) (A':OA),v4=.int .i64 k/\v3=.slice A' k c'/\k<=n/\Bz w wr/\Hid (∃M,Qk wr w.heap.size A' k c' M/\Jv M=(Jv L).take k)) (fun _ v4 _=>n - (intOf v4).toNat)
 case atStart=>exact⟨0,0,none,rfl,rfl,by omega,Ec _ _,[],Qk.nil _ _,rfl⟩
 case round=>
  obtain⟨k,c',A',rfl,rfl,hk,hb,hq⟩:=hrel;obtain⟨M,hM,hMz⟩:=hq.out;clear hq;by_cases hlt:k < n
  ·have hkL:k < L.length:=by rw[HL.out];exact hlt
   have hkZ:k < (Jv L).length:=by rw[JH];exact hkL
   obtain⟨b,oo,rfl,hab,g0,g1,g2⟩:=HR.out.zone hkL;obtain⟨hvl,hRv⟩:=HR.out.each _ (En hkL);have hvz:=HZ.out _ (En hkL);have hnx:=Eq hkZ;rw[XE L k hkL] at hnx;generalize L[k]=q at g0 g1 g2 hvl hRv hvz hnx;obtain⟨⟨Av,nv,cv⟩,⟨lo,hi⟩,u⟩:=q;dsimp only at g0 g1 g2 hvl hRv hvz hnx;have G:=Ja fun (V:World) (hv:Bz w V)=>Qn Av nv cv (sv u) V (hRv.go hv) (Ju _) hvz;have HQ:=Ja fun V (hv:Bz w V)=>(show V.cell? ⟨b,oo+k * 3,none⟩=some (.int .i64 lo)/\V.cell? ⟨b,oo+k * 3+1,none⟩=some (.int .i64 hi)/\V.cell? ⟨b,oo+k * 3+2,none⟩=some (.slice Av nv cv) from ⟨(hv.cell (p:=⟨b,oo+k * 3,none⟩) hab).trans g0,(hv.cell (p:=⟨b,oo+k * 3+1,none⟩) hab).trans g1,(hv.cell (p:=⟨b,oo+k * 3+2,none⟩) hab).trans g2⟩);have HNX:=Ja hnx;have HVL:=Ja hvl;have HMZ:=Ja hMz;have HB:=Ja hb;have hbs:=hb.size;have kk:Bz w wr.drew:=hb.drew;have CZ:=Ja (hM.below ((Ec _ wr).drew));have h63:k+1<=maxLen:=by unfold maxLen;omega
   clear hvl hRv hvz hnx hMz hb hab g0 g1 g2 hM hkL hkZ;go_wp2_with fail;refine Jl fun KK hKK=>?_;refine Eg (S:=(fun V=>V.cell? ⟨b,oo+k * 3,none⟩=some (.int .i64 lo)/\V.cell? ⟨b,oo+k * 3+1,none⟩=some (.int .i64 hi)/\V.cell? ⟨b,oo+k * 3+2,none⟩=some (.slice Av nv cv))) (by kernel_rfl) (by first | exact HQ.out _ kk) (fun hHeld=>?_);refine Jc 0 11 1 12 (HQ.out _ kk) ?_;refine Jc 2 13 3 14 (HQ.out _ kk) ?_;refine Jc 4 15 5 16 (HQ.out _ kk) ?_;refine Jc 6 17 7 18 (HQ.out _ kk) ?_;refine Jc 8 19 9 20 (HQ.out _ kk) ?_;refine Qx 10 21 (HQ.out _ kk) ?_;refine Qa 11 fun K hK=>?_;go_simp;refine(G.out _ kk).mono ?_;rintro e W1 ⟨Ac,cc,rfl,ho,hb'⟩;have CV:=Ja (Jk ho (show w.heap.size<=_ from by have:=kk.size;omega));have CZ:=Ja (CZ.out.below hb');have kk:=Jg kk hb';clear ho hb';refine hK.out _ _ (HQ.out _ kk) fun hHeld=>?_;clear hK K;refine Qx 12 23 (HQ.out _ kk) ?_;refine Qa 13 fun K hK=>?_;go_simp;have hb':=Ji kk (.cells #[.int .i64 lo,.int .i64 hi,.slice Ac nv cc] 129);have CV:=Ja (Jf CV.out hb' Zl);have CZ:=Ja (CZ.out.below hb');have HRN:=Ja (Rd.new W1 129 3 1 #[.int .i64 lo,.int .i64 hi,.slice Ac nv cc] rfl h1max);have kk:=Jg kk hb';clear hb';refine hK.out _ _ (HQ.out _ kk) fun hHeld=>?_;clear hK K;refine Qa 14 fun K hK=>?_;rw[Ei (by kernel_rfl)];have CZ0:=CZ;refine JS _ (.tmp 11) (.tmp 24) _ rfl w.heap.size 129 i0 _ 3 40 underlying32 hi0 hz0 hz1 hz2 rfl (by decide) (.slice A' k c') k _ rfl CZ.out.row _ (some ⟨_,0,none⟩) 1 1 _ rfl HRN.out (JL (⟨Ac,nv,cc⟩,(lo,hi),u)) h63 (by omega) (by have:=kk.size;omega) ?_;intro A3 c3 W3 ho3 hg3 hat3;have CZ:=Ja (Qk.push (p:=(⟨Ac,nv,cc⟩,(lo,hi),u)) CZ.out ⟨HVL.out,CV.out⟩ hg3 ho3);have kk:=kk.trans (Jb hg3 kk.size (fun g hg'=>JM CZ0.out.row g hg'));refine hK.out _ _ (HQ.out _ kk) fun hHeld=>?_;clear hK K;refine Qx 15 3 (HQ.out _ kk) ?_;refine Es (by kernel_rfl) ?_ _;refine QQ.out (hKK _ _ ?_);go_wp2;go_roundw
   case rel=>exact⟨k+1,c3,A3,by go_num,rfl,by omega,kk,_,CZ.out,by rw[JA,HMZ.out,HNX.out];rfl⟩
   case measure=>simp[intOf];omega
  ·obtain rfl:k=n:=by omega
   have HN:=Ja (show Jv M=Jv L by rw[hMz,Eo (by rw[JH,HL.out];exact Ek _)]);clear hMz;go_wp2;go_ret;exact⟨A',c',M,rfl,hM,HN.out,hb⟩
def JD (z:List Zn) (o:Int):Option (List Vc.St):=(z.find? (Xg o)).map (·.2)
theorem Qr {x:Zn} {r:List Zn} {o:Int} (h1:x.1.1<=o) (h2:o<=x.1.2):JD (x :: r) o=some x.2:=by
 unfold JD;rw[List.find?_cons,show Xg o x=true from Qc.2 ⟨h1,h2⟩];rfl
theorem QH {x:Zn} {r:List Zn} {o:Int} (h:o < x.1.1\/x.1.2 < o):JD (x :: r) o=JD r o:=by
 unfold JD;rw[List.find?_cons,show Xg o x=false by unfold Xg;simp;omega]
theorem ZH {e:Int} {p:Option (List Vc.St)} {z:List Zn} {o:Int} (h:zF e p z=true) (ho:o<=e):JD z o=none:=by
 unfold JD;rw[Jew h ho];rfl
theorem Jcy {e:Int} {v:List Vc.St} {z:List Zn} (h:zF e (some v) z=true):JD z (e+1)≠some v:=by
 cases z with
 | nil=>intro h;cases h
 | cons x r=>
  rw[zF,Ea] at h;obtain⟨h1,h2,h3,_⟩:=Qo h.1;rcases NS (e+1) x.1.1 with c | c
  ·rw[QH (.inl c),ZH h.2 (by omega)];intro h;cases h
  ·rw[Qr (by omega) (by omega)];intro hv;have hz:=h.1;unfold YP at hz;have hl:x.1.1=e+1:=by omega
   rw[hv,hl] at hz;simp at hz
theorem Jhz:∀{e:Int} {p:Option (List Vc.St)} {z y:List Zn},zF e p z=true->zF e p y=true->(∀o,JD z o=JD y o)->z=y
 | _,_,[],[],_,_,_=>rfl
 | e,p,[],b :: s,_,h2,ho=>by
  rw[zF,Ea] at h2;obtain⟨b1,b2,_⟩:=Qo h2.1;have:=ho b.1.1;rw[Qr (Gt _) b2] at this;cases this
 | e,p,a :: r,[],h1,_,ho=>by
  rw[zF,Ea] at h1;obtain⟨a1,a2,_⟩:=Qo h1.1;have:=ho a.1.1;rw[Qr (Gt _) a2] at this;cases this
 | e,p,a :: r,b :: s,h1,h2,ho=>by
  rw[zF,Ea] at h1 h2;obtain⟨a1,a2,a3,_⟩:=Qo h1.1;obtain⟨b1,b2,b3,_⟩:=Qo h2.1;have lo:a.1.1=b.1.1:=by
   rcases Nv a.1.1 b.1.1 with c | c | c
   ·have:=ho a.1.1;rw[Qr (Gt _) a2,QH (.inl c),ZH h2.2 (by omega)] at this;cases this
   ·exact c
   ·have:=ho b.1.1;rw[Qr (x:=b) (Gt _) b2,QH (.inl c),ZH h1.2 (by omega)] at this;cases this
  have rc:a.2=b.2:=by
   have:=ho a.1.1;rw[Qr (Gt _) a2,Qr (by omega) (by omega)] at this;exact Fq this
  have hi:a.1.2=b.1.2:=by
   rcases Nv a.1.2 b.1.2 with c | c | c
   ·have:=ho (a.1.2+1);rw[QH (.inr (by omega)),Qr (by omega) (by omega),<-rc] at this;exact absurd this (Jcy h1.2)
   ·exact c
   ·have:=ho (b.1.2+1);rw[QH (x:=b) (.inr (by omega)),Qr (x:=a) (by omega) (by omega),rc] at this;exact absurd this.symm (Jcy h2.2)
  obtain⟨⟨l,m⟩,v⟩:=a;obtain⟨⟨l',m'⟩,v'⟩:=b;dsimp only at lo rc hi a1 a2 a3 b1 b2 b3 h1 h2;subst lo;subst rc;subst hi;rw[Jhz h1.2 h2.2 fun o=>?_];rcases NS m o with c | c
  ·have:=ho o
   rwa [QH (.inr c),QH (.inr c)] at this
  ·rw[ZH h1.2 c,ZH h2.2 c]
def Jfw:Int->List Zn->Int
 | e,[]=>e
 | _,y :: r=>Jfw y.1.2 r
def JlV:Option (List Vc.St)->List Zn->Option (List Vc.St)
 | p,[]=>p
 | _,y :: r=>JlV (some y.2) r
theorem Yd:∀(e:Int) (l:List Zn) (x:Zn),Jfw e (l++[x])=x.1.2
 | _,[],_=>rfl
 | _,y :: r,x=>Yd y.1.2 r x
theorem Ot:∀(p:Option (List Vc.St)) (l:List Zn) (x:Zn),JlV p (l++[x])=some x.2
 | _,[],_=>rfl
 | _,y :: r,x=>Ot (some y.2) r x
theorem Kc:∀(e:Int) (p:Option (List Vc.St)) (l:List Zn) (x:Zn),zF e p (l++[x])=(zF e p l && YP (Jfw e l) (JlV p l) x)
 | e,p,[],x=>by simp[zF,Jfw,JlV]
 | e,p,y :: r,x=>by
  rw[List.cons_append,zF,Kc y.1.2 (some y.2) r x,zF,Bool.and_assoc];rfl
theorem ZF (l:List Zn) (x:Zn) (o:Int):JD (l++[x]) o=match JD l o with | some v=>some v | none=>if Xg o x=true then some x.2 else none:=by
 unfold JD;rw[List.find?_append];rcases l.find? (Xg o) with _ | y
 ·simp only[Option.none_or,Option.map_none,List.find?_cons,List.find?_nil];rcases Xg o x with _ | _<;>rfl
 ·rfl
def rl (f:Int->Option (List Vc.St)):Nat->List Zn×Option Zn
 | 0=>([],none)
 | k+1=>match f k with
  | none=>((rl f k).1++(rl f k).2.toList,none)
  | some v=>match (rl f k).2 with
   | none=>((rl f k).1,some (((k:Int),(k:Int)),v))
   | some x=>if x.2=v then ((rl f k).1,some ((x.1.1,(k:Int)),v)) else ((rl f k).1++[x],some (((k:Int),(k:Int)),v))
def UF (f:Int->Option (List Vc.St)) (k:Nat):List Zn:=(rl f k).1++(rl f k).2.toList
structure JpL (f:Int->Option (List Vc.St)) (k:Nat) (d:List Zn) (c:Option Zn):Prop where
 fm:zF (-1) none (d++c.toList)=true
 none:c=none->Jfw (-1) d+1 < k\/JlV none d=none/\Jfw (-1) d < k
 some:∀x,c=some x->x.1.2+1=k
 tell:∀o,JD (d++c.toList) o=if 0<=o/\o < k then f o else .none
theorem Jjc (f:Int->Option (List Vc.St)) (k:Nat) (o:Int) (h:o≠k):(if 0<=o/\o < ((k+1:Nat):Int) then f o else none)=if 0<=o/\o < (k:Int) then f o else none:=by
 by_cases h1:0<=o/\o < (k:Int)
 ·rw[Ei h1,Ei ⟨h1.1,by omega⟩]
 ·rw[Ef h1,Ef (by omega)]
theorem Jiy (f:Int->Option (List Vc.St)) (k:Nat):(if 0<=(k:Int)/\(k:Int) < ((k+1:Nat):Int) then f k else none)=f k:=Ei ⟨by omega,by omega⟩
theorem JfD {l:List Zn} {x:Zn} {o:Int} (h:Xg o x=false):JD (l++[x]) o=JD l o:=by rw[ZF,h];rcases JD l o<;>rfl
theorem Jfj {l:List Zn} {x:Zn} {o:Int} (h:JD l o=none) (hi:Xg o x=true):JD (l++[x]) o=some x.2:=by rw[ZF,h,hi];rfl
theorem JjQ {l:List Zn} {x:Zn} {o:Int} (h:JD (l++[x]) o=none):JD l o=none:=by
 rw[ZF] at h;rcases hl:JD l o with _ | u
 ·rfl
 ·rw[hl] at h;cases h
theorem Jil {l:List Zn} {x y:Zn} {o:Int} (h:Xg o x=Xg o y) (hv:x.2=y.2):JD (l++[x]) o=JD (l++[y]) o:=by rw[ZF,ZF,h,hv]
theorem JlR {o:Int} {k:Nat} {v:List Vc.St} (h:o≠k):Xg o (((k:Int),(k:Int)),v)=false:=by unfold Xg;simp;omega
theorem Jk0 (k:Nat) (v:List Vc.St):Xg (k:Int) (((k:Int),(k:Int)),v)=true:=by unfold Xg;simp
theorem JbP (f:Int->Option (List Vc.St)) (hf:∀o v,f o=some v->fm (-1) v=true):∀k:Nat,k<=256->JpL f k (rl f k).1 (rl f k).2
 | 0,_=>⟨rfl,fun _=>.inr ⟨rfl,by show (-1:Int) < 0;omega⟩,fun x h=>(nomatch h),fun o=>by rw[Ef (by omega)];rfl⟩
 | k+1,hk=>by
  have ih:=JbP f hf k (by omega);rw[rl];generalize (rl f k).1=d at ih ⊢;generalize (rl f k).2=c at ih ⊢;have tk:JD (d++c.toList) (k:Int)=.none:=by rw[ih.tell,Ef (by omega)]
  rcases hv:f (k:Int) with _ | v
  ·dsimp only;refine⟨by simpa using ih.fm,fun _=>?_,fun x h=>(nomatch h),fun o=>?_⟩
   ·rcases c with _ | x
    ·rcases ih.none rfl with h | ⟨h1,h2⟩
     ·left;simp only[Option.toList_none,EG];omega
     ·right;simp only[Option.toList_none,EG];exact⟨h1,by omega⟩
    ·left;have:=ih.some x rfl;rw[Option.toList_some,Yd];omega
   ·rw[Option.toList_none,EG];by_cases ho:o=k
    ·subst ho;rw[Jiy,hv,tk]
    ·rw[ih.tell,Jjc f k o ho]
  ·have fv:=hf _ _ hv;rcases c with _ | x
   ·dsimp only;have i1:=ih.fm;have i2:=ih.none rfl;have i4:=ih.tell;simp only[Option.toList_none,EG] at i1 i4 tk;refine⟨?_,fun h=>(nomatch h),fun y h=>?_,fun o=>?_⟩
    ·rw[Option.toList_some,Kc,i1,Fb];unfold YP;rcases i2 with h | ⟨h1,h2⟩
     ·simp[fv];omega
     ·rw[h1];simp[fv];omega
    ·cases h;dsimp only;omega
    ·rw[Option.toList_some];by_cases ho:o=k
     ·subst ho;rw[Jfj tk (Jk0 k v),Jiy,hv]
     ·rw[JfD (JlR ho),i4,Jjc f k o ho]
   ·dsimp only;have i1:=ih.fm;have i3:=ih.some x rfl;have i4:=ih.tell;simp only[Option.toList_some] at i1 i4 tk;have i1':=i1;rw[Kc,Ea] at i1';obtain⟨x1,x2,x3,x4⟩:=Qo i1'.2;by_cases hx:x.2=v
    ·rw[Ei hx];refine⟨?_,fun h=>(nomatch h),fun y h=>?_,fun o=>?_⟩
     ·rw[Option.toList_some,Kc,i1'.1,Fb];have:=i1'.2;unfold YP at this ⊢;rw[hx] at this;simp only[Ea,Ej] at this ⊢;exact⟨⟨this.1.1,by omega,by omega⟩,this.2⟩
     ·cases h;dsimp only;omega
     ·rw[Option.toList_some];by_cases ho:o=k
      ·subst ho;rw[Jfj (JjQ tk) (Qc.2 ⟨by dsimp only;omega,by dsimp only;omega⟩),Jiy,hv]
      ·rw[Jjc f k o ho,<-i4 o];refine Jil ?_ hx.symm;unfold Xg;congr 1;rw[EM];simp;omega
    ·rw[Ef hx];refine⟨?_,fun h=>(nomatch h),fun y h=>?_,fun o=>?_⟩
     ·rw[Option.toList_some,Kc,i1,Fb,Yd,Ot];unfold YP;simp[fv,hx];omega
     ·cases h;dsimp only;omega
     ·rw[Option.toList_some];by_cases ho:o=k
      ·subst ho;rw[Jfj tk (Jk0 k v),Jiy,hv]
      ·rw[JfD (JlR ho),i4,Jjc f k o ho]
def Yy (out:List Zn) (x:Zn):List Zn:=
 match out.getLast? with
 | some y=>if y.1.2+1=x.1.1/\y.2=x.2 then out.dropLast++[((y.1.1,x.1.2),x.2)] else out++[x]
 | none=>[x]
def YM (l:List Zn):List Zn:=l.foldl Yy []
def dis:Int->List Zn->Prop
 | _,[]=>True
 | e,x :: r=>(e < x.1.1/\x.1.1<=x.1.2/\x.1.2<=255/\fm (-1) x.2=true)/\dis x.1.2 r
theorem OJ:∀(l m:List Zn) (o:Int),JD (l++m) o=(JD l o).or (JD m o):=fun l m o=>by
 unfold JD;rw[List.find?_append];rcases l.find? (Xg o) with _ | y<;>rfl
theorem Jbm (x:Zn) (o:Int):JD [x] o=if Xg o x=true then some x.2 else none:=by
 unfold JD;rw[List.find?_cons,List.find?_nil];rcases Xg o x with _ | _<;>rfl
theorem Jlr {acc:List Zn} {x:Zn} (h:zF (-1) none acc=true) (h1:Jfw (-1) acc < x.1.1) (h2:x.1.1<=x.1.2) (h3:x.1.2<=255) (h4:fm (-1) x.2=true):
  zF (-1) none (Yy acc x)=true/\Jfw (-1) (Yy acc x)=x.1.2/\∀o,JD (Yy acc x) o=(JD acc o).or (JD [x] o):=by
 rcases FT acc with rfl | ⟨d,y,rfl⟩
 ·refine⟨?_,rfl,fun o=>rfl⟩;show zF (-1) none [x]=true;simp only[zF,No];unfold YP;change (-1:Int) < x.1.1 at h1;simp[h4];omega
 ·rw[FU] at h h1 ⊢;rw[Yd] at h1;unfold Yy;rw[NB];simp only[List.getLast?_singleton,Option.some_or,List.dropLast_concat];have h':=h;rw[Kc,Ea] at h';obtain⟨y1,y2,y3,y4⟩:=Qo h'.2;by_cases hc:y.1.2+1=x.1.1/\y.2=x.2
  ·rw[Ei hc];obtain⟨c1,c2⟩:=hc;refine⟨?_,Yd _ _ _,fun o=>?_⟩
   ·rw[Kc,h'.1,Fb];have:=h'.2;unfold YP at this ⊢;rw[c2] at this;simp only[Ea,Ej] at this ⊢;exact⟨⟨this.1.1,by omega,by omega⟩,this.2⟩
   ·rw[OJ,OJ,Jbm,Jbm,Jbm,Option.or_assoc];congr 1;have:Xg o ((y.1.1,x.1.2),x.2)=(Xg o y || Xg o x):=by
     unfold Xg;rw[EM];simp;omega
    rw[this,c2];rcases Xg o y with _ | _<;>rcases Xg o x with _ | _<;>rfl
  ·rw[Ef hc];refine⟨?_,Yd _ _ _,fun o=>OJ _ _ _⟩;rw[Kc,h,Fb,Yd,Ot];unfold YP;simp only[Ea,Ej,Gv,Bool.and_eq_false_imp];refine⟨⟨h1,h2,h3⟩,h4,fun e=>?_⟩;simp only[Gg] at e;simp only[EI];intro e2;exact hc ⟨by omega,e⟩
theorem Jeh:∀{l acc:List Zn},zF (-1) none acc=true->dis (Jfw (-1) acc) l->zF (-1) none (l.foldl Yy acc)=true/\∀o,JD (l.foldl Yy acc) o=(JD acc o).or (JD l o)
 | [],acc,h,_=>⟨h,fun o=>by
  show JD acc o=(JD acc o).or none;rw[Option.or_none]⟩
 | x :: r,acc,h,hd=>by
  obtain⟨⟨a1,a2,a3,a4⟩,hr⟩:=hd;obtain⟨b1,b2,b3⟩:=Jlr h a1 a2 a3 a4;rw[List.foldl_cons];obtain⟨c1,c2⟩:=Jeh (l:=r) b1 (by rw[b2];exact hr);refine⟨c1,fun o=>?_⟩;rw[c2,b3,Option.or_assoc,<-OJ];rfl
theorem Jio {l:List Zn} (h:dis (-1) l):zF (-1) none (YM l)=true/\∀o,JD (YM l) o=JD l o:=by
 obtain⟨h1,h2⟩:=Jeh (l:=l) (acc:=[]) rfl h;exact⟨h1,fun o=>by rw[YM,h2];rfl⟩
theorem JfM {l:List Zn} (h:dis (-1) l) (f:Int->Option (List Vc.St)) (hf:∀o v,f o=some v->fm (-1) v=true) (ht:∀o,JD l o=if 0<=o/\o < ((256:Nat):Int) then f o else none):YM l=UF f 256:=by
 obtain⟨h1,h2⟩:=Jio h;have h3:=JbP f hf 256 Zl;exact Jhz h1 h3.fm fun o=>by rw[h2,ht];exact(h3.tell o).symm
def XL (x y:Zn):Prop:=x.1.2 < y.1.1\/y.1.2 < x.1.1
def Ji5 (x:Zn):Prop:=0<=x.1.1/\x.1.1<=x.1.2/\x.1.2<=255/\fm (-1) x.2=true
theorem Jc2 {x y:Zn} (h:XL x y):XL y x:=Or.symm h
theorem OI:∀{l:List Zn} {o:Int} {v:List Vc.St},l.Pairwise XL->(JD l o=some v↔∃x∈l,Xg o x=true/\x.2=v)
 | [],o,v,_=>⟨fun h=>(nomatch h),fun ⟨_,h,_⟩=>(nomatch h)⟩
 | y :: r,o,v,h=>by
  obtain⟨h1,h2⟩:=Fp.1 h;have ih:=OI (o:=o) (v:=v) h2;rcases hi:Xg o y with _ | _
  ·have:JD (y :: r) o=JD r o:=by unfold JD;rw[List.find?_cons,hi]
   rw[this,ih];constructor
   ·rintro⟨x,hx,a,b⟩;exact⟨x,ER _ hx,a,b⟩
   ·rintro⟨x,hx,a,b⟩;rcases EE.1 hx with rfl | hx
    ·rw[hi] at a;cases a
    ·exact⟨x,hx,a,b⟩
  ·have:JD (y :: r) o=some y.2:=by unfold JD;rw[List.find?_cons,hi];rfl
   rw[this];constructor
   ·intro e;exact⟨y,EW ..,hi,Fq e⟩
   ·rintro⟨x,hx,a,rfl⟩;rcases EE.1 hx with rfl | hx
    ·rfl
    ·have c:=h1 x hx;have:=Qc.1 hi;have:=Qc.1 a;unfold XL at c;omega
theorem Jii {l m:List Zn} (hp:l.Perm m) (hd:l.Pairwise XL) (o:Int):JD l o=JD m o:=by
 have hm:m.Pairwise XL:=(hp.pairwise_iff fun h=>Jc2 h).1 hd;have key:∀v,JD l o=some v↔JD m o=some v:=fun v=>by
  rw[OI hd,OI hm];constructor
  ·rintro⟨x,hx,a⟩;exact⟨x,hp.mem_iff.1 hx,a⟩
  ·rintro⟨x,hx,a⟩;exact⟨x,hp.mem_iff.2 hx,a⟩
 rcases hl:JD l o with _ | v
 ·rcases hm':JD m o with _ | u
  ·rfl
  ·have:=(key u).2 hm';rw[hl] at this;cases this
 ·exact((key v).1 hl).symm
theorem Jlx:∀{e:Int} {l:List Zn},(∀x∈l,e < x.1.1)->l.Pairwise (fun x y=>x.1.1<=y.1.1)->l.Pairwise XL->(∀x∈l,Ji5 x)->dis e l
 | _,[],_,_,_,_=>trivial
 | e,x :: r,he,hs,hd,hw=>by
  obtain⟨s1,s2⟩:=Fp.1 hs;obtain⟨d1,d2⟩:=Fp.1 hd;obtain⟨w1,w2,w3,w4⟩:=hw x (EW ..);refine⟨⟨he x (EW ..),w2,w3,w4⟩,Jlx (fun y hy=>?_) s2 d2 fun y hy=>hw y (ER _ hy)⟩;have a:=s1 y hy;have b:=d1 y hy;have c:=hw y (ER _ hy);unfold XL at b;unfold Ji5 at c;omega
theorem Jh3 {l m:List Zn} (hp:l.Perm m) (hs:m.Pairwise fun x y=>x.1.1<=y.1.1) (hd:l.Pairwise XL) (hw:∀x∈l,Ji5 x) (f:Int->Option (List Vc.St)) (hf:∀o v,f o=some v->fm (-1) v=true)
  (ht:∀o,JD l o=if 0<=o/\o < ((256:Nat):Int) then f o else none):YM m=UF f 256:=
 JfM (Jlx (fun x hx=>by have:=(hw x (hp.mem_iff.2 hx)).1;omega) hs ((hp.pairwise_iff fun h=>Jc2 h).1 hd) fun x hx=>hw x (hp.mem_iff.2 hx)) f hf fun o=>by rw[<-Jii hp hd o,ht]
theorem JiJ:∀{e:Int} {l:List Sn.Sp},Sn.Xp e l=true->∀t∈l,e+1 < t.1
 | _,[],_,_,h=>by cases h
 | e,s :: r,h,t,ht=>by
  obtain⟨h1,h2,h3,h4,h5⟩:=Sn.Qh.1 h;rcases EE.1 ht with rfl | ht
  ·exact h4
  ·have:=JiJ h5 t ht;omega
theorem JdV:∀{e:Int} {l:List Sn.Sp},Sn.Xp e l=true->l.Pairwise fun a b=>a.2 < b.1
 | _,[],_=>List.Pairwise.nil
 | e,s :: r,h=>by
  obtain⟨h1,h2,h3,h4,h5⟩:=Sn.Qh.1 h;exact Fp.2 ⟨fun t ht=>by have:=JiJ h5 t ht;omega,JdV h5⟩
theorem Jbe:∀{e:Int} {l:List Sn.Sp},Sn.Xp e l=true->∀t∈l,0<=t.1/\t.1<=t.2/\t.2<=255
 | _,[],_,_,h=>by cases h
 | e,s :: r,h,t,ht=>by
  obtain⟨h1,h2,h3,h4,h5⟩:=Sn.Qh.1 h;rcases EE.1 ht with rfl | ht
  ·exact⟨h3,h1,h2⟩
  ·exact Jbe h5 t ht
theorem Jcf (p:Nat->Bool) {s:Sn.Sp} (h:s∈Sn.of p) (o:Nat) (h1:s.1<=o) (h2:(o:Int)<=s.2):p o=true:=by
 obtain⟨a,b,c⟩:=Jbe (Sn.Zz p) s h;rw[<-Sn.JcC p o (by omega)];unfold Sn.Xs;exact NZ.2 ⟨s,h,by simp;omega⟩
theorem Jml (p:Nat->Bool) (o:Nat) (h:o < 256) (hp:p o=true):∃s∈Sn.of p,s.1<=(o:Int)/\(o:Int)<=s.2:=by
 rw[<-Sn.JcC p o h] at hp;unfold Sn.Xs at hp;obtain⟨s,hs,hi⟩:=NZ.1 hp;simp at hi;exact⟨s,hs,hi⟩
def Kd (c:List Vc.St->Bool) (p:Nat->Bool) (v:List Vc.St):List Zn:=if c v=true then [] else (Sn.of p).map fun s=>(s,v)
theorem Yc {c:List Vc.St->Bool} {p:Nat->Bool} {v:List Vc.St} {x:Zn}:x∈Kd c p v↔c v=false/\x.1∈Sn.of p/\x.2=v:=by
 unfold Kd;rcases hc:c v with _ | _
 ·simp only[Nm,if_false,Gp,true_and];constructor
  ·rintro⟨s,hs,rfl⟩;exact⟨hs,rfl⟩
  ·rintro⟨hs,rfl⟩;exact⟨x.1,hs,rfl⟩
 ·simp
theorem Jac (c:List Vc.St->Bool) (p:Nat->Bool) (v:List Vc.St):(Kd c p v).Pairwise XL:=by
 unfold Kd;split
 ·exact List.Pairwise.nil
 ·rw[List.pairwise_map];exact(JdV (Sn.Zz p)).imp fun h=>.inl h
def ZC (c:List Vc.St->Bool) (far:List Vc.St->List Vc.St) (st:List Vc.St->Nat->Bool) (q:Zn):List Zn:=
 Kd c (fun o=>Sn.Qp [q.1] o && st q.2 o) q.2++Kd c (fun o=>Sn.Qp [q.1] o && !st q.2 o) (far q.2)
theorem Jb8 (q:Zn) (o:Nat):Sn.Qp [q.1] o=Xg (o:Int) q:=by
 unfold Sn.Qp Sn.Xs Xg;simp
theorem On {c:List Vc.St->Bool} {far:List Vc.St->List Vc.St} {st:List Vc.St->Nat->Bool} {q x:Zn} (h:x∈ZC c far st q):
  (0<=x.1.1/\x.1.1<=x.1.2/\x.1.2<=255)/\∀o:Nat,Xg (o:Int) x=true->Xg (o:Int) q=true/\x.2=(if st q.2 o=true then q.2 else far q.2)/\c x.2=false:=by
 unfold ZC at h;rcases EB.1 h with h | h
 ·obtain⟨h1,h2,h3⟩:=Yc.1 h;refine⟨Jbe (Sn.Zz _) _ h2,fun o ho=>?_⟩;have:=Jcf _ h2 o (Qc.1 ho).1 (Qc.1 ho).2;simp only[Ea,Jb8] at this;exact⟨this.1,by rw[Ei this.2,h3],by rw[h3,h1]⟩
 ·obtain⟨h1,h2,h3⟩:=Yc.1 h;refine⟨Jbe (Sn.Zz _) _ h2,fun o ho=>?_⟩;have:=Jcf _ h2 o (Qc.1 ho).1 (Qc.1 ho).2;simp only[Ea,Jb8,Gv] at this;exact⟨this.1,by rw[Ef (by rw[this.2];simp),h3],by rw[h3,h1]⟩
theorem Jhq {c:List Vc.St->Bool} {far:List Vc.St->List Vc.St} {st:List Vc.St->Nat->Bool} {q:Zn} {o:Nat} (ho:o < 256) (hq:Xg (o:Int) q=true) (hc:c (if st q.2 o=true then q.2 else far q.2)=false):
  ∃x∈ZC c far st q,Xg (o:Int) x=true/\x.2=(if st q.2 o=true then q.2 else far q.2):=by
 unfold ZC;rcases hs:st q.2 o with _ | _
 ·rw[hs,Ef (by simp)] at hc;obtain⟨s,h1,h2⟩:=Jml (fun o=>Sn.Qp [q.1] o && !st q.2 o) o ho (by simp only[Jb8,hq,hs];rfl);exact⟨(s,far q.2),Np _ (Yc.2 ⟨hc,h1,rfl⟩),Qc.2 h2,by simp⟩
 ·rw[hs,Ei rfl] at hc;obtain⟨s,h1,h2⟩:=Jml (fun o=>Sn.Qp [q.1] o && st q.2 o) o ho (by simp only[Jb8,hq,hs];rfl);exact⟨(s,q.2),Fc _ (Yc.2 ⟨hc,h1,rfl⟩),Qc.2 h2,by simp⟩
theorem JgV {x y:Zn} (hx:0<=x.1.1/\x.1.1<=x.1.2/\x.1.2<=255) (hy:0<=y.1.1/\y.1.1<=y.1.2/\y.1.2<=255) (h:∀o:Nat,Xg (o:Int) x=true->Xg (o:Int) y=true->False):XL x y:=by
 unfold XL;rcases NS x.1.2 y.1.1 with a | a
 ·exact .inl a
 ·rcases NS y.1.2 x.1.1 with b | b
  ·exact .inr b
  ·exfalso;refine h (max x.1.1 y.1.1).toNat (Qc.2 ⟨by omega,by omega⟩) (Qc.2 ⟨by omega,by omega⟩)
theorem Jfr (c:List Vc.St->Bool) (far:List Vc.St->List Vc.St) (st:List Vc.St->Nat->Bool) (q:Zn):(ZC c far st q).Pairwise XL:=by
 unfold ZC;refine NA.2 ⟨Jac _ _ _,Jac _ _ _,fun x hx y hy=>?_⟩;obtain⟨_,h2,_⟩:=Yc.1 hx;obtain⟨_,k2,_⟩:=Yc.1 hy;refine JgV (Jbe (Sn.Zz _) _ h2) (Jbe (Sn.Zz _) _ k2) fun o a b=>?_;have a:=Jcf _ h2 o (Qc.1 a).1 (Qc.1 a).2;have b:=Jcf _ k2 o (Qc.1 b).1 (Qc.1 b).2;simp only[Ea,Gv] at a b;rw[a.2] at b;exact absurd b.2 (by simp)
theorem JdZ (known:List Vc.St):∀{e:Int} {p:Option (List Vc.St)} {z:List Zn},zF e p z=true->(KP known (e+1) z).Pairwise XL
 | e,p,[],_=>by
  rw[KP];split
  ·exact List.pairwise_singleton ..
  ·exact List.Pairwise.nil
 | e,p,x :: r,h=>by
  rw[zF,Ea] at h;obtain⟨h1,h2,h3,_⟩:=Qo h.1;have hr:∀q∈KP known (x.1.2+1) r,x.1.2 < q.1.1:=fun q hq=>(Kk known h.2 q hq).1.1;rw[KP];refine NA.2 ⟨?_,Fp.2 ⟨fun q hq=>.inl (hr q hq),JdZ known h.2⟩,fun a ha b hb=>?_⟩
  ·split
   ·exact List.pairwise_singleton ..
   ·exact List.Pairwise.nil
  ·split at ha
   ·rcases Ez.1 ha with rfl;rcases EE.1 hb with rfl | hb
    ·left;dsimp only;omega
    ·left;have:=hr b hb;dsimp only;omega
   ·cases ha
def Jcp (c:List Vc.St->Bool) (far:List Vc.St->List Vc.St) (st:List Vc.St->Nat->Bool) (z:List Zn) (known:List Vc.St):List Zn:=(KP known 0 z).flatMap (ZC c far st)
def Jgl (far:List Vc.St->List Vc.St) (st:List Vc.St->Nat->Bool) (z:List Zn) (known:List Vc.St) (o:Int):List Vc.St:=
 if st (Qd z known o) o.toNat=true then Qd z known o else far (Qd z known o)
def JdK (c:List Vc.St->Bool) (far:List Vc.St->List Vc.St) (st:List Vc.St->Nat->Bool) (z:List Zn) (known:List Vc.St) (o:Int):Option (List Vc.St):=
 if c (Jgl far st z known o)=true then none else some (Jgl far st z known o)
theorem ZJ {z:List Zn} (h:zF (-1) none z=true) {known:List Vc.St} (hk:fm (-1) known=true) (o:Int):fm (-1) (Qd z known o)=true:=by
 unfold Qd;rcases hz:z.find? (Xg o) with _ | x
 ·exact hk
 ·exact JbJ h x (List.mem_of_find?_eq_some hz)
theorem JcB (c:List Vc.St->Bool) (far:List Vc.St->List Vc.St) (st:List Vc.St->Nat->Bool) {z:List Zn} (h:zF (-1) none z=true) (known:List Vc.St):(Jcp c far st z known).Pairwise XL:=by
 unfold Jcp;refine List.pairwise_flatMap.2 ⟨fun q _=>Jfr c far st q,?_⟩;refine(JdZ known h).imp fun {a b} hab x hx y hy=>?_;obtain⟨x1,x2⟩:=On hx;obtain⟨y1,y2⟩:=On hy;refine JgV x1 y1 fun o hi hj=>?_;have a1:=Qc.1 (x2 o hi).1;have b1:=Qc.1 (y2 o hj).1;unfold XL at hab;omega
theorem Jd3 (c:List Vc.St->Bool) (far:List Vc.St->List Vc.St) (hfar:∀v,fm (-1) v=true->fm (-1) (far v)=true) (st:List Vc.St->Nat->Bool) {z:List Zn} (h:zF (-1) none z=true) {known:List Vc.St} (hk:fm (-1) known=true):∀x∈Jcp c far st z known,Ji5 x:=by
 intro x hx;unfold Jcp at hx;obtain⟨q,hq,hx⟩:=Gy.1 hx;obtain⟨⟨x1,x2,x3⟩,x4⟩:=On hx;refine⟨x1,x2,x3,?_⟩;obtain⟨k,e⟩:=Fd x1;obtain⟨a1,a2,a3⟩:=x4 k (Qc.2 ⟨by omega,by omega⟩);have hr:=(Kk known h q hq).2 _ a1;have hf:=ZJ h hk (k:Int);rw[hr] at hf;rw[a2];split
 ·exact hf
 ·exact hfar _ hf
theorem Jhd (c:List Vc.St->Bool) (far:List Vc.St->List Vc.St) (st:List Vc.St->Nat->Bool) {z:List Zn} (h:zF (-1) none z=true) (known:List Vc.St) (o:Int):JD (Jcp c far st z known) o=if 0<=o/\o < ((256:Nat):Int) then JdK c far st z known o else none:=by
 have key:∀v,JD (Jcp c far st z known) o=some v↔(if 0<=o/\o < ((256:Nat):Int) then JdK c far st z known o else none)=some v:=fun v=>by
  rw[OI (JcB c far st h known)];unfold Jcp;constructor
  ·rintro⟨x,hx,hi,rfl⟩;obtain⟨q,hq,hx⟩:=Gy.1 hx;obtain⟨⟨x1,x2,x3⟩,x4⟩:=On hx;have hb:=Qc.1 hi;obtain⟨k,rfl⟩:=Fd (show 0<=o by omega);obtain⟨a1,a2,a3⟩:=x4 k hi;have hr:=(Kk known h q hq).2 _ a1;rw[Ei ⟨by omega,by omega⟩];have e:Jgl far st z known (k:Int)=x.2:=by unfold Jgl;rw[hr,Int.toNat_natCast,a2]
   unfold JdK;rw[e,a3];rfl
  ·intro hv;by_cases hr:0<=o/\o < ((256:Nat):Int)
   ·rw[Ei hr] at hv;obtain⟨k,rfl⟩:=Fd hr.1;obtain⟨q,hq,hi⟩:=Jjj known (o:=(k:Int)) h (by omega) (by omega);have e:=(Kk known h q hq).2 _ hi;unfold JdK Jgl at hv;rw[e,Int.toNat_natCast] at hv;rcases hc:c (if st q.2 k=true then q.2 else far q.2) with _ | _
    ·rw[hc,Ef (by simp)] at hv;obtain⟨x,hx,x1,x2⟩:=Jhq (c:=c) (far:=far) (st:=st) (q:=q) (o:=k) (by omega) hi hc;exact⟨x,Gy.2 ⟨q,hq,hx⟩,x1,by rw[x2];exact Fq hv⟩
    ·rw[hc,Ei rfl] at hv;cases hv
   ·rw[Ef hr] at hv;cases hv
 rcases hl:JD (Jcp c far st z known) o with _ | v
 ·rcases hm:(if 0<=o/\o < ((256:Nat):Int) then JdK c far st z known o else none) with _ | u
  ·rfl
  ·have:=(key u).2 hm;rw[hl] at this;cases this
 ·exact((key v).1 hl).symm
theorem Jjy (c:List Vc.St->Bool) (far:List Vc.St->List Vc.St) (hfar:∀v,fm (-1) v=true->fm (-1) (far v)=true) (st:List Vc.St->Nat->Bool) {z:List Zn} (h:zF (-1) none z=true) {known:List Vc.St} (hk:fm (-1) known=true)
  {m:List Zn} (hp:(Jcp c far st z known).Perm m) (hs:m.Pairwise fun x y=>x.1.1<=y.1.1):YM m=UF (JdK c far st z known) 256/\zF (-1) none (YM m)=true:=by
 have hf:∀o v,JdK c far st z known o=some v->fm (-1) v=true:=fun o v e=>by
  unfold JdK at e
  split at e
  ·cases e
  ·rw[<-Fq e];unfold Jgl;split
   ·exact ZJ h hk o
   ·exact hfar _ (ZJ h hk o)
 have e:=Jh3 hp hs (JcB c far st h known) (Jd3 c far hfar st h hk) _ hf (Jhd c far st h known);exact⟨e,by rw[e];exact(JbP _ hf 256 Zl).fm⟩
def Xa (r s e:List Vc.St):Nat->List Vc.St
 | 0=>r
 | k+1=>if Vc.Jz r k < Vc.Jz e k/\Vc.Jz s k<=Vc.Jz r k then XM (jn [Xa r s e k,[(Vc.Jz e k,(k:Int))]]) else Xa r s e k
def YG (r s e:List Vc.St) (n:Nat):Int:=if Vc.Jz s n<=Vc.Jz r n then max (Vc.Jz r n) (Vc.Jz e n) else Vc.Jz r n
theorem JlB (a:Int) (k n:Nat) (ha:0 < a) (hk:k < 64):Vc.Jz [(a,(k:Int))] n=if n=k then a else 0:=by
 rw[Vc.Jz];by_cases h:n=k
 ·subst h;rw[Ei ⟨(Vc.JT _).2 ⟨ha,by show (0:Int)<=(n:Int);omega,by show (n:Int) < 64;omega⟩,rfl⟩,Ei rfl]
 ·rw[Ef (fun e=>h (by have:=e.2;dsimp only at this;omega)),Ef h];rfl
theorem UM (r s e:List Vc.St) (hr:fm (-1) r=true):∀k:Nat,k<=64->fm (-1) (Xa r s e k)=true/\∀n,n < 64->Vc.Jz (Xa r s e k) n=if n < k then YG r s e n else Vc.Jz r n
 | 0,_=>⟨hr,fun n _=>by rw[Ef (by omega)];rfl⟩
 | k+1,hk=>by
  obtain⟨h1,h2⟩:=UM r s e hr k (by omega);have r0:=Vc.Qv r k;rw[Xa];by_cases hc:Vc.Jz r k < Vc.Jz e k/\Vc.Jz s k<=Vc.Jz r k
  ·rw[Ei hc];refine⟨YF _,fun n hn=>?_⟩;rw[Jgh _ _ hn,h2 n hn,JlB _ _ _ (by omega) (by omega)];by_cases hnk:n=k
   ·subst hnk;rw[Ef (by omega),Ei rfl,Ei (by omega)];unfold YG;rw[Ei hc.2]
   ·rw[Ef hnk];have q:=Vc.Qv r n;by_cases hl:n < k
    ·rw[Ei hl,Ei (by omega)];unfold YG;split<;>omega
    ·rw[Ef hl,Ef (by omega)];omega
  ·rw[Ef hc];refine⟨h1,fun n hn=>?_⟩;rw[h2 n hn];by_cases hnk:n=k
   ·subst hnk;rw[Ef (by omega),Ei (by omega)];unfold YG;split<;>omega
   ·by_cases hl:n < k
    ·rw[Ei hl,Ei (by omega)]
    ·rw[Ef hl,Ef (by omega)]
def XX (miss:Wr->Bool) (b:List Sn.Sp) (ws:List Wr):List Sn.Sp:=
 ws.foldl (fun st w=>if miss w=true then Sn.YW [st,Sn.YW [(w.2.1,w.2.1)]].flatten else st) b
theorem Jgu (miss:Wr->Bool) (b:List Sn.Sp) (ws:List Wr) (w:Wr):XX miss b (ws++[w])=if miss w=true then Sn.YW [XX miss b ws,Sn.YW [(w.2.1,w.2.1)]].flatten else XX miss b ws:=by
 unfold XX;rw[FM];rfl
theorem Jg8 (miss:Wr->Bool) (o:Int) (h0:0<=o) (h1:o<=255):∀(ws:List Wr) (b:List Sn.Sp),Sn.Xs (XX miss b ws) o=(Sn.Xs b o || ws.any fun w=>miss w && decide (w.2.1=o))
 | [],b=>by simp[XX]
 | w :: r,b=>by
  unfold XX;rw[List.foldl_cons];show Sn.Xs (XX miss _ r) o=_;rw[Jg8 miss o h0 h1 r,List.any_cons];rcases miss w with _ | _
  ·simp
  ·rw[Ei rfl,Sn.OH _ _ h0 h1];simp only[List.flatten_cons,List.flatten_nil,EG];rw[Sn.XI,Sn.OH _ _ h0 h1,Sn.Qi,Sn.Jca,FN,Fb,Bool.or_assoc];congr 2;rw[EM];simp;omega
theorem JlT (miss:Wr->Bool) (o:Int):∀{ws:List Wr},ws.Pairwise (fun a b=>a.2.1 < b.2.1)->(ws.any fun w=>miss w && decide (w.2.1=o))=match ws.find? (fun w=>decide (w.2.1=o)) with | some w=>miss w | none=>false
 | [],_=>rfl
 | w :: r,h=>by
  obtain⟨h1,h2⟩:=Fp.1 h;rw[List.any_cons,List.find?_cons];by_cases ho:w.2.1=o
  ·rw[Eu ho,No];have:(r.any fun w=>miss w && decide (w.2.1=o))=false:=by
    rw[List.any_eq_false];intro u hu;have:=h1 u hu;rw[Ew (by omega),NT];simp
   rw[this,FN]
  ·rw[Ew ho,NT,Rq];exact JlT miss o h2
theorem JjI (A D:OA) (n c m d:Nat) (u v:List Vc.St) (W:World) (hT:UW W) (hl:u.length=n) (hl2:v.length=m) (hR:Rd W W.heap.size 2 A n c (sv u)) (hR2:Rd W W.heap.size 2 D m d (sv v)):
  Calls prog 180 #[.slice (some ⟨W.heap.size,0,none⟩) 2 2] (W.alloc (.cells #[.slice A n c,.slice D m d] 22)) fun e w'=>∃A' c',e=.returned (.slice A' (XM (jn [u,v])).length c')/\Rd w' w'.heap.size 2 A' (XM (jn [u,v])).length c' (sv (XM (jn [u,v])))/\Bz W w':=by
 have hb:Bz W (W.alloc (.cells #[.slice A n c,.slice D m d] 22)):=Zr.alloc Zl _;refine(JfP _ 2 2 [u,v] _ (hT.below hb) (RdL.two hl hl2 hR hR2 22)).mono ?_;rintro e w1 ⟨A',c',rfl,ho,hb1⟩;exact⟨A',c',rfl,Rd.of_own ho,Jg hb hb1⟩
end Go.Proofs.YtmbeahbgafkjfaaGreatDoor
