/- Lemmas for the claim, layer 14. -/
import Derived.Test.YtmbeahbgafkjfaaGreatDoorKc13
set_option maxRecDepth 100000
set_option maxHeartbeats 16000000
namespace Go.Proofs.YtmbeahbgafkjfaaGreatDoor
open Go.RowKit
theorem Blk.two2 {w:World} {g:Nat} {t:TypeId} {a b:Value} (h:Blk w g t #[a,b]):w.cell? ⟨g,0,none⟩=some a/\w.cell? ⟨g,1,none⟩=some b:=⟨h.cell 0,h.cell 1⟩
theorem refZonesFormed_any (A:Option Addr) (n c:Nat) (L:List (ZV×Zn)) (w:World) (hR:RdZ w w.heap.size A n c L):
  Calls Tryz.prog 85 #[.slice A n c] w fun e w'=>e=.returned (.bool (zF (-1) none (zns L)))/\Below w.heap.size w w':=by
 have hmax:=hR.max;have hln:=hR.len;have HL:=Hz_ hln;have HR:=Hz_ hR;have HD:=Hz_ fun e p k h=>zF_drop e p (zns L) k h;have HE:=Hz_ fun e p k h=>zF_end e p (zns L) k h;clear hR hln;go_enter Tryz.func85,Tryz.ntmps85;go_wp2;go_loopw [3] (fun v3 wr=>∃(k:Nat),k<=n/\v3=.int .i64 k/\(-1<=aheadE (zns L) k/\aheadE (zns L) k<=255)/\Below w.heap.size w wr/\Hid (zF (-1) none (zns L)=zF (aheadE (zns L) k) (aheadP (zns L) k) ((zns L).drop k))) (fun v3 _=>n - (intOf v3).toNat)
 case atStart=>exact⟨0,by omega,rfl,by rw[aheadE_zero];omega,Below.refl _ _,by rw[aheadE_zero,aheadP_zero];rfl⟩
 case round=>
  obtain⟨k,hk,rfl,hre,hb,hr⟩:=hrel;have hbs:=hb.size;by_cases hlt:k < n
  ·have hkL:k < L.length:=by rw[HL.out];exact hlt
   have hkZ:k < (zns L).length:=by rw[zns_len];exact hkL
   obtain⟨b,o,rfl,hab,g0,g1,g2⟩:=(HR.out.below hb).zone hkL;obtain⟨hvl,hRv⟩:=HR.out.each _ (List.getElem_mem hkL);have hd:=hr.out.trans (HD.out _ _ k hkZ);have he1:=aheadE_next (zns L) k hkZ;have hp1:=aheadP_next (zns L) k hkZ;rw[zns_at L k hkL] at hd he1 hp1;obtain⟨p,hp⟩:∃p,p=aheadP (zns L) k:=⟨_,rfl⟩;have HP:=Hz_ hp;rw[<-hp] at hd;obtain⟨e,he⟩:∃e,e=aheadE (zns L) k:=⟨_,rfl⟩;have HEE:=Hz_ he;rw[<-he] at hd hre;generalize hq:L[k]=q at g0 g1 g2 hvl hRv hd he1 hp1;have HQ:=Hz_ hq;obtain⟨⟨Av,nv,cv⟩,⟨lo,hi⟩,u⟩:=q;dsimp only at g0 g1 g2 hvl hRv hd he1 hp1;have hst:zStep e p ((lo,hi),u)=((decide (e < lo) && (decide (lo<=hi) && decide (hi<=255))) && (fm (-1) u && !(decide (p=some u) && decide (lo=e+1)))):=rfl;have hb1:=hb.alloc hbs (.cells #[.int .i64 lo,.int .i64 hi] 63);have hX:=Blk.new wr 63 #[.int .i64 lo,.int .i64 hi];have F:=refFormed_any Av nv cv u _ hvl ((hRv.below hb1).more hb1.size);have g2':=World.cell?_alloc_lt wr (.cells #[.int .i64 lo,.int .i64 hi] 63) ⟨b,o+k * 3+2,none⟩ (World.block_lt_of_cell? _ _ g2);rw[g2] at g2';have HG2:=Hz_ fun (W:World) (hw:Below (wr.alloc (.cells #[.int .i64 lo,.int .i64 hi] 63)).heap.size (wr.alloc (.cells #[.int .i64 lo,.int .i64 hi] 63)) W)=>(hw.cell (p:=⟨b,o+k * 3+2,none⟩) (World.block_lt_of_cell? _ _ g2')).trans g2';have HB:=Hz_ hb1;have HX:=Hz_ hX;have HE1:=Hz_ he1;have HP1:=Hz_ hp1;have HVL:=Hz_ hvl;have HRV:=Hz_ hRv;have HST:=Hz_ hst;have HDD:=Hz_ hd;clear hd hst he1 hp1 hvl hRv hp he hq hX hr hb hab;by_cases c1:lo < 0
   ·have HN:=Hz_ (show zF (-1) none (zns L)=false by rw[HDD.out,HST.out];simp[show ¬ e < lo by omega]);go_wp2;go_ret;exact⟨by rw[HN.out];rfl,HB.out⟩
   ·by_cases c2:lo > hi
    ·have HN:=Hz_ (show zF (-1) none (zns L)=false by rw[HDD.out,HST.out];simp[show ¬ lo<=hi by omega]);go_wp2;go_ret;exact⟨by rw[HN.out];rfl,HB.out⟩
    ·by_cases c3:hi > 255
     ·have HN:=Hz_ (show zF (-1) none (zns L)=false by rw[HDD.out,HST.out];simp[show ¬ hi<=255 by omega]);go_wp2;go_ret;exact⟨by rw[HN.out];rfl,HB.out⟩
     ·rcases hf:fm (-1) u with _ | _
      ·have HN:=Hz_ (show zF (-1) none (zns L)=false by rw[HDD.out,HST.out,hf];simp);rw[hf] at F;have F:=Hz_ F;clear hf;go_wp2_with fail;refine F.out.mono ?_;rintro e w1 ⟨rfl,hb1⟩;have HB1:=Hz_ (btn HB.out hb1);clear hb1;go_wp2;go_ret;exact⟨by rw[HN.out];rfl,HB1.out⟩
      ·rw[hf] at F;have HSS:=Hz_ (show zStep e p ((lo,hi),u)=(decide (e < lo) && !(decide (p=some u) && decide (lo=e+1))) by rw[HST.out,hf,decide_eq_true (show lo<=hi by omega),decide_eq_true (show hi<=255 by omega)];simp);have F:=Hz_ F;clear hf HST;go_wp2_with fail;refine F.out.mono ?_;rintro e' w1 ⟨rfl,hb1⟩;have HB1:=Hz_ (btn HB.out hb1);have HX1:=Hz_ (HX.out.go hb1);have g2:=HG2.out _ hb1;obtain⟨x0,x1⟩:=HX1.out.two2;clear hb1 HB HX F g0 g1 HG2 g2';by_cases hk0:k=0
       ·have hpn:p=none:=by rw[HP.out,hk0,aheadP_zero]
        have hen:e=-1:=by rw[HEE.out,hk0,aheadE_zero]
        have HN:=Hz_ (show zF (-1) none (zns L)=zF hi (some u) ((zns L).drop (k+1)) by rw[HDD.out,HSS.out,hpn,decide_eq_true (show e < lo by omega)];simp);have dk:decide (0 < k)=false:=by simp;omega
        clear hpn hk0 hen g2;go_wp2;go_quiet (fail);go_wp2;go_roundw
        case rel=>exact⟨k+1,by omega,by go_num,by rw[HE1.out];omega,below_drewN HB1.out _,by show _=_;rw[HN.out,HE1.out,HP1.out]⟩
        case measure=>simp[intOf];omega
       ·obtain⟨i,rfl⟩:∃i,k=i+1:=⟨k - 1,by omega⟩;have hiL:i < L.length:=by omega
        have dk:decide (0 < i+1)=true:=by simp
        have he2:=aheadE_next (zns L) i (by rw[zns_len];exact hiL);have hp2:=aheadP_next (zns L) i (by rw[zns_len];exact hiL);rw[zns_at L i hiL] at he2 hp2;have hpe:=HP.out;rw[hp2] at hpe;have hee:=HEE.out;rw[he2] at hee;have hin:(0:Int)<=(i:Int)/\(i:Int) < (n:Int):=by omega
        have e8:IntKind.i64.wrap (i:Int)=(i:Int):=IntWalk.i64_in _ (by omega);have e9:(((i+1:Nat):Int) - 1)=(i:Int):=by omega
        have w1e:IntKind.i64.wrap (lo - 1)=lo - 1:=IntWalk.i64_in _ (by omega);obtain⟨b',o',e',hbb',p0,p1,p2⟩:=(HR.out.below HB1.out).zone hiL;obtain⟨hvl2,hRv2⟩:=HR.out.each _ (List.getElem_mem hiL);obtain⟨rfl,rfl⟩:b=b'/\o=o':=by injection e' with e';injection e' with e1 e2;exact⟨e1,e2⟩
        generalize L[i]=q2 at p0 p1 p2 hvl2 hRv2 hpe hee;obtain⟨⟨Ai,ni,ci⟩,⟨lo2,hi2⟩,u2⟩:=q2;dsimp only at p0 p1 p2 hvl2 hRv2 hpe hee;subst hee;have HPE:=Hz_ hpe;have G:=fun m=>same_q Ai Av ni ci nv cv u2 u (w1.drewN m) hvl2 HVL.out (((hRv2.below HB1.out).more HB1.out.size).drewN m) (((HRV.out.below HB1.out).more HB1.out.size).drewN m);clear hpe he2 hp2 p0 e' hbb' hvl2 hRv2;by_cases c6:e ≥ lo
        ·have HN:=Hz_ (show zF (-1) none (zns L)=false by rw[HDD.out,HSS.out,decide_eq_false (show ¬ e < lo by omega)];rfl);have d6:decide (e ≥ lo)=true:=decide_eq_true c6;clear G p2;go_wp2;go_quiet (fail);go_wp2;go_ret;exact⟨by rw[HN.out];rfl,below_drewN HB1.out _⟩
        ·have d6:decide (e ≥ lo)=false:=decide_eq_false c6;have d7:decide (e < lo)=true:=decide_eq_true (by omega);by_cases c4:e=lo - 1
         ·obtain rfl:lo=e+1:=by omega
          have d4:(e == e+1 - 1)=true:=by simp
          have w1f:IntKind.i64.wrap (e+1 - 1)=e:=by rw[show e+1 - 1=e by omega];exact IntWalk.i64_in _ (by omega)
          have w1g:IntKind.i64.wrap e=e:=IntWalk.i64_in _ (by omega);clear c4 w1e;by_cases c5:u2=u
          ·have HN:=Hz_ (show zF (-1) none (zns L)=false by rw[HDD.out,HSS.out,HPE.out,c5,d7];simp);simp only[decide_eq_true c5] at G;have G:=Hz_ G;clear c5 c6;go_wp2;go_quiet ((go_at_call 80;exact Calls.quiet_of (G.out _)));go_wp2;go_ret;exact⟨by rw[HN.out];rfl,below_drewN HB1.out _⟩
          ·have HN:=Hz_ (show zF (-1) none (zns L)=zF hi (some u) ((zns L).drop (i+1+1)) by rw[HDD.out,HSS.out,HPE.out,d7,decide_eq_false (show ¬ some u2=some u from fun h=>c5 (Option.some.inj h))];simp);simp only[decide_eq_false c5] at G;have G:=Hz_ G;clear c5 c6;go_wp2;go_quiet ((go_at_call 80;exact Calls.quiet_of (G.out _)));go_wp2;go_roundw
           case rel=>exact⟨i+1+1,by omega,by go_num,by rw[HE1.out];omega,below_drewN HB1.out _,by show _=_;rw[HN.out,HE1.out,HP1.out]⟩
           case measure=>simp[intOf];omega
         ·have d4:(e == lo - 1)=false:=by simpa using c4
          have HN:=Hz_ (show zF (-1) none (zns L)=zF hi (some u) ((zns L).drop (i+1+1)) by rw[HDD.out,HSS.out,d7,decide_eq_false (show ¬ lo=e+1 by omega)];simp);clear G c6 c4 p2;go_wp2;go_quiet (fail);go_wp2;go_roundw
          case rel=>exact⟨i+1+1,by omega,by go_num,by rw[HE1.out];omega,below_drewN HB1.out _,by show _=_;rw[HN.out,HE1.out,HP1.out]⟩
          case measure=>simp[intOf];omega
  ·obtain rfl:k=n:=by omega
   have HN:=Hz_ (show zF (-1) none (zns L)=true by rw[hr.out,HE.out _ _ _ (by rw[zns_len,HL.out];exact Nat.le_refl _)]);clear hr;go_wp2;go_ret;exact⟨by rw[HN.out];rfl,hb⟩
def AtZ (L:List (ZV×Zn)) (o:Int) (w:World) (e:Ending) (w':World):Prop:=
 w=w'/\((∃k,∃h:k < L.length,e=.returned (.int .i64 (k:Int))/\(zns L).find? (inZ o)=some L[k].2)\/(e=.returned (.int .i64 (-1))/\(zns L).find? (inZ o)=none))
theorem find_drop (o:Int) (z:List Zn) (k:Nat) (h:k < z.length):(z.drop k).find? (inZ o)=if inZ o z[k]=true then some z[k] else (z.drop (k+1)).find? (inZ o):=by
 rw[List.drop_eq_getElem_cons h,List.find?_cons];rcases inZ o z[k] with _ | _<;>rfl
theorem inZ_no1 {o lo hi:Int} {u:List Vc.St} (h:¬ lo<=o):inZ o ((lo,hi),u)=false:=by unfold inZ;simp;omega
theorem inZ_no2 {o lo hi:Int} {u:List Vc.St} (h:¬ o<=hi):inZ o ((lo,hi),u)=false:=by unfold inZ;simp;omega
theorem inZ_yes {o lo hi:Int} {u:List Vc.St} (h:lo<=o) (h2:o<=hi):inZ o ((lo,hi),u)=true:=by unfold inZ;simp;omega
theorem refAtZ_any (A:Option Addr) (n c:Nat) (L:List (ZV×Zn)) (o:Int) (w:World) (hR:RdZ w w.heap.size A n c L):
  Calls Tryz.prog 199 #[.slice A n c,.int .i64 o] w (AtZ L o w):=by
 have hmax:=hR.max;have hln:=hR.len;have HL:=Hz_ hln;have HD:=Hz_ fun k h=>find_drop o (zns L) k h;have HR:=Hz_ hR;clear hln hR;go_enter Tryz.func199,Tryz.ntmps199;go_wp2;go_loopw [5] (fun v5 wr=>∃(k:Nat),k<=n/\v5=.int .i64 k/\w=wr/\Hid ((zns L).find? (inZ o)=((zns L).drop k).find? (inZ o))) (fun v5 _=>n - (intOf v5).toNat)
 case atStart=>exact⟨0,by omega,rfl,rfl,rfl⟩
 case round=>
  obtain⟨k,hk,rfl,rfl,hr⟩:=hrel;by_cases hlt:k < n
  ·have hkL:k < L.length:=by rw[HL.out];exact hlt
   have hkZ:k < (zns L).length:=by rw[zns_len];exact hkL
   obtain⟨b,oo,rfl,hab,g0,g1,g2⟩:=HR.out.zone hkL;have hd:=hr.out.trans (HD.out k hkZ);rw[zns_at L k hkL] at hd;have HK:=Hz_ hkL;generalize hq:L[k]=q at g0 g1 g2 hd;have HQ:=Hz_ hq;obtain⟨⟨Av,nv,cv⟩,⟨lo,hi⟩,u⟩:=q;dsimp only at g0 g1 g2 hd;have HDD:=Hz_ hd;clear hq hd hr hab g2;by_cases c1:lo<=o
   ·by_cases c2:o<=hi
    ·have HN:=Hz_ (show (zns L).find? (inZ o)=some ((lo,hi),u) by rw[HDD.out,if_pos (inZ_yes c1 c2)]);go_wp2;go_ret;exact⟨rfl,.inl ⟨k,HK.out,rfl,HN.out.trans (congrArg some (congrArg Prod.snd HQ.out).symm)⟩⟩
    ·have HN:=Hz_ (show (zns L).find? (inZ o)=((zns L).drop (k+1)).find? (inZ o) by rw[HDD.out,if_neg (by rw[inZ_no2 c2];simp)]);go_wp2;go_roundw
     case rel=>exact⟨k+1,by omega,by go_num,trivial,HN.out⟩
     case measure=>simp[intOf];omega
   ·have HN:=Hz_ (show (zns L).find? (inZ o)=((zns L).drop (k+1)).find? (inZ o) by rw[HDD.out,if_neg (by rw[inZ_no1 c1];simp)]);go_wp2;go_roundw
    case rel=>exact⟨k+1,by omega,by go_num,trivial,HN.out⟩
    case measure=>simp[intOf];omega
  ·obtain rfl:k=n:=by omega
   have HN:=Hz_ (show (zns L).find? (inZ o)=none by rw[hr.out,List.drop_of_length_le (by rw[zns_len,HL.out];exact Nat.le_refl _)];rfl);clear hr;go_wp2;go_ret;exact⟨rfl,.inr ⟨rfl,HN.out⟩⟩
theorem dec_dropZ {L M:List Zn} {k:Nat} (h1:k < L.length) (h2:k < M.length) (he:L[k]=M[k]):decide (L.drop k=M.drop k)=decide (L.drop (k+1)=M.drop (k+1)):=by
 rw[List.drop_eq_getElem_cons h1,List.drop_eq_getElem_cons h2,he];exact decide_eq_decide.2 ⟨fun h=>(List.cons.inj h).2,fun h=>by rw[h]⟩
theorem refZonesSame_q (A D:Option Addr) (n c m d:Nat) (L M:List (ZV×Zn)) (w:World) (hR:RdZ w w.heap.size A n c L) (hR2:RdZ w w.heap.size D m d M):
  Calls Tryz.prog 81 #[.slice A n c,.slice D m d] w fun e w'=>e=.returned (.bool (decide (zns L=zns M)))/\∃q,w'=w.drewN q:=by
 have hmax:=hR.max;have hln:=hR.len;have hln2:=hR2.len;have HL:=Hz_ hln;have HL2:=Hz_ hln2;have HR:=Hz_ hR;have HR2:=Hz_ hR2;clear hR hR2;by_cases hnm:n=m
 ·subst hnm;clear hln hln2;go_enter Tryz.func81,Tryz.ntmps81;go_wp2;go_loopw [5] (fun i wr=>∃(k q:Nat),k<=n/\i=.int .i64 k/\Hid (decide (zns L=zns M)=decide ((zns L).drop k=(zns M).drop k))/\Hid (wr=w.drewN q)) (fun i _=>n - (intOf i).toNat)
  case atStart=>exact⟨0,0,by omega,rfl,Hz_ rfl,Hz_ rfl⟩
  case round=>
   obtain⟨k,q,hk,rfl,hdd,hq⟩:=hrel;have hb:Below w.heap.size w wr:=by rw[hq.out];exact below_drewN Zr q
   by_cases hlt:k < n
   ·have hk1:k < L.length:=by rw[HL.out];exact hlt
    have hk2:k < M.length:=by rw[HL2.out];exact hlt
    have hz1:k < (zns L).length:=by rw[zns_len];exact hk1
    have hz2:k < (zns M).length:=by rw[zns_len];exact hk2
    obtain⟨b,o,rfl,hab,g0,g1,g2⟩:=(HR.out.below hb).zone hk1;obtain⟨b2,o2,rfl,hab2,h0,h1,h2⟩:=(HR2.out.below hb).zone hk2;obtain⟨hvl,hRv⟩:=HR.out.each _ (List.getElem_mem hk1);obtain⟨hvl2,hRv2⟩:=HR2.out.each _ (List.getElem_mem hk2);have hN:=fun (h:L[k].2=M[k].2)=>hdd.out.trans (dec_dropZ hz1 hz2 (by rw[zns_at L k hk1,zns_at M k hk2,h]));have hO:=fun (h:¬ L[k].2=M[k].2)=>(show decide (zns L=zns M)=false by
     rw[decide_eq_false_iff_not];intro e;apply h;have e1:=zns_at L k hk1;have e2:=zns_at M k hk2;rw[<-e1,<-e2];simp only[e])
    generalize L[k]=q1 at g0 g1 g2 hvl hRv hN hO;generalize M[k]=q2 at h0 h1 h2 hvl2 hRv2 hN hO;obtain⟨⟨Av,nv,cv⟩,⟨lo,hi⟩,u⟩:=q1;obtain⟨⟨Au,nu,cu⟩,⟨lo2,hi2⟩,u2⟩:=q2;dsimp only at g0 g1 g2 hvl hRv hN hO h0 h1 h2 hvl2 hRv2;have HNN:=Hz_ hN;have HOO:=Hz_ hO;have G:=fun p=>same_q Av Au nv cv nu cu u u2 (wr.drewN p) hvl hvl2 (((hRv.below hb).more hb.size).drewN p) (((hRv2.below hb).more hb.size).drewN p);clear hN hO hvl hvl2 hRv hRv2 hdd hb hab hab2;by_cases c1:lo=lo2
    ·subst c1;by_cases c2:hi=hi2
     ·subst c2;by_cases c3:u=u2
      ·subst c3;have HN:=Hz_ (HNN.out rfl);simp only[decide_true] at G;have G:=Hz_ G;go_wp2;go_quiet ((go_at_call 80;exact Calls.quiet_of (G.out _)));go_wp2;go_roundw
       case rel=>exact⟨k+1,_,by omega,by go_num,HN,quiet_then hq _⟩
       case measure=>simp[intOf];omega
      ·have HN:=Hz_ (HOO.out (by simpa using c3));simp only[decide_eq_false c3] at G;have G:=Hz_ G;clear c3;go_wp2;go_quiet ((go_at_call 80;exact Calls.quiet_of (G.out _)));go_wp2;go_ret;exact⟨by rw[HN.out];rfl,_,(quiet_then hq _).out⟩
     ·have HN:=Hz_ (HOO.out (by intro h;injection h with h;injection h with h3 h4;exact c2 h4));clear G;go_wp2;go_quiet (fail);go_wp2;go_ret;exact⟨by rw[HN.out];rfl,_,(quiet_then hq _).out⟩
    ·have HN:=Hz_ (HOO.out (by intro h;injection h with h;injection h with h3 h4;exact c1 h3));clear G;go_wp2;go_quiet (fail);go_wp2;go_ret;exact⟨by rw[HN.out];rfl,_,(quiet_then hq _).out⟩
   ·obtain rfl:k=n:=by omega
    have HX:=Hz_ (show decide (zns L=zns M)=true by rw[hdd.out,List.drop_of_length_le (by rw[zns_len,HL.out];exact Nat.le_refl _),List.drop_of_length_le (by rw[zns_len,HL2.out];exact Nat.le_refl _)];simp);clear hdd;go_wp2;go_ret;exact⟨by rw[HX.out];rfl,q,hq.out⟩
 ·have HN:=Hz_ (show decide (zns L=zns M)=false by
   rw[decide_eq_false_iff_not];intro h;have:=congrArg List.length h;rw[zns_len,zns_len] at this;omega)
  have hne:¬ ((n:Int)=(m:Int)):=by omega
  clear hln hln2;go_enter Tryz.func81,Tryz.ntmps81;go_wp2;go_ret;exact⟨by rw[HN.out];rfl,0,rfl⟩
theorem zone_info:(Tryz.prog.info? 129).map (fun i=>(i.zero,i.size,i.bytes))=some (some (.agg #[.int .i64 0,.int .i64 0,.slice none 0 0]),3,40):=by kernel_rfl
structure OwnZ (w:World) (base:Nat) (A:Option Addr) (k c:Nat) (L:List (ZV×Zn)):Prop where
 row:w.ownsRow base 129 3 (.slice A k c) k (zvv L)
 el:∀p∈L,p.2.2.length=p.1.n/\w.ownsRow base 28 2 (.slice p.1.A p.1.n p.1.c) p.1.n (sv p.2.2)
theorem OwnZ.nil (w:World) (base:Nat):OwnZ w base none 0 0 []:=⟨World.ownsRow_nil _ _ _ _,by simp⟩
theorem OwnZ.below {w w':World} {base:Nat} {A:Option Addr} {k c:Nat} {L:List (ZV×Zn)} (h:OwnZ w base A k c L) (hb:Below w.heap.size w w'):OwnZ w' base A k c L:=
 ⟨own_below h.row hb Zl,fun p hp=>⟨(h.el p hp).1,own_below (h.el p hp).2 hb Zl⟩⟩
theorem OwnZ.less {w:World} {base base':Nat} {A:Option Addr} {k c:Nat} {L:List (ZV×Zn)} (h:OwnZ w base A k c L) (hb:base'<=base):OwnZ w base' A k c L:=
 ⟨own_less h.row hb,fun p hp=>⟨(h.el p hp).1,own_less (h.el p hp).2 hb⟩⟩
theorem OwnZ.push {w w':World} {base:Nat} {A A':Option Addr} {k c c':Nat} {L:List (ZV×Zn)} {p:ZV×Zn} (h:OwnZ w base A k c L) (hp:p.2.2.length=p.1.n/\w.ownsRow base 28 2 (.slice p.1.A p.1.n p.1.c) p.1.n (sv p.2.2))
  (hg:w.grownBy w' (Value.slice A k c).ownBlock) (ho:w'.ownsRow base 129 3 (.slice A' (k+1) c') (k+1) (zvv L++zvl p)):OwnZ w' base A' (k+1) c' (L++[p]):=by
 refine⟨by rw[zvv_app];simpa[zvv] using ho,fun z hz=>?_⟩;rcases List.mem_append.1 hz with hz | hz
 ·exact⟨(h.el z hz).1,(h.el z hz).2.kept hg (own_two (h.el z hz).2 h.row (by decide))⟩
 ·obtain rfl:z=p:=by simpa using hz
  exact⟨hp.1,hp.2.kept hg (own_two hp.2 h.row (by decide))⟩
theorem OwnZ.len {w:World} {base:Nat} {A:Option Addr} {k c:Nat} {L:List (ZV×Zn)} (h:OwnZ w base A k c L):L.length=k:=by
 have:=h.row.1;rw[zvv_len] at this;omega
theorem OwnZ.rd {w:World} {base:Nat} {A:Option Addr} {k c:Nat} {L:List (ZV×Zn)} (h:OwnZ w base A k c L):RdZ w w.heap.size A k c L:=
 ⟨h.len,Rd.of_own h.row,fun p hp=>⟨(h.el p hp).1,Rd.of_own (h.el p hp).2⟩⟩
structure ZnSz (n:Nat) (L:List (ZV×Zn)):Prop where
 n:n<=3518437208883
 each:∀p∈L,p.1.n<=8796093022208
def tells (z:List Zn) (o:Int):Option (List Vc.St):=(z.find? (inZ o)).map (·.2)
theorem tells_cons_in {x:Zn} {r:List Zn} {o:Int} (h1:x.1.1<=o) (h2:o<=x.1.2):tells (x :: r) o=some x.2:=by
 unfold tells;rw[List.find?_cons,show inZ o x=true from inZ_iff.2 ⟨h1,h2⟩];rfl
theorem tells_cons_out {x:Zn} {r:List Zn} {o:Int} (h:o < x.1.1\/x.1.2 < o):tells (x :: r) o=tells r o:=by
 unfold tells;rw[List.find?_cons,show inZ o x=false by unfold inZ;simp;omega]
theorem tells_none {e:Int} {p:Option (List Vc.St)} {z:List Zn} {o:Int} (h:zF e p z=true) (ho:o<=e):tells z o=none:=by
 unfold tells;rw[zF_none h ho];rfl
theorem tells_next {e:Int} {v:List Vc.St} {z:List Zn} (h:zF e (some v) z=true):tells z (e+1)≠some v:=by
 cases z with
 | nil=>intro h;cases h
 | cons x r=>
  rw[zF,Bool.and_eq_true] at h;obtain⟨h1,h2,h3,_⟩:=zStep_iff h.1;rcases Int.lt_or_le (e+1) x.1.1 with c | c
  ·rw[tells_cons_out (.inl c),tells_none h.2 (by omega)];intro h;cases h
  ·rw[tells_cons_in (by omega) (by omega)];intro hv;have hz:=h.1;unfold zStep at hz;have hl:x.1.1=e+1:=by omega
   rw[hv,hl] at hz;simp at hz
theorem zF_ext:∀{e:Int} {p:Option (List Vc.St)} {z y:List Zn},zF e p z=true->zF e p y=true->(∀o,tells z o=tells y o)->z=y
 | _,_,[],[],_,_,_=>rfl
 | e,p,[],b :: s,_,h2,ho=>by
  rw[zF,Bool.and_eq_true] at h2;obtain⟨b1,b2,_⟩:=zStep_iff h2.1;have:=ho b.1.1;rw[tells_cons_in (Int.le_refl _) b2] at this;cases this
 | e,p,a :: r,[],h1,_,ho=>by
  rw[zF,Bool.and_eq_true] at h1;obtain⟨a1,a2,_⟩:=zStep_iff h1.1;have:=ho a.1.1;rw[tells_cons_in (Int.le_refl _) a2] at this;cases this
 | e,p,a :: r,b :: s,h1,h2,ho=>by
  rw[zF,Bool.and_eq_true] at h1 h2;obtain⟨a1,a2,a3,_⟩:=zStep_iff h1.1;obtain⟨b1,b2,b3,_⟩:=zStep_iff h2.1;have lo:a.1.1=b.1.1:=by
   rcases Int.lt_trichotomy a.1.1 b.1.1 with c | c | c
   ·have:=ho a.1.1;rw[tells_cons_in (Int.le_refl _) a2,tells_cons_out (.inl c),tells_none h2.2 (by omega)] at this;cases this
   ·exact c
   ·have:=ho b.1.1;rw[tells_cons_in (x:=b) (Int.le_refl _) b2,tells_cons_out (.inl c),tells_none h1.2 (by omega)] at this;cases this
  have rc:a.2=b.2:=by
   have:=ho a.1.1;rw[tells_cons_in (Int.le_refl _) a2,tells_cons_in (by omega) (by omega)] at this;exact Option.some.inj this
  have hi:a.1.2=b.1.2:=by
   rcases Int.lt_trichotomy a.1.2 b.1.2 with c | c | c
   ·have:=ho (a.1.2+1);rw[tells_cons_out (.inr (by omega)),tells_cons_in (by omega) (by omega),<-rc] at this;exact absurd this (tells_next h1.2)
   ·exact c
   ·have:=ho (b.1.2+1);rw[tells_cons_out (x:=b) (.inr (by omega)),tells_cons_in (x:=a) (by omega) (by omega),rc] at this;exact absurd this.symm (tells_next h2.2)
  obtain⟨⟨l,m⟩,v⟩:=a;obtain⟨⟨l',m'⟩,v'⟩:=b;dsimp only at lo rc hi a1 a2 a3 b1 b2 b3 h1 h2;subst lo;subst rc;subst hi;rw[zF_ext h1.2 h2.2 fun o=>?_];rcases Int.lt_or_le m o with c | c
  ·have:=ho o
   rwa [tells_cons_out (.inr c),tells_cons_out (.inr c)] at this
  ·rw[tells_none h1.2 c,tells_none h2.2 c]
def endE:Int->List Zn->Int
 | e,[]=>e
 | _,y :: r=>endE y.1.2 r
def endP:Option (List Vc.St)->List Zn->Option (List Vc.St)
 | p,[]=>p
 | _,y :: r=>endP (some y.2) r
theorem endE_snoc:∀(e:Int) (l:List Zn) (x:Zn),endE e (l++[x])=x.1.2
 | _,[],_=>rfl
 | _,y :: r,x=>endE_snoc y.1.2 r x
theorem endP_snoc:∀(p:Option (List Vc.St)) (l:List Zn) (x:Zn),endP p (l++[x])=some x.2
 | _,[],_=>rfl
 | _,y :: r,x=>endP_snoc (some y.2) r x
theorem zF_snoc:∀(e:Int) (p:Option (List Vc.St)) (l:List Zn) (x:Zn),zF e p (l++[x])=(zF e p l && zStep (endE e l) (endP p l) x)
 | e,p,[],x=>by simp[zF,endE,endP]
 | e,p,y :: r,x=>by
  rw[List.cons_append,zF,zF_snoc y.1.2 (some y.2) r x,zF,Bool.and_assoc];rfl
theorem tells_snoc (l:List Zn) (x:Zn) (o:Int):tells (l++[x]) o=match tells l o with | some v=>some v | none=>if inZ o x=true then some x.2 else none:=by
 unfold tells;rw[List.find?_append];rcases l.find? (inZ o) with _ | y
 ·simp only[Option.none_or,Option.map_none,List.find?_cons,List.find?_nil];rcases inZ o x with _ | _<;>rfl
 ·rfl
def rl (f:Int->Option (List Vc.St)):Nat->List Zn×Option Zn
 | 0=>([],none)
 | k+1=>match f k with
  | none=>((rl f k).1++(rl f k).2.toList,none)
  | some v=>match (rl f k).2 with
   | none=>((rl f k).1,some (((k:Int),(k:Int)),v))
   | some x=>if x.2=v then ((rl f k).1,some ((x.1.1,(k:Int)),v)) else ((rl f k).1++[x],some (((k:Int),(k:Int)),v))
def rls (f:Int->Option (List Vc.St)) (k:Nat):List Zn:=(rl f k).1++(rl f k).2.toList
structure RlOk (f:Int->Option (List Vc.St)) (k:Nat) (d:List Zn) (c:Option Zn):Prop where
 fm:zF (-1) none (d++c.toList)=true
 none:c=none->endE (-1) d+1 < k\/endP none d=none/\endE (-1) d < k
 some:∀x,c=some x->x.1.2+1=k
 tell:∀o,tells (d++c.toList) o=if 0<=o/\o < k then f o else .none
theorem tk_lt (f:Int->Option (List Vc.St)) (k:Nat) (o:Int) (h:o≠k):(if 0<=o/\o < ((k+1:Nat):Int) then f o else none)=if 0<=o/\o < (k:Int) then f o else none:=by
 by_cases h1:0<=o/\o < (k:Int)
 ·rw[if_pos h1,if_pos ⟨h1.1,by omega⟩]
 ·rw[if_neg h1,if_neg (by omega)]
theorem tk_at (f:Int->Option (List Vc.St)) (k:Nat):(if 0<=(k:Int)/\(k:Int) < ((k+1:Nat):Int) then f k else none)=f k:=if_pos ⟨by omega,by omega⟩
theorem snoc_out {l:List Zn} {x:Zn} {o:Int} (h:inZ o x=false):tells (l++[x]) o=tells l o:=by rw[tells_snoc,h];rcases tells l o<;>rfl
theorem snoc_in {l:List Zn} {x:Zn} {o:Int} (h:tells l o=none) (hi:inZ o x=true):tells (l++[x]) o=some x.2:=by rw[tells_snoc,h,hi];rfl
theorem snoc_none {l:List Zn} {x:Zn} {o:Int} (h:tells (l++[x]) o=none):tells l o=none:=by
 rw[tells_snoc] at h;rcases hl:tells l o with _ | u
 ·rfl
 ·rw[hl] at h;cases h
theorem snoc_congr {l:List Zn} {x y:Zn} {o:Int} (h:inZ o x=inZ o y) (hv:x.2=y.2):tells (l++[x]) o=tells (l++[y]) o:=by rw[tells_snoc,tells_snoc,h,hv]
theorem inZ_ne {o:Int} {k:Nat} {v:List Vc.St} (h:o≠k):inZ o (((k:Int),(k:Int)),v)=false:=by unfold inZ;simp;omega
theorem inZ_at (k:Nat) (v:List Vc.St):inZ (k:Int) (((k:Int),(k:Int)),v)=true:=by unfold inZ;simp
theorem rl_ok (f:Int->Option (List Vc.St)) (hf:∀o v,f o=some v->fm (-1) v=true):∀k:Nat,k<=256->RlOk f k (rl f k).1 (rl f k).2
 | 0,_=>⟨rfl,fun _=>.inr ⟨rfl,by show (-1:Int) < 0;omega⟩,fun x h=>(nomatch h),fun o=>by rw[if_neg (by omega)];rfl⟩
 | k+1,hk=>by
  have ih:=rl_ok f hf k (by omega);rw[rl];generalize (rl f k).1=d at ih ⊢;generalize (rl f k).2=c at ih ⊢;have tk:tells (d++c.toList) (k:Int)=.none:=by rw[ih.tell,if_neg (by omega)]
  rcases hv:f (k:Int) with _ | v
  ·dsimp only;refine⟨by simpa using ih.fm,fun _=>?_,fun x h=>(nomatch h),fun o=>?_⟩
   ·rcases c with _ | x
    ·rcases ih.none rfl with h | ⟨h1,h2⟩
     ·left;simp only[Option.toList_none,List.append_nil];omega
     ·right;simp only[Option.toList_none,List.append_nil];exact⟨h1,by omega⟩
    ·left;have:=ih.some x rfl;rw[Option.toList_some,endE_snoc];omega
   ·rw[Option.toList_none,List.append_nil];by_cases ho:o=k
    ·subst ho;rw[tk_at,hv,tk]
    ·rw[ih.tell,tk_lt f k o ho]
  ·have fv:=hf _ _ hv;rcases c with _ | x
   ·dsimp only;have i1:=ih.fm;have i2:=ih.none rfl;have i4:=ih.tell;simp only[Option.toList_none,List.append_nil] at i1 i4 tk;refine⟨?_,fun h=>(nomatch h),fun y h=>?_,fun o=>?_⟩
    ·rw[Option.toList_some,zF_snoc,i1,Bool.true_and];unfold zStep;rcases i2 with h | ⟨h1,h2⟩
     ·simp[fv];omega
     ·rw[h1];simp[fv];omega
    ·cases h;dsimp only;omega
    ·rw[Option.toList_some];by_cases ho:o=k
     ·subst ho;rw[snoc_in tk (inZ_at k v),tk_at,hv]
     ·rw[snoc_out (inZ_ne ho),i4,tk_lt f k o ho]
   ·dsimp only;have i1:=ih.fm;have i3:=ih.some x rfl;have i4:=ih.tell;simp only[Option.toList_some] at i1 i4 tk;have i1':=i1;rw[zF_snoc,Bool.and_eq_true] at i1';obtain⟨x1,x2,x3,x4⟩:=zStep_iff i1'.2;by_cases hx:x.2=v
    ·rw[if_pos hx];refine⟨?_,fun h=>(nomatch h),fun y h=>?_,fun o=>?_⟩
     ·rw[Option.toList_some,zF_snoc,i1'.1,Bool.true_and];have:=i1'.2;unfold zStep at this ⊢;rw[hx] at this;simp only[Bool.and_eq_true,decide_eq_true_eq] at this ⊢;exact⟨⟨this.1.1,by omega,by omega⟩,this.2⟩
     ·cases h;dsimp only;omega
     ·rw[Option.toList_some];by_cases ho:o=k
      ·subst ho;rw[snoc_in (snoc_none tk) (inZ_iff.2 ⟨by dsimp only;omega,by dsimp only;omega⟩),tk_at,hv]
      ·rw[tk_lt f k o ho,<-i4 o];refine snoc_congr ?_ hx.symm;unfold inZ;congr 1;rw[Bool.eq_iff_iff];simp;omega
    ·rw[if_neg hx];refine⟨?_,fun h=>(nomatch h),fun y h=>?_,fun o=>?_⟩
     ·rw[Option.toList_some,zF_snoc,i1,Bool.true_and,endE_snoc,endP_snoc];unfold zStep;simp[fv,hx];omega
     ·cases h;dsimp only;omega
     ·rw[Option.toList_some];by_cases ho:o=k
      ·subst ho;rw[snoc_in tk (inZ_at k v),tk_at,hv]
      ·rw[snoc_out (inZ_ne ho),i4,tk_lt f k o ho]
def jstep (out:List Zn) (x:Zn):List Zn:=
 match out.getLast? with
 | some y=>if y.1.2+1=x.1.1/\y.2=x.2 then out.dropLast++[((y.1.1,x.1.2),x.2)] else out++[x]
 | none=>[x]
def joinedZ (l:List Zn):List Zn:=l.foldl jstep []
def dis:Int->List Zn->Prop
 | _,[]=>True
 | e,x :: r=>(e < x.1.1/\x.1.1<=x.1.2/\x.1.2<=255/\fm (-1) x.2=true)/\dis x.1.2 r
theorem tells_app:∀(l m:List Zn) (o:Int),tells (l++m) o=(tells l o).or (tells m o):=fun l m o=>by
 unfold tells;rw[List.find?_append];rcases l.find? (inZ o) with _ | y<;>rfl
theorem tells_one (x:Zn) (o:Int):tells [x] o=if inZ o x=true then some x.2 else none:=by
 unfold tells;rw[List.find?_cons,List.find?_nil];rcases inZ o x with _ | _<;>rfl
theorem jstep_ok {acc:List Zn} {x:Zn} (h:zF (-1) none acc=true) (h1:endE (-1) acc < x.1.1) (h2:x.1.1<=x.1.2) (h3:x.1.2<=255) (h4:fm (-1) x.2=true):
  zF (-1) none (jstep acc x)=true/\endE (-1) (jstep acc x)=x.1.2/\∀o,tells (jstep acc x) o=(tells acc o).or (tells [x] o):=by
 rcases List.eq_nil_or_concat acc with rfl | ⟨d,y,rfl⟩
 ·refine⟨?_,rfl,fun o=>rfl⟩;show zF (-1) none [x]=true;simp only[zF,Bool.and_true];unfold zStep;change (-1:Int) < x.1.1 at h1;simp[h4];omega
 ·rw[List.concat_eq_append] at h h1 ⊢;rw[endE_snoc] at h1;unfold jstep;rw[List.getLast?_append];simp only[List.getLast?_singleton,Option.some_or,List.dropLast_concat];have h':=h;rw[zF_snoc,Bool.and_eq_true] at h';obtain⟨y1,y2,y3,y4⟩:=zStep_iff h'.2;by_cases hc:y.1.2+1=x.1.1/\y.2=x.2
  ·rw[if_pos hc];obtain⟨c1,c2⟩:=hc;refine⟨?_,endE_snoc _ _ _,fun o=>?_⟩
   ·rw[zF_snoc,h'.1,Bool.true_and];have:=h'.2;unfold zStep at this ⊢;rw[c2] at this;simp only[Bool.and_eq_true,decide_eq_true_eq] at this ⊢;exact⟨⟨this.1.1,by omega,by omega⟩,this.2⟩
   ·rw[tells_app,tells_app,tells_one,tells_one,tells_one,Option.or_assoc];congr 1;have:inZ o ((y.1.1,x.1.2),x.2)=(inZ o y || inZ o x):=by
     unfold inZ;rw[Bool.eq_iff_iff];simp;omega
    rw[this,c2];rcases inZ o y with _ | _<;>rcases inZ o x with _ | _<;>rfl
  ·rw[if_neg hc];refine⟨?_,endE_snoc _ _ _,fun o=>tells_app _ _ _⟩;rw[zF_snoc,h,Bool.true_and,endE_snoc,endP_snoc];unfold zStep;simp only[Bool.and_eq_true,decide_eq_true_eq,Bool.not_eq_true',Bool.and_eq_false_imp];refine⟨⟨h1,h2,h3⟩,h4,fun e=>?_⟩;simp only[Option.some.injEq] at e;simp only[decide_eq_false_iff_not];intro e2;exact hc ⟨by omega,e⟩
theorem joined_ok:∀{l acc:List Zn},zF (-1) none acc=true->dis (endE (-1) acc) l->zF (-1) none (l.foldl jstep acc)=true/\∀o,tells (l.foldl jstep acc) o=(tells acc o).or (tells l o)
 | [],acc,h,_=>⟨h,fun o=>by
  show tells acc o=(tells acc o).or none;rw[Option.or_none]⟩
 | x :: r,acc,h,hd=>by
  obtain⟨⟨a1,a2,a3,a4⟩,hr⟩:=hd;obtain⟨b1,b2,b3⟩:=jstep_ok h a1 a2 a3 a4;rw[List.foldl_cons];obtain⟨c1,c2⟩:=joined_ok (l:=r) b1 (by rw[b2];exact hr);refine⟨c1,fun o=>?_⟩;rw[c2,b3,Option.or_assoc,<-tells_app];rfl
theorem joinedZ_ok {l:List Zn} (h:dis (-1) l):zF (-1) none (joinedZ l)=true/\∀o,tells (joinedZ l) o=tells l o:=by
 obtain⟨h1,h2⟩:=joined_ok (l:=l) (acc:=[]) rfl h;exact⟨h1,fun o=>by rw[joinedZ,h2];rfl⟩
theorem joined_runs {l:List Zn} (h:dis (-1) l) (f:Int->Option (List Vc.St)) (hf:∀o v,f o=some v->fm (-1) v=true) (ht:∀o,tells l o=if 0<=o/\o < ((256:Nat):Int) then f o else none):joinedZ l=rls f 256:=by
 obtain⟨h1,h2⟩:=joinedZ_ok h;have h3:=rl_ok f hf 256 Zl;exact zF_ext h1 h3.fm fun o=>by rw[h2,ht];exact(h3.tell o).symm
def apartZ (x y:Zn):Prop:=x.1.2 < y.1.1\/y.1.2 < x.1.1
def wellZ (x:Zn):Prop:=0<=x.1.1/\x.1.1<=x.1.2/\x.1.2<=255/\fm (-1) x.2=true
theorem apart_symm {x y:Zn} (h:apartZ x y):apartZ y x:=Or.symm h
theorem tells_iff:∀{l:List Zn} {o:Int} {v:List Vc.St},l.Pairwise apartZ->(tells l o=some v↔∃x∈l,inZ o x=true/\x.2=v)
 | [],o,v,_=>⟨fun h=>(nomatch h),fun ⟨_,h,_⟩=>(nomatch h)⟩
 | y :: r,o,v,h=>by
  obtain⟨h1,h2⟩:=List.pairwise_cons.1 h;have ih:=tells_iff (o:=o) (v:=v) h2;rcases hi:inZ o y with _ | _
  ·have:tells (y :: r) o=tells r o:=by unfold tells;rw[List.find?_cons,hi]
   rw[this,ih];constructor
   ·rintro⟨x,hx,a,b⟩;exact⟨x,List.mem_cons_of_mem _ hx,a,b⟩
   ·rintro⟨x,hx,a,b⟩;rcases List.mem_cons.1 hx with rfl | hx
    ·rw[hi] at a;cases a
    ·exact⟨x,hx,a,b⟩
  ·have:tells (y :: r) o=some y.2:=by unfold tells;rw[List.find?_cons,hi];rfl
   rw[this];constructor
   ·intro e;exact⟨y,List.mem_cons_self ..,hi,Option.some.inj e⟩
   ·rintro⟨x,hx,a,rfl⟩;rcases List.mem_cons.1 hx with rfl | hx
    ·rfl
    ·have c:=h1 x hx;have:=inZ_iff.1 hi;have:=inZ_iff.1 a;unfold apartZ at c;omega
theorem tells_perm {l m:List Zn} (hp:l.Perm m) (hd:l.Pairwise apartZ) (o:Int):tells l o=tells m o:=by
 have hm:m.Pairwise apartZ:=(hp.pairwise_iff fun h=>apart_symm h).1 hd;have key:∀v,tells l o=some v↔tells m o=some v:=fun v=>by
  rw[tells_iff hd,tells_iff hm];constructor
  ·rintro⟨x,hx,a⟩;exact⟨x,hp.mem_iff.1 hx,a⟩
  ·rintro⟨x,hx,a⟩;exact⟨x,hp.mem_iff.2 hx,a⟩
 rcases hl:tells l o with _ | v
 ·rcases hm':tells m o with _ | u
  ·rfl
  ·have:=(key u).2 hm';rw[hl] at this;cases this
 ·exact((key v).1 hl).symm
theorem dis_of:∀{e:Int} {l:List Zn},(∀x∈l,e < x.1.1)->l.Pairwise (fun x y=>x.1.1<=y.1.1)->l.Pairwise apartZ->(∀x∈l,wellZ x)->dis e l
 | _,[],_,_,_,_=>trivial
 | e,x :: r,he,hs,hd,hw=>by
  obtain⟨s1,s2⟩:=List.pairwise_cons.1 hs;obtain⟨d1,d2⟩:=List.pairwise_cons.1 hd;obtain⟨w1,w2,w3,w4⟩:=hw x (List.mem_cons_self ..);refine⟨⟨he x (List.mem_cons_self ..),w2,w3,w4⟩,dis_of (fun y hy=>?_) s2 d2 fun y hy=>hw y (List.mem_cons_of_mem _ hy)⟩;have a:=s1 y hy;have b:=d1 y hy;have c:=hw y (List.mem_cons_of_mem _ hy);unfold apartZ at b;unfold wellZ at c;omega
theorem parts_runs {l m:List Zn} (hp:l.Perm m) (hs:m.Pairwise fun x y=>x.1.1<=y.1.1) (hd:l.Pairwise apartZ) (hw:∀x∈l,wellZ x) (f:Int->Option (List Vc.St)) (hf:∀o v,f o=some v->fm (-1) v=true)
  (ht:∀o,tells l o=if 0<=o/\o < ((256:Nat):Int) then f o else none):joinedZ m=rls f 256:=
 joined_runs (dis_of (fun x hx=>by have:=(hw x (hp.mem_iff.2 hx)).1;omega) hs ((hp.pairwise_iff fun h=>apart_symm h).1 hd) fun x hx=>hw x (hp.mem_iff.2 hx)) f hf fun o=>by rw[<-tells_perm hp hd o,ht]
theorem fmS_low:∀{e:Int} {l:List Sn.Sp},Sn.fmS e l=true->∀t∈l,e+1 < t.1
 | _,[],_,_,h=>by cases h
 | e,s :: r,h,t,ht=>by
  obtain⟨h1,h2,h3,h4,h5⟩:=Sn.fmS_cons.1 h;rcases List.mem_cons.1 ht with rfl | ht
  ·exact h4
  ·have:=fmS_low h5 t ht;omega
theorem fmS_apart:∀{e:Int} {l:List Sn.Sp},Sn.fmS e l=true->l.Pairwise fun a b=>a.2 < b.1
 | _,[],_=>List.Pairwise.nil
 | e,s :: r,h=>by
  obtain⟨h1,h2,h3,h4,h5⟩:=Sn.fmS_cons.1 h;exact List.pairwise_cons.2 ⟨fun t ht=>by have:=fmS_low h5 t ht;omega,fmS_apart h5⟩
theorem fmS_wf:∀{e:Int} {l:List Sn.Sp},Sn.fmS e l=true->∀t∈l,0<=t.1/\t.1<=t.2/\t.2<=255
 | _,[],_,_,h=>by cases h
 | e,s :: r,h,t,ht=>by
  obtain⟨h1,h2,h3,h4,h5⟩:=Sn.fmS_cons.1 h;rcases List.mem_cons.1 ht with rfl | ht
  ·exact⟨h3,h1,h2⟩
  ·exact fmS_wf h5 t ht
theorem of_span (p:Nat->Bool) {s:Sn.Sp} (h:s∈Sn.of p) (o:Nat) (h1:s.1<=o) (h2:(o:Int)<=s.2):p o=true:=by
 obtain⟨a,b,c⟩:=fmS_wf (Sn.of_fm p) s h;rw[<-Sn.of_in p o (by omega)];unfold Sn.inB;exact List.any_eq_true.2 ⟨s,h,by simp;omega⟩
theorem of_has (p:Nat->Bool) (o:Nat) (h:o < 256) (hp:p o=true):∃s∈Sn.of p,s.1<=(o:Int)/\(o:Int)<=s.2:=by
 rw[<-Sn.of_in p o h] at hp;unfold Sn.inB at hp;obtain⟨s,hs,hi⟩:=List.any_eq_true.1 hp;simp at hi;exact⟨s,hs,hi⟩
def partsOf (c:List Vc.St->Bool) (p:Nat->Bool) (v:List Vc.St):List Zn:=if c v=true then [] else (Sn.of p).map fun s=>(s,v)
theorem partsOf_mem {c:List Vc.St->Bool} {p:Nat->Bool} {v:List Vc.St} {x:Zn}:x∈partsOf c p v↔c v=false/\x.1∈Sn.of p/\x.2=v:=by
 unfold partsOf;rcases hc:c v with _ | _
 ·simp only[Bool.false_eq_true,if_false,List.mem_map,true_and];constructor
  ·rintro⟨s,hs,rfl⟩;exact⟨hs,rfl⟩
  ·rintro⟨hs,rfl⟩;exact⟨x.1,hs,rfl⟩
 ·simp
theorem partsOf_apart (c:List Vc.St->Bool) (p:Nat->Bool) (v:List Vc.St):(partsOf c p v).Pairwise apartZ:=by
 unfold partsOf;split
 ·exact List.Pairwise.nil
 ·rw[List.pairwise_map];exact(fmS_apart (Sn.of_fm p)).imp fun h=>.inl h
def pieceP (c:List Vc.St->Bool) (far:List Vc.St->List Vc.St) (st:List Vc.St->Nat->Bool) (q:Zn):List Zn:=
 partsOf c (fun o=>Sn.setOf [q.1] o && st q.2 o) q.2++partsOf c (fun o=>Sn.setOf [q.1] o && !st q.2 o) (far q.2)
theorem inZ_set (q:Zn) (o:Nat):Sn.setOf [q.1] o=inZ (o:Int) q:=by
 unfold Sn.setOf Sn.inB inZ;simp
theorem pieceP_in {c:List Vc.St->Bool} {far:List Vc.St->List Vc.St} {st:List Vc.St->Nat->Bool} {q x:Zn} (h:x∈pieceP c far st q):
  (0<=x.1.1/\x.1.1<=x.1.2/\x.1.2<=255)/\∀o:Nat,inZ (o:Int) x=true->inZ (o:Int) q=true/\x.2=(if st q.2 o=true then q.2 else far q.2)/\c x.2=false:=by
 unfold pieceP at h;rcases List.mem_append.1 h with h | h
 ·obtain⟨h1,h2,h3⟩:=partsOf_mem.1 h;refine⟨fmS_wf (Sn.of_fm _) _ h2,fun o ho=>?_⟩;have:=of_span _ h2 o (inZ_iff.1 ho).1 (inZ_iff.1 ho).2;simp only[Bool.and_eq_true,inZ_set] at this;exact⟨this.1,by rw[if_pos this.2,h3],by rw[h3,h1]⟩
 ·obtain⟨h1,h2,h3⟩:=partsOf_mem.1 h;refine⟨fmS_wf (Sn.of_fm _) _ h2,fun o ho=>?_⟩;have:=of_span _ h2 o (inZ_iff.1 ho).1 (inZ_iff.1 ho).2;simp only[Bool.and_eq_true,inZ_set,Bool.not_eq_true'] at this;exact⟨this.1,by rw[if_neg (by rw[this.2];simp),h3],by rw[h3,h1]⟩
theorem pieceP_has {c:List Vc.St->Bool} {far:List Vc.St->List Vc.St} {st:List Vc.St->Nat->Bool} {q:Zn} {o:Nat} (ho:o < 256) (hq:inZ (o:Int) q=true) (hc:c (if st q.2 o=true then q.2 else far q.2)=false):
  ∃x∈pieceP c far st q,inZ (o:Int) x=true/\x.2=(if st q.2 o=true then q.2 else far q.2):=by
 unfold pieceP;rcases hs:st q.2 o with _ | _
 ·rw[hs,if_neg (by simp)] at hc;obtain⟨s,h1,h2⟩:=of_has (fun o=>Sn.setOf [q.1] o && !st q.2 o) o ho (by simp only[inZ_set,hq,hs];rfl);exact⟨(s,far q.2),List.mem_append_right _ (partsOf_mem.2 ⟨hc,h1,rfl⟩),inZ_iff.2 h2,by simp⟩
 ·rw[hs,if_pos rfl] at hc;obtain⟨s,h1,h2⟩:=of_has (fun o=>Sn.setOf [q.1] o && st q.2 o) o ho (by simp only[inZ_set,hq,hs];rfl);exact⟨(s,q.2),List.mem_append_left _ (partsOf_mem.2 ⟨hc,h1,rfl⟩),inZ_iff.2 h2,by simp⟩
theorem apart_of {x y:Zn} (hx:0<=x.1.1/\x.1.1<=x.1.2/\x.1.2<=255) (hy:0<=y.1.1/\y.1.1<=y.1.2/\y.1.2<=255) (h:∀o:Nat,inZ (o:Int) x=true->inZ (o:Int) y=true->False):apartZ x y:=by
 unfold apartZ;rcases Int.lt_or_le x.1.2 y.1.1 with a | a
 ·exact .inl a
 ·rcases Int.lt_or_le y.1.2 x.1.1 with b | b
  ·exact .inr b
  ·exfalso;refine h (max x.1.1 y.1.1).toNat (inZ_iff.2 ⟨by omega,by omega⟩) (inZ_iff.2 ⟨by omega,by omega⟩)
theorem pieceP_apart (c:List Vc.St->Bool) (far:List Vc.St->List Vc.St) (st:List Vc.St->Nat->Bool) (q:Zn):(pieceP c far st q).Pairwise apartZ:=by
 unfold pieceP;refine List.pairwise_append.2 ⟨partsOf_apart _ _ _,partsOf_apart _ _ _,fun x hx y hy=>?_⟩;obtain⟨_,h2,_⟩:=partsOf_mem.1 hx;obtain⟨_,k2,_⟩:=partsOf_mem.1 hy;refine apart_of (fmS_wf (Sn.of_fm _) _ h2) (fmS_wf (Sn.of_fm _) _ k2) fun o a b=>?_;have a:=of_span _ h2 o (inZ_iff.1 a).1 (inZ_iff.1 a).2;have b:=of_span _ k2 o (inZ_iff.1 b).1 (inZ_iff.1 b).2;simp only[Bool.and_eq_true,Bool.not_eq_true'] at a b;rw[a.2] at b;exact absurd b.2 (by simp)
theorem pcs_apart (known:List Vc.St):∀{e:Int} {p:Option (List Vc.St)} {z:List Zn},zF e p z=true->(pcs known (e+1) z).Pairwise apartZ
 | e,p,[],_=>by
  rw[pcs];split
  ·exact List.pairwise_singleton ..
  ·exact List.Pairwise.nil
 | e,p,x :: r,h=>by
  rw[zF,Bool.and_eq_true] at h;obtain⟨h1,h2,h3,_⟩:=zStep_iff h.1;have hr:∀q∈pcs known (x.1.2+1) r,x.1.2 < q.1.1:=fun q hq=>(pcs_reach known h.2 q hq).1.1;rw[pcs];refine List.pairwise_append.2 ⟨?_,List.pairwise_cons.2 ⟨fun q hq=>.inl (hr q hq),pcs_apart known h.2⟩,fun a ha b hb=>?_⟩
  ·split
   ·exact List.pairwise_singleton ..
   ·exact List.Pairwise.nil
  ·split at ha
   ·rcases List.mem_singleton.1 ha with rfl;rcases List.mem_cons.1 hb with rfl | hb
    ·left;dsimp only;omega
    ·left;have:=hr b hb;dsimp only;omega
   ·cases ha
def allP (c:List Vc.St->Bool) (far:List Vc.St->List Vc.St) (st:List Vc.St->Nat->Bool) (z:List Zn) (known:List Vc.St):List Zn:=(pcs known 0 z).flatMap (pieceP c far st)
def newR (far:List Vc.St->List Vc.St) (st:List Vc.St->Nat->Bool) (z:List Zn) (known:List Vc.St) (o:Int):List Vc.St:=
 if st (reach z known o) o.toNat=true then reach z known o else far (reach z known o)
def newF (c:List Vc.St->Bool) (far:List Vc.St->List Vc.St) (st:List Vc.St->Nat->Bool) (z:List Zn) (known:List Vc.St) (o:Int):Option (List Vc.St):=
 if c (newR far st z known o)=true then none else some (newR far st z known o)
theorem reach_fm {z:List Zn} (h:zF (-1) none z=true) {known:List Vc.St} (hk:fm (-1) known=true) (o:Int):fm (-1) (reach z known o)=true:=by
 unfold reach;rcases hz:z.find? (inZ o) with _ | x
 ·exact hk
 ·exact zF_fm h x (List.mem_of_find?_eq_some hz)
theorem allP_apart (c:List Vc.St->Bool) (far:List Vc.St->List Vc.St) (st:List Vc.St->Nat->Bool) {z:List Zn} (h:zF (-1) none z=true) (known:List Vc.St):(allP c far st z known).Pairwise apartZ:=by
 unfold allP;refine List.pairwise_flatMap.2 ⟨fun q _=>pieceP_apart c far st q,?_⟩;refine(pcs_apart known h).imp fun {a b} hab x hx y hy=>?_;obtain⟨x1,x2⟩:=pieceP_in hx;obtain⟨y1,y2⟩:=pieceP_in hy;refine apart_of x1 y1 fun o hi hj=>?_;have a1:=inZ_iff.1 (x2 o hi).1;have b1:=inZ_iff.1 (y2 o hj).1;unfold apartZ at hab;omega
theorem allP_well (c:List Vc.St->Bool) (far:List Vc.St->List Vc.St) (hfar:∀v,fm (-1) v=true->fm (-1) (far v)=true) (st:List Vc.St->Nat->Bool) {z:List Zn} (h:zF (-1) none z=true) {known:List Vc.St} (hk:fm (-1) known=true):∀x∈allP c far st z known,wellZ x:=by
 intro x hx;unfold allP at hx;obtain⟨q,hq,hx⟩:=List.mem_flatMap.1 hx;obtain⟨⟨x1,x2,x3⟩,x4⟩:=pieceP_in hx;refine⟨x1,x2,x3,?_⟩;obtain⟨k,e⟩:=Int.eq_ofNat_of_zero_le x1;obtain⟨a1,a2,a3⟩:=x4 k (inZ_iff.2 ⟨by omega,by omega⟩);have hr:=(pcs_reach known h q hq).2 _ a1;have hf:=reach_fm h hk (k:Int);rw[hr] at hf;rw[a2];split
 ·exact hf
 ·exact hfar _ hf
theorem allP_tells (c:List Vc.St->Bool) (far:List Vc.St->List Vc.St) (st:List Vc.St->Nat->Bool) {z:List Zn} (h:zF (-1) none z=true) (known:List Vc.St) (o:Int):tells (allP c far st z known) o=if 0<=o/\o < ((256:Nat):Int) then newF c far st z known o else none:=by
 have key:∀v,tells (allP c far st z known) o=some v↔(if 0<=o/\o < ((256:Nat):Int) then newF c far st z known o else none)=some v:=fun v=>by
  rw[tells_iff (allP_apart c far st h known)];unfold allP;constructor
  ·rintro⟨x,hx,hi,rfl⟩;obtain⟨q,hq,hx⟩:=List.mem_flatMap.1 hx;obtain⟨⟨x1,x2,x3⟩,x4⟩:=pieceP_in hx;have hb:=inZ_iff.1 hi;obtain⟨k,rfl⟩:=Int.eq_ofNat_of_zero_le (show 0<=o by omega);obtain⟨a1,a2,a3⟩:=x4 k hi;have hr:=(pcs_reach known h q hq).2 _ a1;rw[if_pos ⟨by omega,by omega⟩];have e:newR far st z known (k:Int)=x.2:=by unfold newR;rw[hr,Int.toNat_natCast,a2]
   unfold newF;rw[e,a3];rfl
  ·intro hv;by_cases hr:0<=o/\o < ((256:Nat):Int)
   ·rw[if_pos hr] at hv;obtain⟨k,rfl⟩:=Int.eq_ofNat_of_zero_le hr.1;obtain⟨q,hq,hi⟩:=pcs_all known (o:=(k:Int)) h (by omega) (by omega);have e:=(pcs_reach known h q hq).2 _ hi;unfold newF newR at hv;rw[e,Int.toNat_natCast] at hv;rcases hc:c (if st q.2 k=true then q.2 else far q.2) with _ | _
    ·rw[hc,if_neg (by simp)] at hv;obtain⟨x,hx,x1,x2⟩:=pieceP_has (c:=c) (far:=far) (st:=st) (q:=q) (o:=k) (by omega) hi hc;exact⟨x,List.mem_flatMap.2 ⟨q,hq,hx⟩,x1,by rw[x2];exact Option.some.inj hv⟩
    ·rw[hc,if_pos rfl] at hv;cases hv
   ·rw[if_neg hr] at hv;cases hv
 rcases hl:tells (allP c far st z known) o with _ | v
 ·rcases hm:(if 0<=o/\o < ((256:Nat):Int) then newF c far st z known o else none) with _ | u
  ·rfl
  ·have:=(key u).2 hm;rw[hl] at this;cases this
 ·exact((key v).1 hl).symm
theorem take_runs (c:List Vc.St->Bool) (far:List Vc.St->List Vc.St) (hfar:∀v,fm (-1) v=true->fm (-1) (far v)=true) (st:List Vc.St->Nat->Bool) {z:List Zn} (h:zF (-1) none z=true) {known:List Vc.St} (hk:fm (-1) known=true)
  {m:List Zn} (hp:(allP c far st z known).Perm m) (hs:m.Pairwise fun x y=>x.1.1<=y.1.1):joinedZ m=rls (newF c far st z known) 256/\zF (-1) none (joinedZ m)=true:=by
 have hf:∀o v,newF c far st z known o=some v->fm (-1) v=true:=fun o v e=>by
  unfold newF at e
  split at e
  ·cases e
  ·rw[<-Option.some.inj e];unfold newR;split
   ·exact reach_fm h hk o
   ·exact hfar _ (reach_fm h hk o)
 have e:=parts_runs hp hs (allP_apart c far st h known) (allP_well c far hfar st h hk) _ hf (allP_tells c far st h known);exact⟨e,by rw[e];exact(rl_ok _ hf 256 Zl).fm⟩
def farTo (r s e:List Vc.St):Nat->List Vc.St
 | 0=>r
 | k+1=>if Vc.cnt r k < Vc.cnt e k/\Vc.cnt s k<=Vc.cnt r k then vec (jn [farTo r s e k,[(Vc.cnt e k,(k:Int))]]) else farTo r s e k
def farC (r s e:List Vc.St) (n:Nat):Int:=if Vc.cnt s n<=Vc.cnt r n then max (Vc.cnt r n) (Vc.cnt e n) else Vc.cnt r n
theorem cnt_sole (a:Int) (k n:Nat) (ha:0 < a) (hk:k < 64):Vc.cnt [(a,(k:Int))] n=if n=k then a else 0:=by
 rw[Vc.cnt];by_cases h:n=k
 ·subst h;rw[if_pos ⟨(Vc.right_iff _).2 ⟨ha,by show (0:Int)<=(n:Int);omega,by show (n:Int) < 64;omega⟩,rfl⟩,if_pos rfl]
 ·rw[if_neg (fun e=>h (by have:=e.2;dsimp only at this;omega)),if_neg h];rfl
theorem farTo_ok (r s e:List Vc.St) (hr:fm (-1) r=true):∀k:Nat,k<=64->fm (-1) (farTo r s e k)=true/\∀n,n < 64->Vc.cnt (farTo r s e k) n=if n < k then farC r s e n else Vc.cnt r n
 | 0,_=>⟨hr,fun n _=>by rw[if_neg (by omega)];rfl⟩
 | k+1,hk=>by
  obtain⟨h1,h2⟩:=farTo_ok r s e hr k (by omega);have r0:=Vc.cnt_nonneg r k;rw[farTo];by_cases hc:Vc.cnt r k < Vc.cnt e k/\Vc.cnt s k<=Vc.cnt r k
  ·rw[if_pos hc];refine⟨formed_vec _,fun n hn=>?_⟩;rw[cnt_join _ _ hn,h2 n hn,cnt_sole _ _ _ (by omega) (by omega)];by_cases hnk:n=k
   ·subst hnk;rw[if_neg (by omega),if_pos rfl,if_pos (by omega)];unfold farC;rw[if_pos hc.2]
   ·rw[if_neg hnk];have q:=Vc.cnt_nonneg r n;by_cases hl:n < k
    ·rw[if_pos hl,if_pos (by omega)];unfold farC;split<;>omega
    ·rw[if_neg hl,if_neg (by omega)];omega
  ·rw[if_neg hc];refine⟨h1,fun n hn=>?_⟩;rw[h2 n hn];by_cases hnk:n=k
   ·subst hnk;rw[if_neg (by omega),if_pos (by omega)];unfold farC;split<;>omega
   ·by_cases hl:n < k
    ·rw[if_pos hl,if_pos (by omega)]
    ·rw[if_neg hl,if_neg (by omega)]
def staysL (miss:Wr->Bool) (b:List Sn.Sp) (ws:List Wr):List Sn.Sp:=
 ws.foldl (fun st w=>if miss w=true then Sn.tidy [st,Sn.tidy [(w.2.1,w.2.1)]].flatten else st) b
theorem staysL_snoc (miss:Wr->Bool) (b:List Sn.Sp) (ws:List Wr) (w:Wr):staysL miss b (ws++[w])=if miss w=true then Sn.tidy [staysL miss b ws,Sn.tidy [(w.2.1,w.2.1)]].flatten else staysL miss b ws:=by
 unfold staysL;rw[List.foldl_append];rfl
theorem stays_in (miss:Wr->Bool) (o:Int) (h0:0<=o) (h1:o<=255):∀(ws:List Wr) (b:List Sn.Sp),Sn.inB (staysL miss b ws) o=(Sn.inB b o || ws.any fun w=>miss w && decide (w.2.1=o))
 | [],b=>by simp[staysL]
 | w :: r,b=>by
  unfold staysL;rw[List.foldl_cons];show Sn.inB (staysL miss _ r) o=_;rw[stays_in miss o h0 h1 r,List.any_cons];rcases miss w with _ | _
  ·simp
  ·rw[if_pos rfl,Sn.tidy_in _ _ h0 h1];simp only[List.flatten_cons,List.flatten_nil,List.append_nil];rw[Sn.inB_app,Sn.tidy_in _ _ h0 h1,Sn.inB_cons,Sn.inB_nil,Bool.or_false,Bool.true_and,Bool.or_assoc];congr 2;rw[Bool.eq_iff_iff];simp;omega
theorem any_at (miss:Wr->Bool) (o:Int):∀{ws:List Wr},ws.Pairwise (fun a b=>a.2.1 < b.2.1)->(ws.any fun w=>miss w && decide (w.2.1=o))=match ws.find? (fun w=>decide (w.2.1=o)) with | some w=>miss w | none=>false
 | [],_=>rfl
 | w :: r,h=>by
  obtain⟨h1,h2⟩:=List.pairwise_cons.1 h;rw[List.any_cons,List.find?_cons];by_cases ho:w.2.1=o
  ·rw[decide_eq_true ho,Bool.and_true];have:(r.any fun w=>miss w && decide (w.2.1=o))=false:=by
    rw[List.any_eq_false];intro u hu;have:=h1 u hu;rw[decide_eq_false (by omega),Bool.and_false];simp
   rw[this,Bool.or_false]
  ·rw[decide_eq_false ho,Bool.and_false,Bool.false_or];exact any_at miss o h2
end Go.Proofs.YtmbeahbgafkjfaaGreatDoor
