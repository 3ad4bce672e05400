/- Lemmas for the claim, layer 13. -/
import Derived.Test.YtmbeahbgafkjfaaGreatDoorKc12
set_option maxRecDepth 100000
set_option maxHeartbeats 16000000
namespace Go.Proofs.YtmbeahbgafkjfaaGreatDoor
open Go.RowKit
structure ZV where
 A:Option Addr
 n:Nat
 c:Nat
def zvl (p:ZV×Zn):List Value:=[.int .i64 p.2.1.1,.int .i64 p.2.1.2,.slice p.1.A p.1.n p.1.c]
def zvv (L:List (ZV×Zn)):List Value:=L.flatMap zvl
def zns (L:List (ZV×Zn)):List Zn:=L.map (·.2)
theorem zns_len (L:List (ZV×Zn)):(zns L).length=L.length:=by simp[zns]
theorem zns_at (L:List (ZV×Zn)) (k:Nat) (h:k < L.length):(zns L)[k]'(by rw[zns_len];exact h)=L[k].2:=by simp[zns]
theorem zns_app (L M:List (ZV×Zn)):zns (L++M)=zns L++zns M:=by simp[zns]
theorem zvv_app (L M:List (ZV×Zn)):zvv (L++M)=zvv L++zvv M:=by simp[zvv]
theorem zvv_at (L:List (ZV×Zn)) (k:Nat) (h:k < L.length) (j:Nat) (hj:j < 3):(zvv L)[k * 3+j]?=(zvl L[k])[j]?:=flat_at zvl 3 (by decide) L (fun _ _=>rfl) k h j hj
theorem zvv_len (L:List (ZV×Zn)):(zvv L).length=L.length * 3:=flat_len zvl 3 L (fun _ _=>rfl)
theorem zvl_oneCell (p:ZV×Zn):∀u∈zvl p,u.oneCell'=true:=by
 intro u hu;simp only[zvl,List.mem_cons,List.not_mem_nil,or_false] at hu;rcases hu with h | h | h<;>subst h<;>rfl
structure RdZ (w:World) (B:Nat) (A:Option Addr) (n c:Nat) (L:List (ZV×Zn)):Prop where
 len:L.length=n
 rd:Rd w B 3 A n c (zvv L)
 each:∀p∈L,p.2.2.length=p.1.n/\Rd w B 2 p.1.A p.1.n p.1.c (sv p.2.2)
theorem RdZ.go {w w':World} {A:Option Addr} {n c:Nat} {L:List (ZV×Zn)} (h:RdZ w w.heap.size A n c L) (hb:Below w.heap.size w w'):RdZ w' w'.heap.size A n c L:=⟨h.len,h.rd.go hb,fun p hp=>⟨(h.each p hp).1,(h.each p hp).2.go hb⟩⟩
theorem RdZ.below {w w':World} {B:Nat} {A:Option Addr} {n c:Nat} {L:List (ZV×Zn)} (h:RdZ w B A n c L) (hb:Below B w w'):RdZ w' B A n c L:=⟨h.len,h.rd.below hb,fun p hp=>⟨(h.each p hp).1,(h.each p hp).2.below hb⟩⟩
theorem RdZ.more {w:World} {B B':Nat} {A:Option Addr} {n c:Nat} {L:List (ZV×Zn)} (h:RdZ w B A n c L) (hb:B<=B'):RdZ w B' A n c L:=⟨h.len,h.rd.more hb,fun p hp=>⟨(h.each p hp).1,(h.each p hp).2.more hb⟩⟩
theorem RdZ.none_ (w:World) (B:Nat):RdZ w B none 0 0 []:=⟨rfl,Rd.none_,fun p hp=>by cases hp⟩
theorem RdZ.zone {w:World} {B n c k:Nat} {A:Option Addr} {L:List (ZV×Zn)} (h:RdZ w B A n c L) (hk:k < L.length):
  ∃b o,A=some ⟨b,o,none⟩/\b < B/\w.cell? ⟨b,o+k * 3,none⟩=some (.int .i64 L[k].2.1.1)/\w.cell? ⟨b,o+k * 3+1,none⟩=some (.int .i64 L[k].2.1.2) /\
   w.cell? ⟨b,o+k * 3+2,none⟩=some (.slice L[k].1.A L[k].1.n L[k].1.c):=by
 have hl:=h.len;obtain⟨b,o,rfl,hb,hc⟩:=h.rd.plain (by omega) (by decide);have e:∀j,j < 3->∀u,(zvl L[k])[j]?=some u->w.cell? ⟨b,o+k * 3+j,none⟩=some u:=fun j hj u hu=>by
  rw[Nat.add_assoc];exact hc (k * 3+j) u (by rw[zvv_at L k hk j hj,hu])
 exact⟨b,o,rfl,hb,e 0 (by decide) _ rfl,e 1 (by decide) _ rfl,e 2 (by decide) _ rfl⟩
theorem RdZ.max {w:World} {B n c:Nat} {A:Option Addr} {L:List (ZV×Zn)} (h:RdZ w B A n c L):n<=9223372036854775807:=by
 have h1:=h.rd.cap;have h2:=h.rd.max;unfold maxLen at h2;omega
def aheadE (z:List Zn) (k:Nat):Int:=if h:k≠0/\k - 1 < z.length then (z[k - 1]'h.2).1.2 else -1
def aheadP (z:List Zn) (k:Nat):Option (List Vc.St):=if h:k≠0/\k - 1 < z.length then some (z[k - 1]'h.2).2 else none
theorem aheadE_zero (z:List Zn):aheadE z 0=-1:=by unfold aheadE;rw[dif_neg (by simp)]
theorem aheadP_zero (z:List Zn):aheadP z 0=none:=by unfold aheadP;rw[dif_neg (by simp)]
theorem aheadE_next (z:List Zn) (k:Nat) (h:k < z.length):aheadE z (k+1)=z[k].1.2:=by
 unfold aheadE;rw[dif_pos ⟨by omega,by simpa using h⟩];simp
theorem aheadP_next (z:List Zn) (k:Nat) (h:k < z.length):aheadP z (k+1)=some z[k].2:=by
 unfold aheadP;rw[dif_pos ⟨by omega,by simpa using h⟩];simp
theorem zF_drop (e:Int) (p:Option (List Vc.St)) (z:List Zn) (k:Nat) (h:k < z.length):zF e p (z.drop k)=(zStep e p z[k] && zF z[k].1.2 (some z[k].2) (z.drop (k+1))):=by
 rw[List.drop_eq_getElem_cons h,zF]
theorem zF_end (e:Int) (p:Option (List Vc.St)) (z:List Zn) (k:Nat) (h:z.length<=k):zF e p (z.drop k)=true:=by
 rw[List.drop_of_length_le h];rfl
theorem quiet_then {w wr:World} {q:Nat} (h:Hid (wr=w.drewN q)) (m:Nat):Hid (wr.drewN m=w.drewN (q+m)):=Hz_ (by rw[h.out,World.drewN_drewN])
theorem equalSt_q (A D:Option Addr) (n c m d:Nat) (u v:List Vc.St) (w:World) (hl:u.length=n) (hl2:v.length=m) (hR:Rd w w.heap.size 2 A n c (sv u)) (hR2:Rd w w.heap.size 2 D m d (sv v)):
  Calls Tryz.prog 160 #[.slice A n c,.slice D m d] w fun e w'=>e=.returned (.bool (decide (u=v)))/\∃q,w'=w.drewN q:=by
 have hmax:n<=9223372036854775807:=by have h1:=hR.cap;have h2:=hR.max;unfold maxLen at h2;omega
 by_cases hnm:n=m
 ·subst hnm;go_enter Tryz.func160,Tryz.ntmps160;go_wp2;go_loopw [13] (fun i wr=>∃(k q:Nat),k<=n/\i=.int .i64 k/\decide (u=v)=decide (u.drop k=v.drop k)/\Hid (wr=w.drewN q)) (fun i _=>n - (intOf i).toNat)
  case atStart=>exact⟨0,0,by omega,rfl,rfl,Hz_ rfl⟩
  case round=>
   obtain⟨k,q,hk,rfl,hdd,hq⟩:=hrel;have hR:=hR.drewN q;have hR2:=hR2.drewN q;rw[<-hq.out] at hR hR2;by_cases hlt:k < n
   ·have hk1:k < u.length:=by omega
    have hk2:k < v.length:=by omega
    obtain⟨b,o,rfl,hab,h0,h1⟩:=hR.stamp hl hlt;obtain⟨b2,o2,rfl,hab2,h02,h12⟩:=hR2.stamp hl2 hlt;have HD:=Hz_ hdd;have HE:=Hz_ (show u[k]=((u[k]'hk1).1,(u[k]'hk1).2) from rfl);have HE2:=Hz_ (show v[k]=((v[k]'hk2).1,(v[k]'hk2).2) from rfl);generalize (u[k]'hk1).1=sc at h0 HE;generalize (u[k]'hk1).2=sn at h1 HE;generalize (v[k]'hk2).1=tc at h02 HE2;generalize (v[k]'hk2).2=tn at h12 HE2;clear hdd hR hR2;by_cases e1:sc=tc
    ·subst e1;by_cases e2:sn=tn
     ·subst e2;have HN:=Hz_ (dec_drop hk1 hk2 (by rw[HE.out,HE2.out]));go_wp2;go_quiet (fail);go_wp2;go_roundw
      case rel=>exact⟨k+1,_,by omega,by go_num,by rw[HD.out,HN.out],quiet_then hq _⟩
      case measure=>simp[intOf];omega
     ·have HN:=Hz_ (show decide (u=v)=false by
       rw[decide_eq_false_iff_not];intro h;subst h;exact e2 (congrArg Prod.snd (HE.out.symm.trans HE2.out)))
      go_wp2;go_quiet (fail);go_wp2;go_ret;exact⟨by rw[HN.out];rfl,_,(quiet_then hq _).out⟩
    ·have HN:=Hz_ (show decide (u=v)=false by
      rw[decide_eq_false_iff_not];intro h;subst h;exact e1 (congrArg Prod.fst (HE.out.symm.trans HE2.out)))
     go_wp2;go_quiet (fail);go_wp2;go_ret;exact⟨by rw[HN.out];rfl,_,(quiet_then hq _).out⟩
   ·obtain rfl:k=n:=by omega
    have HX:=Hz_ (show decide (u=v)=true by rw[hdd,List.drop_of_length_le (by omega),List.drop_of_length_le (by omega)];simp);clear hdd;go_wp2;go_ret;exact⟨by rw[HX.out];rfl,q,hq.out⟩
 ·have HN:=Hz_ (show decide (u=v)=false by rw[decide_eq_false_iff_not];intro h;subst h;omega);have hne:¬ ((n:Int)=(m:Int)):=by omega
  go_enter Tryz.func160,Tryz.ntmps160;go_wp2;go_ret;exact⟨by rw[HN.out];rfl,0,rfl⟩
theorem same_q (A D:Option Addr) (n c m d:Nat) (u v:List Vc.St) (w:World) (hl:u.length=n) (hl2:v.length=m) (hR:Rd w w.heap.size 2 A n c (sv u)) (hR2:Rd w w.heap.size 2 D m d (sv v)):
  Calls Tryz.prog 80 #[.slice A n c,.slice D m d] w fun e w'=>e=.returned (.bool (decide (u=v)))/\∃q,w'=w.drewN q:=by
 have hmax:n<=9223372036854775807:=by have h1:=hR.cap;have h2:=hR.max;unfold maxLen at h2;omega
 by_cases hnm:n=m
 ·subst hnm;go_enter Tryz.func80,Tryz.ntmps80;go_wp2;go_loopw [5] (fun i wr=>∃(k q:Nat),k<=n/\i=.int .i64 k/\decide (u=v)=decide (u.drop k=v.drop k)/\Hid (wr=w.drewN q)) (fun i _=>n - (intOf i).toNat)
  case atStart=>exact⟨0,0,by omega,rfl,rfl,Hz_ rfl⟩
  case round=>
   obtain⟨k,q,hk,rfl,hdd,hq⟩:=hrel;have hR:=hR.drewN q;have hR2:=hR2.drewN q;rw[<-hq.out] at hR hR2;by_cases hlt:k < n
   ·have hk1:k < u.length:=by omega
    have hk2:k < v.length:=by omega
    obtain⟨b,o,rfl,hab,h0,h1⟩:=hR.stamp hl hlt;obtain⟨b2,o2,rfl,hab2,h02,h12⟩:=hR2.stamp hl2 hlt;have HD:=Hz_ hdd;have HE:=Hz_ (show u[k]=((u[k]'hk1).1,(u[k]'hk1).2) from rfl);have HE2:=Hz_ (show v[k]=((v[k]'hk2).1,(v[k]'hk2).2) from rfl);generalize (u[k]'hk1).1=sc at h0 HE;generalize (u[k]'hk1).2=sn at h1 HE;generalize (v[k]'hk2).1=tc at h02 HE2;generalize (v[k]'hk2).2=tn at h12 HE2;clear hdd hR hR2;by_cases e1:sc=tc
    ·subst e1;by_cases e2:sn=tn
     ·subst e2;have HN:=Hz_ (dec_drop hk1 hk2 (by rw[HE.out,HE2.out]));go_wp2;go_quiet (fail);go_wp2;go_roundw
      case rel=>exact⟨k+1,_,by omega,by go_num,by rw[HD.out,HN.out],quiet_then hq _⟩
      case measure=>simp[intOf];omega
     ·have HN:=Hz_ (show decide (u=v)=false by
       rw[decide_eq_false_iff_not];intro h;subst h;exact e2 (congrArg Prod.snd (HE.out.symm.trans HE2.out)))
      go_wp2;go_quiet (fail);go_wp2;go_ret;exact⟨by rw[HN.out];rfl,_,(quiet_then hq _).out⟩
    ·have HN:=Hz_ (show decide (u=v)=false by
      rw[decide_eq_false_iff_not];intro h;subst h;exact e1 (congrArg Prod.fst (HE.out.symm.trans HE2.out)))
     go_wp2;go_quiet (fail);go_wp2;go_ret;exact⟨by rw[HN.out];rfl,_,(quiet_then hq _).out⟩
   ·obtain rfl:k=n:=by omega
    have HX:=Hz_ (show decide (u=v)=true by rw[hdd,List.drop_of_length_le (by omega),List.drop_of_length_le (by omega)];simp);clear hdd;go_wp2;go_ret;exact⟨by rw[HX.out];rfl,q,hq.out⟩
 ·have HN:=Hz_ (show decide (u=v)=false by rw[decide_eq_false_iff_not];intro h;subst h;omega);have hne:¬ ((n:Int)=(m:Int)):=by omega
  go_enter Tryz.func80,Tryz.ntmps80;go_wp2;go_ret;exact⟨by rw[HN.out];rfl,0,rfl⟩
theorem Blk.three {w:World} {g:Nat} {t:TypeId} {a b c:Value} (h:Blk w g t #[a,b,c]):w.cell? ⟨g,0,none⟩=some a/\w.cell? ⟨g,1,none⟩=some b/\w.cell? ⟨g,2,none⟩=some c:=⟨h.cell 0,h.cell 1,h.cell 2⟩
theorem zonesFormed_any (A:Option Addr) (n c:Nat) (L:List (ZV×Zn)) (w:World) (hR:RdZ w w.heap.size A n c L):
  Calls Tryz.prog 92 #[.slice A n c] w fun e w'=>e=.returned (.bool (zF (-1) none (zns L)))/\Below w.heap.size w w':=by
 have hmax:=hR.max;have hln:=hR.len;have HL:=Hz_ hln;have HR:=Hz_ hR;have HD:=Hz_ fun e p k h=>zF_drop e p (zns L) k h;have HE:=Hz_ fun e p k h=>zF_end e p (zns L) k h;clear hR hln;go_enter Tryz.func92,Tryz.ntmps92;go_wp2;go_loopw [3,8] (fun v3 v8 wr=>∃(k:Nat),k<=n/\v8=.int .i64 k/\v3=.int .i64 (aheadE (zns L) k)/\(-1<=aheadE (zns L) k/\aheadE (zns L) k<=255)/\Below w.heap.size w wr/\Hid (zF (-1) none (zns L)=zF (aheadE (zns L) k) (aheadP (zns L) k) ((zns L).drop k))) (fun _ v8 _=>n - (intOf v8).toNat)
 case atStart=>exact⟨0,by omega,rfl,by rw[aheadE_zero],by rw[aheadE_zero];omega,Below.refl _ _,by rw[aheadE_zero,aheadP_zero];rfl⟩
 case round=>
  obtain⟨k,hk,rfl,rfl,hre,hb,hr⟩:=hrel;have hbs:=hb.size;by_cases hlt:k < n
  ·have hkL:k < L.length:=by rw[HL.out];exact hlt
   have hkZ:k < (zns L).length:=by rw[zns_len];exact hkL
   obtain⟨b,o,rfl,hab,g0,g1,g2⟩:=(HR.out.below hb).zone hkL;obtain⟨hvl,hRv⟩:=HR.out.each _ (List.getElem_mem hkL);have hd:=hr.out.trans (HD.out _ _ k hkZ);have he1:=aheadE_next (zns L) k hkZ;have hp1:=aheadP_next (zns L) k hkZ;rw[zns_at L k hkL] at hd he1 hp1;obtain⟨p,hp⟩:∃p,p=aheadP (zns L) k:=⟨_,rfl⟩;have HP:=Hz_ hp;rw[<-hp] at hd;obtain⟨e,he⟩:∃e,e=aheadE (zns L) k:=⟨_,rfl⟩;have HEE:=Hz_ he;rw[<-he] at hd hre ⊢;generalize hq:L[k]=q at g0 g1 g2 hvl hRv hd he1 hp1;have HQ:=Hz_ hq;obtain⟨⟨Av,nv,cv⟩,⟨lo,hi⟩,u⟩:=q;dsimp only at g0 g1 g2 hvl hRv hd he1 hp1;have hst:zStep e p ((lo,hi),u)=((decide (e < lo) && (decide (lo<=hi) && decide (hi<=255))) && (fm (-1) u && !(decide (p=some u) && decide (lo=e+1)))):=rfl;have hb1:=hb.alloc hbs (.cells #[.int .i64 lo,.int .i64 hi,.slice Av nv cv] 129);have hX:=Blk.new wr 129 #[.int .i64 lo,.int .i64 hi,.slice Av nv cv];have F:=formed_any Av nv cv u _ hvl ((hRv.below hb1).more hb1.size);have HB:=Hz_ hb1;have HX:=Hz_ hX;have HE1:=Hz_ he1;have HP1:=Hz_ hp1;have HVL:=Hz_ hvl;have HRV:=Hz_ hRv;have HST:=Hz_ hst;have HDD:=Hz_ hd;clear hd hst he1 hp1 hvl hRv hp he hq hX hr hb hab;by_cases c1:lo<=e
   ·have HN:=Hz_ (show zF (-1) none (zns L)=false by rw[HDD.out,HST.out];simp[show ¬ e < lo by omega]);go_wp2;go_ret;exact⟨by rw[HN.out];rfl,HB.out⟩
   ·by_cases c2:lo > hi
    ·have HN:=Hz_ (show zF (-1) none (zns L)=false by rw[HDD.out,HST.out];simp[show ¬ lo<=hi by omega]);go_wp2;go_ret;exact⟨by rw[HN.out];rfl,HB.out⟩
    ·by_cases c3:hi > 255
     ·have HN:=Hz_ (show zF (-1) none (zns L)=false by rw[HDD.out,HST.out];simp[show ¬ hi<=255 by omega]);go_wp2;go_ret;exact⟨by rw[HN.out];rfl,HB.out⟩
     ·rcases hf:fm (-1) u with _ | _
      ·have HN:=Hz_ (show zF (-1) none (zns L)=false by rw[HDD.out,HST.out,hf];simp);rw[hf] at F;have F:=Hz_ F;clear hf;go_wp2_with fail;refine F.out.mono ?_;rintro e w1 ⟨rfl,hb1⟩;have HB1:=Hz_ (btn HB.out hb1);clear hb1;go_wp2;go_ret;exact⟨by rw[HN.out];rfl,HB1.out⟩
      ·rw[hf] at F;have HSS:=Hz_ (show zStep e p ((lo,hi),u)=!(decide (p=some u) && decide (lo=e+1)) by rw[HST.out,hf,decide_eq_true (show e < lo by omega),decide_eq_true (show lo<=hi by omega),decide_eq_true (show hi<=255 by omega)];simp);have F:=Hz_ F;clear hf HST;go_wp2_with fail;refine F.out.mono ?_;rintro e' w1 ⟨rfl,hb1⟩;have HB1:=Hz_ (btn HB.out hb1);have HX1:=Hz_ (HX.out.go hb1);obtain⟨x0,x1,x2⟩:=HX1.out.three;clear hb1 HB HX F g0 g1 g2;by_cases hk0:k=0
       ·have hpn:p=none:=by rw[HP.out,hk0,aheadP_zero]
        have HN:=Hz_ (show zF (-1) none (zns L)=zF hi (some u) ((zns L).drop (k+1)) by rw[HDD.out,HSS.out,hpn];simp);have dk:decide (0 < k)=false:=by simp;omega
        clear hpn hk0;go_wp2;go_quiet (fail);go_wp2;go_roundw
        case rel=>exact⟨k+1,by omega,by go_num,by rw[HE1.out],by rw[HE1.out];omega,below_drewN HB1.out _,by show _=_;rw[HN.out,HE1.out,HP1.out]⟩
        case measure=>simp[intOf];omega
       ·obtain⟨i,rfl⟩:∃i,k=i+1:=⟨k - 1,by omega⟩;have hiL:i < L.length:=by omega
        have dk:decide (0 < i+1)=true:=by simp
        have he2:=aheadE_next (zns L) i (by rw[zns_len];exact hiL);have hp2:=aheadP_next (zns L) i (by rw[zns_len];exact hiL);rw[zns_at L i hiL] at he2 hp2;have w1e:IntKind.i64.wrap (e+1)=e+1:=IntWalk.i64_in _ (by omega);have w2e:IntKind.i64.wrap (((i+1:Nat):Int) - 1)=(i:Int):=by rw[show (((i+1:Nat):Int) - 1)=(i:Int) by omega];exact IntWalk.i64_in _ (by omega)
        have hpe:=HP.out;rw[hp2] at hpe;have hin:(0:Int)<=(i:Int)/\(i:Int) < (n:Int):=by omega
        by_cases c4:lo=e+1
        ·subst c4;obtain⟨b',o',e',hbb',p0,p1,p2⟩:=(HR.out.below (btn (HB1.out) Zr)).zone hiL;obtain⟨hvl2,hRv2⟩:=HR.out.each _ (List.getElem_mem hiL);obtain⟨rfl,rfl⟩:b=b'/\o=o':=by injection e' with e';injection e' with e1 e2;exact⟨e1,e2⟩
         generalize L[i]=q2 at p0 p1 p2 hvl2 hRv2 hpe;obtain⟨⟨Ai,ni,ci⟩,⟨lo2,hi2⟩,u2⟩:=q2;dsimp only at p0 p1 p2 hvl2 hRv2 hpe;have G:=fun m=>equalSt_q Av Ai nv cv ni ci u u2 (w1.drewN m) HVL.out hvl2 (((HRV.out.below HB1.out).more HB1.out.size).drewN m) (((hRv2.below HB1.out).more HB1.out.size).drewN m);have HPE:=Hz_ hpe;have e8:IntKind.i64.wrap (i:Int)=(i:Int):=IntWalk.i64_in _ (by omega);have e9:(((i+1:Nat):Int) - 1)=(i:Int):=by omega
         clear hpe he2 hp2 p0 p1 e' hbb' hvl2 hRv2;by_cases c5:u=u2
         ·have HN:=Hz_ (show zF (-1) none (zns L)=false by rw[HDD.out,HSS.out,HPE.out,c5];simp);simp only[decide_eq_true c5] at G;have G:=Hz_ G;clear c5;go_wp2;go_quiet ((go_at_call 160;exact Calls.quiet_of (G.out _)));go_wp2;go_ret;exact⟨by rw[HN.out];rfl,below_drewN HB1.out _⟩
         ·have HN:=Hz_ (show zF (-1) none (zns L)=zF hi (some u) ((zns L).drop (i+1+1)) by rw[HDD.out,HSS.out,HPE.out,decide_eq_false (show ¬ some u2=some u from fun h=>c5 (Option.some.inj h).symm)];simp);simp only[decide_eq_false c5] at G;have G:=Hz_ G;clear c5;go_wp2;go_quiet ((go_at_call 160;exact Calls.quiet_of (G.out _)));go_wp2;go_roundw
          case rel=>exact⟨i+1+1,by omega,by go_num,by rw[HE1.out],by rw[HE1.out];omega,below_drewN HB1.out _,by show _=_;rw[HN.out,HE1.out,HP1.out]⟩
          case measure=>simp[intOf];omega
        ·have HN:=Hz_ (show zF (-1) none (zns L)=zF hi (some u) ((zns L).drop (i+1+1)) by rw[HDD.out,HSS.out,decide_eq_false c4];simp);have d4:(lo == e+1)=false:=by simpa using c4
         clear hpe he2 hp2 c4;go_wp2;go_quiet (fail);go_wp2;go_roundw
         case rel=>exact⟨i+1+1,by omega,by go_num,by rw[HE1.out],by rw[HE1.out];omega,below_drewN HB1.out _,by show _=_;rw[HN.out,HE1.out,HP1.out]⟩
         case measure=>simp[intOf];omega
  ·obtain rfl:k=n:=by omega
   have HN:=Hz_ (show zF (-1) none (zns L)=true by rw[hr.out,HE.out _ _ _ (by rw[zns_len,HL.out];exact Nat.le_refl _)]);clear hr;go_wp2;go_ret;exact⟨by rw[HN.out];rfl,hb⟩
theorem grown_belowE {w w':World} (hb:Below w.heap.size w w') (row:Option Nat):w.grownBy w' row:=⟨hb.os,hb.tape,hb.output,hb.size,fun k hk _=>hb.block k hk⟩
structure BV where
 A:Option Addr
 c:Nat
def bvl (p:BV×Wq.Bd):List Value:=[.int .i64 p.2.o,.int .i64 p.2.s.1,.int .i64 p.2.s.2,.slice p.1.A p.2.v.length p.1.c]
def bvv (L:List (BV×Wq.Bd)):List Value:=L.flatMap bvl
def bds (L:List (BV×Wq.Bd)):List Wq.Bd:=L.map (·.2)
theorem bds_len (L:List (BV×Wq.Bd)):(bds L).length=L.length:=by simp[bds]
theorem bds_at (L:List (BV×Wq.Bd)) (k:Nat) (h:k < L.length):(bds L)[k]'(by rw[bds_len];exact h)=L[k].2:=by simp[bds]
theorem bds_app (L M:List (BV×Wq.Bd)):bds (L++M)=bds L++bds M:=by simp[bds]
theorem bvv_app (L M:List (BV×Wq.Bd)):bvv (L++M)=bvv L++bvv M:=by simp[bvv]
theorem bvv_at (L:List (BV×Wq.Bd)) (k:Nat) (h:k < L.length) (j:Nat) (hj:j < 4):(bvv L)[k * 4+j]?=(bvl L[k])[j]?:=flat_at bvl 4 (by decide) L (fun _ _=>rfl) k h j hj
theorem bvv_len (L:List (BV×Wq.Bd)):(bvv L).length=L.length * 4:=flat_len bvl 4 L (fun _ _=>rfl)
theorem bvl_oneCell (p:BV×Wq.Bd):∀u∈bvl p,u.oneCell'=true:=by
 intro u hu;simp only[bvl,List.mem_cons,List.not_mem_nil,or_false] at hu;rcases hu with h | h | h | h<;>subst h<;>rfl
theorem bvv_oneCell (L:List (BV×Wq.Bd)):∀u∈bvv L,u.oneCell'=true:=by
 intro u hu;simp only[bvv,List.mem_flatMap] at hu;obtain⟨p,_,hp⟩:=hu;exact bvl_oneCell p u hp
structure RdBs (w:World) (B:Nat) (A:Option Addr) (n c:Nat) (L:List (BV×Wq.Bd)):Prop where
 len:L.length=n
 rd:Rd w B 4 A n c (bvv L)
 each:∀p∈L,Rd w B 1 p.1.A p.2.v.length p.1.c (bv p.2.v)
 wf:∀p∈L,(Lit.int .i64 p.2.o).wf=true
theorem RdBs.go {w w':World} {A:Option Addr} {n c:Nat} {L:List (BV×Wq.Bd)} (h:RdBs w w.heap.size A n c L) (hb:Below w.heap.size w w'):RdBs w' w'.heap.size A n c L:=⟨h.len,h.rd.go hb,fun p hp=>(h.each p hp).go hb,h.wf⟩
theorem RdBs.below {w w':World} {B:Nat} {A:Option Addr} {n c:Nat} {L:List (BV×Wq.Bd)} (h:RdBs w B A n c L) (hb:Below B w w'):RdBs w' B A n c L:=⟨h.len,h.rd.below hb,fun p hp=>(h.each p hp).below hb,h.wf⟩
theorem RdBs.more {w:World} {B B':Nat} {A:Option Addr} {n c:Nat} {L:List (BV×Wq.Bd)} (h:RdBs w B A n c L) (hb:B<=B'):RdBs w B' A n c L:=⟨h.len,h.rd.more hb,fun p hp=>(h.each p hp).more hb,h.wf⟩
theorem RdBs.none_ (w:World) (B:Nat):RdBs w B none 0 0 []:=⟨rfl,Rd.none_,(fun p hp=>by cases hp),(fun p hp=>by cases hp)⟩
theorem RdBs.body {w:World} {B n c k:Nat} {A:Option Addr} {L:List (BV×Wq.Bd)} (h:RdBs w B A n c L) (hk:k < L.length):
  ∃b o,A=some ⟨b,o,none⟩/\b < B/\w.cell? ⟨b,o+k * 4,none⟩=some (.int .i64 L[k].2.o)/\w.cell? ⟨b,o+k * 4+1,none⟩=some (.int .i64 L[k].2.s.1) /\
   w.cell? ⟨b,o+k * 4+2,none⟩=some (.int .i64 L[k].2.s.2)/\w.cell? ⟨b,o+k * 4+3,none⟩=some (.slice L[k].1.A L[k].2.v.length L[k].1.c):=by
 have hl:=h.len;obtain⟨b,o,rfl,hb,hc⟩:=h.rd.plain (by omega) (by decide);have e:∀j,j < 4->∀u,(bvl L[k])[j]?=some u->w.cell? ⟨b,o+k * 4+j,none⟩=some u:=fun j hj u hu=>by
  rw[Nat.add_assoc];exact hc (k * 4+j) u (by rw[bvv_at L k hk j hj,hu])
 exact⟨b,o,rfl,hb,e 0 (by decide) _ rfl,e 1 (by decide) _ rfl,e 2 (by decide) _ rfl,e 3 (by decide) _ rfl⟩
theorem RdBs.max {w:World} {B n c:Nat} {A:Option Addr} {L:List (BV×Wq.Bd)} (h:RdBs w B A n c L):n<=9223372036854775807:=by
 have h1:=h.rd.cap;have h2:=h.rd.max;unfold maxLen at h2;omega
theorem usedB_take (l:List Wq.Bd) (k:Nat) (h:k < l.length):usedB (l.take (k+1))=usedB (l.take k)+l[k].v.length:=by
 rw[List.take_add_one,List.getElem?_eq_getElem h];exact usedB_snoc _ _
theorem usedB_le:∀(l:List Wq.Bd) (k:Nat),usedB (l.take k)<=usedB l
 | [],k=>by simp
 | x :: r,0=>by simp[usedB]
 | x :: r,k+1=>by rw[List.take_succ_cons,usedB,usedB];have:=usedB_le r k;omega
theorem newsB_used:∀(l:List Wq.Bd) (seen:List Int),newsB seen l=true->usedB l<=256 * l.length
 | [],_,_=>by simp[usedB]
 | x :: r,seen,h=>by
  rw[newsB,Bool.and_eq_true,Bool.and_eq_true] at h;have h1:=newsB_used r _ h.2;have h2:=((Wq.bdF_iff x).1 h.1.2).2.2.2.2.2;rw[usedB,List.length_cons];omega
theorem cacheUsed_any (A:Option Addr) (n c:Nat) (L:List (BV×Wq.Bd)) (w:World) (hR:RdBs w w.heap.size A n c L) (hu:usedB (bds L)<=9223372036854775807):
  Calls Tryz.prog 163 #[.slice A n c] w fun e w'=>e=.returned (.int .i64 (usedB (bds L):Nat))/\Below w.heap.size w w':=by
 have hmax:=hR.max;have HL:=Hz_ hR.len;have HW:=Hz_ fun (W:World) (hb:Below w.heap.size w W) k (hk:k < L.length)=>(hR.below hb).body hk;have HS:=Hz_ fun k (hk:k < (bds L).length)=>usedB_take (bds L) k hk;have HE:=Hz_ fun k=>usedB_le (bds L) k;clear hR;go_enter Tryz.func163,Tryz.ntmps163;go_wp2;go_loopw [3,8] (fun a i wr=>∃(j:Nat),j<=n/\i=.int .i64 j/\a=.int .i64 (usedB ((bds L).take j):Nat)/\Below w.heap.size w wr) (fun _ i _=>n - (intOf i).toNat)
 case atStart=>exact⟨0,by omega,rfl,rfl,Below.refl _ _⟩
 case round=>
  obtain⟨j,hj,rfl,rfl,hb⟩:=hrel;by_cases hlt:j < n
  ·have hjl:j < L.length:=by rw[HL.out];exact hlt
   obtain⟨b,o,rfl,hbb,g0,g1,g2,g3⟩:=HW.out wr hb j hjl;have hs:=HS.out j (by rw[bds_len];exact hjl);have hle:=HE.out (j+1);rw[bds_at L j hjl] at hs;have HN:=Hz_ hs;have e1:((usedB ((bds L).take j):Nat):Int)+(L[j].2.v.length:Int)=((usedB ((bds L).take (j+1)):Nat):Int):=by rw[hs];omega
   have e2:IntKind.i64.wrap ((usedB ((bds L).take (j+1)):Nat):Int)=((usedB ((bds L).take (j+1)):Nat):Int):=IntWalk.i64_in _ (by omega);obtain⟨u2,hu2⟩:∃u2,u2=usedB ((bds L).take (j+1)):=⟨_,rfl⟩;have HU:=Hz_ hu2;rw[<-hu2] at e1 e2 HN;clear hu2;generalize usedB ((bds L).take j)=u1 at e1 HN ⊢;generalize L[j].2.o=x0 at g0;generalize L[j].2.s.1=x1 at g1;generalize L[j].2.s.2=x2 at g2;generalize L[j].2.v.length=m at g3 e1 HN;generalize L[j].1.A=x3 at g3;generalize L[j].1.c=x4 at g3;clear hs hle;have HB:=Hz_ (hb.alloc hb.size (.cells #[.int .i64 x0,.int .i64 x1,.int .i64 x2,.slice x3 m x4] 31));go_wp2;go_roundw
   case rel=>exact⟨j+1,by omega,by go_num,by rw[<-HU.out],HB.out⟩
   case measure=>simp[intOf];omega
  ·obtain rfl:j=n:=by omega
   have HN:=Hz_ (show usedB ((bds L).take j)=usedB (bds L) by rw[List.take_of_length_le (by rw[bds_len,HL.out];exact Nat.le_refl _)]);rw[HN.out];go_wp2;go_ret;exact⟨rfl,hb⟩
theorem ref12Used_any (A:Option Addr) (n c:Nat) (L:List (BV×Wq.Bd)) (w:World) (hR:RdBs w w.heap.size A n c L) (hu:usedB (bds L)<=9223372036854775807):
  Calls Tryz.prog 156 #[.slice A n c] w fun e w'=>e=.returned (.int .i64 (usedB (bds L):Nat))/\Below w.heap.size w w':=by
 have hmax:=hR.max;have HL:=Hz_ hR.len;have HW:=Hz_ fun (W:World) (hb:Below w.heap.size w W) k (hk:k < L.length)=>(hR.below hb).body hk;have HS:=Hz_ fun k (hk:k < (bds L).length)=>usedB_take (bds L) k hk;have HE:=Hz_ fun k=>usedB_le (bds L) k;clear hR;go_enter Tryz.func156,Tryz.ntmps156;go_wp2;go_loopw [3,4] (fun a i wr=>∃(j:Nat),j<=n/\i=.int .i64 j/\a=.int .i64 (usedB ((bds L).take j):Nat)/\Below w.heap.size w wr) (fun _ i _=>n - (intOf i).toNat)
 case atStart=>exact⟨0,by omega,rfl,rfl,Below.refl _ _⟩
 case round=>
  obtain⟨j,hj,rfl,rfl,hb⟩:=hrel;by_cases hlt:j < n
  ·have hjl:j < L.length:=by rw[HL.out];exact hlt
   obtain⟨b,o,rfl,hbb,g0,g1,g2,g3⟩:=HW.out wr hb j hjl;have hs:=HS.out j (by rw[bds_len];exact hjl);have hle:=HE.out (j+1);rw[bds_at L j hjl] at hs;have HN:=Hz_ hs;have e1:((usedB ((bds L).take j):Nat):Int)+(L[j].2.v.length:Int)=((usedB ((bds L).take (j+1)):Nat):Int):=by rw[hs];omega
   have e2:IntKind.i64.wrap ((usedB ((bds L).take (j+1)):Nat):Int)=((usedB ((bds L).take (j+1)):Nat):Int):=IntWalk.i64_in _ (by omega);obtain⟨u2,hu2⟩:∃u2,u2=usedB ((bds L).take (j+1)):=⟨_,rfl⟩;have HU:=Hz_ hu2;rw[<-hu2] at e1 e2 HN;clear hu2;generalize usedB ((bds L).take j)=u1 at e1 HN ⊢;generalize L[j].2.o=x0 at g0;generalize L[j].2.s.1=x1 at g1;generalize L[j].2.s.2=x2 at g2;generalize L[j].2.v.length=m at g3 e1 HN;generalize L[j].1.A=x3 at g3;generalize L[j].1.c=x4 at g3;clear hs hle;have HB:=Hz_ hb;go_wp2;go_roundw
   case rel=>exact⟨j+1,by omega,by go_num,by rw[<-HU.out],HB.out⟩
   case measure=>simp[intOf];omega
  ·obtain rfl:j=n:=by omega
   have HN:=Hz_ (show usedB ((bds L).take j)=usedB (bds L) by rw[List.take_of_length_le (by rw[bds_len,HL.out];exact Nat.le_refl _)]);rw[HN.out];go_wp2;go_ret;exact⟨rfl,hb⟩
theorem cacheRight_any (x:Wq.Bd) (A:Option Addr) (c:Nat) (w:World):
  Calls Tryz.prog 162 #[.agg (bval x A c)] w fun e w'=>e=.returned (.bool (Wq.bdF x))/\Below w.heap.size w w':=by
 obtain⟨o,⟨a,b⟩,v⟩:=x;unfold bval Wq.bdF;dsimp only;generalize v.length=n;have hX:=Blk.new w 31 #[.int .i64 o,.int .i64 a,.int .i64 b,.slice A n c];have hb0:Below w.heap.size w (w.alloc (.cells #[.int .i64 o,.int .i64 a,.int .i64 b,.slice A n c] 31)):=Zr.alloc Zl _;have HX:=Hz_ hX;have HB:=Hz_ hb0;have HG:=Hz_ fun W=>right_any a b W;have e2:decide (n<=256)=decide ((n:Int)<=256):=by rw[Bool.eq_iff_iff];simp;omega
 rw[e2];clear hX hb0 e2;generalize Vc.right (a,b)=z at HG;by_cases h0:0<=o
 ·by_cases h1:o < 256
  ·have e1:decide (o<=255)=true:=by simp;omega
   have h2:o<=255:=by omega
   rw[decide_eq_true h0,e1];simp only[Bool.true_and];rcases z with _ | _
   all_goals
    go_enter Tryz.func162,Tryz.ntmps162;go_wp2_with (go_at_call 159;go_must (refine(HG.out _).mono ?_);rintro e w1 ⟨rfl,hb1⟩;have q2:=(HX.out.go hb1).cell 3);go_ret;exact⟨rfl,btn HB.out hb1⟩
  ·have e1:decide (o<=255)=false:=by simp;omega
   have h2:¬ o<=255:=by omega
   rw[decide_eq_true h0,e1];simp only[Bool.true_and,Bool.false_and];go_enter Tryz.func162,Tryz.ntmps162;go_wp2;go_ret;exact⟨rfl,HB.out⟩
 ·rw[decide_eq_false h0];simp only[Bool.false_and];go_enter Tryz.func162,Tryz.ntmps162;go_wp2;go_ret;exact⟨rfl,HB.out⟩
def seenL (s:List Int):DataW Unit:=Maps.setOf (.lit (.bool true)) (s.map (Lit.int .i64))
theorem seenL_put (s:List Int) (o:Int):seenL (s++[o])=(seenL s).put (.int .i64 o) (.lit (.bool true)):=by
 unfold seenL;rw[List.map_append];exact Maps.setOf_snoc _ _ _
theorem seenL_map (s:List Int):Maps.IsMap (seenL s):=by
 refine Maps.Tidy.isMap (Maps.tidy_setOf _ _ fun x hx=>?_);obtain⟨y,_,rfl⟩:=List.mem_map.1 hx;trivial
theorem seenL_at (s:List Int) (o:Int):(seenL s).atKey (.int .i64 o) (.lit (.bool false))=.lit (.bool (s.contains o)):=by
 obtain⟨r,rfl⟩:∃r,s=r.reverse:=⟨s.reverse,(List.reverse_reverse s).symm⟩
 induction r with
 | nil=>rfl
 | cons x r ih=>
  rw[List.reverse_cons,seenL_put];by_cases h:o=x
  ·subst h;rw[Maps.atKey_put_same (seenL_map _) (show WideAt.IsKeyLit (.int .i64 o) from trivial)];simp
  ·rw[Maps.atKey_put_other (by intro h2;injection h2 with _ h2;exact h h2),ih];congr 2;simp[h]
theorem zero_bool (w:World):(zeroValue 4).run Tryz.prog w=.ok (.bool false) w:=rfl
theorem caF_of (l:List Wq.Bd) (room:Int) (h1:0<=room) (h2:room<=16777216) (h3:l.length<=256):caF l room=(newsB [] l && decide ((usedB l:Int)<=room)):=by
 unfold caF;rw[decide_eq_true h1,decide_eq_true h2,decide_eq_true h3];rfl
theorem caF_no (l:List Wq.Bd) (room:Int) (h:¬ (0<=room/\room<=16777216/\l.length<=256)):caF l room=false:=by
 unfold caF;by_cases h1:0<=room
 ·by_cases h2:room<=16777216
  ·rw[decide_eq_false (fun h3:l.length<=256=>h ⟨h1,h2,h3⟩)];simp
  ·rw[decide_eq_false h2];simp
 ·rw[decide_eq_false h1];simp
theorem cacheFormed_any (A:Option Addr) (n c:Nat) (L:List (BV×Wq.Bd)) (room:Int) (w:World) (hR:RdBs w w.heap.size A n c L):
  Calls Tryz.prog 94 #[.slice A n c,.int .i64 room] w fun e w'=>e=.returned (.bool (caF (bds L) room))/\Below w.heap.size w w':=by
 have hmax:=hR.max;have hmm:=@run_makeMap Tryz.prog;have HL:=Hz_ hR.len;have HRR:=Hz_ hR;by_cases r1:room < 0
 ·have HN:=Hz_ (caF_no (bds L) room (by omega));rw[HN.out];go_enter Tryz.func94,Tryz.ntmps94;go_wp2;go_ret;exact⟨rfl,Below.refl _ _⟩
 by_cases r2:room > 16777216
 ·have HN:=Hz_ (caF_no (bds L) room (by omega));rw[HN.out];go_enter Tryz.func94,Tryz.ntmps94;go_wp2;go_ret;exact⟨rfl,Below.refl _ _⟩
 by_cases r3:(n:Int) > 256
 ·have HN:=Hz_ (caF_no (bds L) room (by rw[bds_len,HL.out];omega));rw[HN.out];go_enter Tryz.func94,Tryz.ntmps94;go_wp2;go_ret;exact⟨rfl,Below.refl _ _⟩
 have HC:=Hz_ (caF_of (bds L) room (by omega) (by omega) (by rw[bds_len,HL.out];omega));have HW:=Hz_ fun (W:World) (hb:Below w.heap.size w W) k (hk:k < L.length)=>(hR.below hb).body hk;have HD:=Hz_ fun seen k h=>newsB_drop seen (bds L) k h;rw[HC.out];clear hR;go_enter Tryz.func94,Tryz.ntmps94;go_wp2;go_loopw [22] (fun i wr=>∃(j:Nat),j<=n/\i=.int .i64 j/\Below w.heap.size w wr/\wr.ownsMap Tryz.prog 3 (plainElem Tryz.prog 4) w.heap.size j (seenL (((bds L).take j).map (·.o)))/\Hid (newsB [] (bds L)=newsB (((bds L).take j).map (·.o)) ((bds L).drop j))) (fun i _=>n - (intOf i).toNat)
 case atStart=>exact⟨0,by omega,rfl,Zr.alloc Zl _,World.ownsMap_made _ _ _ _,Hz_ rfl⟩
 case round=>
  obtain⟨j,hj,rfl,hb,hown,hr⟩:=hrel;by_cases hlt:j < n
  ·have hjl:j < L.length:=by rw[HL.out];exact hlt
   have hjb:j < (bds L).length:=by rw[bds_len];exact hjl
   obtain⟨b,o,rfl,hbb,g0,g1,g2,g3⟩:=HW.out wr hb j hjl;have hwf:=HRR.out.wf _ (List.getElem_mem hjl);have hkey:keyOf Tryz.prog 3 (.int .i64 L[j].2.o)=some (.int .i64 L[j].2.o):=Maps.keyOf_int_mk Tryz.underlying3 hwf;have hd:=hr.out.trans (HD.out _ j hjb);have htk:((bds L).take (j+1)).map (·.o)=((bds L).take j).map (·.o)++[L[j].2.o]:=by rw[List.take_add_one,List.getElem?_eq_getElem hjb,List.map_append,bds_at L j hjl];rfl
   rw[bds_at L j hjl] at hd;have hat:=seenL_at (((bds L).take j).map (·.o)) L[j].2.o;have hput:=seenL_put (((bds L).take j).map (·.o)) L[j].2.o;have G0:=fun W=>cacheRight_any L[j].2 L[j].1.A L[j].1.c W;unfold bval at G0;generalize Wq.bdF L[j].2=z at G0 hd;have G:=Hz_ G0;have HDD:=Hz_ hd;have HTK:=Hz_ htk;have HPUT:=Hz_ hput;generalize ((bds L).take j).map (·.o)=seen at hown hat HTK HPUT HDD;generalize L[j].2.o=x0 at g0 hwf hkey hat G HDD HTK HPUT;generalize L[j].2.s.1=x1 at g1 G;generalize L[j].2.s.2=x2 at g2 G;generalize L[j].2.v.length=m at g3 G;generalize L[j].1.A=x3 at g3 G;generalize L[j].1.c=x4 at g3 G;have HB:=Hz_ (hb.alloc hb.size (.cells #[.int .i64 x0,.int .i64 x1,.int .i64 x2,.slice x3 m x4] 31));have HX:=Hz_ (Blk.new wr 31 #[.int .i64 x0,.int .i64 x1,.int .i64 x2,.slice x3 m x4]);have HO1:=Hz_ (hown.alloc (.cells #[.int .i64 x0,.int .i64 x1,.int .i64 x2,.slice x3 m x4] 31));generalize seen.contains x0=c0 at hat HDD;have HAT:=Hz_ hat;have hbz:=hb.size;clear hown hd htk hput hat G0 hr hb hbb;cases c0
   ·cases z
    ·have HN:=Hz_ (show newsB [] (bds L)=false by rw[HDD.out];rfl);go_wp2_with (first
      | (at_lookup;refine wpList_lookup_own_bool _ rfl _ _ 193 rfl 3 4 (Maps.int_keyed Tryz.underlying3) Tryz.underlying193 Tryz.underlying4 (zero_bool _) w.heap.size j _ rfl HO1.out _ _ rfl hkey ?_;intro c hc;rw[HAT.out] at hc;injection hc with hc;injection hc with hc;subst hc)
      | (go_at_call 162;go_must (refine(G.out _).mono ?_);rintro e w1 ⟨rfl,hb1⟩;have HB1:=Hz_ (btn HB.out hb1);have HO2:=Hz_ (HO1.out.kept (grown_belowE hb1 none) (by simp));obtain⟨y0,y1,y2,y3⟩:=(HX.out.go hb1).quad;clear hb1)
      | go_in)
     go_ret;exact⟨by rw[HN.out];rfl,HB1.out⟩
    ·have HN:=Hz_ (show newsB [] (bds L)=newsB (seen++[x0]) ((bds L).drop (j+1)) by rw[HDD.out];rfl);go_wp2_with (first
      | (at_lookup;refine wpList_lookup_own_bool _ rfl _ _ 193 rfl 3 4 (Maps.int_keyed Tryz.underlying3) Tryz.underlying193 Tryz.underlying4 (zero_bool _) w.heap.size j _ rfl HO1.out _ _ rfl hkey ?_;intro c hc;rw[HAT.out] at hc;injection hc with hc;injection hc with hc;subst hc)
      | (go_at_call 162;go_must (refine(G.out _).mono ?_);rintro e w1 ⟨rfl,hb1⟩;have HB1:=Hz_ (btn HB.out hb1);have HO2:=Hz_ (HO1.out.kept (grown_belowE hb1 none) (by simp));obtain⟨y0,y1,y2,y3⟩:=(HX.out.go hb1).quad;clear hb1)
      | (at_mapUpdate;refine wpList_mapUpdate_own _ rfl _ _ _ 193 rfl 3 4 (Maps.int_keyed Tryz.underlying3) Tryz.underlying193 (plainElem (H:=Unit) Tryz.prog 4) w.heap.size j _ rfl HO2.out (by unfold maxLen;omega) _ _ _ rfl rfl hkey _ [] (plainElem_bool Tryz.underlying4 true) ?_;intro w2 hown2 hgrow2;have HO3:=Hz_ hown2;have HB2:=Hz_ (HB1.out.grown hgrow2 HB1.out.size (fun j hj=>by cases hj;exact Nat.le_refl _));clear hown2 hgrow2)
      | go_in)
     go_roundw
     case rel=>exact⟨j+1,by omega,by go_num,HB2.out,by rw[HTK.out,HPUT.out];exact HO3.out,by rw[HTK.out];exact HN⟩
     case measure=>simp[intOf];omega
   ·have HN:=Hz_ (show newsB [] (bds L)=false by rw[HDD.out];rfl);go_wp2_with (first
     | (at_lookup;refine wpList_lookup_own_bool _ rfl _ _ 193 rfl 3 4 (Maps.int_keyed Tryz.underlying3) Tryz.underlying193 Tryz.underlying4 (zero_bool _) w.heap.size j _ rfl HO1.out _ _ rfl hkey ?_;intro c hc;rw[HAT.out] at hc;injection hc with hc;injection hc with hc;subst hc)
     | go_in)
    go_ret;exact⟨by rw[HN.out];rfl,HB.out⟩
  ·obtain rfl:j=n:=by omega
   have HN:=Hz_ (show newsB [] (bds L)=true by rw[hr.out,List.drop_of_length_le (by rw[bds_len,HL.out];exact Nat.le_refl _)];rfl);have G:=Hz_ (cacheUsed_any A j c L wr ((HRR.out.below hb).more hb.size) (by have:=newsB_used _ _ HN.out;rw[bds_len,HL.out] at this;omega));clear hr;go_wp2_with fail;refine G.out.mono ?_;rintro e w1 ⟨rfl,hb1⟩;have HB:=Hz_ (btn hb hb1);clear hb1;generalize hu:usedB (bds L)=u;have HU:=Hz_ hu;clear hu;go_wp2;go_ret;exact⟨by rw[HN.out,HU.out];rfl,HB.out⟩
def seenP (s:List Int):Nat->Bool:=fun n=>s.contains (n:Int)
theorem seenP_put (s:List Int) (o:Nat) (n:Nat):updB (seenP s) o true n=seenP (s++[(o:Int)]) n:=by
 unfold updB seenP;by_cases e:n=o
 ·subst e;simp
 ·rw[if_neg e];have:¬ ((n:Int)=(o:Int)):=by omega
  simp[this]
theorem ref12Formed_any (A:Option Addr) (n c:Nat) (L:List (BV×Wq.Bd)) (room:Int) (w:World) (hR:RdBs w w.heap.size A n c L):
  Calls Tryz.prog 87 #[.slice A n c,.int .i64 room] w fun e w'=>e=.returned (.bool (caF (bds L) room))/\Below w.heap.size w w':=by
 obtain⟨hz,hi⟩:=zero_of_info zero_marks;have HI:=Hz_ hi;clear hi;have hmax:=hR.max;have HL:=Hz_ hR.len;have HRR:=Hz_ hR;by_cases r1:room < 0
 ·have HN:=Hz_ (caF_no (bds L) room (by omega));rw[HN.out];go_enter Tryz.func87,Tryz.ntmps87;go_wp2;go_ret;exact⟨rfl,Below.refl _ _⟩
 by_cases r2:room > 16777216
 ·have HN:=Hz_ (caF_no (bds L) room (by omega));rw[HN.out];go_enter Tryz.func87,Tryz.ntmps87;go_wp2;go_ret;exact⟨rfl,Below.refl _ _⟩
 by_cases r3:(n:Int) > 256
 ·have HN:=Hz_ (caF_no (bds L) room (by rw[bds_len,HL.out];omega));rw[HN.out];go_enter Tryz.func87,Tryz.ntmps87;go_wp2;go_ret;exact⟨rfl,Below.refl _ _⟩
 have HC:=Hz_ (caF_of (bds L) room (by omega) (by omega) (by rw[bds_len,HL.out];omega));have HW:=Hz_ fun (W:World) (hb:Below w.heap.size w W) k (hk:k < L.length)=>(hR.below hb).body hk;have HD:=Hz_ fun seen k h=>newsB_drop seen (bds L) k h;rw[HC.out];clear hR;go_enter Tryz.func87,Tryz.ntmps87;go_wp2;go_loopw [6] (fun i wr=>∃(j:Nat),j<=n/\i=.int .i64 j/\Below w.heap.size w wr/\Blk wr w.heap.size 149 (b256 (seenP (((bds L).take j).map (·.o))))/\Hid (newsB [] (bds L)=newsB (((bds L).take j).map (·.o)) ((bds L).drop j))) (fun i _=>n - (intOf i).toNat)
 case atStart=>exact⟨0,by omega,rfl,Zr.alloc Zl _,Blk.new _ _ _,Hz_ rfl⟩
 case round=>
  obtain⟨j,hj,rfl,hb,hblk,hr⟩:=hrel;by_cases hlt:j < n
  ·have hjl:j < L.length:=by rw[HL.out];exact hlt
   have hjb:j < (bds L).length:=by rw[bds_len];exact hjl
   obtain⟨b,o,rfl,hbb,g0,g1,g2,g3⟩:=HW.out wr hb j hjl;have hd:=hr.out.trans (HD.out _ j hjb);have htk:((bds L).take (j+1)).map (·.o)=((bds L).take j).map (·.o)++[L[j].2.o]:=by rw[List.take_add_one,List.getElem?_eq_getElem hjb,List.map_append,bds_at L j hjl];rfl
   rw[bds_at L j hjl] at hd;have G0:=fun W=>refBodyRight_any L[j].2 L[j].1.A L[j].1.c W;have hpos:Wq.bdF L[j].2=true->0<=L[j].2.o/\L[j].2.o<=255:=fun h=>⟨((Wq.bdF_iff _).1 h).1,((Wq.bdF_iff _).1 h).2.1⟩;unfold bval at G0;generalize Wq.bdF L[j].2=z at G0 hd hpos;have G:=Hz_ G0;have HDD:=Hz_ hd;have HTK:=Hz_ htk;generalize ((bds L).take j).map (·.o)=seen at hblk HTK HDD;generalize L[j].2.o=x0 at g0 G HDD HTK hpos;generalize L[j].2.s.1=x1 at g1 G;generalize L[j].2.s.2=x2 at g2 G;generalize L[j].2.v.length=m at g3 G;generalize L[j].1.A=x3 at g3 G;generalize L[j].1.c=x4 at g3 G;have HB:=Hz_ hb;have HK:=Hz_ hblk;have hw:w.heap.size < wr.heap.size:=hblk.lt;have hlb:b < wr.heap.size:=by omega
   have HG0:=Hz_ g0;clear hblk hd htk G0 hr hb;cases z
   ·have HN:=Hz_ (show newsB [] (bds L)=false by rw[HDD.out];simp);clear hpos;go_wp2_with (go_at_call 44;go_must (refine(G.out _).mono ?_);rintro e w1 ⟨rfl,hb1⟩;have HB1:=Hz_ (btn HB.out hb1);clear hb1);go_ret;exact⟨by rw[HN.out];rfl,HB1.out⟩
   ·obtain⟨p1,p2⟩:=hpos rfl;obtain⟨u,rfl⟩:∃u:Nat,x0=(u:Int):=⟨x0.toNat,by omega⟩;have hu:u < 256:=by omega
    have HC0:Hid ((b256 (seenP seen))[u]?=some (.bool (seen.contains (u:Int)))):=Hz_ (b256_at _ _ hu);generalize hc0:seen.contains (u:Int)=c0 at HC0 HDD;clear hpos p1 p2 hc0;cases c0
    ·have HN:=Hz_ (show newsB [] (bds L)=newsB (seen++[(u:Int)]) ((bds L).drop (j+1)) by rw[HDD.out];rfl);go_wp2_with (go_at_call 44;go_must (refine(G.out _).mono ?_);rintro e w1 ⟨rfl,hb1⟩;have HB1:=Hz_ (btn HB.out hb1);have HK1:=Hz_ (HK.out.go hb1);have g0x:=(hb1.cell (p:=⟨b,o+j * 4,none⟩) hlb).trans HG0.out;have gu:=HK1.out.cell u;rw[HC0.out] at gu;have fu:=HK1.out.frozen u;clear hb1);go_roundw
     case rel=>
      refine⟨j+1,by omega,by go_num,HB1.out.setCell (p:=⟨w.heap.size,u,none⟩) Zl _,?_,by rw[HTK.out];exact HN⟩;have h5:=HK1.out.set_ u (.bool true);rw[b256_set _ _ _ hu,b256_congr (fun n _=>seenP_put seen u n)] at h5;rw[HTK.out];exact h5
     case measure=>simp[intOf];omega
    ·have HN:=Hz_ (show newsB [] (bds L)=false by rw[HDD.out];rfl);go_wp2_with (go_at_call 44;go_must (refine(G.out _).mono ?_);rintro e w1 ⟨rfl,hb1⟩;have HB1:=Hz_ (btn HB.out hb1);have HK1:=Hz_ (HK.out.go hb1);have g0x:=(hb1.cell (p:=⟨b,o+j * 4,none⟩) hlb).trans HG0.out;have gu:=HK1.out.cell u;rw[HC0.out] at gu;have fu:=HK1.out.frozen u;clear hb1);go_ret;exact⟨by rw[HN.out];rfl,HB1.out⟩
  ·obtain rfl:j=n:=by omega
   have HN:=Hz_ (show newsB [] (bds L)=true by rw[hr.out,List.drop_of_length_le (by rw[bds_len,HL.out];exact Nat.le_refl _)];rfl);have G:=Hz_ (ref12Used_any A j c L wr ((HRR.out.below hb).more hb.size) (by have:=newsB_used _ _ HN.out;rw[bds_len,HL.out] at this;omega));clear hr;go_wp2_with fail;refine G.out.mono ?_;rintro e w1 ⟨rfl,hb1⟩;have HB:=Hz_ (btn hb hb1);clear hb1;generalize hu:usedB (bds L)=u;have HU:=Hz_ hu;clear hu;go_wp2;go_ret;exact⟨by rw[HN.out,HU.out];rfl,HB.out⟩
end Go.Proofs.YtmbeahbgafkjfaaGreatDoor
