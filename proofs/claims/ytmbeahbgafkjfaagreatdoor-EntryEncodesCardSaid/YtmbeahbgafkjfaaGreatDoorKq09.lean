/- Lemmas for the claim, layer 9. -/
import Derived.Test.YtmbeahbgafkjfaaGreatDoorKq08
set_option maxRecDepth 100000
set_option maxHeartbeats 16000000
namespace Go.Proofs.YtmbeahbgafkjfaaGreatDoor
open Go.RowKit
structure ZV where
 A:Option Addr
 n:Nat
 c:Nat
def zvl (p:ZV×Zn):List Value:=[.int .i64 p.2.1.1,.int .i64 p.2.1.2,.slice p.1.A p.1.n p.1.c]
def zvv (L:List (ZV×Zn)):List Value:=L.flatMap zvl
def zns (L:List (ZV×Zn)):List Zn:=L.map (·.2)
theorem zns_len (L:List (ZV×Zn)):(zns L).length=L.length:=by simp[zns]
theorem zns_at (L:List (ZV×Zn)) (k:Nat) (h:k < L.length):(zns L)[k]'(by rw[zns_len];exact h)=L[k].2:=by simp[zns]
theorem zns_app (L M:List (ZV×Zn)):zns (L++M)=zns L++zns M:=by simp[zns]
theorem zvv_app (L M:List (ZV×Zn)):zvv (L++M)=zvv L++zvv M:=by simp[zvv]
theorem zvv_at (L:List (ZV×Zn)) (k:Nat) (h:k < L.length) (j:Nat) (hj:j < 3):(zvv L)[k * 3+j]?=(zvl L[k])[j]?:=flat_at zvl 3 (by decide) L (fun _ _=>rfl) k h j hj
theorem zvv_len (L:List (ZV×Zn)):(zvv L).length=L.length * 3:=flat_len zvl 3 L (fun _ _=>rfl)
theorem zvl_oneCell (p:ZV×Zn):∀u∈zvl p,u.oneCell'=true:=by
 intro u hu
 simp only[zvl,List.mem_cons,List.not_mem_nil,or_false] at hu
 rcases hu with h | h | h<;>subst h<;>rfl
structure RdZ (w:World) (B:Nat) (A:Option Addr) (n c:Nat) (L:List (ZV×Zn)):Prop where
 len:L.length=n
 rd:Rd w B 3 A n c (zvv L)
 each:∀p∈L,p.2.2.length=p.1.n∧Rd w B 2 p.1.A p.1.n p.1.c (sv p.2.2)
theorem RdZ.go {w w':World} {A:Option Addr} {n c:Nat} {L:List (ZV×Zn)} (h:RdZ w w.heap.size A n c L) (hb:Below w.heap.size w w'):RdZ w' w'.heap.size A n c L:=⟨h.len,h.rd.go hb,fun p hp=>⟨(h.each p hp).1,(h.each p hp).2.go hb⟩⟩
theorem RdZ.below {w w':World} {B:Nat} {A:Option Addr} {n c:Nat} {L:List (ZV×Zn)} (h:RdZ w B A n c L) (hb:Below B w w'):RdZ w' B A n c L:=⟨h.len,h.rd.below hb,fun p hp=>⟨(h.each p hp).1,(h.each p hp).2.below hb⟩⟩
theorem RdZ.more {w:World} {B B':Nat} {A:Option Addr} {n c:Nat} {L:List (ZV×Zn)} (h:RdZ w B A n c L) (hb:B≤B'):RdZ w B' A n c L:=⟨h.len,h.rd.more hb,fun p hp=>⟨(h.each p hp).1,(h.each p hp).2.more hb⟩⟩
theorem RdZ.none_ (w:World) (B:Nat):RdZ w B none 0 0 []:=⟨rfl,Rd.none_,fun p hp=>by cases hp⟩
theorem RdZ.zone {w:World} {B n c k:Nat} {A:Option Addr} {L:List (ZV×Zn)} (h:RdZ w B A n c L) (hk:k < L.length):
  ∃b o,A=some ⟨b,o,none⟩∧b < B∧w.cell? ⟨b,o+k * 3,none⟩=some (.int .i64 L[k].2.1.1)∧w.cell? ⟨b,o+k * 3+1,none⟩=some (.int .i64 L[k].2.1.2) ∧
   w.cell? ⟨b,o+k * 3+2,none⟩=some (.slice L[k].1.A L[k].1.n L[k].1.c):=by
 have hl:=h.len
 obtain⟨b,o,rfl,hb,hc⟩:=h.rd.plain (by omega) (by decide)
 have e:∀j,j < 3→∀u,(zvl L[k])[j]?=some u→w.cell? ⟨b,o+k * 3+j,none⟩=some u:=fun j hj u hu=>by
  rw[Nat.add_assoc]
  exact hc (k * 3+j) u (by rw[zvv_at L k hk j hj,hu])
 exact⟨b,o,rfl,hb,e 0 (by decide) _ rfl,e 1 (by decide) _ rfl,e 2 (by decide) _ rfl⟩
theorem RdZ.max {w:World} {B n c:Nat} {A:Option Addr} {L:List (ZV×Zn)} (h:RdZ w B A n c L):n≤9223372036854775807:=by
 have h1:=h.rd.cap;have h2:=h.rd.max;unfold maxLen at h2;omega
def aheadE (z:List Zn) (k:Nat):Int:=if h:k≠0∧k - 1 < z.length then (z[k - 1]'h.2).1.2 else -1
def aheadP (z:List Zn) (k:Nat):Option (List Vc.St):=if h:k≠0∧k - 1 < z.length then some (z[k - 1]'h.2).2 else none
theorem aheadE_zero (z:List Zn):aheadE z 0=-1:=by unfold aheadE;rw[dif_neg (by simp)]
theorem aheadP_zero (z:List Zn):aheadP z 0=none:=by unfold aheadP;rw[dif_neg (by simp)]
theorem aheadE_next (z:List Zn) (k:Nat) (h:k < z.length):aheadE z (k+1)=z[k].1.2:=by
 unfold aheadE;rw[dif_pos ⟨by omega,by simpa using h⟩];simp
theorem aheadP_next (z:List Zn) (k:Nat) (h:k < z.length):aheadP z (k+1)=some z[k].2:=by
 unfold aheadP;rw[dif_pos ⟨by omega,by simpa using h⟩];simp
theorem zF_drop (e:Int) (p:Option (List Vc.St)) (z:List Zn) (k:Nat) (h:k < z.length):zF e p (z.drop k)=(zStep e p z[k] && zF z[k].1.2 (some z[k].2) (z.drop (k+1))):=by
 rw[List.drop_eq_getElem_cons h,zF]
theorem zF_end (e:Int) (p:Option (List Vc.St)) (z:List Zn) (k:Nat) (h:z.length≤k):zF e p (z.drop k)=true:=by
 rw[List.drop_of_length_le h];rfl
theorem quiet_then {w wr:World} {q:Nat} (h:Hid (wr=w.drewN q)) (m:Nat):Hid (wr.drewN m=w.drewN (q+m)):=Hz_ (by rw[h.out,World.drewN_drewN])
theorem equalSt_q (A D:Option Addr) (n c m d:Nat) (u v:List Vc.St) (w:World) (hl:u.length=n) (hl2:v.length=m) (hR:Rd w w.heap.size 2 A n c (sv u)) (hR2:Rd w w.heap.size 2 D m d (sv v)):
  Calls Tryz.prog 160 #[.slice A n c,.slice D m d] w fun e w'=>e=.returned (.bool (decide (u=v)))∧∃q,w'=w.drewN q:=by
 have hmax:n≤9223372036854775807:=by have h1:=hR.cap;have h2:=hR.max;unfold maxLen at h2;omega
 by_cases hnm:n=m
 ·subst hnm
  go_enter Tryz.func160,Tryz.ntmps160
  go_wp2
  go_loopw [13] (fun i wr=>∃(k q:Nat),k≤n∧i=.int .i64 k∧decide (u=v)=decide (u.drop k=v.drop k)∧Hid (wr=w.drewN q)) (fun i _=>n - (intOf i).toNat)
  case atStart=>exact⟨0,0,by omega,rfl,rfl,Hz_ rfl⟩
  case round=>
   obtain⟨k,q,hk,rfl,hdd,hq⟩:=hrel
   have hR:=hR.drewN q
   have hR2:=hR2.drewN q
   rw[←hq.out] at hR hR2
   by_cases hlt:k < n
   ·have hk1:k < u.length:=by omega
    have hk2:k < v.length:=by omega
    obtain⟨b,o,rfl,hab,h0,h1⟩:=hR.stamp hl hlt
    obtain⟨b2,o2,rfl,hab2,h02,h12⟩:=hR2.stamp hl2 hlt
    have HD:=Hz_ hdd
    have HE:=Hz_ (show u[k]=((u[k]'hk1).1,(u[k]'hk1).2) from rfl)
    have HE2:=Hz_ (show v[k]=((v[k]'hk2).1,(v[k]'hk2).2) from rfl)
    generalize (u[k]'hk1).1=sc at h0 HE
    generalize (u[k]'hk1).2=sn at h1 HE
    generalize (v[k]'hk2).1=tc at h02 HE2
    generalize (v[k]'hk2).2=tn at h12 HE2
    clear hdd hR hR2
    by_cases e1:sc=tc
    ·subst e1
     by_cases e2:sn=tn
     ·subst e2
      have HN:=Hz_ (dec_drop hk1 hk2 (by rw[HE.out,HE2.out]))
      go_wp2
      go_quiet (fail)
      go_wp2
      go_roundw
      case rel=>exact⟨k+1,_,by omega,by go_num,by rw[HD.out,HN.out],quiet_then hq _⟩
      case measure=>simp[intOf];omega
     ·have HN:=Hz_ (show decide (u=v)=false by
       rw[decide_eq_false_iff_not];intro h;subst h;exact e2 (congrArg Prod.snd (HE.out.symm.trans HE2.out)))
      go_wp2
      go_quiet (fail)
      go_wp2
      go_ret
      exact⟨by rw[HN.out];rfl,_,(quiet_then hq _).out⟩
    ·have HN:=Hz_ (show decide (u=v)=false by
      rw[decide_eq_false_iff_not];intro h;subst h;exact e1 (congrArg Prod.fst (HE.out.symm.trans HE2.out)))
     go_wp2
     go_quiet (fail)
     go_wp2
     go_ret
     exact⟨by rw[HN.out];rfl,_,(quiet_then hq _).out⟩
   ·obtain rfl:k=n:=by omega
    have HX:=Hz_ (show decide (u=v)=true by rw[hdd,List.drop_of_length_le (by omega),List.drop_of_length_le (by omega)];simp)
    clear hdd
    go_wp2
    go_ret
    exact⟨by rw[HX.out];rfl,q,hq.out⟩
 ·have HN:=Hz_ (show decide (u=v)=false by rw[decide_eq_false_iff_not];intro h;subst h;omega)
  have hne:¬ ((n:Int)=(m:Int)):=by omega
  go_enter Tryz.func160,Tryz.ntmps160
  go_wp2
  go_ret
  exact⟨by rw[HN.out];rfl,0,rfl⟩
theorem same_q (A D:Option Addr) (n c m d:Nat) (u v:List Vc.St) (w:World) (hl:u.length=n) (hl2:v.length=m) (hR:Rd w w.heap.size 2 A n c (sv u)) (hR2:Rd w w.heap.size 2 D m d (sv v)):
  Calls Tryz.prog 80 #[.slice A n c,.slice D m d] w fun e w'=>e=.returned (.bool (decide (u=v)))∧∃q,w'=w.drewN q:=by
 have hmax:n≤9223372036854775807:=by have h1:=hR.cap;have h2:=hR.max;unfold maxLen at h2;omega
 by_cases hnm:n=m
 ·subst hnm
  go_enter Tryz.func80,Tryz.ntmps80
  go_wp2
  go_loopw [5] (fun i wr=>∃(k q:Nat),k≤n∧i=.int .i64 k∧decide (u=v)=decide (u.drop k=v.drop k)∧Hid (wr=w.drewN q)) (fun i _=>n - (intOf i).toNat)
  case atStart=>exact⟨0,0,by omega,rfl,rfl,Hz_ rfl⟩
  case round=>
   obtain⟨k,q,hk,rfl,hdd,hq⟩:=hrel
   have hR:=hR.drewN q
   have hR2:=hR2.drewN q
   rw[←hq.out] at hR hR2
   by_cases hlt:k < n
   ·have hk1:k < u.length:=by omega
    have hk2:k < v.length:=by omega
    obtain⟨b,o,rfl,hab,h0,h1⟩:=hR.stamp hl hlt
    obtain⟨b2,o2,rfl,hab2,h02,h12⟩:=hR2.stamp hl2 hlt
    have HD:=Hz_ hdd
    have HE:=Hz_ (show u[k]=((u[k]'hk1).1,(u[k]'hk1).2) from rfl)
    have HE2:=Hz_ (show v[k]=((v[k]'hk2).1,(v[k]'hk2).2) from rfl)
    generalize (u[k]'hk1).1=sc at h0 HE
    generalize (u[k]'hk1).2=sn at h1 HE
    generalize (v[k]'hk2).1=tc at h02 HE2
    generalize (v[k]'hk2).2=tn at h12 HE2
    clear hdd hR hR2
    by_cases e1:sc=tc
    ·subst e1
     by_cases e2:sn=tn
     ·subst e2
      have HN:=Hz_ (dec_drop hk1 hk2 (by rw[HE.out,HE2.out]))
      go_wp2
      go_quiet (fail)
      go_wp2
      go_roundw
      case rel=>exact⟨k+1,_,by omega,by go_num,by rw[HD.out,HN.out],quiet_then hq _⟩
      case measure=>simp[intOf];omega
     ·have HN:=Hz_ (show decide (u=v)=false by
       rw[decide_eq_false_iff_not];intro h;subst h;exact e2 (congrArg Prod.snd (HE.out.symm.trans HE2.out)))
      go_wp2
      go_quiet (fail)
      go_wp2
      go_ret
      exact⟨by rw[HN.out];rfl,_,(quiet_then hq _).out⟩
    ·have HN:=Hz_ (show decide (u=v)=false by
      rw[decide_eq_false_iff_not];intro h;subst h;exact e1 (congrArg Prod.fst (HE.out.symm.trans HE2.out)))
     go_wp2
     go_quiet (fail)
     go_wp2
     go_ret
     exact⟨by rw[HN.out];rfl,_,(quiet_then hq _).out⟩
   ·obtain rfl:k=n:=by omega
    have HX:=Hz_ (show decide (u=v)=true by rw[hdd,List.drop_of_length_le (by omega),List.drop_of_length_le (by omega)];simp)
    clear hdd
    go_wp2
    go_ret
    exact⟨by rw[HX.out];rfl,q,hq.out⟩
 ·have HN:=Hz_ (show decide (u=v)=false by rw[decide_eq_false_iff_not];intro h;subst h;omega)
  have hne:¬ ((n:Int)=(m:Int)):=by omega
  go_enter Tryz.func80,Tryz.ntmps80
  go_wp2
  go_ret
  exact⟨by rw[HN.out];rfl,0,rfl⟩
theorem Blk.three {w:World} {g:Nat} {t:TypeId} {a b c:Value} (h:Blk w g t #[a,b,c]):w.cell? ⟨g,0,none⟩=some a∧w.cell? ⟨g,1,none⟩=some b∧w.cell? ⟨g,2,none⟩=some c:=⟨h.cell 0,h.cell 1,h.cell 2⟩
theorem zonesFormed_any (A:Option Addr) (n c:Nat) (L:List (ZV×Zn)) (w:World) (hR:RdZ w w.heap.size A n c L):
  Calls Tryz.prog 92 #[.slice A n c] w fun e w'=>e=.returned (.bool (zF (-1) none (zns L)))∧Below w.heap.size w w':=by
 have hmax:=hR.max
 have hln:=hR.len
 have HL:=Hz_ hln
 have HR:=Hz_ hR
 have HD:=Hz_ fun e p k h=>zF_drop e p (zns L) k h
 have HE:=Hz_ fun e p k h=>zF_end e p (zns L) k h
 clear hR hln
 go_enter Tryz.func92,Tryz.ntmps92
 go_wp2
 go_loopw [3,8] (fun v3 v8 wr=>∃(k:Nat),k≤n∧v8=.int .i64 k∧v3=.int .i64 (aheadE (zns L) k)∧(-1≤aheadE (zns L) k∧aheadE (zns L) k≤255)∧Below w.heap.size w wr∧Hid (zF (-1) none (zns L)=zF (aheadE (zns L) k) (aheadP (zns L) k) ((zns L).drop k))) (fun _ v8 _=>n - (intOf v8).toNat)
 case atStart=>exact⟨0,by omega,rfl,by rw[aheadE_zero],by rw[aheadE_zero];omega,Below.refl _ _,by rw[aheadE_zero,aheadP_zero];rfl⟩
 case round=>
  obtain⟨k,hk,rfl,rfl,hre,hb,hr⟩:=hrel
  have hbs:=hb.size
  by_cases hlt:k < n
  ·have hkL:k < L.length:=by rw[HL.out];exact hlt
   have hkZ:k < (zns L).length:=by rw[zns_len];exact hkL
   obtain⟨b,o,rfl,hab,g0,g1,g2⟩:=(HR.out.below hb).zone hkL
   obtain⟨hvl,hRv⟩:=HR.out.each _ (List.getElem_mem hkL)
   have hd:=hr.out.trans (HD.out _ _ k hkZ)
   have he1:=aheadE_next (zns L) k hkZ
   have hp1:=aheadP_next (zns L) k hkZ
   rw[zns_at L k hkL] at hd he1 hp1
   obtain⟨p,hp⟩:∃p,p=aheadP (zns L) k:=⟨_,rfl⟩
   have HP:=Hz_ hp
   rw[←hp] at hd
   obtain⟨e,he⟩:∃e,e=aheadE (zns L) k:=⟨_,rfl⟩
   have HEE:=Hz_ he
   rw[←he] at hd hre ⊢
   generalize hq:L[k]=q at g0 g1 g2 hvl hRv hd he1 hp1
   have HQ:=Hz_ hq
   obtain⟨⟨Av,nv,cv⟩,⟨lo,hi⟩,u⟩:=q
   dsimp only at g0 g1 g2 hvl hRv hd he1 hp1
   have hst:zStep e p ((lo,hi),u)=((decide (e < lo) && (decide (lo≤hi) && decide (hi≤255))) && (fm (-1) u && !(decide (p=some u) && decide (lo=e+1)))):=rfl
   have hb1:=hb.alloc hbs (.cells #[.int .i64 lo,.int .i64 hi,.slice Av nv cv] 129)
   have hX:=Blk.new wr 129 #[.int .i64 lo,.int .i64 hi,.slice Av nv cv]
   have F:=formed_any Av nv cv u _ hvl ((hRv.below hb1).more hb1.size)
   have HB:=Hz_ hb1
   have HX:=Hz_ hX
   have HE1:=Hz_ he1
   have HP1:=Hz_ hp1
   have HVL:=Hz_ hvl
   have HRV:=Hz_ hRv
   have HST:=Hz_ hst
   have HDD:=Hz_ hd
   clear hd hst he1 hp1 hvl hRv hp he hq hX hr hb hab
   by_cases c1:lo≤e
   ·have HN:=Hz_ (show zF (-1) none (zns L)=false by rw[HDD.out,HST.out];simp[show ¬ e < lo by omega])
    go_wp2
    go_ret
    exact⟨by rw[HN.out];rfl,HB.out⟩
   ·by_cases c2:lo > hi
    ·have HN:=Hz_ (show zF (-1) none (zns L)=false by rw[HDD.out,HST.out];simp[show ¬ lo≤hi by omega])
     go_wp2
     go_ret
     exact⟨by rw[HN.out];rfl,HB.out⟩
    ·by_cases c3:hi > 255
     ·have HN:=Hz_ (show zF (-1) none (zns L)=false by rw[HDD.out,HST.out];simp[show ¬ hi≤255 by omega])
      go_wp2
      go_ret
      exact⟨by rw[HN.out];rfl,HB.out⟩
     ·rcases hf:fm (-1) u with _ | _
      ·have HN:=Hz_ (show zF (-1) none (zns L)=false by rw[HDD.out,HST.out,hf];simp)
       rw[hf] at F
       have F:=Hz_ F
       clear hf
       go_wp2_with fail
       refine F.out.mono ?_
       rintro e w1 ⟨rfl,hb1⟩
       have HB1:=Hz_ (btn HB.out hb1)
       clear hb1
       go_wp2
       go_ret
       exact⟨by rw[HN.out];rfl,HB1.out⟩
      ·rw[hf] at F
       have HSS:=Hz_ (show zStep e p ((lo,hi),u)=!(decide (p=some u) && decide (lo=e+1)) by rw[HST.out,hf,decide_eq_true (show e < lo by omega),decide_eq_true (show lo≤hi by omega),decide_eq_true (show hi≤255 by omega)];simp)
       have F:=Hz_ F
       clear hf HST
       go_wp2_with fail
       refine F.out.mono ?_
       rintro e' w1 ⟨rfl,hb1⟩
       have HB1:=Hz_ (btn HB.out hb1)
       have HX1:=Hz_ (HX.out.go hb1)
       obtain⟨x0,x1,x2⟩:=HX1.out.three
       clear hb1 HB HX F g0 g1 g2
       by_cases hk0:k=0
       ·have hpn:p=none:=by rw[HP.out,hk0,aheadP_zero]
        have HN:=Hz_ (show zF (-1) none (zns L)=zF hi (some u) ((zns L).drop (k+1)) by rw[HDD.out,HSS.out,hpn];simp)
        have dk:decide (0 < k)=false:=by simp;omega
        clear hpn hk0
        go_wp2
        go_quiet (fail)
        go_wp2
        go_roundw
        case rel=>exact⟨k+1,by omega,by go_num,by rw[HE1.out],by rw[HE1.out];omega,below_drewN HB1.out _,by show _=_;rw[HN.out,HE1.out,HP1.out]⟩
        case measure=>simp[intOf];omega
       ·obtain⟨i,rfl⟩:∃i,k=i+1:=⟨k - 1,by omega⟩
        have hiL:i < L.length:=by omega
        have dk:decide (0 < i+1)=true:=by simp
        have he2:=aheadE_next (zns L) i (by rw[zns_len];exact hiL)
        have hp2:=aheadP_next (zns L) i (by rw[zns_len];exact hiL)
        rw[zns_at L i hiL] at he2 hp2
        have w1e:IntKind.i64.wrap (e+1)=e+1:=IntWalk.i64_in _ (by omega)
        have w2e:IntKind.i64.wrap (((i+1:Nat):Int) - 1)=(i:Int):=by rw[show (((i+1:Nat):Int) - 1)=(i:Int) by omega];exact IntWalk.i64_in _ (by omega)
        have hpe:=HP.out
        rw[hp2] at hpe
        have hin:(0:Int)≤(i:Int)∧(i:Int) < (n:Int):=by omega
        by_cases c4:lo=e+1
        ·subst c4
         obtain⟨b',o',e',hbb',p0,p1,p2⟩:=(HR.out.below (btn (HB1.out) (Below.refl _ _))).zone hiL
         obtain⟨hvl2,hRv2⟩:=HR.out.each _ (List.getElem_mem hiL)
         obtain⟨rfl,rfl⟩:b=b'∧o=o':=by injection e' with e';injection e' with e1 e2;exact⟨e1,e2⟩
         generalize L[i]=q2 at p0 p1 p2 hvl2 hRv2 hpe
         obtain⟨⟨Ai,ni,ci⟩,⟨lo2,hi2⟩,u2⟩:=q2
         dsimp only at p0 p1 p2 hvl2 hRv2 hpe
         have G:=fun m=>equalSt_q Av Ai nv cv ni ci u u2 (w1.drewN m) HVL.out hvl2 (((HRV.out.below HB1.out).more HB1.out.size).drewN m) (((hRv2.below HB1.out).more HB1.out.size).drewN m)
         have HPE:=Hz_ hpe
         have e8:IntKind.i64.wrap (i:Int)=(i:Int):=IntWalk.i64_in _ (by omega)
         have e9:(((i+1:Nat):Int) - 1)=(i:Int):=by omega
         clear hpe he2 hp2 p0 p1 e' hbb' hvl2 hRv2
         by_cases c5:u=u2
         ·have HN:=Hz_ (show zF (-1) none (zns L)=false by rw[HDD.out,HSS.out,HPE.out,c5];simp)
          simp only[decide_eq_true c5] at G
          have G:=Hz_ G
          clear c5
          go_wp2
          go_quiet ((go_at_call 160;exact Calls.quiet_of (G.out _)))
          go_wp2
          go_ret
          exact⟨by rw[HN.out];rfl,below_drewN HB1.out _⟩
         ·have HN:=Hz_ (show zF (-1) none (zns L)=zF hi (some u) ((zns L).drop (i+1+1)) by rw[HDD.out,HSS.out,HPE.out,decide_eq_false (show ¬ some u2=some u from fun h=>c5 (Option.some.inj h).symm)];simp)
          simp only[decide_eq_false c5] at G
          have G:=Hz_ G
          clear c5
          go_wp2
          go_quiet ((go_at_call 160;exact Calls.quiet_of (G.out _)))
          go_wp2
          go_roundw
          case rel=>exact⟨i+1+1,by omega,by go_num,by rw[HE1.out],by rw[HE1.out];omega,below_drewN HB1.out _,by show _=_;rw[HN.out,HE1.out,HP1.out]⟩
          case measure=>simp[intOf];omega
        ·have HN:=Hz_ (show zF (-1) none (zns L)=zF hi (some u) ((zns L).drop (i+1+1)) by rw[HDD.out,HSS.out,decide_eq_false c4];simp)
         have d4:(lo == e+1)=false:=by simpa using c4
         clear hpe he2 hp2 c4
         go_wp2
         go_quiet (fail)
         go_wp2
         go_roundw
         case rel=>exact⟨i+1+1,by omega,by go_num,by rw[HE1.out],by rw[HE1.out];omega,below_drewN HB1.out _,by show _=_;rw[HN.out,HE1.out,HP1.out]⟩
         case measure=>simp[intOf];omega
  ·obtain rfl:k=n:=by omega
   have HN:=Hz_ (show zF (-1) none (zns L)=true by rw[hr.out,HE.out _ _ _ (by rw[zns_len,HL.out];exact Nat.le_refl _)])
   clear hr
   go_wp2
   go_ret
   exact⟨by rw[HN.out];rfl,hb⟩
theorem ofInt_i64 (a:Nat) (ha:a < 9223372036854775808):(BitVec.ofInt 64 (a:Int)).toNat=a:=by
 rw[BitVec.ofInt_natCast,BitVec.toNat_ofNat];exact Nat.mod_eq_of_lt (by omega)
theorem i64_or_nat (a b:Nat) (ha:a < 9223372036854775808) (hb:b < 9223372036854775808):bits .or .i64 (a:Int) (b:Int)=((a ||| b:Nat):Int):=by
 have hx:a ||| b < 2 ^ 63:=Nat.or_lt_two_pow (by omega) (by omega)
 show IntKind.i64.wrap ((BitVec.ofInt 64 (a:Int) ||| BitVec.ofInt 64 (b:Int)).toNat:Int)=_
 rw[BitVec.toNat_or,ofInt_i64 a ha,ofInt_i64 b hb,IntKind.wrap_i64]
 omega
theorem andNot128:∀b:Nat,b < 256→bits .andNot .u8 (b:Int) 128=((b % 128:Nat):Int):=by decide +kernel
theorem and128_hi:∀b:Nat,b < 256→128≤b→bits .and .u8 (b:Int) 128=128:=by decide +kernel
theorem and128_lo:∀b:Nat,b < 256→b < 128→bits .and .u8 (b:Int) 128=0:=by decide +kernel
theorem or_shift (x y j:Nat) (hx:x < 2 ^ j):x ||| (y * 2 ^ j)=x+y * 2 ^ j:=by
 rw[Nat.or_comm,←Nat.shiftLeft_eq,←Nat.shiftLeft_add_eq_or_of_lt hx,Nat.add_comm]
theorem pow7 (k:Nat):(2:Nat) ^ (7 * k)=128 ^ k:=by rw[Nat.pow_mul]
theorem step_bits (x b k:Nat) (hb:b < 256) (hk:k < 9) (hx:x < 128 ^ k):
  bits .or .i64 (x:Int) (wrap64 (wrap64 (bits .andNot .u8 (b:Int) 128) * 2 ^ (7 * k)))=((x+b % 128 * 128 ^ k:Nat):Int):=by
 have hp:128 ^ k≤128 ^ 8:=Nat.pow_le_pow_right (by omega) (by omega)
 have e8:128 ^ 8=72057594037927936:=by decide
 have hm:b % 128 * 128 ^ k≤127 * 128 ^ k:=Nat.mul_le_mul_right _ (by omega)
 have w1:wrap64 ((b % 128:Nat):Int)=((b % 128:Nat):Int):=IntWalk.wrap64_in _ (by omega)
 have e2:((b % 128:Nat):Int) * 2 ^ (7 * k)=((b % 128 * 128 ^ k:Nat):Int):=by rw[←pow7];simp
 have w2:wrap64 ((b % 128 * 128 ^ k:Nat):Int)=((b % 128 * 128 ^ k:Nat):Int):=IntWalk.wrap64_in _ (by omega)
 rw[andNot128 b hb,w1,e2,w2,i64_or_nat _ _ (by omega) (by omega),←pow7,or_shift _ _ _ (by rw[pow7];exact hx)]
theorem num_end4 (l r:List UInt8) (k:Nat) (h:9≤k):Pk.num l k r=(0,0,4):=by
 cases r with
 | nil=>rw[Pk.num,if_neg (by omega)]
 | cons c r=>rw[Pk.num,if_pos h]
theorem num_end5 (l:List UInt8) (k:Nat) (h:k < 9):Pk.num l k []=(0,0,5):=by rw[Pk.num,if_pos h]
theorem num_on (l:List UInt8) (k:Nat) (hl:k < l.length) (hk:k < 9) (h:128≤l[k].toNat):Pk.num l k (l.drop k)=Pk.num l (k+1) (l.drop (k+1)):=by
 rw[List.drop_eq_getElem_cons hl,Pk.num,if_neg (by omega),if_pos h]
theorem num_zero (l:List UInt8) (k:Nat) (hl:k < l.length) (hk:k < 9) (h:l[k].toNat=0) (h0:0 < k):Pk.num l k (l.drop k)=(0,0,4):=by
 rw[List.drop_eq_getElem_cons hl,Pk.num,if_neg (by omega),if_neg (by omega),if_pos ⟨h,h0⟩]
theorem num_last (l:List UInt8) (k:Nat) (hl:k < l.length) (hk:k < 9) (h:l[k].toNat < 128) (h0:¬ (l[k].toNat=0∧0 < k)):Pk.num l k (l.drop k)=(Pk.val l (k+1),k+1,0):=by
 rw[List.drop_eq_getElem_cons hl,Pk.num,if_neg (by omega),if_neg (by omega),if_neg h0]
theorem ret3 {a b c a' b' c':Int} (h1:a=a') (h2:b=b') (h3:c=c'):Ending.returned (.tuple #[.int .i64 a,.int .i64 b,.int .i64 c])=.returned (.tuple #[.int .i64 a',.int .i64 b',.int .i64 c']):=by rw[h1,h2,h3]
theorem size_u8:∀w,(Go.sizeOf 5).run Tryz.prog w=.ok 1 w:=fun _=>by kernel_rfl
theorem number_any (A:Option Addr) (n c:Nat) (l:List UInt8) (w:World) (hl:l.length=n) (hR:Rd w w.heap.size 1 A n c (bv l)):
  Calls Tryz.prog 120 #[.slice A n c] w fun e w'=>e=.returned (.tuple #[.int .i64 (Pk.num l 0 l).1,.int .i64 (Pk.num l 0 l).2.1,.int .i64 (Pk.num l 0 l).2.2])∧w=w':=by
 obtain⟨m,hm⟩:∃m,m=min n 9:=⟨_,rfl⟩
 have hcap:=hR.cap
 have hmin:(if (9:Int) < (n:Int) then (9:Int) else (n:Int))=m:=by split<;>omega
 have hs:∀W,(Instr.slice 29 (.slice A n c) none (some (.int .i64 (m:Int))) none).run Tryz.prog W=.ok (.slice A m c) W:=
  fun W=>run_upto W 29 5 1 Tryz.underlying29 size_u8 A n c .i64 m m rfl (by omega)
 have hm9:m≤9:=by omega
 have hmn:m≤n:=by omega
 have HM:=Hz_ hm
 have HL:=Hz_ hl
 clear hm
 go_enter Tryz.func120,Tryz.ntmps120
 go_wp2
 go_loop [2,13] (fun x i=>∃k:Nat,k≤m∧i=.int .i64 k∧x=.int .i64 (Pk.val l k)∧Hid (Pk.num l 0 l=Pk.num l k (l.drop k))) (fun _ i=>m - (intOf i).toNat)
 case atStart=>exact⟨0,by omega,rfl,by rw[Pk.val_zero];rfl,rfl⟩
 case round=>
  obtain⟨k,hk,rfl,rfl,hd⟩:=hrel
  by_cases hlt:k < m
  ·have hkl:k < l.length:=by omega
   have hk9:k < 9:=by omega
   obtain⟨ad,u,rfl,hb,hx,hc⟩:=hR.at_ (k:=k) (by omega)
   rw[bv_at l k hkl] at hx
   obtain rfl:Value.int .u8 (l[k].toNat:Int)=u:=by simpa using hx
   clear hx
   obtain⟨b,hb'⟩:∃b,b=l[k].toNat:=⟨_,rfl⟩
   have hb256:b < 256:=by have:=UInt8.toNat_lt l[k];omega
   rw[←hb'] at hc
   have HB:=Hz_ hb'
   clear hb' hs hmin hR
   obtain⟨x,hx⟩:∃x,x=Pk.val l k:=⟨_,rfl⟩
   rw[←hx]
   have HX:=Hz_ hx
   clear hx
   have hxl:x < 128 ^ k:=by rw[HX.out];exact Pk.val_lt l k
   have HS:=Hz_ (step_bits x b k hb256 hk9 hxl)
   have HV:=Hz_ (Pk.val_snoc l k hkl)
   clear hxl
   by_cases h128:128≤b
   ·have h1:=and128_hi b hb256 h128
    go_wp2
    go_round
    case rel=>
     refine⟨k+1,by omega,by go_num,?_,?_⟩
     ·rw[HS.out,HV.out,←HB.out,←HX.out]
     ·show _=_
      rw[hd.out,num_on l k hkl hk9 (by rw[←HB.out];exact h128)]
    case measure=>simp[intOf];omega
   ·have h1:=and128_lo b hb256 (by omega)
    by_cases h0:b=0
    ·subst h0
     by_cases hk0:0 < k
     ·have hd0:decide ((0:Int) < (k:Int))=true:=by simpa using hk0
      go_wp2
      go_ret3
      exact⟨by rw[hd.out,num_zero l k hkl hk9 HB.out.symm hk0];rfl,rfl⟩
     ·have hd0:decide ((0:Int) < (k:Int))=false:=by simpa using hk0
      go_wp2
      go_ret3
      exact⟨by rw[hd.out,num_last l k hkl hk9 (by rw[←HB.out];omega) (by omega)];exact ret3 (by rw[HV.out,←HB.out,←HX.out];exact HS.out) rfl rfl,rfl⟩
    ·have hb0:((b:Int) == 0)=false:=by simpa using h0
     go_wp2
     go_ret3
     exact⟨by rw[hd.out,num_last l k hkl hk9 (by rw[←HB.out];omega) (by rw[←HB.out];omega)];exact ret3 (by rw[HV.out,←HB.out,←HX.out];exact HS.out) rfl rfl,rfl⟩
  ·obtain rfl:k=m:=by omega
   clear hs hmin hR
   by_cases hn9:n < 9
   ·go_wp2
    go_ret3
    exact⟨by rw[hd.out,List.drop_of_length_le (by have:=HL.out;have:=HM.out;omega),num_end5 _ _ (by have:=HM.out;omega)];rfl,rfl⟩
   ·go_wp2
    go_ret3
    exact⟨by rw[hd.out,num_end4 _ _ _ (by have:=HM.out;omega)];rfl,rfl⟩
theorem u8_info:(Tryz.prog.info? 5).map (fun i=>(i.zero,i.size,i.bytes))=some (some (.int .u8 0),1,1):=by kernel_rfl
theorem clone_any (A:Option Addr) (n c:Nat) (xs:List Value) (w:World) (hR:Rd w w.heap.size 1 A n c xs) (h1:∀u∈xs,u.oneCell'=true) (hn:n≤140737488355328):
  Calls Tryz.prog 168 #[.slice A n c] w fun e w'=>∃A' c',e=.returned (.slice A' n c')∧w'.ownsRow w.heap.size 5 1 (.slice A' n c') n xs∧Below w.heap.size w w':=by
 have hmax:=hR.max
 have hcap:=hR.cap
 rcases A with _ | ad
 ·have hc0:=hR.nil rfl
  obtain rfl:n=0:=by omega
  subst hc0
  have hx:xs=[]:=List.eq_nil_of_length_eq_zero (by simpa using hR.len)
  subst hx
  have ht:=fun W=>Lib.run_eql_slice_nil (P:=Tryz.prog) W 29 5 none 0 0 0 0 Tryz.underlying29
  clear hR h1
  go_enter Tryz.func168,Tryz.ntmps168
  go_wp2
  go_ret
  exact⟨none,0,rfl,World.ownsRow_nil _ _ _ _,Below.refl _ _⟩
 ·have ht:=fun W=>Lib.run_eql_slice_nil (P:=Tryz.prog) W 29 5 (some ad) n c 0 0 Tryz.underlying29
  obtain⟨i0,hi0,hz0,hz1,hz2⟩:=info_parts u8_info
  have h63:0+n≤maxLen:=by omega
  go_enter Tryz.func168,Tryz.ntmps168
  go_wp2_with (at_builtin;go_must (refine wpList_append_rd _ rfl (.tmp 5) (.tmp 6) _ rfl w.heap.size 5 i0 _ 1 1 Tryz.underlying29 hi0 hz0 hz1 hz2 rfl (by decide) (.slice (some ⟨w.heap.size,0,none⟩) 0 0) 0 [] rfl (own_empty w _ _) w.heap.size (some ad) n c xs rfl (hR.alloc (Nat.le_refl _) _) h1 h63 (by omega) (by simp) ?_);intro A' c' w1 hown hg hat)
  go_ret
  exact⟨A',c',rfl,by simpa using hown,((Below.refl _ _).alloc (Nat.le_refl _) _).trans (grown_below hg (by simp) (by simp[Value.ownBlock]))⟩
theorem own_first {P:Program} {w:World} {base:Nat} {e:TypeId} {n c:Nat} {A:Option Addr} {xs:List Value} (h:w.ownsRow base e 1 (.slice A n c) n xs):
  ∃olds:List Value,olds.length=c∧olds.take n=xs∧n≤c∧c≤maxLen∧∀W:World,(∀k,k < w.heap.size→W.heap[k]?=w.heap[k]?)→(Builtin.firstCells 1 c (.slice A c c)).run P W=.ok olds.toArray W:=by
 rcases h.2 with ⟨hv,h0⟩ | ⟨g,cap,cur,hv,hb,hh,hn,hm,hs,ht⟩
 ·injection hv with h1 h2 h3
  subst h1 h2 h3
  refine⟨[],rfl,?_,Nat.le_refl _,by simp[maxLen],fun W _=>by simp[Builtin.firstCells]⟩
  have:=h.1
  rw[List.take_nil];exact(List.eq_nil_of_length_eq_zero (by simpa using this)).symm
 ·injection hv with h1 h2 h3
  subst h1 h3
  refine⟨cur.toList,by simpa using hs,by simpa using ht,hn,hm,fun W hW=>?_⟩
  have hg:W.heap[g]?=some (.cells cur e (0,0)):=by rw[hW g (Array.getElem?_eq_some_iff.1 hh).1];exact hh
  refine run_firstCells_some (P:=P) W 1 c ⟨g,0,none⟩ c c cur.toList (by simpa using hs) fun j u hu=>?_
  have hadd:(⟨g,0,none⟩:Addr).add j=⟨g,j,none⟩:=by unfold Addr.add;split<;>simp_all
  rw[hadd,cell_of_row _ g j cur e (0,0) hg]
  simpa using hu
theorem grow_any (A:Option Addr) (n c base:Nat) (xs:List Value) (w:World) (hown:w.ownsRow base 5 1 (.slice A n c) n xs) (hn:n+9≤140737488355328) (hbase:base≤w.heap.size):
  Calls Tryz.prog 167 #[.slice A n c,.int .i64 9] w fun e w'=>∃A' c',e=.returned (.slice A' n c')∧w'.ownsRow base 5 1 (.slice A' n c') n xs∧Below w.heap.size w w':=by
 obtain⟨olds,ho1,ho2,hnc,hcm,ho3⟩:=own_first (P:=Tryz.prog) hown
 unfold maxLen at hcm
 by_cases hroom:n+9≤c
 ·clear ho3 ho2
  go_enter Tryz.func167,Tryz.ntmps167
  go_wp2
  go_ret
  exact⟨A,c,rfl,hown,Below.refl _ _⟩
 ·obtain⟨k,hk⟩:∃k:Nat,9 - ((c:Int) - (n:Int))=(k:Int):=⟨n+9 - c,by omega⟩
  obtain⟨i0,hi0,hz0,hz1,hz2⟩:=info_parts u8_info
  have hk0:0 < k:=by omega
  have hu:∀W,(Instr.slice 29 (.slice A n c) none (some (.int .i64 (c:Int))) none).run Tryz.prog W=.ok (.slice A c c) W:=
   fun W=>run_upto W 29 5 1 Tryz.underlying29 size_u8 A n c .i64 c c rfl (Nat.le_refl _)
  have hfit:Builtin.nextslicecap (c+k) c * i0.bytes≤281474976710656:=growslice_fits (by omega) (by rw[hz2];omega)
  have hz:=Lib.run_append_grow_zeros (P:=Tryz.prog) w 29 3 29 5 i0 (.int .u8 0) .i64 .i64 Tryz.underlying29 Tryz.underlying3 hi0 hz0 A c c olds
   (by rw[hz1];exact ho3 w.drew (fun _ _=>rfl)) k hk0 (by rw[hz1];decide) (by omega) (by omega) (by rw[hz2];omega) hfit
  have hge:=grownCap_ge w (c+k) c 5
  have hgm:=grownCap_le_maxLen w (c+k) c 5 (by unfold maxLen;omega)
  have HO:=Hz_ ho1
  have HT:=Hz_ ho2
  generalize grownCap w (c+k) c 5=N at hz hge hgm
  have Hz:=Hz_ hz
  have HM:=Hz_ hgm
  clear hz ho3 hfit ho1 ho2 hgm
  go_enter Tryz.func167,Tryz.ntmps167
  go_wp2_with (at_builtin;go_must (refine Lib.wpList_append_run _ rfl _ _ _ _ rfl _ _ rfl rfl _ _ Hz.out ?_))
  go_ret
  have h1:=hown.1
  have h2:=HO.out
  refine⟨_,_,rfl,⟨h1,.inr ⟨w.heap.size,N,_,rfl,hbase,heap_alloc_new w.drew _,by omega,HM.out,?_,?_⟩⟩,((Below.refl _ _).drew).alloc (Nat.le_refl _) _⟩
  ·simp only[Array.size_append,List.size_toArray,size_zeroCells,h2]
   simp
   omega
  ·simp only[Array.toList_append]
   rw[List.take_append_of_le_length (by omega),Nat.mul_one]
   exact HT.out
theorem or128_fin:∀m:Nat,m < 256→bits BinOp.or .u8 (m:Int) 128=((m % 128+128:Nat):Int):=by decide +kernel
theorem or128 (m:Nat):bits BinOp.or .u8 ((m:Int) % 256) 128=((UInt8.ofNat (m % 128+128)).toNat:Int):=by
 rw[Pk.toNat_ofNat (by omega),show ((m:Int) % 256)=((m % 256:Nat):Int) by omega,or128_fin _ (by omega)]
 omega
theorem one_oneCell (k:IntKind) (x:Int):∀u∈[Value.int k x],u.oneCell'=true:=by
 intro u hu
 rw[List.mem_singleton] at hu
 subst hu
 rfl
theorem appendNumber_any (A:Option Addr) (n c x:Nat) (l:List UInt8) (w:World) (hl:l.length=n) (hR:Rd w w.heap.size 1 A n c (bv l)) (hn:n+9≤140737488355328) (hx:(Pk.lay x).length≤9):
  Calls Tryz.prog 101 #[.slice A n c,.int .i64 x] w fun e w'=>∃A' c',e=.returned (.tuple #[.slice A' (n+(Pk.lay x).length) c',.int .i64 0]) ∧
   w'.ownsRow w.heap.size 5 1 (.slice A' (n+(Pk.lay x).length) c') (n+(Pk.lay x).length) (bv (l++Pk.lay x))∧Below w.heap.size w w':=by
 obtain⟨i0,hi0,hz0,hz1,hz2⟩:=info_parts u8_info
 have HX:=Hz_ hx
 have HL:=Hz_ hl
 clear hx hl
 have H1:=Hz_ (clone_any A n c (bv l) w hR (bv_oneCell l) (by omega))
 have HR:=Hz_ hR
 clear hR
 go_enter Tryz.func101,Tryz.ntmps101
 go_wp2_with fail
 refine H1.out.mono ?_
 rintro e w1 ⟨A1,c1,rfl,ho1,hb1⟩
 go_wp2_with fail
 refine(grow_any A1 n c1 w.heap.size (bv l) w1 ho1 hn hb1.size).mono ?_
 rintro e w2 ⟨A2,c2,rfl,ho2,hb2⟩
 have hb12:Below w.heap.size w w2:=hb1.trans (hb2.mono hb1.size)
 clear hb1 hb2 ho1 H1
 go_wp2_with fail
 go_loopw [1,6] (fun x' v wr=>∃(m k c':Nat) (A':Option Addr) (pre:List UInt8),x'=.int .i64 m∧v=.slice A' (n+k) c'∧wr.ownsRow w.heap.size 5 1 (.slice A' (n+k) c') (n+k) (bv (l++pre))∧Below w.heap.size w wr∧k≤8∧Hid (Pk.lay x=pre++Pk.lay m∧pre.length=k)) (fun x' _ _=>(intOf x').toNat)
 case atStart=>
  exact⟨x,0,c2,A2,[],rfl,rfl,by simpa using ho2,hb12,by omega,by simp[Hid]⟩
 case round=>
  obtain⟨m,k,c',A',pre,rfl,rfl,ho,hb,hk,hh⟩:=hrel
  have HR2:=Hz_ ho
  clear ho
  have h1max:1≤maxLen:=by unfold maxLen;omega
  have h63:n+k+1≤maxLen:=by unfold maxLen;omega
  by_cases hm:128≤m
  ·obtain⟨d,hd⟩:∃d,d=UInt8.ofNat (m % 128+128):=⟨_,rfl⟩
   have hbits:bits BinOp.or .u8 ((m:Int) % 256) 128=((d.toNat:Nat):Int):=by rw[hd];exact or128 m
   obtain⟨q,hq⟩:∃q,q=d.toNat:=⟨_,rfl⟩
   rw[←hq] at hbits
   have HD:=Hz_ hd
   have HQ:=Hz_ hq
   clear hd hq
   go_wp2_with (at_builtin;go_must (refine wpList_append_rd _ rfl (.tmp 16) (.tmp 20) _ rfl w.heap.size 5 i0 _ 1 1 Tryz.underlying29 hi0 hz0 hz1 hz2 rfl (by decide) (.slice A' (n+k) c') (n+k) (bv (l++pre)) rfl (HR2.out.alloc _) (wr.heap.size+1) (some ⟨wr.heap.size,0,none⟩) 1 1 [.int .u8 (q:Int)] rfl (Rd.new wr _ 1 1 #[.int .u8 (q:Int)] rfl h1max) (one_oneCell _ _) h63 (by omega) (by have:=hb.size;simp;omega) ?_);intro A3 c3 w3 ho3 hg3 hat3)
   go_roundw
   case rel=>
    refine⟨m / 128,k+1,c3,A3,pre++[d],by go_num,rfl,?_,?_,?_,?_⟩
    ·have:=ho3
     rw[HQ.out,←bv_one,←bv_app,List.append_assoc] at this
     exact this
    ·exact(hb.alloc hb.size _).trans (grown_below hg3 (by have:=hb.size;simp;omega) (own_lt HR2.out))
    ·obtain⟨e1,e2⟩:=hh.out
     have e3:=HX.out
     rw[e1,List.length_append,Pk.lay_more hm,List.length_cons] at e3
     have:=Pk.lay_pos (m / 128)
     omega
    ·obtain⟨e1,e2⟩:=hh.out
     exact⟨by rw[e1,Pk.lay_more hm,HD.out];simp,by simp[e2]⟩
   case measure=>simp[intOf];omega
  ·obtain⟨d,hd⟩:∃d,d=UInt8.ofNat m:=⟨_,rfl⟩
   have hq:(d.toNat:Int)=m:=by rw[hd,Pk.toNat_ofNat (by omega)]
   have HD:=Hz_ hd
   have HQ:=Hz_ hq
   clear hd hq
   go_wp2_with (at_builtin;go_must (refine wpList_append_rd _ rfl (.tmp 22) (.tmp 25) _ rfl w.heap.size 5 i0 _ 1 1 Tryz.underlying29 hi0 hz0 hz1 hz2 rfl (by decide) (.slice A' (n+k) c') (n+k) (bv (l++pre)) rfl (HR2.out.alloc _) (wr.heap.size+1) (some ⟨wr.heap.size,0,none⟩) 1 1 [.int .u8 (m:Int)] rfl (Rd.new wr _ 1 1 #[.int .u8 (m:Int)] rfl h1max) (one_oneCell _ _) h63 (by omega) (by have:=hb.size;simp;omega) ?_);intro A3 c3 w3 ho3 hg3 hat3)
   go_ret2
   obtain⟨e1,e2⟩:=hh.out
   have e3:Pk.lay x=pre++[d]:=by rw[e1,Pk.lay_small (by omega),HD.out]
   have e4:(Pk.lay x).length=k+1:=by rw[e3];simp[e2]
   rw[e4]
   refine⟨A3,c3,rfl,?_,?_⟩
   ·have:=ho3
    rw[←HQ.out,←bv_one,←bv_app,List.append_assoc,←e3] at this
    exact this
   ·exact(hb.alloc hb.size _).trans (grown_below hg3 (by have:=hb.size;simp;omega) (own_lt HR2.out))
theorem lay_len_max {m c:Nat} (h:m≤c) (hc:c≤maxLen):(Pk.lay m).length≤9:=Pk.lay_len9 (by unfold maxLen at hc;omega)
theorem appendRow_any (A A2:Option Addr) (n c m c2:Nat) (l r:List UInt8) (w:World) (hl:l.length=n) (hR:Rd w w.heap.size 1 A n c (bv l)) (hR2:Rd w w.heap.size 1 A2 m c2 (bv r)) (hn:n+9+m≤140737488355328):
  Calls Tryz.prog 105 #[.slice A n c,.slice A2 m c2] w fun e w'=>∃A' c',e=.returned (.slice A' (n+(Pk.lay m).length+m) c') ∧
   w'.ownsRow w.heap.size 5 1 (.slice A' (n+(Pk.lay m).length+m) c') (n+(Pk.lay m).length+m) (bv (l++Pk.lay m++r))∧Below w.heap.size w w':=by
 obtain⟨i0,hi0,hz0,hz1,hz2⟩:=info_parts u8_info
 have h9:=lay_len_max hR2.cap hR2.max
 have H1:=Hz_ (appendNumber_any A n c m l w hl hR (by omega) h9)
 have HR2:=Hz_ hR2
 clear hR hR2 hl
 go_enter Tryz.func105,Tryz.ntmps105
 go_wp2_with fail
 refine H1.out.mono ?_
 clear H1
 rintro e w1 ⟨A1,c1,rfl,ho1,hb1⟩
 have h63:n+(Pk.lay m).length+m≤maxLen:=by unfold maxLen;omega
 go_wp2_with (at_builtin;go_must (refine wpList_append_rd _ rfl (.tmp 14) (.tmp 15) _ rfl w.heap.size 5 i0 _ 1 1 Tryz.underlying29 hi0 hz0 hz1 hz2 rfl (by decide) _ _ _ rfl ho1 w.heap.size A2 m c2 (bv r) rfl (HR2.out.below hb1) (bv_oneCell r) h63 (by omega) hb1.size ?_);intro A3 c3 w3 ho3 hg3 hat3)
 go_ret
 exact⟨A3,c3,rfl,by rw[bv_app];exact ho3,hb1.trans (grown_below hg3 hb1.size (own_lt ho1))⟩
theorem refBytes_any (x:Nat) (w:World) (hx63:x < 9223372036854775808):
  Calls Tryz.prog 107 #[.int .i64 x] w fun e w'=>∃A' c',e=.returned (.slice A' (Pk.lay x).length c') ∧
   w'.ownsRow w.heap.size 5 1 (.slice A' (Pk.lay x).length c') (Pk.lay x).length (bv (Pk.lay x))∧Below w.heap.size w w':=by
 obtain⟨i0,hi0,hz0,hz1,hz2⟩:=info_parts u8_info
 have HX:=Hz_ (Pk.lay_len9 hx63)
 have H63:=Hz_ hx63
 clear hx63
 go_enter Tryz.func107,Tryz.ntmps107
 go_wp2_with fail
 go_loopw [0,3] (fun x' v wr=>∃(m k c':Nat) (A':Option Addr) (pre:List UInt8),x'=.int .i64 m∧v=.slice A' k c'∧wr.ownsRow w.heap.size 5 1 (.slice A' k c') k (bv pre)∧Below w.heap.size w wr∧k≤8∧Hid (Pk.lay x=pre++Pk.lay m∧pre.length=k∧m≤x)) (fun x' _ _=>(intOf x').toNat)
 case atStart=>
  exact⟨x,0,0,none,[],rfl,rfl,World.ownsRow_nil _ _ _ _,Below.refl _ _,by omega,by simp[Hid]⟩
 case round=>
  obtain⟨m,k,c',A',pre,rfl,rfl,ho,hb,hk,hh⟩:=hrel
  have HR2:=Hz_ ho
  clear ho
  have h1max:1≤maxLen:=by unfold maxLen;omega
  have h63:k+1≤maxLen:=by unfold maxLen;omega
  by_cases hm:128≤m
  ·obtain⟨d,hd⟩:∃d,d=UInt8.ofNat (m % 128+128):=⟨_,rfl⟩
   have hq:(d.toNat:Int)=(m:Int) % 128+128:=by rw[hd,Pk.toNat_ofNat (by omega)];omega
   have HD:=Hz_ hd
   have HQ:=Hz_ hq
   clear hd hq
   go_wp2_with (at_builtin;go_must (refine wpList_append_rd _ rfl (.tmp 6) (.tmp 11) _ rfl w.heap.size 5 i0 _ 1 1 Tryz.underlying29 hi0 hz0 hz1 hz2 rfl (by decide) (.slice A' k c') k (bv pre) rfl (HR2.out.alloc _) (wr.heap.size+1) (some ⟨wr.heap.size,0,none⟩) 1 1 [.int .u8 ((m:Int) % 128+128)] rfl (Rd.new wr _ 1 1 #[.int .u8 ((m:Int) % 128+128)] rfl h1max) (one_oneCell _ _) h63 (by omega) (by have:=hb.size;simp;omega) ?_);intro A3 c3 w3 ho3 hg3 hat3)
   have hw:wrap64 ((m:Int) / 128)=(m:Int) / 128:=IntWalk.wrap64_in _ (by have:=hh.out.2.2;have:=H63.out;omega)
   go_roundw
   case rel=>
    refine⟨m / 128,k+1,c3,A3,pre++[d],by rw[hw];go_num,rfl,?_,?_,?_,?_⟩
    ·have:=ho3
     rw[←HQ.out,←bv_one,←bv_app] at this
     exact this
    ·exact(hb.alloc hb.size _).trans (grown_below hg3 (by have:=hb.size;simp;omega) (own_lt HR2.out))
    ·obtain⟨e1,e2,e5⟩:=hh.out
     have e3:=HX.out
     rw[e1,List.length_append,Pk.lay_more hm,List.length_cons] at e3
     have:=Pk.lay_pos (m / 128)
     omega
    ·obtain⟨e1,e2,e5⟩:=hh.out
     exact⟨by rw[e1,Pk.lay_more hm,HD.out];simp,by simp[e2],by omega⟩
   case measure=>rw[hw];simp[intOf];omega
  ·obtain⟨d,hd⟩:∃d,d=UInt8.ofNat m:=⟨_,rfl⟩
   have hq:(d.toNat:Int)=m:=by rw[hd,Pk.toNat_ofNat (by omega)]
   have HD:=Hz_ hd
   have HQ:=Hz_ hq
   clear hd hq
   go_wp2_with (at_builtin;go_must (refine wpList_append_rd _ rfl (.tmp 15) (.tmp 18) _ rfl w.heap.size 5 i0 _ 1 1 Tryz.underlying29 hi0 hz0 hz1 hz2 rfl (by decide) (.slice A' k c') k (bv pre) rfl (HR2.out.alloc _) (wr.heap.size+1) (some ⟨wr.heap.size,0,none⟩) 1 1 [.int .u8 (m:Int)] rfl (Rd.new wr _ 1 1 #[.int .u8 (m:Int)] rfl h1max) (one_oneCell _ _) h63 (by omega) (by have:=hb.size;simp;omega) ?_);intro A3 c3 w3 ho3 hg3 hat3)
   go_ret
   obtain⟨e1,e2,e5⟩:=hh.out
   have e3:Pk.lay x=pre++[d]:=by rw[e1,Pk.lay_small (by omega),HD.out]
   have e4:(Pk.lay x).length=k+1:=by rw[e3];simp[e2]
   rw[e4]
   refine⟨A3,c3,rfl,?_,?_⟩
   ·have:=ho3
    rw[←HQ.out,←bv_one,←bv_app,←e3] at this
    exact this
   ·exact(hb.alloc hb.size _).trans (grown_below hg3 (by have:=hb.size;simp;omega) (own_lt HR2.out))
theorem refLaid_any (A2:Option Addr) (m c2:Nat) (r:List UInt8) (w:World) (hR2:Rd w w.heap.size 1 A2 m c2 (bv r)) (hn:9+m≤140737488355328):
  Calls Tryz.prog 108 #[.slice A2 m c2] w fun e w'=>∃A' c',e=.returned (.slice A' ((Pk.lay m).length+m) c') ∧
   w'.ownsRow w.heap.size 5 1 (.slice A' ((Pk.lay m).length+m) c') ((Pk.lay m).length+m) (bv (Pk.lay m++r))∧Below w.heap.size w w':=by
 obtain⟨i0,hi0,hz0,hz1,hz2⟩:=info_parts u8_info
 have h9:=lay_len_max hR2.cap hR2.max
 have hm63:m < 9223372036854775808:=by have:=hR2.cap;have:=hR2.max;unfold maxLen at this;omega
 have H1:=Hz_ (refBytes_any m w hm63)
 clear hm63
 have HR2:=Hz_ hR2
 clear hR2
 go_enter Tryz.func108,Tryz.ntmps108
 go_wp2_with fail
 refine H1.out.mono ?_
 clear H1
 rintro e w1 ⟨A1,c1,rfl,ho1,hb1⟩
 have h63:(Pk.lay m).length+m≤maxLen:=by unfold maxLen;omega
 go_wp2_with (at_builtin;go_must (refine wpList_append_rd _ rfl (.tmp 5) (.tmp 6) _ rfl w.heap.size 5 i0 _ 1 1 Tryz.underlying29 hi0 hz0 hz1 hz2 rfl (by decide) _ _ _ rfl ho1 w.heap.size A2 m c2 (bv r) rfl (HR2.out.below hb1) (bv_oneCell r) h63 (by omega) hb1.size ?_);intro A3 c3 w3 ho3 hg3 hat3)
 go_ret
 exact⟨A3,c3,rfl,by rw[bv_app];exact ho3,hb1.trans (grown_below hg3 hb1.size (own_lt ho1))⟩
theorem number_is {A:Option Addr} {n c:Nat} {l:List UInt8} {w:World} {x k er:Nat} (h:Pk.num l 0 l=(x,k,er)) (hl:l.length=n) (hR:Rd w w.heap.size 1 A n c (bv l)):
  Calls Tryz.prog 120 #[.slice A n c] w fun e w'=>e=.returned (.tuple #[.int .i64 x,.int .i64 k,.int .i64 er])∧w=w':=by
 have:=number_any A n c l w hl hR
 rw[h] at this
 exact this
theorem run_convert_rd {P:Program} {w:World} {B n c:Nat} {A:Option Addr} {l:List UInt8} (src e dst:TypeId) (hs:P.underlying src=some (.slice e)) (he:P.underlying e=some (.int .u8)) (hd:P.underlying dst=some .string)
  (hR:Rd w B 1 A n c (bv l)):(convert src dst (.slice A n c)).run P w=.ok (.string ⟨l.toArray⟩) w:=by
 have hln:l.length=n:=by have:=hR.len;rw[bv_len] at this;omega
 rcases A with _ | ad
 ·have hc0:=hR.nil rfl
  have hcap:=hR.cap
  obtain rfl:n=0:=by omega
  have hx:l=[]:=List.eq_nil_of_length_eq_zero hln
  subst hx
  exact run_convert_bytes_nil w src e hs he 0 c dst hd
 ·have hl:(loadCells ad n).run P w=.ok (bv l).toArray w:=by
   have:=run_loadCells_list (P:=P) w ad (bv l) (fun j v hj=>by
    rcases Nat.eq_zero_or_pos n with h0 | h0
    ·have hx:l=[]:=List.eq_nil_of_length_eq_zero (by omega)
     subst hx
     simp[bv] at hj
    ·obtain⟨ad',h,_,hc⟩:=hR.at0 h0
     injection h with h
     subst h
     exact hc j v hj)
   rwa [bv_len,hln] at this
  have e1:bv l=(l.map fun b=>(b.toNat:Int)).map (Value.int .u8):=by simp[bv]
  rw[e1] at hl
  rw[run_convert_bytes_string w src dst e _ n c hs he hd,run_bytesToString w ad n c _ hl,foldl_push_bytes]
  simp[ByteArray.empty,ByteArray.emptyWithCapacity,Function.comp_def]
  rfl
theorem sameB_any (A A2:Option Addr) (n c m c2 B B2:Nat) (l r:List UInt8) (w:World) (hR:Rd w B 1 A n c (bv l)) (hR2:Rd w B2 1 A2 m c2 (bv r)):
  Calls Tryz.prog 11 #[.slice A n c,.slice A2 m c2] w fun e w'=>e=.returned (.bool (l == r))∧w=w':=by
 have h1:=run_convert_rd (P:=Tryz.prog) 29 5 9 Tryz.underlying29 Tryz.underlying5 Tryz.underlying9 hR
 have h2:=run_convert_rd (P:=Tryz.prog) 29 5 9 Tryz.underlying29 Tryz.underlying5 Tryz.underlying9 hR2
 clear hR hR2
 go_enter Tryz.func11,Tryz.ntmps11
 go_wp2
 go_ret
 exact⟨by simp,rfl⟩
end Go.Proofs.YtmbeahbgafkjfaaGreatDoor
