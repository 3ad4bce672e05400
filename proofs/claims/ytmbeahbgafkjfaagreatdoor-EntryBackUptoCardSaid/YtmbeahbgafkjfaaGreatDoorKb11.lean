/- Lemmas for the claim, layer 11. -/
import Derived.Test.YtmbeahbgafkjfaaGreatDoorKb10
set_option maxRecDepth 100000
set_option maxHeartbeats 16000000
namespace Go.Proofs.YtmbeahbgafkjfaaGreatDoor
open Go.RowKit
structure ZV where
 A:Option Addr
 n:Nat
 c:Nat
def zvl (p:ZV×Zn):List Value:=[.int .i64 p.2.1.1,.int .i64 p.2.1.2,.slice p.1.A p.1.n p.1.c]
def zvv (L:List (ZV×Zn)):List Value:=L.flatMap zvl
def zns (L:List (ZV×Zn)):List Zn:=L.map (·.2)
theorem zns_len (L:List (ZV×Zn)):(zns L).length=L.length:=by simp[zns]
theorem zns_at (L:List (ZV×Zn)) (k:Nat) (h:k < L.length):(zns L)[k]'(by rw[zns_len];exact h)=L[k].2:=by simp[zns]
theorem zns_app (L M:List (ZV×Zn)):zns (L++M)=zns L++zns M:=by simp[zns]
theorem zvv_app (L M:List (ZV×Zn)):zvv (L++M)=zvv L++zvv M:=by simp[zvv]
theorem zvv_at (L:List (ZV×Zn)) (k:Nat) (h:k < L.length) (j:Nat) (hj:j < 3):(zvv L)[k * 3+j]?=(zvl L[k])[j]?:=flat_at zvl 3 (by decide) L (fun _ _=>rfl) k h j hj
theorem zvv_len (L:List (ZV×Zn)):(zvv L).length=L.length * 3:=flat_len zvl 3 L (fun _ _=>rfl)
theorem zvl_oneCell (p:ZV×Zn):∀u∈zvl p,u.oneCell'=true:=by
 intro u hu
 simp only[zvl,List.mem_cons,List.not_mem_nil,or_false] at hu
 rcases hu with h | h | h<;>subst h<;>rfl
structure RdZ (w:World) (B:Nat) (A:Option Addr) (n c:Nat) (L:List (ZV×Zn)):Prop where
 len:L.length=n
 rd:Rd w B 3 A n c (zvv L)
 each:∀p∈L,p.2.2.length=p.1.n∧Rd w B 2 p.1.A p.1.n p.1.c (sv p.2.2)
theorem RdZ.go {w w':World} {A:Option Addr} {n c:Nat} {L:List (ZV×Zn)} (h:RdZ w w.heap.size A n c L) (hb:Below w.heap.size w w'):RdZ w' w'.heap.size A n c L:=⟨h.len,h.rd.go hb,fun p hp=>⟨(h.each p hp).1,(h.each p hp).2.go hb⟩⟩
theorem RdZ.below {w w':World} {B:Nat} {A:Option Addr} {n c:Nat} {L:List (ZV×Zn)} (h:RdZ w B A n c L) (hb:Below B w w'):RdZ w' B A n c L:=⟨h.len,h.rd.below hb,fun p hp=>⟨(h.each p hp).1,(h.each p hp).2.below hb⟩⟩
theorem RdZ.more {w:World} {B B':Nat} {A:Option Addr} {n c:Nat} {L:List (ZV×Zn)} (h:RdZ w B A n c L) (hb:B≤B'):RdZ w B' A n c L:=⟨h.len,h.rd.more hb,fun p hp=>⟨(h.each p hp).1,(h.each p hp).2.more hb⟩⟩
theorem RdZ.none_ (w:World) (B:Nat):RdZ w B none 0 0 []:=⟨rfl,Rd.none_,fun p hp=>by cases hp⟩
theorem RdZ.zone {w:World} {B n c k:Nat} {A:Option Addr} {L:List (ZV×Zn)} (h:RdZ w B A n c L) (hk:k < L.length):
  ∃b o,A=some ⟨b,o,none⟩∧b < B∧w.cell? ⟨b,o+k * 3,none⟩=some (.int .i64 L[k].2.1.1)∧w.cell? ⟨b,o+k * 3+1,none⟩=some (.int .i64 L[k].2.1.2) ∧
   w.cell? ⟨b,o+k * 3+2,none⟩=some (.slice L[k].1.A L[k].1.n L[k].1.c):=by
 have hl:=h.len
 obtain⟨b,o,rfl,hb,hc⟩:=h.rd.plain (by omega) (by decide)
 have e:∀j,j < 3→∀u,(zvl L[k])[j]?=some u→w.cell? ⟨b,o+k * 3+j,none⟩=some u:=fun j hj u hu=>by
  rw[Nat.add_assoc]
  exact hc (k * 3+j) u (by rw[zvv_at L k hk j hj,hu])
 exact⟨b,o,rfl,hb,e 0 (by decide) _ rfl,e 1 (by decide) _ rfl,e 2 (by decide) _ rfl⟩
theorem RdZ.max {w:World} {B n c:Nat} {A:Option Addr} {L:List (ZV×Zn)} (h:RdZ w B A n c L):n≤9223372036854775807:=by
 have h1:=h.rd.cap;have h2:=h.rd.max;unfold maxLen at h2;omega
def aheadE (z:List Zn) (k:Nat):Int:=if h:k≠0∧k - 1 < z.length then (z[k - 1]'h.2).1.2 else -1
def aheadP (z:List Zn) (k:Nat):Option (List Vc.St):=if h:k≠0∧k - 1 < z.length then some (z[k - 1]'h.2).2 else none
theorem aheadE_zero (z:List Zn):aheadE z 0=-1:=by unfold aheadE;rw[dif_neg (by simp)]
theorem aheadP_zero (z:List Zn):aheadP z 0=none:=by unfold aheadP;rw[dif_neg (by simp)]
theorem aheadE_next (z:List Zn) (k:Nat) (h:k < z.length):aheadE z (k+1)=z[k].1.2:=by
 unfold aheadE;rw[dif_pos ⟨by omega,by simpa using h⟩];simp
theorem aheadP_next (z:List Zn) (k:Nat) (h:k < z.length):aheadP z (k+1)=some z[k].2:=by
 unfold aheadP;rw[dif_pos ⟨by omega,by simpa using h⟩];simp
theorem zF_drop (e:Int) (p:Option (List Vc.St)) (z:List Zn) (k:Nat) (h:k < z.length):zF e p (z.drop k)=(zStep e p z[k] && zF z[k].1.2 (some z[k].2) (z.drop (k+1))):=by
 rw[List.drop_eq_getElem_cons h,zF]
theorem zF_end (e:Int) (p:Option (List Vc.St)) (z:List Zn) (k:Nat) (h:z.length≤k):zF e p (z.drop k)=true:=by
 rw[List.drop_of_length_le h];rfl
theorem quiet_then {w wr:World} {q:Nat} (h:Hid (wr=w.drewN q)) (m:Nat):Hid (wr.drewN m=w.drewN (q+m)):=Hz_ (by rw[h.out,World.drewN_drewN])
theorem equalSt_q (A D:Option Addr) (n c m d:Nat) (u v:List Vc.St) (w:World) (hl:u.length=n) (hl2:v.length=m) (hR:Rd w w.heap.size 2 A n c (sv u)) (hR2:Rd w w.heap.size 2 D m d (sv v)):
  Calls Tryz.prog 160 #[.slice A n c,.slice D m d] w fun e w'=>e=.returned (.bool (decide (u=v)))∧∃q,w'=w.drewN q:=by
 have hmax:n≤9223372036854775807:=by have h1:=hR.cap;have h2:=hR.max;unfold maxLen at h2;omega
 by_cases hnm:n=m
 ·subst hnm
  go_enter Tryz.func160,Tryz.ntmps160
  go_wp2
  go_loopw [13] (fun i wr=>∃(k q:Nat),k≤n∧i=.int .i64 k∧decide (u=v)=decide (u.drop k=v.drop k)∧Hid (wr=w.drewN q)) (fun i _=>n - (intOf i).toNat)
  case atStart=>exact⟨0,0,by omega,rfl,rfl,Hz_ rfl⟩
  case round=>
   obtain⟨k,q,hk,rfl,hdd,hq⟩:=hrel
   have hR:=hR.drewN q
   have hR2:=hR2.drewN q
   rw[←hq.out] at hR hR2
   by_cases hlt:k < n
   ·have hk1:k < u.length:=by omega
    have hk2:k < v.length:=by omega
    obtain⟨b,o,rfl,hab,h0,h1⟩:=hR.stamp hl hlt
    obtain⟨b2,o2,rfl,hab2,h02,h12⟩:=hR2.stamp hl2 hlt
    have HD:=Hz_ hdd
    have HE:=Hz_ (show u[k]=((u[k]'hk1).1,(u[k]'hk1).2) from rfl)
    have HE2:=Hz_ (show v[k]=((v[k]'hk2).1,(v[k]'hk2).2) from rfl)
    generalize (u[k]'hk1).1=sc at h0 HE
    generalize (u[k]'hk1).2=sn at h1 HE
    generalize (v[k]'hk2).1=tc at h02 HE2
    generalize (v[k]'hk2).2=tn at h12 HE2
    clear hdd hR hR2
    by_cases e1:sc=tc
    ·subst e1
     by_cases e2:sn=tn
     ·subst e2
      have HN:=Hz_ (dec_drop hk1 hk2 (by rw[HE.out,HE2.out]))
      go_wp2
      go_quiet (fail)
      go_wp2
      go_roundw
      case rel=>exact⟨k+1,_,by omega,by go_num,by rw[HD.out,HN.out],quiet_then hq _⟩
      case measure=>simp[intOf];omega
     ·have HN:=Hz_ (show decide (u=v)=false by
       rw[decide_eq_false_iff_not];intro h;subst h;exact e2 (congrArg Prod.snd (HE.out.symm.trans HE2.out)))
      go_wp2
      go_quiet (fail)
      go_wp2
      go_ret
      exact⟨by rw[HN.out];rfl,_,(quiet_then hq _).out⟩
    ·have HN:=Hz_ (show decide (u=v)=false by
      rw[decide_eq_false_iff_not];intro h;subst h;exact e1 (congrArg Prod.fst (HE.out.symm.trans HE2.out)))
     go_wp2
     go_quiet (fail)
     go_wp2
     go_ret
     exact⟨by rw[HN.out];rfl,_,(quiet_then hq _).out⟩
   ·obtain rfl:k=n:=by omega
    have HX:=Hz_ (show decide (u=v)=true by rw[hdd,List.drop_of_length_le (by omega),List.drop_of_length_le (by omega)];simp)
    clear hdd
    go_wp2
    go_ret
    exact⟨by rw[HX.out];rfl,q,hq.out⟩
 ·have HN:=Hz_ (show decide (u=v)=false by rw[decide_eq_false_iff_not];intro h;subst h;omega)
  have hne:¬ ((n:Int)=(m:Int)):=by omega
  go_enter Tryz.func160,Tryz.ntmps160
  go_wp2
  go_ret
  exact⟨by rw[HN.out];rfl,0,rfl⟩
theorem same_q (A D:Option Addr) (n c m d:Nat) (u v:List Vc.St) (w:World) (hl:u.length=n) (hl2:v.length=m) (hR:Rd w w.heap.size 2 A n c (sv u)) (hR2:Rd w w.heap.size 2 D m d (sv v)):
  Calls Tryz.prog 80 #[.slice A n c,.slice D m d] w fun e w'=>e=.returned (.bool (decide (u=v)))∧∃q,w'=w.drewN q:=by
 have hmax:n≤9223372036854775807:=by have h1:=hR.cap;have h2:=hR.max;unfold maxLen at h2;omega
 by_cases hnm:n=m
 ·subst hnm
  go_enter Tryz.func80,Tryz.ntmps80
  go_wp2
  go_loopw [5] (fun i wr=>∃(k q:Nat),k≤n∧i=.int .i64 k∧decide (u=v)=decide (u.drop k=v.drop k)∧Hid (wr=w.drewN q)) (fun i _=>n - (intOf i).toNat)
  case atStart=>exact⟨0,0,by omega,rfl,rfl,Hz_ rfl⟩
  case round=>
   obtain⟨k,q,hk,rfl,hdd,hq⟩:=hrel
   have hR:=hR.drewN q
   have hR2:=hR2.drewN q
   rw[←hq.out] at hR hR2
   by_cases hlt:k < n
   ·have hk1:k < u.length:=by omega
    have hk2:k < v.length:=by omega
    obtain⟨b,o,rfl,hab,h0,h1⟩:=hR.stamp hl hlt
    obtain⟨b2,o2,rfl,hab2,h02,h12⟩:=hR2.stamp hl2 hlt
    have HD:=Hz_ hdd
    have HE:=Hz_ (show u[k]=((u[k]'hk1).1,(u[k]'hk1).2) from rfl)
    have HE2:=Hz_ (show v[k]=((v[k]'hk2).1,(v[k]'hk2).2) from rfl)
    generalize (u[k]'hk1).1=sc at h0 HE
    generalize (u[k]'hk1).2=sn at h1 HE
    generalize (v[k]'hk2).1=tc at h02 HE2
    generalize (v[k]'hk2).2=tn at h12 HE2
    clear hdd hR hR2
    by_cases e1:sc=tc
    ·subst e1
     by_cases e2:sn=tn
     ·subst e2
      have HN:=Hz_ (dec_drop hk1 hk2 (by rw[HE.out,HE2.out]))
      go_wp2
      go_quiet (fail)
      go_wp2
      go_roundw
      case rel=>exact⟨k+1,_,by omega,by go_num,by rw[HD.out,HN.out],quiet_then hq _⟩
      case measure=>simp[intOf];omega
     ·have HN:=Hz_ (show decide (u=v)=false by
       rw[decide_eq_false_iff_not];intro h;subst h;exact e2 (congrArg Prod.snd (HE.out.symm.trans HE2.out)))
      go_wp2
      go_quiet (fail)
      go_wp2
      go_ret
      exact⟨by rw[HN.out];rfl,_,(quiet_then hq _).out⟩
    ·have HN:=Hz_ (show decide (u=v)=false by
      rw[decide_eq_false_iff_not];intro h;subst h;exact e1 (congrArg Prod.fst (HE.out.symm.trans HE2.out)))
     go_wp2
     go_quiet (fail)
     go_wp2
     go_ret
     exact⟨by rw[HN.out];rfl,_,(quiet_then hq _).out⟩
   ·obtain rfl:k=n:=by omega
    have HX:=Hz_ (show decide (u=v)=true by rw[hdd,List.drop_of_length_le (by omega),List.drop_of_length_le (by omega)];simp)
    clear hdd
    go_wp2
    go_ret
    exact⟨by rw[HX.out];rfl,q,hq.out⟩
 ·have HN:=Hz_ (show decide (u=v)=false by rw[decide_eq_false_iff_not];intro h;subst h;omega)
  have hne:¬ ((n:Int)=(m:Int)):=by omega
  go_enter Tryz.func80,Tryz.ntmps80
  go_wp2
  go_ret
  exact⟨by rw[HN.out];rfl,0,rfl⟩
theorem Blk.three {w:World} {g:Nat} {t:TypeId} {a b c:Value} (h:Blk w g t #[a,b,c]):w.cell? ⟨g,0,none⟩=some a∧w.cell? ⟨g,1,none⟩=some b∧w.cell? ⟨g,2,none⟩=some c:=⟨h.cell 0,h.cell 1,h.cell 2⟩
theorem zonesFormed_any (A:Option Addr) (n c:Nat) (L:List (ZV×Zn)) (w:World) (hR:RdZ w w.heap.size A n c L):
  Calls Tryz.prog 92 #[.slice A n c] w fun e w'=>e=.returned (.bool (zF (-1) none (zns L)))∧Below w.heap.size w w':=by
 have hmax:=hR.max
 have hln:=hR.len
 have HL:=Hz_ hln
 have HR:=Hz_ hR
 have HD:=Hz_ fun e p k h=>zF_drop e p (zns L) k h
 have HE:=Hz_ fun e p k h=>zF_end e p (zns L) k h
 clear hR hln
 go_enter Tryz.func92,Tryz.ntmps92
 go_wp2
 go_loopw [3,8] (fun v3 v8 wr=>∃(k:Nat),k≤n∧v8=.int .i64 k∧v3=.int .i64 (aheadE (zns L) k)∧(-1≤aheadE (zns L) k∧aheadE (zns L) k≤255)∧Below w.heap.size w wr∧Hid (zF (-1) none (zns L)=zF (aheadE (zns L) k) (aheadP (zns L) k) ((zns L).drop k))) (fun _ v8 _=>n - (intOf v8).toNat)
 case atStart=>exact⟨0,by omega,rfl,by rw[aheadE_zero],by rw[aheadE_zero];omega,Below.refl _ _,by rw[aheadE_zero,aheadP_zero];rfl⟩
 case round=>
  obtain⟨k,hk,rfl,rfl,hre,hb,hr⟩:=hrel
  have hbs:=hb.size
  by_cases hlt:k < n
  ·have hkL:k < L.length:=by rw[HL.out];exact hlt
   have hkZ:k < (zns L).length:=by rw[zns_len];exact hkL
   obtain⟨b,o,rfl,hab,g0,g1,g2⟩:=(HR.out.below hb).zone hkL
   obtain⟨hvl,hRv⟩:=HR.out.each _ (List.getElem_mem hkL)
   have hd:=hr.out.trans (HD.out _ _ k hkZ)
   have he1:=aheadE_next (zns L) k hkZ
   have hp1:=aheadP_next (zns L) k hkZ
   rw[zns_at L k hkL] at hd he1 hp1
   obtain⟨p,hp⟩:∃p,p=aheadP (zns L) k:=⟨_,rfl⟩
   have HP:=Hz_ hp
   rw[←hp] at hd
   obtain⟨e,he⟩:∃e,e=aheadE (zns L) k:=⟨_,rfl⟩
   have HEE:=Hz_ he
   rw[←he] at hd hre ⊢
   generalize hq:L[k]=q at g0 g1 g2 hvl hRv hd he1 hp1
   have HQ:=Hz_ hq
   obtain⟨⟨Av,nv,cv⟩,⟨lo,hi⟩,u⟩:=q
   dsimp only at g0 g1 g2 hvl hRv hd he1 hp1
   have hst:zStep e p ((lo,hi),u)=((decide (e < lo) && (decide (lo≤hi) && decide (hi≤255))) && (fm (-1) u && !(decide (p=some u) && decide (lo=e+1)))):=rfl
   have hb1:=hb.alloc hbs (.cells #[.int .i64 lo,.int .i64 hi,.slice Av nv cv] 129)
   have hX:=Blk.new wr 129 #[.int .i64 lo,.int .i64 hi,.slice Av nv cv]
   have F:=formed_any Av nv cv u _ hvl ((hRv.below hb1).more hb1.size)
   have HB:=Hz_ hb1
   have HX:=Hz_ hX
   have HE1:=Hz_ he1
   have HP1:=Hz_ hp1
   have HVL:=Hz_ hvl
   have HRV:=Hz_ hRv
   have HST:=Hz_ hst
   have HDD:=Hz_ hd
   clear hd hst he1 hp1 hvl hRv hp he hq hX hr hb hab
   by_cases c1:lo≤e
   ·have HN:=Hz_ (show zF (-1) none (zns L)=false by rw[HDD.out,HST.out];simp[show ¬ e < lo by omega])
    go_wp2
    go_ret
    exact⟨by rw[HN.out];rfl,HB.out⟩
   ·by_cases c2:lo > hi
    ·have HN:=Hz_ (show zF (-1) none (zns L)=false by rw[HDD.out,HST.out];simp[show ¬ lo≤hi by omega])
     go_wp2
     go_ret
     exact⟨by rw[HN.out];rfl,HB.out⟩
    ·by_cases c3:hi > 255
     ·have HN:=Hz_ (show zF (-1) none (zns L)=false by rw[HDD.out,HST.out];simp[show ¬ hi≤255 by omega])
      go_wp2
      go_ret
      exact⟨by rw[HN.out];rfl,HB.out⟩
     ·rcases hf:fm (-1) u with _ | _
      ·have HN:=Hz_ (show zF (-1) none (zns L)=false by rw[HDD.out,HST.out,hf];simp)
       rw[hf] at F
       have F:=Hz_ F
       clear hf
       go_wp2_with fail
       refine F.out.mono ?_
       rintro e w1 ⟨rfl,hb1⟩
       have HB1:=Hz_ (btn HB.out hb1)
       clear hb1
       go_wp2
       go_ret
       exact⟨by rw[HN.out];rfl,HB1.out⟩
      ·rw[hf] at F
       have HSS:=Hz_ (show zStep e p ((lo,hi),u)=!(decide (p=some u) && decide (lo=e+1)) by rw[HST.out,hf,decide_eq_true (show e < lo by omega),decide_eq_true (show lo≤hi by omega),decide_eq_true (show hi≤255 by omega)];simp)
       have F:=Hz_ F
       clear hf HST
       go_wp2_with fail
       refine F.out.mono ?_
       rintro e' w1 ⟨rfl,hb1⟩
       have HB1:=Hz_ (btn HB.out hb1)
       have HX1:=Hz_ (HX.out.go hb1)
       obtain⟨x0,x1,x2⟩:=HX1.out.three
       clear hb1 HB HX F g0 g1 g2
       by_cases hk0:k=0
       ·have hpn:p=none:=by rw[HP.out,hk0,aheadP_zero]
        have HN:=Hz_ (show zF (-1) none (zns L)=zF hi (some u) ((zns L).drop (k+1)) by rw[HDD.out,HSS.out,hpn];simp)
        have dk:decide (0 < k)=false:=by simp;omega
        clear hpn hk0
        go_wp2
        go_quiet (fail)
        go_wp2
        go_roundw
        case rel=>exact⟨k+1,by omega,by go_num,by rw[HE1.out],by rw[HE1.out];omega,below_drewN HB1.out _,by show _=_;rw[HN.out,HE1.out,HP1.out]⟩
        case measure=>simp[intOf];omega
       ·obtain⟨i,rfl⟩:∃i,k=i+1:=⟨k - 1,by omega⟩
        have hiL:i < L.length:=by omega
        have dk:decide (0 < i+1)=true:=by simp
        have he2:=aheadE_next (zns L) i (by rw[zns_len];exact hiL)
        have hp2:=aheadP_next (zns L) i (by rw[zns_len];exact hiL)
        rw[zns_at L i hiL] at he2 hp2
        have w1e:IntKind.i64.wrap (e+1)=e+1:=IntWalk.i64_in _ (by omega)
        have w2e:IntKind.i64.wrap (((i+1:Nat):Int) - 1)=(i:Int):=by rw[show (((i+1:Nat):Int) - 1)=(i:Int) by omega];exact IntWalk.i64_in _ (by omega)
        have hpe:=HP.out
        rw[hp2] at hpe
        have hin:(0:Int)≤(i:Int)∧(i:Int) < (n:Int):=by omega
        by_cases c4:lo=e+1
        ·subst c4
         obtain⟨b',o',e',hbb',p0,p1,p2⟩:=(HR.out.below (btn (HB1.out) (Below.refl _ _))).zone hiL
         obtain⟨hvl2,hRv2⟩:=HR.out.each _ (List.getElem_mem hiL)
         obtain⟨rfl,rfl⟩:b=b'∧o=o':=by injection e' with e';injection e' with e1 e2;exact⟨e1,e2⟩
         generalize L[i]=q2 at p0 p1 p2 hvl2 hRv2 hpe
         obtain⟨⟨Ai,ni,ci⟩,⟨lo2,hi2⟩,u2⟩:=q2
         dsimp only at p0 p1 p2 hvl2 hRv2 hpe
         have G:=fun m=>equalSt_q Av Ai nv cv ni ci u u2 (w1.drewN m) HVL.out hvl2 (((HRV.out.below HB1.out).more HB1.out.size).drewN m) (((hRv2.below HB1.out).more HB1.out.size).drewN m)
         have HPE:=Hz_ hpe
         have e8:IntKind.i64.wrap (i:Int)=(i:Int):=IntWalk.i64_in _ (by omega)
         have e9:(((i+1:Nat):Int) - 1)=(i:Int):=by omega
         clear hpe he2 hp2 p0 p1 e' hbb' hvl2 hRv2
         by_cases c5:u=u2
         ·have HN:=Hz_ (show zF (-1) none (zns L)=false by rw[HDD.out,HSS.out,HPE.out,c5];simp)
          simp only[decide_eq_true c5] at G
          have G:=Hz_ G
          clear c5
          go_wp2
          go_quiet ((go_at_call 160;exact Calls.quiet_of (G.out _)))
          go_wp2
          go_ret
          exact⟨by rw[HN.out];rfl,below_drewN HB1.out _⟩
         ·have HN:=Hz_ (show zF (-1) none (zns L)=zF hi (some u) ((zns L).drop (i+1+1)) by rw[HDD.out,HSS.out,HPE.out,decide_eq_false (show ¬ some u2=some u from fun h=>c5 (Option.some.inj h).symm)];simp)
          simp only[decide_eq_false c5] at G
          have G:=Hz_ G
          clear c5
          go_wp2
          go_quiet ((go_at_call 160;exact Calls.quiet_of (G.out _)))
          go_wp2
          go_roundw
          case rel=>exact⟨i+1+1,by omega,by go_num,by rw[HE1.out],by rw[HE1.out];omega,below_drewN HB1.out _,by show _=_;rw[HN.out,HE1.out,HP1.out]⟩
          case measure=>simp[intOf];omega
        ·have HN:=Hz_ (show zF (-1) none (zns L)=zF hi (some u) ((zns L).drop (i+1+1)) by rw[HDD.out,HSS.out,decide_eq_false c4];simp)
         have d4:(lo == e+1)=false:=by simpa using c4
         clear hpe he2 hp2 c4
         go_wp2
         go_quiet (fail)
         go_wp2
         go_roundw
         case rel=>exact⟨i+1+1,by omega,by go_num,by rw[HE1.out],by rw[HE1.out];omega,below_drewN HB1.out _,by show _=_;rw[HN.out,HE1.out,HP1.out]⟩
         case measure=>simp[intOf];omega
  ·obtain rfl:k=n:=by omega
   have HN:=Hz_ (show zF (-1) none (zns L)=true by rw[hr.out,HE.out _ _ _ (by rw[zns_len,HL.out];exact Nat.le_refl _)])
   clear hr
   go_wp2
   go_ret
   exact⟨by rw[HN.out];rfl,hb⟩
end Go.Proofs.YtmbeahbgafkjfaaGreatDoor
