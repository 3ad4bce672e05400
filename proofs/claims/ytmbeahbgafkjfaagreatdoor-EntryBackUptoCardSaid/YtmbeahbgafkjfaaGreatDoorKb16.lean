/- Lemmas for the claim, layer 16. -/
import Derived.Test.YtmbeahbgafkjfaaGreatDoorKb15
set_option maxRecDepth 100000
set_option maxHeartbeats 16000000
namespace Go.Proofs.YtmbeahbgafkjfaaGreatDoor
open Go.RowKit
theorem find_drop (o:Int) (z:List Zn) (k:Nat) (h:k < z.length):(z.drop k).find? (inZ o)=if inZ o z[k]=true then some z[k] else (z.drop (k+1)).find? (inZ o):=by
 rw[List.drop_eq_getElem_cons h,List.find?_cons]
 rcases inZ o z[k] with _ | _<;>rfl
theorem inZ_no1 {o lo hi:Int} {u:List Vc.St} (h:¬ lo≤o):inZ o ((lo,hi),u)=false:=by unfold inZ;simp;omega
theorem inZ_no2 {o lo hi:Int} {u:List Vc.St} (h:¬ o≤hi):inZ o ((lo,hi),u)=false:=by unfold inZ;simp;omega
theorem inZ_yes {o lo hi:Int} {u:List Vc.St} (h:lo≤o) (h2:o≤hi):inZ o ((lo,hi),u)=true:=by unfold inZ;simp;omega
theorem dec_dropZ {L M:List Zn} {k:Nat} (h1:k < L.length) (h2:k < M.length) (he:L[k]=M[k]):decide (L.drop k=M.drop k)=decide (L.drop (k+1)=M.drop (k+1)):=by
 rw[List.drop_eq_getElem_cons h1,List.drop_eq_getElem_cons h2,he]
 exact decide_eq_decide.2 ⟨fun h=>(List.cons.inj h).2,fun h=>by rw[h]⟩
theorem refZonesSame_q (A D:Option Addr) (n c m d:Nat) (L M:List (ZV×Zn)) (w:World) (hR:RdZ w w.heap.size A n c L) (hR2:RdZ w w.heap.size D m d M):
  Calls Tryz.prog 81 #[.slice A n c,.slice D m d] w fun e w'=>e=.returned (.bool (decide (zns L=zns M)))∧∃q,w'=w.drewN q:=by
 have hmax:=hR.max
 have hln:=hR.len
 have hln2:=hR2.len
 have HL:=Hz_ hln
 have HL2:=Hz_ hln2
 have HR:=Hz_ hR
 have HR2:=Hz_ hR2
 clear hR hR2
 by_cases hnm:n=m
 ·subst hnm
  clear hln hln2
  go_enter Tryz.func81,Tryz.ntmps81
  go_wp2
  go_loopw [5] (fun i wr=>∃(k q:Nat),k≤n∧i=.int .i64 k∧Hid (decide (zns L=zns M)=decide ((zns L).drop k=(zns M).drop k))∧Hid (wr=w.drewN q)) (fun i _=>n - (intOf i).toNat)
  case atStart=>exact⟨0,0,by omega,rfl,Hz_ rfl,Hz_ rfl⟩
  case round=>
   obtain⟨k,q,hk,rfl,hdd,hq⟩:=hrel
   have hb:Below w.heap.size w wr:=by rw[hq.out];exact below_drewN (Below.refl _ _) q
   by_cases hlt:k < n
   ·have hk1:k < L.length:=by rw[HL.out];exact hlt
    have hk2:k < M.length:=by rw[HL2.out];exact hlt
    have hz1:k < (zns L).length:=by rw[zns_len];exact hk1
    have hz2:k < (zns M).length:=by rw[zns_len];exact hk2
    obtain⟨b,o,rfl,hab,g0,g1,g2⟩:=(HR.out.below hb).zone hk1
    obtain⟨b2,o2,rfl,hab2,h0,h1,h2⟩:=(HR2.out.below hb).zone hk2
    obtain⟨hvl,hRv⟩:=HR.out.each _ (List.getElem_mem hk1)
    obtain⟨hvl2,hRv2⟩:=HR2.out.each _ (List.getElem_mem hk2)
    have hN:=fun (h:L[k].2=M[k].2)=>hdd.out.trans (dec_dropZ hz1 hz2 (by rw[zns_at L k hk1,zns_at M k hk2,h]))
    have hO:=fun (h:¬ L[k].2=M[k].2)=>(show decide (zns L=zns M)=false by
     rw[decide_eq_false_iff_not];intro e;apply h
     have e1:=zns_at L k hk1
     have e2:=zns_at M k hk2
     rw[←e1,←e2]
     simp only[e])
    generalize L[k]=q1 at g0 g1 g2 hvl hRv hN hO
    generalize M[k]=q2 at h0 h1 h2 hvl2 hRv2 hN hO
    obtain⟨⟨Av,nv,cv⟩,⟨lo,hi⟩,u⟩:=q1
    obtain⟨⟨Au,nu,cu⟩,⟨lo2,hi2⟩,u2⟩:=q2
    dsimp only at g0 g1 g2 hvl hRv hN hO h0 h1 h2 hvl2 hRv2
    have HNN:=Hz_ hN
    have HOO:=Hz_ hO
    have G:=fun p=>same_q Av Au nv cv nu cu u u2 (wr.drewN p) hvl hvl2 (((hRv.below hb).more hb.size).drewN p) (((hRv2.below hb).more hb.size).drewN p)
    clear hN hO hvl hvl2 hRv hRv2 hdd hb hab hab2
    by_cases c1:lo=lo2
    ·subst c1
     by_cases c2:hi=hi2
     ·subst c2
      by_cases c3:u=u2
      ·subst c3
       have HN:=Hz_ (HNN.out rfl)
       simp only[decide_true] at G
       have G:=Hz_ G
       go_wp2
       go_quiet ((go_at_call 80;exact Calls.quiet_of (G.out _)))
       go_wp2
       go_roundw
       case rel=>exact⟨k+1,_,by omega,by go_num,HN,quiet_then hq _⟩
       case measure=>simp[intOf];omega
      ·have HN:=Hz_ (HOO.out (by simpa using c3))
       simp only[decide_eq_false c3] at G
       have G:=Hz_ G
       clear c3
       go_wp2
       go_quiet ((go_at_call 80;exact Calls.quiet_of (G.out _)))
       go_wp2
       go_ret
       exact⟨by rw[HN.out];rfl,_,(quiet_then hq _).out⟩
     ·have HN:=Hz_ (HOO.out (by intro h;injection h with h;injection h with h3 h4;exact c2 h4))
      clear G
      go_wp2
      go_quiet (fail)
      go_wp2
      go_ret
      exact⟨by rw[HN.out];rfl,_,(quiet_then hq _).out⟩
    ·have HN:=Hz_ (HOO.out (by intro h;injection h with h;injection h with h3 h4;exact c1 h3))
     clear G
     go_wp2
     go_quiet (fail)
     go_wp2
     go_ret
     exact⟨by rw[HN.out];rfl,_,(quiet_then hq _).out⟩
   ·obtain rfl:k=n:=by omega
    have HX:=Hz_ (show decide (zns L=zns M)=true by rw[hdd.out,List.drop_of_length_le (by rw[zns_len,HL.out];exact Nat.le_refl _),List.drop_of_length_le (by rw[zns_len,HL2.out];exact Nat.le_refl _)];simp)
    clear hdd
    go_wp2
    go_ret
    exact⟨by rw[HX.out];rfl,q,hq.out⟩
 ·have HN:=Hz_ (show decide (zns L=zns M)=false by
   rw[decide_eq_false_iff_not];intro h
   have:=congrArg List.length h
   rw[zns_len,zns_len] at this
   omega)
  have hne:¬ ((n:Int)=(m:Int)):=by omega
  clear hln hln2
  go_enter Tryz.func81,Tryz.ntmps81
  go_wp2
  go_ret
  exact⟨by rw[HN.out];rfl,0,rfl⟩
theorem zone_info:(Tryz.prog.info? 129).map (fun i=>(i.zero,i.size,i.bytes))=some (some (.agg #[.int .i64 0,.int .i64 0,.slice none 0 0]),3,40):=by kernel_rfl
structure OwnZ (w:World) (base:Nat) (A:Option Addr) (k c:Nat) (L:List (ZV×Zn)):Prop where
 row:w.ownsRow base 129 3 (.slice A k c) k (zvv L)
 el:∀p∈L,p.2.2.length=p.1.n∧w.ownsRow base 28 2 (.slice p.1.A p.1.n p.1.c) p.1.n (sv p.2.2)
theorem OwnZ.nil (w:World) (base:Nat):OwnZ w base none 0 0 []:=⟨World.ownsRow_nil _ _ _ _,by simp⟩
theorem OwnZ.below {w w':World} {base:Nat} {A:Option Addr} {k c:Nat} {L:List (ZV×Zn)} (h:OwnZ w base A k c L) (hb:Below w.heap.size w w'):OwnZ w' base A k c L:=
 ⟨own_below h.row hb (Nat.le_refl _),fun p hp=>⟨(h.el p hp).1,own_below (h.el p hp).2 hb (Nat.le_refl _)⟩⟩
theorem OwnZ.less {w:World} {base base':Nat} {A:Option Addr} {k c:Nat} {L:List (ZV×Zn)} (h:OwnZ w base A k c L) (hb:base'≤base):OwnZ w base' A k c L:=
 ⟨own_less h.row hb,fun p hp=>⟨(h.el p hp).1,own_less (h.el p hp).2 hb⟩⟩
theorem OwnZ.push {w w':World} {base:Nat} {A A':Option Addr} {k c c':Nat} {L:List (ZV×Zn)} {p:ZV×Zn} (h:OwnZ w base A k c L) (hp:p.2.2.length=p.1.n∧w.ownsRow base 28 2 (.slice p.1.A p.1.n p.1.c) p.1.n (sv p.2.2))
  (hg:w.grownBy w' (Value.slice A k c).ownBlock) (ho:w'.ownsRow base 129 3 (.slice A' (k+1) c') (k+1) (zvv L++zvl p)):OwnZ w' base A' (k+1) c' (L++[p]):=by
 refine⟨by rw[zvv_app];simpa[zvv] using ho,fun z hz=>?_⟩
 rcases List.mem_append.1 hz with hz | hz
 ·exact⟨(h.el z hz).1,(h.el z hz).2.kept hg (own_two (h.el z hz).2 h.row (by decide))⟩
 ·obtain rfl:z=p:=by simpa using hz
  exact⟨hp.1,hp.2.kept hg (own_two hp.2 h.row (by decide))⟩
theorem OwnZ.len {w:World} {base:Nat} {A:Option Addr} {k c:Nat} {L:List (ZV×Zn)} (h:OwnZ w base A k c L):L.length=k:=by
 have:=h.row.1
 rw[zvv_len] at this
 omega
theorem OwnZ.rd {w:World} {base:Nat} {A:Option Addr} {k c:Nat} {L:List (ZV×Zn)} (h:OwnZ w base A k c L):RdZ w w.heap.size A k c L:=
 ⟨h.len,Rd.of_own h.row,fun p hp=>⟨(h.el p hp).1,Rd.of_own (h.el p hp).2⟩⟩
structure ZnSz (n:Nat) (L:List (ZV×Zn)):Prop where
 n:n≤3518437208883
 each:∀p∈L,p.1.n≤8796093022208
end Go.Proofs.YtmbeahbgafkjfaaGreatDoor
