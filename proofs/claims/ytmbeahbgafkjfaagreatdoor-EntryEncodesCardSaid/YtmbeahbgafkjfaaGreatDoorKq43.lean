/- Lemmas for the claim, layer 43. -/
import Derived.Test.YtmbeahbgafkjfaaGreatDoorKq39
import Derived.Test.YtmbeahbgafkjfaaGreatDoorKq41
set_option maxRecDepth 100000
set_option linter.unusedSimpArgs false
set_option maxHeartbeats 16000000
namespace Go.Proofs.YtmbeahbgafkjfaaGreatDoor
open Go.RowKit
theorem lNt_held (held:List Wr):Wq.lNt ⟨[],[],[],held⟩=[0,0,0]++(Pk.lay held.length++held.flatMap lHd):=by
 have e:Wq.lW held=held.flatMap lHd:=by
  unfold Wq.lW
  congr 1
  funext q
  obtain⟨⟨a,b⟩,c,g⟩:=q
  unfold Wq.lW1 lHd lI Wq.gn
  cases g<;>simp
 unfold Wq.lNt Wq.lV Wq.lS
 simp[e,layN_0,Wq.lP,Wq.gn]
theorem flat_len_le' {α:Type} (f:α→List UInt8) (m:Nat):∀(l:List α),(∀x∈l,(f x).length≤m)→(l.flatMap f).length≤m * l.length
 | [],_=>by simp
 | x :: r,h=>by
  have h1:=flat_len_le' f m r fun y hy=>h y (List.mem_cons_of_mem _ hy)
  have h2:=h x (List.mem_cons_self ..)
  rw[List.flatMap_cons,List.length_append,List.length_cons,Nat.mul_add,Nat.mul_one];omega
theorem NtRd.held {w:World} {B n c:Nat} {A:Option Addr} {l:List Wr} (hl:l.length=n) (h:Rd w B 4 A n c (wv l)):NtRd w B ⟨none,0,0,none,0,0,none,0,0,A,n,c⟩ ⟨[],[],[],l⟩:=⟨rfl,Rd.none_,rfl,Rd.none_,rfl,Rd.none_,hl,h⟩
theorem refEntView_any (u:VV) (v:Vw) (L:List (ZV×Zn)) (M:List (BV×Wq.Bd)) (w:World) (hV:VwRd w w.heap.size u v L M) (hC:Wq.VwC v)
  (h1:v.zones.length≤256) (h2:v.held.length≤256) (h3:v.bods.length≤256):
  Calls Tryz.prog 35 #[.agg (vval v u)] w fun e w'=>∃y,e=.returned y∧BytesAre w.heap.size w (lVw v) y w':=by
 obtain⟨i0,hi0,hz0,hz1,hz2⟩:=info_parts u8_info
 obtain⟨ck,cz,ch,cb,cr⟩:=hC
 obtain⟨kA,kc,zA,zc,hA,hc,vA,vc⟩:=u
 obtain⟨known,zones,held,bods,rm⟩:=v
 obtain⟨rk,rz,ez,rh,rb,eb⟩:=hV
 dsimp only at ck cz ch cb cr rk rz ez rh rb eb h1 h2 h3
 subst ez eb
 rw[zns_len] at h1 rz
 rw[bds_len] at h3 rb
 unfold vval
 dsimp only
 rw[zns_len,bds_len]
 obtain⟨room,hroom⟩:∃x:Nat,rm=(x:Int):=⟨rm.toNat,by have:=cr.1;omega⟩
 subst hroom
 have hroom:room < 9223372036854775808:=by have:=cr.2;omega
 have hlv:lVw ⟨known,zns L,held,bds M,(room:Int)⟩=Wq.lV known++(Pk.lay L.length++((zns L).flatMap lZn++((Pk.lay held.length++held.flatMap lHd)++(Pk.lay M.length++((bds M).flatMap Wq.lB++Pk.lay room))))):=by
  unfold lVw
  simp[lI,zns_len,bds_len]
 rw[hlv]
 have hb0:Below w.heap.size w (w.alloc (.cells #[.slice kA known.length kc,.slice zA L.length zc,.slice hA held.length hc,.slice vA M.length vc,.int .i64 (room:Int)] 35)):=(Below.refl _ _).alloc (Nat.le_refl _) _
 have hX:=Blk.new w 35 #[.slice kA known.length kc,.slice zA L.length zc,.slice hA held.length hc,.slice vA M.length vc,.int .i64 (room:Int)]
 generalize hW0:w.alloc (.cells #[.slice kA known.length kc,.slice zA L.length zc,.slice hA held.length hc,.slice vA M.length vc,.int .i64 (room:Int)] 35)=W0 at hb0 hX
 have hs0:W0.heap.size=w.heap.size+1:=by rw[←hW0];simp
 replace rk:=rk.go hb0
 replace rz:=rz.go hb0
 replace rh:=rh.go hb0
 replace rb:=rb.go hb0
 have HX:=Hz_ fun (W:World) (hb:Below W0.heap.size W0 W)=>(hX.go hb).five
 have G1:=fun (W:World) (hb:Below W0.heap.size W0 W)=>refVecBytes_any kA known.length kc known W rfl (rk.go hb) ck.1 ck.2
 have GNt:=fun (W:World) (hb:Below W0.heap.size W0 W)=>refNoteBytes_gen ⟨none,0,0,none,0,0,none,0,0,hA,held.length,hc⟩ ⟨[],[],[],held⟩ W (NtRd.held rfl (rh.go hb)) rfl rfl rfl (fun _ h=>by cases h) (fun _ h=>by cases h) h2 (Hz_ ch.2)
 rw[lNt_held] at GNt
 have l1:=lV_len ck.1 ck.2
 obtain⟨y1,hy1⟩:∃x,x=Wq.lV known:=⟨_,rfl⟩
 obtain⟨y2,hy2⟩:∃x,x=Pk.lay L.length:=⟨_,rfl⟩
 obtain⟨y3,hy3⟩:∃x,x=Pk.lay held.length++held.flatMap lHd:=⟨_,rfl⟩
 obtain⟨y4,hy4⟩:∃x,x=Pk.lay M.length:=⟨_,rfl⟩
 obtain⟨y5,hy5⟩:∃x,x=Pk.lay room:=⟨_,rfl⟩
 have G2:=fun W=>refBytes_any L.length W (by omega)
 have G4:=fun W=>refBytes_any M.length W (by omega)
 have G5:=fun W=>refBytes_any room W hroom
 have l2:y2.length≤9:=by rw[hy2];exact Pk.lay_len9 (by omega)
 have l4:y4.length≤9:=by rw[hy4];exact Pk.lay_len9 (by omega)
 have l5:y5.length≤9:=by rw[hy5];exact Pk.lay_len9 hroom
 have l3:y3.length≤12000:=by
  have k6:=Pk.lay_len9 (n:=held.length) (by omega)
  have k3:=flat_len_le' lHd 40 held fun x hx=>by
   obtain⟨a,b,c⟩:=ch.2 x hx
   have:=u63_len a;have:=u63_len b;have:=u63_len c;have:=u63_len (Wq.u63_g x.2.2)
   unfold lHd lI;simp only[List.length_append];omega
  rw[hy3,List.length_append];omega
 rw[←hy1] at G1 l1
 rw[←hy2] at G2
 rw[←hy3] at GNt
 rw[←hy4] at G4
 rw[←hy5] at G5
 have HE:=Hz_ (show y1++(y2++((zns L).flatMap lZn++(y3++(y4++((bds M).flatMap Wq.lB++y5)))))=y1++y2++(zns L).flatMap lZn++y3++y4++(bds M).flatMap Wq.lB++y5 by simp only[List.append_assoc])
 rw[←hy1,←hy2,←hy3,←hy4,←hy5,HE.out]
 -- the rounds
 have GZ:=Hz_ fun (W:World) (hb:Below W0.heap.size W0 W) (j:Nat) (hj:j < L.length)=>(rz.go hb).zone hj
 have GB:=Hz_ fun (W:World) (hb:Below W0.heap.size W0 W) (j:Nat) (hj:j < M.length)=>(rb.go hb).body hj
 have EZ:=Hz_ fun (W:World) (hb:Below W0.heap.size W0 W) (j:Nat) (hj:j < L.length)=>(rz.go hb).each _ (List.getElem_mem hj)
 have EB:=Hz_ fun (W:World) (hb:Below W0.heap.size W0 W) (j:Nat) (hj:j < M.length)=>(rb.go hb).each _ (List.getElem_mem hj)
 have CZ:=Hz_ fun (j:Nat) (hj:j < L.length)=>(show Wq.znC L[j].2 from cz.2 _ (List.mem_map_of_mem (List.getElem_mem hj)))
 have CB:=Hz_ fun (j:Nat) (hj:j < M.length)=>(show Wq.bdF M[j].2=true∧M[j].2.s.1 < 9223372036854775808 from cb.2 _ (List.mem_map_of_mem (List.getElem_mem hj)))
 obtain⟨b2,hb2⟩:∃x,x=y1++y2:=⟨_,rfl⟩
 obtain⟨b4,hb4⟩:∃x,x=b2++(zns L).flatMap lZn++y3++y4:=⟨_,rfl⟩
 have HB2:=Hz_ hb2
 have HB4:=Hz_ hb4
 have TZ:=Hz_ fun (j:Nat) (hj:j < L.length)=>(show b2++((zns L).take (j+1)).flatMap lZn=(b2++((zns L).take j).flatMap lZn)++Pk.lay L[j].2.1.1.toNat++Pk.lay L[j].2.1.2.toNat++Wq.lV L[j].2.2 by
  rw[flat_take _ _ j (by rw[zns_len];exact hj),zns_at L j hj];simp[lZn,lI])
 have TB:=Hz_ fun (j:Nat) (hj:j < M.length)=>(show b4++((bds M).take (j+1)).flatMap Wq.lB=(b4++((bds M).take j).flatMap Wq.lB)++Wq.lB M[j].2 by
  rw[flat_take _ _ j (by rw[bds_len];exact hj),bds_at M j hj];simp)
 have AZ:=Hz_ (show b2++((zns L).take L.length).flatMap lZn=b2++(zns L).flatMap lZn by rw[List.take_of_length_le (by rw[zns_len];exact Nat.le_refl _)])
 have AB:=Hz_ (show b4++((bds M).take M.length).flatMap Wq.lB=y1++y2++(zns L).flatMap lZn++y3++y4++(bds M).flatMap Wq.lB by rw[List.take_of_length_le (by rw[bds_len];exact Nat.le_refl _),hb4,hb2])
 obtain⟨lx1,hx1⟩:∃m,m=y1.length:=⟨_,rfl⟩
 obtain⟨lx2,hx2⟩:∃m,m=y2.length:=⟨_,rfl⟩
 obtain⟨lx3,hx3⟩:∃m,m=y3.length:=⟨_,rfl⟩
 obtain⟨lx4,hx4⟩:∃m,m=y4.length:=⟨_,rfl⟩
 obtain⟨lx5,hx5⟩:∃m,m=y5.length:=⟨_,rfl⟩
 unfold BytesAre at G1 GNt
 rw[List.length_append,List.length_cons,List.length_cons,List.length_cons,List.length_nil] at GNt
 rw[←hx1] at G1 l1
 rw[←hx2] at G2 l2
 rw[←hx3] at GNt l3
 rw[←hx4] at G4 l4
 rw[←hx5] at G5 l5
 have HLX:=Hz_ (And.intro hx1 (And.intro hx2 (And.intro hx3 (And.intro hx4 hx5))))
 have m12:lx1+lx2≤maxLen:=by unfold maxLen;omega
 clear rk rz rh rb ck cz ch cb cr hlv hX hb2 hb4 hy1 hy2 hy3 hy4 hy5 hx1 hx2 hx3 hx4 hx5
 obtain⟨n0,hn0⟩:∃m,m=0+1+1+1+lx3:=⟨_,rfl⟩
 rw[←hn0] at GNt
 have HN0:=Hz_ hn0
 clear hn0
 generalize hnk:known.length=nk at HX G1 hW0 ⊢
 obtain⟨nz,hnz⟩:∃x,x=L.length:=⟨_,rfl⟩
 obtain⟨nh,hnh⟩:∃x,x=held.length:=⟨_,rfl⟩
 obtain⟨nb,hnb⟩:∃x,x=M.length:=⟨_,rfl⟩
 rw[←hnz] at HX G2 h1 AZ hW0 ⊢
 rw[←hnh] at HX GNt h2 hW0 ⊢
 rw[←hnb] at HX G4 h3 AB hW0 ⊢
 unfold NV.val at GNt
 dsimp only at GNt
 have NZ:=Hz_ hnz
 have NB:=Hz_ hnb
 have G1:=Hz_ G1
 have G2:=Hz_ G2
 have GNt:=Hz_ GNt
 have G4:=Hz_ G4
 have G5:=Hz_ G5
 have HW0:=Hz_ hW0
 have HB:=Hz_ hb0
 have HS:=Hz_ fun (W:World) (hb:Below W0.heap.size W0 W)=>(show W.cell? ⟨w.heap.size,0,none⟩=some (.slice kA nk kc)∧W.cell? ⟨w.heap.size,1,none⟩=some (.slice zA nz zc) from ⟨(HX.out W hb).1,(HX.out W hb).2.1⟩)
 clear hb0 hW0 hnk hnz hnh hnb
 go_enter Tryz.func35,Tryz.ntmps35
 go_upto_region 1 with fail
 rw[HW0.out]
 have kw:Below W0.heap.size W0 W0.drew:=(Below.refl _ _).drew
 refine region_nrm fun KK hKK=>?_
 refine wp_region_held_drew (S:=(fun W=>W.cell? ⟨w.heap.size,0,none⟩=some (.slice kA nk kc)∧W.cell? ⟨w.heap.size,1,none⟩=some (.slice zA nz zc))) (by kernel_rfl) (by first | exact HS.out _ kw) (fun hHeld=>?_)
 refine puA 0 7 (HS.out _ kw) ?_
 refine puA 1 8 (HS.out _ kw) ?_
 refine puA 3 10 (HS.out _ kw) ?_
 refine puA 4 11 (HS.out _ kw) ?_
 refine puA 5 12 (HS.out _ kw) ?_
 refine puR 2 fun K hK=>?_
 go_simp
 refine(G1.out _ kw).mono ?_
 rintro e W1 ⟨_,rfl,D1,d1,rfl,ho1,hb'⟩
 have E:=Hz_ (own_less ho1 (show W0.heap.size≤_ from by simp))
 have kw:=btn kw hb'
 clear ho1 hb'
 refine hK.out _ _ (HS.out _ kw) fun hHeld=>?_
 clear hK K
 refine puR 6 fun K hK=>?_
 go_simp
 refine(G2.out _).mono ?_
 rintro e W2 ⟨D2,d2,rfl,ho1,hb'⟩
 have C:=Hz_ ho1
 have E:=Hz_ (own_below E.out hb' (Nat.le_refl _))
 have kw:=btn kw hb'
 clear ho1 hb'
 refine hK.out _ _ (HS.out _ kw) fun hHeld=>?_
 clear hK K
 refine puR 7 fun K hK=>?_
 rw[if_pos (by kernel_rfl)]
 refine wp_append_rd _ (.tmp 9) (.tmp 13) _ rfl W0.heap.size 5 i0 _ 1 1 Tryz.underlying29 hi0 hz0 hz1 hz2 rfl (by decide) _ lx1 (bv y1) rfl E.out _ D2 lx2 d2 (bv y2) rfl (Rd.of_own C.out) (bv_oneCell _) m12 (by omega) kw.size ?_
 intro A13 c13 V13 ho hg hat
 have kw:=kw.trans (grown_below hg kw.size (fun g hg'=>(E.out.lt g hg').1))
 have E:=Hz_ ho
 clear ho hg hat C
 refine hK.out _ _ (HS.out _ kw) fun hHeld=>?_
 clear hK K
 refine puA 8 3 (HS.out _ kw) ?_
 refine wpAnyH_done (by kernel_rfl) ?_ _
 refine Nrm.out (hKK _ _ ?_)
 clear hHeld
 obtain⟨m2,hm2⟩:∃m,m=lx1+lx2:=⟨_,rfl⟩
 rw[←hm2] at E ⊢
 have HB2L:=Hz_ (show b2.length=m2 by obtain⟨e1,e2,_⟩:=HLX.out;rw[HB2.out,List.length_append,←e1,←e2,hm2])
 have E:=Hz_ (show World.ownsRow _ W0.heap.size 5 1 (.slice A13 m2 c13) m2 (bv b2) from by have:=E.out;rw[HB2.out,bv_app];exact this)
 have m2l:m2≤1200:=by omega
 have K2:=Hz_ kw
 clear kw hm2 G1 G2
 obtain⟨q0,q1,q2,q3,q4⟩:=HX.out _ K2.out
 go_wp2_with fail
 go_loopw [3,4,5] (fun v3 v4 _ wr=>∃(j N c':Nat) (A':Option Addr),v4=.int .i64 j∧v3=.slice A' N c'∧j≤nz∧N≤1200+1200 * j∧Hid (wr.ownsRow W0.heap.size 5 1 (.slice A' N c') N (bv (b2++((zns L).take j).flatMap lZn)))∧Hid ((b2++((zns L).take j).flatMap lZn).length=N)∧Below W0.heap.size W0 wr) (fun _ v4 _ _=>nz - (intOf v4).toNat)
 case atStart=>exact⟨0,m2,c13,A13,rfl,rfl,by omega,by omega,by show World.ownsRow _ _ _ _ _ _ _;simpa using E.out,by show _=_;simp[HB2L.out],K2.out⟩
 case round=>
  obtain⟨j,N,c',A',rfl,rfl,hj,hN,ho,hq,hb⟩:=hrel
  have hbs:=hb.size
  clear q0 q1 q2 q3 q4 E
  obtain⟨q0,q1,q2,q3,q4⟩:=HX.out _ hb
  by_cases hlt:j < nz
  ·have hjl:j < L.length:=by rw[←NZ.out];exact hlt
   obtain⟨bb,oo,rfl,hbb,g0,g1,g2⟩:=GZ.out wr hb j hjl
   have ht:=TZ.out j hjl
   obtain⟨lx,hlx⟩:∃x,x=b2++((zns L).take j).flatMap lZn:=⟨_,rfl⟩
   have hlN:lx.length=N:=by rw[hlx];exact hq.out
   have E:=Hz_ (show wr.ownsRow W0.heap.size 5 1 (.slice A' N c') N (bv lx) by rw[hlx];exact ho.out)
   rw[←hlx] at ht
   have cz:=CZ.out j hjl
   have ez:=fun W hb=>EZ.out W hb j hjl
   clear hlx ho hq
   obtain⟨⟨⟨aA,an,ac⟩,⟨lo,hi⟩,vec⟩,hpx⟩:∃p,p=L[j]:=⟨_,rfl⟩
   rw[←hpx] at g0 g1 g2 cz ez ht
   clear hpx
   dsimp only at g0 g1 g2 cz ez ht
   obtain⟨⟨⟨u1,u2⟩,u3,u4⟩,v1,v2⟩:=cz
   dsimp only at u1 u2 u3 u4 v1 v2
   obtain⟨x,hx⟩:∃x:Nat,lo=(x:Int):=⟨lo.toNat,by omega⟩
   obtain⟨y,hy⟩:∃x:Nat,hi=(x:Int):=⟨hi.toNat,by omega⟩
   subst hx hy
   rw[Int.toNat_natCast,Int.toNat_natCast] at ht
   have GA:=fun W=>refBytes_any x W (by omega)
   have GC:=fun W=>refBytes_any y W (by omega)
   have GV:=fun (W:World) (hb:Below W0.heap.size W0 W)=>refVecBytes_any aA an ac vec W (ez W hb).1 (ez W hb).2 v1 v2
   have k1:=Pk.lay_len9 (n:=x) (by omega)
   have k2:=Pk.lay_len9 (n:=y) (by omega)
   have k3:=lV_len v1 v2
   obtain⟨yv,hyv⟩:∃z,z=Wq.lV vec:=⟨_,rfl⟩
   rw[←hyv] at GV ht k3
   obtain⟨lx',hlx'⟩:∃lx',lx'=(Pk.lay x).length:=⟨_,rfl⟩
   obtain⟨ly',hly'⟩:∃ly',ly'=(Pk.lay y).length:=⟨_,rfl⟩
   obtain⟨lv',hlv'⟩:∃ly',ly'=yv.length:=⟨_,rfl⟩
   unfold BytesAre at GV
   rw[←hlx'] at GA k1
   rw[←hly'] at GC k2
   rw[←hlv'] at GV k3
   have GA:=Hz_ GA
   have GC:=Hz_ GC
   have GV:=Hz_ GV
   have HT:=Hz_ ht
   have HLN:=Hz_ (And.intro hlN (And.intro hlx' (And.intro hly' hlv')))
   have hX1:=Blk.new wr 129 #[.int .i64 (x:Int),.int .i64 (y:Int),.slice aA an ac]
   have hb1:=hb.alloc hbs (.cells #[.int .i64 (x:Int),.int .i64 (y:Int),.slice aA an ac] 129)
   have E:=Hz_ (E.out.alloc (.cells #[.int .i64 (x:Int),.int .i64 (y:Int),.slice aA an ac] 129))
   generalize hV9:wr.alloc (.cells #[.int .i64 (x:Int),.int .i64 (y:Int),.slice aA an ac] 129)=V9 at hX1 hb1 E
   have HV9:=Hz_ hV9
   have E:=Hz_ (show V9.drew.ownsRow W0.heap.size 5 1 (.slice A' N c') N (bv lx) from E.out)
   have X:=Hz_ (show Blk V9.drew wr.heap.size 129 #[.int .i64 (x:Int),.int .i64 (y:Int),.slice aA an ac] from hX1.go (Below.refl _ _).drew)
   have kw:Below W0.heap.size W0 V9.drew:=hb1.drew
   have m1:N+lx'≤maxLen:=by unfold maxLen;omega
   have m2':N+lx'+ly'≤maxLen:=by unfold maxLen;omega
   have m3:N+lx'+ly'+lv'≤maxLen:=by unfold maxLen;omega
   clear hb hlx' hly' hlv' hX1 hb1 hV9 ht hlN hyv ez v1 v2 u1 u2 u3 u4
   go_upto_region 6 with fail
   rw[HV9.out]
   clear q0 q1 q2 q3 q4 g0 g1 g2
   refine region_nrm fun KK hKK=>?_
   refine wp_region_held_drew (S:=(fun W=>W.cell? ⟨wr.heap.size,0,none⟩=some (.int .i64 (x:Int))∧W.cell? ⟨wr.heap.size,1,none⟩=some (.int .i64 (y:Int))∧W.cell? ⟨wr.heap.size,2,none⟩=some (.slice aA an ac))) (by kernel_rfl) (by first | exact X.out.three) (fun hHeld=>?_)
   refine puA 0 27 (X.out.three) ?_
   refine puA 1 28 (X.out.three) ?_
   refine puA 2 29 (X.out.three) ?_
   refine puA 3 30 (X.out.three) ?_
   refine puA 6 33 (X.out.three) ?_
   refine puA 7 34 (X.out.three) ?_
   refine puA 8 35 (X.out.three) ?_
   refine puA 11 38 (X.out.three) ?_
   refine puA 12 39 (X.out.three) ?_
   refine puR 4 fun K hK=>?_
   go_simp
   refine(GA.out _).mono ?_
   rintro e W1 ⟨D1,d1,rfl,ho1,hb'⟩
   have C:=Hz_ ho1
   have E:=Hz_ (own_below E.out hb' (Nat.le_refl _))
   have X:=Hz_ (X.out.go hb')
   have kw:=btn kw hb'
   clear ho1 hb'
   refine hK.out _ _ (X.out.three) fun hHeld=>?_
   clear hK K
   refine puR 5 fun K hK=>?_
   rw[if_pos (by kernel_rfl)]
   refine wp_append_rd _ (.tmp 27) (.tmp 31) _ rfl W0.heap.size 5 i0 _ 1 1 Tryz.underlying29 hi0 hz0 hz1 hz2 rfl (by decide) _ N (bv lx) rfl E.out _ D1 lx' d1 (bv (Pk.lay x)) rfl (Rd.of_own C.out) (bv_oneCell _) m1 (by omega) kw.size ?_
   intro A31 c31 V31 ho hg hat
   have X:=Hz_ (blk_grow X.out E.out hg (by decide))
   have kw:=kw.trans (grown_below hg kw.size (fun g hg'=>(E.out.lt g hg').1))
   have E:=Hz_ ho
   clear ho hg hat C
   refine hK.out _ _ (X.out.three) fun hHeld=>?_
   clear hK K
   refine puR 9 fun K hK=>?_
   go_simp
   refine(GC.out _).mono ?_
   rintro e W2 ⟨D2,d2,rfl,ho1,hb'⟩
   have C:=Hz_ ho1
   have E:=Hz_ (own_below E.out hb' (Nat.le_refl _))
   have X:=Hz_ (X.out.go hb')
   have kw:=btn kw hb'
   clear ho1 hb'
   refine hK.out _ _ (X.out.three) fun hHeld=>?_
   clear hK K
   refine puR 10 fun K hK=>?_
   rw[if_pos (by kernel_rfl)]
   refine wp_append_rd _ (.tmp 32) (.tmp 36) _ rfl W0.heap.size 5 i0 _ 1 1 Tryz.underlying29 hi0 hz0 hz1 hz2 rfl (by decide) _ (N+lx') (bv lx++bv (Pk.lay x)) rfl E.out _ D2 ly' d2 (bv (Pk.lay y)) rfl (Rd.of_own C.out) (bv_oneCell _) m2' (by omega) kw.size ?_
   intro A36 c36 V36 ho hg hat
   have X:=Hz_ (blk_grow X.out E.out hg (by decide))
   have kw:=kw.trans (grown_below hg kw.size (fun g hg'=>(E.out.lt g hg').1))
   have E:=Hz_ ho
   clear ho hg hat C
   refine hK.out _ _ (X.out.three) fun hHeld=>?_
   clear hK K
   refine puR 13 fun K hK=>?_
   go_simp
   refine(GV.out _ kw).mono ?_
   rintro e W3 ⟨_,rfl,D3,d3,rfl,ho1,hb'⟩
   have C:=Hz_ ho1
   have E:=Hz_ (own_below E.out hb' (Nat.le_refl _))
   have X:=Hz_ (X.out.go hb')
   have kw:=btn kw hb'
   clear ho1 hb'
   refine hK.out _ _ (X.out.three) fun hHeld=>?_
   clear hK K
   refine puR 14 fun K hK=>?_
   rw[if_pos (by kernel_rfl)]
   refine wp_append_rd _ (.tmp 37) (.tmp 40) _ rfl W0.heap.size 5 i0 _ 1 1 Tryz.underlying29 hi0 hz0 hz1 hz2 rfl (by decide) _ (N+lx'+ly') (bv lx++bv (Pk.lay x)++bv (Pk.lay y)) rfl E.out _ D3 lv' d3 (bv yv) rfl (Rd.of_own C.out) (bv_oneCell _) m3 (by omega) kw.size ?_
   intro A40 c40 V40 ho hg hat
   have X:=Hz_ (blk_grow X.out E.out hg (by decide))
   have kw:=kw.trans (grown_below hg kw.size (fun g hg'=>(E.out.lt g hg').1))
   have E:=Hz_ ho
   clear ho hg hat C
   refine hK.out _ _ (X.out.three) fun hHeld=>?_
   clear hK K
   refine puA 15 3 (X.out.three) ?_
   refine wpAnyH_done (by kernel_rfl) ?_ _
   refine Nrm.out (hKK _ _ ?_)
   clear hHeld
   obtain⟨lz,hlz⟩:∃m,m=lx++Pk.lay x++Pk.lay y++yv:=⟨_,rfl⟩
   have E:=Hz_ (show World.ownsRow _ W0.heap.size 5 1 (.slice A40 (N+lx'+ly'+lv') c40) (N+lx'+ly'+lv') (bv lz) from by have:=E.out;rw[hlz,bv_app,bv_app,bv_app];exact this)
   have HLZ:=Hz_ hlz
   clear hlz GA GC GV
   go_wp2_with fail
   go_roundw
   case rel=>
    refine⟨j+1,N+lx'+ly'+lv',c40,A40,by go_num,rfl,by omega,by omega,?_,?_,kw⟩
    ·show World.ownsRow _ _ _ _ _ _ _
     rw[HT.out,←HLZ.out];exact E.out
    ·show _=_
     obtain⟨a1,a2,a3,a4⟩:=HLN.out
     rw[HT.out,List.length_append,List.length_append,List.length_append,a1,←a2,←a3,←a4]
   case measure=>simp[intOf];omega
  ·obtain rfl:nz=j:=by omega
   have q9:=hq.out
   have q3':=ho.out
   rw[AZ.out] at q9 q3'
   obtain⟨b3,hb3⟩:∃x,x=b2++(zns L).flatMap lZn:=⟨_,rfl⟩
   rw[←hb3] at q9 q3' HB4
   have E:=Hz_ q3'
   have HB3L:=Hz_ q9
   have HB3:=Hz_ hb3
   have kw:=hb
   have m4:N+lx3≤maxLen:=by unfold maxLen;omega
   have m5:N+lx3+lx4≤maxLen:=by unfold maxLen;omega
   clear q9 q3' hb3 ho hq hb
   go_wp2_with fail
   refine(GNt.out _ kw).mono ?_
   rintro e w3 ⟨_,rfl,D,d,rfl,ho1,hb'⟩
   have hRn:=Rd.of_own ho1
   have E:=Hz_ (own_below E.out hb' (Nat.le_refl _))
   have kw:=btn kw hb'
   have hsl:=fun W=>run_from (P:=Tryz.prog) W 29 5 1 Tryz.underlying29 size_u8 D n0 d .i64 3 3 rfl (by have:=HN0.out;omega)
   have hR3:=hRn.from_ (k:=3) (by have:=HN0.out;omega)
   have e3:n0 - 3=lx3:=by have:=HN0.out;omega
   rw[e3] at hsl hR3
   have C:=Hz_ (show Rd w3 w3.heap.size 1 (cutAt 1 D d 3) lx3 (d - 3) (bv y3) by
    have h:=hR3
    rw[Nat.mul_one,←bv_drop] at h
    simpa using h)
   clear ho1 hb' hRn hR3 q0 q1 q2 q3 q4
   generalize cutAt 1 D d 3=D9 at hsl C
   generalize d - 3=d9 at hsl C
   obtain⟨q0,q1,q2,q3,q4⟩:=HX.out _ kw
   go_wp2_with (at_builtin;go_must (refine wpList_append_rd _ rfl (.tmp 42) (.tmp 47) _ rfl W0.heap.size 5 i0 _ 1 1 Tryz.underlying29 hi0 hz0 hz1 hz2 rfl (by decide) _ N (bv b3) rfl E.out _ D9 lx3 d9 (bv y3) rfl C.out (bv_oneCell _) m4 (by omega) kw.size ?_);intro A47 c47 w4 ho hg hat;have kw:=kw.trans (grown_below hg kw.size (fun g hg'=>(E.out.lt g hg').1));have E:=Hz_ ho;clear ho hg hat C q0 q1 q2 q3 q4;obtain⟨q0,q1,q2,q3,q4⟩:=HX.out _ kw)
   refine(G4.out _).mono ?_
   rintro e w5 ⟨D2,d2,rfl,ho1,hb'⟩
   have C:=Hz_ (Rd.of_own ho1)
   have E:=Hz_ (own_below E.out hb' (Nat.le_refl _))
   have kw:=btn kw hb'
   clear ho1 hb' q0 q1 q2 q3 q4
   obtain⟨q0,q1,q2,q3,q4⟩:=HX.out _ kw
   go_wp2_with (at_builtin;go_must (refine wpList_append_rd _ rfl (.tmp 49) (.tmp 53) _ rfl W0.heap.size 5 i0 _ 1 1 Tryz.underlying29 hi0 hz0 hz1 hz2 rfl (by decide) _ (N+lx3) (bv b3++bv y3) rfl E.out _ D2 lx4 d2 (bv y4) rfl C.out (bv_oneCell _) m5 (by omega) kw.size ?_);intro A53 c53 w6 ho hg hat;have kw:=kw.trans (grown_below hg kw.size (fun g hg'=>(E.out.lt g hg').1));have E:=Hz_ ho;clear ho hg hat C q0 q1 q2 q3 q4;obtain⟨q0,q1,q2,q3,q4⟩:=HX.out _ kw)
   obtain⟨n4,hn4⟩:∃m,m=N+lx3+lx4:=⟨_,rfl⟩
   rw[←hn4] at E ⊢
   have n4l:n4≤330000:=by omega
   have HB4L:=Hz_ (show b4.length=n4 by obtain⟨_,_,a3,a4,_⟩:=HLX.out;rw[HB4.out,List.length_append,List.length_append,HB3L.out,←a3,←a4,hn4])
   have E:=Hz_ (show World.ownsRow _ W0.heap.size 5 1 (.slice A53 n4 c53) n4 (bv b4) from by have:=E.out;rw[HB4.out,bv_app,bv_app];exact this)
   have K2:=Hz_ kw
   clear kw hn4 G4 GNt
   go_loopw [3,6] (fun v3 v6 wr=>∃(j N c':Nat) (A':Option Addr),v6=.int .i64 j∧v3=.slice A' N c'∧j≤nb∧N≤330000+300 * j∧Hid (wr.ownsRow W0.heap.size 5 1 (.slice A' N c') N (bv (b4++((bds M).take j).flatMap Wq.lB)))∧Hid ((b4++((bds M).take j).flatMap Wq.lB).length=N)∧Below W0.heap.size W0 wr) (fun _ v6 _=>nb - (intOf v6).toNat)
   case atStart=>exact⟨0,n4,c53,A53,rfl,rfl,by omega,by omega,by show World.ownsRow _ _ _ _ _ _ _;simpa using E.out,by show _=_;simp[HB4L.out],K2.out⟩
   case round=>
    obtain⟨j,N,c',A',rfl,rfl,hj,hN,ho,hq,hb⟩:=hrel
    have hbs:=hb.size
    clear q0 q1 q2 q3 q4 E
    obtain⟨q0,q1,q2,q3,q4⟩:=HX.out _ hb
    by_cases hlt:j < nb
    ·have hjl:j < M.length:=by rw[←NB.out];exact hlt
     obtain⟨bb,oo,rfl,hbb,g0,g1,g2,g3⟩:=GB.out wr hb j hjl
     have ht:=TB.out j hjl
     obtain⟨lx,hlx⟩:∃x,x=b4++((bds M).take j).flatMap Wq.lB:=⟨_,rfl⟩
     have hlN:lx.length=N:=by rw[hlx];exact hq.out
     have E:=Hz_ (show wr.ownsRow W0.heap.size 5 1 (.slice A' N c') N (bv lx) by rw[hlx];exact ho.out)
     rw[←hlx] at ht
     have cb:=CB.out j hjl
     have eb:=fun W hb=>EB.out W hb j hjl
     clear hlx ho hq
     obtain⟨⟨⟨xA,xc⟩,⟨o_,⟨a_,b_⟩,xv⟩⟩,hpx⟩:∃p,p=M[j]:=⟨_,rfl⟩
     rw[←hpx] at g0 g1 g2 g3 cb eb ht
     clear hpx
     dsimp only at g0 g1 g2 g3 cb eb ht
     have GY:=refBodyBytes_any ⟨o_,(a_,b_),xv⟩ xA xc wr (eb wr hb) cb.1 cb.2
     have k3:=lB_len cb.1 cb.2
     unfold bval BytesAre at GY
     dsimp only at GY
     obtain⟨yv,hyv⟩:∃z,z=Wq.lB ⟨o_,(a_,b_),xv⟩:=⟨_,rfl⟩
     rw[←hyv] at GY ht k3
     obtain⟨lv',hlv'⟩:∃ly',ly'=yv.length:=⟨_,rfl⟩
     rw[←hlv'] at GY k3
     obtain⟨xn,hxn⟩:∃x,x=xv.length:=⟨_,rfl⟩
     rw[←hxn] at GY g3
     have GY:=Hz_ GY
     have HT:=Hz_ ht
     have HLN:=Hz_ (And.intro hlN hlv')
     have m9:N+lv'≤maxLen:=by unfold maxLen;omega
     have kw:=hb
     clear hlv' ht hlN hyv eb cb hxn hb
     go_wp2_with fail
     refine GY.out.mono ?_
     rintro e w7 ⟨_,rfl,D2,d2,rfl,ho1,hb'⟩
     have C:=Hz_ (Rd.of_own ho1)
     have E:=Hz_ (own_below E.out hb' (Nat.le_refl _))
     have kw:=btn kw hb'
     clear ho1 hb'
     go_wp2_with (at_builtin;go_must (refine wpList_append_rd _ rfl (.tmp 62) (.tmp 68) _ rfl W0.heap.size 5 i0 _ 1 1 Tryz.underlying29 hi0 hz0 hz1 hz2 rfl (by decide) _ N (bv lx) rfl E.out _ D2 lv' d2 (bv yv) rfl C.out (bv_oneCell _) m9 (by omega) kw.size ?_);intro A68 c68 w8 ho hg hat;have kw:=kw.trans (grown_below hg kw.size (fun g hg'=>(E.out.lt g hg').1));have E:=Hz_ ho;clear ho hg hat C)
     go_roundw
     case rel=>
      refine⟨j+1,N+lv',c68,A68,by go_num,rfl,by omega,by omega,?_,?_,kw⟩
      ·show World.ownsRow _ _ _ _ _ _ _
       rw[HT.out,bv_app];exact E.out
      ·show _=_
       obtain⟨a1,a2⟩:=HLN.out
       rw[HT.out,List.length_append,a1,←a2]
     case measure=>simp[intOf];omega
    ·obtain rfl:nb=j:=by omega
     have q9:=hq.out
     have q3':=ho.out
     rw[AB.out] at q9 q3'
     obtain⟨b6,hb6⟩:∃x,x=y1++y2++(zns L).flatMap lZn++y3++y4++(bds M).flatMap Wq.lB:=⟨_,rfl⟩
     rw[←hb6] at q9 q3'
     have H6:=Hz_ hb6
     clear hb6
     have E:=Hz_ q3'
     have HB6:=Hz_ q9
     have kw:=hb
     have m4:N+lx5≤maxLen:=by unfold maxLen;omega
     clear q9 q3' ho hq hb
     go_wp2_with fail
     refine(G5.out _).mono ?_
     rintro e w9 ⟨D2,d2,rfl,ho1,hb'⟩
     have C:=Hz_ (Rd.of_own ho1)
     have E:=Hz_ (own_below E.out hb' (Nat.le_refl _))
     have kw:=btn kw hb'
     clear ho1 hb'
     go_wp2_with (at_builtin;go_must (refine wpList_append_rd _ rfl (.tmp 70) (.tmp 73) _ rfl W0.heap.size 5 i0 _ 1 1 Tryz.underlying29 hi0 hz0 hz1 hz2 rfl (by decide) _ N (bv b6) rfl E.out _ D2 lx5 d2 (bv y5) rfl C.out (bv_oneCell _) m4 (by omega) kw.size ?_);intro A73 c73 w10 ho hg hat;have kw:=kw.trans (grown_below hg kw.size (fun g hg'=>(E.out.lt g hg').1));have E:=Hz_ ho;clear ho hg hat C)
     go_ret
     obtain⟨_,_,_,_,a5⟩:=HLX.out
     have e9:(b6++y5).length=N+lx5:=by rw[List.length_append,HB6.out,a5]
     refine⟨_,rfl,A73,c73,by rw[←H6.out,e9];rfl,by rw[←H6.out,e9,bv_app];exact own_less E.out (by omega),btn HB.out kw⟩
end Go.Proofs.YtmbeahbgafkjfaaGreatDoor
