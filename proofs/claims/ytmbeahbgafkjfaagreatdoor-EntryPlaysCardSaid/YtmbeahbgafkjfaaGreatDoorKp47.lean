/- Lemmas, layer 47. -/
import Derived.Test.YtmbeahbgafkjfaaGreatDoorKp41
import Derived.Test.YtmbeahbgafkjfaaGreatDoorKp42
import Derived.Test.YtmbeahbgafkjfaaGreatDoorKp43
import Derived.Test.YtmbeahbgafkjfaaGreatDoorKp44
import Derived.Test.YtmbeahbgafkjfaaGreatDoorKp45
import Derived.Test.YtmbeahbgafkjfaaGreatDoorKp46
set_option maxRecDepth 100000
set_option linter.unusedSimpArgs false
set_option maxHeartbeats 16000000
namespace Go.Proofs.YtmbeahbgafkjfaaGreatDoor
open Go.Proofs.Tryz Go.RowKit
open Go.RowKit Wq
theorem Jcm (u:EV) (x:Qw) (L:List (ZV×Zn)) (M:List (BV×Wq.Bd)) (S:List (SV×Sb)) (w:World) (hE:QP w w.heap.size u x L M S) (hk:¬ (x.kind=1\/x.kind=2\/x.kind=3\/x.kind=4\/x.kind=5)):
  Calls prog 13 #[.agg (eval x u)] w fun e w'=>e=.returned (.bool (Xd x))/\Bz w w':=by
 have F6:=JeS x;have HWB:=Ja (fun h=>ZN (x:=x) h);have HWN:=Ja (fun h=>Zm (x:=x) h);have HWY:=Ja (fun h=>Yt (x:=x) h);have HWR:=Ja fun (W:World) (hb:Bz w W) (hk:0 < x.note.w.length)=>(hE.nt.go hb).r4.write hE.nt.l4 hk;have HL4:=Ja hE.nt.l4;clear hE;generalize Xd x=zz at F6 ⊢;generalize Jav x=zW at HWB HWN HWY;generalize hzN:Yw x.note=zN at HWY HWB;generalize hzB:XK x.body=zB;generalize hzF:Wq.bdF x.body=zF;have HOW:=Ja fun q=>(show Jbj q x.body=if q.2.2=true then zB else (zF && (decide (x.body.o=q.2.1) && decide (x.body.s=q.1))) by rw[<-hzB,<-hzF];rfl);clear hzN hzB hzF;obtain⟨k_,nt,⟨bo,⟨ba,bb⟩,bvx⟩,fr,it,⟨known,zones,held,bods,rm⟩,subs⟩:=x;obtain⟨⟨A1,n1,c1,A2,n2,c2,A3,n3,c3,A4,n4,c4⟩,bA,bc,iA,ic,⟨kA,kc,zA,zc,hA,hc,vA,vc⟩,sA,sc⟩:=u;unfold eval at  ⊢;dsimp only[List.length_nil] at F6 HWB HWN HWY HWR HL4 HOW ⊢;generalize bvx.length=nv at  ⊢;generalize it.length=ni at  ⊢;generalize known.length=nk at  ⊢;generalize zones.length=nz at  ⊢;generalize held.length=nh at  ⊢;generalize bods.length=nb at  ⊢;generalize subs.length=ns at  ⊢;replace F6:=Ja F6;have hb0:Bz w (w.alloc (.cells #[.int .i64 k_,.slice A1 n1 c1,.slice A2 n2 c2,.slice A3 n3 c3,.slice A4 n4 c4,.int .i64 bo,.int .i64 ba,.int .i64 bb,.slice bA nv bc,.int .i64 fr,.slice iA ni ic,.slice kA nk kc,.slice zA nz zc,.slice hA nh hc,.slice vA nb vc,.int .i64 rm,.slice sA ns sc] 38)):=Zr.alloc Zl _;have hX:=Jm.new w 38 #[.int .i64 k_,.slice A1 n1 c1,.slice A2 n2 c2,.slice A3 n3 c3,.slice A4 n4 c4,.int .i64 bo,.int .i64 ba,.int .i64 bb,.slice bA nv bc,.int .i64 fr,.slice iA ni ic,.slice kA nk kc,.slice zA nz zc,.slice hA nh hc,.slice vA nb vc,.int .i64 rm,.slice sA ns sc];generalize hW0:w.alloc (.cells #[.int .i64 k_,.slice A1 n1 c1,.slice A2 n2 c2,.slice A3 n3 c3,.slice A4 n4 c4,.int .i64 bo,.int .i64 ba,.int .i64 bb,.slice bA nv bc,.int .i64 fr,.slice iA ni ic,.slice kA nk kc,.slice zA nz zc,.slice hA nh hc,.slice vA nb vc,.int .i64 rm,.slice sA ns sc] 38)=W0 at hb0 hX;have HX:=Ja fun (W:World) (hb:Bz W0 W)=>(hX.go hb).c17;have HW0:=Ja hW0;have k:Bz W0 W0:=Ec _ _;have kw:Bz w W0:=hb0;have kWs:=Ja (Ra hb0);have p:=HX.out _ k;clear hX hW0 hb0;have HK9:=Ja hk;clear hk;go_enter func13,ntmps13;go_upto_region 1 with fail;rw[HW0.out];have k1:¬ k_=1:=fun h=>HK9.out (by simp[h]);have k2:¬ k_=2:=fun h=>HK9.out (by simp[h]);have k3:¬ k_=3:=fun h=>HK9.out (by simp[h]);have k4:¬ k_=4:=fun h=>HK9.out (by simp[h]);have k5:¬ k_=5:=fun h=>HK9.out (by simp[h]);have HN:=Ja (show ¬ (k_=1\/k_=2\/k_=3\/k_=4\/k_=5) by omega);have k1b:(k_ == 1)=false:=by simpa using k1
 have k2b:(k_ == 2)=false:=by simpa using k2
 have k3b:(k_ == 3)=false:=by simpa using k3
 have k4b:(k_ == 4)=false:=by simpa using k4
 have k5b:(k_ == 5)=false:=by simpa using k5
 go_wp2;go_ret;exact⟨Jn (by rw[F6.out HN.out]),kw⟩
theorem Jbh (u:EV) (x:Qw) (L:List (ZV×Zn)) (M:List (BV×Wq.Bd)) (S:List (SV×Sb)) (w:World) (hE:QP w w.heap.size u x L M S):
  Calls prog 13 #[.agg (eval x u)] w fun e w'=>e=.returned (.bool (Xd x))/\Bz w w':=by
 by_cases hk:x.kind=1\/x.kind=2\/x.kind=3\/x.kind=4\/x.kind=5
 ·rcases hk with hk | hk | hk | hk | hk
  ·exact Jc8 u x L M S w hE hk
  ·exact JcS u x L M S w hE hk
  ·cases hs:Zh x (Jbb x)
   ·exact JbY u x L M S w hE hk hs
   ·exact Jb0 u x L M S w hE hk hs
  ·exact Jdl u x L M S w hE hk
  ·exact Jdh u x L M S w hE hk
 ·exact Jcm u x L M S w hE hk
theorem Jcg (A A2:OA) (n c m c2:Nat) (l:List UInt8) (xs:List Int) (w:World) (hl:l.length=n) (hR:Rd w w.heap.size 1 A n c (bv l)) (hx:xs.length=m) (hR2:Rd w w.heap.size 1 A2 m c2 (iv xs))
  (hu:∀x∈xs,Wq.Ua x) (h0:0 < m) (hn:n+9 * m<=140737488355328):
  Calls prog 27 #[.slice A n c,.slice A2 m c2] w fun e w'=>∃v,e=.returned v/\Zw w.heap.size w (l++JP xs) v w':=by
 have hmax:m<=9223372036854775807:=by have h1:=hR2.cap;have h2:=hR2.max;unfold maxLen at h2;omega
 have HLA:=Ja (XB);have HL:=Ja hl;have HX:=Ja hx;have HU:=Ja hu;have HR:=Ja hR;clear hl hu hR;go_enter func27,ntmps27;go_wp2;go_loopw [0,6,9] (fun v0 _ v9 wr=>∃(k N c':Nat) (A':OA),v9=.int .i64 k/\v0=.slice A' N c'/\k<=m/\N<=n+9 * k/\Rd wr wr.heap.size 1 A' N c' (bv (l++JP (xs.take k)))/\Bz w wr /\
  Hid ((l++JP (xs.take k)).length=N/\(0 < k->wr.ownsRow w.heap.size 5 1 (.slice A' N c') N (bv (l++JP (xs.take k)))))) (fun _ _ v9 _=>m - (intOf v9).toNat)
 case atStart=>exact⟨0,n,c,A,rfl,rfl,by omega,by omega,by simpa[JP] using HR.out,Ec _ _,by simp[JP,HL.out],fun h=>absurd h (by omega)⟩
 case round=>
  obtain⟨k,N,c',A',rfl,rfl,hk,hN,hR1,hb,hq⟩:=hrel;have hbs:=hb.size;by_cases hlt:k < m
  ·have hkx:k < xs.length:=by rw[HX.out];exact hlt
   obtain⟨ad,u,rfl,hab,hu1,hc1⟩:=hR2.at_ hlt;rw[JnX xs k hkx] at hu1;obtain⟨y,hy⟩:∃y:Nat,xs[k]=(y:Int):=⟨xs[k].toNat,by have:=(HU.out _ (En hkx)).1;omega⟩;have hylt:y < 9223372036854775808:=by have:=(HU.out _ (En hkx)).2;omega
   have hy9:=Pk.UR hylt;have ht:=JbE xs k hkx;rw[hy,Int.toNat_natCast] at ht;have HT:=Ja ht;rw[hy] at hu1;simp only[Gg] at hu1;subst hu1;have q1:=(hb.cell (p:=ad.add k) (by rw[QK];exact hab)).trans hc1;have G:=Ja (YE A' N c' y (l++JP (xs.take k)) wr hq.out.1 hR1 (by omega) hy9);have HY9:=Ja hy9;obtain⟨ly,hly⟩:∃ly,ly=(Pk.lay y).length:=⟨_,rfl⟩;rw[<-hly] at G hy9;have HLY:=Ja hly;clear hR1 ht hy hkx hylt hly hc1 hR2;go_wp2_with fail;refine G.out.mono ?_;rintro e w2 ⟨A2,c3,rfl,ho2,hb2⟩;go_wp2;go_roundw
   case rel=>
    have e1:l++JP (xs.take (k+1))=l++JP (xs.take k)++Pk.lay y:=by rw[HT.out,Er]
    refine⟨k+1,N+ly,c3,A2,by go_num,rfl,by omega,by omega,by rw[e1];exact Rd.of_own ho2,Jg hb hb2,?_,fun _=>?_⟩
    ·rw[e1,Eb,hq.out.1,HLY.out]
    ·rw[e1];exact Jk ho2 hbs
   case measure=>simp[intOf];omega
  ·obtain rfl:k=m:=by omega
   clear hR1 hR2;go_wp2;go_ret;have e0:xs.take k=xs:=Eo (by rw[HX.out];exact Ek _);obtain⟨q1,q2⟩:=hq.out;have q3:=q2 h0;rw[e0] at q1 q3;exact⟨_,rfl,A',c',by rw[q1];rfl,by rw[q1];exact q3,hb⟩
theorem nIs {W:World} {xs:List Int} {m:Nat} (hm:xs.length=m) (h9:m<=9):Rd (W.alloc (.cells (iv xs).toArray 3)) (W.alloc (.cells (iv xs).toArray 3)).heap.size 1 (some ⟨W.heap.size,0,none⟩) m m (iv xs):=by
 rw[El];have:=Rd.new W 3 1 m (iv xs).toArray (by simp[iv,hm]) (by unfold maxLen;omega);simpa using this
theorem Jo8 {W:World} {x:Int} (_:Bz W (W.alloc (.cells #[.int .i64 x] 3))):Rd (W.alloc (.cells #[.int .i64 x] 3)) (W.alloc (.cells #[.int .i64 x] 3)).heap.size 1 (some ⟨W.heap.size,0,none⟩) 1 1 (iv [x]):=nIs (xs:=[x]) rfl (by omega)
theorem Ji0 {x:Int} (h:Wq.Ua x):∀y∈[x],Wq.Ua y:=fun y hy=>by rw[Ez] at hy;rw[hy];exact h
end Go.Proofs.YtmbeahbgafkjfaaGreatDoor
