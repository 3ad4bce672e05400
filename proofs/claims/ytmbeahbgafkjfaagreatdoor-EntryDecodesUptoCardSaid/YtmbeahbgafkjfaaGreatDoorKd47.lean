/- Lemmas for the claim, layer 47. -/
import Derived.Test.YtmbeahbgafkjfaaGreatDoorKd41
import Derived.Test.YtmbeahbgafkjfaaGreatDoorKd42
import Derived.Test.YtmbeahbgafkjfaaGreatDoorKd43
import Derived.Test.YtmbeahbgafkjfaaGreatDoorKd44
import Derived.Test.YtmbeahbgafkjfaaGreatDoorKd45
import Derived.Test.YtmbeahbgafkjfaaGreatDoorKd46
set_option maxRecDepth 100000
set_option maxHeartbeats 16000000
namespace Go.Proofs.YtmbeahbgafkjfaaGreatDoor
open Go.RowKit Wq
theorem refEntFormed_6 (u:EV) (x:Ent) (L:List (ZV×Zn)) (M:List (BV×Wq.Bd)) (S:List (SV×Sb)) (w:World) (hE:EntRd w w.heap.size u x L M S) (hk:¬ (x.kind=1∨x.kind=2∨x.kind=3∨x.kind=4∨x.kind=5)):
  Calls Tryz.prog 13 #[.agg (eval x u)] w fun e w'=>e=.returned (.bool (entF x))∧Below w.heap.size w w':=by
 have F6:=entF_no x
 have HWB:=Hz_ (fun h=>oneW_bad (x:=x) h)
 have HWN:=Hz_ (fun h=>oneW_no (x:=x) h)
 have HWY:=Hz_ (fun h=>oneW_yes (x:=x) h)
 have HWR:=Hz_ fun (W:World) (hb:Below w.heap.size w W) (hk:0 < x.note.w.length)=>(hE.nt.go hb).r4.write hE.nt.l4 hk
 have HL4:=Hz_ hE.nt.l4
 clear hE
 generalize entF x=zz at F6 ⊢
 generalize oneW x=zW at HWB HWN HWY
 generalize hzN:ntF x.note=zN at HWY HWB
 generalize hzB:bareB x.body=zB
 generalize hzF:Wq.bdF x.body=zF
 have HOW:=Hz_ fun q=>(show ofWr q x.body=if q.2.2=true then zB else (zF && (decide (x.body.o=q.2.1) && decide (x.body.s=q.1))) by rw[←hzB,←hzF];rfl)
 clear hzN hzB hzF
 obtain⟨k_,nt,⟨bo,⟨ba,bb⟩,bvx⟩,fr,it,⟨known,zones,held,bods,rm⟩,subs⟩:=x
 obtain⟨⟨A1,n1,c1,A2,n2,c2,A3,n3,c3,A4,n4,c4⟩,bA,bc,iA,ic,⟨kA,kc,zA,zc,hA,hc,vA,vc⟩,sA,sc⟩:=u
 unfold eval at  ⊢
 dsimp only[List.length_nil] at F6 HWB HWN HWY HWR HL4 HOW ⊢
 generalize bvx.length=nv at  ⊢
 generalize it.length=ni at  ⊢
 generalize known.length=nk at  ⊢
 generalize zones.length=nz at  ⊢
 generalize held.length=nh at  ⊢
 generalize bods.length=nb at  ⊢
 generalize subs.length=ns at  ⊢
 replace F6:=Hz_ F6
 have hb0:Below w.heap.size w (w.alloc (.cells #[.int .i64 k_,.slice A1 n1 c1,.slice A2 n2 c2,.slice A3 n3 c3,.slice A4 n4 c4,.int .i64 bo,.int .i64 ba,.int .i64 bb,.slice bA nv bc,.int .i64 fr,.slice iA ni ic,.slice kA nk kc,.slice zA nz zc,.slice hA nh hc,.slice vA nb vc,.int .i64 rm,.slice sA ns sc] 38)):=(Below.refl _ _).alloc (Nat.le_refl _) _
 have hX:=Blk.new w 38 #[.int .i64 k_,.slice A1 n1 c1,.slice A2 n2 c2,.slice A3 n3 c3,.slice A4 n4 c4,.int .i64 bo,.int .i64 ba,.int .i64 bb,.slice bA nv bc,.int .i64 fr,.slice iA ni ic,.slice kA nk kc,.slice zA nz zc,.slice hA nh hc,.slice vA nb vc,.int .i64 rm,.slice sA ns sc]
 generalize hW0:w.alloc (.cells #[.int .i64 k_,.slice A1 n1 c1,.slice A2 n2 c2,.slice A3 n3 c3,.slice A4 n4 c4,.int .i64 bo,.int .i64 ba,.int .i64 bb,.slice bA nv bc,.int .i64 fr,.slice iA ni ic,.slice kA nk kc,.slice zA nz zc,.slice hA nh hc,.slice vA nb vc,.int .i64 rm,.slice sA ns sc] 38)=W0 at hb0 hX
 have HX:=Hz_ fun (W:World) (hb:Below W0.heap.size W0 W)=>(hX.go hb).c17
 have HW0:=Hz_ hW0
 have k:Below W0.heap.size W0 W0:=Below.refl _ _
 have kw:Below w.heap.size w W0:=hb0
 have kWs:=Hz_ (Below.size hb0)
 obtain⟨p0,p1,p2,p3,p4,p5,p6,p7,p8,p9,p10,p11,p12,p13,p14,p15,p16⟩:=HX.out _ k
 clear hX hW0 hb0
 have HK9:=Hz_ hk
 clear hk
 go_enter Tryz.func13,Tryz.ntmps13
 go_upto_region 1 with fail
 rw[HW0.out]
 have k1:¬ k_=1:=fun h=>HK9.out (by simp[h])
 have k2:¬ k_=2:=fun h=>HK9.out (by simp[h])
 have k3:¬ k_=3:=fun h=>HK9.out (by simp[h])
 have k4:¬ k_=4:=fun h=>HK9.out (by simp[h])
 have k5:¬ k_=5:=fun h=>HK9.out (by simp[h])
 have HN:=Hz_ (show ¬ (k_=1∨k_=2∨k_=3∨k_=4∨k_=5) by omega)
 have k1b:(k_ == 1)=false:=by simpa using k1
 have k2b:(k_ == 2)=false:=by simpa using k2
 have k3b:(k_ == 3)=false:=by simpa using k3
 have k4b:(k_ == 4)=false:=by simpa using k4
 have k5b:(k_ == 5)=false:=by simpa using k5
 go_wp2
 go_ret
 exact⟨ret_bool (by rw[F6.out HN.out]),kw⟩
theorem refEntFormed_any (u:EV) (x:Ent) (L:List (ZV×Zn)) (M:List (BV×Wq.Bd)) (S:List (SV×Sb)) (w:World) (hE:EntRd w w.heap.size u x L M S):
  Calls Tryz.prog 13 #[.agg (eval x u)] w fun e w'=>e=.returned (.bool (entF x))∧Below w.heap.size w w':=by
 by_cases hk:x.kind=1∨x.kind=2∨x.kind=3∨x.kind=4∨x.kind=5
 ·rcases hk with hk | hk | hk | hk | hk
  ·exact refEntFormed_1 u x L M S w hE hk
  ·exact refEntFormed_2 u x L M S w hE hk
  ·cases hs:entE x (ent3 x)
   ·exact refEntFormed_3n u x L M S w hE hk hs
   ·exact refEntFormed_3y u x L M S w hE hk hs
  ·exact refEntFormed_4 u x L M S w hE hk
  ·exact refEntFormed_5 u x L M S w hE hk
 ·exact refEntFormed_6 u x L M S w hE hk
end Go.Proofs.YtmbeahbgafkjfaaGreatDoor
