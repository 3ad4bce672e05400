/- Lemmas for the claim, layer 37. -/
import Derived.Test.YtmbeahbgafkjfaaGreatDoorKq32
set_option maxRecDepth 100000
set_option maxHeartbeats 16000000
namespace Go.Proofs.YtmbeahbgafkjfaaGreatDoor
open Go.RowKit Wq
theorem refEntFormed_4 (u:EV) (x:Ent) (L:List (ZV×Zn)) (M:List (BV×Wq.Bd)) (S:List (SV×Sb)) (w:World) (hE:EntRd w w.heap.size u x L M S) (hk:x.kind=4):
  Calls Tryz.prog 13 #[.agg (eval x u)] w fun e w'=>e=.returned (.bool (entF x))∧Below w.heap.size w w':=by
 have G6:=fun (W:World) (hb:Below w.heap.size w W)=>refFormedS_any u.iA x.int.length u.ic x.int W rfl (hE.it.go hb)
 have S4:=fun (W:World) (hb:Below w.heap.size w W)=>refEntSame_any u ⟨⟨none,0,0,none,0,0,none,0,0,none,0,0⟩,none,0,u.iA,u.ic,⟨none,0,none,0,none,0,none,0⟩,none,0⟩ x (ent4 x) L [] M [] S [] W (hE.go hb) ⟨NtRd.none_ _ _,Rd.none_,hE.it.go hb,VwRd.none_ _ _,RdSb.none_ _ _,rfl⟩
 have F4:=entF_4 x
 have HWB:=Hz_ (fun h=>oneW_bad (x:=x) h)
 have HWN:=Hz_ (fun h=>oneW_no (x:=x) h)
 have HWY:=Hz_ (fun h=>oneW_yes (x:=x) h)
 have HWR:=Hz_ fun (W:World) (hb:Below w.heap.size w W) (hk:0 < x.note.w.length)=>(hE.nt.go hb).r4.write hE.nt.l4 hk
 have HL4:=Hz_ hE.nt.l4
 clear hE
 generalize entF x=zz at F4 ⊢
 generalize entE x (ent4 x)=s4 at S4 F4
 generalize oneW x=zW at HWB HWN HWY
 generalize Sn.fmS (-2) x.int=zI at G6 F4
 generalize hzN:ntF x.note=zN at HWY HWB
 generalize hzB:bareB x.body=zB
 generalize hzF:Wq.bdF x.body=zF
 have HOW:=Hz_ fun q=>(show ofWr q x.body=if q.2.2=true then zB else (zF && (decide (x.body.o=q.2.1) && decide (x.body.s=q.1))) by rw[←hzB,←hzF];rfl)
 clear hzN hzB hzF
 unfold ent4 at S4
 obtain⟨k_,nt,⟨bo,⟨ba,bb⟩,bvx⟩,fr,it,⟨known,zones,held,bods,rm⟩,subs⟩:=x
 obtain⟨⟨A1,n1,c1,A2,n2,c2,A3,n3,c3,A4,n4,c4⟩,bA,bc,iA,ic,⟨kA,kc,zA,zc,hA,hc,vA,vc⟩,sA,sc⟩:=u
 unfold eval at S4 ⊢
 unfold ntz bdz vw0 at S4
 dsimp only[List.length_nil] at G6 S4 F4 HWB HWN HWY HWR HL4 HOW ⊢
 generalize bvx.length=nv at S4 ⊢
 generalize it.length=ni at G6 S4 ⊢
 generalize known.length=nk at S4 ⊢
 generalize zones.length=nz at S4 ⊢
 generalize held.length=nh at S4 ⊢
 generalize bods.length=nb at S4 ⊢
 generalize subs.length=ns at S4 ⊢
 replace G6:=Hz_ G6
 replace S4:=Hz_ S4
 replace F4:=Hz_ F4
 have hb0:Below w.heap.size w (w.alloc (.cells #[.int .i64 k_,.slice A1 n1 c1,.slice A2 n2 c2,.slice A3 n3 c3,.slice A4 n4 c4,.int .i64 bo,.int .i64 ba,.int .i64 bb,.slice bA nv bc,.int .i64 fr,.slice iA ni ic,.slice kA nk kc,.slice zA nz zc,.slice hA nh hc,.slice vA nb vc,.int .i64 rm,.slice sA ns sc] 38)):=(Below.refl _ _).alloc (Nat.le_refl _) _
 have hX:=Blk.new w 38 #[.int .i64 k_,.slice A1 n1 c1,.slice A2 n2 c2,.slice A3 n3 c3,.slice A4 n4 c4,.int .i64 bo,.int .i64 ba,.int .i64 bb,.slice bA nv bc,.int .i64 fr,.slice iA ni ic,.slice kA nk kc,.slice zA nz zc,.slice hA nh hc,.slice vA nb vc,.int .i64 rm,.slice sA ns sc]
 generalize hW0:w.alloc (.cells #[.int .i64 k_,.slice A1 n1 c1,.slice A2 n2 c2,.slice A3 n3 c3,.slice A4 n4 c4,.int .i64 bo,.int .i64 ba,.int .i64 bb,.slice bA nv bc,.int .i64 fr,.slice iA ni ic,.slice kA nk kc,.slice zA nz zc,.slice hA nh hc,.slice vA nb vc,.int .i64 rm,.slice sA ns sc] 38)=W0 at hb0 hX
 have HX:=Hz_ fun (W:World) (hb:Below W0.heap.size W0 W)=>(hX.go hb).c17
 have HW0:=Hz_ hW0
 have k:Below W0.heap.size W0 W0:=Below.refl _ _
 have kw:Below w.heap.size w W0:=hb0
 have kWs:=Hz_ (Below.size hb0)
 obtain⟨p0,p1,p2,p3,p4,p5,p6,p7,p8,p9,p10,p11,p12,p13,p14,p15,p16⟩:=HX.out _ k
 clear hX hW0 hb0
 subst hk
 go_enter Tryz.func13,Tryz.ntmps13
 go_upto_region 1 with fail
 rw[HW0.out]
 by_cases f0:0≤fr
 rotate_left
 ·have F0:=Hz_ f0
  have d0:decide (fr ≥ 0)=false:=by simp;omega
  go_wp2
  go_ret
  exact⟨ret_bool (by rw[F4.out (by first | rfl | trivial),decide_eq_false (show ¬ 0≤fr by have:=F0.out;omega)];rfl),kw⟩
 have F0:=Hz_ f0
 have d0:decide (fr ≥ 0)=true:=by simp;omega
 by_cases f1:fr≤63
 rotate_left
 ·have F1:=Hz_ f1
  have d1:decide (fr≤63)=false:=by simp;omega
  go_wp2
  go_ret
  exact⟨ret_bool (by rw[F4.out (by first | rfl | trivial),decide_eq_true (show 0≤fr by have:=F0.out;omega),decide_eq_false (show ¬ fr≤63 by have:=F1.out;omega)];rfl),kw⟩
 have F1:=Hz_ f1
 have d1:decide (fr≤63)=true:=by simp;omega
 cases zI
 ·skip
  go_wp2_with (first | (go_at_call 46;go_must (refine(G6.out _ kw).mono ?_);rintro e w' ⟨rfl,hb'⟩;have k:=btn k hb';have kw:=btn kw hb';clear hb';obtain⟨p0,p1,p2,p3,p4,p5,p6,p7,p8,p9,p10,p11,p12,p13,p14,p15,p16⟩:=HX.out _ k))
  go_ret
  exact⟨ret_bool (by rw[F4.out (by first | rfl | trivial),decide_eq_true (show 0≤fr by have:=F0.out;omega),decide_eq_true (show fr≤63 by have:=F1.out;omega)];rfl),kw⟩
 cases s4
 all_goals
  go_wp2_with (first | (go_at_call 46;go_must (refine(G6.out _ kw).mono ?_);rintro e w' ⟨rfl,hb'⟩;have k:=btn k hb';have kw:=btn kw hb';clear hb';obtain⟨p0,p1,p2,p3,p4,p5,p6,p7,p8,p9,p10,p11,p12,p13,p14,p15,p16⟩:=HX.out _ k) | (go_at_call 17;go_must (refine(S4.out _ kw).mono ?_);rintro e w' ⟨rfl,hb'⟩;have k:=btn k hb';have kw:=btn kw hb';clear hb';obtain⟨p0,p1,p2,p3,p4,p5,p6,p7,p8,p9,p10,p11,p12,p13,p14,p15,p16⟩:=HX.out _ k))
  go_ret
  exact⟨ret_bool (by rw[F4.out (by first | rfl | trivial),decide_eq_true (show 0≤fr by have:=F0.out;omega),decide_eq_true (show fr≤63 by have:=F1.out;omega)];rfl),kw⟩
end Go.Proofs.YtmbeahbgafkjfaaGreatDoor
