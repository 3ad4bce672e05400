/- Lemmas for the claim, layer 38. -/
import Derived.Test.YtmbeahbgafkjfaaGreatDoorKq32
set_option maxRecDepth 100000
set_option maxHeartbeats 16000000
namespace Go.Proofs.YtmbeahbgafkjfaaGreatDoor
open Go.RowKit Wq
theorem refEntFormed_5 (u:EV) (x:Ent) (L:List (ZV×Zn)) (M:List (BV×Wq.Bd)) (S:List (SV×Sb)) (w:World) (hE:EntRd w w.heap.size u x L M S) (hk:x.kind=5):
  Calls Tryz.prog 13 #[.agg (eval x u)] w fun e w'=>e=.returned (.bool (entF x))∧Below w.heap.size w w':=by
 have G7:=fun (W:World) (hb:Below w.heap.size w W)=>ref13Formed_any u.vv x.view L M W (hE.vw.go hb)
 have G8:=fun (W:World) (hb:Below w.heap.size w W)=>ref14Rest_any u.sA x.subs.length u.sc S W (hE.sb.go hb)
 rw[hE.ns] at G8
 have S5:=fun (W:World) (hb:Below w.heap.size w W)=>refEntSame_any u ⟨⟨none,0,0,none,0,0,none,0,0,none,0,0⟩,none,0,none,0,u.vv,u.sA,u.sc⟩ x (ent5 x) L L M M S S W (hE.go hb) ⟨NtRd.none_ _ _,Rd.none_,Rd.none_,hE.vw.go hb,hE.sb.go hb,hE.ns⟩
 have F5:=entF_5 x
 have HWB:=Hz_ (fun h=>oneW_bad (x:=x) h)
 have HWN:=Hz_ (fun h=>oneW_no (x:=x) h)
 have HWY:=Hz_ (fun h=>oneW_yes (x:=x) h)
 have HWR:=Hz_ fun (W:World) (hb:Below w.heap.size w W) (hk:0 < x.note.w.length)=>(hE.nt.go hb).r4.write hE.nt.l4 hk
 have HL4:=Hz_ hE.nt.l4
 clear hE
 generalize entF x=zz at F5 ⊢
 generalize entE x (ent5 x)=s5 at S5 F5
 generalize oneW x=zW at HWB HWN HWY
 generalize vwF x.view=zV at G7 F5
 generalize restF x.subs=zR at G8 F5
 generalize hzN:ntF x.note=zN at HWY HWB
 generalize hzB:bareB x.body=zB
 generalize hzF:Wq.bdF x.body=zF
 have HOW:=Hz_ fun q=>(show ofWr q x.body=if q.2.2=true then zB else (zF && (decide (x.body.o=q.2.1) && decide (x.body.s=q.1))) by rw[←hzB,←hzF];rfl)
 clear hzN hzB hzF
 unfold ent5 at S5
 obtain⟨k_,nt,⟨bo,⟨ba,bb⟩,bvx⟩,fr,it,⟨known,zones,held,bods,rm⟩,subs⟩:=x
 obtain⟨⟨A1,n1,c1,A2,n2,c2,A3,n3,c3,A4,n4,c4⟩,bA,bc,iA,ic,⟨kA,kc,zA,zc,hA,hc,vA,vc⟩,sA,sc⟩:=u
 unfold eval at S5 ⊢
 unfold vval at G7
 unfold ntz bdz at S5
 dsimp only[List.length_nil] at G7 G8 S5 F5 HWB HWN HWY HWR HL4 HOW ⊢
 generalize bvx.length=nv at S5 ⊢
 generalize it.length=ni at S5 ⊢
 generalize known.length=nk at G7 S5 ⊢
 generalize zones.length=nz at G7 S5 ⊢
 generalize held.length=nh at G7 S5 ⊢
 generalize bods.length=nb at G7 S5 ⊢
 generalize subs.length=ns at G8 S5 ⊢
 replace G7:=Hz_ G7
 replace G8:=Hz_ G8
 replace S5:=Hz_ S5
 replace F5:=Hz_ F5
 have hb0:Below w.heap.size w (w.alloc (.cells #[.int .i64 k_,.slice A1 n1 c1,.slice A2 n2 c2,.slice A3 n3 c3,.slice A4 n4 c4,.int .i64 bo,.int .i64 ba,.int .i64 bb,.slice bA nv bc,.int .i64 fr,.slice iA ni ic,.slice kA nk kc,.slice zA nz zc,.slice hA nh hc,.slice vA nb vc,.int .i64 rm,.slice sA ns sc] 38)):=(Below.refl _ _).alloc (Nat.le_refl _) _
 have hX:=Blk.new w 38 #[.int .i64 k_,.slice A1 n1 c1,.slice A2 n2 c2,.slice A3 n3 c3,.slice A4 n4 c4,.int .i64 bo,.int .i64 ba,.int .i64 bb,.slice bA nv bc,.int .i64 fr,.slice iA ni ic,.slice kA nk kc,.slice zA nz zc,.slice hA nh hc,.slice vA nb vc,.int .i64 rm,.slice sA ns sc]
 generalize hW0:w.alloc (.cells #[.int .i64 k_,.slice A1 n1 c1,.slice A2 n2 c2,.slice A3 n3 c3,.slice A4 n4 c4,.int .i64 bo,.int .i64 ba,.int .i64 bb,.slice bA nv bc,.int .i64 fr,.slice iA ni ic,.slice kA nk kc,.slice zA nz zc,.slice hA nh hc,.slice vA nb vc,.int .i64 rm,.slice sA ns sc] 38)=W0 at hb0 hX
 have HX:=Hz_ fun (W:World) (hb:Below W0.heap.size W0 W)=>(hX.go hb).c17
 have HW0:=Hz_ hW0
 have k:Below W0.heap.size W0 W0:=Below.refl _ _
 have kw:Below w.heap.size w W0:=hb0
 have kWs:=Hz_ (Below.size hb0)
 obtain⟨p0,p1,p2,p3,p4,p5,p6,p7,p8,p9,p10,p11,p12,p13,p14,p15,p16⟩:=HX.out _ k
 clear hX hW0 hb0
 subst hk
 go_enter Tryz.func13,Tryz.ntmps13
 go_upto_region 1 with fail
 rw[HW0.out]
 cases zV
 ·skip
  go_wp2_with (first | (go_at_call 24;go_must (refine(G7.out _ kw).mono ?_);rintro e w' ⟨rfl,hb'⟩;have k:=btn k hb';have kw:=btn kw hb';clear hb';obtain⟨p0,p1,p2,p3,p4,p5,p6,p7,p8,p9,p10,p11,p12,p13,p14,p15,p16⟩:=HX.out _ k))
  go_ret
  exact⟨ret_bool (by rw[F5.out (by first | rfl | trivial)];rfl),kw⟩
 cases zR
 ·skip
  go_wp2_with (first | (go_at_call 24;go_must (refine(G7.out _ kw).mono ?_);rintro e w' ⟨rfl,hb'⟩;have k:=btn k hb';have kw:=btn kw hb';clear hb';obtain⟨p0,p1,p2,p3,p4,p5,p6,p7,p8,p9,p10,p11,p12,p13,p14,p15,p16⟩:=HX.out _ k) | (go_at_call 25;go_must (refine(G8.out _ kw).mono ?_);rintro e w' ⟨rfl,hb'⟩;have k:=btn k hb';have kw:=btn kw hb';clear hb';obtain⟨p0,p1,p2,p3,p4,p5,p6,p7,p8,p9,p10,p11,p12,p13,p14,p15,p16⟩:=HX.out _ k))
  go_ret
  exact⟨ret_bool (by rw[F5.out (by first | rfl | trivial)];rfl),kw⟩
 cases s5
 all_goals
  go_wp2_with (first | (go_at_call 24;go_must (refine(G7.out _ kw).mono ?_);rintro e w' ⟨rfl,hb'⟩;have k:=btn k hb';have kw:=btn kw hb';clear hb';obtain⟨p0,p1,p2,p3,p4,p5,p6,p7,p8,p9,p10,p11,p12,p13,p14,p15,p16⟩:=HX.out _ k) | (go_at_call 25;go_must (refine(G8.out _ kw).mono ?_);rintro e w' ⟨rfl,hb'⟩;have k:=btn k hb';have kw:=btn kw hb';clear hb';obtain⟨p0,p1,p2,p3,p4,p5,p6,p7,p8,p9,p10,p11,p12,p13,p14,p15,p16⟩:=HX.out _ k) | (go_at_call 17;go_must (refine(S5.out _ kw).mono ?_);rintro e w' ⟨rfl,hb'⟩;have k:=btn k hb';have kw:=btn kw hb';clear hb';obtain⟨p0,p1,p2,p3,p4,p5,p6,p7,p8,p9,p10,p11,p12,p13,p14,p15,p16⟩:=HX.out _ k))
  go_ret
  exact⟨ret_bool (by rw[F5.out (by first | rfl | trivial)];rfl),kw⟩
end Go.Proofs.YtmbeahbgafkjfaaGreatDoor
