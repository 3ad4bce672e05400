/- Lemmas for the claim, layer 36. -/
import Derived.Test.YtmbeahbgafkjfaaGreatDoorKq32
set_option maxRecDepth 100000
set_option maxHeartbeats 16000000
namespace Go.Proofs.YtmbeahbgafkjfaaGreatDoor
open Go.RowKit Wq
theorem refEntFormed_2 (u:EV) (x:Ent) (L:List (ZV×Zn)) (M:List (BV×Wq.Bd)) (S:List (SV×Sb)) (w:World) (hE:EntRd w w.heap.size u x L M S) (hk:x.kind=2):
  Calls Tryz.prog 13 #[.agg (eval x u)] w fun e w'=>e=.returned (.bool (entF x))∧Below w.heap.size w w':=by
 have G4:=fun (W:World)=>refBodyRight_any x.body u.bA u.bc W
 have S2:=fun (W:World) (hb:Below w.heap.size w W)=>refEntSame_any u ⟨⟨none,0,0,none,0,0,none,0,0,none,0,0⟩,u.bA,u.bc,none,0,⟨none,0,none,0,none,0,none,0⟩,none,0⟩ x (ent2 x) L [] M [] S [] W (hE.go hb) ⟨NtRd.none_ _ _,hE.bd.go hb,Rd.none_,VwRd.none_ _ _,RdSb.none_ _ _,rfl⟩
 have F2:=entF_2 x
 have HWB:=Hz_ (fun h=>oneW_bad (x:=x) h)
 have HWN:=Hz_ (fun h=>oneW_no (x:=x) h)
 have HWY:=Hz_ (fun h=>oneW_yes (x:=x) h)
 have HWR:=Hz_ fun (W:World) (hb:Below w.heap.size w W) (hk:0 < x.note.w.length)=>(hE.nt.go hb).r4.write hE.nt.l4 hk
 have HL4:=Hz_ hE.nt.l4
 clear hE
 generalize entF x=zz at F2 ⊢
 generalize entE x (ent2 x)=s2 at S2 F2
 generalize oneW x=zW at HWB HWN HWY
 generalize hzN:ntF x.note=zN at HWY HWB
 generalize hzB:bareB x.body=zB
 generalize hzF:Wq.bdF x.body=zF at G4 F2
 have HOW:=Hz_ fun q=>(show ofWr q x.body=if q.2.2=true then zB else (zF && (decide (x.body.o=q.2.1) && decide (x.body.s=q.1))) by rw[←hzB,←hzF];rfl)
 clear hzN hzB hzF
 unfold ent2 at S2
 obtain⟨k_,nt,⟨bo,⟨ba,bb⟩,bvx⟩,fr,it,⟨known,zones,held,bods,rm⟩,subs⟩:=x
 obtain⟨⟨A1,n1,c1,A2,n2,c2,A3,n3,c3,A4,n4,c4⟩,bA,bc,iA,ic,⟨kA,kc,zA,zc,hA,hc,vA,vc⟩,sA,sc⟩:=u
 unfold eval at S2 ⊢
 unfold bval at G4
 unfold ntz vw0 at S2
 dsimp only[List.length_nil] at G4 S2 F2 HWB HWN HWY HWR HL4 HOW ⊢
 generalize bvx.length=nv at G4 S2 ⊢
 generalize it.length=ni at S2 ⊢
 generalize known.length=nk at S2 ⊢
 generalize zones.length=nz at S2 ⊢
 generalize held.length=nh at S2 ⊢
 generalize bods.length=nb at S2 ⊢
 generalize subs.length=ns at S2 ⊢
 replace G4:=Hz_ G4
 replace S2:=Hz_ S2
 replace F2:=Hz_ F2
 have hb0:Below w.heap.size w (w.alloc (.cells #[.int .i64 k_,.slice A1 n1 c1,.slice A2 n2 c2,.slice A3 n3 c3,.slice A4 n4 c4,.int .i64 bo,.int .i64 ba,.int .i64 bb,.slice bA nv bc,.int .i64 fr,.slice iA ni ic,.slice kA nk kc,.slice zA nz zc,.slice hA nh hc,.slice vA nb vc,.int .i64 rm,.slice sA ns sc] 38)):=(Below.refl _ _).alloc (Nat.le_refl _) _
 have hX:=Blk.new w 38 #[.int .i64 k_,.slice A1 n1 c1,.slice A2 n2 c2,.slice A3 n3 c3,.slice A4 n4 c4,.int .i64 bo,.int .i64 ba,.int .i64 bb,.slice bA nv bc,.int .i64 fr,.slice iA ni ic,.slice kA nk kc,.slice zA nz zc,.slice hA nh hc,.slice vA nb vc,.int .i64 rm,.slice sA ns sc]
 generalize hW0:w.alloc (.cells #[.int .i64 k_,.slice A1 n1 c1,.slice A2 n2 c2,.slice A3 n3 c3,.slice A4 n4 c4,.int .i64 bo,.int .i64 ba,.int .i64 bb,.slice bA nv bc,.int .i64 fr,.slice iA ni ic,.slice kA nk kc,.slice zA nz zc,.slice hA nh hc,.slice vA nb vc,.int .i64 rm,.slice sA ns sc] 38)=W0 at hb0 hX
 have HX:=Hz_ fun (W:World) (hb:Below W0.heap.size W0 W)=>(hX.go hb).c17
 have HW0:=Hz_ hW0
 have k:Below W0.heap.size W0 W0:=Below.refl _ _
 have kw:Below w.heap.size w W0:=hb0
 have kWs:=Hz_ (Below.size hb0)
 obtain⟨p0,p1,p2,p3,p4,p5,p6,p7,p8,p9,p10,p11,p12,p13,p14,p15,p16⟩:=HX.out _ k
 clear hX hW0 hb0
 subst hk
 go_enter Tryz.func13,Tryz.ntmps13
 go_upto_region 1 with fail
 rw[HW0.out]
 cases zF
 ·skip
  go_wp2_with (first | (go_at_call 44;go_must (refine(G4.out _).mono ?_);rintro e w' ⟨rfl,hb'⟩;have k:=btn k hb';have kw:=btn kw hb';clear hb';obtain⟨p0,p1,p2,p3,p4,p5,p6,p7,p8,p9,p10,p11,p12,p13,p14,p15,p16⟩:=HX.out _ k))
  go_ret
  exact⟨ret_bool (by rw[F2.out (by first | rfl | trivial)];rfl),kw⟩
 cases s2
 all_goals
  go_wp2_with (first | (go_at_call 44;go_must (refine(G4.out _).mono ?_);rintro e w' ⟨rfl,hb'⟩;have k:=btn k hb';have kw:=btn kw hb';clear hb';obtain⟨p0,p1,p2,p3,p4,p5,p6,p7,p8,p9,p10,p11,p12,p13,p14,p15,p16⟩:=HX.out _ k) | (go_at_call 17;go_must (refine(S2.out _ kw).mono ?_);rintro e w' ⟨rfl,hb'⟩;have k:=btn k hb';have kw:=btn kw hb';clear hb';obtain⟨p0,p1,p2,p3,p4,p5,p6,p7,p8,p9,p10,p11,p12,p13,p14,p15,p16⟩:=HX.out _ k))
  go_ret
  exact⟨ret_bool (by rw[F2.out (by first | rfl | trivial)];rfl),kw⟩
end Go.Proofs.YtmbeahbgafkjfaaGreatDoor
