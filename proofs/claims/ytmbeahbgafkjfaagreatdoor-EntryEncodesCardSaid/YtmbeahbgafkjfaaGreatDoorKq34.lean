/- Lemmas for the claim, layer 34. -/
import Derived.Test.YtmbeahbgafkjfaaGreatDoorKq32
set_option maxRecDepth 100000
set_option maxHeartbeats 16000000
namespace Go.Proofs.YtmbeahbgafkjfaaGreatDoor
open Go.RowKit Wq
theorem refEntFormed_3y (u:EV) (x:Ent) (L:List (ZV×Zn)) (M:List (BV×Wq.Bd)) (S:List (SV×Sb)) (w:World) (hE:EntRd w w.heap.size u x L M S) (hk:x.kind=3) (hs3:entE x (ent3 x)=true):
  Calls Tryz.prog 13 #[.agg (eval x u)] w fun e w'=>e=.returned (.bool (entF x))∧Below w.heap.size w w':=by
 have G1:=fun (W:World) (hb:Below w.heap.size w W)=>refNoteFormed_any u.nv x.note W (hE.nt.go hb)
 have G2:=fun (W:World) (hb:Below w.heap.size w W)=>refSameBody_any x.body bdz u.bA none u.bc 0 W (hE.bd.go hb) Rd.none_
 rw[bareB_E] at G2
 have G4:=fun (W:World)=>refBodyRight_any x.body u.bA u.bc W
 have S3:=fun (W:World) (hb:Below w.heap.size w W)=>refEntSame_any u ⟨u.nv,u.bA,u.bc,none,0,⟨none,0,none,0,none,0,none,0⟩,none,0⟩ x (ent3 x) L [] M [] S [] W (hE.go hb) ⟨hE.nt.go hb,hE.bd.go hb,Rd.none_,VwRd.none_ _ _,RdSb.none_ _ _,rfl⟩
 have F3:=entF_3b x
 have HWB:=Hz_ (fun h=>oneW_bad (x:=x) h)
 have HWN:=Hz_ (fun h=>oneW_no (x:=x) h)
 have HWY:=Hz_ (fun h=>oneW_yes (x:=x) h)
 have HWR:=Hz_ fun (W:World) (hb:Below w.heap.size w W) (hk:0 < x.note.w.length)=>(hE.nt.go hb).r4.write hE.nt.l4 hk
 have HL4:=Hz_ hE.nt.l4
 clear hE
 generalize entF x=zz at F3 ⊢
 generalize entE x (ent3 x)=s3 at S3 F3 hs3
 generalize oneW x=zW at HWB HWN HWY F3
 generalize hzN:ntF x.note=zN at G1 HWY HWB
 generalize hzB:bareB x.body=zB at G2
 generalize hzF:Wq.bdF x.body=zF at G4
 have HOW:=Hz_ fun q=>(show ofWr q x.body=if q.2.2=true then zB else (zF && (decide (x.body.o=q.2.1) && decide (x.body.s=q.1))) by rw[←hzB,←hzF];rfl)
 clear hzN hzB hzF
 unfold ent3 at S3
 obtain⟨k_,nt,⟨bo,⟨ba,bb⟩,bvx⟩,fr,it,⟨known,zones,held,bods,rm⟩,subs⟩:=x
 obtain⟨⟨A1,n1,c1,A2,n2,c2,A3,n3,c3,A4,n4,c4⟩,bA,bc,iA,ic,⟨kA,kc,zA,zc,hA,hc,vA,vc⟩,sA,sc⟩:=u
 unfold eval at S3 ⊢
 unfold bval at G2 G4
 unfold NV.val at G1
 unfold vw0 at S3
 unfold bdz at G2
 dsimp only at hk
 dsimp only[List.length_nil] at G1 G2 G4 S3 F3 HWB HWN HWY HWR HL4 HOW ⊢
 generalize bvx.length=nv at G2 G4 S3 ⊢
 generalize it.length=ni at S3 ⊢
 generalize known.length=nk at S3 ⊢
 generalize zones.length=nz at S3 ⊢
 generalize held.length=nh at S3 ⊢
 generalize bods.length=nb at S3 ⊢
 generalize subs.length=ns at S3 ⊢
 replace G1:=Hz_ G1
 replace G2:=Hz_ G2
 replace G4:=Hz_ G4
 replace S3:=Hz_ S3
 replace F3:=Hz_ F3
 have hb0:Below w.heap.size w (w.alloc (.cells #[.int .i64 k_,.slice A1 n1 c1,.slice A2 n2 c2,.slice A3 n3 c3,.slice A4 n4 c4,.int .i64 bo,.int .i64 ba,.int .i64 bb,.slice bA nv bc,.int .i64 fr,.slice iA ni ic,.slice kA nk kc,.slice zA nz zc,.slice hA nh hc,.slice vA nb vc,.int .i64 rm,.slice sA ns sc] 38)):=(Below.refl _ _).alloc (Nat.le_refl _) _
 have hX:=Blk.new w 38 #[.int .i64 k_,.slice A1 n1 c1,.slice A2 n2 c2,.slice A3 n3 c3,.slice A4 n4 c4,.int .i64 bo,.int .i64 ba,.int .i64 bb,.slice bA nv bc,.int .i64 fr,.slice iA ni ic,.slice kA nk kc,.slice zA nz zc,.slice hA nh hc,.slice vA nb vc,.int .i64 rm,.slice sA ns sc]
 generalize hW0:w.alloc (.cells #[.int .i64 k_,.slice A1 n1 c1,.slice A2 n2 c2,.slice A3 n3 c3,.slice A4 n4 c4,.int .i64 bo,.int .i64 ba,.int .i64 bb,.slice bA nv bc,.int .i64 fr,.slice iA ni ic,.slice kA nk kc,.slice zA nz zc,.slice hA nh hc,.slice vA nb vc,.int .i64 rm,.slice sA ns sc] 38)=W0 at hb0 hX
 have HX:=Hz_ fun (W:World) (hb:Below W0.heap.size W0 W)=>(hX.go hb).c17
 have HW0:=Hz_ hW0
 have k:Below W0.heap.size W0 W0:=Below.refl _ _
 have kw:Below w.heap.size w W0:=hb0
 have kWs:=Hz_ (Below.size hb0)
 obtain⟨p0,p1,p2,p3,p4,p5,p6,p7,p8,p9,p10,p11,p12,p13,p14,p15,p16⟩:=HX.out _ k
 clear hX hW0 hb0
 subst hk
 subst hs3
 go_enter Tryz.func13,Tryz.ntmps13
 go_upto_region 1 with fail
 rw[HW0.out]
 cases zN
 ·have HZ:=Hz_ (HWB.out (by first | rfl | trivial))
  go_wp2_with (first | (go_at_call 43;go_must (refine(G1.out _ kw).mono ?_);rintro e w' ⟨rfl,hb'⟩;have k:=btn k hb';have kw:=btn kw hb';clear hb';obtain⟨p0,p1,p2,p3,p4,p5,p6,p7,p8,p9,p10,p11,p12,p13,p14,p15,p16⟩:=HX.out _ k))
  go_ret
  exact⟨ret_bool (by rw[F3.out (by first | rfl | trivial),HZ.out];simp),kw⟩
 by_cases h1:n4=1
 rotate_left
 ·have h2:¬ ((n4:Nat):Int)=1:=by omega
  have h3:(((n4:Nat):Int) != 1)=true:=by rw[bne_iff_ne];omega
  have HZ:=Hz_ (HWN.out (by rw[HL4.out];exact h1))
  clear h2
  go_wp2_with (first | (go_at_call 43;go_must (refine(G1.out _ kw).mono ?_);rintro e w' ⟨rfl,hb'⟩;have k:=btn k hb';have kw:=btn kw hb';clear hb';obtain⟨p0,p1,p2,p3,p4,p5,p6,p7,p8,p9,p10,p11,p12,p13,p14,p15,p16⟩:=HX.out _ k))
  go_ret
  exact⟨ret_bool (by rw[F3.out (by first | rfl | trivial),HZ.out];simp),kw⟩
 subst h1
 obtain⟨q,hq,hz⟩:=HWY.out HL4.out
 have HOWq:=HOW.out q
 have HQ:=hq
 obtain⟨b,o,rfl,hbb,-⟩:=HWR.out _ kw (by rw[HQ];exact Nat.one_pos)
 have HXW:=Hz_ fun (V:World) (hb:Below w.heap.size w V)=>(show V.cell? ⟨b,o,none⟩=some (.int .i64 q.1.1)∧V.cell? ⟨b,o+1,none⟩=some (.int .i64 q.1.2)∧V.cell? ⟨b,o+2,none⟩=some (.int .i64 q.2.1)∧V.cell? ⟨b,o+3,none⟩=some (.bool q.2.2) from by
  have h:=held_at (HWR.out V hb (by rw[HQ];exact Nat.one_pos))
  simp only[HQ,List.getElem_cons_zero,Nat.zero_mul,Nat.add_zero] at h
  exact h)
 clear HWR hq HQ hbb
 obtain⟨⟨qa,qb⟩,qo,qg⟩:=q
 dsimp only at HXW HOWq hz
 rw[HOWq] at hz
 clear HOWq
 have HZ:=Hz_ hz
 clear hz
 go_upto_region 9 with (first | (go_at_call 43;go_must (refine(G1.out _ kw).mono ?_);rintro e w' ⟨rfl,hb'⟩;have k:=btn k hb';have kw:=btn kw hb';clear hb';obtain⟨p0,p1,p2,p3,p4,p5,p6,p7,p8,p9,p10,p11,p12,p13,p14,p15,p16⟩:=HX.out _ k) | (go_at_call 17;go_must (refine(S3.out _ kw).mono ?_);rintro e w' ⟨rfl,hb'⟩;have k:=btn k hb';have kw:=btn kw hb';clear hb';obtain⟨p0,p1,p2,p3,p4,p5,p6,p7,p8,p9,p10,p11,p12,p13,p14,p15,p16⟩:=HX.out _ k))
 obtain⟨x0,x1,x2,x3⟩:=HXW.out _ kw
 have hb9:Below w'.heap.size w' (w'.alloc (.cells #[.int .i64 qa,.int .i64 qb,.int .i64 qo,.bool qg] 70)):=(Below.refl _ _).alloc (Nat.le_refl _) _
 have hX9:=Blk.new w' 70 #[.int .i64 qa,.int .i64 qb,.int .i64 qo,.bool qg]
 have k:=btn k hb9
 have kw:=btn kw hb9
 generalize hV9:w'.alloc (.cells #[.int .i64 qa,.int .i64 qb,.int .i64 qo,.bool qg] 70)=V9 at hX9 k kw
 have HV9:=Hz_ hV9
 clear hb9 hV9
 go_upto_region 10 with fail
 rw[HV9.out]
 clear x0 x1 x2 x3
 obtain⟨p0,p1,p2,p3,p4,p5,p6,p7,p8,p9,p10,p11,p12,p13,p14,p15,p16⟩:=HX.out _ k
 have HQ:=Hz_ hX9
 obtain⟨y0,y1,y2,y3⟩:=hX9.quad
 clear hX9
 cases qg
 rotate_left
 ·cases zB
  all_goals
   go_wp2_with (first | (go_at_call 45;go_must (refine(G2.out _ kw).mono ?_);rintro e w' ⟨rfl,hb'⟩;have hb9:=hb';have k:=btn k hb';have kw:=btn kw hb';clear hb';obtain⟨p0,p1,p2,p3,p4,p5,p6,p7,p8,p9,p10,p11,p12,p13,p14,p15,p16⟩:=HX.out _ k;have HQ:=Hz_ (HQ.out.go hb9);obtain⟨y0,y1,y2,y3⟩:=HQ.out.quad;clear hb9))
   go_ret
   exact⟨ret_bool (by rw[F3.out (by first | rfl | trivial),HZ.out];rfl),kw⟩
 cases zF
 ·skip
  go_wp2_with (first | (go_at_call 44;go_must (refine(G4.out _).mono ?_);rintro e w' ⟨rfl,hb'⟩;have hb9:=hb';have k:=btn k hb';have kw:=btn kw hb';clear hb';obtain⟨p0,p1,p2,p3,p4,p5,p6,p7,p8,p9,p10,p11,p12,p13,p14,p15,p16⟩:=HX.out _ k;have HQ:=Hz_ (HQ.out.go hb9);obtain⟨y0,y1,y2,y3⟩:=HQ.out.quad;clear hb9))
  go_ret
  exact⟨ret_bool (by rw[F3.out (by first | rfl | trivial),HZ.out];rfl),kw⟩
 by_cases o0:bo=qo
 rotate_left
 ·have O0:=Hz_ o0
  go_wp2_with (first | (go_at_call 44;go_must (refine(G4.out _).mono ?_);rintro e w' ⟨rfl,hb'⟩;have hb9:=hb';have k:=btn k hb';have kw:=btn kw hb';clear hb';obtain⟨p0,p1,p2,p3,p4,p5,p6,p7,p8,p9,p10,p11,p12,p13,p14,p15,p16⟩:=HX.out _ k;have HQ:=Hz_ (HQ.out.go hb9);obtain⟨y0,y1,y2,y3⟩:=HQ.out.quad;clear hb9))
  go_ret
  exact⟨ret_bool (by rw[F3.out (by first | rfl | trivial),HZ.out];simp[O0.out]),kw⟩
 subst o0
 by_cases o1:ba=qa
 rotate_left
 ·have O1:=Hz_ o1
  go_wp2_with (first | (go_at_call 44;go_must (refine(G4.out _).mono ?_);rintro e w' ⟨rfl,hb'⟩;have hb9:=hb';have k:=btn k hb';have kw:=btn kw hb';clear hb';obtain⟨p0,p1,p2,p3,p4,p5,p6,p7,p8,p9,p10,p11,p12,p13,p14,p15,p16⟩:=HX.out _ k;have HQ:=Hz_ (HQ.out.go hb9);obtain⟨y0,y1,y2,y3⟩:=HQ.out.quad;clear hb9))
  go_ret
  exact⟨ret_bool (by rw[F3.out (by first | rfl | trivial),HZ.out];simp[O1.out]),kw⟩
 subst o1
 by_cases o2:bb=qb
 rotate_left
 ·have O2:=Hz_ o2
  go_wp2_with (first | (go_at_call 44;go_must (refine(G4.out _).mono ?_);rintro e w' ⟨rfl,hb'⟩;have hb9:=hb';have k:=btn k hb';have kw:=btn kw hb';clear hb';obtain⟨p0,p1,p2,p3,p4,p5,p6,p7,p8,p9,p10,p11,p12,p13,p14,p15,p16⟩:=HX.out _ k;have HQ:=Hz_ (HQ.out.go hb9);obtain⟨y0,y1,y2,y3⟩:=HQ.out.quad;clear hb9))
  go_ret
  exact⟨ret_bool (by rw[F3.out (by first | rfl | trivial),HZ.out];simp[O2.out]),kw⟩
 subst o2
 go_wp2_with (first | (go_at_call 44;go_must (refine(G4.out _).mono ?_);rintro e w' ⟨rfl,hb'⟩;have hb9:=hb';have k:=btn k hb';have kw:=btn kw hb';clear hb';obtain⟨p0,p1,p2,p3,p4,p5,p6,p7,p8,p9,p10,p11,p12,p13,p14,p15,p16⟩:=HX.out _ k;have HQ:=Hz_ (HQ.out.go hb9);obtain⟨y0,y1,y2,y3⟩:=HQ.out.quad;clear hb9))
 go_ret
 exact⟨ret_bool (by rw[F3.out (by first | rfl | trivial),HZ.out];simp),kw⟩
end Go.Proofs.YtmbeahbgafkjfaaGreatDoor
