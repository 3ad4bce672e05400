/- Lemmas, layer 32. -/
import Derived.Test.YtmbeahbgafkjfaaGreatDoorKp25
set_option linter.unusedSimpArgs false
set_option maxRecDepth 100000
set_option maxHeartbeats 16000000
namespace Go.Proofs.YtmbeahbgafkjfaaGreatDoor
open Go.Proofs.Tryz Go.RowKit
def XW (k:Int) (zN zB zE zF nS nC zI zV zR zW:Bool) (fr:Int):Bool:=
 if k=1 then zN && (zB && (nS && nC))
 else if k=2 then zE && (zF && (nS && nC))
 else if k=3 then (nS && nC) && zW
 else if k=4 then (zE && (zB && nC)) && ((decide (0<=fr) && decide (fr<=63)) && zI)
 else if k=5 then (zE && (zB && nS)) && (zV && zR)
 else false
def Jav (x:Qw):Bool:=match x.note.w with
 | [w]=>Yw x.note && Jbj w x.body
 | _=>false
theorem JoF (x:Qw):Xd x=XW x.kind (Yw x.note) (XK x.body) (Ya x.note) (Wq.bdF x.body) (ZE x) (ZB x) (Sn.Xp (-2) x.int) (Ut x.view) (Qy x.subs) (Jav x) x.from_:=rfl
theorem Zm {x:Qw} (h:¬ x.note.w.length=1):Jav x=false:=by
 unfold Jav;rcases hw:x.note.w with _ | ⟨a,_ | ⟨b,r⟩⟩
 ·rfl
 ·rw[hw] at h;exact absurd rfl h
 ·rfl
theorem Yt {x:Qw} (h:x.note.w.length=1):∃q,x.note.w=[q]/\Jav x=(Yw x.note && Jbj q x.body):=by
 unfold Jav;rcases hw:x.note.w with _ | ⟨a,_ | ⟨b,r⟩⟩
 ·rw[hw] at h;cases h
 ·exact⟨a,rfl,rfl⟩
 ·rw[hw] at h;cases h
theorem Kh (u:EV) (x:Qw) (L:List (ZV×Zn)) (M:List (BV×Wq.Bd)) (S:List (SV×Sb)) (w:World) (hT:UW w) (hE:QP w w.heap.size u x L M S) (hc:x.body.s.1 < 9223372036854775808)
  (hs1:u.nv.n1+u.nv.n2+u.nv.n3+u.nv.n4<=9223372036854775807) (hs2:x.view.known.length+x.view.zones.length+x.view.held.length+x.view.bods.length<=9223372036854775807):
  Calls prog 12 #[.agg (eval x u)] w fun e w'=>e=.returned (.bool (Xd x))/\Bz w w':=by
 rw[JoF];have G1:=fun (W:World) (hb:Bz w W)=>UK u.nv x.note W (hT.below hb) (hE.nt.go hb);have G2:=fun (W:World)=>Jg7 x.body u.bA u.bc W;have G3:=fun (W:World)=>Je8 u.nv x.note W hE.nt.l1 hE.nt.l2 hE.nt.l3 hE.nt.l4 hs1;have G4:=fun (W:World) (hb:Bz w W)=>Jgm x.body u.bA u.bc W (hE.bd.go hb) hc;have G5:=fun (W:World)=>JeB u.vv x.view W hs2;have G6:=fun (W:World) (hb:Bz w W)=>YX u.iA x.int.length u.ic x.int W rfl (hE.it.go hb);have G7:=fun (W:World) (hb:Bz w W)=>Yi u.vv x.view L M W (hT.below hb) (hE.vw.go hb);have G8:=fun (W:World) (hb:Bz w W)=>JbU u.sA x.subs.length u.sc S W (hE.sb.go hb);rw[hE.ns] at G8;have HWN:=Ja (fun h=>Zm (x:=x) h);have HWY:=Ja (fun h=>Yt (x:=x) h);have HWR:=Ja fun (W:World) (hb:Bz w W) (hk:0 < x.note.w.length)=>(hE.nt.go hb).r4.write hE.nt.l4 hk;have HL4:=Ja hE.nt.l4;have hnS:ZE x=(decide (x.from_=0) && decide (x.int.length=0)):=by unfold ZE;rw[QX]
 have hnC:ZB x=(UT x.view && decide (x.subs.length=0)):=by unfold ZB;rw[QX]
 clear hE hT hs1 hs2 hc;rw[hnS,hnC];clear hnS hnC;generalize hzW:Jav x=zW at HWN HWY ⊢;clear hzW;generalize Sn.Xp (-2) x.int=zI at G6 ⊢;generalize Ut x.view=zV at G7 ⊢;generalize Qy x.subs=zR at G8 ⊢;generalize UT x.view=zK at G5 ⊢;generalize Ya x.note=zE at G3 ⊢;generalize hzN:Yw x.note=zN at G1 HWY ⊢;generalize hzB:XK x.body=zB at G2 ⊢;generalize hzF:Wq.bdF x.body=zF at G4 ⊢;have HOW:=Ja fun q=>(show Jbj q x.body=if q.2.2=true then zB else (zF && (decide (x.body.o=q.2.1) && decide (x.body.s=q.1))) by rw[<-hzB,<-hzF];rfl);clear hzN hzB hzF;obtain⟨k_,nt,⟨bo,⟨ba,bb⟩,bvx⟩,fr,it,⟨known,zones,held,bods,rm⟩,subs⟩:=x;obtain⟨⟨A1,n1,c1,A2,n2,c2,A3,n3,c3,A4,n4,c4⟩,bA,bc,iA,ic,⟨kA,kc,zA,zc,hA,hc,vA,vc⟩,sA,sc⟩:=u;unfold eval;unfold JO at G2 G4;unfold Jy at G5 G7;unfold NV.val at G1 G3;dsimp only at G1 G2 G3 G4 G5 G6 G7 G8 HWN HWY HWR HL4 HOW ⊢;generalize hnv:bvx.length=nv at G2 G4 ⊢;generalize it.length=ni at G6 ⊢;generalize known.length=nk at G5 G7 ⊢;generalize zones.length=nz at G5 G7 ⊢;generalize held.length=nh at G5 G7 ⊢;generalize bods.length=nb at G5 G7 ⊢;generalize subs.length=ns at G8 ⊢;have G1:=Ja G1;have G2:=Ja G2;have G3:=Ja G3;have G4:=Ja G4;have G5:=Ja G5;have G6:=Ja G6;have G7:=Ja G7;have G8:=Ja G8;have HNV:=Ja hnv;clear hnv;have hb0:Bz w (w.alloc (.cells #[.int .i64 k_,.slice A1 n1 c1,.slice A2 n2 c2,.slice A3 n3 c3,.slice A4 n4 c4,.int .i64 bo,.int .i64 ba,.int .i64 bb,.slice bA nv bc,.int .i64 fr,.slice iA ni ic,.slice kA nk kc,.slice zA nz zc,.slice hA nh hc,.slice vA nb vc,.int .i64 rm,.slice sA ns sc] 38)):=Zr.alloc Zl _;have hX:=Jm.new w 38 #[.int .i64 k_,.slice A1 n1 c1,.slice A2 n2 c2,.slice A3 n3 c3,.slice A4 n4 c4,.int .i64 bo,.int .i64 ba,.int .i64 bb,.slice bA nv bc,.int .i64 fr,.slice iA ni ic,.slice kA nk kc,.slice zA nz zc,.slice hA nh hc,.slice vA nb vc,.int .i64 rm,.slice sA ns sc];generalize hW0:w.alloc (.cells #[.int .i64 k_,.slice A1 n1 c1,.slice A2 n2 c2,.slice A3 n3 c3,.slice A4 n4 c4,.int .i64 bo,.int .i64 ba,.int .i64 bb,.slice bA nv bc,.int .i64 fr,.slice iA ni ic,.slice kA nk kc,.slice zA nz zc,.slice hA nh hc,.slice vA nb vc,.int .i64 rm,.slice sA ns sc] 38)=W0 at hb0 hX;have HX:=Ja fun (W:World) (hb:Bz W0 W)=>(hX.go hb).c17;have HW0:=Ja hW0;have k:Bz W0 W0:=Ec _ _;have kw:Bz w W0:=hb0;have p:=HX.out _ k;clear hX hW0 hb0;go_enter func12,ntmps12;go_upto_region 1 with fail;rw[HW0.out];obtain⟨nS,hnS⟩:∃z,z=(decide (fr=0) && decide (ni=0)):=⟨_,rfl⟩;have HNS:=Ja hnS;clear hnS;go_cut [3] (fun v3 wx=>v3=.bool (!nS)/\W0=wx)
 case first=>
  by_cases e1:fr=0
  ·subst e1;by_cases e2:ni=0
   ·subst e2;go_wp2_with fail;go_meet;exact⟨congrArg Value.bool (by rw[HNS.out];rfl),rfl⟩
   ·have e3:decide ((ni:Int) > 0)=true:=by simp;omega
    go_wp2_with fail;go_meet;exact⟨congrArg Value.bool (by rw[HNS.out,Ew e2];simp;try omega),rfl⟩
  ·have e3:(fr != 0)=true:=by simpa using e1
   go_wp2_with fail;go_meet;exact⟨congrArg Value.bool (by rw[HNS.out];simp[e1]),rfl⟩
 case rest=>
 obtain⟨rfl,rfl⟩:=hcut;go_upto_region 2 with fail;obtain⟨nC,hnC⟩:∃z,z=(zK && decide (ns=0)):=⟨_,rfl⟩;have HNC:=Ja hnC;clear hnC;go_cut [4] (fun v4 wx=>v4=.bool (!nC)/\Hid (Bz W0 wx))
 case first=>
  cases zK
  ·go_wp2_with (go_at_call 36;go_must (refine Jd (G5.out _) fun w' hb'=>?_);have k:=Jg k hb';have p:=HX.out _ k);go_meet;exact⟨congrArg Value.bool (by rw[HNC.out];rfl),Ja k⟩
  ·by_cases e2:ns=0
   ·subst e2;go_wp2_with (go_at_call 36;go_must (refine Jd (G5.out _) fun w' hb'=>?_);have k:=Jg k hb';have p:=HX.out _ k);go_meet;exact⟨congrArg Value.bool (by rw[HNC.out];rfl),Ja k⟩
   ·have e3:decide ((ns:Int) > 0)=true:=by simp;omega
    go_wp2_with (go_at_call 36;go_must (refine Jd (G5.out _) fun w' hb'=>?_);have k:=Jg k hb';have p:=HX.out _ k);go_meet;exact⟨congrArg Value.bool (by rw[HNC.out,Ew e2];simp;try omega),Ja k⟩
 case rest=>
 obtain⟨rfl,hk⟩:=hcut;have kw:=Jg kw hk.out;have k:=hk.out;have p:=HX.out _ k;by_cases k1:k_=1
 ·subst k1;cases zN
  ·skip;go_wp2_with (first | (go_at_call 37;go_must (refine Jj (G1.out _ kw) k kw fun w' k kw=>?_);have p:=HX.out _ k));go_ret;exact⟨Jn (by rw[<-HNS.out,<-HNC.out];simp[XW]),kw⟩
  cases zB
  ·skip;go_wp2_with (first | (go_at_call 37;go_must (refine Jj (G1.out _ kw) k kw fun w' k kw=>?_);have p:=HX.out _ k) | (go_at_call 38;go_must (refine Jj (G2.out _) k kw fun w' k kw=>?_);have p:=HX.out _ k));go_ret;exact⟨Jn (by rw[<-HNS.out,<-HNC.out];simp[XW]),kw⟩
  cases nS
  ·skip;go_wp2_with (first | (go_at_call 37;go_must (refine Jj (G1.out _ kw) k kw fun w' k kw=>?_);have p:=HX.out _ k) | (go_at_call 38;go_must (refine Jj (G2.out _) k kw fun w' k kw=>?_);have p:=HX.out _ k));go_ret;exact⟨Jn (by rw[<-HNS.out,<-HNC.out];simp[XW]),kw⟩
  cases nC
  all_goals
   go_wp2_with (first | (go_at_call 37;go_must (refine Jj (G1.out _ kw) k kw fun w' k kw=>?_);have p:=HX.out _ k) | (go_at_call 38;go_must (refine Jj (G2.out _) k kw fun w' k kw=>?_);have p:=HX.out _ k));go_ret;exact⟨Jn (by rw[<-HNS.out,<-HNC.out];simp[XW]),kw⟩
 by_cases k2:k_=2
 ·subst k2;cases zE
  ·skip;go_wp2_with (first | (go_at_call 39;go_must (refine Jj (G3.out _) k kw fun w' k kw=>?_);have p:=HX.out _ k));go_ret;exact⟨Jn (by rw[<-HNS.out,<-HNC.out];simp[XW]),kw⟩
  cases zF
  ·skip;go_wp2_with (first | (go_at_call 39;go_must (refine Jj (G3.out _) k kw fun w' k kw=>?_);have p:=HX.out _ k) | (go_at_call 40;go_must (refine Jj (G4.out _ kw) k kw fun w' k kw=>?_);have p:=HX.out _ k));go_ret;exact⟨Jn (by rw[<-HNS.out,<-HNC.out];simp[XW]),kw⟩
  cases nS
  ·skip;go_wp2_with (first | (go_at_call 39;go_must (refine Jj (G3.out _) k kw fun w' k kw=>?_);have p:=HX.out _ k) | (go_at_call 40;go_must (refine Jj (G4.out _ kw) k kw fun w' k kw=>?_);have p:=HX.out _ k));go_ret;exact⟨Jn (by rw[<-HNS.out,<-HNC.out];simp[XW]),kw⟩
  cases nC
  all_goals
   go_wp2_with (first | (go_at_call 39;go_must (refine Jj (G3.out _) k kw fun w' k kw=>?_);have p:=HX.out _ k) | (go_at_call 40;go_must (refine Jj (G4.out _ kw) k kw fun w' k kw=>?_);have p:=HX.out _ k));go_ret;exact⟨Jn (by rw[<-HNS.out,<-HNC.out];simp[XW]),kw⟩
 by_cases k3:k_=3
 ·subst k3;cases nS
  ·skip;go_wp2;go_ret;exact⟨Jn (by rw[<-HNS.out,<-HNC.out];simp[XW]),kw⟩
  cases nC
  ·skip;go_wp2;go_ret;exact⟨Jn (by rw[<-HNS.out,<-HNC.out];simp[XW]),kw⟩
  by_cases h1:n4=1;rotate_left
  ·have h2:¬ ((n4:Nat):Int)=1:=by omega
   have h3:(((n4:Nat):Int) != 1)=true:=by rw[Rr];omega
   have HZ:=Ja (HWN.out (by rw[HL4.out];exact h1));clear h2;go_wp2;go_ret;exact⟨Jn (by rw[<-HNS.out,<-HNC.out];rw[HZ.out];simp[XW]),kw⟩
  subst h1;obtain⟨q,hq,hz⟩:=HWY.out HL4.out;have HOWq:=HOW.out q;have HQ:=hq;obtain⟨b,o,rfl,hbb,-⟩:=HWR.out _ kw (by rw[HQ];exact Nat.one_pos);have HXW:=Ja fun (V:World) (hb:Bz w V)=>(show V.cell? ⟨b,o,none⟩=some (.int .i64 q.1.1)/\V.cell? ⟨b,o+1,none⟩=some (.int .i64 q.1.2)/\V.cell? ⟨b,o+2,none⟩=some (.int .i64 q.2.1)/\V.cell? ⟨b,o+3,none⟩=some (.bool q.2.2) from by
   have h:=YI (HWR.out V hb (by rw[HQ];exact Nat.one_pos));simp only[HQ,List.getElem_cons_zero,NE,Nat.add_zero] at h;exact h)
  clear HWR hq HQ hbb;obtain⟨⟨qa,qb⟩,qo,qg⟩:=q;dsimp only at HXW HOWq hz;rw[HOWq] at hz;clear HOWq;have HZ:=Ja hz;clear hz;cases zN
  ·skip;go_wp2_with (first | (go_at_call 37;go_must (refine Jj (G1.out _ kw) k kw fun w' k kw=>?_);have p:=HX.out _ k));go_ret;exact⟨Jn (by rw[<-HNS.out,<-HNC.out];rw[HZ.out];simp[XW]),kw⟩
  go_upto_region 11 with (first | (go_at_call 37;go_must (refine Jj (G1.out _ kw) k kw fun w' k kw=>?_);have p:=HX.out _ k));obtain⟨x0,x1,x2,x3⟩:=HXW.out _ kw;have hb9:Bz w' (w'.alloc (.cells #[.int .i64 qa,.int .i64 qb,.int .i64 qo,.bool qg] 70)):=Zr.alloc Zl _;have hX9:=Jm.new w' 70 #[.int .i64 qa,.int .i64 qb,.int .i64 qo,.bool qg];have k:=Jg k hb9;have kw:=Jg kw hb9;generalize hV9:w'.alloc (.cells #[.int .i64 qa,.int .i64 qb,.int .i64 qo,.bool qg] 70)=V9 at hX9 k kw;have HV9:=Ja hV9;clear hb9 hV9;go_upto_region 12 with fail;rw[HV9.out];clear x0 x1 x2 x3;have p:=HX.out _ k;have HQ:=Ja hX9;obtain⟨y0,y1,y2,y3⟩:=hX9.quad;clear hX9;cases qg;rotate_left
  ·cases zB
   all_goals
    go_wp2_with (first | (go_at_call 38;go_must (refine Jd (G2.out _) fun w' hb'=>?_);have hb9:=hb';have k:=Jg k hb';have kw:=Jg kw hb';clear hb';have p:=HX.out _ k;have HQ:=Ja (HQ.out.go hb9);obtain⟨y0,y1,y2,y3⟩:=HQ.out.quad;clear hb9));go_ret;exact⟨Jn (by rw[<-HNS.out,<-HNC.out];rw[HZ.out];simp[XW]),kw⟩
  cases zF
  ·skip;go_wp2_with (first | (go_at_call 40;go_must (refine Jd (G4.out _ kw) fun w' hb'=>?_);have hb9:=hb';have k:=Jg k hb';have kw:=Jg kw hb';clear hb';have p:=HX.out _ k;have HQ:=Ja (HQ.out.go hb9);obtain⟨y0,y1,y2,y3⟩:=HQ.out.quad;clear hb9));go_ret;exact⟨Jn (by rw[<-HNS.out,<-HNC.out];rw[HZ.out];simp[XW]),kw⟩
  by_cases o1:bo=qo;rotate_left
  ·have O1:=Ja o1;go_wp2_with (first | (go_at_call 40;go_must (refine Jd (G4.out _ kw) fun w' hb'=>?_);have hb9:=hb';have k:=Jg k hb';have kw:=Jg kw hb';clear hb';have p:=HX.out _ k;have HQ:=Ja (HQ.out.go hb9);obtain⟨y0,y1,y2,y3⟩:=HQ.out.quad;clear hb9));go_ret;exact⟨Jn (by rw[<-HNS.out,<-HNC.out];rw[HZ.out];simp[XW,O1.out]),kw⟩
  subst o1;by_cases o2:ba=qa;rotate_left
  ·have O2:=Ja o2;go_wp2_with (first | (go_at_call 40;go_must (refine Jd (G4.out _ kw) fun w' hb'=>?_);have hb9:=hb';have k:=Jg k hb';have kw:=Jg kw hb';clear hb';have p:=HX.out _ k;have HQ:=Ja (HQ.out.go hb9);obtain⟨y0,y1,y2,y3⟩:=HQ.out.quad;clear hb9));go_ret;exact⟨Jn (by rw[<-HNS.out,<-HNC.out];rw[HZ.out];simp[XW,O2.out]),kw⟩
  subst o2;by_cases o3:bb=qb;rotate_left
  ·have O3:=Ja o3;go_wp2_with (first | (go_at_call 40;go_must (refine Jd (G4.out _ kw) fun w' hb'=>?_);have hb9:=hb';have k:=Jg k hb';have kw:=Jg kw hb';clear hb';have p:=HX.out _ k;have HQ:=Ja (HQ.out.go hb9);obtain⟨y0,y1,y2,y3⟩:=HQ.out.quad;clear hb9));go_ret;exact⟨Jn (by rw[<-HNS.out,<-HNC.out];rw[HZ.out];simp[XW,O3.out]),kw⟩
  subst o3;go_wp2_with (first | (go_at_call 40;go_must (refine Jd (G4.out _ kw) fun w' hb'=>?_);have hb9:=hb';have k:=Jg k hb';have kw:=Jg kw hb';clear hb';have p:=HX.out _ k;have HQ:=Ja (HQ.out.go hb9);obtain⟨y0,y1,y2,y3⟩:=HQ.out.quad;clear hb9));go_ret;exact⟨Jn (by rw[<-HNS.out,<-HNC.out];rw[HZ.out];simp[XW]),kw⟩
 by_cases k4:k_=4
 ·subst k4;cases zE
  ·skip;go_wp2_with (first | (go_at_call 39;go_must (refine Jj (G3.out _) k kw fun w' k kw=>?_);have p:=HX.out _ k));go_ret;exact⟨Jn (by rw[<-HNS.out,<-HNC.out];simp[XW]),kw⟩
  cases zB
  ·skip;go_wp2_with (first | (go_at_call 39;go_must (refine Jj (G3.out _) k kw fun w' k kw=>?_);have p:=HX.out _ k) | (go_at_call 38;go_must (refine Jj (G2.out _) k kw fun w' k kw=>?_);have p:=HX.out _ k));go_ret;exact⟨Jn (by rw[<-HNS.out,<-HNC.out];simp[XW]),kw⟩
  cases nC
  ·skip;go_wp2_with (first | (go_at_call 39;go_must (refine Jj (G3.out _) k kw fun w' k kw=>?_);have p:=HX.out _ k) | (go_at_call 38;go_must (refine Jj (G2.out _) k kw fun w' k kw=>?_);have p:=HX.out _ k));go_ret;exact⟨Jn (by rw[<-HNS.out,<-HNC.out];simp[XW]),kw⟩
  by_cases f0:0<=fr;rotate_left
  ·have F0:=Ja f0;have d0:decide (fr ≥ 0)=false:=by simp;omega
   go_wp2_with (first | (go_at_call 39;go_must (refine Jj (G3.out _) k kw fun w' k kw=>?_);have p:=HX.out _ k) | (go_at_call 38;go_must (refine Jj (G2.out _) k kw fun w' k kw=>?_);have p:=HX.out _ k));go_ret;exact⟨Jn (by rw[<-HNS.out,<-HNC.out];simp only[XW,Ew (show ¬ 0<=fr by have:=F0.out;omega)];simp),kw⟩
  have F0:=Ja f0;have d0:decide (fr ≥ 0)=true:=by simp;omega
  by_cases f1:fr<=63;rotate_left
  ·have F1:=Ja f1;have d1:decide (fr < 64)=false:=by simp;omega
   go_wp2_with (first | (go_at_call 39;go_must (refine Jj (G3.out _) k kw fun w' k kw=>?_);have p:=HX.out _ k) | (go_at_call 38;go_must (refine Jj (G2.out _) k kw fun w' k kw=>?_);have p:=HX.out _ k));go_ret;exact⟨Jn (by rw[<-HNS.out,<-HNC.out];simp only[XW,Ew (show ¬ fr<=63 by have:=F1.out;omega)];simp),kw⟩
  have F1:=Ja f1;have d1:decide (fr < 64)=true:=by simp;omega
  cases zI
  all_goals
   go_wp2_with (first | (go_at_call 39;go_must (refine Jj (G3.out _) k kw fun w' k kw=>?_);have p:=HX.out _ k) | (go_at_call 38;go_must (refine Jj (G2.out _) k kw fun w' k kw=>?_);have p:=HX.out _ k) | (go_at_call 41;go_must (refine Jj (G6.out _ kw) k kw fun w' k kw=>?_);have p:=HX.out _ k));go_ret;exact⟨Jn (by rw[<-HNS.out,<-HNC.out];simp only[XW,Eu (show 0<=fr by have:=F0.out;omega),Eu (show fr<=63 by have:=F1.out;omega)];simp),kw⟩
 by_cases k5:k_=5
 ·subst k5;cases zE
  ·skip;go_wp2_with (first | (go_at_call 39;go_must (refine Jj (G3.out _) k kw fun w' k kw=>?_);have p:=HX.out _ k));go_ret;exact⟨Jn (by rw[<-HNS.out,<-HNC.out];simp[XW]),kw⟩
  cases zB
  ·skip;go_wp2_with (first | (go_at_call 39;go_must (refine Jj (G3.out _) k kw fun w' k kw=>?_);have p:=HX.out _ k) | (go_at_call 38;go_must (refine Jj (G2.out _) k kw fun w' k kw=>?_);have p:=HX.out _ k));go_ret;exact⟨Jn (by rw[<-HNS.out,<-HNC.out];simp[XW]),kw⟩
  cases nS
  ·skip;go_wp2_with (first | (go_at_call 39;go_must (refine Jj (G3.out _) k kw fun w' k kw=>?_);have p:=HX.out _ k) | (go_at_call 38;go_must (refine Jj (G2.out _) k kw fun w' k kw=>?_);have p:=HX.out _ k));go_ret;exact⟨Jn (by rw[<-HNS.out,<-HNC.out];simp[XW]),kw⟩
  cases zV
  ·skip;go_wp2_with (first | (go_at_call 39;go_must (refine Jj (G3.out _) k kw fun w' k kw=>?_);have p:=HX.out _ k) | (go_at_call 38;go_must (refine Jj (G2.out _) k kw fun w' k kw=>?_);have p:=HX.out _ k) | (go_at_call 26;go_must (refine Jj (G7.out _ kw) k kw fun w' k kw=>?_);have p:=HX.out _ k));go_ret;exact⟨Jn (by rw[<-HNS.out,<-HNC.out];simp[XW]),kw⟩
  cases zR
  all_goals
   go_wp2_with (first | (go_at_call 39;go_must (refine Jj (G3.out _) k kw fun w' k kw=>?_);have p:=HX.out _ k) | (go_at_call 38;go_must (refine Jj (G2.out _) k kw fun w' k kw=>?_);have p:=HX.out _ k) | (go_at_call 26;go_must (refine Jj (G7.out _ kw) k kw fun w' k kw=>?_);have p:=HX.out _ k) | (go_at_call 42;go_must (refine Jj (G8.out _ kw) k kw fun w' k kw=>?_);have p:=HX.out _ k));go_ret;exact⟨Jn (by rw[<-HNS.out,<-HNC.out];simp[XW]),kw⟩
 have k1b:(k_ == 1)=false:=by simpa using k1
 have k2b:(k_ == 2)=false:=by simpa using k2
 have k3b:(k_ == 3)=false:=by simpa using k3
 have k4b:(k_ == 4)=false:=by simpa using k4
 have k5b:(k_ == 5)=false:=by simpa using k5
 go_wp2;go_ret;exact⟨Jn (by rw[<-HNS.out,<-HNC.out];simp[XW,k1,k2,k3,k4,k5]),kw⟩
end Go.Proofs.YtmbeahbgafkjfaaGreatDoor
