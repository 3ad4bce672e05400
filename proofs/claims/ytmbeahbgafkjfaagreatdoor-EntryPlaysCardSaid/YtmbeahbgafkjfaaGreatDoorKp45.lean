/- Lemmas, layer 45. -/
import Derived.Test.YtmbeahbgafkjfaaGreatDoorKp40
set_option linter.unusedSimpArgs false
set_option maxRecDepth 100000
set_option maxHeartbeats 16000000
namespace Go.Proofs.YtmbeahbgafkjfaaGreatDoor
open Go.Proofs.Tryz
open Go.RowKit Wq
theorem Jdl (u:EV) (x:Qw) (L:List (ZV×Zn)) (M:List (BV×Wq.Bd)) (S:List (SV×Sb)) (w:World) (hE:QP w w.heap.size u x L M S) (hk:x.kind=4):
  Calls prog 13 #[.agg (eval x u)] w fun e w'=>e=.returned (.bool (Xd x))/\Bz w w':=by
 have G6:=fun (W:World) (hb:Bz w W)=>Zy u.iA x.int.length u.ic x.int W rfl (hE.it.go hb);have S4:=fun (W:World) (hb:Bz w W)=>QV u ⟨⟨none,0,0,none,0,0,none,0,0,none,0,0⟩,none,0,u.iA,u.ic,⟨none,0,none,0,none,0,none,0⟩,none,0⟩ x (JjC x) L [] M [] S [] W (hE.go hb) ⟨Yf.none_ _ _,Rd.none_,hE.it.go hb,JU.none_ _ _,QM.none_ _ _,rfl⟩;have F4:=JeZ x;have HWB:=Ja (fun h=>ZN (x:=x) h);have HWN:=Ja (fun h=>Zm (x:=x) h);have HWY:=Ja (fun h=>Yt (x:=x) h);have HWR:=Ja fun (W:World) (hb:Bz w W) (hk:0 < x.note.w.length)=>(hE.nt.go hb).r4.write hE.nt.l4 hk;have HL4:=Ja hE.nt.l4;clear hE;generalize Xd x=zz at F4 ⊢;generalize Zh x (JjC x)=s4 at S4 F4;generalize Jav x=zW at HWB HWN HWY;generalize Sn.Xp (-2) x.int=zI at G6 F4;generalize hzN:Yw x.note=zN at HWY HWB;generalize hzB:XK x.body=zB;generalize hzF:Wq.bdF x.body=zF;have HOW:=Ja fun q=>(show Jbj q x.body=if q.2.2=true then zB else (zF && (decide (x.body.o=q.2.1) && decide (x.body.s=q.1))) by rw[<-hzB,<-hzF];rfl);clear hzN hzB hzF;unfold JjC at S4;obtain⟨k_,nt,⟨bo,⟨ba,bb⟩,bvx⟩,fr,it,⟨known,zones,held,bods,rm⟩,subs⟩:=x;obtain⟨⟨A1,n1,c1,A2,n2,c2,A3,n3,c3,A4,n4,c4⟩,bA,bc,iA,ic,⟨kA,kc,zA,zc,hA,hc,vA,vc⟩,sA,sc⟩:=u;unfold eval at S4 ⊢;unfold ntz bdz vw0 at S4;dsimp only[List.length_nil] at G6 S4 F4 HWB HWN HWY HWR HL4 HOW ⊢;generalize bvx.length=nv at S4 ⊢;generalize it.length=ni at G6 S4 ⊢;generalize known.length=nk at S4 ⊢;generalize zones.length=nz at S4 ⊢;generalize held.length=nh at S4 ⊢;generalize bods.length=nb at S4 ⊢;generalize subs.length=ns at S4 ⊢;replace G6:=Ja G6;replace S4:=Ja S4;replace F4:=Ja F4;have hb0:Bz w (w.alloc (.cells #[.int .i64 k_,.slice A1 n1 c1,.slice A2 n2 c2,.slice A3 n3 c3,.slice A4 n4 c4,.int .i64 bo,.int .i64 ba,.int .i64 bb,.slice bA nv bc,.int .i64 fr,.slice iA ni ic,.slice kA nk kc,.slice zA nz zc,.slice hA nh hc,.slice vA nb vc,.int .i64 rm,.slice sA ns sc] 38)):=Zr.alloc Zl _;have hX:=Jm.new w 38 #[.int .i64 k_,.slice A1 n1 c1,.slice A2 n2 c2,.slice A3 n3 c3,.slice A4 n4 c4,.int .i64 bo,.int .i64 ba,.int .i64 bb,.slice bA nv bc,.int .i64 fr,.slice iA ni ic,.slice kA nk kc,.slice zA nz zc,.slice hA nh hc,.slice vA nb vc,.int .i64 rm,.slice sA ns sc];generalize hW0:w.alloc (.cells #[.int .i64 k_,.slice A1 n1 c1,.slice A2 n2 c2,.slice A3 n3 c3,.slice A4 n4 c4,.int .i64 bo,.int .i64 ba,.int .i64 bb,.slice bA nv bc,.int .i64 fr,.slice iA ni ic,.slice kA nk kc,.slice zA nz zc,.slice hA nh hc,.slice vA nb vc,.int .i64 rm,.slice sA ns sc] 38)=W0 at hb0 hX;have HX:=Ja fun (W:World) (hb:Bz W0 W)=>(hX.go hb).c17;have HW0:=Ja hW0;have k:Bz W0 W0:=Ec _ _;have kw:Bz w W0:=hb0;have kWs:=Ja (Ra hb0);have p:=HX.out _ k;clear hX hW0 hb0;subst hk;go_enter func13,ntmps13;go_upto_region 1 with fail;rw[HW0.out];by_cases f0:0<=fr;rotate_left
 ·have F0:=Ja f0;have d0:decide (fr ≥ 0)=false:=by simp;omega
  go_wp2;go_ret;exact⟨Jn (by rw[F4.out (by first | rfl | trivial),Ew (show ¬ 0<=fr by have:=F0.out;omega)];rfl),kw⟩
 have F0:=Ja f0;have d0:decide (fr ≥ 0)=true:=by simp;omega
 by_cases f1:fr<=63;rotate_left
 ·have F1:=Ja f1;have d1:decide (fr<=63)=false:=by simp;omega
  go_wp2;go_ret;exact⟨Jn (by rw[F4.out (by first | rfl | trivial),Eu (show 0<=fr by have:=F0.out;omega),Ew (show ¬ fr<=63 by have:=F1.out;omega)];rfl),kw⟩
 have F1:=Ja f1;have d1:decide (fr<=63)=true:=by simp;omega
 cases zI
 ·skip;go_wp2_with (first | (go_at_call 46;go_must (refine Jj (G6.out _ kw) k kw fun w' k kw=>?_);have p:=HX.out _ k));go_ret;exact⟨Jn (by rw[F4.out (by first | rfl | trivial),Eu (show 0<=fr by have:=F0.out;omega),Eu (show fr<=63 by have:=F1.out;omega)];rfl),kw⟩
 cases s4
 all_goals
  go_wp2_with (first | (go_at_call 46;go_must (refine Jj (G6.out _ kw) k kw fun w' k kw=>?_);have p:=HX.out _ k) | (go_at_call 17;go_must (refine Jj (S4.out _ kw) k kw fun w' k kw=>?_);have p:=HX.out _ k));go_ret;exact⟨Jn (by rw[F4.out (by first | rfl | trivial),Eu (show 0<=fr by have:=F0.out;omega),Eu (show fr<=63 by have:=F1.out;omega)];rfl),kw⟩
end Go.Proofs.YtmbeahbgafkjfaaGreatDoor
