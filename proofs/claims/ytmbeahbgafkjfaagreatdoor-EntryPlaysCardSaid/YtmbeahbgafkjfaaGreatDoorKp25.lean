/- Lemmas, layer 25. -/
import Derived.Test.YtmbeahbgafkjfaaGreatDoorKp23
import Derived.Test.YtmbeahbgafkjfaaGreatDoorKp24
set_option linter.unusedSimpArgs false
set_option maxRecDepth 100000
set_option maxHeartbeats 16000000
open Go.Proofs.Tryz Go.RowKit
namespace Go.Proofs.YtmbeahbgafkjfaaGreatDoor
section
theorem QX {α:Type} (l:List α):l.isEmpty=decide (l.length=0):=by cases l<;>simp
theorem Jg7 (x:Wq.Bd) (A:OA) (c:Nat) (w:World):
  Calls prog 38 #[.agg (JO x A c)] w fun e w'=>e=.returned (.bool (XK x))/\Bz w w':=by
 obtain⟨o,⟨a,b⟩,v⟩:=x;unfold JO XK;dsimp only;rw[QX];generalize v.length=n;have HB:=Ja (show Bz w (w.alloc (.cells #[.int .i64 o,.int .i64 a,.int .i64 b,.slice A n c] 31)) from Zr.alloc Zl _);by_cases e1:o=0
 ·subst e1;by_cases e2:a=0
  ·subst e2;by_cases e3:b=0
   ·subst e3;by_cases e4:n=0
    ·subst e4;go_enter func38,ntmps38;go_wp2;go_ret;exact⟨rfl,HB.out⟩
    ·have HN:=Ja (show (decide ((0:Int)=0) && (decide (((0:Int),(0:Int))=(0,0)) && decide (n=0)))=false by simp[e4]);rw[HN.out];have e5:((n:Int) == 0)=false:=by simpa using e4
     go_enter func38,ntmps38;go_wp2;go_ret;exact⟨rfl,HB.out⟩
   ·have HN:=Ja (show (decide ((0:Int)=0) && (decide (((0:Int),b)=(0,0)) && decide (n=0)))=false by simp[e3]);rw[HN.out];go_enter func38,ntmps38;go_wp2;go_ret;exact⟨rfl,HB.out⟩
  ·have HN:=Ja (show (decide ((0:Int)=0) && (decide ((a,b)=(0,0)) && decide (n=0)))=false by simp[e2]);rw[HN.out];go_enter func38,ntmps38;go_wp2;go_ret;exact⟨rfl,HB.out⟩
 ·have HN:=Ja (show (decide (o=0) && (decide ((a,b)=(0,0)) && decide (n=0)))=false by simp[e1]);rw[HN.out];go_enter func38,ntmps38;go_wp2;go_ret;exact⟨rfl,HB.out⟩
theorem Jhb (x:Nt):Ya x=decide (x.s.length+x.e.length+x.b.length+x.w.length=0):=by
 unfold Ya;rw[QX,QX,QX,QX,EM];simp only[Ea,Ej];omega
theorem Jhf (v:Vw):UT v=(decide (v.known.length+v.zones.length+v.held.length+v.bods.length=0) && decide (v.room=0)):=by
 unfold UT;rw[QX,QX,QX,QX];congr 1;rw[EM];simp only[Ea,Ej];omega
theorem Je8 (v:NV) (x:Nt) (w:World) (h1:x.s.length=v.n1) (h2:x.e.length=v.n2) (h3:x.b.length=v.n3) (h4:x.w.length=v.n4) (hs:v.n1+v.n2+v.n3+v.n4<=9223372036854775807):
  Calls prog 39 #[.agg v.val] w fun e w'=>e=.returned (.bool (Ya x))/\Bz w w':=by
 rw[Jhb,h1,h2,h3,h4];clear h1 h2 h3 h4;obtain⟨A1,n1,c1,A2,n2,c2,A3,n3,c3,A4,n4,c4⟩:=v;dsimp only at hs ⊢;have HB:=Ja (show Bz w (w.alloc (.cells #[.slice A1 n1 c1,.slice A2 n2 c2,.slice A3 n3 c3,.slice A4 n4 c4] 26)) from Zr.alloc Zl _);have s1:IntKind.i64.wrap ((n1:Int)+(n2:Int))=((n1+n2:Nat):Int):=by rw[EJ _ (by omega)];omega
 have s2:IntKind.i64.wrap (((n1+n2:Nat):Int)+(n3:Int))=((n1+n2+n3:Nat):Int):=by rw[EJ _ (by omega)];omega
 have s3:IntKind.i64.wrap (((n1+n2+n3:Nat):Int)+(n4:Int))=((n1+n2+n3+n4:Nat):Int):=by rw[EJ _ (by omega)];omega
 go_enter func39,ntmps39;go_wp2;go_ret;exact⟨Jn (by rw[EM];simp;omega),HB.out⟩
theorem JeB (u:VV) (v:Vw) (w:World) (hs:v.known.length+v.zones.length+v.held.length+v.bods.length<=9223372036854775807):
  Calls prog 36 #[.agg (Jy v u)] w fun e w'=>e=.returned (.bool (UT v))/\Bz w w':=by
 rw[Jhf];obtain⟨kA,kc,zA,zc,hA,hc,bA,bc⟩:=u;obtain⟨known,zones,held,bods,room⟩:=v;unfold Jy;dsimp only at hs ⊢;generalize known.length=nk at *;generalize zones.length=nz at *;generalize held.length=nh at *;generalize bods.length=nb at *;have HB:=Ja (show Bz w (w.alloc (.cells #[.slice kA nk kc,.slice zA nz zc,.slice hA nh hc,.slice bA nb bc,.int .i64 room] 35)) from Zr.alloc Zl _);have s1:IntKind.i64.wrap ((nk:Int)+(nz:Int))=((nk+nz:Nat):Int):=by rw[EJ _ (by omega)];omega
 have s2:IntKind.i64.wrap (((nk+nz:Nat):Int)+(nh:Int))=((nk+nz+nh:Nat):Int):=by rw[EJ _ (by omega)];omega
 have s3:IntKind.i64.wrap (((nk+nz+nh:Nat):Int)+(nb:Int))=((nk+nz+nh+nb:Nat):Int):=by rw[EJ _ (by omega)];omega
 by_cases e1:nk+nz+nh+nb=0
 ·obtain⟨rfl,rfl,rfl,rfl⟩:nk=0/\nz=0/\nh=0/\nb=0:=by omega
  clear s1 s2 s3 e1;by_cases e2:room=0
  ·subst e2;go_enter func36,ntmps36;go_wp2;go_ret;exact⟨Jn (by simp),HB.out⟩
  ·have HN:=Ja (show (decide (0+0+0+0=0) && decide (room=0))=false by simp[e2]);rw[HN.out];have e3:(room == 0)=false:=by simpa using e2
   go_enter func36,ntmps36;go_wp2;go_ret;exact⟨rfl,HB.out⟩
 ·have HN:=Ja (show (decide (nk+nz+nh+nb=0) && decide (room=0))=false by rw[Ew e1];rfl);rw[HN.out];have e3:(((nk+nz+nh+nb:Nat):Int) == 0)=false:=FX.2 (by omega);have e4:¬ ((nk+nz+nh+nb:Nat):Int)=0:=by omega
  go_enter func36,ntmps36;go_wp2;go_ret;exact⟨rfl,HB.out⟩
theorem Jgm (x:Wq.Bd) (A:OA) (c:Nat) (w:World) (hR:Rd w w.heap.size 1 A x.v.length c (bv x.v)) (hc:x.s.1 < 9223372036854775808):
  Calls prog 40 #[.agg (JO x A c)] w fun e w'=>e=.returned (.bool (Wq.bdF x))/\Bz w w':=by
 have hb0:Bz w (w.alloc (.cells (JO x A c) 31)):=Zr.alloc Zl _;have HB:=Ja hb0;have GN:=Jdz none 0 0 x A c (w.alloc (.cells (JO x A c) 31));have GY:=fun hf=>JcH none 0 0 [] x A c (w.alloc (.cells (JO x A c) 31)) rfl Rd.none_ (hR.go hb0) hf hc (by omega);generalize Wq.bdF x=z at GN GY ⊢;generalize Wq.lB x=l at GY;unfold JO at GN GY ⊢;clear hR hc hb0;cases z
 ·have G:=Ja (GN rfl);clear GN GY;go_enter func40,ntmps40;go_wp2_with (go_at_call 29;go_must (refine Jd G.out fun w1 hb1=>?_));go_ret;exact⟨rfl,Jg HB.out hb1⟩
 ·have G:=Ja (GY rfl);clear GN GY;go_enter func40,ntmps40;go_wp2_with (go_at_call 29;go_must (refine G.out.mono ?_);rintro e w1 ⟨v,rfl,hby⟩;obtain⟨A1,c1,hv,ho,hb1⟩:=hby;clear hv ho);go_ret;exact⟨rfl,Jg HB.out hb1⟩
structure EV where
 nv:NV
 bA:OA
 bc:Nat
 iA:OA
 ic:Nat
 vv:VV
 sA:OA
 sc:Nat
def eval (x:Qw) (u:EV):Array Value:=#[.int .i64 x.kind,.slice u.nv.A1 u.nv.n1 u.nv.c1,.slice u.nv.A2 u.nv.n2 u.nv.c2,.slice u.nv.A3 u.nv.n3 u.nv.c3,.slice u.nv.A4 u.nv.n4 u.nv.c4,.int .i64 x.body.o,.int .i64 x.body.s.1,.int .i64 x.body.s.2,.slice u.bA x.body.v.length u.bc,.int .i64 x.from_,.slice u.iA x.int.length u.ic,.slice u.vv.kA x.view.known.length u.vv.kc,.slice u.vv.zA x.view.zones.length u.vv.zc,.slice u.vv.hA x.view.held.length u.vv.hc,.slice u.vv.bA x.view.bods.length u.vv.bc,.int .i64 x.view.room,.slice u.sA x.subs.length u.sc]
structure QP (w:World) (B:Nat) (u:EV) (x:Qw) (L:List (ZV×Zn)) (M:List (BV×Wq.Bd)) (S:List (SV×Sb)):Prop where
 nt:Yf w B u.nv x.note
 bd:Rd w B 1 u.bA x.body.v.length u.bc (bv x.body.v)
 it:Rd w B 2 u.iA x.int.length u.ic (sv x.int)
 vw:JU w B u.vv x.view L M
 sb:QM w B u.sA x.subs.length u.sc S
 ns:JK S=x.subs
theorem QP.go {w w':World} {u:EV} {x:Qw} {L:List (ZV×Zn)} {M:List (BV×Wq.Bd)} {S:List (SV×Sb)} (h:QP w w.heap.size u x L M S) (hb:Bz w w'):QP w' w'.heap.size u x L M S:=⟨h.nt.go hb,h.bd.go hb,h.it.go hb,h.vw.go hb,h.sb.go hb,h.ns⟩
theorem Jm.c17 {w:World} {g:Nat} {t:TypeId} {a0 a1 a2 a3 a4 a5 a6 a7 a8 a9 a10 a11 a12 a13 a14 a15 a16:Value} (h:Jm w g t #[a0,a1,a2,a3,a4,a5,a6,a7,a8,a9,a10,a11,a12,a13,a14,a15,a16]):w.cell? ⟨g,0,none⟩=some a0/\w.cell? ⟨g,1,none⟩=some a1/\w.cell? ⟨g,2,none⟩=some a2/\w.cell? ⟨g,3,none⟩=some a3/\w.cell? ⟨g,4,none⟩=some a4/\w.cell? ⟨g,5,none⟩=some a5/\w.cell? ⟨g,6,none⟩=some a6/\w.cell? ⟨g,7,none⟩=some a7/\w.cell? ⟨g,8,none⟩=some a8/\w.cell? ⟨g,9,none⟩=some a9/\w.cell? ⟨g,10,none⟩=some a10/\w.cell? ⟨g,11,none⟩=some a11/\w.cell? ⟨g,12,none⟩=some a12/\w.cell? ⟨g,13,none⟩=some a13/\w.cell? ⟨g,14,none⟩=some a14/\w.cell? ⟨g,15,none⟩=some a15/\w.cell? ⟨g,16,none⟩=some a16:=⟨h.cell 0,h.cell 1,h.cell 2,h.cell 3,h.cell 4,h.cell 5,h.cell 6,h.cell 7,h.cell 8,h.cell 9,h.cell 10,h.cell 11,h.cell 12,h.cell 13,h.cell 14,h.cell 15,h.cell 16⟩
def Zh (x y:Qw):Bool:=decide (x.kind=y.kind) && (Jbg x.note y.note && (bdE x.body y.body && (decide (x.from_=y.from_) && (decide (x.int=y.int) && (vwE x.view y.view && YT x.subs y.subs)))))
theorem UZ (x y:Qw):Zh x y=true↔x=y:=by
 cases x;cases y;simp[Zh,JhR,JeP,JiI,Ja8]
theorem QV (u u':EV) (x y:Qw) (L L':List (ZV×Zn)) (M M':List (BV×Wq.Bd)) (S S':List (SV×Sb)) (w:World) (hE:QP w w.heap.size u x L M S) (hE':QP w w.heap.size u' y L' M' S'):
  Calls prog 17 #[.agg (eval x u),.agg (eval y u')] w fun e w'=>e=.returned (.bool (Zh x y))/\Bz w w':=by
 have G1:=fun (W:World) (hb:Bz w W)=>Jds u.nv u'.nv x.note y.note W (hE.nt.go hb) (hE'.nt.go hb);have G2:=fun (W:World) (hb:Bz w W)=>XT x.body y.body u.bA u'.bA u.bc u'.bc W (hE.bd.go hb) (hE'.bd.go hb);have G3:=fun (W:World) (hb:Bz w W)=>Oo u.iA u'.iA x.int.length u.ic y.int.length u'.ic x.int y.int W rfl rfl (hE.it.go hb) (hE'.it.go hb);have G4:=fun (W:World) (hb:Bz w W)=>OU u.vv u'.vv x.view y.view L L' M M' W (hE.vw.go hb) (hE'.vw.go hb);have G5:=fun (W:World) (hb:Bz w W)=>JbQ u.sA u'.sA x.subs.length u.sc y.subs.length u'.sc S S' W (hE.sb.go hb) (hE'.sb.go hb);rw[hE.ns,hE'.ns] at G5;clear hE hE';unfold Zh;generalize Jbg x.note y.note=f1 at G1 ⊢;generalize bdE x.body y.body=f2 at G2 ⊢;generalize decide (x.int=y.int)=f3 at G3 ⊢;generalize vwE x.view y.view=f4 at G4 ⊢;generalize YT x.subs y.subs=f5 at G5 ⊢;obtain⟨k_,nt,⟨bo,⟨ba,bb⟩,bvx⟩,fr,it,⟨known,zones,held,bods,rm⟩,subs⟩:=x;obtain⟨k_',nt',⟨bo',⟨ba',bb'⟩,bvx'⟩,fr',it',⟨known',zones',held',bods',rm'⟩,subs'⟩:=y;obtain⟨⟨A1,n1,c1,A2,n2,c2,A3,n3,c3,A4,n4,c4⟩,bA,bc,iA,ic,⟨kA,kc,zA,zc,hA,hc,vA,vc⟩,sA,sc⟩:=u;obtain⟨⟨A1',n1',c1',A2',n2',c2',A3',n3',c3',A4',n4',c4'⟩,bA',bc',iA',ic',⟨kA',kc',zA',zc',hA',hc',vA',vc'⟩,sA',sc'⟩:=u';unfold eval;unfold JO at G2;unfold Jy at G4;unfold NV.val at G1;dsimp only at G1 G2 G3 G4 G5 ⊢;generalize bvx.length=nv at *;generalize bvx'.length=nv' at *;generalize it.length=ni at *;generalize it'.length=ni' at *;generalize known.length=nk at *;generalize known'.length=nk' at *;generalize zones.length=nz at *;generalize zones'.length=nz' at *;generalize held.length=nh at *;generalize held'.length=nh' at *;generalize bods.length=nb at *;generalize bods'.length=nb' at *;generalize subs.length=ns at *;generalize subs'.length=ns' at *;have G1:=Ja G1;have G2:=Ja G2;have G3:=Ja G3;have G4:=Ja G4;have G5:=Ja G5;have hb0:Bz w ((w.alloc (.cells #[.int .i64 k_,.slice A1 n1 c1,.slice A2 n2 c2,.slice A3 n3 c3,.slice A4 n4 c4,.int .i64 bo,.int .i64 ba,.int .i64 bb,.slice bA nv bc,.int .i64 fr,.slice iA ni ic,.slice kA nk kc,.slice zA nz zc,.slice hA nh hc,.slice vA nb vc,.int .i64 rm,.slice sA ns sc] 38)).alloc (.cells #[.int .i64 k_',.slice A1' n1' c1',.slice A2' n2' c2',.slice A3' n3' c3',.slice A4' n4' c4',.int .i64 bo',.int .i64 ba',.int .i64 bb',.slice bA' nv' bc',.int .i64 fr',.slice iA' ni' ic',.slice kA' nk' kc',.slice zA' nz' zc',.slice hA' nh' hc',.slice vA' nb' vc',.int .i64 rm',.slice sA' ns' sc'] 38)):=(Zr.alloc Zl _).alloc (by simp) _;have hX:=(Jm.new w 38 #[.int .i64 k_,.slice A1 n1 c1,.slice A2 n2 c2,.slice A3 n3 c3,.slice A4 n4 c4,.int .i64 bo,.int .i64 ba,.int .i64 bb,.slice bA nv bc,.int .i64 fr,.slice iA ni ic,.slice kA nk kc,.slice zA nz zc,.slice hA nh hc,.slice vA nb vc,.int .i64 rm,.slice sA ns sc]).alloc (.cells #[.int .i64 k_',.slice A1' n1' c1',.slice A2' n2' c2',.slice A3' n3' c3',.slice A4' n4' c4',.int .i64 bo',.int .i64 ba',.int .i64 bb',.slice bA' nv' bc',.int .i64 fr',.slice iA' ni' ic',.slice kA' nk' kc',.slice zA' nz' zc',.slice hA' nh' hc',.slice vA' nb' vc',.int .i64 rm',.slice sA' ns' sc'] 38);have hY:=Jm.new (w.alloc (.cells #[.int .i64 k_,.slice A1 n1 c1,.slice A2 n2 c2,.slice A3 n3 c3,.slice A4 n4 c4,.int .i64 bo,.int .i64 ba,.int .i64 bb,.slice bA nv bc,.int .i64 fr,.slice iA ni ic,.slice kA nk kc,.slice zA nz zc,.slice hA nh hc,.slice vA nb vc,.int .i64 rm,.slice sA ns sc] 38)) 38 #[.int .i64 k_',.slice A1' n1' c1',.slice A2' n2' c2',.slice A3' n3' c3',.slice A4' n4' c4',.int .i64 bo',.int .i64 ba',.int .i64 bb',.slice bA' nv' bc',.int .i64 fr',.slice iA' ni' ic',.slice kA' nk' kc',.slice zA' nz' zc',.slice hA' nh' hc',.slice vA' nb' vc',.int .i64 rm',.slice sA' ns' sc'];rw[El] at hY;generalize hW0:(w.alloc (.cells #[.int .i64 k_,.slice A1 n1 c1,.slice A2 n2 c2,.slice A3 n3 c3,.slice A4 n4 c4,.int .i64 bo,.int .i64 ba,.int .i64 bb,.slice bA nv bc,.int .i64 fr,.slice iA ni ic,.slice kA nk kc,.slice zA nz zc,.slice hA nh hc,.slice vA nb vc,.int .i64 rm,.slice sA ns sc] 38)).alloc (.cells #[.int .i64 k_',.slice A1' n1' c1',.slice A2' n2' c2',.slice A3' n3' c3',.slice A4' n4' c4',.int .i64 bo',.int .i64 ba',.int .i64 bb',.slice bA' nv' bc',.int .i64 fr',.slice iA' ni' ic',.slice kA' nk' kc',.slice zA' nz' zc',.slice hA' nh' hc',.slice vA' nb' vc',.int .i64 rm',.slice sA' ns' sc'] 38)=W0 at hb0 hX hY;have HX:=Ja fun (W:World) (hb:Bz W0 W)=>(⟨(hX.go hb).c17,(hY.go hb).c17⟩:_/\_);have HW0:=Ja hW0;have k:Bz W0 W0:=Ec _ _;have kw:Bz w W0:=hb0;obtain⟨⟨p0,p1,p2,p3,p4,p5,p6,p7,p8,p9,p10,p11,p12,p13,p14,p15,p16⟩,⟨q0,q1,q2,q3,q4,q5,q6,q7,q8,q9,q10,q11,q12,q13,q14,q15,q16⟩⟩:=HX.out _ k;clear hX hY hW0 hb0;go_enter func17,ntmps17;go_upto_region 1 with fail;rw[HW0.out];by_cases e0:k_=k_';rotate_left
 ·skip;go_wp2;go_ret;exact⟨Jn (by simp[e0]),kw⟩
 subst e0;cases f1
 ·skip;go_wp2_with (first | (go_at_call 61;go_must (refine Jj (G1.out _ kw) k kw fun w' k kw=>?_);obtain⟨⟨p0,p1,p2,p3,p4,p5,p6,p7,p8,p9,p10,p11,p12,p13,p14,p15,p16⟩,⟨q0,q1,q2,q3,q4,q5,q6,q7,q8,q9,q10,q11,q12,q13,q14,q15,q16⟩⟩:=HX.out _ k));go_ret;exact⟨Jn (by simp),kw⟩
 cases f2
 ·skip;go_wp2_with (first | (go_at_call 61;go_must (refine Jj (G1.out _ kw) k kw fun w' k kw=>?_);obtain⟨⟨p0,p1,p2,p3,p4,p5,p6,p7,p8,p9,p10,p11,p12,p13,p14,p15,p16⟩,⟨q0,q1,q2,q3,q4,q5,q6,q7,q8,q9,q10,q11,q12,q13,q14,q15,q16⟩⟩:=HX.out _ k) | (go_at_call 45;go_must (refine Jj (G2.out _ kw) k kw fun w' k kw=>?_);obtain⟨⟨p0,p1,p2,p3,p4,p5,p6,p7,p8,p9,p10,p11,p12,p13,p14,p15,p16⟩,⟨q0,q1,q2,q3,q4,q5,q6,q7,q8,q9,q10,q11,q12,q13,q14,q15,q16⟩⟩:=HX.out _ k));go_ret;exact⟨Jn (by simp),kw⟩
 by_cases e1:fr=fr';rotate_left
 ·skip;go_wp2_with (first | (go_at_call 61;go_must (refine Jj (G1.out _ kw) k kw fun w' k kw=>?_);obtain⟨⟨p0,p1,p2,p3,p4,p5,p6,p7,p8,p9,p10,p11,p12,p13,p14,p15,p16⟩,⟨q0,q1,q2,q3,q4,q5,q6,q7,q8,q9,q10,q11,q12,q13,q14,q15,q16⟩⟩:=HX.out _ k) | (go_at_call 45;go_must (refine Jj (G2.out _ kw) k kw fun w' k kw=>?_);obtain⟨⟨p0,p1,p2,p3,p4,p5,p6,p7,p8,p9,p10,p11,p12,p13,p14,p15,p16⟩,⟨q0,q1,q2,q3,q4,q5,q6,q7,q8,q9,q10,q11,q12,q13,q14,q15,q16⟩⟩:=HX.out _ k));go_ret;exact⟨Jn (by simp),kw⟩
 subst e1;cases f3
 ·skip;go_wp2_with (first | (go_at_call 61;go_must (refine Jj (G1.out _ kw) k kw fun w' k kw=>?_);obtain⟨⟨p0,p1,p2,p3,p4,p5,p6,p7,p8,p9,p10,p11,p12,p13,p14,p15,p16⟩,⟨q0,q1,q2,q3,q4,q5,q6,q7,q8,q9,q10,q11,q12,q13,q14,q15,q16⟩⟩:=HX.out _ k) | (go_at_call 45;go_must (refine Jj (G2.out _ kw) k kw fun w' k kw=>?_);obtain⟨⟨p0,p1,p2,p3,p4,p5,p6,p7,p8,p9,p10,p11,p12,p13,p14,p15,p16⟩,⟨q0,q1,q2,q3,q4,q5,q6,q7,q8,q9,q10,q11,q12,q13,q14,q15,q16⟩⟩:=HX.out _ k) | (go_at_call 62;go_must (refine Jj (G3.out _ kw) k kw fun w' k kw=>?_);obtain⟨⟨p0,p1,p2,p3,p4,p5,p6,p7,p8,p9,p10,p11,p12,p13,p14,p15,p16⟩,⟨q0,q1,q2,q3,q4,q5,q6,q7,q8,q9,q10,q11,q12,q13,q14,q15,q16⟩⟩:=HX.out _ k));go_ret;exact⟨Jn (by simp),kw⟩
 cases f4
 ·skip;go_wp2_with (first | (go_at_call 61;go_must (refine Jj (G1.out _ kw) k kw fun w' k kw=>?_);obtain⟨⟨p0,p1,p2,p3,p4,p5,p6,p7,p8,p9,p10,p11,p12,p13,p14,p15,p16⟩,⟨q0,q1,q2,q3,q4,q5,q6,q7,q8,q9,q10,q11,q12,q13,q14,q15,q16⟩⟩:=HX.out _ k) | (go_at_call 45;go_must (refine Jj (G2.out _ kw) k kw fun w' k kw=>?_);obtain⟨⟨p0,p1,p2,p3,p4,p5,p6,p7,p8,p9,p10,p11,p12,p13,p14,p15,p16⟩,⟨q0,q1,q2,q3,q4,q5,q6,q7,q8,q9,q10,q11,q12,q13,q14,q15,q16⟩⟩:=HX.out _ k) | (go_at_call 62;go_must (refine Jj (G3.out _ kw) k kw fun w' k kw=>?_);obtain⟨⟨p0,p1,p2,p3,p4,p5,p6,p7,p8,p9,p10,p11,p12,p13,p14,p15,p16⟩,⟨q0,q1,q2,q3,q4,q5,q6,q7,q8,q9,q10,q11,q12,q13,q14,q15,q16⟩⟩:=HX.out _ k) | (go_at_call 22;go_must (refine Jj (G4.out _ kw) k kw fun w' k kw=>?_);obtain⟨⟨p0,p1,p2,p3,p4,p5,p6,p7,p8,p9,p10,p11,p12,p13,p14,p15,p16⟩,⟨q0,q1,q2,q3,q4,q5,q6,q7,q8,q9,q10,q11,q12,q13,q14,q15,q16⟩⟩:=HX.out _ k));go_ret;exact⟨Jn (by simp),kw⟩
 cases f5
 all_goals
  go_wp2_with (first | (go_at_call 61;go_must (refine Jj (G1.out _ kw) k kw fun w' k kw=>?_);obtain⟨⟨p0,p1,p2,p3,p4,p5,p6,p7,p8,p9,p10,p11,p12,p13,p14,p15,p16⟩,⟨q0,q1,q2,q3,q4,q5,q6,q7,q8,q9,q10,q11,q12,q13,q14,q15,q16⟩⟩:=HX.out _ k) | (go_at_call 45;go_must (refine Jj (G2.out _ kw) k kw fun w' k kw=>?_);obtain⟨⟨p0,p1,p2,p3,p4,p5,p6,p7,p8,p9,p10,p11,p12,p13,p14,p15,p16⟩,⟨q0,q1,q2,q3,q4,q5,q6,q7,q8,q9,q10,q11,q12,q13,q14,q15,q16⟩⟩:=HX.out _ k) | (go_at_call 62;go_must (refine Jj (G3.out _ kw) k kw fun w' k kw=>?_);obtain⟨⟨p0,p1,p2,p3,p4,p5,p6,p7,p8,p9,p10,p11,p12,p13,p14,p15,p16⟩,⟨q0,q1,q2,q3,q4,q5,q6,q7,q8,q9,q10,q11,q12,q13,q14,q15,q16⟩⟩:=HX.out _ k) | (go_at_call 22;go_must (refine Jj (G4.out _ kw) k kw fun w' k kw=>?_);obtain⟨⟨p0,p1,p2,p3,p4,p5,p6,p7,p8,p9,p10,p11,p12,p13,p14,p15,p16⟩,⟨q0,q1,q2,q3,q4,q5,q6,q7,q8,q9,q10,q11,q12,q13,q14,q15,q16⟩⟩:=HX.out _ k) | (go_at_call 23;go_must (refine Jj (G5.out _ kw) k kw fun w' k kw=>?_);obtain⟨⟨p0,p1,p2,p3,p4,p5,p6,p7,p8,p9,p10,p11,p12,p13,p14,p15,p16⟩,⟨q0,q1,q2,q3,q4,q5,q6,q7,q8,q9,q10,q11,q12,q13,q14,q15,q16⟩⟩:=HX.out _ k));go_ret;exact⟨Jn (by simp),kw⟩
theorem Ye:(prog.info? 31).map (fun i=>(i.zero,i.size,i.bytes))=some (some (.agg #[.int .i64 0,.int .i64 0,.int .i64 0,.slice none 0 0]),4,48):=by kernel_rfl
theorem Yk:(prog.info? 65).map (fun i=>(i.zero,i.size,i.bytes))=some (some (.agg #[.int .i64 0,.slice none 0 0,.int .i64 0,.int .i64 0,.bool false,.bool false,.bool false]),7,56):=by kernel_rfl
structure JZ (w:World) (base:Nat) (A:OA) (k c:Nat) (L:List (BV×Wq.Bd)):Prop where
 row:w.ownsRow base 31 4 (.slice A k c) k (KU L)
 el:∀p∈L,w.ownsRow base 5 1 (.slice p.1.A p.2.v.length p.1.c) p.2.v.length (bv p.2.v)
theorem JZ.nil (w:World) (base:Nat):JZ w base none 0 0 []:=⟨ED _ _ _ _,by simp⟩
theorem JZ.below {w w':World} {base:Nat} {A:OA} {k c:Nat} {L:List (BV×Wq.Bd)} (h:JZ w base A k c L) (hb:Bz w w'):JZ w' base A k c L:=
 ⟨Jf h.row hb Zl,fun p hp=>Jf (h.el p hp) hb Zl⟩
theorem JZ.less {w:World} {base base':Nat} {A:OA} {k c:Nat} {L:List (BV×Wq.Bd)} (h:JZ w base A k c L) (hb:base'<=base):JZ w base' A k c L:=
 ⟨Jk h.row hb,fun p hp=>Jk (h.el p hp) hb⟩
theorem JZ.but {w w':World} {g base:Nat} {A:OA} {k c:Nat} {L:List (BV×Wq.Bd)} (h:JZ w base A k c L) (hb:JF g w w') (hg:g < base):JZ w' base A k c L:=
 ⟨Qf h.row hb hg,fun p hp=>Qf (h.el p hp) hb hg⟩
theorem JZ.push {w w':World} {base:Nat} {A A':OA} {k c c':Nat} {L:List (BV×Wq.Bd)} {p:BV×Wq.Bd} (h:JZ w base A k c L) (hp:w.ownsRow base 5 1 (.slice p.1.A p.2.v.length p.1.c) p.2.v.length (bv p.2.v))
  (hg:w.grownBy w' (Value.slice A k c).ownBlock) (ho:w'.ownsRow base 31 4 (.slice A' (k+1) c') (k+1) (KU L++bvl p)):JZ w' base A' (k+1) c' (L++[p]):=by
 refine⟨by rw[JaY];simpa[KU] using ho,fun z hz=>?_⟩;rcases EB.1 hz with hz | hz
 ·exact(h.el z hz).kept hg (Qb (h.el z hz) h.row (by decide))
 ·obtain rfl:z=p:=by simpa using hz
  exact hp.kept hg (Qb hp h.row (by decide))
theorem JZ.len {w:World} {base:Nat} {A:OA} {k c:Nat} {L:List (BV×Wq.Bd)} (h:JZ w base A k c L):L.length=k:=by
 have:=h.row.1;rw[Uc] at this;omega
theorem JZ.rd {w:World} {base:Nat} {A:OA} {k c:Nat} {L:List (BV×Wq.Bd)} (h:JZ w base A k c L) (hw:∀p∈L,(Lit.int .i64 p.2.o).wf=true):QI w w.heap.size A k c L:=
 ⟨h.len,Rd.of_own h.row,fun p hp=>Rd.of_own (h.el p hp),hw⟩
theorem JZ.row_ {w w':World} {base b size n:Nat} {e:TypeId} {u:Value} {xs:List Value} {A:OA} {k c:Nat} {L:List (BV×Wq.Bd)} (h:JZ w base A k c L) (ho:w.ownsRow b e size u n xs) (h1:31≠e) (h2:5≠e) (hg:w.grownBy w' u.ownBlock):JZ w' base A k c L:=
 ⟨h.row.kept hg (Qb h.row ho h1),fun p hp=>(h.el p hp).kept hg (Qb (h.el p hp) ho h2)⟩
theorem Qk.but {w w':World} {g base:Nat} {A:OA} {k c:Nat} {L:List (ZV×Zn)} (h:Qk w base A k c L) (hb:JF g w w') (hg:g < base):Qk w' base A k c L:=
 ⟨Qf h.row hb hg,fun p hp=>⟨(h.el p hp).1,Qf (h.el p hp).2 hb hg⟩⟩
theorem Qk.row_ {w w':World} {base b size n:Nat} {e:TypeId} {u:Value} {xs:List Value} {A:OA} {k c:Nat} {L:List (ZV×Zn)} (h:Qk w base A k c L) (ho:w.ownsRow b e size u n xs) (h1:129≠e) (h2:28≠e) (hg:w.grownBy w' u.ownBlock):Qk w' base A k c L:=
 ⟨h.row.kept hg (Qb h.row ho h1),fun p hp=>⟨(h.el p hp).1,(h.el p hp).2.kept hg (Qb (h.el p hp).2 ho h2)⟩⟩
structure JY (w:World) (base:Nat) (A:OA) (k c:Nat) (L:List (SV×Sb)):Prop where
 row:w.ownsRow base 65 7 (.slice A k c) k (Yg L)
 el:∀p∈L,w.ownsRow base 63 2 (.slice p.1.A p.2.int.length p.1.c) p.2.int.length (sv p.2.int)
theorem JY.nil (w:World) (base:Nat):JY w base none 0 0 []:=⟨ED _ _ _ _,by simp⟩
theorem JY.below {w w':World} {base:Nat} {A:OA} {k c:Nat} {L:List (SV×Sb)} (h:JY w base A k c L) (hb:Bz w w'):JY w' base A k c L:=
 ⟨Jf h.row hb Zl,fun p hp=>Jf (h.el p hp) hb Zl⟩
theorem JY.less {w:World} {base base':Nat} {A:OA} {k c:Nat} {L:List (SV×Sb)} (h:JY w base A k c L) (hb:base'<=base):JY w base' A k c L:=
 ⟨Jk h.row hb,fun p hp=>Jk (h.el p hp) hb⟩
theorem JY.but {w w':World} {g base:Nat} {A:OA} {k c:Nat} {L:List (SV×Sb)} (h:JY w base A k c L) (hb:JF g w w') (hg:g < base):JY w' base A k c L:=
 ⟨Qf h.row hb hg,fun p hp=>Qf (h.el p hp) hb hg⟩
theorem JY.push {w w':World} {base:Nat} {A A':OA} {k c c':Nat} {L:List (SV×Sb)} {p:SV×Sb} (h:JY w base A k c L) (hp:w.ownsRow base 63 2 (.slice p.1.A p.2.int.length p.1.c) p.2.int.length (sv p.2.int))
  (hg:w.grownBy w' (Value.slice A k c).ownBlock) (ho:w'.ownsRow base 65 7 (.slice A' (k+1) c') (k+1) (Yg L++KI p)):JY w' base A' (k+1) c' (L++[p]):=by
 refine⟨by rw[KX];simpa[Yg] using ho,fun z hz=>?_⟩;rcases EB.1 hz with hz | hz
 ·exact(h.el z hz).kept hg (Qb (h.el z hz) h.row (by decide))
 ·obtain rfl:z=p:=by simpa using hz
  exact hp.kept hg (Qb hp h.row (by decide))
theorem JY.len {w:World} {base:Nat} {A:OA} {k c:Nat} {L:List (SV×Sb)} (h:JY w base A k c L):L.length=k:=by
 have:=h.row.1;rw[Xe] at this;omega
theorem JY.rd {w:World} {base:Nat} {A:OA} {k c:Nat} {L:List (SV×Sb)} (h:JY w base A k c L):QM w w.heap.size A k c L:=
 ⟨h.len,Rd.of_own h.row,fun p hp=>Rd.of_own (h.el p hp)⟩
namespace Wq
section
variable {α β:Type} {p:List UInt8->Option (α×List UInt8)} {K:List α->List UInt8->Option β} {n:Nat} {l r:List UInt8} {acc:List α} {x:α}
end
theorem Ji1 (n:Nat):0 < (Pk.lay n).length:=by
 rw[Pk.lay];split<;>simp
end Wq
end
section
theorem Ja2 {w w':World} {base X size n:Nat} {e ty:TypeId} {v:Value} {xs:List Value} {cs:Array Value} (hB:Jm w X ty cs) (ho:w.ownsRow base e size v n xs) (hg:w.grownBy w' v.ownBlock) (hne:e≠ty):Jm w' X ty cs:=by
 refine(hg.block X hB.lt (fun e=>?_)).trans hB;rcases JiY ho hB hne with h1 | h1
 ·rw[h1] at e;cases e
 ·exact h1 e.symm
end
end Go.Proofs.YtmbeahbgafkjfaaGreatDoor
