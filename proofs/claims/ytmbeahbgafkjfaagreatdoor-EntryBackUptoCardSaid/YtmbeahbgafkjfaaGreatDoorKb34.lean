/- Lemmas for the claim, layer 34. -/
import Derived.Test.YtmbeahbgafkjfaaGreatDoorKb31
import Derived.Test.YtmbeahbgafkjfaaGreatDoorKb33
set_option maxRecDepth 100000
set_option maxHeartbeats 16000000
namespace Go.Proofs.YtmbeahbgafkjfaaGreatDoor
open Go.RowKit
theorem empty_len {α:Type} (l:List α):l.isEmpty=decide (l.length=0):=by cases l<;>simp
theorem entBare_any (x:Wq.Bd) (A:Option Addr) (c:Nat) (w:World):
  Calls Tryz.prog 38 #[.agg (bval x A c)] w fun e w'=>e=.returned (.bool (bareB x))∧Below w.heap.size w w':=by
 obtain⟨o,⟨a,b⟩,v⟩:=x
 unfold bval bareB
 dsimp only
 rw[empty_len]
 generalize v.length=n
 have HB:=Hz_ (show Below w.heap.size w (w.alloc (.cells #[.int .i64 o,.int .i64 a,.int .i64 b,.slice A n c] 31)) from (Below.refl _ _).alloc (Nat.le_refl _) _)
 by_cases e1:o=0
 ·subst e1
  by_cases e2:a=0
  ·subst e2
   by_cases e3:b=0
   ·subst e3
    by_cases e4:n=0
    ·subst e4
     go_enter Tryz.func38,Tryz.ntmps38
     go_wp2
     go_ret
     exact⟨rfl,HB.out⟩
    ·have HN:=Hz_ (show (decide ((0:Int)=0) && (decide (((0:Int),(0:Int))=(0,0)) && decide (n=0)))=false by simp[e4])
     rw[HN.out]
     have e5:((n:Int) == 0)=false:=by simpa using e4
     go_enter Tryz.func38,Tryz.ntmps38
     go_wp2
     go_ret
     exact⟨rfl,HB.out⟩
   ·have HN:=Hz_ (show (decide ((0:Int)=0) && (decide (((0:Int),b)=(0,0)) && decide (n=0)))=false by simp[e3])
    rw[HN.out]
    go_enter Tryz.func38,Tryz.ntmps38
    go_wp2
    go_ret
    exact⟨rfl,HB.out⟩
  ·have HN:=Hz_ (show (decide ((0:Int)=0) && (decide ((a,b)=(0,0)) && decide (n=0)))=false by simp[e2])
   rw[HN.out]
   go_enter Tryz.func38,Tryz.ntmps38
   go_wp2
   go_ret
   exact⟨rfl,HB.out⟩
 ·have HN:=Hz_ (show (decide (o=0) && (decide ((a,b)=(0,0)) && decide (n=0)))=false by simp[e1])
  rw[HN.out]
  go_enter Tryz.func38,Tryz.ntmps38
  go_wp2
  go_ret
  exact⟨rfl,HB.out⟩
theorem emptyN_len (x:Nt):emptyN x=decide (x.s.length+x.e.length+x.b.length+x.w.length=0):=by
 unfold emptyN
 rw[empty_len,empty_len,empty_len,empty_len,Bool.eq_iff_iff]
 simp only[Bool.and_eq_true,decide_eq_true_eq]
 omega
theorem blankV_len (v:Vw):blankV v=(decide (v.known.length+v.zones.length+v.held.length+v.bods.length=0) && decide (v.room=0)):=by
 unfold blankV
 rw[empty_len,empty_len,empty_len,empty_len]
 congr 1
 rw[Bool.eq_iff_iff]
 simp only[Bool.and_eq_true,decide_eq_true_eq]
 omega
theorem entEmpty_any (v:NV) (x:Nt) (w:World) (h1:x.s.length=v.n1) (h2:x.e.length=v.n2) (h3:x.b.length=v.n3) (h4:x.w.length=v.n4) (hs:v.n1+v.n2+v.n3+v.n4≤9223372036854775807):
  Calls Tryz.prog 39 #[.agg v.val] w fun e w'=>e=.returned (.bool (emptyN x))∧Below w.heap.size w w':=by
 rw[emptyN_len,h1,h2,h3,h4]
 clear h1 h2 h3 h4
 obtain⟨A1,n1,c1,A2,n2,c2,A3,n3,c3,A4,n4,c4⟩:=v
 dsimp only at hs ⊢
 have HB:=Hz_ (show Below w.heap.size w (w.alloc (.cells #[.slice A1 n1 c1,.slice A2 n2 c2,.slice A3 n3 c3,.slice A4 n4 c4] 26)) from (Below.refl _ _).alloc (Nat.le_refl _) _)
 have s1:IntKind.i64.wrap ((n1:Int)+(n2:Int))=((n1+n2:Nat):Int):=by rw[IntWalk.i64_in _ (by omega)];omega
 have s2:IntKind.i64.wrap (((n1+n2:Nat):Int)+(n3:Int))=((n1+n2+n3:Nat):Int):=by rw[IntWalk.i64_in _ (by omega)];omega
 have s3:IntKind.i64.wrap (((n1+n2+n3:Nat):Int)+(n4:Int))=((n1+n2+n3+n4:Nat):Int):=by rw[IntWalk.i64_in _ (by omega)];omega
 go_enter Tryz.func39,Tryz.ntmps39
 go_wp2
 go_ret
 exact⟨ret_bool (by rw[Bool.eq_iff_iff];simp;omega),HB.out⟩
theorem entBlank_any (u:VV) (v:Vw) (w:World) (hs:v.known.length+v.zones.length+v.held.length+v.bods.length≤9223372036854775807):
  Calls Tryz.prog 36 #[.agg (vval v u)] w fun e w'=>e=.returned (.bool (blankV v))∧Below w.heap.size w w':=by
 rw[blankV_len]
 obtain⟨kA,kc,zA,zc,hA,hc,bA,bc⟩:=u
 obtain⟨known,zones,held,bods,room⟩:=v
 unfold vval
 dsimp only at hs ⊢
 generalize known.length=nk at *
 generalize zones.length=nz at *
 generalize held.length=nh at *
 generalize bods.length=nb at *
 have HB:=Hz_ (show Below w.heap.size w (w.alloc (.cells #[.slice kA nk kc,.slice zA nz zc,.slice hA nh hc,.slice bA nb bc,.int .i64 room] 35)) from (Below.refl _ _).alloc (Nat.le_refl _) _)
 have s1:IntKind.i64.wrap ((nk:Int)+(nz:Int))=((nk+nz:Nat):Int):=by rw[IntWalk.i64_in _ (by omega)];omega
 have s2:IntKind.i64.wrap (((nk+nz:Nat):Int)+(nh:Int))=((nk+nz+nh:Nat):Int):=by rw[IntWalk.i64_in _ (by omega)];omega
 have s3:IntKind.i64.wrap (((nk+nz+nh:Nat):Int)+(nb:Int))=((nk+nz+nh+nb:Nat):Int):=by rw[IntWalk.i64_in _ (by omega)];omega
 by_cases e1:nk+nz+nh+nb=0
 ·obtain⟨rfl,rfl,rfl,rfl⟩:nk=0∧nz=0∧nh=0∧nb=0:=by omega
  clear s1 s2 s3 e1
  by_cases e2:room=0
  ·subst e2
   go_enter Tryz.func36,Tryz.ntmps36
   go_wp2
   go_ret
   exact⟨ret_bool (by simp),HB.out⟩
  ·have HN:=Hz_ (show (decide (0+0+0+0=0) && decide (room=0))=false by simp[e2])
   rw[HN.out]
   have e3:(room == 0)=false:=by simpa using e2
   go_enter Tryz.func36,Tryz.ntmps36
   go_wp2
   go_ret
   exact⟨rfl,HB.out⟩
 ·have HN:=Hz_ (show (decide (nk+nz+nh+nb=0) && decide (room=0))=false by rw[decide_eq_false e1];rfl)
  rw[HN.out]
  have e3:(((nk+nz+nh+nb:Nat):Int) == 0)=false:=beq_eq_false_iff_ne.2 (by omega)
  have e4:¬ ((nk+nz+nh+nb:Nat):Int)=0:=by omega
  go_enter Tryz.func36,Tryz.ntmps36
  go_wp2
  go_ret
  exact⟨rfl,HB.out⟩
theorem entBody_any (x:Wq.Bd) (A:Option Addr) (c:Nat) (w:World) (hR:Rd w w.heap.size 1 A x.v.length c (bv x.v)) (hc:x.s.1 < 9223372036854775808):
  Calls Tryz.prog 40 #[.agg (bval x A c)] w fun e w'=>e=.returned (.bool (Wq.bdF x))∧Below w.heap.size w w':=by
 have hb0:Below w.heap.size w (w.alloc (.cells (bval x A c) 31)):=(Below.refl _ _).alloc (Nat.le_refl _) _
 have HB:=Hz_ hb0
 have GN:=appendBody_no none 0 0 x A c (w.alloc (.cells (bval x A c) 31))
 have GY:=fun hf=>appendBody_any none 0 0 [] x A c (w.alloc (.cells (bval x A c) 31)) rfl Rd.none_ (hR.go hb0) hf hc (by omega)
 generalize Wq.bdF x=z at GN GY ⊢
 generalize Wq.lB x=l at GY
 unfold bval at GN GY ⊢
 clear hR hc hb0
 cases z
 ·have G:=Hz_ (GN rfl)
  clear GN GY
  go_enter Tryz.func40,Tryz.ntmps40
  go_wp2_with (go_at_call 29;go_must (refine G.out.mono ?_);rintro e w1 ⟨rfl,hb1⟩)
  go_ret
  exact⟨rfl,btn HB.out hb1⟩
 ·have G:=Hz_ (GY rfl)
  clear GN GY
  go_enter Tryz.func40,Tryz.ntmps40
  go_wp2_with (go_at_call 29;go_must (refine G.out.mono ?_);rintro e w1 ⟨v,rfl,hby⟩;obtain⟨A1,c1,hv,ho,hb1⟩:=hby;clear hv ho)
  go_ret
  exact⟨rfl,btn HB.out hb1⟩
structure EV where
 nv:NV
 bA:Option Addr
 bc:Nat
 iA:Option Addr
 ic:Nat
 vv:VV
 sA:Option Addr
 sc:Nat
def eval (x:Ent) (u:EV):Array Value:=#[.int .i64 x.kind,.slice u.nv.A1 u.nv.n1 u.nv.c1,.slice u.nv.A2 u.nv.n2 u.nv.c2,.slice u.nv.A3 u.nv.n3 u.nv.c3,.slice u.nv.A4 u.nv.n4 u.nv.c4,.int .i64 x.body.o,.int .i64 x.body.s.1,.int .i64 x.body.s.2,.slice u.bA x.body.v.length u.bc,.int .i64 x.from_,.slice u.iA x.int.length u.ic,.slice u.vv.kA x.view.known.length u.vv.kc,.slice u.vv.zA x.view.zones.length u.vv.zc,.slice u.vv.hA x.view.held.length u.vv.hc,.slice u.vv.bA x.view.bods.length u.vv.bc,.int .i64 x.view.room,.slice u.sA x.subs.length u.sc]
structure EntRd (w:World) (B:Nat) (u:EV) (x:Ent) (L:List (ZV×Zn)) (M:List (BV×Wq.Bd)) (S:List (SV×Sb)):Prop where
 nt:NtRd w B u.nv x.note
 bd:Rd w B 1 u.bA x.body.v.length u.bc (bv x.body.v)
 it:Rd w B 2 u.iA x.int.length u.ic (sv x.int)
 vw:VwRd w B u.vv x.view L M
 sb:RdSb w B u.sA x.subs.length u.sc S
 ns:sbs S=x.subs
theorem EntRd.go {w w':World} {u:EV} {x:Ent} {L:List (ZV×Zn)} {M:List (BV×Wq.Bd)} {S:List (SV×Sb)} (h:EntRd w w.heap.size u x L M S) (hb:Below w.heap.size w w'):EntRd w' w'.heap.size u x L M S:=⟨h.nt.go hb,h.bd.go hb,h.it.go hb,h.vw.go hb,h.sb.go hb,h.ns⟩
theorem Blk.c17 {w:World} {g:Nat} {t:TypeId} {a0 a1 a2 a3 a4 a5 a6 a7 a8 a9 a10 a11 a12 a13 a14 a15 a16:Value} (h:Blk w g t #[a0,a1,a2,a3,a4,a5,a6,a7,a8,a9,a10,a11,a12,a13,a14,a15,a16]):w.cell? ⟨g,0,none⟩=some a0∧w.cell? ⟨g,1,none⟩=some a1∧w.cell? ⟨g,2,none⟩=some a2∧w.cell? ⟨g,3,none⟩=some a3∧w.cell? ⟨g,4,none⟩=some a4∧w.cell? ⟨g,5,none⟩=some a5∧w.cell? ⟨g,6,none⟩=some a6∧w.cell? ⟨g,7,none⟩=some a7∧w.cell? ⟨g,8,none⟩=some a8∧w.cell? ⟨g,9,none⟩=some a9∧w.cell? ⟨g,10,none⟩=some a10∧w.cell? ⟨g,11,none⟩=some a11∧w.cell? ⟨g,12,none⟩=some a12∧w.cell? ⟨g,13,none⟩=some a13∧w.cell? ⟨g,14,none⟩=some a14∧w.cell? ⟨g,15,none⟩=some a15∧w.cell? ⟨g,16,none⟩=some a16:=⟨h.cell 0,h.cell 1,h.cell 2,h.cell 3,h.cell 4,h.cell 5,h.cell 6,h.cell 7,h.cell 8,h.cell 9,h.cell 10,h.cell 11,h.cell 12,h.cell 13,h.cell 14,h.cell 15,h.cell 16⟩
def entE (x y:Ent):Bool:=decide (x.kind=y.kind) && (ntSame x.note y.note && (bdE x.body y.body && (decide (x.from_=y.from_) && (decide (x.int=y.int) && (vwE x.view y.view && sbsE x.subs y.subs)))))
theorem entE_iff (x y:Ent):entE x y=true↔x=y:=by
 cases x;cases y;simp[entE,ntSame_iff,bdE_iff,vwE_iff,sbsE_iff]
theorem refEntSame_any (u u':EV) (x y:Ent) (L L':List (ZV×Zn)) (M M':List (BV×Wq.Bd)) (S S':List (SV×Sb)) (w:World) (hE:EntRd w w.heap.size u x L M S) (hE':EntRd w w.heap.size u' y L' M' S'):
  Calls Tryz.prog 17 #[.agg (eval x u),.agg (eval y u')] w fun e w'=>e=.returned (.bool (entE x y))∧Below w.heap.size w w':=by
 have G1:=fun (W:World) (hb:Below w.heap.size w W)=>refNtSame_any u.nv u'.nv x.note y.note W (hE.nt.go hb) (hE'.nt.go hb)
 have G2:=fun (W:World) (hb:Below w.heap.size w W)=>refSameBody_any x.body y.body u.bA u'.bA u.bc u'.bc W (hE.bd.go hb) (hE'.bd.go hb)
 have G3:=fun (W:World) (hb:Below w.heap.size w W)=>sameS_any u.iA u'.iA x.int.length u.ic y.int.length u'.ic x.int y.int W rfl rfl (hE.it.go hb) (hE'.it.go hb)
 have G4:=fun (W:World) (hb:Below w.heap.size w W)=>ref13Same_any u.vv u'.vv x.view y.view L L' M M' W (hE.vw.go hb) (hE'.vw.go hb)
 have G5:=fun (W:World) (hb:Below w.heap.size w W)=>refSubs_any u.sA u'.sA x.subs.length u.sc y.subs.length u'.sc S S' W (hE.sb.go hb) (hE'.sb.go hb)
 rw[hE.ns,hE'.ns] at G5
 clear hE hE'
 unfold entE
 generalize ntSame x.note y.note=f1 at G1 ⊢
 generalize bdE x.body y.body=f2 at G2 ⊢
 generalize decide (x.int=y.int)=f3 at G3 ⊢
 generalize vwE x.view y.view=f4 at G4 ⊢
 generalize sbsE x.subs y.subs=f5 at G5 ⊢
 obtain⟨k_,nt,⟨bo,⟨ba,bb⟩,bvx⟩,fr,it,⟨known,zones,held,bods,rm⟩,subs⟩:=x
 obtain⟨k_',nt',⟨bo',⟨ba',bb'⟩,bvx'⟩,fr',it',⟨known',zones',held',bods',rm'⟩,subs'⟩:=y
 obtain⟨⟨A1,n1,c1,A2,n2,c2,A3,n3,c3,A4,n4,c4⟩,bA,bc,iA,ic,⟨kA,kc,zA,zc,hA,hc,vA,vc⟩,sA,sc⟩:=u
 obtain⟨⟨A1',n1',c1',A2',n2',c2',A3',n3',c3',A4',n4',c4'⟩,bA',bc',iA',ic',⟨kA',kc',zA',zc',hA',hc',vA',vc'⟩,sA',sc'⟩:=u'
 unfold eval
 unfold bval at G2
 unfold vval at G4
 unfold NV.val at G1
 dsimp only at G1 G2 G3 G4 G5 ⊢
 generalize bvx.length=nv at *
 generalize bvx'.length=nv' at *
 generalize it.length=ni at *
 generalize it'.length=ni' at *
 generalize known.length=nk at *
 generalize known'.length=nk' at *
 generalize zones.length=nz at *
 generalize zones'.length=nz' at *
 generalize held.length=nh at *
 generalize held'.length=nh' at *
 generalize bods.length=nb at *
 generalize bods'.length=nb' at *
 generalize subs.length=ns at *
 generalize subs'.length=ns' at *
 have G1:=Hz_ G1
 have G2:=Hz_ G2
 have G3:=Hz_ G3
 have G4:=Hz_ G4
 have G5:=Hz_ G5
 have hb0:Below w.heap.size w ((w.alloc (.cells #[.int .i64 k_,.slice A1 n1 c1,.slice A2 n2 c2,.slice A3 n3 c3,.slice A4 n4 c4,.int .i64 bo,.int .i64 ba,.int .i64 bb,.slice bA nv bc,.int .i64 fr,.slice iA ni ic,.slice kA nk kc,.slice zA nz zc,.slice hA nh hc,.slice vA nb vc,.int .i64 rm,.slice sA ns sc] 38)).alloc (.cells #[.int .i64 k_',.slice A1' n1' c1',.slice A2' n2' c2',.slice A3' n3' c3',.slice A4' n4' c4',.int .i64 bo',.int .i64 ba',.int .i64 bb',.slice bA' nv' bc',.int .i64 fr',.slice iA' ni' ic',.slice kA' nk' kc',.slice zA' nz' zc',.slice hA' nh' hc',.slice vA' nb' vc',.int .i64 rm',.slice sA' ns' sc'] 38)):=((Below.refl _ _).alloc (Nat.le_refl _) _).alloc (by simp) _
 have hX:=(Blk.new w 38 #[.int .i64 k_,.slice A1 n1 c1,.slice A2 n2 c2,.slice A3 n3 c3,.slice A4 n4 c4,.int .i64 bo,.int .i64 ba,.int .i64 bb,.slice bA nv bc,.int .i64 fr,.slice iA ni ic,.slice kA nk kc,.slice zA nz zc,.slice hA nh hc,.slice vA nb vc,.int .i64 rm,.slice sA ns sc]).alloc (.cells #[.int .i64 k_',.slice A1' n1' c1',.slice A2' n2' c2',.slice A3' n3' c3',.slice A4' n4' c4',.int .i64 bo',.int .i64 ba',.int .i64 bb',.slice bA' nv' bc',.int .i64 fr',.slice iA' ni' ic',.slice kA' nk' kc',.slice zA' nz' zc',.slice hA' nh' hc',.slice vA' nb' vc',.int .i64 rm',.slice sA' ns' sc'] 38)
 have hY:=Blk.new (w.alloc (.cells #[.int .i64 k_,.slice A1 n1 c1,.slice A2 n2 c2,.slice A3 n3 c3,.slice A4 n4 c4,.int .i64 bo,.int .i64 ba,.int .i64 bb,.slice bA nv bc,.int .i64 fr,.slice iA ni ic,.slice kA nk kc,.slice zA nz zc,.slice hA nh hc,.slice vA nb vc,.int .i64 rm,.slice sA ns sc] 38)) 38 #[.int .i64 k_',.slice A1' n1' c1',.slice A2' n2' c2',.slice A3' n3' c3',.slice A4' n4' c4',.int .i64 bo',.int .i64 ba',.int .i64 bb',.slice bA' nv' bc',.int .i64 fr',.slice iA' ni' ic',.slice kA' nk' kc',.slice zA' nz' zc',.slice hA' nh' hc',.slice vA' nb' vc',.int .i64 rm',.slice sA' ns' sc']
 rw[World.size_alloc] at hY
 generalize hW0:(w.alloc (.cells #[.int .i64 k_,.slice A1 n1 c1,.slice A2 n2 c2,.slice A3 n3 c3,.slice A4 n4 c4,.int .i64 bo,.int .i64 ba,.int .i64 bb,.slice bA nv bc,.int .i64 fr,.slice iA ni ic,.slice kA nk kc,.slice zA nz zc,.slice hA nh hc,.slice vA nb vc,.int .i64 rm,.slice sA ns sc] 38)).alloc (.cells #[.int .i64 k_',.slice A1' n1' c1',.slice A2' n2' c2',.slice A3' n3' c3',.slice A4' n4' c4',.int .i64 bo',.int .i64 ba',.int .i64 bb',.slice bA' nv' bc',.int .i64 fr',.slice iA' ni' ic',.slice kA' nk' kc',.slice zA' nz' zc',.slice hA' nh' hc',.slice vA' nb' vc',.int .i64 rm',.slice sA' ns' sc'] 38)=W0 at hb0 hX hY
 have HX:=Hz_ fun (W:World) (hb:Below W0.heap.size W0 W)=>(⟨(hX.go hb).c17,(hY.go hb).c17⟩:_∧_)
 have HW0:=Hz_ hW0
 have k:Below W0.heap.size W0 W0:=Below.refl _ _
 have kw:Below w.heap.size w W0:=hb0
 obtain⟨⟨p0,p1,p2,p3,p4,p5,p6,p7,p8,p9,p10,p11,p12,p13,p14,p15,p16⟩,⟨q0,q1,q2,q3,q4,q5,q6,q7,q8,q9,q10,q11,q12,q13,q14,q15,q16⟩⟩:=HX.out _ k
 clear hX hY hW0 hb0
 go_enter Tryz.func17,Tryz.ntmps17
 go_upto_region 1 with fail
 rw[HW0.out]
 by_cases e0:k_=k_'
 rotate_left
 ·skip
  go_wp2
  go_ret
  exact⟨ret_bool (by simp[e0]),kw⟩
 subst e0
 cases f1
 ·skip
  go_wp2_with (first | (go_at_call 61;go_must (refine(G1.out _ kw).mono ?_);rintro e w' ⟨rfl,hb'⟩;have k:=btn k hb';have kw:=btn kw hb';clear hb';obtain⟨⟨p0,p1,p2,p3,p4,p5,p6,p7,p8,p9,p10,p11,p12,p13,p14,p15,p16⟩,⟨q0,q1,q2,q3,q4,q5,q6,q7,q8,q9,q10,q11,q12,q13,q14,q15,q16⟩⟩:=HX.out _ k))
  go_ret
  exact⟨ret_bool (by simp),kw⟩
 cases f2
 ·skip
  go_wp2_with (first | (go_at_call 61;go_must (refine(G1.out _ kw).mono ?_);rintro e w' ⟨rfl,hb'⟩;have k:=btn k hb';have kw:=btn kw hb';clear hb';obtain⟨⟨p0,p1,p2,p3,p4,p5,p6,p7,p8,p9,p10,p11,p12,p13,p14,p15,p16⟩,⟨q0,q1,q2,q3,q4,q5,q6,q7,q8,q9,q10,q11,q12,q13,q14,q15,q16⟩⟩:=HX.out _ k) | (go_at_call 45;go_must (refine(G2.out _ kw).mono ?_);rintro e w' ⟨rfl,hb'⟩;have k:=btn k hb';have kw:=btn kw hb';clear hb';obtain⟨⟨p0,p1,p2,p3,p4,p5,p6,p7,p8,p9,p10,p11,p12,p13,p14,p15,p16⟩,⟨q0,q1,q2,q3,q4,q5,q6,q7,q8,q9,q10,q11,q12,q13,q14,q15,q16⟩⟩:=HX.out _ k))
  go_ret
  exact⟨ret_bool (by simp),kw⟩
 by_cases e1:fr=fr'
 rotate_left
 ·skip
  go_wp2_with (first | (go_at_call 61;go_must (refine(G1.out _ kw).mono ?_);rintro e w' ⟨rfl,hb'⟩;have k:=btn k hb';have kw:=btn kw hb';clear hb';obtain⟨⟨p0,p1,p2,p3,p4,p5,p6,p7,p8,p9,p10,p11,p12,p13,p14,p15,p16⟩,⟨q0,q1,q2,q3,q4,q5,q6,q7,q8,q9,q10,q11,q12,q13,q14,q15,q16⟩⟩:=HX.out _ k) | (go_at_call 45;go_must (refine(G2.out _ kw).mono ?_);rintro e w' ⟨rfl,hb'⟩;have k:=btn k hb';have kw:=btn kw hb';clear hb';obtain⟨⟨p0,p1,p2,p3,p4,p5,p6,p7,p8,p9,p10,p11,p12,p13,p14,p15,p16⟩,⟨q0,q1,q2,q3,q4,q5,q6,q7,q8,q9,q10,q11,q12,q13,q14,q15,q16⟩⟩:=HX.out _ k))
  go_ret
  exact⟨ret_bool (by simp),kw⟩
 subst e1
 cases f3
 ·skip
  go_wp2_with (first | (go_at_call 61;go_must (refine(G1.out _ kw).mono ?_);rintro e w' ⟨rfl,hb'⟩;have k:=btn k hb';have kw:=btn kw hb';clear hb';obtain⟨⟨p0,p1,p2,p3,p4,p5,p6,p7,p8,p9,p10,p11,p12,p13,p14,p15,p16⟩,⟨q0,q1,q2,q3,q4,q5,q6,q7,q8,q9,q10,q11,q12,q13,q14,q15,q16⟩⟩:=HX.out _ k) | (go_at_call 45;go_must (refine(G2.out _ kw).mono ?_);rintro e w' ⟨rfl,hb'⟩;have k:=btn k hb';have kw:=btn kw hb';clear hb';obtain⟨⟨p0,p1,p2,p3,p4,p5,p6,p7,p8,p9,p10,p11,p12,p13,p14,p15,p16⟩,⟨q0,q1,q2,q3,q4,q5,q6,q7,q8,q9,q10,q11,q12,q13,q14,q15,q16⟩⟩:=HX.out _ k) | (go_at_call 62;go_must (refine(G3.out _ kw).mono ?_);rintro e w' ⟨rfl,hb'⟩;have k:=btn k hb';have kw:=btn kw hb';clear hb';obtain⟨⟨p0,p1,p2,p3,p4,p5,p6,p7,p8,p9,p10,p11,p12,p13,p14,p15,p16⟩,⟨q0,q1,q2,q3,q4,q5,q6,q7,q8,q9,q10,q11,q12,q13,q14,q15,q16⟩⟩:=HX.out _ k))
  go_ret
  exact⟨ret_bool (by simp),kw⟩
 cases f4
 ·skip
  go_wp2_with (first | (go_at_call 61;go_must (refine(G1.out _ kw).mono ?_);rintro e w' ⟨rfl,hb'⟩;have k:=btn k hb';have kw:=btn kw hb';clear hb';obtain⟨⟨p0,p1,p2,p3,p4,p5,p6,p7,p8,p9,p10,p11,p12,p13,p14,p15,p16⟩,⟨q0,q1,q2,q3,q4,q5,q6,q7,q8,q9,q10,q11,q12,q13,q14,q15,q16⟩⟩:=HX.out _ k) | (go_at_call 45;go_must (refine(G2.out _ kw).mono ?_);rintro e w' ⟨rfl,hb'⟩;have k:=btn k hb';have kw:=btn kw hb';clear hb';obtain⟨⟨p0,p1,p2,p3,p4,p5,p6,p7,p8,p9,p10,p11,p12,p13,p14,p15,p16⟩,⟨q0,q1,q2,q3,q4,q5,q6,q7,q8,q9,q10,q11,q12,q13,q14,q15,q16⟩⟩:=HX.out _ k) | (go_at_call 62;go_must (refine(G3.out _ kw).mono ?_);rintro e w' ⟨rfl,hb'⟩;have k:=btn k hb';have kw:=btn kw hb';clear hb';obtain⟨⟨p0,p1,p2,p3,p4,p5,p6,p7,p8,p9,p10,p11,p12,p13,p14,p15,p16⟩,⟨q0,q1,q2,q3,q4,q5,q6,q7,q8,q9,q10,q11,q12,q13,q14,q15,q16⟩⟩:=HX.out _ k) | (go_at_call 22;go_must (refine(G4.out _ kw).mono ?_);rintro e w' ⟨rfl,hb'⟩;have k:=btn k hb';have kw:=btn kw hb';clear hb';obtain⟨⟨p0,p1,p2,p3,p4,p5,p6,p7,p8,p9,p10,p11,p12,p13,p14,p15,p16⟩,⟨q0,q1,q2,q3,q4,q5,q6,q7,q8,q9,q10,q11,q12,q13,q14,q15,q16⟩⟩:=HX.out _ k))
  go_ret
  exact⟨ret_bool (by simp),kw⟩
 cases f5
 all_goals
  go_wp2_with (first | (go_at_call 61;go_must (refine(G1.out _ kw).mono ?_);rintro e w' ⟨rfl,hb'⟩;have k:=btn k hb';have kw:=btn kw hb';clear hb';obtain⟨⟨p0,p1,p2,p3,p4,p5,p6,p7,p8,p9,p10,p11,p12,p13,p14,p15,p16⟩,⟨q0,q1,q2,q3,q4,q5,q6,q7,q8,q9,q10,q11,q12,q13,q14,q15,q16⟩⟩:=HX.out _ k) | (go_at_call 45;go_must (refine(G2.out _ kw).mono ?_);rintro e w' ⟨rfl,hb'⟩;have k:=btn k hb';have kw:=btn kw hb';clear hb';obtain⟨⟨p0,p1,p2,p3,p4,p5,p6,p7,p8,p9,p10,p11,p12,p13,p14,p15,p16⟩,⟨q0,q1,q2,q3,q4,q5,q6,q7,q8,q9,q10,q11,q12,q13,q14,q15,q16⟩⟩:=HX.out _ k) | (go_at_call 62;go_must (refine(G3.out _ kw).mono ?_);rintro e w' ⟨rfl,hb'⟩;have k:=btn k hb';have kw:=btn kw hb';clear hb';obtain⟨⟨p0,p1,p2,p3,p4,p5,p6,p7,p8,p9,p10,p11,p12,p13,p14,p15,p16⟩,⟨q0,q1,q2,q3,q4,q5,q6,q7,q8,q9,q10,q11,q12,q13,q14,q15,q16⟩⟩:=HX.out _ k) | (go_at_call 22;go_must (refine(G4.out _ kw).mono ?_);rintro e w' ⟨rfl,hb'⟩;have k:=btn k hb';have kw:=btn kw hb';clear hb';obtain⟨⟨p0,p1,p2,p3,p4,p5,p6,p7,p8,p9,p10,p11,p12,p13,p14,p15,p16⟩,⟨q0,q1,q2,q3,q4,q5,q6,q7,q8,q9,q10,q11,q12,q13,q14,q15,q16⟩⟩:=HX.out _ k) | (go_at_call 23;go_must (refine(G5.out _ kw).mono ?_);rintro e w' ⟨rfl,hb'⟩;have k:=btn k hb';have kw:=btn kw hb';clear hb';obtain⟨⟨p0,p1,p2,p3,p4,p5,p6,p7,p8,p9,p10,p11,p12,p13,p14,p15,p16⟩,⟨q0,q1,q2,q3,q4,q5,q6,q7,q8,q9,q10,q11,q12,q13,q14,q15,q16⟩⟩:=HX.out _ k))
  go_ret
  exact⟨ret_bool (by simp),kw⟩
end Go.Proofs.YtmbeahbgafkjfaaGreatDoor
