/- Lemmas, layer 40. -/
import Derived.Test.YtmbeahbgafkjfaaGreatDoorCards
import Derived.Test.YtmbeahbgafkjfaaGreatDoorTie
import Derived.Deep.DeepHandedRow
import Derived.Lib.LaidTab
import Derived.Test.YtmbeahbgafkjfaaGreatDoorKp34
import Derived.Test.YtmbeahbgafkjfaaGreatDoorKp39
set_option maxRecDepth 100000
set_option linter.unusedSimpArgs false
set_option maxHeartbeats 16000000
namespace Go.Proofs.YtmbeahbgafkjfaaGreatDoor
open Go.Proofs.Tryz Go.RowKit
section
theorem Jff {w:World} {B:Nat} {u:VV} {v:Vw} {L:List (ZV×Zn)} {M:List (BV×Wq.Bd)} (hV:JU w B u v L M) (hv:Ut v=true):Joq v L M:=by
 obtain⟨f1,f2,f3,f4⟩:=Wq.QY hv;have hnk:=Wq.JcJ f1;have hnz:=JcO f2;have hnh:v.held.length<=256:=by
  rcases Wq.ZW f3 (by omega) with h | h
  ·omega
  ·rw[h];simp
 unfold caF at f4;simp only[Ea,Ej] at f4;obtain⟨⟨r0,r1,hn⟩,hnw,hus⟩:=f4;refine⟨by omega,⟨by omega,fun p hp=>?_⟩,by omega,by omega,fun p hp=>?_⟩
 ·have h1:=Wq.JcJ (JbJ f2 p.2 (by rw[<-hV.nz];unfold Jv;exact EL hp));have h2:=(hV.z.each p hp).1;omega
 ·have:=(Jah hnw p.2 (by rw[<-hV.nb];exact EL hp)).1;omega
theorem Jab (u:VV) (v:Vw) (L:List (ZV×Zn)) (M:List (BV×Wq.Bd)) (x:Wq.Bd) (xA:OA) (xc:Nat) (w:World) (hV:JU w w.heap.size u v L M) (hX:Rd w w.heap.size 1 xA x.v.length xc (bv x.v)):
  Calls prog 78 #[.agg (Jy v u),.agg (JO x xA xc)] w (TkV w (Xq v x) (if Xq v x=0 then JaS v x else Wq.vw0)):=by
 have hi:(prog.info? 35).map (·.size)=some 5:=by kernel_rfl
 have HI:=Ja hi;have hB0:Jm (((w.alloc (.cells (Jy v u) 35)).alloc (.cells (JO x xA xc) 31)).alloc (.cells (Jy Wq.vw0 UE) 35)) w.heap.size 35 (Jy v u):=((Jm.new w _ _).alloc _).alloc _;have hB1:=(Jm.new (w.alloc (.cells (Jy v u) 35)) 31 (JO x xA xc)).alloc (.cells (Jy Wq.vw0 UE) 35);have hB2:=Jm.new ((w.alloc (.cells (Jy v u) 35)).alloc (.cells (JO x xA xc) 31)) 35 (Jy Wq.vw0 UE);have k0:Bz w (((w.alloc (.cells (Jy v u) 35)).alloc (.cells (JO x xA xc) 31)).alloc (.cells (Jy Wq.vw0 UE) 35)):=((Zr.alloc Zl _).alloc (by simp) _).alloc (by simp;omega) _;rw[El] at hB1;rw[El,El] at hB2;have hs0:(((w.alloc (.cells (Jy v u) 35)).alloc (.cells (JO x xA xc) 31)).alloc (.cells (Jy Wq.vw0 UE) 35)).heap.size=w.heap.size+1+1+1:=by simp
 obtain⟨W0,hW0⟩:∃W,W=((w.alloc (.cells (Jy v u) 35)).alloc (.cells (JO x xA xc) 31)).alloc (.cells (Jy Wq.vw0 UE) 35):=⟨_,rfl⟩;rw[<-hW0] at hB0 hB1 hB2 k0 hs0;have HW0:=Ja hW0.symm;have HSW:=Ja (show w.heap.size < W0.heap.size by omega);have HS3:=Ja (show w.heap.size+1+1 < W0.heap.size by omega);have HSZ:=Ja (show W0.heap.size<=W0.heap.size from Ek _);have HSZ0:=Ja (show W0.heap.size<=W0.heap.size from Ek _);have K0:=Ja k0;have HB0:=Ja (fun (W:World) (hb:Bz W0 W)=>(show Jm W w.heap.size 35 #[.slice u.kA v.known.length u.kc,.slice u.zA v.zones.length u.zc,.slice u.hA v.held.length u.hc,.slice u.bA v.bods.length u.bc,.int .i64 v.room] from hB0.go hb).five);have HB1:=Ja (fun (W:World) (hb:Bz W0 W)=>(show Jm W (w.heap.size+1) 31 #[.int .i64 x.o,.int .i64 x.s.1,.int .i64 x.s.2,.slice xA x.v.length xc] from hB1.go hb).quad);have HB2:=Ja (fun (W:World) (hb:Bz W0 W)=>(show Jm W (w.heap.size+1+1) 35 #[.slice none 0 0,.slice none 0 0,.slice none 0 0,.slice none 0 0,.int .i64 0] from hB2.go hb));have G1:=fun (W:World) (hb:Bz w W)=>XR u v L M W (hV.go hb);have hvv:Jy v u=#[.slice u.kA v.known.length u.kc,.slice u.zA v.zones.length u.zc,.slice u.hA v.held.length u.hc,.slice u.bA v.bods.length u.bc,.int .i64 v.room]:=rfl;have hbv:JO x xA xc=#[.int .i64 x.o,.int .i64 x.s.1,.int .i64 x.s.2,.slice xA x.v.length xc]:=rfl;have hzv:Jy Wq.vw0 UE=#[.slice none 0 0,.slice none 0 0,.slice none 0 0,.slice none 0 0,.int .i64 0]:=rfl;rw[hvv,hbv,hzv] at HW0;rw[hvv] at G1;rw[hvv,hbv];clear hB0 hB1 hB2 k0 hs0 hW0 hzv hi;have hvv_:=hvv;clear hvv;have hbE:Xq v x=if (Ut v && Wq.bdF x)=true then (if JV v.held x=true then 0 else 13) else 1:=rfl;rcases hv:Ut v with _ | _
 ·rw[hv] at G1 hbE;rw[show Xq v x=1 from hbE,Ef (by decide)];have G1:=Ja (G1 _ K0.out);clear hV hX hbE hv hbv hvv_;go_enter func78,ntmps78;go_upto_region 1 with fail;rw[HW0.out];obtain⟨p0,p1,p2,p3,p4⟩:=HB0.out _ Zr;go_wp2_with fail;refine Jd G1.out fun w1 hb1=>?_;have kw:=hb1;have kk:=Jg K0.out hb1;clear p0 p1 p2 p3 p4 hb1;have hZ:=HB2.out _ kw;go_wp2_with (refine Je rfl 35 _ _ rfl (w.heap.size+1+1) 35 _ #[.slice none 0 0,.slice none 0 0,.slice none 0 0,.slice none 0 0,.int .i64 0] rfl rfl hZ HI.out rfl (by simp[Value.oneCell']) ?_;intro Wd hblk hg);exact EF (Js rfl _ _ (w.heap.size+1+1) 35 _ _ _ rfl hblk underlying35 rfl HI.out) rfl (TkV.no (kk.trans (Jb hg kk.size (fun k hk=>by cases hk;omega))))
 rw[hv] at G1;have G1:=Ja (G1 _ K0.out);have hvs:=Jff hV hv;have hca:=(Wq.QY hv).2.2.2;have G2:=fun (W:World)=>QE x xA xc W;rw[hbv] at G2;rcases hx:Wq.bdF x with _ | _
 ·rw[hv,hx] at hbE;rw[hx] at G2;rw[show Xq v x=1 from hbE,Ef (by decide)];have G2:=Ja G2;clear hV hX hbE hv hbv hx hvs hca;go_enter func78,ntmps78;go_upto_region 1 with fail;rw[HW0.out];obtain⟨p0,p1,p2,p3,p4⟩:=HB0.out _ Zr;go_wp2_with fail;refine Jd G1.out fun w1 hb1=>?_;have kw:=hb1;have kk:=Jg K0.out hb1;clear p0 p1 p2 p3 p4 hb1;obtain⟨q0,q1,q2,q3⟩:=HB1.out _ kw;go_wp2_with fail;refine Jd (G2.out w1) fun w2 hb2=>?_;have kk:=Jg kk hb2;have kw:=Jg kw hb2;clear q0 q1 q2 q3 hb2;have hZ:=HB2.out _ kw;go_wp2_with (refine Je rfl 35 _ _ rfl (w.heap.size+1+1) 35 _ #[.slice none 0 0,.slice none 0 0,.slice none 0 0,.slice none 0 0,.int .i64 0] rfl rfl hZ HI.out rfl (by simp[Value.oneCell']) ?_;intro Wd hblk hg);exact EF (Js rfl _ _ (w.heap.size+1+1) 35 _ _ _ rfl hblk underlying35 rfl HI.out) rfl (TkV.no (kk.trans (Jb hg kk.size (fun k hk=>by cases hk;omega))))
 rw[hx] at G2;have G2:=Ja G2;have G3:=fun (W:World) (hb:Bz w W)=>Kg u v L M xA xc x W (hV.go hb);rw[hbv,hvv_] at G3;rw[hv,hx] at hbE;rcases hw:JV v.held x with _ | _
 ·rw[hw] at G3 hbE;rw[show Xq v x=13 from hbE,Ef (by decide)];have G3:=Ja G3;clear hV hX hbE hv hbv hx hw hvs hca hvv_;go_enter func78,ntmps78;go_upto_region 1 with fail;rw[HW0.out];obtain⟨p0,p1,p2,p3,p4⟩:=HB0.out _ Zr;go_wp2_with fail;refine Jd G1.out fun w1 hb1=>?_;have kw:=hb1;have kk:=Jg K0.out hb1;clear p0 p1 p2 p3 p4 hb1;obtain⟨q0,q1,q2,q3⟩:=HB1.out _ kw;go_wp2_with fail;refine Jd (G2.out w1) fun w2 hb2=>?_;have kk:=Jg kk hb2;have kw:=Jg kw hb2;clear q0 q1 q2 q3 hb2;obtain⟨p0,p1,p2,p3,p4⟩:=HB0.out _ kw;obtain⟨q0,q1,q2,q3⟩:=HB1.out _ kw;go_wp2_with fail;refine Jd (G3.out _ kk) fun w3 hb3=>?_;have kk:=Jg kk hb3;have kw:=Jg kw hb3;clear p0 p1 p2 p3 p4 q0 q1 q2 q3 hb3;have hZ:=HB2.out _ kw;go_wp2_with (refine Je rfl 35 _ _ rfl (w.heap.size+1+1) 35 _ #[.slice none 0 0,.slice none 0 0,.slice none 0 0,.slice none 0 0,.int .i64 0] rfl rfl hZ HI.out rfl (by simp[Value.oneCell']) ?_;intro Wd hblk hg);exact EF (Js rfl _ _ (w.heap.size+1+1) 35 _ _ _ rfl hblk underlying35 rfl HI.out) rfl (TkV.no (kk.trans (Jb hg kk.size (fun k hk=>by cases hk;omega))))
 rw[hw] at G3 hbE;rw[show Xq v x=0 from hbE,Ei rfl];have G3:=Ja G3;have G4:=fun (W:World) (hb:Bz w W)=>YK u v L M W (hV.go hb) hvs;rw[hvv_] at G4;have G4:=Ja G4;have G5:=fun (W:World) (hb:Bz w W)=>Jfh u.bA xA v.bods.length u.bc xc M v.room x W (hV.b.go hb) (hX.go hb) (by rw[hV.nb];exact hca) hx;rw[hbv,hV.nb] at G5;have G5:=Ja G5;clear hV hX hbE hv hbv hx hw hvs hca hvv_;obtain⟨known,zones,held,bods,room⟩:=v;obtain⟨kA,kc,zA,zc,hA,hc,bA,bc⟩:=u;unfold JaS;unfold Jy at G4;dsimp only at HW0 HB0 G1 G3 G4 G5 ⊢;generalize hpb:Jgv bods room x=pb at G5 ⊢;obtain⟨nk,hek⟩:∃y,y=known.length:=⟨_,rfl⟩;obtain⟨nz,hez⟩:∃y,y=zones.length:=⟨_,rfl⟩;obtain⟨nh,heh⟩:∃y,y=held.length:=⟨_,rfl⟩;obtain⟨nb,heb⟩:∃y,y=bods.length:=⟨_,rfl⟩;rw[<-hek,<-hez,<-heh,<-heb] at HW0 HB0 G1 G3 ⊢;rw[<-heb] at G5;rw[<-hek,<-hez,<-heh,<-heb] at G4;have HEK:=Ja hek;have HEZ:=Ja hez;have HEH:=Ja heh;have HEB:=Ja heb;clear hpb hek hez heh heb;go_enter func78,ntmps78;go_upto_region 1 with fail;rw[HW0.out];obtain⟨p0,p1,p2,p3,p4⟩:=HB0.out _ Zr;go_wp2_with fail;refine Jd G1.out fun w1 hb1=>?_;have kw:=hb1;have kk:=Jg K0.out hb1;clear p0 p1 p2 p3 p4 hb1;obtain⟨q0,q1,q2,q3⟩:=HB1.out _ kw;go_wp2_with fail;refine Jd (G2.out w1) fun w2 hb2=>?_;have kk:=Jg kk hb2;have kw:=Jg kw hb2;clear q0 q1 q2 q3 hb2;obtain⟨p0,p1,p2,p3,p4⟩:=HB0.out _ kw;obtain⟨q0,q1,q2,q3⟩:=HB1.out _ kw;go_wp2_with fail;refine Jd (G3.out _ kk) fun w3 hb3=>?_;have kk:=Jg kk hb3;have kw:=Jg kw hb3;clear p0 p1 p2 p3 p4 q0 q1 q2 q3 hb3;obtain⟨p0,p1,p2,p3,p4⟩:=HB0.out _ kw;go_wp2_with fail;refine(G4.out _ kk).mono ?_;rintro e w5 ⟨⟨kA',kc',zA',zc',hA',hc',bA',bc'⟩,rfl,⟨L5,M5,hv5⟩,hb5⟩;have kk:=Jg kk hb5;have kw:=Jg kw hb5;have hsz5:=kw.size;have HV5:=Ja hv5;clear p0 p1 p2 p3 p4 hb5 hv5;dsimp only;go_upto_region 6 with fail;obtain⟨W6,hW6⟩:∃W,W=w5.alloc (.cells #[.slice kA' nk kc',.slice zA' nz zc',.slice hA' nh hc',.slice bA' nb bc',.int .i64 room] 35):=⟨_,rfl⟩;have z0:Jm W6 w5.heap.size 35 #[.slice kA' nk kc',.slice zA' nz zc',.slice hA' nh hc',.slice bA' nb bc',.int .i64 room]:=by rw[hW6];exact Jm.new w5 _ _
 have k6:Bz w5 W6:=by rw[hW6];exact Zr.alloc Zl _
 have HV6:=Ja (HV5.out.go k6);have hg2:W0.heap.size<=w5.heap.size:=hsz5;have kk:=Jg kk k6;have kw:=Jg kw k6;rw[<-hW6];clear hW6 k6;generalize w5.heap.size=gO at z0 hg2 ⊢;have HZ0:=Ja z0;have HGO:=Ja hg2;clear z0 hg2 HV5;obtain⟨p0,p1,p2,p3,p4⟩:=HB0.out _ kw;obtain⟨q0,q1,q2,q3⟩:=HB1.out _ kw;go_wp2_with fail;refine(G5.out _ kk).mono ?_;rintro e w7 ⟨A6,k6,c6,rfl,⟨N7,hN7,hn7⟩,hb7⟩;have kk:=Jg kk hb7;have kw:=Jg kw hb7;have hz7:=HZ0.out.go hb7;have hv7:=HV6.out.go hb7;have hl7:pb.length=k6:=by rw[<-hn7,Jt];exact hN7.len
 have x3:=hz7.cell 3;have f3:=hz7.frozen 3;have hVR:JU w7 w7.heap.size ⟨kA',kc',zA',zc',hA',hc',A6,c6⟩ ⟨known,zones,held,pb,room⟩ L5 N7:=⟨hv7.k,hv7.z,hv7.nz,hv7.h,by rw[hl7];exact hN7,hn7⟩;have hu:JF gO w7 (w7.setCell ⟨gO,3,none⟩ (.slice A6 k6 c6)):=JF.set_ w7 (p:=⟨gO,3,none⟩) rfl _;have hx7:Jm (w7.setCell ⟨gO,3,none⟩ (.slice A6 k6 c6)) gO 35 #[.slice kA' nk kc',.slice zA' nz zc',.slice hA' nh hc',.slice A6 k6 c6,.int .i64 room]:=hz7.set_ 3 _;have hVR:=hVR.offV hz7 hu;have hs7:(w7.setCell ⟨gO,3,none⟩ (.slice A6 k6 c6)).heap.size=w7.heap.size:=by simp
 have hwG:w.heap.size<=gO:=by have:=HSW.out;have:=HGO.out;omega
 have hZ:=HB2.out _ (JJ kw hu kw.size HGO.out);have kk:=JJ kk hu kk.size hwG;have HVR:=Ja hVR;have HX7:=Ja hx7;have HS7:=Ja hs7;have HL7:=Ja hl7;clear p0 p1 p2 p3 p4 q0 q1 q2 q3 hN7 hn7 hb7 hz7 hv7 hl7 hVR hx7 hs7 hu kw;go_upto_region 7 with fail;clear x3 f3;generalize w7.setCell ⟨gO,3,none⟩ (.slice A6 k6 c6)=w8 at HVR HX7 HS7 hZ kk ⊢;obtain⟨x0,x1,x2,x3,x4⟩:=HX7.out.five;go_wp2_with (refine Je rfl 35 _ _ rfl (w.heap.size+1+1) 35 _ #[.slice kA' nk kc',.slice zA' nz zc',.slice hA' nh hc',.slice A6 k6 c6,.int .i64 room] rfl rfl hZ HI.out rfl (by simp[Value.oneCell']) ?_;intro Wd hblk hg);refine EF (Js rfl _ _ (w.heap.size+1+1) 35 _ _ _ rfl hblk underlying35 rfl HI.out) rfl ?_;have hbut:JF (w.heap.size+1+1) w8 Wd:=JF.grown hg;refine⟨⟨kA',kc',zA',zc',hA',hc',A6,c6⟩,by unfold Jy;dsimp only;rw[<-HEK.out,<-HEZ.out,<-HEH.out,HL7.out];rfl,⟨L5,N7,(HVR.out.offV (show Jm w8 (w.heap.size+1+1) 35 #[.slice none 0 0,.slice none 0 0,.slice none 0 0,.slice none 0 0,.int .i64 0] from hZ) hbut).more (by rw[<-HS7.out];exact hbut.size)⟩,kk.trans (Jb hg kk.size (fun r hr=>by cases hr;omega))⟩
theorem Jb9 {w:World} {B:Nat} {V:Vw} {u:VV} {L:List (ZV×Zn)} {M:List (BV×Wq.Bd)} (h:JU w B u V L M) (hv:Ut V=true):∀p∈M,p.2.v.length<=140737488355328:=fun p hp=>by
 have h1:p.2∈V.bods:=by rw[<-h.nb];exact EL hp
 have h2:=(Wq.Zs _).1 ((OD _ _).1 ((JaK _).1 hv).a |>.1 p.2 h1).1;omega
theorem Jai {T:List Sb} (h:Qy T=true):T.length<=16/\(∀s∈T,s.int.length<=128/\s.ses=0/\s.seq=0)/\T.Pairwise fun a b=>a.from_ < b.from_:=by
 unfold Qy at h;rw[Ea,Ej] at h;refine⟨h.2,fun s hs=>?_,((JgI _ _).1 h.1).2⟩;obtain⟨_,h2,h3⟩:=Wq.Jc6 h.1 (by omega) s hs;unfold sbZ at h3;simp only[Ea,Ej] at h3;exact⟨Sn.XV h2,h3.1⟩
structure JlL (ue:EV) (x:Qw):Prop where
 c:x.body.s.1 < 9223372036854775808
 s1:ue.nv.n1+ue.nv.n2+ue.nv.n3+ue.nv.n4<=9223372036854775807
 s2:x.view.known.length+x.view.zones.length+x.view.held.length+x.view.bods.length<=9223372036854775807
theorem YU.to {w w':World} {e:Ending} {V:Vw} {T:List Sb} {x:Qw} (h:YU w (Ut V && (Qy T && Xd x)) (JjB V T x) (Jkl V x) (Jm7 T x) e w'):Jdw w (JbS V T x) (JcP V T x) (Ja6 V T x) e w':=by
 unfold YU at h;unfold JcP Ja6;unfold JbS;by_cases q:(Ut V && (Qy T && Xd x))=true
 ·rw[Ei q] at h;rw[Ei q];exact h
 ·rw[Ef q] at h;rw[Ef q,Ef (by decide),Ef (by decide)];exact h
theorem JfE (u:VV) (V:Vw) (L:List (ZV×Zn)) (M:List (BV×Wq.Bd)) (sA:OA) (n sc:Nat) (S:List (SV×Sb)) (ue:EV) (x:Qw) (w:World) (hT:UW w) (hV:JU w w.heap.size u V L M) (hS:QM w w.heap.size sA n sc S) (hE:Oc w w.heap.size ue x) (hz:JlL ue x):
  Calls prog 20 #[.agg (Jy V u),.slice sA n sc,.agg (eval x ue)] w (Jdw w (JbS V (JK S) x) (JcP V (JK S) x) (Ja6 V (JK S) x)):=by
 obtain⟨L',M',S',hE⟩:=hE;have G1:=fun (W:World) (hb:Bz w W)=>Yi u V L M W (hT.below hb) (hV.go hb);have G2:=fun (W:World) (hb:Bz w W)=>JbU sA n sc S W (hS.go hb);have G3:=fun (W:World) (hb:Bz w W)=>Kh ue x L' M' S' W (hT.below hb) (hE.go hb) hz.c hz.s1 hz.s2;have hn:n=(JK S).length:=by rw[JX];exact hS.len.symm
 have hin:Qy (JK S)=true->∀p∈S,p.2.int.length<=1000000:=fun h2 p hp=>by
  have:=((Jai h2).2.1 p.2 (EL hp)).1;omega
 have h6:Qy (JK S)=true->n<=1000000:=fun h2=>by have:=(Jai h2).1;omega
 have G4:=fun (h2:Qy (JK S)=true) (W:World) (hb:Bz w W)=>JgW sA n sc S W (hS.go hb) (h6 h2) (hin h2);refine(Jky (V:=V) (T:=JK S) (I:=x.int) (E:=JjB V (JK S) x) (T':=Jm7 (JK S) x) (V':=Jkl V x) G1 G2 G3 G4 hn h6 fun hb=>?_).mono fun _ _ h=>YU.to h;simp only[Ea] at hb;obtain⟨h1,h2,h3⟩:=hb;clear G1 G2 G3 G4;obtain⟨r1,r2,r3⟩:=Jai h2;have hk:x.kind=1\/x.kind=2\/x.kind=3\/x.kind=4\/x.kind=5:=Classical.byContradiction fun q=>by
  rw[JeS x q] at h3;cases h3
 obtain⟨kind,note,body,from_,int,view,subs⟩:=x;have G5:=fun (W:World) (hb:Bz w W)=>Ja9 u V L M ue.nv note W (hT.below hb) (hV.go hb) (hE.nt.go hb) (Jb9 hV h1);rcases hk with hk | hk | hk | hk | hk<;>simp only at hk<;>subst hk
 ·exact .inl ⟨rfl,rfl,fun W hb=>(G5 W hb).mono fun _ _ h=>TkQ.of h⟩
 ·exact .inr (.inl ⟨rfl,rfl,fun W hb=>(JaF u V L M body ue.bA ue.bc W (hT.below hb) (hV.go hb) (hE.bd.go hb)).mono fun _ _ h=>TkQ.of h⟩)
 ·refine .inr (.inr (.inl ⟨rfl,rfl,?_⟩));have e1:JjB V (JK S) ⟨3,note,body,from_,int,view,subs⟩=if Ql V note=0/\YO ⟨3,note,body,from_,int,view,subs⟩=true then Xq (XA V note) body else Ql V note:=rfl;have e2:Jkl V ⟨3,note,body,from_,int,view,subs⟩=if YO ⟨3,note,body,from_,int,view,subs⟩=true then JaS (XA V note) body else XA V note:=rfl;obtain⟨q1,hq1⟩:∃q1,note.w=[q1]:=by
   have h:=JhC _ (show (⟨3,note,body,from_,int,view,subs⟩:Qw).kind=3 from rfl);rw[h3] at h;dsimp only at h;rcases hw:note.w with _ | ⟨a,r⟩
   ·rw[hw] at h;simp at h
   ·rcases r with _ | ⟨b,r⟩
    ·exact⟨a,rfl⟩
    ·rw[hw] at h;simp at h
  have hb3:YO ⟨3,note,body,from_,int,view,subs⟩=!q1.2.2:=by unfold YO;dsimp only;rw[hq1]
  rw[hb3] at e1 e2;have h4:=hE.nt.l4;rw[hq1] at h4;have hr4:=hE.nt.r4;rw[<-h4] at hr4;obtain⟨gb,go,hA,_,_⟩:=hr4.plain (by simp) (by decide);refine⟨gb,go,q1.2.2,Ql V note,XA V note,hA,h4.symm,fun W hb=>?_,fun W hb=>(G5 W hb).mono fun _ _ h=>TkQ.of h,fun hq W hb B1 d1 B2 d2 B3 d3 B4 d4 ⟨L2,M2,hr⟩=>?_,fun hq=>?_⟩
  ·obtain⟨b,o,e,_,hc⟩:=(hr4.go hb).plain (by simp) (by decide);rw[hA] at e;injection e with e;injection e with e3 e4;subst e3 e4;exact hc 3 (.bool q1.2.2) (by rw[hq1];rfl)
  ·rw[hq.1,hq.2,Ei ⟨rfl,rfl⟩] at e1;rw[hq.2,Ei (show (!false)=true from rfl)] at e2;rw[e1,e2];exact(JaF ⟨B1,d1,B2,d2,B3,d3,B4,d4⟩ (XA V note) L2 M2 body ue.bA ue.bc W (hT.below hb) hr (hE.bd.go hb)).mono fun _ _ h=>TkQ.of h
  ·refine⟨?_,fun q0=>?_⟩
   ·rw[e1,Ef];rintro⟨a,b⟩;exact hq ⟨a,by simpa using b⟩
   ·have g:q1.2.2=true:=by
     cases h:q1.2.2
     ·exact absurd ⟨q0,h⟩ hq
     ·rfl
    rw[e2,g,Ef (by decide)]
 ·refine .inr (.inr (.inr (.inl ⟨rfl,rfl,rfl,rfl,rfl,r3,fun s hs=>(r2 s hs).2,h1,fun W hb=>JbC u V L M W (hT.below hb) (hV.go hb) (Jb9 hV h1) h1,fun W hb=>UX ue.iA int.length ue.ic (sv int) W (hE.it.go hb) (Ju int) ?_⟩)));have h:=JeZ _ (show (⟨4,note,body,from_,int,view,subs⟩:Qw).kind=4 from rfl);rw[h3] at h;have h:=h.symm;simp only[Ea] at h;have:=Sn.XV h.1.2;omega
 ·have h:=JhN _ (show (⟨5,note,body,from_,int,view,subs⟩:Qw).kind=5 from rfl);rw[h3] at h;replace h:=h.symm;simp only[Ea] at h;obtain⟨⟨v1,v2⟩,_⟩:=h;obtain⟨x1,x2,_⟩:=Jai v2;have G8:=fun (W:World) (hb:Bz w W)=>Jim ue.sA subs.length ue.sc S' W (hE.sb.go hb) (by omega) fun p hp=>by
   have:=(x2 p.2 (by have h:=hE.ns;dsimp only at h;rw[<-h];exact EL hp)).1;omega
  have G8:∀W,Bz w W->Calls prog 67 #[.slice ue.sA subs.length ue.sc] W (OwS W subs.length subs):=fun W hb=>(G8 W hb).mono fun e w' h=>by
   obtain⟨A',c',h1,⟨S2,h2,h3⟩,h4⟩:=h;exact⟨A',c',h1,⟨S2,h2,by rw[h3,hE.ns]⟩,h4⟩
  exact .inr (.inr (.inr (.inr ⟨rfl,rfl,rfl,fun W hb=>JbC ue.vv view L' M' W (hT.below hb) (hE.vw.go hb) (Jb9 hE.vw v1) v1,G8⟩)))
theorem own:ownKnob prog.godebug=none:=by kernel_rfl
theorem Jm4:laidOutB prog=true:=by kernel_rfl
section
variable {H:Type}
end
end
section
open Go.ChangeShapes Go.WideShapes Go.ChangeAt Go.RowKit
theorem Jpa : prog.globalNamed "math/bits.deBruijn64tab" = some 0 := by kernel_rfl
theorem JlP:(prog.globals[0]?).map (·.type)=some 256:=by kernel_rfl
theorem JlD:prog.cellsOf 256=64:=by kernel_rfl
theorem JnP:prog.cellsOf 5=1:=by kernel_rfl
theorem Jpk {W:World} (h:laidMetH prog Rows.entryEncodesRow.laid W):UW W:=fun j hj=>by
 have ht : Lib.TabIs prog W "math/bits.deBruijn64tab" .u8 (Lib.deBruijn64tab.map Int.ofNat) := Lib.tabIs_of_head (rest := []) Jpa JlP underlying256 underlying5 JnP JlD h;have:=ht.cell Jpa j (by rw[Gl];exact hj);rw[this];simp[List.getD,Em hj]
noncomputable def Jbr (os:Os):World:=
 { World.holding prog os ⟨#[],#[],[]⟩ with heap:=(World.holding prog os ⟨#[],#[],[]⟩).heap.modify 0 fun
   | .cells _ t frozen=>.cells (Lib.deBruijn64tab.map fun n:Nat=>Value.int .u8 (Int.ofNat n)).toArray t frozen
   | o=>o }
section
variable {H:Type} {enc:TypeId×Value->H} {W:World}
theorem JR.mapg {P:Program} {t:TypeId} {α β:Type} {f:α->List Value} {g:α->DataW H->Prop} (e:α->β) (f':β->List Value) (g':β->DataW H->Prop) (h:JR enc P W t f g) (hf:∀x d,g x d->f x=f' (e x)/\g' (e x) d):JR enc P W t f' g':=by
 intro fuel cs y hy;obtain⟨x,rfl,hx⟩:=h fuel cs y hy;exact⟨e x,(hf x _ hx).1,(hf x _ hx).2⟩
def Jc9 (s:Vc.St):Prop:=(Lit.int .i64 s.1).wf=true/\(Lit.int .i64 s.2).wf=true
def stc (s:Vc.St):List Value:=[.int .i64 s.1,.int .i64 s.2]
theorem QJ:JR enc prog W 3 (fun z:Int=>[.int .i64 z]) (fun z _=>(Lit.int .i64 z).wf=true):=JR.int underlying3
theorem Ur:JR enc prog W 4 (fun z:Bool=>[.bool z]) (fun _ _=>True):=JR.bool underlying4
theorem UH:JR enc prog W 28 stc (fun s _=>Jc9 s):=
 (JR.struct (tot:=2) underlying28 (by kernel_rfl) (Jw.cons (s:=1) rfl (by kernel_rfl) QJ (Jw.cons (s:=1) rfl (by kernel_rfl) QJ Jw.nil))).map
  (fun x:Int×Int×Unit=>((x.1,x.2.1):Vc.St)) stc (fun s _=>Jc9 s) (fun _=>rfl) (fun _ _ ⟨_,_,_,_,_,h1,_,_,_,h2,_⟩=>⟨h1,h2⟩)
theorem Zp:JR enc prog W 22 slv (Jdd W 2 stc (fun s _=>Jc9 s)):=JR.slice underlying22 (by kernel_rfl) (by decide) UH
theorem Jcx:JR enc prog W 63 stc (fun s _=>Jc9 s):=
 (JR.struct (tot:=2) underlying63 (by kernel_rfl) (Jw.cons (s:=1) rfl (by kernel_rfl) QJ (Jw.cons (s:=1) rfl (by kernel_rfl) QJ Jw.nil))).map
  (fun x:Int×Int×Unit=>((x.1,x.2.1):Sn.Sp)) stc (fun s _=>Jc9 s) (fun _=>rfl) (fun _ _ ⟨_,_,_,_,_,h1,_,_,_,h2,_⟩=>⟨h1,h2⟩)
theorem Ok:JR enc prog W 23 slv (Jdd W 2 stc (fun s _=>Jc9 s)):=JR.slice underlying23 (by kernel_rfl) (by decide) Jcx
theorem Us {d:DataW H} (hf:KT prog 22 d):KH d<=8796093022208:=by
 have h1:=(hf.slice underlying22).1;rw[show prog.bytesOf 28=16 by kernel_rfl] at h1;omega
theorem Jby {d:DataW H} (hf:KT prog 23 d):KH d<=8796093022208:=by
 have h1:=(hf.slice underlying23).1;rw[show prog.bytesOf 63=16 by kernel_rfl] at h1;omega
theorem Jcs {d:DataW H} (hf:KT prog 24 d):KH d<=4398046511104:=by
 have h1:=(hf.slice underlying24).1;rw[show prog.bytesOf 70=32 by kernel_rfl] at h1;omega
theorem JjR {d:DataW H} (hf:KT prog 32 d):KH d<=3518437208780/\∀d'∈Oy d,KT prog 129 d':=by
 have h1:=hf.slice underlying32;rw[show prog.bytesOf 129=40 by kernel_rfl] at h1;exact⟨by have:=h1.1;omega,h1.2⟩
theorem JhL {d:DataW H} (hf:KT prog 33 d):KH d<=2932031007317/\∀d'∈Oy d,KT prog 31 d':=by
 have h1:=hf.slice underlying33;rw[show prog.bytesOf 31=48 by kernel_rfl] at h1;exact⟨by have:=h1.1;omega,h1.2⟩
theorem Jmr {d:DataW H} (hf:KT prog 36 d):KH d<=2513169434843/\∀d'∈Oy d,KT prog 65 d':=by
 have h1:=hf.slice underlying36;rw[show prog.bytesOf 65=56 by kernel_rfl] at h1;exact⟨by have:=h1.1;omega,h1.2⟩
theorem Jkf {d:DataW H} (hf:KT prog 29 d):KH d<=140737488351232:=by
 have h1:=(hf.slice underlying29).1;rw[show prog.bytesOf 5=1 by kernel_rfl] at h1;omega
structure Jo9 (W:World) (s:Sl UInt8) (d:DataW H):Prop where
 len:s.xs.length=s.n
 cap:s.c=KH d
 rd:Rd W W.heap.size 1 s.A s.n s.c (bv s.xs)
theorem JgY:JR enc prog W 29 slv (Jo9 (H:=H) W):=
 (JR.slice (size:=1) underlying29 (by kernel_rfl) (by decide) (JR.int (k:=.u8) underlying5)).map (fun s:Sl Int=>(⟨s.A,s.n,s.c,u8s s.xs⟩:Sl UInt8)) slv (Jo9 W) (fun _=>rfl) (fun s d h=>by
  have e:bv (u8s s.xs)=s.xs.flatMap fun z=>[Value.int .u8 z]:=by
   rw[JoH fun z hz=>by obtain⟨d',_,hw⟩:=h.el z hz;exact JlW hw];exact List.map_eq_flatMap ..
  exact⟨by rw[show (u8s s.xs).length=s.xs.length by simp[u8s]];exact h.len,h.cap,by rw[e];exact h.rd⟩)
theorem Je1:JR enc prog W 70 wc (fun q _=>Jc9 q.1):=
 (JR.struct (tot:=4) underlying70 (by kernel_rfl) (Jw.cons (s:=2) rfl (by kernel_rfl) UH (Jw.cons (s:=1) rfl (by kernel_rfl) QJ (Jw.cons (s:=1) rfl (by kernel_rfl) Ur Jw.nil)))).map
  (fun x:Vc.St×Int×Bool×Unit=>((x.1,x.2.1,x.2.2.1):Wr)) wc (fun q _=>Jc9 q.1) (fun _=>rfl) (fun _ _ ⟨_,_,_,_,_,h1,_⟩=>h1)
theorem Jad:JR enc prog W 24 slv (Jdd W 4 wc (fun q _=>Jc9 q.1)):=JR.slice underlying24 (by kernel_rfl) (by decide) Je1
theorem Jez {s:Sl Vc.St} {d:DataW H} (ok:Jdd W 2 stc (fun s _=>Jc9 s) s d):Wq.cts s.xs:=fun t ht=>by
 obtain⟨_,_,h1,_⟩:=ok.el t ht;have:=Jbf h1;omega
theorem Jll {s:Sl Wr} {d:DataW H} (ok:Jdd W 4 wc (fun q _=>Jc9 q.1) s d):∀w∈s.xs,w.1.1 < 9223372036854775808:=fun t ht=>by
 obtain⟨_,_,h1,_⟩:=ok.el t ht;have:=Jbf h1;omega
structure Jpg (W:World) (q:NV×Nt):Prop where
 rd:Yf W W.heap.size q.1 q.2
 cts:Wq.ntC q.2
structure NtB (q:NV×Nt):Prop where
 n1:q.1.n1<=8796093022208
 n2:q.1.n2<=8796093022208
 n3:q.1.n3<=8796093022208
 n4:q.1.n4<=4398046511104
theorem Jgj:JR enc prog W 26 (fun q:NV×Nt=>q.1.val.toList) (fun q d=>Jpg W q/\(KT prog 26 d->NtB q)):=
 (JR.struct (tot:=4) underlying26 (by kernel_rfl) (Jw.cons (s:=1) rfl (by kernel_rfl) Zp (Jw.cons (s:=1) rfl (by kernel_rfl) Zp (Jw.cons (s:=1) rfl (by kernel_rfl) Ok (Jw.cons (s:=1) rfl (by kernel_rfl) Jad Jw.nil))))).map
  (fun x:Sl Vc.St×Sl Vc.St×Sl Sn.Sp×Sl Wr×Unit=>((⟨x.1.A,x.1.n,x.1.c,x.2.1.A,x.2.1.n,x.2.1.c,x.2.2.1.A,x.2.2.1.n,x.2.2.1.c,x.2.2.2.1.A,x.2.2.2.1.n,x.2.2.2.1.c⟩,⟨x.1.xs,x.2.1.xs,x.2.2.1.xs,x.2.2.2.1.xs⟩):NV×Nt))
  (fun q:NV×Nt=>q.1.val.toList) (fun q d=>Jpg W q/\(KT prog 26 d->NtB q)) (fun _=>rfl) (fun x _ h=>by
   obtain⟨ds,rfl,d1,_,rfl,o1,d2,_,rfl,o2,d3,_,rfl,o3,d4,_,rfl,o4,_⟩:=h;refine⟨⟨⟨o1.len,o1.rd,o2.len,o2.rd,o3.len,o3.rd,o4.len,o4.rd⟩,Jez o1,Jez o2,Jll o4⟩,fun hf=>?_⟩;have f1:=Us (hf.agg underlying26 (j:=0) rfl rfl);have f2:=Us (hf.agg underlying26 (j:=1) rfl rfl);have f3:=Jby (hf.agg underlying26 (j:=2) rfl rfl);have f4:=Jcs (hf.agg underlying26 (j:=3) rfl rfl);rw[<-o1.cap] at f1;rw[<-o2.cap] at f2;rw[<-o3.cap] at f3;rw[<-o4.cap] at f4;exact⟨EY o1.rd.cap f1,EY o2.rd.cap f2,EY o3.rd.cap f3,EY o4.rd.cap f4⟩)
structure Jpe (W:World) (p:BV×Wq.Bd):Prop where
 rd:Rd W W.heap.size 1 p.1.A p.2.v.length p.1.c (bv p.2.v)
 wf:(Lit.int .i64 p.2.o).wf=true
 ct:p.2.s.1 < 9223372036854775808
theorem JbL:JR enc prog W 31 bvl (fun p d=>Jpe W p/\(KT prog 31 d->p.2.v.length<=140737488351232)):=
 (JR.struct (tot:=4) underlying31 (by kernel_rfl) (Jw.cons (s:=1) rfl (by kernel_rfl) QJ (Jw.cons (s:=2) rfl (by kernel_rfl) UH (Jw.cons (s:=1) rfl (by kernel_rfl) JgY Jw.nil)))).mapg
  (fun x:Int×Vc.St×Sl UInt8×Unit=>((⟨x.2.2.1.A,x.2.2.1.c⟩,⟨x.1,x.2.1,x.2.2.1.xs⟩):BV×Wq.Bd)) bvl _ (fun x d h=>by
   obtain⟨ds,rfl,d1,_,rfl,w1,d2,_,rfl,w2,d3,_,rfl,o3,_⟩:=h;refine⟨?_,⟨?_,w1,?_⟩,fun hf=>?_⟩
   ·simp only[bvl];rw[o3.len];rfl
   ·have:=o3.rd;rw[<-o3.len] at this;exact this
   ·have:=Jbf w2.1;show x.2.1.1 < _;omega
   ·have f:=Jkf (hf.agg underlying31 (j:=2) rfl rfl);rw[<-o3.cap] at f;have:=o3.rd.cap;have e:=o3.len;show x.2.2.1.xs.length<=_;omega)
theorem JdD:JR enc prog W 33 slv (Jdd W 4 bvl (fun p d=>Jpe W p/\(KT prog 31 d->p.2.v.length<=140737488351232))):=JR.slice underlying33 (by kernel_rfl) (by decide) JbL
structure Jpc (W:World) (p:ZV×Zn):Prop where
 len:p.2.2.length=p.1.n
 rd:Rd W W.heap.size 2 p.1.A p.1.n p.1.c (sv p.2.2)
 ct:Wq.cts p.2.2
theorem Jg3:JR enc prog W 129 zvl (fun p d=>Jpc W p/\(KT prog 129 d->p.1.n<=8796093022208)):=
 (JR.struct (enc:=enc) (P:=prog) (W:=W) (tot:=3) underlying129 (by kernel_rfl) (Jw.cons (s:=2) rfl (by kernel_rfl) Jcx (Jw.cons (s:=1) rfl (by kernel_rfl) Zp Jw.nil))).map
  (fun x=>((⟨x.2.1.A,x.2.1.n,x.2.1.c⟩:ZV),(x.1,x.2.1.xs))) _ _ (fun _=>rfl)
  (fun x d ⟨ds,e,d1,_,e1,o1,d2,_,e2,o2,_⟩=>⟨⟨o2.len,o2.rd,Jez o2⟩,fun hf=>by
   subst e e1 e2;have f2:=Us (hf.agg underlying129 (j:=1) rfl rfl);rw[<-o2.cap] at f2;exact EY o2.rd.cap f2⟩)
theorem Je7:JR enc prog W 32 slv (Jdd W 3 zvl (fun p d=>Jpc W p/\(KT prog 129 d->p.1.n<=8796093022208))):=JR.slice underlying32 (by kernel_rfl) (by decide) Jg3
structure VX where
 u:VV
 v:Vw
 L:List (ZV×Zn)
 M:List (BV×Wq.Bd)
structure VwK (v:Vw):Prop where
 k:Wq.cts v.known
 z:∀y∈v.zones,Wq.cts y.2
 h:∀w∈v.held,w.1.1 < 9223372036854775808
 y:∀y∈v.bods,y.s.1 < 9223372036854775808
structure JpN (W:World) (x:VX):Prop where
 rd:JU W W.heap.size x.u x.v x.L x.M
 ct:VwK x.v
structure VwB (x:VX):Prop where
 k:x.v.known.length<=8796093022208
 z:Jov x.v.zones.length x.L
 h:x.v.held.length<=4398046511104
 b:x.v.bods.length<=2932031007317
 y:∀p∈x.M,p.2.v.length<=140737488351232
theorem JbI:JR enc prog W 35 (fun x:VX=>(Jy x.v x.u).toList) (fun x d=>JpN W x/\(KT prog 35 d->VwB x)):=
 (JR.struct (tot:=5) underlying35 (by kernel_rfl) (Jw.cons (s:=1) rfl (by kernel_rfl) Zp (Jw.cons (s:=1) rfl (by kernel_rfl) Je7 (Jw.cons (s:=1) rfl (by kernel_rfl) Jad (Jw.cons (s:=1) rfl (by kernel_rfl) JdD (Jw.cons (s:=1) rfl (by kernel_rfl) QJ Jw.nil)))))).mapg
  (fun x=>(⟨⟨x.1.A,x.1.c,x.2.1.A,x.2.1.c,x.2.2.1.A,x.2.2.1.c,x.2.2.2.1.A,x.2.2.2.1.c⟩,⟨x.1.xs,Jv x.2.1.xs,x.2.2.1.xs,JG x.2.2.2.1.xs,x.2.2.2.2.1⟩,x.2.1.xs,x.2.2.2.1.xs⟩:VX)) _ _ (fun x d h=>by
   obtain⟨ds,rfl,d1,_,rfl,o1,d2,_,rfl,o2,d3,_,rfl,o3,d4,_,rfl,o4,d5,_,rfl,o5,_⟩:=h;have z2:(Jv x.2.1.xs).length=x.2.1.n:=by rw[JH];exact o2.len
   have z4:(JG x.2.2.2.1.xs).length=x.2.2.2.1.n:=by rw[Jt];exact o4.len
   refine⟨?_,⟨⟨?_,?_,rfl,?_,?_,rfl⟩,⟨Jez o1,?_,Jll o3,?_⟩⟩,fun hf=>?_⟩
   ·simp only[Jy];rw[o1.len,o3.len,z2,z4];rfl
   ·dsimp only;rw[o1.len];exact o1.rd
   ·dsimp only;rw[z2];exact⟨o2.len,o2.rd,fun p hp=>by obtain⟨_,_,h,_⟩:=o2.el p hp;exact⟨h.len,h.rd⟩⟩
   ·dsimp only;rw[o3.len];exact o3.rd
   ·dsimp only;rw[z4];exact⟨o4.len,o4.rd,fun p hp=>by obtain⟨_,_,h,_⟩:=o4.el p hp;exact h.rd,fun p hp=>by obtain⟨_,_,h,_⟩:=o4.el p hp;exact h.wf⟩
   ·intro y hy;obtain⟨p,hp,rfl⟩:=Gp.1 hy;obtain⟨_,_,h,_⟩:=o2.el p hp;exact h.ct
   ·intro y hy;obtain⟨p,hp,rfl⟩:=Gp.1 hy;obtain⟨_,_,h,_⟩:=o4.el p hp;exact h.ct
   ·have f1:=Us (hf.agg underlying35 (j:=0) rfl rfl);have f2:=JjR (hf.agg underlying35 (j:=1) rfl rfl);have f3:=Jcs (hf.agg underlying35 (j:=2) rfl rfl);have f4:=JhL (hf.agg underlying35 (j:=3) rfl rfl);rw[<-o1.cap] at f1;rw[<-o2.cap] at f2;rw[<-o3.cap] at f3;rw[<-o4.cap] at f4;have g1:=o1.rd.cap;have g2:=o2.rd.cap;have g3:=o3.rd.cap;have g4:=o4.rd.cap;have e1:=o1.len;have e3:=o3.len;refine⟨?_,⟨?_,fun p hp=>?_⟩,?_,?_,fun p hp=>?_⟩
    ·dsimp only;omega
    ·dsimp only;rw[z2];have:=f2.1;omega
    ·obtain⟨d',hd,_,h⟩:=o2.el p hp;exact h (f2.2 d' hd)
    ·dsimp only;omega
    ·dsimp only;rw[z4];have:=f4.1;omega
    ·obtain⟨d',hd,_,h⟩:=o4.el p hp;exact h (f4.2 d' hd))
theorem Jhr:JR enc prog W 65 KI (fun p d=>Rd W W.heap.size 2 p.1.A p.2.int.length p.1.c (sv p.2.int)/\(KT prog 65 d->p.2.int.length<=8796093022208)):=
 (JR.struct (tot:=7) underlying65 (by kernel_rfl) (Jw.cons (s:=1) rfl (by kernel_rfl) QJ (Jw.cons (s:=1) rfl (by kernel_rfl) Ok (Jw.cons (s:=1) rfl (by kernel_rfl) QJ (Jw.cons (s:=1) rfl (by kernel_rfl) QJ (Jw.cons (s:=1) rfl (by kernel_rfl) Ur (Jw.cons (s:=1) rfl (by kernel_rfl) Ur (Jw.cons (s:=1) rfl (by kernel_rfl) Ur Jw.nil)))))))).mapg
  (fun x=>((⟨x.2.1.A,x.2.1.c⟩,⟨x.1,x.2.1.xs,x.2.2.1,x.2.2.2.1,x.2.2.2.2.1,x.2.2.2.2.2.1,x.2.2.2.2.2.2.1⟩):SV×Sb)) KI _ (fun x d h=>by
   obtain⟨ds,rfl,d1,_,rfl,o1,d2,_,rfl,o2,_⟩:=h;refine⟨?_,?_,fun hf=>?_⟩
   ·simp only[KI];rw[o2.len];rfl
   ·have:=o2.rd;rw[<-o2.len] at this;exact this
   ·have f:=Jby (hf.agg underlying65 (j:=1) rfl rfl);rw[<-o2.cap] at f;have:=o2.rd.cap;have e:=o2.len;show x.2.1.xs.length<=_;omega)
theorem JbG:JR enc prog W 36 slv (Jdd W 7 KI (fun p d=>Rd W W.heap.size 2 p.1.A p.2.int.length p.1.c (sv p.2.int)/\(KT prog 65 d->p.2.int.length<=8796093022208))):=JR.slice underlying36 (by kernel_rfl) (by decide) Jhr
theorem JiF {s:Sl (SV×Sb)} {d:DataW H} (ok:Jdd W 7 KI (fun p d=>Rd W W.heap.size 2 p.1.A p.2.int.length p.1.c (sv p.2.int)/\(KT prog 65 d->p.2.int.length<=8796093022208)) s d):QM W W.heap.size s.A s.n s.c s.xs:=⟨ok.len,ok.rd,fun p hp=>by obtain⟨_,_,h,_⟩:=ok.el p hp;exact h⟩
structure SbB (n:Nat) (S:List (SV×Sb)):Prop where
 n:n<=2513169434843
 each:∀p∈S,p.2.int.length<=8796093022208
theorem Jmp {s:Sl (SV×Sb)} {d:DataW H} (ok:Jdd W 7 KI (fun p d=>Rd W W.heap.size 2 p.1.A p.2.int.length p.1.c (sv p.2.int)/\(KT prog 65 d->p.2.int.length<=8796093022208)) s d) (hf:KT prog 36 d):SbB s.n s.xs:=by
 have f:=Jmr hf;rw[<-ok.cap] at f;have g:=ok.rd.cap;exact⟨by have:=f.1;omega,fun p hp=>by obtain⟨d',hd,_,h⟩:=ok.el p hp;exact h (f.2 d' hd)⟩
structure EX where
 u:EV
 x:Qw
 L:List (ZV×Zn)
 M:List (BV×Wq.Bd)
 S:List (SV×Sb)
structure Jpn (W:World) (x:EX):Prop where
 rd:QP W W.heap.size x.u x.x x.L x.M x.S
 ct:Wq.JeJ x.x
structure Jjx (x:EX):Prop where
 n:NtB (x.u.nv,x.x.note)
 b:x.x.body.v.length<=140737488351232
 i:x.x.int.length<=8796093022208
 v:VwB ⟨x.u.vv,x.x.view,x.L,x.M⟩
 s:SbB x.x.subs.length x.S
theorem Jjx.s1 {x:EX} (h:Jjx x):x.u.nv.n1+x.u.nv.n2+x.u.nv.n3+x.u.nv.n4<=9223372036854775807:=by
 have h1:=h.n.n1;have h2:=h.n.n2;have h3:=h.n.n3;have h4:=h.n.n4;dsimp only at h1 h2 h3 h4;omega
theorem Jjx.s2 {x:EX} (h:Jjx x):x.x.view.known.length+x.x.view.zones.length+x.x.view.held.length+x.x.view.bods.length<=9223372036854775807:=by
 have h1:=h.v.k;have h2:=h.v.z.n;have h3:=h.v.h;have h4:=h.v.b;dsimp only at h1 h2 h3 h4;omega
theorem JeU:JR enc prog W 38 (fun x:EX=>(eval x.x x.u).toList) (fun x d=>Jpn W x/\(KT prog 38 d->Jjx x)):=
 (JR.struct (tot:=17) underlying38 (by kernel_rfl) (Jw.cons (s:=1) rfl (by kernel_rfl) QJ (Jw.cons (s:=4) rfl (by kernel_rfl) Jgj (Jw.cons (s:=4) rfl (by kernel_rfl) JbL (Jw.cons (s:=1) rfl (by kernel_rfl) QJ (Jw.cons (s:=1) rfl (by kernel_rfl) Ok (Jw.cons (s:=5) rfl (by kernel_rfl) JbI (Jw.cons (s:=1) rfl (by kernel_rfl) JbG Jw.nil)))))))).mapg
  (fun x=>(⟨⟨x.2.1.1,x.2.2.1.1.A,x.2.2.1.1.c,x.2.2.2.2.1.A,x.2.2.2.2.1.c,x.2.2.2.2.2.1.u,x.2.2.2.2.2.2.1.A,x.2.2.2.2.2.2.1.c⟩,⟨x.1,x.2.1.2,x.2.2.1.2,x.2.2.2.1,x.2.2.2.2.1.xs,x.2.2.2.2.2.1.v,JK x.2.2.2.2.2.2.1.xs⟩,x.2.2.2.2.2.1.L,x.2.2.2.2.2.1.M,x.2.2.2.2.2.2.1.xs⟩:EX)) _ _ (fun x d h=>by
   obtain⟨ds,rfl,d1,_,rfl,o1,d2,_,rfl,o2,d3,_,rfl,o3,d4,_,rfl,o4,d5,_,rfl,o5,d6,_,rfl,o6,d7,_,rfl,o7,_⟩:=h;have z7:(JK x.2.2.2.2.2.2.1.xs).length=x.2.2.2.2.2.2.1.n:=by rw[JX];exact o7.len
   refine⟨?_,⟨⟨o2.1.rd,o3.1.rd,?_,o6.1.rd,?_,rfl⟩,⟨o2.1.cts,o3.1.ct,o6.1.ct.k,o6.1.ct.z,o6.1.ct.h,o6.1.ct.y⟩⟩,fun hf=>⟨o2.2 (hf.agg underlying38 (j:=1) rfl rfl),o3.2 (hf.agg underlying38 (j:=2) rfl rfl),?_,o6.2 (hf.agg underlying38 (j:=5) rfl rfl),?_⟩⟩
   ·simp only[eval];rw[o5.len,z7];rfl
   ·dsimp only;rw[o5.len];exact o5.rd
   ·dsimp only;rw[z7];exact JiF o7
   ·have f:=Jby (hf.agg underlying38 (j:=4) rfl rfl);rw[<-o5.cap] at f;have:=o5.rd.cap;have e:=o5.len;show x.2.2.2.2.1.xs.length<=_;omega
   ·dsimp only;rw[z7];exact Jmp o7 (hf.agg underlying38 (j:=6) rfl rfl))
theorem Jg0 {r:Reach} {b0:Nat} {v:Value} {d:DataW H} {p:List MemPlace} (hv:Value.okWide prog W r b0 38 v) (hT:DataW.Trod enc prog W 0 (fun _=>true) true 38 v d p) (hf:KT prog 38 d):
  ∃(u:EV) (x:Qw) (L:List (ZV×Zn)) (M:List (BV×Wq.Bd)) (S:List (SV×Sb)),v=.agg (eval x u)/\QP W W.heap.size u x L M S/\Wq.JeJ x/\Jjx ⟨u,x,L,M,S⟩:=by
 obtain⟨q,rfl,ok,hB⟩:=JeU.arg_agg underlying38 hv hT;exact⟨q.u,q.x,q.L,q.M,q.S,rfl,ok.rd,ok.ct,hB hf⟩
theorem JhQ {r:Reach} {b0:Nat} {v:Value} {d:DataW H} {p:List MemPlace} (hv:Value.okWide prog W r b0 35 v) (hT:DataW.Trod enc prog W 0 (fun _=>true) true 35 v d p) (hf:KT prog 35 d):
  ∃(u:VV) (x:Vw) (L:List (ZV×Zn)) (M:List (BV×Wq.Bd)),v=.agg (Jy x u)/\JU W W.heap.size u x L M/\VwK x/\VwB ⟨u,x,L,M⟩:=by
 obtain⟨q,rfl,ok,hB⟩:=JbI.arg_agg underlying35 hv hT;exact⟨q.u,q.v,q.L,q.M,rfl,ok.rd,ok.ct,hB hf⟩
theorem Jhv {r:Reach} {b0:Nat} {v:Value} {d:DataW H} {p:List MemPlace} (hv:Value.okWide prog W r b0 36 v) (hT:DataW.Trod enc prog W 0 (fun _=>true) true 36 v d p) (hf:KT prog 36 d):
  ∃(A:OA) (n c:Nat) (S:List (SV×Sb)),v=.slice A n c/\QM W W.heap.size A n c S/\SbB n S:=by
 obtain⟨s,rfl,ok⟩:=JbG.arg_slice underlying36 hv hT;exact⟨s.A,s.n,s.c,s.xs,rfl,JiF ok,Jmp ok hf⟩
end
theorem JlF {nm:String} {k:FuncId} {fk:Func} (h1:prog.funcNamed nm=some k) (h2:prog.funcs[k]?=some fk) (h3:(fk.params.toList.all fun t=>!prog.wantsStandIn t)=true) (h4:true=Tryz.pinned.checked.prog.looks [])
  (f:FuncId) (fn:Func) (hf:Tryz.pinned.checked.prog.funcNamed nm=some f) (hfn:Tryz.pinned.checked.prog.funcs[f]?=some fn):
  true=Tryz.pinned.checked.prog.looks []/\∀(j:Nat) t,fn.params[j]?=some t->Tryz.pinned.checked.prog.wantsStandIn t=false:=by
 obtain rfl:f=k:=(Fq (h1.symm.trans hf)).symm;obtain rfl:fn=fk:=(Fq (h2.symm.trans hfn)).symm;refine⟨h4,fun j t ht=>?_⟩;have:=Fg.1 h3 t (by simpa using Array.mem_of_getElem? ht);show prog.wantsStandIn t=false;simpa using this
end
section
open Go.RowKit Wq
theorem Yf.none_ (w:World) (B:Nat):Yf w B ⟨none,0,0,none,0,0,none,0,0,none,0,0⟩ ntz:=⟨rfl,Rd.none_,rfl,Rd.none_,rfl,Rd.none_,rfl,Rd.none_⟩
theorem JU.none_ (w:World) (B:Nat):JU w B ⟨none,0,none,0,none,0,none,0⟩ vw0 [] []:=⟨Rd.none_,Zc.none_ _ _,rfl,Rd.none_,QI.none_ _ _,rfl⟩
theorem ZN {x:Qw} (h:Yw x.note=false):Jav x=false:=by
 by_cases h1:x.note.w.length=1
 ·obtain⟨q,_,e⟩:=Yt h1;rw[e,h];rfl
 ·exact Zm h1
theorem JiM (x:Bd):bdE x bdz=XK x:=by rw[EM,JeP,Ox]
theorem JiG (x:Qw) (h:x.kind=3):Xd x=(Zh x (Jbb x) && Jav x):=JhC x h
end
end Go.Proofs.YtmbeahbgafkjfaaGreatDoor
