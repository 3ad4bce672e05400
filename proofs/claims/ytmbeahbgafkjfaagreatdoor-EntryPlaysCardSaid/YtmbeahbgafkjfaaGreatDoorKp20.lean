/- Lemmas, layer 20. -/
import Derived.Test.YtmbeahbgafkjfaaGreatDoorKp19
set_option linter.unusedSimpArgs false
set_option maxRecDepth 100000
set_option maxHeartbeats 16000000
namespace Go.Proofs.YtmbeahbgafkjfaaGreatDoor
open Go.Proofs.Tryz
open Go.RowKit Go.Shelf
attribute [local go_sem] Oper.semAt_some
theorem JeC (P:Program) (w:World) (a:Addr) (m:Mode) (fn:Fn) (first captured:Array Value):(store a (.func fn first captured) m).run P w=stored P w a (.func fn first captured) m:=run_store P w a _ m rfl
attribute [local go_sem] JeC
def tkE (z:List Zn) (known:List Vc.St) (x:Nt):Int:=if (zF (-1) none z && (fm (-1) known && Yw x))=true then (if Za x known=true then 0 else 3) else 1
def OO (z:List Zn) (known:List Vc.St) (x:Nt):List Zn:=if tkE z known x=0 then tkZ z known x else []
def tkK (z:List Zn) (known:List Vc.St) (x:Nt):List Vc.St:=if tkE z known x=0 then Qj known x else []
def Uz (w w':World) (e:Ending) (E:Int) (Z:List Zn) (K:List Vc.St):Prop:=
 ∃A' k' c' M B' m' d',e=.returned (.tuple #[.slice A' k' c',.slice B' m' d',.int .i64 E])/\Zc w' w'.heap.size A' k' c' M/\Jv M=Z/\K.length=m'/\Rd w' w'.heap.size 2 B' m' d' (sv K)/\Bz w w'
theorem Uz.no {w w':World} {E:Int} (hb:Bz w w'):Uz w w' (.returned (.tuple #[.slice none 0 0,.slice none 0 0,.int .i64 E])) E [] []:=
 ⟨none,0,0,[],none,0,0,rfl,Zc.none_ _ _,rfl,rfl,Rd.none_,hb⟩
theorem Qk.kept_ {X Y:World} {base:Nat} {A:OA} {k c:Nat} {L:List (ZV×Zn)} {row:Option Nat} (h:Qk X base A k c L) (hg:X.grownBy Y row) (hr:∀r,row=some r->∃o:Obj,X.heap[r]?=some o/\o.isCells=false):Qk Y base A k c L:=by
 have key:∀{e:TypeId} {size n:Nat} {v:Value} {xs:List Value},X.ownsRow base e size v n xs->v.ownBlock=none\/v.ownBlock≠row:=fun {e size n v xs} ho=>by
  rcases ho.2 with ⟨rfl,_⟩ | ⟨g,cap,cur,rfl,_,hgb,_⟩
  ·exact .inl rfl
  ·refine .inr fun e'=>?_;obtain⟨ob,h1,h2⟩:=hr g (by rw[<-e'];rfl);rw[hgb] at h1;injection h1 with h1;subst h1;cases h2
 exact⟨h.row.kept hg (key h.row),fun p hp=>⟨(h.el p hp).1,(h.el p hp).2.kept hg (key (h.el p hp).2)⟩⟩
theorem JbT (c:List Vc.St->Bool) (p:Nat->Bool) (v:List Vc.St):(Kd c p v).length<=128:=by
 unfold Kd;split
 ·simp
 ·rw[Gl];exact Sn.XV (Sn.Zz p)
theorem Jat (c:List Vc.St->Bool) (far:List Vc.St->List Vc.St) (st:List Vc.St->Nat->Bool):∀l:List Zn,(l.flatMap (ZC c far st)).length<=256 * l.length
 | []=>by simp
 | q :: r=>by
  have h1:=Jat c far st r;have h2:=JbT c (fun o=>Sn.Qp [q.1] o && st q.2 o) q.2;have h3:=JbT c (fun o=>Sn.Qp [q.1] o && !st q.2 o) (far q.2);rw[Gu,Eb,List.length_cons];have h4:(ZC c far st q).length<=256:=by unfold ZC;rw[Eb];omega
  omega
def Jih (known:List Vc.St) (x:Nt) (l:List Zn):List Zn:=l.flatMap (ZC (fun v=>Xj v (Qj known x)) (fun v=>Xa v x.s x.e 64) (stP x))
theorem Jj7 (known:List Vc.St) (x:Nt) (l:List Zn) (q:Zn):Jih known x (l++[q])=Jih known x l ++
  Jgi (Xj q.2 (Qj known x)) (Sn.JbH [q.1] (XX (UC x q.2) x.b x.w)) q.2 ++
  Jgi (Xj (Xa q.2 x.s x.e 64) (Qj known x)) (Sn.JiK [q.1] (XX (UC x q.2) x.b x.w)) (Xa q.2 x.s x.e 64):=by
 unfold Jih;rw[List.flatMap_append,Er];congr 1;simp only[Gu,List.flatMap_nil,EG];rfl
theorem Zc.kept {W:World} {A:OA} {n c D:Nat} {L:List (ZV×Zn)} {o o':Obj} (h:Zc W W.heap.size A n c L) (hK:W.heap[D]?=some o) (ho:o.isCells=false):Zc (W.putObj D o') (W.putObj D o').heap.size A n c L:=
 ⟨h.len,(Jba h.rd (Gj W D o') (fun r e=>by cases e;exact⟨_,hK,ho⟩)).more (by simp),fun p hp=>⟨(h.each p hp).1,(Jba (h.each p hp).2 (Gj W D o') (fun r e=>by cases e;exact⟨_,hK,ho⟩)).more (by simp)⟩⟩
theorem JmZ (u:List Vc.St) {z:List Zn} (h:zF (-1) none z=true):(KP u 0 z).length<=513:=by
 have h1:=JcO h;have h2:∀(z:List Zn) (a:Int),(KP u a z).length<=2 * z.length+1:=by
  intro z
  induction z with
  | nil=>intro a;rw[KP];split<;>simp
  | cons x r ih=>
   intro a;have:=ih (x.1.2+1);rw[KP,Eb,List.length_cons,List.length_cons];split<;>simp<;>omega
 have:=h2 z 0;omega
theorem Jme (c:Bool) (l:List Sn.Sp) (u:List Vc.St):(Jgi c l u).length<=l.length:=by
 unfold Jgi;split
 ·simp
 ·simp
theorem JaV.kz {BO n:Nat} {W V:World} {A:OA} {size c:Nat} {xs:List Value} (h:JaV BO W n A) (k:KZ BO W V) (hR:Rd W W.heap.size size A n c xs):JaV BO V n A:=fun h0 a ha=>by
 obtain⟨s1,s2⟩:=h h0 a ha;obtain⟨ad,e,hb,_⟩:=hR.at0 h0;rw[e] at ha;injection ha with ha;subst ha;exact⟨s1,k.still hb s2⟩
theorem JaV.below {BO n:Nat} {W V:World} {A:OA} (h:JaV BO W n A) (hB:BO < W.heap.size) (hb:Bz W V):JaV BO V n A:=fun h0 a ha=>by
 obtain⟨s1,s2⟩:=h h0 a ha;exact⟨s1,by rw[show pt BO V=pt BO W from Oq (hb.cell (p:=⟨BO,0,none⟩) hB)];exact s2⟩
theorem JaI {BO B n:Nat} {W:World} {A:OA} (h1:BO < B) (h2:∀g,pt BO W=some g->g < B) (h3:∀a,A=some a->B<=a.block):JaV BO W n A:=fun _ a ha=>by
 have:=h3 a ha;refine⟨by omega,fun e=>?_⟩;have:=h2 _ e;omega
theorem JeQ {BO B n:Nat} {W V:World} {size c:Nat} {A:OA} {xs:List Value} (hR:Rd V B size A n c xs) (h1:B<=BO) (h2:∀g,pt BO W=some g->B<=g):JaV BO W n A:=fun hn a ha=>by
 obtain⟨ad,e,hb,_⟩:=hR.at0 hn;rw[e] at ha;injection ha with ha;subst ha;refine⟨by omega,fun e2=>?_⟩;have:=h2 _ e2;omega
theorem Jdk {w:World} {base:Nat} {e:TypeId} {size n c:Nat} {A:OA} {xs:List Value} (h:w.ownsRow base e size (.slice A n c) n xs):∀a,A=some a->base<=a.block:=fun a ha=>by
 obtain⟨A',c',hv,_,hf⟩:=Xi h;injection hv with hv1 _ _;subst hv1;obtain⟨g,rfl,hg,_⟩:=hf a ha;exact hg
theorem JmE {W:World} {BO base k c:Nat} {A:OA} {M:List (ZV×Zn)} (hb:Boxed W BO 32 (.slice A k c)) (hM:Qk W base A k c M):∀g,pt BO W=some g->base<=g/\g < W.heap.size:=fun g hg=>by
 rw[UG hb] at hg;exact hM.row.lt g hg
theorem Jmv (A D:OA) (n c q d:Nat) (L:List (ZV×Zn)) (u0:List Vc.St) (v:NV) (x:Nt) (w:World) (hT:UW w) (hR:Zc w w.heap.size A n c L) (hl:u0.length=q) (hR2:Rd w w.heap.size 2 D q d (sv u0)) (hN:Yf w w.heap.size v x):
  Calls prog 138 #[.slice A n c,.slice D q d,.agg v.val] w fun e w'=>Uz w w' e (tkE (Jv L) u0 x) (OO (Jv L) u0 x) (tkK (Jv L) u0 x):=by
 obtain⟨A1,n1,c1,A2,n2,c2,A3,n3,c3,A4,n4,c4⟩:=v;have hb0:Bz w (w.alloc (.cells #[.slice A1 n1 c1,.slice A2 n2 c2,.slice A3 n3 c3,.slice A4 n4 c4] 26)):=Zr.alloc Zl _;have hX:=Jm.new w 26 #[.slice A1 n1 c1,.slice A2 n2 c2,.slice A3 n3 c3,.slice A4 n4 c4];obtain⟨W0,hW0⟩:∃W0,W0=w.alloc (.cells #[.slice A1 n1 c1,.slice A2 n2 c2,.slice A3 n3 c3,.slice A4 n4 c4] 26):=⟨_,rfl⟩;have hs0:W0.heap.size=w.heap.size+1:=by rw[hW0];simp
 rw[<-hW0] at hb0 hX;have G1:=Zb A n c L W0 (hR.go hb0);have G2:=fun (V:World) (hb:Bz W0 V)=>YD D q d u0 V hl ((hR2.go hb0).go hb);have G3:=fun (V:World) (hb:Bz W0 V)=>UK ⟨A1,n1,c1,A2,n2,c2,A3,n3,c3,A4,n4,c4⟩ x V ((hT.below hb0).below hb) ((hN.go hb0).go hb);have G4:=fun (V:World) (hb:Bz W0 V)=>Jmb ⟨A1,n1,c1,A2,n2,c2,A3,n3,c3,A4,n4,c4⟩ x D q d u0 V ((hT.below hb0).below hb) ((hN.go hb0).go hb) hl ((hR2.go hb0).go hb);have HW:=Ja hW0.symm;have HB0:=Ja hb0;have HX:=Ja hX;have HS0:=Ja hs0;have hd:tkE (Jv L) u0 x=if (zF (-1) none (Jv L) && (fm (-1) u0 && Yw x))=true then (if Za x u0=true then 0 else 3) else 1:=rfl;have hno:∀E:Int,E≠0->tkE (Jv L) u0 x=E->OO (Jv L) u0 x=[]/\tkK (Jv L) u0 x=[]:=fun E h1 h2=>by unfold OO tkK;rw[h2,Ef h1,Ef h1];exact⟨rfl,rfl⟩
 have hq:∀V,Bz W0 V->(V.cell? ⟨w.heap.size,0,none⟩=some (.slice A1 n1 c1)/\V.cell? ⟨w.heap.size,1,none⟩=some (.slice A2 n2 c2)/\V.cell? ⟨w.heap.size,2,none⟩=some (.slice A3 n3 c3)/\V.cell? ⟨w.heap.size,3,none⟩=some (.slice A4 n4 c4)):=fun V hv=>⟨(hX.go hv).cell 0,(hX.go hv).cell 1,(hX.go hv).cell 2,(hX.go hv).cell 3⟩;have HQ:=Ja hq;simp only[NV.val] at G3 G4 ⊢;rcases hf1:zF (-1) none (Jv L) with _ | _
 ·have HE:=Ja (show tkE (Jv L) u0 x=1 by rw[hd,hf1];rfl);have HN:=Ja (hno 1 (by decide) HE.out);rw[hf1] at G1;have G1:=Ja G1;clear hf1 hd hno hR hR2 hl hN hT G2 G3 G4 hX hW0 hb0 hq hs0;refine(Ex (n:=3)).1 ?_;refine FH func138 rfl trivial ?_ rfl;simp only[ntmps138,Fo,List.length_cons,List.length_nil,Nat.reduceAdd,Nat.reduceSub,Fm,Array.replicate_zero,Fw,Fr,List.nil_append,List.cons_append]
  gi_wp2_with fail
  rw[HW.out];refine⟨trivial,?_⟩;refine(Ex.2 G1.out).mono ?_;rintro e w1 ⟨rfl,hb1⟩
  gi_wp2
  refine⟨trivial,?_⟩
  gi_wp2
  refine⟨trivial,?_⟩
  gi_wp2
  refine⟨.tuple #[.slice none 0 0,.slice none 0 0,.int .i64 1],by simp[results,Tryz.f138,go_sem],?_⟩;rw[HE.out,HN.out.1,HN.out.2];exact Uz.no (Jg HB0.out hb1)
 rcases hf2:fm (-1) u0 with _ | _
 ·have HE:=Ja (show tkE (Jv L) u0 x=1 by rw[hd,hf2];simp);have HN:=Ja (hno 1 (by decide) HE.out);rw[hf1] at G1;rw[hf2] at G2;have G1:=Ja G1;have G2:=Ja G2;clear hf1 hf2 hd hno hR hR2 hl hN hT G3 G4 hX hW0 hb0 hq hs0;refine(Ex (n:=3)).1 ?_;refine FH func138 rfl trivial ?_ rfl;simp only[ntmps138,Fo,List.length_cons,List.length_nil,Nat.reduceAdd,Nat.reduceSub,Fm,Array.replicate_zero,Fw,Fr,List.nil_append,List.cons_append]
  gi_wp2_with fail
  rw[HW.out];refine⟨trivial,?_⟩;refine(Ex.2 G1.out).mono ?_;rintro e w1 ⟨rfl,hb1⟩
  gi_wp2_with fail
  refine⟨trivial,?_⟩;refine(Ex.2 (G2.out _ hb1)).mono ?_;rintro e w2 ⟨rfl,hb2⟩
  gi_wp2
  refine⟨trivial,?_⟩
  gi_wp2
  refine⟨.tuple #[.slice none 0 0,.slice none 0 0,.int .i64 1],by simp[results,Tryz.f138,go_sem],?_⟩;rw[HE.out,HN.out.1,HN.out.2];exact Uz.no (Jg HB0.out (Jg hb1 hb2))
 rcases hf3:Yw x with _ | _
 ·have HE:=Ja (show tkE (Jv L) u0 x=1 by rw[hd,hf3];simp);have HN:=Ja (hno 1 (by decide) HE.out);rw[hf1] at G1;rw[hf2] at G2;simp only[hf3] at G3;have G1:=Ja G1;have G2:=Ja G2;have G3:=Ja G3;clear hf1 hf2 hf3 hd hno hR hR2 hl hN hT G4 hX hW0 hb0 hq hs0;refine(Ex (n:=3)).1 ?_;refine FH func138 rfl trivial ?_ rfl;simp only[ntmps138,Fo,List.length_cons,List.length_nil,Nat.reduceAdd,Nat.reduceSub,Fm,Array.replicate_zero,Fw,Fr,List.nil_append,List.cons_append]
  gi_wp2_with fail
  rw[HW.out];refine⟨trivial,?_⟩;refine(Ex.2 G1.out).mono ?_;rintro e w1 ⟨rfl,hb1⟩
  gi_wp2_with fail
  refine⟨trivial,?_⟩;refine(Ex.2 (G2.out _ hb1)).mono ?_;rintro e w2 ⟨rfl,hb2⟩;have hb2:=Jg hb1 hb2;obtain⟨q0,q1,q2,q3⟩:=HQ.out _ hb2
  gi_wp2_with fail
  refine⟨trivial,?_⟩;refine(Ex.2 (G3.out _ hb2)).mono ?_;rintro e w3 ⟨rfl,hb3⟩;clear q0 q1 q2 q3
  gi_wp2
  refine⟨.tuple #[.slice none 0 0,.slice none 0 0,.int .i64 1],by simp[results,Tryz.f138,go_sem],?_⟩;rw[HE.out,HN.out.1,HN.out.2];exact Uz.no (Jg HB0.out (Jg hb2 hb3))
 rcases hf4:Za x u0 with _ | _
 ·have HE:=Ja (show tkE (Jv L) u0 x=3 by rw[hd,hf1,hf2,hf3,hf4];rfl);have HN:=Ja (hno 3 (by decide) HE.out);rw[hf1] at G1;rw[hf2] at G2;simp only[hf3] at G3;simp only[hf4] at G4;have G1:=Ja G1;have G2:=Ja G2;have G3:=Ja G3;have G4:=Ja G4;clear hf1 hf2 hf3 hf4 hd hno hR hR2 hl hN hT hX hW0 hb0 hq hs0;refine(Ex (n:=3)).1 ?_;refine FH func138 rfl trivial ?_ rfl;simp only[ntmps138,Fo,List.length_cons,List.length_nil,Nat.reduceAdd,Nat.reduceSub,Fm,Array.replicate_zero,Fw,Fr,List.nil_append,List.cons_append]
  gi_wp2_with fail
  rw[HW.out];refine⟨trivial,?_⟩;refine(Ex.2 G1.out).mono ?_;rintro e w1 ⟨rfl,hb1⟩
  gi_wp2_with fail
  refine⟨trivial,?_⟩;refine(Ex.2 (G2.out _ hb1)).mono ?_;rintro e w2 ⟨rfl,hb2⟩;have hb2:=Jg hb1 hb2;obtain⟨q0,q1,q2,q3⟩:=HQ.out _ hb2
  gi_wp2_with fail
  refine⟨trivial,?_⟩;refine(Ex.2 (G3.out _ hb2)).mono ?_;rintro e w3 ⟨rfl,hb3⟩;have hb3:=Jg hb2 hb3;clear q0 q1 q2 q3;obtain⟨q0,q1,q2,q3⟩:=HQ.out _ hb3
  gi_wp2_with fail
  refine⟨trivial,?_⟩;refine(Ex.2 (G4.out _ hb3)).mono ?_;rintro e w4 ⟨rfl,hb4⟩;clear q0 q1 q2 q3
  gi_wp2
  refine⟨.tuple #[.slice none 0 0,.slice none 0 0,.int .i64 3],by simp[results,Tryz.f138,go_sem],?_⟩;rw[HE.out,HN.out.1,HN.out.2];exact Uz.no (Jg HB0.out (Jg hb3 hb4))
 have HE:=Ja (show tkE (Jv L) u0 x=0 by rw[hd,hf1,hf2,hf3,hf4];rfl);have HZK:=Ja (show OO (Jv L) u0 x=tkZ (Jv L) u0 x/\tkK (Jv L) u0 x=Qj u0 x by unfold OO tkK;rw[HE.out,Ei rfl,Ei rfl];exact⟨rfl,rfl⟩);have hm64:q<=64:=by rw[<-hl];exact Yu hf2
 have hx:=hf3;unfold Yw ntH at hx;simp only[Ea] at hx;obtain⟨⟨hx1,hx2,hx3,hx4⟩,hx5⟩:=hx;have hxb:=Sn.XV hx4;have hxw:=Jey hx5;rw[hf1] at G1;rw[hf2] at G2;simp only[hf3] at G3;simp only[hf4] at G4;have G1:=Ja G1;have G2:=Ja G2;have G3:=Ja G3;have G4:=Ja G4;have HF:=Ja (And.intro hf1 (And.intro hf2 hf3));have G5:=fun (V:World) (hb:Bz W0 V)=>JjI D A2 q d n2 c2 u0 x.e V ((hT.below hb0).below hb) hl hN.l2 ((hR2.go hb0).go hb) ((hN.go hb0).go hb).r2;obtain⟨nw,hnw⟩:∃nw,nw=Qj u0 x:=⟨_,rfl⟩;have hnw':XM (jn [u0,x.e])=nw:=hnw.symm;rw[hnw'] at G5;obtain⟨nn,hnn⟩:∃nn,nn=nw.length:=⟨_,rfl⟩;simp only[<-hnn] at G5;have G5:=Ja G5;have HNW:=Ja hnw;have HNN:=Ja hnn.symm;have HT0:=Ja (hT.below hb0);have HR0:=Ja (hR.go hb0);have HR20:=Ja (hR2.go hb0);have HN0:=Ja (hN.go hb0);have HL2:=Ja hl;have HXB:=Ja hxb;have HXW:=Ja hxw;have h1max:1<=maxLen:=by unfold maxLen;omega
 clear hf1 hf2 hf3 hf4 hd hno hR hR2 hl hN hT hX hW0 hb0 hq hs0 hx1 hx2 hx3 hx4 hx5 hnw hnw' hnn hxb hxw;refine(Ex (n:=3)).1 ?_;refine FH func138 rfl trivial ?_ rfl;simp only[ntmps138,Fo,List.length_cons,List.length_nil,Nat.reduceAdd,Nat.reduceSub,Fm,Array.replicate_zero,Fw,Fr,List.nil_append,List.cons_append]
 gi_wp2_with fail
 rw[HW.out];refine⟨trivial,?_⟩;refine(Ex.2 G1.out).mono ?_;rintro e w1 ⟨rfl,hb1⟩
 gi_wp2_with fail
 refine⟨trivial,?_⟩;refine(Ex.2 (G2.out _ hb1)).mono ?_;rintro e w2 ⟨rfl,hb2⟩;have hb2:=Jg hb1 hb2;obtain⟨q0,q1,q2,q3⟩:=HQ.out _ hb2
 gi_wp2_with fail
 refine⟨trivial,?_⟩;refine(Ex.2 (G3.out _ hb2)).mono ?_;rintro e w3 ⟨rfl,hb3⟩;have hb3:=Jg hb2 hb3;clear q0 q1 q2 q3;obtain⟨q0,q1,q2,q3⟩:=HQ.out _ hb3
 gi_wp2_with fail
 refine⟨trivial,?_⟩;refine(Ex.2 (G4.out _ hb3)).mono ?_;rintro e w4 ⟨rfl,hb4⟩;have hb4:=Jg hb3 hb4;clear q0 q1 q2 q3 hb1 hb2 hb3;obtain⟨q0,q1,q2,q3⟩:=HQ.out _ hb4
 gi_wp2_with fail
 refine⟨trivial,?_⟩;refine(Ex.2 (G5.out _ hb4)).mono ?_;rintro e w5 ⟨N,nc,rfl,hRN,hb5⟩;have hb05:=Jg hb4 hb5;clear q0 q1 q2 q3 hb4 hb5 G1 G2 G3 G4 G5
 gi_wp2_with fail
 refine⟨trivial,?_⟩;have hbN:Bz w5 (w5.alloc (.cells #[.slice N nn nc] 22)):=Zr.alloc Zl _;have bN:=Boxed.new w5 22 (.slice N nn nc);obtain⟨Wn,hWn⟩:∃Wn,Wn=w5.alloc (.cells #[.slice N nn nc] 22):=⟨_,rfl⟩;have hsn:Wn.heap.size=w5.heap.size+1:=by rw[hWn];simp
 rw[<-hWn] at hbN bN;have hb0n:=Jg hb05 hbN;have hRN:=hRN.go hbN;refine(Ex.2 (Jht A D n c q d _)).mono ?_;rintro e w6 ⟨rfl,rfl⟩;have bO:=Boxed.new Wn 32 (.slice none 0 0);have bF:=Boxed.new (Wn.alloc (.cells #[.slice none 0 0] 32)) 217 (.func (.func 181) #[] #[.pointer (some ⟨w5.heap.size,0,none⟩),.pointer (some ⟨w5.heap.size+1,0,none⟩)]);have e1:=(Jm.new ((Wn.alloc (.cells #[.slice none 0 0] 32)).alloc (.cells #[.func (.func 181) #[] #[.pointer (some ⟨w5.heap.size,0,none⟩),.pointer (some ⟨w5.heap.size+1,0,none⟩)]] 217)) 32 #[.slice A n c]).alloc (.cells #[.slice D q d] 22);have e2:=Jm.new (((Wn.alloc (.cells #[.slice none 0 0] 32)).alloc (.cells #[.func (.func 181) #[] #[.pointer (some ⟨w5.heap.size,0,none⟩),.pointer (some ⟨w5.heap.size+1,0,none⟩)]] 217)).alloc (.cells #[.slice A n c] 32)) 22 #[.slice D q d];have hbn6:Bz Wn ((((Wn.alloc (.cells #[.slice none 0 0] 32)).alloc (.cells #[.func (.func 181) #[] #[.pointer (some ⟨w5.heap.size,0,none⟩),.pointer (some ⟨w5.heap.size+1,0,none⟩)]] 217)).alloc (.cells #[.slice A n c] 32)).alloc (.cells #[.slice D q d] 22)):=(((Zr.alloc Zl _).alloc (by simp) _).alloc (by simp;omega) _).alloc (by simp;omega) _;have bO6:=((bO.alloc (.cells #[.func (.func 181) #[] #[.pointer (some ⟨w5.heap.size,0,none⟩),.pointer (some ⟨w5.heap.size+1,0,none⟩)]] 217)).alloc (.cells #[.slice A n c] 32)).alloc (.cells #[.slice D q d] 22);have bF6:=(bF.alloc (.cells #[.slice A n c] 32)).alloc (.cells #[.slice D q d] 22);simp only[El,hsn] at e1 e2 bO6 bF6;obtain⟨W6,hW6⟩:∃W6,W6=((((Wn.alloc (.cells #[.slice none 0 0] 32)).alloc (.cells #[.func (.func 181) #[] #[.pointer (some ⟨w5.heap.size,0,none⟩),.pointer (some ⟨w5.heap.size+1,0,none⟩)]] 217)).alloc (.cells #[.slice A n c] 32)).alloc (.cells #[.slice D q d] 22)):=⟨_,rfl⟩;have hs6:W6.heap.size=w5.heap.size+1+1+1+1+1:=by rw[hW6];simp;omega
 have hW6':=hW6;rw[hWn] at hW6';rw[<-hW6] at e1 e2 hbn6 bO6 bF6;have HW6:=Ja hW6'.symm;have hT0:∀s,EvT Wn (⟨D,q,d⟩,s,u0):=fun _=>⟨HL2.out,HR20.out.go hb0n,HF.out.2.1⟩;have hGood:Uu Wn (w5.heap.size+1) (w5.heap.size+1+1+1) (w5.heap.size+1+1+1+1) A n c D q d W6:=⟨JdF.of_below hbn6,e1,e2,by omega,by omega,by omega,by omega,fun g hg=>by rw[UG bO6] at hg;cases hg⟩;have HTold:=Ja (Jf6 (3 - 1) (by omega) (w5.heap.size+1) (w5.heap.size+1+1+1) (w5.heap.size+1+1+1+1) A D n c q d L u0 Wn (HR0.out.go hb0n) HF.out.1 hT0 W6 hGood);have HBN:=Ja (show Boxed Wn w5.heap.size 22 (.slice N nn nc) from bN);have HRN:=Ja hRN;have HB0N:=Ja hb0n;have HB6:=Ja hbn6;have HO6:=Ja bO6;have HF6:=Ja bF6;have HSN:=Ja hsn;have HS6:=Ja hs6;have HNB:=Ja (show Jm Wn w.heap.size 26 #[.slice A1 n1 c1,.slice A2 n2 c2,.slice A3 n3 c3,.slice A4 n4 c4] from HX.out.go hb0n);clear hb05 hbN bN hWn hb0n hRN bO bF e1 e2 hbn6 bO6 bF6 hW6 hW6' hT0 hGood
 gi_wp2
 rw[HW6.out];refine ON rfl (by omega) (gf:=206) (lb:=#[.pointer (some ⟨w5.heap.size+1+1+1,0,none⟩),.pointer (some ⟨w5.heap.size+1+1+1+1,0,none⟩)]) rfl trivial (NU func206 (by kernel_rfl) rfl)
  HTold.out KZ.trans (fun W l o o' hl h ho _=>KZ.putObj (by have:=HS6.out;omega) h ho) Zr (fun _=>rfl)
  (fun pre W=>((∃A0 k0 c0 M,Boxed W (w5.heap.size+1) 32 (.slice A0 k0 c0)/\Qk W Wn.heap.size A0 k0 c0 M/\Jv M=Jih u0 x (Jv pre))/\Boxed W (w5.heap.size+1+1) 217 (.func (.func 181) #[] #[.pointer (some ⟨w5.heap.size,0,none⟩),.pointer (some ⟨w5.heap.size+1,0,none⟩)])/\∀y∈pre,EvT Wn y)/\Bz Wn W)
  (fun _ _ _=>False)
  (Nc (fun s X Y row hs hg hr=>by
   obtain⟨⟨A0,k0,c0,M,h1,h2,h3⟩,h4,h5⟩:=hs;exact⟨⟨A0,k0,c0,M,(show Jm X _ _ _ from h1).kept_ hg (fun r e=>(hr r e).2),h2.kept_ hg (fun r e=>(hr r e).2),h3⟩,(show Jm X _ _ _ from h4).kept_ hg (fun r e=>(hr r e).2),h5⟩) (GZ Zl (by have:=HSN.out;have:=HS6.out;omega)))
  (fun _ _ _ _ _ hs _ _=>hs)
  ⟨⟨⟨_,_,_,[],HO6.out,Qk.nil _ _,rfl⟩,HF6.out,fun y hy=>by cases hy⟩,HB6.out⟩
  (fun y a₁ W=>∃G,Jm W G 129 #[.int .i64 y.2.1.1,.int .i64 y.2.1.2,.slice y.1.A y.1.n y.1.c]/\w5.heap.size+1+1 < G/\EvT Wn y/\(∃v,Boxed W (w5.heap.size+1) 32 v/\v.ownBlock≠some G)/\a₁={ tmps:=#[.slice A n c,.slice D q d,.agg #[.slice A1 n1 c1,.slice A2 n2 c2,.slice A3 n3 c3,.slice A4 n4 c4],undef,undef,.pointer (some ⟨w.heap.size,0,none⟩),.slice none 0 0,.slice none 0 0,.int .i64 0,.pointer (some ⟨w5.heap.size,0,none⟩),.pointer (some ⟨w5.heap.size+1,0,none⟩),.pointer (some ⟨w5.heap.size+1+1,0,none⟩),.pointer (some ⟨G,0,none⟩),undef,undef,undef,undef,undef,.slice A n c,.bool true,.bool false,.bool false,.slice D q d,.bool true,.bool false,.bool false,.bool false,.agg #[.slice A1 n1 c1,.slice A2 n2 c2,.slice A3 n3 c3,.slice A4 n4 c4],.bool true,.bool false,.bool false,.agg #[.slice A1 n1 c1,.slice A2 n2 c2,.slice A3 n3 c3,.slice A4 n4 c4],.slice D q d,.bool true,.bool false,.slice D q d,.pointer (some ⟨w.heap.size,1,none⟩),.slice A2 n2 c2,.slice (some ⟨w4.heap.size,0,none⟩) 2 2,.slice N nn nc,.func (.func 181) #[] #[.pointer (some ⟨w5.heap.size,0,none⟩),.pointer (some ⟨w5.heap.size+1,0,none⟩)],.slice A n c,.slice D q d,.func (.func 206) #[] #[.pointer (some ⟨w5.heap.size+1+1+1,0,none⟩),.pointer (some ⟨w5.heap.size+1+1+1+1,0,none⟩)],.agg #[.int .i64 y.2.1.1,.int .i64 y.2.1.2,.slice y.1.A y.1.n y.1.c],undef,undef,undef,undef,undef,undef,undef,undef,undef,undef,undef,undef,undef,undef,undef,undef,undef,undef,undef,undef,undef,undef,undef,undef,undef,undef,undef,undef,undef,undef,undef,undef,undef,undef,undef,undef,undef,undef,undef,undef,undef,undef,undef,undef,undef],defers:=[] }) (fun a₁ y X Y row hs hg hr=>by
   obtain⟨G,h1,h2,h3,⟨v,h5,h6⟩,h4⟩:=hs;exact⟨G,h1.kept_ hg (fun r e=>(hr r e).2),h2,h3,⟨v,(show Jm X _ _ _ from h5).kept_ hg (fun r e=>(hr r e).2),h6⟩,h4⟩) ?assign ?body ?done ?stop
 case assign=>
  rintro lp pre y W K ⟨⟨⟨A0,k0,c0,M,hbx,hM,hMz⟩,hfx,hall⟩,hB⟩ hX hK;obtain⟨⟨Av,nv,cv⟩,⟨lo,hi⟩,u⟩:=y;dsimp only[evZ]
  gi_wp2
  have hbA:Bz W (W.alloc (.cells #[.int .i64 lo,.int .i64 hi,.slice Av nv cv] 129)):=Zr.alloc Zl _;exact hK _ _ (QC hbA) (KZ.of_below hbx.lt hbA) ⟨⟨⟨A0,k0,c0,M,hbx.alloc _,hM.below hbA,hMz⟩,hfx.alloc _,hall⟩,hB.alloc hB.size _⟩ ⟨W.heap.size,Jm.new W _ _,hfx.lt,hX,⟨_,hbx.alloc _,fun e=>by have:=(hM.row.lt _ e).2;omega⟩,rfl⟩
 case body=>
  rintro lp pre y a₁ W hlp ⟨⟨⟨A0,k0,c0,M,hbx,hM,hMz⟩,hfx,hall⟩,hB⟩ ⟨G,hX,hGl,hEv,hGp,rfl⟩ hlt;obtain⟨⟨Av,nv,cv⟩,⟨lo,hi⟩,u⟩:=y;have hGp:(Value.slice A0 k0 c0).ownBlock≠some G:=by
   obtain⟨v,h1,h2⟩:=hGp;have e:some (Obj.cells #[v] 32 (0,0))=some (Obj.cells #[.slice A0 k0 c0] 32 (0,0)):=h1.symm.trans hbx;injection e with e;injection e with e;injection e with e;injection e with e;rw[e] at h2;exact h2
  have hsn:=HSN.out;have hsw:w.heap.size < Wn.heap.size:=by have:=HB0N.out.size;have:=HS0.out;omega
  have hbW:=Jg HB0N.out hB;have hnb:Jm W w.heap.size 26 #[.slice A1 n1 c1,.slice A2 n2 c2,.slice A3 n3 c3,.slice A4 n4 c4]:=(hB.block _ hsw).trans HNB.out;obtain⟨q0,q1,q2,q3⟩:=hnb.four4;obtain⟨x0,x1,x2⟩:=hX.three;have hbA:Bz W (W.alloc (.cells #[.int .i64 lo,.int .i64 hi] 63)):=Zr.alloc Zl _;have hRA:=Rd.new W 63 2 1 #[.int .i64 lo,.int .i64 hi] rfl h1max;obtain⟨y0,y1,y2,y3⟩:=(hnb.go hbA).four4;obtain⟨z0,z1,z2⟩:=(hX.go hbA).three;obtain⟨W1,hW1⟩:∃W1,W1=W.alloc (.cells #[.int .i64 lo,.int .i64 hi] 63):=⟨_,rfl⟩;have hs1:W1.heap.size=W.heap.size+1:=by rw[hW1];simp
  have hRA:Rd W1 W1.heap.size 2 (some ⟨W.heap.size,0,none⟩) 1 1 (sv [(lo,hi)]):=by rw[hW1,El];exact hRA
  rw[<-hW1] at hbA;have hbW1:=Jg hbW hbA;have ST:=JdB ⟨A1,n1,c1,A2,n2,c2,A3,n3,c3,A4,n4,c4⟩ x Av nv cv u W1 (HT0.out.below hbW1) (HN0.out.go hbW1) hEv.len ((hEv.rd.go hB).go hbA);simp only[NV.val] at ST;have hfm:=(UM u x.s x.e hEv.fm 64 Zl).1;have hf64:=Yu hfm;obtain⟨far,hfar⟩:∃far,far=Xa u x.s x.e 64:=⟨_,rfl⟩;rw[<-hfar] at ST hfm hf64;obtain⟨nf,hnf⟩:∃nf,nf=far.length:=⟨_,rfl⟩;rw[<-hnf] at ST hf64;have ST:=Ja ST;have HFAR:=Ja hfar;have HNF:=Ja hnf.symm;have HW1:=Ja hW1.symm;have HRA:=Ja hRA;have HBA:=Ja hbA;have HS1:=Ja hs1;have HBx:=Ja hbx;have HM:=Ja hM;have HMZ:=Ja hMz;have HFx:=Ja hfx;have HALL:=Ja hall;have HBW:=Ja hB;have HXG:=Ja hX;have HEV:=Ja hEv;have HGP:=Ja hGp;have HNBW:=Ja hnb;have hnv:nv<=64:=by have h1:=hEv.len;have h2:=Yu hEv.fm;dsimp only at h1 h2;omega
  clear hbx hM hMz hfx hall hB hX hEv hGp hsn hsw hbW hnb hbA hRA hW1 hs1 hbW1 hfm hfar hnf
  gi_wp2_with fail
  rw[HW1.out];refine⟨trivial,?_⟩;refine(Ex.2 ST.out).mono ?_;rintro e w7 ⟨A7,c7,rfl,hRF,hNA,hb7⟩;have hb7W:=Jg HBA.out hb7;clear q0 q1 q2 q3 x0 x1 x2 y0 y1 y2 y3 z0 z1 z2 ST;obtain⟨q0,q1,q2,q3⟩:=(HNBW.out.go hb7W).four4;have HRF:=Ja hRF;have HNA:=Ja hNA;have HB7:=Ja hb7W;have HRA7:=Ja (HRA.out.go hb7);have hbW7:=Jg HB0N.out (Jg HBW.out hb7W);have HN7:=Ja (HN0.out.go hbW7);have HL4:=Ja HN7.out.l4;have hl3:x.b.length=n3:=HN7.out.l3;have hn3:n3<=128:=by rw[<-hl3];exact HXB.out
  have hn4:n4<=256:=by have:=HXW.out;have h:=HN7.out.l4;dsimp only at h;omega
  have hs7:=hb7W.size;clear hRF hNA hb7 hb7W
  gi_wp2_with fail
  clear q0 q1 q2 q3
  gi_loopw [15,57] (fun v15 v57 wr=>∃(k ns cs:Nat) (S:OA),v57=.int .i64 k/\v15=.slice S ns cs/\k<=n4/\ns<=128/\Bz w7 wr/\Hid (∃l,l.length=ns/\Rd wr wr.heap.size 2 S ns cs (sv l)/\((S=A3/\ns=n3)\/∀a,S=some a->w7.heap.size<=a.block)/\l=XX (UC x u) x.b (x.w.take k))) (fun _ v57 _=>n4 - (intOf v57).toNat)
  case atStart=>exact⟨0,n3,c3,A3,rfl,rfl,FB _,hn3,Ec _ _,x.b,hl3,HN7.out.r3,.inl ⟨rfl,rfl⟩,rfl⟩
  case round=>
   obtain⟨k,ns,cs,S,rfl,rfl,hk,hns,hb,hq⟩:=hrel;obtain⟨l,hll,hRl,hSn,hly⟩:=hq.out;have hbs:=hb.size;by_cases hlt4:k < n4
   ·have hkl:k < x.w.length:=by have:=HL4.out;omega
    obtain⟨bb,oo,he4,hab,g0,g1,g2,g3⟩:=(HN7.out.go hb).r4.write HL4.out hkl;have he4:A4=some ⟨bb,oo,none⟩:=he4;subst he4;have hsn:=Jgu (UC x u) x.b (x.w.take k) (x.w[k]'hkl);rw[<-Eq hkl,<-hly] at hsn;have hms:UC x u (x.w[k]'hkl)=!QD far (x.w[k]'hkl).1:=by unfold UC;rw[HFAR.out]
    rw[hms] at hsn;generalize (x.w[k]'hkl)=wk at g0 g1 g2 g3 hsn;obtain⟨⟨ct,nd⟩,ob,gb⟩:=wk;dsimp only at g0 g1 g2 g3 hsn;have hY:=Jm.new wr 70 #[.int .i64 ct,.int .i64 nd,.int .i64 ob,.bool gb];have hbY:Bz wr (wr.alloc (.cells #[.int .i64 ct,.int .i64 nd,.int .i64 ob,.bool gb] 70)):=Zr.alloc Zl _;have HAS:=Jfe A7 nf c7 far (ct,nd) (wr.alloc (.cells #[.int .i64 ct,.int .i64 nd,.int .i64 ob,.bool gb] 70)) HNF.out ((HRF.out.go hb).go hbY);generalize QD far (ct,nd)=bh at hsn HAS;have HASH:=Ja HAS;have HSNN:=Ja hsn;have HYY:=Ja hY;have HBY:=Ja hbY;have HLL:=Ja hll;have HRL:=Ja hRl;have HSS:=Ja hSn;have HBB:=Ja hb;clear hll hRl hSn hly hq hsn hms hY hbY HAS hab hkl hb
    gi_wp2_with fail
    refine⟨trivial,?_⟩;refine(Ex.2 HASH.out).mono ?_;rintro e w8 ⟨rfl,hb8⟩;have HY8:=Ja (HYY.out.go hb8);have hb8:=Jg HBY.out hb8;have hs8:=hb8.size;rcases bh with _ | _
    ·obtain⟨y0,y1,y2,y3⟩:=HY8.out.four4;have hb9:=Ji hb8 (.cells #[.int .i64 ob] 3);have OF:=Ja (JhO (some ⟨w8.heap.size,0,none⟩) 1 1 [ob] (w8.alloc (.cells #[.int .i64 ob] 3)) rfl (show Rd (w8.alloc (.cells #[.int .i64 ob] 3)) (w8.alloc (.cells #[.int .i64 ob] 3)).heap.size 1 (some ⟨w8.heap.size,0,none⟩) 1 1 (zv [ob]) from rdN 1 1 hb9 rfl h1max) (by omega));have HB8:=Ja hb8;have HB9:=Ja hb9;clear g0 g1 g2 g3 hb8 hb9 HASH
     gi_wp2_with fail
     refine⟨trivial,?_⟩;refine(Ex.2 OF.out).mono ?_;rintro e w9 hout;obtain⟨y,hy⟩:∃y,y=Sn.YW (JeN [ob]):=⟨_,rfl⟩;have hy128:y.length<=128:=by rw[hy];exact Sn.UI _
     rw[<-hy] at hout;obtain⟨A9,c9,rfl,ho9,hb9'⟩:=hout;have hb9W:=Jg HB9.out hb9';have hRy:=Rd.of_own ho9;obtain⟨ny,hny⟩:∃ny,ny=y.length:=⟨_,rfl⟩;rw[<-hny] at hRy hy128 ⊢;have hRl9:=(HRL.out.go HB8.out).go hb9W;have JN:=JjT (some ⟨w9.heap.size,0,none⟩) 2 2 [l,y] (w9.alloc (.cells #[.slice S ns cs,.slice A9 ny c9] 23)) (RdL.two HLL.out hny.symm hRl9 hRy 23) (by simp only[List.flatten_cons,List.flatten_nil,EG,Eb];have:=HLL.out;omega);obtain⟨z,hz⟩:∃z,z=Sn.YW [l,y].flatten:=⟨_,rfl⟩;rw[<-hz] at JN;have hz128:z.length<=128:=by rw[hz];exact Sn.UI _
     have HN2:=Ja (show XX (UC x u) x.b (x.w.take (k+1))=z by rw[HSNN.out,hz,hy];rfl);have JN:=Ja JN;have HB9W:=Ja (Jg HB8.out hb9W);have hs9:=hb9W.size;clear y0 y1 y2 y3 ho9 hb9' hb9W hRy hRl9 OF hny hz hy
     gi_wp2_with fail
     refine⟨trivial,?_⟩;refine(Ex.2 JN.out).mono ?_;rintro e w10 hout;obtain⟨A10,c10,rfl,ho10,hb10⟩:=hout;have hb10W:=Jg HB9W.out (Qg (Ji HB9W.out (.cells #[.slice S ns cs,.slice A9 ny c9] 23)) Zl hb10)
     gi_wp2
     go_roundw
     case rel=>exact⟨k+1,z.length,c10,A10,by go_num,rfl,by omega,hz128,Jg HBB.out hb10W,z,rfl,Rd.of_own ho10,.inr (fun a ha=>by have h1:=Jdk ho10 a ha;simp only[El] at h1;omega),HN2.out.symm⟩
     case measure=>simp[intOf];omega
    ·have HN2:=Ja (show XX (UC x u) x.b (x.w.take (k+1))=l by rw[HSNN.out];rfl);clear g0 g1 g2 g3
     gi_wp2
     go_roundw
     case rel=>exact⟨k+1,ns,cs,S,by go_num,rfl,by omega,hns,Jg HBB.out hb8,l,HLL.out,HRL.out.go hb8,HSS.out,HN2.out.symm⟩
     case measure=>simp[intOf];omega
   ·obtain rfl:k=n4:=by omega
    have hly2:l=XX (UC x u) x.b x.w:=by rw[hly,Eo (by have:=HL4.out;omega)]
    have hbr:=Jg HB7.out hb;have hrs:=hbr.size;have hsn:=HSN.out;have hs1:=HS1.out;have hbl:=HBx.out.lt;have hfl:=HFx.out.lt;have hk0:k0<=131328:=by
     have e1:=congrArg List.length HMZ.out;have e2:=Jat (fun v=>Xj v (Qj u0 x)) (fun v=>Xa v x.s x.e 64) (stP x) (Jv pre);have e3:=HM.out.len;unfold Jih at e1;rw[JH] at e1 e2;omega
    have hwd:Bz wr wr.drew:=Zr.drew;have hRl0:=hRl;have hP0:=JmE HBx.out HM.out;have hptV:∀V,Bz W V->pt (w5.heap.size+1) V=pt (w5.heap.size+1) W:=fun V hv=>Oq (hv.cell (p:=⟨w5.heap.size+1,0,none⟩) HBx.out.lt);have hpF:pt (w5.heap.size+1) W≠some (w5.heap.size+1+1):=by rw[UG HBx.out];exact fun e=>(HFx.out.not_row (show (217:TypeId)≠129 by decide) HM.out.row) e.symm
    have hpG:pt (w5.heap.size+1) W≠some G:=by rw[UG HBx.out];exact HGP.out
    have hRAr:∀V,Bz wr V->Rd V V.heap.size 2 (some ⟨W.heap.size,0,none⟩) 1 1 (sv [(lo,hi)]):=fun V hv=>(HRA7.out.go hb).go hv;obtain⟨ml,hml⟩:∃ml,ml=Sn.JbH [(lo,hi)] l:=⟨_,rfl⟩;have hml128:ml.length<=128:=by rw[hml];exact Sn.XV (Sn.Zz _)
    have MT:=fun (V:World) (hv:Bz wr V)=>JgL (some ⟨W.heap.size,0,none⟩) 1 1 [(lo,hi)] S ns cs l V rfl (hRAr V hv) (by omega) hll (hRl.go hv) (by omega);rw[<-hml] at MT;have hSS:∀V,Bz W V->JaV (w5.heap.size+1) V ns S:=fun V hv=>by
     have hpv:=hptV V hv;rcases hSn with ⟨rfl,rfl⟩ | h
     ·exact JeQ (B:=Wn.heap.size) (HN0.out.go HB0N.out).r3 (by omega) (fun g hg=>by rw[hpv] at hg;exact(hP0 g hg).1)
     ·exact JaI (B:=w7.heap.size) (by omega) (fun g hg=>by rw[hpv] at hg;have:=(hP0 g hg).2;omega) h
    have hSA:∀V,Bz W V->JaV (w5.heap.size+1) V 1 (some ⟨W.heap.size,0,none⟩):=fun V hv=>by
     have hpv:=hptV V hv;exact JaI (B:=W.heap.size) hbl (fun g hg=>by rw[hpv] at hg;exact(hP0 g hg).2) (fun a ha=>by injection ha with ha;subst ha;exact Ek _)
    have hSU:∀V,Bz W V->JaV (w5.heap.size+1) V nv Av:=fun V hv=>by
     have hpv:=hptV V hv;exact JeQ (B:=Wn.heap.size) HEV.out.rd (by omega) (fun g hg=>by rw[hpv] at hg;exact(hP0 g hg).1)
    have hSFr:∀V,Bz W V->JaV (w5.heap.size+1) V nf A7:=fun V hv=>by
     have hpv:=hptV V hv;rcases HNA.out with ⟨rfl,h2⟩ | h
     ·have e1:=HNF.out;have e2:=HEV.out.len;rw[h2] at e1;dsimp only at e2;rw[show nf=nv by omega];exact JeQ (B:=Wn.heap.size) HEV.out.rd (by omega) (fun g hg=>by rw[hpv] at hg;exact(hP0 g hg).1)
     ·exact JaI (B:=W1.heap.size) (by omega) (fun g hg=>by rw[hpv] at hg;have:=(hP0 g hg).2;omega) h
    have hRFr:∀V,Bz wr V->Rd V V.heap.size 2 A7 nf c7 (sv far):=fun V hv=>(HRF.out.go hb).go hv;have hTV:∀V,Bz Wn V->UW V:=fun V hv=>HT0.out.below (Jg HB0N.out hv);have PT:=fun (V:World) (hv:Bz wr V) (A10:OA) (c10:Nat) (ho:V.ownsRow wr.heap.size 63 2 (.slice A10 ml.length c10) ml.length (sv ml))=>
     Jjk w5.heap.size (w5.heap.size+1) Wn.heap.size A10 Av N A0 ml.length c10 nv cv nn nc k0 c0 ml u nw M V (hTV V (Jg HBW.out (Jg hbr hv)))
      (((Jg HBW.out (Jg hbr hv)).block _ (by omega)).trans HBN.out) HNN.out (HRN.out.go (Jg HBW.out (Jg hbr hv)))
      (((Jg hbr hv).block _ hbl).trans HBx.out) (HM.out.below (Jg hbr hv)) (by omega) rfl (Rd.of_own ho)
      (JaI (B:=wr.heap.size) (by omega) (fun g hg=>by rw[hptV V (Jg hbr hv)] at hg;have:=(hP0 g hg).2;omega) (Jdk ho))
      HEV.out.len (HEV.out.rd.go (Jg HBW.out (Jg hbr hv))) (hSU V (Jg hbr hv)) (by omega) (by omega)
    have PT:=Ja PT;have MT:=Ja MT;have XF:=Ja (show Boxed wr.drew (w5.heap.size+1+1) 217 (.func (.func 181) #[] #[.pointer (some ⟨w5.heap.size,0,none⟩),.pointer (some ⟨w5.heap.size+1,0,none⟩)]) from (hbr.block _ hfl).trans HFx.out);have XG:=Ja ((HXG.out.go hbr).go hwd);have kk:=hwd;have HLL:=Ja hll;have HRL:=Ja hRl;have HLY:=Ja hly2;have HBR:=Ja hbr;have HPT:=Ja hptV;have HPF:=Ja (And.intro hpF hpG);have HRAR:=Ja hRAr;have HSEP:=Ja (And.intro hSS (And.intro hSA hSFr));have HRFR:=Ja hRFr;have HTV:=Ja hTV;have HML:=Ja hml;have hGL:=HXG.out.lt;clear hly hly2 hbr hptV hpF hpG hRAr hSS hSA hSU hSFr hRFr hTV hml hll hRl hRl0 hSn hq hwd hb hP0
    gi_wp2_with fail
    refine JaZ (S:=(fun V=>V.cell? ⟨w5.heap.size+1+1,0,none⟩=some (.func (.func 181) #[] #[.pointer (some ⟨w5.heap.size,0,none⟩),.pointer (some ⟨w5.heap.size+1,0,none⟩)])/\V.cell? ⟨G,2,none⟩=some (.slice Av nv cv))) (by kernel_rfl) (by kernel_rfl) (by first | exact⟨XF.out.cell,XG.out.cell 2⟩) (fun KK hKK hHeld=>?_);refine Jc 0 74 1 75 (⟨XF.out.cell,XG.out.cell 2⟩) ?_;refine Jc 2 76 4 78 (⟨XF.out.cell,XG.out.cell 2⟩) ?_;refine Qx 5 79 (⟨XF.out.cell,XG.out.cell 2⟩) ?_;refine Qa 3 fun K hK=>?_;go_simp;refine(MT.out _ kk).mono ?_;rintro e W10 ⟨A10,c10,rfl,ho10,hb'⟩;have XF:=Ja (show Boxed W10 (w5.heap.size+1+1) 217 (.func (.func 181) #[] #[.pointer (some ⟨w5.heap.size,0,none⟩),.pointer (some ⟨w5.heap.size+1,0,none⟩)]) from (hb'.block _ XF.out.lt).trans XF.out);have XG:=Ja (XG.out.go hb');have O10:=Ja ho10;have kk:=Jg kk hb';clear ho10 hb';refine hK.out _ _ (⟨XF.out.cell,XG.out.cell 2⟩) fun hHeld=>?_;clear hK K;refine Qa 6 fun K hK=>?_;go_simp;refine Jd (PT.out _ kk A10 c10 O10.out) fun W11 hput=>?_;have KK10:=Ja (Jg HBR.out kk);have XF:=Ja (show Boxed W11 (w5.heap.size+1+1) 217 (.func (.func 181) #[] #[.pointer (some ⟨w5.heap.size,0,none⟩),.pointer (some ⟨w5.heap.size+1,0,none⟩)]) from hput.kz.blk (by omega) (by rw[HPT.out _ KK10.out];exact HPF.out.1) XF.out);have XG:=Ja (hput.kz.blk (by omega) (by rw[HPT.out _ KK10.out];exact HPF.out.2) XG.out);have PI:=Ja hput;clear hput;refine hK.out _ _ (⟨XF.out.cell,XG.out.cell 2⟩) fun hHeld=>?_;clear hK K;refine Es (by kernel_rfl) ?_ _;refine QQ.out (hKK _ _ ?_);have hwn:=HBW.out.size;have kz1:=Ja ((KZ.of_below hbl KK10.out).trans PI.out.kz);have kf1:=Ja ((QC (B:=0) KK10.out).trans PI.out.kf);have bl1:=Ja (HBW.out.trans ((KK10.out.mono hwn).trans PI.out.bl));obtain⟨A1',k1,c1',M1,hbx1,hM1,hz1⟩:=PI.out.st;have hk1:k1<=131456:=by
     have e1:=congrArg List.length hz1;have e2:=hM1.len;have e3:=HM.out.len;have e4:=Jme (Xj u nw) ml u;rw[JH,Eb,JH] at e1;omega
    have rA11:=(HRAR.out _ kk).kz PI.out.kz (HSEP.out.2.1 _ KK10.out);have rl11:=(HRL.out.go kk).kz PI.out.kz (HSEP.out.1 _ KK10.out);have rF11:=(HRFR.out _ kk).kz PI.out.kz (HSEP.out.2.2 _ KK10.out);have sF11:=(HSEP.out.2.2 _ KK10.out).kz PI.out.kz (HRFR.out _ kk);have P1:=JmE hbx1 hM1;have hs11:=bl1.out.size;have hpV:∀V,Bz W11 V->pt (w5.heap.size+1) V=pt (w5.heap.size+1) W11:=fun V hv=>Oq (hv.cell (p:=⟨w5.heap.size+1,0,none⟩) hbx1.lt);have HPF2:=Ja fun V (hv:Bz W11 V)=>(show pt (w5.heap.size+1) V≠some (w5.heap.size+1+1) from by rw[hpV V hv,UG hbx1];exact fun e=>(XF.out.not_row (show (217:TypeId)≠129 by decide) hM1.row) e.symm);obtain⟨ll,hll2⟩:∃ll,ll=Sn.JiK [(lo,hi)] l:=⟨_,rfl⟩;have hll128:ll.length<=128:=by rw[hll2];exact Sn.XV (Sn.Zz _)
    have LS:=fun (V:World) (hv:Bz W11 V)=>JlU (some ⟨W.heap.size,0,none⟩) 1 1 [(lo,hi)] S ns cs l V rfl (rA11.go hv) (by omega) HLL.out (rl11.go hv) (by omega);rw[<-hll2] at LS;have PT2:=fun (V:World) (hv:Bz W11 V) (A12:OA) (c12:Nat) (ho:V.ownsRow W11.heap.size 63 2 (.slice A12 ll.length c12) ll.length (sv ll))=>
     Jjk w5.heap.size (w5.heap.size+1) Wn.heap.size A12 A7 N A1' ll.length c12 nf c7 nn nc k1 c1' ll far nw M1 V (HTV.out V (Jg bl1.out hv))
      (((Jg bl1.out hv).block _ (by omega)).trans HBN.out) HNN.out (HRN.out.go (Jg bl1.out hv))
      ((hv.block _ hbx1.lt).trans hbx1) (hM1.below hv) (by omega) rfl (Rd.of_own ho)
      (JaI (B:=W11.heap.size) hbx1.lt (fun g hg=>by rw[hpV V hv] at hg;exact(P1 g hg).2) (Jdk ho))
      HNF.out (rF11.go hv) (sF11.below hbx1.lt hv) (by omega) (by omega)
    have PT2:=Ja PT2;have LS:=Ja LS;have XF:=Ja (show Boxed W11.drew (w5.heap.size+1+1) 217 (.func (.func 181) #[] #[.pointer (some ⟨w5.heap.size,0,none⟩),.pointer (some ⟨w5.heap.size+1,0,none⟩)]) from XF.out);have HZ1:=Ja hz1;have HBX1:=Ja hbx1;have HLL2:=Ja hll2;have kk:Bz W11 W11.drew:=Zr.drew;clear hz1 hbx1 hM1 rA11 rl11 rF11 sF11 P1 hpV hll2 XG
    gi_wp2_with fail
    refine JaZ (S:=(fun V=>V.cell? ⟨w5.heap.size+1+1,0,none⟩=some (.func (.func 181) #[] #[.pointer (some ⟨w5.heap.size,0,none⟩),.pointer (some ⟨w5.heap.size+1,0,none⟩)]))) (by kernel_rfl) (by kernel_rfl) (by first | exact XF.out.cell) (fun KK hKK hHeld=>?_);refine Jc 0 81 1 82 (XF.out.cell) ?_;refine Jc 2 83 4 85 (XF.out.cell) ?_;refine Qa 3 fun K hK=>?_;go_simp;refine(LS.out _ kk).mono ?_;rintro e W12 ⟨A12,c12,rfl,ho12,hb'⟩;have XF:=Ja (show Boxed W12 (w5.heap.size+1+1) 217 (.func (.func 181) #[] #[.pointer (some ⟨w5.heap.size,0,none⟩),.pointer (some ⟨w5.heap.size+1,0,none⟩)]) from (hb'.block _ XF.out.lt).trans XF.out);have O12:=Ja ho12;have kk:=Jg kk hb';clear ho12 hb';refine hK.out _ _ (XF.out.cell) fun hHeld=>?_;clear hK K;refine Qa 5 fun K hK=>?_;go_simp;refine Jd (PT2.out _ kk A12 c12 O12.out) fun W13 hput=>?_;have XF:=Ja (show Boxed W13 (w5.heap.size+1+1) 217 (.func (.func 181) #[] #[.pointer (some ⟨w5.heap.size,0,none⟩),.pointer (some ⟨w5.heap.size+1,0,none⟩)]) from hput.kz.blk (by omega) (HPF2.out _ kk) XF.out);have PI2:=Ja hput;have KK12:=Ja kk;clear hput;refine hK.out _ _ (XF.out.cell) fun hHeld=>?_;clear hK K;refine Es (by kernel_rfl) ?_ _;refine QQ.out (hKK _ _ ?_);obtain⟨A2',k2,c2',M2,hbx2,hM2,hz2⟩:=PI2.out.st;have HFIN:=Ja (show Jv M2=Jih u0 x (Jv (pre++[((⟨Av,nv,cv⟩:ZV),(lo,hi),u)])) by
     rw[hz2,HZ1.out,HMZ.out,JA,show Jv [((⟨Av,nv,cv⟩:ZV),(lo,hi),u)]=[((lo,hi),u)] from rfl,Jj7,HML.out,HLL2.out,HLY.out,HFAR.out,HNW.out])
    have HALL2:=Ja (show ∀y∈pre++[((⟨Av,nv,cv⟩:ZV),(lo,hi),u)],EvT Wn y from fun y hy=>by
     rcases EB.1 hy with hy | hy
     ·exact HALL.out y hy
     ·rw[Ez] at hy;subst hy;exact HEV.out)
    have bl2:=Ja (bl1.out.trans ((KK12.out.mono hs11).trans PI2.out.bl));have kz2:=Ja (kz1.out.trans ((KZ.of_below HBX1.out.lt KK12.out).trans PI2.out.kz));have kf2:=Ja (kf1.out.trans ((QC (B:=0) KK12.out).trans PI2.out.kf));clear hz2
    gi_wp2
    exact⟨KeepsFrom.zero kf2.out,kz2.out,⟨⟨A2',k2,c2',M2,hbx2,hM2,HFIN.out⟩,XF.out,HALL2.out⟩,bl2.out⟩
 case done=>
  rintro E' ys W hD hys ⟨⟨⟨A0,k0,c0,M,hbx,hM,hMz⟩,hfx,hall⟩,hB⟩ hK;have hys':Jv ys=KP u0 0 (Jv L):=hys;rw[hys'] at hMz;have hAll:Jv M=Jcp (fun v=>Xj v (Qj u0 x)) (fun v=>Xa v x.s x.e 64) (stP x) (Jv L) u0:=hMz;have hwell:=Jd3 (fun v=>Xj v (Qj u0 x)) (fun v=>Xa v x.s x.e 64) (fun v hv=>(UM v x.s x.e hv 64 Zl).1) (stP x) HF.out.1 HF.out.2.1;rw[<-hAll] at hwell;have hn0:k0<=131328:=by
   have e1:=congrArg List.length hMz;have e2:=Jat (fun v=>Xj v (Qj u0 x)) (fun v=>Xa v x.s x.e 64) (stP x) (KP u0 0 (Jv L));have e3:=hM.len;have e4:(KP u0 0 (Jv L)).length<=513:=JmZ u0 HF.out.1;unfold Jih at e1;rw[JH] at e1;omega
  have hsn:=HSN.out;have JN:=JhG Wn.heap.size k0 c0 A0 M W.drew (hM.below (Ec _ W).drew) (fun p hp=>by
   obtain⟨a1,a2,a3,_⟩:=hwell p.2 (EL hp);exact⟨⟨a1,by omega⟩,by omega,a3⟩) (by omega) hB.size
  have JN:=Ja JN;have HAP:=Ja hAll;have BX:=Ja (show Boxed W.drew (w5.heap.size+1) 32 (.slice A0 k0 c0) from hbx);have XN:=Ja (show Boxed W.drew w5.heap.size 22 (.slice N nn nc) from (hB.block _ (by omega)).trans HBN.out);have HBW:=Ja hB;have hs6:=HS6.out;clear hys hys' hMz hAll hwell hbx hM hfx hall hB
  gi_wp2_with fail
  refine wpIn_wide.2 ?_;refine Jl fun KK hKK=>?_;refine Eg (S:=(fun V=>V.cell? ⟨w5.heap.size,0,none⟩=some (.slice N nn nc))) (by kernel_rfl) (by first | exact XN.out.cell) (fun hHeld=>?_);refine Qx 2 89 (XN.out.cell) ?_;refine Qa 0 fun K hK=>?_;have qg:=BX.out.cell;go_simp;clear qg;refine hK.out _ _ (XN.out.cell) fun hHeld=>?_;clear hK K;refine Qa 1 fun K hK=>?_;go_simp;refine JN.out.mono ?_;rintro e W8 ⟨A8,k8,c8,M8,rfl,hz8,hp8,hb8,hkf8⟩;have XN:=Ja (show Boxed W8 w5.heap.size 22 (.slice N nn nc) from (hb8.block _ (by omega)).trans XN.out);have HZ8:=Ja hz8;have HP8:=Ja hp8;have HB8:=Ja hb8;have HK8:=Ja hkf8;clear hz8 hp8 hb8 hkf8;refine hK.out _ _ (XN.out.cell) fun hHeld=>?_;clear hK K;refine Jc 3 6 4 7 (XN.out.cell) ?_;refine Qx 5 8 (XN.out.cell) ?_;refine Es (by kernel_rfl) ?_ _;refine QQ.out (hKK _ _ ?_);have hK8:=HK8.out.same _ _ (FB _) hK rfl;have HTK:=Ja (show Jv M8=tkZ (Jv L) u0 x by
   obtain⟨m,p1,p2,p3⟩:=HP8.out;rw[HAP.out] at p1;rw[p3];exact JmS HF.out.1 HF.out.2.1 HF.out.2.2 p1 p2)
  gi_wp2
  refine⟨by simp,.inl ⟨_,_,rfl,Gn hK8,?_⟩⟩;refine⟨.tuple #[.slice A8 k8 c8,.slice N nn nc,.int .i64 0],by simp[results,Tryz.f138,go_sem],?_⟩;rw[HE.out,HZK.out.1,HZK.out.2,<-HNW.out];have hw8:Bz Wn W8:=HBW.out.drew.trans HB8.out;exact⟨A8,k8,c8,M8,N,nn,nc,rfl,HZ8.out.kept hK8 rfl,HTK.out,HNN.out,(Jba (HRN.out.go hw8) (Gj W8 E' (.deferred none)) (fun r e=>by cases e;exact⟨_,hK8,rfl⟩)).more (by simp),(Jg HB0.out (Jg HB0N.out hw8)).trans (Rh (w:=w) Zl W8 E' _ _ (by have:=HB0N.out.size;have:=HS0.out;omega) hK8 rfl rfl)⟩
 case stop=>
  rintro E' c' pre W _ _ h _;exact h.elim
end Go.Proofs.YtmbeahbgafkjfaaGreatDoor
