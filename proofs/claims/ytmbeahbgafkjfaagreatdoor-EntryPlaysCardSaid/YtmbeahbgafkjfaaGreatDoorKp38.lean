/- Lemmas, layer 38. -/
import Derived.Test.YtmbeahbgafkjfaaGreatDoorKp21
set_option linter.unusedSimpArgs false
set_option maxRecDepth 100000
set_option maxHeartbeats 16000000
namespace Go.Proofs.YtmbeahbgafkjfaaGreatDoor
open Go.Proofs.Tryz Go.RowKit
theorem JlH (l:List Sn.Sp) (k:Nat) (h:k < 256):Yx l (k:Int)=Sn.Qp l k:=by
 unfold Yx Sn.Qp;simp;intro _;omega
theorem JaQ {f:Int->Option (List Vc.St)} {k:Nat} (h:f k=none):UF f (k+1)=UF f k:=by simp[UF,rl,h]
theorem Jcb {f:Int->Option (List Vc.St)} {k:Nat} {v:List Vc.St} (h:f k=some v) (h0:UF f k=[]):UF f (k+1)=UF f k++[(((k:Int),(k:Int)),v)]:=by
 unfold UF at h0 ⊢;rw[List.append_eq_nil_iff] at h0;rcases hc:(rl f k).2 with _ | x
 ·rw[rl,h,hc];simp[h0.1]
 ·rw[hc] at h0;simp at h0
theorem JaC {f:Int->Option (List Vc.St)} (hf:∀o v,f o=some v->fm (-1) v=true) {k:Nat} (hk:k<=256) {v:List Vc.St} (h:f k=some v) {D:List Zn} {y:Zn} (h0:UF f k=D++[y]):
  UF f (k+1)=if y.1.2=(k:Int) - 1/\y.2=v then D++[((y.1.1,(k:Int)),v)] else (D++[y])++[(((k:Int),(k:Int)),v)]:=by
 have ok:=JbP f hf k hk;rcases hc:(rl f k).2 with _ | x
 ·have h1:=ok.none hc;unfold UF at h0;rw[hc] at h0;simp only[Option.toList_none,EG] at h0;rw[h0,Yd,Ot] at h1;have h2:¬ (y.1.2=(k:Int) - 1/\y.2=v):=by
   rintro⟨h2,_⟩;rcases h1 with h1 | ⟨h1,_⟩
   ·omega
   ·cases h1
  rw[Ef h2];unfold UF;rw[rl,h];simp[hc,h0]
 ·have h1:=ok.some x hc;unfold UF at h0;rw[hc] at h0;simp only[Option.toList_some] at h0;obtain⟨e1,e2⟩:=List.append_inj' h0 rfl;injection e2 with e2;subst e2;unfold UF;rw[rl,h];by_cases hv:x.2=v
  ·rw[Ei ⟨by omega,hv⟩];simp[hc,hv,e1]
  ·rw[Ef (fun h=>hv h.2)];simp[hc,hv,e1]
theorem Jnr {f:Int->Option (List Vc.St)} (hf:∀o v,f o=some v->fm (-1) v=true) {k:Nat} (hk:k<=256):(UF f k).length<=256:=JcO (JbP f hf k hk).fm
theorem Jk1 {z:List Zn} {known:List Vc.St} {x:Nt} {o:Int} (h:Xj (Kl z known x o) (Qj known x)=true):tkF z known x o=none:=Ei h
theorem Jmc {z:List Zn} {known:List Vc.St} {x:Nt} {o:Int} (h:Xj (Kl z known x o) (Qj known x)=false):tkF z known x o=some (Kl z known x o):=Ef (by rw[h];simp)
theorem Jep {z:List Zn} {known:List Vc.St} {x:Nt} {o:Int} (h:Yx x.b o=true):Kl z known x o=Qd z known o:=Ei h
theorem Jf7 {z:List Zn} {known:List Vc.St} {x:Nt} {o:Int} (h:Yx x.b o=false):Kl z known x o=Jbz (Qd z known o) x o:=Ef (by rw[h];simp)
theorem JfX {z:List Zn} {known:List Vc.St} {o:Int} {y:Zn} (h:z.find? (Xg o)=some y):Qd z known o=y.2:=by unfold Qd;rw[h]
theorem Jhs {z:List Zn} {known:List Vc.St} {o:Int} (h:z.find? (Xg o)=none):Qd z known o=known:=by unfold Qd;rw[h]
theorem Jfm {z:List Zn} {known:List Vc.St} {x:Nt} (h:(zF (-1) none z && (fm (-1) known && Yw x))=false):tkE z known x=1/\OO z known x=[]/\tkK z known x=[]:=by
 have:tkE z known x=1:=by unfold tkE;rw[h];simp
 exact⟨this,by unfold OO;rw[this];simp,by unfold tkK;rw[this];simp⟩
theorem Jkm {z:List Zn} {known:List Vc.St} {x:Nt} (h:(zF (-1) none z && (fm (-1) known && Yw x))=true) (h2:Za x known=false):tkE z known x=3/\OO z known x=[]/\tkK z known x=[]:=by
 have:tkE z known x=3:=by unfold tkE;rw[h,h2];simp
 exact⟨this,by unfold OO;rw[this];simp,by unfold tkK;rw[this];simp⟩
theorem Joz {z:List Zn} {known:List Vc.St} {x:Nt} (h:(zF (-1) none z && (fm (-1) known && Yw x))=true) (h2:Za x known=true):tkE z known x=0/\OO z known x=tkZ z known x/\tkK z known x=Qj known x:=by
 have:tkE z known x=0:=by unfold tkE;rw[h,h2];simp
 exact⟨this,by unfold OO;rw[this];simp,by unfold tkK;rw[this];simp⟩
theorem Jf4 (A D:OA) (n c q d:Nat) (L:List (ZV×Zn)) (u0:List Vc.St) (v:NV) (x:Nt) (w:World) (hR:Zc w w.heap.size A n c L) (hl:u0.length=q) (hR2:Rd w w.heap.size 2 D q d (sv u0)) (hN:Yf w w.heap.size v x):
  Calls prog 152 #[.slice A n c,.slice D q d,.agg v.val] w fun e w'=>Uz w w' e (tkE (Jv L) u0 x) (OO (Jv L) u0 x) (tkK (Jv L) u0 x):=by
 obtain⟨A1,n1,c1,A2,n2,c2,A3,n3,c3,A4,n4,c4⟩:=v;obtain⟨hz,hi⟩:=FG Uk;obtain⟨i0,hi0,hz0,hz1,hz2⟩:=EN Kr;have h1max:1<=maxLen:=by unfold maxLen;omega
 have HI:=Ja hi;clear hi;have hb0:Bz w (w.alloc (.cells #[.slice A1 n1 c1,.slice A2 n2 c2,.slice A3 n3 c3,.slice A4 n4 c4] 26)):=Zr.alloc Zl _;have hX:=Jm.new w 26 #[.slice A1 n1 c1,.slice A2 n2 c2,.slice A3 n3 c3,.slice A4 n4 c4];obtain⟨W0,hW0⟩:∃W0,W0=w.alloc (.cells #[.slice A1 n1 c1,.slice A2 n2 c2,.slice A3 n3 c3,.slice A4 n4 c4] 26):=⟨_,rfl⟩;rw[<-hW0] at hb0 hX;have hN0:=hN.go hb0;have G1:=fun (V:World) (hb:Bz W0 V)=>XZ A n c L V ((hR.go hb0).go hb);have G2:=fun (V:World) (hb:Bz W0 V)=>Xo D q d u0 V hl ((hR2.go hb0).go hb);have G3:=fun (V:World) (hb:Bz W0 V)=>Xt ⟨A1,n1,c1,A2,n2,c2,A3,n3,c3,A4,n4,c4⟩ x V (hN0.go hb);have G4:=fun (V:World) (hb:Bz W0 V)=>JgQ ⟨A1,n1,c1,A2,n2,c2,A3,n3,c3,A4,n4,c4⟩ x D q d u0 V (hN0.go hb) hl ((hR2.go hb0).go hb);have G5:=fun (V:World) (hb:Bz W0 V)=>Jhm D A2 q d n2 c2 u0 x.e V hl hN0.l2 ((hR2.go hb0).go hb) (hN0.go hb).r2;have G6:=fun (V:World) (hb:Bz W0 V)=>Jaq A3 n3 c3 x.b V hN0.l3 (hN0.go hb).r3;simp only[NV.val] at G3 G4 ⊢;rw[show XM (jn [u0,x.e])=Qj u0 x from rfl] at G5;have HQ:=Ja fun (V:World) (hb:Bz W0 V)=>(show V.cell? ⟨w.heap.size,0,none⟩=some (.slice A1 n1 c1)/\V.cell? ⟨w.heap.size,1,none⟩=some (.slice A2 n2 c2)/\V.cell? ⟨w.heap.size,2,none⟩=some (.slice A3 n3 c3)/\V.cell? ⟨w.heap.size,3,none⟩=some (.slice A4 n4 c4) from ⟨(hX.go hb).cell 0,(hX.go hb).cell 1,(hX.go hb).cell 2,(hX.go hb).cell 3⟩);have HW:=Ja hW0.symm;have HB0:=Ja hb0;have HL:=Ja hl;have HR0:=Ja (hR.go hb0);have HD0:=Ja (hR2.go hb0);have HN0:=Ja hN0;have k:=Ec W0.heap.size W0;have G6:=Ja G6;clear hX hW0 hb0 hl hR hR2 hN hN0;rcases hf1:zF (-1) none (Jv L) with _ | _
 ·obtain⟨e1,e2,e3⟩:=Jfm (z:=Jv L) (known:=u0) (x:=x) (by rw[hf1];rfl);rw[e1,e2,e3];simp only[hf1] at G1;have G1:=Ja G1;clear e1 e2 e3 hf1;obtain⟨q0,q1,q2,q3⟩:=HQ.out _ k;go_enter func152,ntmps152;go_upto_region 1 with fail;rw[HW.out];go_wp2_with (first | (go_at_call 85;go_must (refine Qt (G1.out _ k) k fun w1 k=>?_);obtain⟨q0,q1,q2,q3⟩:=HQ.out _ k));go_ret3;exact Uz.no (Jg HB0.out k)
 rcases hf2:fm (-1) u0 with _ | _
 ·obtain⟨e1,e2,e3⟩:=Jfm (z:=Jv L) (known:=u0) (x:=x) (by rw[hf2];simp);rw[e1,e2,e3];simp only[hf1] at G1;simp only[hf2] at G2;have G1:=Ja G1;have G2:=Ja G2;clear e1 e2 e3 hf1 hf2;obtain⟨q0,q1,q2,q3⟩:=HQ.out _ k;go_enter func152,ntmps152;go_upto_region 1 with fail;rw[HW.out];go_wp2_with (first | (go_at_call 85;go_must (refine Qt (G1.out _ k) k fun w1 k=>?_);obtain⟨q0,q1,q2,q3⟩:=HQ.out _ k) | (go_at_call 84;go_must (refine Qt (G2.out _ k) k fun w2 k=>?_);obtain⟨q0,q1,q2,q3⟩:=HQ.out _ k));go_ret3;exact Uz.no (Jg HB0.out k)
 rcases hf3:Yw x with _ | _
 ·obtain⟨e1,e2,e3⟩:=Jfm (z:=Jv L) (known:=u0) (x:=x) (by rw[hf3];simp);rw[e1,e2,e3];simp only[hf1] at G1;simp only[hf2] at G2;simp only[hf3] at G3;have G1:=Ja G1;have G2:=Ja G2;have G3:=Ja G3;clear e1 e2 e3 hf1 hf2 hf3;obtain⟨q0,q1,q2,q3⟩:=HQ.out _ k;go_enter func152,ntmps152;go_upto_region 1 with fail;rw[HW.out];go_wp2_with (first | (go_at_call 85;go_must (refine Qt (G1.out _ k) k fun w1 k=>?_);obtain⟨q0,q1,q2,q3⟩:=HQ.out _ k) | (go_at_call 84;go_must (refine Qt (G2.out _ k) k fun w2 k=>?_);obtain⟨q0,q1,q2,q3⟩:=HQ.out _ k) | (go_at_call 43;go_must (refine Qt (G3.out _ k) k fun w3 k=>?_);obtain⟨q0,q1,q2,q3⟩:=HQ.out _ k));go_ret3;exact Uz.no (Jg HB0.out k)
 rcases hf4:Za x u0 with _ | _
 ·obtain⟨e1,e2,e3⟩:=Jkm (z:=Jv L) (known:=u0) (x:=x) (by rw[hf1,hf2,hf3];rfl) hf4;rw[e1,e2,e3];simp only[hf1] at G1;simp only[hf2] at G2;simp only[hf3] at G3;simp only[hf4] at G4;have G1:=Ja G1;have G2:=Ja G2;have G3:=Ja G3;have G4:=Ja G4;clear e1 e2 e3 hf1 hf2 hf3 hf4;obtain⟨q0,q1,q2,q3⟩:=HQ.out _ k;go_enter func152,ntmps152;go_upto_region 1 with fail;rw[HW.out];go_wp2_with (first | (go_at_call 85;go_must (refine Qt (G1.out _ k) k fun w1 k=>?_);obtain⟨q0,q1,q2,q3⟩:=HQ.out _ k) | (go_at_call 84;go_must (refine Qt (G2.out _ k) k fun w2 k=>?_);obtain⟨q0,q1,q2,q3⟩:=HQ.out _ k) | (go_at_call 43;go_must (refine Qt (G3.out _ k) k fun w3 k=>?_);obtain⟨q0,q1,q2,q3⟩:=HQ.out _ k) | (go_at_call 197;go_must (refine Qt (G4.out _ k) k fun w4 k=>?_);obtain⟨q0,q1,q2,q3⟩:=HQ.out _ k));go_ret3;exact Uz.no (Jg HB0.out k)
 obtain⟨e1,e2,e3⟩:=Joz (z:=Jv L) (known:=u0) (x:=x) (by rw[hf1,hf2,hf3];rfl) hf4;rw[e1,e2,e3];simp only[hf1] at G1;simp only[hf2] at G2;simp only[hf3] at G3;simp only[hf4] at G4;have HFM:=Ja fun o v e=>JeR hf1 hf2 x o v e;have HFN:=Ja fun (o:Int)=>Jk1 (z:=Jv L) (known:=u0) (x:=x) (o:=o);have HFS:=Ja fun (o:Int)=>Jmc (z:=Jv L) (known:=u0) (x:=x) (o:=o);obtain⟨K,hK⟩:∃K,K=Qj u0 x:=⟨_,rfl⟩;obtain⟨nK,hnK⟩:∃m,m=K.length:=⟨_,rfl⟩;obtain⟨f,hf⟩:∃f,f=tkF (Jv L) u0 x:=⟨_,rfl⟩;obtain⟨Z,hZ⟩:∃Z,Z=tkZ (Jv L) u0 x:=⟨_,rfl⟩;rw[<-hK] at G5 HFN HFS ⊢;rw[<-hnK] at G5;rw[<-hf] at HFM HFN HFS;rw[<-hZ];have HZ:=Ja (show UF f 256=Z by rw[hZ,hf];rfl);have HNK:=Ja hnK.symm;have G1:=Ja G1;have G2:=Ja G2;have G3:=Ja G3;have G4:=Ja G4;have G5:=Ja G5;clear e1 e2 e3 hf1 hf2 hf3 hf4 hK hnK hf hZ;obtain⟨q0,q1,q2,q3⟩:=HQ.out _ k;go_enter func152,ntmps152;go_upto_region 1 with fail;rw[HW.out];go_wp2_with (first
  | (go_at_call 85;go_must (refine Qt (G1.out _ k) k fun w1 k=>?_);obtain⟨q0,q1,q2,q3⟩:=HQ.out _ k) | (go_at_call 84;go_must (refine Qt (G2.out _ k) k fun w2 k=>?_);obtain⟨q0,q1,q2,q3⟩:=HQ.out _ k) | (go_at_call 43;go_must (refine Qt (G3.out _ k) k fun w3 k=>?_);obtain⟨q0,q1,q2,q3⟩:=HQ.out _ k) | (go_at_call 197;go_must (refine Qt (G4.out _ k) k fun w4 k=>?_);obtain⟨q0,q1,q2,q3⟩:=HQ.out _ k)
  | (go_at_call 198;go_must (refine(G5.out _ k).mono ?_);rintro e w5 ⟨A9,c9,rfl,ho9,hb'⟩;have k:=Jg k hb';clear hb';obtain⟨q0,q1,q2,q3⟩:=HQ.out _ k)
  | (go_at_call 118;go_must (refine Jd (G6.out _ k) fun w6 hb6=>?_);have k:=Jg k hb6)
  | (refine Je rfl 149 _ _ rfl w6.heap.size 149 _ (Xv (Sn.Qp x.b)) rfl rfl (Jm.new w6 _ _) (by rw[YB];exact HI.out) rfl (JaH _) ?_;intro w8 hk8 hg8))
 have hb8:Bz w6 w8:=(Zr.alloc Zl _).trans (Jb hg8 (by simp) (fun k hk=>by cases hk;exact Ek _));have k8:=Jg k hb8;obtain⟨g10,hg10⟩:∃g,g=w6.heap.size:=⟨_,rfl⟩;rw[<-hg10] at hk8 ⊢;have HK:=Ja (((Rd.of_own ho9).go hb6).go hb8);have HR:=Ja (HR0.out.go k8);have HD:=Ja (HD0.out.go k8);have HN:=Ja (HN0.out.go k8);have HS:=Ja fun (V:World) (j:Nat) (hj:j < 256) (hb:Bz w8 V)=>((hk8.go hb).cell j).trans (YJ (Sn.Qp x.b) j hj);have HBB:=Ja (Jg HB0.out k8);have HNB:=Ja fun (V:World) (hb:Bz w8 V)=>HQ.out V (Jg k8 hb);clear G1 G2 G3 G4 G5 G6 HQ HB0 HR0 HD0 HN0 hk8 hg8 hb8 k8 k hb6 ho9 hg10 q0 q1 q2 q3;go_loopw [11,12] (fun v11 v12 wr=>∃(k m c':Nat) (A':OA),v12=.int .i64 k/\v11=.slice A' m c'/\k<=256/\Bz w8 wr/\Hid (∃M,Qk wr w8.heap.size A' m c' M/\Jv M=UF f k)) (fun _ v12 _=>256 - (intOf v12).toNat)
 case atStart=>exact⟨0,0,0,none,rfl,rfl,by omega,Ec _ _,[],Qk.nil _ _,rfl⟩
 case round=>
  obtain⟨k,m,c',A',rfl,rfl,hk,hb,hq⟩:=hrel;obtain⟨M,hM,hMz⟩:=hq.out;clear hq;by_cases hlt:k < 256
  ·have AT:=Ja (Jdb A n c L (k:Int) wr (HR.out.go hb));have gs:=HS.out wr k hlt hb;have hsb:=JlH x.b k hlt;obtain⟨sb,hsb2⟩:∃b,b=Sn.Qp x.b k:=⟨_,rfl⟩;rw[<-hsb2] at gs hsb;have hml:m<=256:=by
    have:=Jnr HFM.out hk;rw[<-hMz,JH,hM.len] at this;exact this
   have HB:=Ja hb;have HM:=Ja hM;have HMZ:=Ja hMz;have HSB:=Ja hsb;have ek:IntKind.i64.wrap ((k:Int) - 1)=(k:Int) - 1:=EJ _ (by omega);have h63:m+1<=maxLen:=by unfold maxLen;omega
   clear hb hM hMz hsb hsb2;go_wp2_with fail;refine AT.out.mono ?_;rintro e w9 ⟨rfl,hat⟩;rcases hat with ⟨i,hi,rfl,hfd⟩ | ⟨rfl,hfd⟩
   ·obtain⟨b,oo,rfl,hab,g0,g1,g2⟩:=(HR.out.below HB.out).zone hi;obtain⟨hvl,hRv⟩:=HR.out.each _ (En hi);have hin:(0:Int)<=(i:Int)/\(i:Int) < (n:Int):=by have:=HR.out.len;omega
    have hil:i < n:=by have:=HR.out.len;omega
    generalize L[i]=qq at g0 g1 g2 hvl hRv hfd;obtain⟨⟨Av,nv,cv⟩,⟨lo,hi2⟩,u⟩:=qq;dsimp only at g0 g1 g2 hvl hRv hfd;have HRX:=Ja (JfX (known:=u0) hfd);dsimp only at HRX;have HVL:=Ja hvl;have HRV:=Ja (hRv.go HB.out);clear hvl hRv hfd hab g0 g1;rcases sb with _ | _
    ·have ST:=Kw Av nv cv u ⟨A1,n1,c1,A2,n2,c2,A3,n3,c3,A4,n4,c4⟩ x (k:Int) wr HVL.out HRV.out (HN.out.go HB.out);simp only[NV.val] at ST;have hnd:=Jf7 (z:=Jv L) (known:=u0) HSB.out;rw[HRX.out] at hnd;obtain⟨y,hy⟩:∃y,y=Jbz u x (k:Int):=⟨_,rfl⟩;rw[<-hy] at ST hnd;have ST:=Ja ST;have HND:=Ja hnd;obtain⟨q0,q1,q2,q3⟩:=HNB.out wr HB.out;clear hy hnd;go_wp2_with fail;refine ST.out.mono ?_;rintro e W4 ⟨Ax,nx,cx,rfl,hly,hRy,hb4⟩;have hnd:=HND.out;have HY:=Ja (And.intro hly hRy);have KW:=Ja (Jg HB.out hb4);have OZ:=Ja (HM.out.below hb4);clear hly hRy hb4 ST HND q0 q1 q2 q3;have HFN1:=HFN.out (k:Int);have HFS1:=HFS.out (k:Int);rw[hnd] at HFN1 HFS1;obtain⟨cb,hcb⟩:∃b,b=Xj y K:=⟨_,rfl⟩;have CV:=QB Ax A9 nx cx nK c9 y K W4 HY.out.1 HNK.out HY.out.2 (HK.out.go KW.out);rw[show QL (Vc.Jz y) (Vc.Jz K)=cb from hcb.symm] at CV;rw[<-hcb] at HFN1 HFS1;have CV:=Ja CV;have HFN1:=Ja HFN1;have HFS1:=Ja HFS1;clear hcb hnd;go_wp2_with fail;refine Jd CV.out fun W5 hb5=>?_;have HY:=Ja (And.intro HY.out.1 (HY.out.2.go hb5));have KW:=Ja (Jg KW.out hb5);have OZ:=Ja (OZ.out.below hb5);clear hb5 CV;rcases cb with _ | _
     ·have hfs:=HFS1.out rfl;have hnx:nx<=8796093022208:=by
       have h1:=HY.out.1;have h2:=Yu (HFM.out _ _ hfs);omega
      have HFK:=Ja hfs;clear hfs HFN1 HFS1;rcases FT M with hMn | ⟨M0,yy,hMy⟩
      ·obtain rfl:m=0:=by rw[<-OZ.out.len,hMn];rfl
       have HJ:=Ja fun Ac cc=>(show Jv (M++[((⟨Ac,nx,cc⟩:ZV),((k:Int),(k:Int)),y)])=UF f (k+1) by rw[JA,HMZ.out,Jcb HFK.out (by rw[<-HMZ.out,hMn];rfl)];rfl);clear hMn;have CP:=Ja (Qn Ax nx cx (sv y) W5 (HY.out.2) (Ju _) hnx);go_wp2_with (first
        | (go_at_call 63;go_must (refine CP.out.mono ?_);rintro e Wc ⟨Ac,cc,rfl,ho7,hb7⟩;have KC:=Ja (Jg KW.out hb7);have OC:=Ja (OZ.out.below hb7);have CV7:=Ja (Jk ho7 KW.out.size);clear ho7 hb7)
        | (at_builtin;go_must (refine Jh _ rfl (.tmp 99) (.tmp 106) _ rfl w8.heap.size 129 i0 _ 3 40 underlying32 hi0 hz0 hz1 hz2 rfl (by decide) (.slice A' 0 c') 0 _ rfl (OC.out.row.alloc _) _ (some ⟨_,0,none⟩) 1 1 [.int .i64 (k:Int),.int .i64 (k:Int),.slice Ac nx cc] rfl (Rd.new _ 129 3 1 #[.int .i64 (k:Int),.int .i64 (k:Int),.slice Ac nx cc] rfl h1max) (JL (⟨Ac,nx,cc⟩,((k:Int),(k:Int)),y)) h63 (by omega) (by have:=KC.out.size;simp;omega) ?_);intro A3 c3 W3 ho3 hg3 hat3))
       go_roundw
       case rel=>
        have hba:=(Ec Wc.heap.size Wc).alloc Zl (.cells #[.int .i64 (k:Int),.int .i64 (k:Int),.slice Ac nx cc] 129);have kka:=Jg KC.out hba;exact⟨k+1,0+1,c3,A3,by go_num,rfl,by omega,kka.trans (Jb hg3 kka.size (fun g hg=>JM OC.out.row g hg)),_,Qk.push (p:=(⟨Ac,nx,cc⟩,((k:Int),(k:Int)),y)) (OC.out.below hba) ⟨HY.out.1,Jf CV7.out hba Zl⟩ hg3 ho3,HJ.out Ac cc⟩
       case measure=>simp[intOf];omega
      ·rw[FU] at hMy;subst hMy;obtain⟨j,rfl⟩:∃j,m=j+1:=⟨m - 1,by rw[<-OZ.out.len,Eb,List.length_singleton];omega⟩;have hM0:M0.length=j:=by have:=OZ.out.len;rw[Eb,List.length_singleton] at this;omega
       obtain⟨⟨Ay,ny,cy⟩,⟨ylo,yhi⟩,yu⟩:=yy;have hsn:=JaC HFM.out hk HFK.out (D:=Jv M0) (y:=((ylo,yhi),yu)) (by rw[<-HMZ.out,JA];rfl);dsimp only at hsn;obtain⟨Aq,cq,hvq,_,hfq⟩:=Xi OZ.out.row;injection hvq with hv1 _ hv3;subst hv1 hv3;have hrz:=OZ.out.rd;obtain⟨g',o',hA',hgl,p0,p1,p2⟩:=hrz.zone (k:=j) (by rw[hrz.len];omega);have hgj:(M0++[((⟨Ay,ny,cy⟩:ZV),(ylo,yhi),yu)])[j]'(by rw[hrz.len];omega)=(⟨Ay,ny,cy⟩,(ylo,yhi),yu):=by
        rw[FO (by omega)];simp[hM0]
       rw[hgj] at p0 p1 p2;dsimp only at p0 p1 p2;obtain⟨g,hga,hg1,_⟩:=hfq _ hA';injection hga with h1 h2;subst h1 h2;subst hA';simp only[EU] at p0 p1 p2;have hye:=OZ.out.el (⟨Ay,ny,cy⟩,(ylo,yhi),yu) (by simp);have EQ:=Jbv Ay Ax ny cy nx cx yu y W5 hye.1 HY.out.1 (Rd.of_own hye.2) HY.out.2;have e8:IntKind.i64.wrap (j:Int)=(j:Int):=EJ _ (by omega);have e9:(((j+1:Nat):Int) - 1)=(j:Int):=by omega
       have e10:IntKind.i64.wrap (((j+1:Nat):Int) - 1)=(j:Int):=by rw[e9];exact e8
       have hin2:(0:Int)<=(j:Int)/\(j:Int) < ((j+1:Nat):Int):=by omega
       have dk:decide (0 < j+1)=true:=by simp
       have HG1:=Ja hg1;have HM0:=Ja hM0;clear hrz hgj hfq hg1 hye hM0;by_cases h4:yhi=(k:Int) - 1
       ·by_cases h5:yu=y
        ·rw[Ei ⟨h4,h5⟩] at hsn;have HSN:=Ja hsn;rw[Eu h5] at EQ;have EQ:=Ja EQ;have H5:=Ja h5;subst h4;clear hsn h5 HFK;go_wp2_with fail;refine Jd EQ.out fun W6 hq6=>?_;have hb6:Bz W5 W6:=by obtain⟨q6,rfl⟩:=hq6;exact Jr Zr _
         have KW:=Ja (Jg KW.out hb6);have OZ:=Ja (OZ.out.below hb6);obtain⟨oc1,oc2,oc3⟩:=Zx OZ.out.row (j:=j * 3+1) (by omega) (.int .i64 (k:Int));rw[<-HM0.out,Yv,HM0.out] at oc1;have HOC:=Ja (And.intro oc1 oc2);have p1:=(hb6.cell (p:=⟨g',j * 3+1,none⟩) hgl).trans p1;clear hq6 hb6 oc1 oc2 p0 p2 hgl EQ;go_wp2;go_roundw
         case rel=>
          refine⟨k+1,j+1,c',some ⟨g',0,none⟩,by go_num,rfl,by omega,KW.out.setCell (p:=⟨g',j * 3+1,none⟩) HG1.out _,M0++[((⟨Ay,ny,cy⟩:ZV),(ylo,(k:Int)),yu)],⟨HOC.out.1,fun p hp=>?_⟩,?_⟩
          ·have key:∀p∈M0++[((⟨Ay,ny,cy⟩:ZV),(ylo,(k:Int) - 1),yu)],p.2.2.length=p.1.n/\(W6.setCell ⟨g',j * 3+1,none⟩ (.int .i64 (k:Int))).ownsRow w8.heap.size 28 2 (.slice p.1.A p.1.n p.1.c) p.1.n (sv p.2.2):=fun p hp=>⟨(OZ.out.el p hp).1,(OZ.out.el p hp).2.kept HOC.out.2 (Qb (OZ.out.el p hp).2 OZ.out.row (by decide))⟩;rcases EB.1 hp with hp | hp
           ·exact key p (Fc _ hp)
           ·rw[Ez] at hp;subst hp;exact key (⟨Ay,ny,cy⟩,(ylo,(k:Int) - 1),yu) (by simp)
          ·rw[HSN.out,JA,H5.out];rfl
         case measure=>simp[intOf];omega
        ·rw[Ef (fun h=>h5 h.2)] at hsn;have HJ:=Ja fun Ac cc=>(show Jv ((M0++[((⟨Ay,ny,cy⟩:ZV),(ylo,yhi),yu)])++[((⟨Ac,nx,cc⟩:ZV),((k:Int),(k:Int)),y)])=UF f (k+1) by rw[hsn,JA,JA];rfl);rw[Ew h5] at EQ;have EQ:=Ja EQ;subst h4;clear hsn h5 HFK;go_wp2_with fail;refine Jd EQ.out fun W6 hq6=>?_;have hb6:Bz W5 W6:=by obtain⟨q6,rfl⟩:=hq6;exact Jr Zr _
         have HY:=Ja (And.intro HY.out.1 (HY.out.2.go hb6));have KW:=Ja (Jg KW.out hb6);have OZ:=Ja (OZ.out.below hb6);clear hq6 hb6 p0 p1 p2 hgl EQ;have CP:=Ja (Qn Ax nx cx (sv y) W6 (HY.out.2) (Ju _) hnx);go_wp2_with (first
          | (go_at_call 63;go_must (refine CP.out.mono ?_);rintro e Wc ⟨Ac,cc,rfl,ho7,hb7⟩;have KC:=Ja (Jg KW.out hb7);have OC:=Ja (OZ.out.below hb7);have CV7:=Ja (Jk ho7 KW.out.size);clear ho7 hb7)
          | (at_builtin;go_must (refine Jh _ rfl (.tmp 99) (.tmp 106) _ rfl w8.heap.size 129 i0 _ 3 40 underlying32 hi0 hz0 hz1 hz2 rfl (by decide) (.slice (some ⟨g',0,none⟩) (j+1) c') (j+1) _ rfl (OC.out.row.alloc _) _ (some ⟨_,0,none⟩) 1 1 [.int .i64 (k:Int),.int .i64 (k:Int),.slice Ac nx cc] rfl (Rd.new _ 129 3 1 #[.int .i64 (k:Int),.int .i64 (k:Int),.slice Ac nx cc] rfl h1max) (JL (⟨Ac,nx,cc⟩,((k:Int),(k:Int)),y)) h63 (by omega) (by have:=KC.out.size;simp;omega) ?_);intro A3 c3 W3 ho3 hg3 hat3))
         go_roundw
         case rel=>
          have hba:=(Ec Wc.heap.size Wc).alloc Zl (.cells #[.int .i64 (k:Int),.int .i64 (k:Int),.slice Ac nx cc] 129);have kka:=Jg KC.out hba;exact⟨k+1,(j+1)+1,c3,A3,by go_num,rfl,by omega,kka.trans (Jb hg3 kka.size (fun g hg=>JM OC.out.row g hg)),_,Qk.push (p:=(⟨Ac,nx,cc⟩,((k:Int),(k:Int)),y)) (OC.out.below hba) ⟨HY.out.1,Jf CV7.out hba Zl⟩ hg3 ho3,HJ.out Ac cc⟩
         case measure=>simp[intOf];omega
       ·rw[Ef (fun h=>h4 h.1)] at hsn;have HJ:=Ja fun Ac cc=>(show Jv ((M0++[((⟨Ay,ny,cy⟩:ZV),(ylo,yhi),yu)])++[((⟨Ac,nx,cc⟩:ZV),((k:Int),(k:Int)),y)])=UF f (k+1) by rw[hsn,JA,JA];rfl);have b4:(yhi == (k:Int) - 1)=false:=by simpa using h4
        clear hsn h4 HFK EQ p0 p2 hgl;have CP:=Ja (Qn Ax nx cx (sv y) W5 (HY.out.2) (Ju _) hnx);go_wp2_with (first
         | (go_at_call 63;go_must (refine CP.out.mono ?_);rintro e Wc ⟨Ac,cc,rfl,ho7,hb7⟩;have KC:=Ja (Jg KW.out hb7);have OC:=Ja (OZ.out.below hb7);have CV7:=Ja (Jk ho7 KW.out.size);clear ho7 hb7)
         | (at_builtin;go_must (refine Jh _ rfl (.tmp 99) (.tmp 106) _ rfl w8.heap.size 129 i0 _ 3 40 underlying32 hi0 hz0 hz1 hz2 rfl (by decide) (.slice (some ⟨g',0,none⟩) (j+1) c') (j+1) _ rfl (OC.out.row.alloc _) _ (some ⟨_,0,none⟩) 1 1 [.int .i64 (k:Int),.int .i64 (k:Int),.slice Ac nx cc] rfl (Rd.new _ 129 3 1 #[.int .i64 (k:Int),.int .i64 (k:Int),.slice Ac nx cc] rfl h1max) (JL (⟨Ac,nx,cc⟩,((k:Int),(k:Int)),y)) h63 (by omega) (by have:=KC.out.size;simp;omega) ?_);intro A3 c3 W3 ho3 hg3 hat3))
        go_roundw
        case rel=>
         have hba:=(Ec Wc.heap.size Wc).alloc Zl (.cells #[.int .i64 (k:Int),.int .i64 (k:Int),.slice Ac nx cc] 129);have kka:=Jg KC.out hba;exact⟨k+1,(j+1)+1,c3,A3,by go_num,rfl,by omega,kka.trans (Jb hg3 kka.size (fun g hg=>JM OC.out.row g hg)),_,Qk.push (p:=(⟨Ac,nx,cc⟩,((k:Int),(k:Int)),y)) (OC.out.below hba) ⟨HY.out.1,Jf CV7.out hba Zl⟩ hg3 ho3,HJ.out Ac cc⟩
        case measure=>simp[intOf];omega
     ·have HFK:=Ja (HFN1.out rfl);clear HFN1 HFS1 HY;go_wp2;go_roundw
      case rel=>exact⟨k+1,m,c',A',by go_num,rfl,by omega,KW.out,M,OZ.out,by rw[JaQ HFK.out];exact HMZ.out⟩
      case measure=>simp[intOf];omega
    ·have hnd:=Jep (z:=Jv L) (known:=u0) HSB.out;rw[HRX.out] at hnd;have HY:=Ja (And.intro HVL.out HRV.out);have KW:=Ja HB.out;have OZ:=Ja HM.out;have HFN1:=HFN.out (k:Int);have HFS1:=HFS.out (k:Int);rw[hnd] at HFN1 HFS1;obtain⟨cb,hcb⟩:∃b,b=Xj u K:=⟨_,rfl⟩;have CV:=QB Av A9 nv cv nK c9 u K wr HY.out.1 HNK.out HY.out.2 (HK.out.go KW.out);rw[show QL (Vc.Jz u) (Vc.Jz K)=cb from hcb.symm] at CV;rw[<-hcb] at HFN1 HFS1;have CV:=Ja CV;have HFN1:=Ja HFN1;have HFS1:=Ja HFS1;clear hcb hnd;go_wp2_with fail;refine Jd CV.out fun W5 hb5=>?_;have HY:=Ja (And.intro HY.out.1 (HY.out.2.go hb5));have KW:=Ja (Jg KW.out hb5);have OZ:=Ja (OZ.out.below hb5);clear hb5 CV;rcases cb with _ | _
     ·have hfs:=HFS1.out rfl;have hnx:nv<=8796093022208:=by
       have h1:=HY.out.1;have h2:=Yu (HFM.out _ _ hfs);omega
      have HFK:=Ja hfs;clear hfs HFN1 HFS1;rcases FT M with hMn | ⟨M0,yy,hMy⟩
      ·obtain rfl:m=0:=by rw[<-OZ.out.len,hMn];rfl
       have HJ:=Ja fun Ac cc=>(show Jv (M++[((⟨Ac,nv,cc⟩:ZV),((k:Int),(k:Int)),u)])=UF f (k+1) by rw[JA,HMZ.out,Jcb HFK.out (by rw[<-HMZ.out,hMn];rfl)];rfl);clear hMn;have CP:=Ja (Qn Av nv cv (sv u) W5 (HY.out.2) (Ju _) hnx);go_wp2_with (first
        | (go_at_call 63;go_must (refine CP.out.mono ?_);rintro e Wc ⟨Ac,cc,rfl,ho7,hb7⟩;have KC:=Ja (Jg KW.out hb7);have OC:=Ja (OZ.out.below hb7);have CV7:=Ja (Jk ho7 KW.out.size);clear ho7 hb7)
        | (at_builtin;go_must (refine Jh _ rfl (.tmp 99) (.tmp 106) _ rfl w8.heap.size 129 i0 _ 3 40 underlying32 hi0 hz0 hz1 hz2 rfl (by decide) (.slice A' 0 c') 0 _ rfl (OC.out.row.alloc _) _ (some ⟨_,0,none⟩) 1 1 [.int .i64 (k:Int),.int .i64 (k:Int),.slice Ac nv cc] rfl (Rd.new _ 129 3 1 #[.int .i64 (k:Int),.int .i64 (k:Int),.slice Ac nv cc] rfl h1max) (JL (⟨Ac,nv,cc⟩,((k:Int),(k:Int)),u)) h63 (by omega) (by have:=KC.out.size;simp;omega) ?_);intro A3 c3 W3 ho3 hg3 hat3))
       go_roundw
       case rel=>
        have hba:=(Ec Wc.heap.size Wc).alloc Zl (.cells #[.int .i64 (k:Int),.int .i64 (k:Int),.slice Ac nv cc] 129);have kka:=Jg KC.out hba;exact⟨k+1,0+1,c3,A3,by go_num,rfl,by omega,kka.trans (Jb hg3 kka.size (fun g hg=>JM OC.out.row g hg)),_,Qk.push (p:=(⟨Ac,nv,cc⟩,((k:Int),(k:Int)),u)) (OC.out.below hba) ⟨HY.out.1,Jf CV7.out hba Zl⟩ hg3 ho3,HJ.out Ac cc⟩
       case measure=>simp[intOf];omega
      ·rw[FU] at hMy;subst hMy;obtain⟨j,rfl⟩:∃j,m=j+1:=⟨m - 1,by rw[<-OZ.out.len,Eb,List.length_singleton];omega⟩;have hM0:M0.length=j:=by have:=OZ.out.len;rw[Eb,List.length_singleton] at this;omega
       obtain⟨⟨Ay,ny,cy⟩,⟨ylo,yhi⟩,yu⟩:=yy;have hsn:=JaC HFM.out hk HFK.out (D:=Jv M0) (y:=((ylo,yhi),yu)) (by rw[<-HMZ.out,JA];rfl);dsimp only at hsn;obtain⟨Aq,cq,hvq,_,hfq⟩:=Xi OZ.out.row;injection hvq with hv1 _ hv3;subst hv1 hv3;have hrz:=OZ.out.rd;obtain⟨g',o',hA',hgl,p0,p1,p2⟩:=hrz.zone (k:=j) (by rw[hrz.len];omega);have hgj:(M0++[((⟨Ay,ny,cy⟩:ZV),(ylo,yhi),yu)])[j]'(by rw[hrz.len];omega)=(⟨Ay,ny,cy⟩,(ylo,yhi),yu):=by
        rw[FO (by omega)];simp[hM0]
       rw[hgj] at p0 p1 p2;dsimp only at p0 p1 p2;obtain⟨g,hga,hg1,_⟩:=hfq _ hA';injection hga with h1 h2;subst h1 h2;subst hA';simp only[EU] at p0 p1 p2;have hye:=OZ.out.el (⟨Ay,ny,cy⟩,(ylo,yhi),yu) (by simp);have EQ:=Jbv Ay Av ny cy nv cv yu u W5 hye.1 HY.out.1 (Rd.of_own hye.2) HY.out.2;have e8:IntKind.i64.wrap (j:Int)=(j:Int):=EJ _ (by omega);have e9:(((j+1:Nat):Int) - 1)=(j:Int):=by omega
       have e10:IntKind.i64.wrap (((j+1:Nat):Int) - 1)=(j:Int):=by rw[e9];exact e8
       have hin2:(0:Int)<=(j:Int)/\(j:Int) < ((j+1:Nat):Int):=by omega
       have dk:decide (0 < j+1)=true:=by simp
       have HG1:=Ja hg1;have HM0:=Ja hM0;clear hrz hgj hfq hg1 hye hM0;by_cases h4:yhi=(k:Int) - 1
       ·by_cases h5:yu=u
        ·rw[Ei ⟨h4,h5⟩] at hsn;have HSN:=Ja hsn;rw[Eu h5] at EQ;have EQ:=Ja EQ;have H5:=Ja h5;subst h4;clear hsn h5 HFK;go_wp2_with fail;refine Jd EQ.out fun W6 hq6=>?_;have hb6:Bz W5 W6:=by obtain⟨q6,rfl⟩:=hq6;exact Jr Zr _
         have KW:=Ja (Jg KW.out hb6);have OZ:=Ja (OZ.out.below hb6);obtain⟨oc1,oc2,oc3⟩:=Zx OZ.out.row (j:=j * 3+1) (by omega) (.int .i64 (k:Int));rw[<-HM0.out,Yv,HM0.out] at oc1;have HOC:=Ja (And.intro oc1 oc2);have p1:=(hb6.cell (p:=⟨g',j * 3+1,none⟩) hgl).trans p1;clear hq6 hb6 oc1 oc2 p0 p2 hgl EQ;go_wp2;go_roundw
         case rel=>
          refine⟨k+1,j+1,c',some ⟨g',0,none⟩,by go_num,rfl,by omega,KW.out.setCell (p:=⟨g',j * 3+1,none⟩) HG1.out _,M0++[((⟨Ay,ny,cy⟩:ZV),(ylo,(k:Int)),yu)],⟨HOC.out.1,fun p hp=>?_⟩,?_⟩
          ·have key:∀p∈M0++[((⟨Ay,ny,cy⟩:ZV),(ylo,(k:Int) - 1),yu)],p.2.2.length=p.1.n/\(W6.setCell ⟨g',j * 3+1,none⟩ (.int .i64 (k:Int))).ownsRow w8.heap.size 28 2 (.slice p.1.A p.1.n p.1.c) p.1.n (sv p.2.2):=fun p hp=>⟨(OZ.out.el p hp).1,(OZ.out.el p hp).2.kept HOC.out.2 (Qb (OZ.out.el p hp).2 OZ.out.row (by decide))⟩;rcases EB.1 hp with hp | hp
           ·exact key p (Fc _ hp)
           ·rw[Ez] at hp;subst hp;exact key (⟨Ay,ny,cy⟩,(ylo,(k:Int) - 1),yu) (by simp)
          ·rw[HSN.out,JA,H5.out];rfl
         case measure=>simp[intOf];omega
        ·rw[Ef (fun h=>h5 h.2)] at hsn;have HJ:=Ja fun Ac cc=>(show Jv ((M0++[((⟨Ay,ny,cy⟩:ZV),(ylo,yhi),yu)])++[((⟨Ac,nv,cc⟩:ZV),((k:Int),(k:Int)),u)])=UF f (k+1) by rw[hsn,JA,JA];rfl);rw[Ew h5] at EQ;have EQ:=Ja EQ;subst h4;clear hsn h5 HFK;go_wp2_with fail;refine Jd EQ.out fun W6 hq6=>?_;have hb6:Bz W5 W6:=by obtain⟨q6,rfl⟩:=hq6;exact Jr Zr _
         have HY:=Ja (And.intro HY.out.1 (HY.out.2.go hb6));have KW:=Ja (Jg KW.out hb6);have OZ:=Ja (OZ.out.below hb6);clear hq6 hb6 p0 p1 p2 hgl EQ;have CP:=Ja (Qn Av nv cv (sv u) W6 (HY.out.2) (Ju _) hnx);go_wp2_with (first
          | (go_at_call 63;go_must (refine CP.out.mono ?_);rintro e Wc ⟨Ac,cc,rfl,ho7,hb7⟩;have KC:=Ja (Jg KW.out hb7);have OC:=Ja (OZ.out.below hb7);have CV7:=Ja (Jk ho7 KW.out.size);clear ho7 hb7)
          | (at_builtin;go_must (refine Jh _ rfl (.tmp 99) (.tmp 106) _ rfl w8.heap.size 129 i0 _ 3 40 underlying32 hi0 hz0 hz1 hz2 rfl (by decide) (.slice (some ⟨g',0,none⟩) (j+1) c') (j+1) _ rfl (OC.out.row.alloc _) _ (some ⟨_,0,none⟩) 1 1 [.int .i64 (k:Int),.int .i64 (k:Int),.slice Ac nv cc] rfl (Rd.new _ 129 3 1 #[.int .i64 (k:Int),.int .i64 (k:Int),.slice Ac nv cc] rfl h1max) (JL (⟨Ac,nv,cc⟩,((k:Int),(k:Int)),u)) h63 (by omega) (by have:=KC.out.size;simp;omega) ?_);intro A3 c3 W3 ho3 hg3 hat3))
         go_roundw
         case rel=>
          have hba:=(Ec Wc.heap.size Wc).alloc Zl (.cells #[.int .i64 (k:Int),.int .i64 (k:Int),.slice Ac nv cc] 129);have kka:=Jg KC.out hba;exact⟨k+1,(j+1)+1,c3,A3,by go_num,rfl,by omega,kka.trans (Jb hg3 kka.size (fun g hg=>JM OC.out.row g hg)),_,Qk.push (p:=(⟨Ac,nv,cc⟩,((k:Int),(k:Int)),u)) (OC.out.below hba) ⟨HY.out.1,Jf CV7.out hba Zl⟩ hg3 ho3,HJ.out Ac cc⟩
         case measure=>simp[intOf];omega
       ·rw[Ef (fun h=>h4 h.1)] at hsn;have HJ:=Ja fun Ac cc=>(show Jv ((M0++[((⟨Ay,ny,cy⟩:ZV),(ylo,yhi),yu)])++[((⟨Ac,nv,cc⟩:ZV),((k:Int),(k:Int)),u)])=UF f (k+1) by rw[hsn,JA,JA];rfl);have b4:(yhi == (k:Int) - 1)=false:=by simpa using h4
        clear hsn h4 HFK EQ p0 p2 hgl;have CP:=Ja (Qn Av nv cv (sv u) W5 (HY.out.2) (Ju _) hnx);go_wp2_with (first
         | (go_at_call 63;go_must (refine CP.out.mono ?_);rintro e Wc ⟨Ac,cc,rfl,ho7,hb7⟩;have KC:=Ja (Jg KW.out hb7);have OC:=Ja (OZ.out.below hb7);have CV7:=Ja (Jk ho7 KW.out.size);clear ho7 hb7)
         | (at_builtin;go_must (refine Jh _ rfl (.tmp 99) (.tmp 106) _ rfl w8.heap.size 129 i0 _ 3 40 underlying32 hi0 hz0 hz1 hz2 rfl (by decide) (.slice (some ⟨g',0,none⟩) (j+1) c') (j+1) _ rfl (OC.out.row.alloc _) _ (some ⟨_,0,none⟩) 1 1 [.int .i64 (k:Int),.int .i64 (k:Int),.slice Ac nv cc] rfl (Rd.new _ 129 3 1 #[.int .i64 (k:Int),.int .i64 (k:Int),.slice Ac nv cc] rfl h1max) (JL (⟨Ac,nv,cc⟩,((k:Int),(k:Int)),u)) h63 (by omega) (by have:=KC.out.size;simp;omega) ?_);intro A3 c3 W3 ho3 hg3 hat3))
        go_roundw
        case rel=>
         have hba:=(Ec Wc.heap.size Wc).alloc Zl (.cells #[.int .i64 (k:Int),.int .i64 (k:Int),.slice Ac nv cc] 129);have kka:=Jg KC.out hba;exact⟨k+1,(j+1)+1,c3,A3,by go_num,rfl,by omega,kka.trans (Jb hg3 kka.size (fun g hg=>JM OC.out.row g hg)),_,Qk.push (p:=(⟨Ac,nv,cc⟩,((k:Int),(k:Int)),u)) (OC.out.below hba) ⟨HY.out.1,Jf CV7.out hba Zl⟩ hg3 ho3,HJ.out Ac cc⟩
        case measure=>simp[intOf];omega
     ·have HFK:=Ja (HFN1.out rfl);clear HFN1 HFS1 HY;go_wp2;go_roundw
      case rel=>exact⟨k+1,m,c',A',by go_num,rfl,by omega,KW.out,M,OZ.out,by rw[JaQ HFK.out];exact HMZ.out⟩
      case measure=>simp[intOf];omega
   ·have HRX:=Ja (Jhs (known:=u0) hfd);have HVL:=Ja HL.out;have HRV:=Ja (HD.out.go HB.out);clear hfd;rcases sb with _ | _
    ·have ST:=Kw D q d u0 ⟨A1,n1,c1,A2,n2,c2,A3,n3,c3,A4,n4,c4⟩ x (k:Int) wr HVL.out HRV.out (HN.out.go HB.out);simp only[NV.val] at ST;have hnd:=Jf7 (z:=Jv L) (known:=u0) HSB.out;rw[HRX.out] at hnd;obtain⟨y,hy⟩:∃y,y=Jbz u0 x (k:Int):=⟨_,rfl⟩;rw[<-hy] at ST hnd;have ST:=Ja ST;have HND:=Ja hnd;obtain⟨q0,q1,q2,q3⟩:=HNB.out wr HB.out;clear hy hnd;go_wp2_with fail;refine ST.out.mono ?_;rintro e W4 ⟨Ax,nx,cx,rfl,hly,hRy,hb4⟩;have hnd:=HND.out;have HY:=Ja (And.intro hly hRy);have KW:=Ja (Jg HB.out hb4);have OZ:=Ja (HM.out.below hb4);clear hly hRy hb4 ST HND q0 q1 q2 q3;have HFN1:=HFN.out (k:Int);have HFS1:=HFS.out (k:Int);rw[hnd] at HFN1 HFS1;obtain⟨cb,hcb⟩:∃b,b=Xj y K:=⟨_,rfl⟩;have CV:=QB Ax A9 nx cx nK c9 y K W4 HY.out.1 HNK.out HY.out.2 (HK.out.go KW.out);rw[show QL (Vc.Jz y) (Vc.Jz K)=cb from hcb.symm] at CV;rw[<-hcb] at HFN1 HFS1;have CV:=Ja CV;have HFN1:=Ja HFN1;have HFS1:=Ja HFS1;clear hcb hnd;go_wp2_with fail;refine Jd CV.out fun W5 hb5=>?_;have HY:=Ja (And.intro HY.out.1 (HY.out.2.go hb5));have KW:=Ja (Jg KW.out hb5);have OZ:=Ja (OZ.out.below hb5);clear hb5 CV;rcases cb with _ | _
     ·have hfs:=HFS1.out rfl;have hnx:nx<=8796093022208:=by
       have h1:=HY.out.1;have h2:=Yu (HFM.out _ _ hfs);omega
      have HFK:=Ja hfs;clear hfs HFN1 HFS1;rcases FT M with hMn | ⟨M0,yy,hMy⟩
      ·obtain rfl:m=0:=by rw[<-OZ.out.len,hMn];rfl
       have HJ:=Ja fun Ac cc=>(show Jv (M++[((⟨Ac,nx,cc⟩:ZV),((k:Int),(k:Int)),y)])=UF f (k+1) by rw[JA,HMZ.out,Jcb HFK.out (by rw[<-HMZ.out,hMn];rfl)];rfl);clear hMn;have CP:=Ja (Qn Ax nx cx (sv y) W5 (HY.out.2) (Ju _) hnx);go_wp2_with (first
        | (go_at_call 63;go_must (refine CP.out.mono ?_);rintro e Wc ⟨Ac,cc,rfl,ho7,hb7⟩;have KC:=Ja (Jg KW.out hb7);have OC:=Ja (OZ.out.below hb7);have CV7:=Ja (Jk ho7 KW.out.size);clear ho7 hb7)
        | (at_builtin;go_must (refine Jh _ rfl (.tmp 99) (.tmp 106) _ rfl w8.heap.size 129 i0 _ 3 40 underlying32 hi0 hz0 hz1 hz2 rfl (by decide) (.slice A' 0 c') 0 _ rfl (OC.out.row.alloc _) _ (some ⟨_,0,none⟩) 1 1 [.int .i64 (k:Int),.int .i64 (k:Int),.slice Ac nx cc] rfl (Rd.new _ 129 3 1 #[.int .i64 (k:Int),.int .i64 (k:Int),.slice Ac nx cc] rfl h1max) (JL (⟨Ac,nx,cc⟩,((k:Int),(k:Int)),y)) h63 (by omega) (by have:=KC.out.size;simp;omega) ?_);intro A3 c3 W3 ho3 hg3 hat3))
       go_roundw
       case rel=>
        have hba:=(Ec Wc.heap.size Wc).alloc Zl (.cells #[.int .i64 (k:Int),.int .i64 (k:Int),.slice Ac nx cc] 129);have kka:=Jg KC.out hba;exact⟨k+1,0+1,c3,A3,by go_num,rfl,by omega,kka.trans (Jb hg3 kka.size (fun g hg=>JM OC.out.row g hg)),_,Qk.push (p:=(⟨Ac,nx,cc⟩,((k:Int),(k:Int)),y)) (OC.out.below hba) ⟨HY.out.1,Jf CV7.out hba Zl⟩ hg3 ho3,HJ.out Ac cc⟩
       case measure=>simp[intOf];omega
      ·rw[FU] at hMy;subst hMy;obtain⟨j,rfl⟩:∃j,m=j+1:=⟨m - 1,by rw[<-OZ.out.len,Eb,List.length_singleton];omega⟩;have hM0:M0.length=j:=by have:=OZ.out.len;rw[Eb,List.length_singleton] at this;omega
       obtain⟨⟨Ay,ny,cy⟩,⟨ylo,yhi⟩,yu⟩:=yy;have hsn:=JaC HFM.out hk HFK.out (D:=Jv M0) (y:=((ylo,yhi),yu)) (by rw[<-HMZ.out,JA];rfl);dsimp only at hsn;obtain⟨Aq,cq,hvq,_,hfq⟩:=Xi OZ.out.row;injection hvq with hv1 _ hv3;subst hv1 hv3;have hrz:=OZ.out.rd;obtain⟨g',o',hA',hgl,p0,p1,p2⟩:=hrz.zone (k:=j) (by rw[hrz.len];omega);have hgj:(M0++[((⟨Ay,ny,cy⟩:ZV),(ylo,yhi),yu)])[j]'(by rw[hrz.len];omega)=(⟨Ay,ny,cy⟩,(ylo,yhi),yu):=by
        rw[FO (by omega)];simp[hM0]
       rw[hgj] at p0 p1 p2;dsimp only at p0 p1 p2;obtain⟨g,hga,hg1,_⟩:=hfq _ hA';injection hga with h1 h2;subst h1 h2;subst hA';simp only[EU] at p0 p1 p2;have hye:=OZ.out.el (⟨Ay,ny,cy⟩,(ylo,yhi),yu) (by simp);have EQ:=Jbv Ay Ax ny cy nx cx yu y W5 hye.1 HY.out.1 (Rd.of_own hye.2) HY.out.2;have e8:IntKind.i64.wrap (j:Int)=(j:Int):=EJ _ (by omega);have e9:(((j+1:Nat):Int) - 1)=(j:Int):=by omega
       have e10:IntKind.i64.wrap (((j+1:Nat):Int) - 1)=(j:Int):=by rw[e9];exact e8
       have hin2:(0:Int)<=(j:Int)/\(j:Int) < ((j+1:Nat):Int):=by omega
       have dk:decide (0 < j+1)=true:=by simp
       have HG1:=Ja hg1;have HM0:=Ja hM0;clear hrz hgj hfq hg1 hye hM0;by_cases h4:yhi=(k:Int) - 1
       ·by_cases h5:yu=y
        ·rw[Ei ⟨h4,h5⟩] at hsn;have HSN:=Ja hsn;rw[Eu h5] at EQ;have EQ:=Ja EQ;have H5:=Ja h5;subst h4;clear hsn h5 HFK;go_wp2_with fail;refine Jd EQ.out fun W6 hq6=>?_;have hb6:Bz W5 W6:=by obtain⟨q6,rfl⟩:=hq6;exact Jr Zr _
         have KW:=Ja (Jg KW.out hb6);have OZ:=Ja (OZ.out.below hb6);obtain⟨oc1,oc2,oc3⟩:=Zx OZ.out.row (j:=j * 3+1) (by omega) (.int .i64 (k:Int));rw[<-HM0.out,Yv,HM0.out] at oc1;have HOC:=Ja (And.intro oc1 oc2);have p1:=(hb6.cell (p:=⟨g',j * 3+1,none⟩) hgl).trans p1;clear hq6 hb6 oc1 oc2 p0 p2 hgl EQ;go_wp2;go_roundw
         case rel=>
          refine⟨k+1,j+1,c',some ⟨g',0,none⟩,by go_num,rfl,by omega,KW.out.setCell (p:=⟨g',j * 3+1,none⟩) HG1.out _,M0++[((⟨Ay,ny,cy⟩:ZV),(ylo,(k:Int)),yu)],⟨HOC.out.1,fun p hp=>?_⟩,?_⟩
          ·have key:∀p∈M0++[((⟨Ay,ny,cy⟩:ZV),(ylo,(k:Int) - 1),yu)],p.2.2.length=p.1.n/\(W6.setCell ⟨g',j * 3+1,none⟩ (.int .i64 (k:Int))).ownsRow w8.heap.size 28 2 (.slice p.1.A p.1.n p.1.c) p.1.n (sv p.2.2):=fun p hp=>⟨(OZ.out.el p hp).1,(OZ.out.el p hp).2.kept HOC.out.2 (Qb (OZ.out.el p hp).2 OZ.out.row (by decide))⟩;rcases EB.1 hp with hp | hp
           ·exact key p (Fc _ hp)
           ·rw[Ez] at hp;subst hp;exact key (⟨Ay,ny,cy⟩,(ylo,(k:Int) - 1),yu) (by simp)
          ·rw[HSN.out,JA,H5.out];rfl
         case measure=>simp[intOf];omega
        ·rw[Ef (fun h=>h5 h.2)] at hsn;have HJ:=Ja fun Ac cc=>(show Jv ((M0++[((⟨Ay,ny,cy⟩:ZV),(ylo,yhi),yu)])++[((⟨Ac,nx,cc⟩:ZV),((k:Int),(k:Int)),y)])=UF f (k+1) by rw[hsn,JA,JA];rfl);rw[Ew h5] at EQ;have EQ:=Ja EQ;subst h4;clear hsn h5 HFK;go_wp2_with fail;refine Jd EQ.out fun W6 hq6=>?_;have hb6:Bz W5 W6:=by obtain⟨q6,rfl⟩:=hq6;exact Jr Zr _
         have HY:=Ja (And.intro HY.out.1 (HY.out.2.go hb6));have KW:=Ja (Jg KW.out hb6);have OZ:=Ja (OZ.out.below hb6);clear hq6 hb6 p0 p1 p2 hgl EQ;have CP:=Ja (Qn Ax nx cx (sv y) W6 (HY.out.2) (Ju _) hnx);go_wp2_with (first
          | (go_at_call 63;go_must (refine CP.out.mono ?_);rintro e Wc ⟨Ac,cc,rfl,ho7,hb7⟩;have KC:=Ja (Jg KW.out hb7);have OC:=Ja (OZ.out.below hb7);have CV7:=Ja (Jk ho7 KW.out.size);clear ho7 hb7)
          | (at_builtin;go_must (refine Jh _ rfl (.tmp 99) (.tmp 106) _ rfl w8.heap.size 129 i0 _ 3 40 underlying32 hi0 hz0 hz1 hz2 rfl (by decide) (.slice (some ⟨g',0,none⟩) (j+1) c') (j+1) _ rfl (OC.out.row.alloc _) _ (some ⟨_,0,none⟩) 1 1 [.int .i64 (k:Int),.int .i64 (k:Int),.slice Ac nx cc] rfl (Rd.new _ 129 3 1 #[.int .i64 (k:Int),.int .i64 (k:Int),.slice Ac nx cc] rfl h1max) (JL (⟨Ac,nx,cc⟩,((k:Int),(k:Int)),y)) h63 (by omega) (by have:=KC.out.size;simp;omega) ?_);intro A3 c3 W3 ho3 hg3 hat3))
         go_roundw
         case rel=>
          have hba:=(Ec Wc.heap.size Wc).alloc Zl (.cells #[.int .i64 (k:Int),.int .i64 (k:Int),.slice Ac nx cc] 129);have kka:=Jg KC.out hba;exact⟨k+1,(j+1)+1,c3,A3,by go_num,rfl,by omega,kka.trans (Jb hg3 kka.size (fun g hg=>JM OC.out.row g hg)),_,Qk.push (p:=(⟨Ac,nx,cc⟩,((k:Int),(k:Int)),y)) (OC.out.below hba) ⟨HY.out.1,Jf CV7.out hba Zl⟩ hg3 ho3,HJ.out Ac cc⟩
         case measure=>simp[intOf];omega
       ·rw[Ef (fun h=>h4 h.1)] at hsn;have HJ:=Ja fun Ac cc=>(show Jv ((M0++[((⟨Ay,ny,cy⟩:ZV),(ylo,yhi),yu)])++[((⟨Ac,nx,cc⟩:ZV),((k:Int),(k:Int)),y)])=UF f (k+1) by rw[hsn,JA,JA];rfl);have b4:(yhi == (k:Int) - 1)=false:=by simpa using h4
        clear hsn h4 HFK EQ p0 p2 hgl;have CP:=Ja (Qn Ax nx cx (sv y) W5 (HY.out.2) (Ju _) hnx);go_wp2_with (first
         | (go_at_call 63;go_must (refine CP.out.mono ?_);rintro e Wc ⟨Ac,cc,rfl,ho7,hb7⟩;have KC:=Ja (Jg KW.out hb7);have OC:=Ja (OZ.out.below hb7);have CV7:=Ja (Jk ho7 KW.out.size);clear ho7 hb7)
         | (at_builtin;go_must (refine Jh _ rfl (.tmp 99) (.tmp 106) _ rfl w8.heap.size 129 i0 _ 3 40 underlying32 hi0 hz0 hz1 hz2 rfl (by decide) (.slice (some ⟨g',0,none⟩) (j+1) c') (j+1) _ rfl (OC.out.row.alloc _) _ (some ⟨_,0,none⟩) 1 1 [.int .i64 (k:Int),.int .i64 (k:Int),.slice Ac nx cc] rfl (Rd.new _ 129 3 1 #[.int .i64 (k:Int),.int .i64 (k:Int),.slice Ac nx cc] rfl h1max) (JL (⟨Ac,nx,cc⟩,((k:Int),(k:Int)),y)) h63 (by omega) (by have:=KC.out.size;simp;omega) ?_);intro A3 c3 W3 ho3 hg3 hat3))
        go_roundw
        case rel=>
         have hba:=(Ec Wc.heap.size Wc).alloc Zl (.cells #[.int .i64 (k:Int),.int .i64 (k:Int),.slice Ac nx cc] 129);have kka:=Jg KC.out hba;exact⟨k+1,(j+1)+1,c3,A3,by go_num,rfl,by omega,kka.trans (Jb hg3 kka.size (fun g hg=>JM OC.out.row g hg)),_,Qk.push (p:=(⟨Ac,nx,cc⟩,((k:Int),(k:Int)),y)) (OC.out.below hba) ⟨HY.out.1,Jf CV7.out hba Zl⟩ hg3 ho3,HJ.out Ac cc⟩
        case measure=>simp[intOf];omega
     ·have HFK:=Ja (HFN1.out rfl);clear HFN1 HFS1 HY;go_wp2;go_roundw
      case rel=>exact⟨k+1,m,c',A',by go_num,rfl,by omega,KW.out,M,OZ.out,by rw[JaQ HFK.out];exact HMZ.out⟩
      case measure=>simp[intOf];omega
    ·have hnd:=Jep (z:=Jv L) (known:=u0) HSB.out;rw[HRX.out] at hnd;have HY:=Ja (And.intro HVL.out HRV.out);have KW:=Ja HB.out;have OZ:=Ja HM.out;have HFN1:=HFN.out (k:Int);have HFS1:=HFS.out (k:Int);rw[hnd] at HFN1 HFS1;obtain⟨cb,hcb⟩:∃b,b=Xj u0 K:=⟨_,rfl⟩;have CV:=QB D A9 q d nK c9 u0 K wr HY.out.1 HNK.out HY.out.2 (HK.out.go KW.out);rw[show QL (Vc.Jz u0) (Vc.Jz K)=cb from hcb.symm] at CV;rw[<-hcb] at HFN1 HFS1;have CV:=Ja CV;have HFN1:=Ja HFN1;have HFS1:=Ja HFS1;clear hcb hnd;go_wp2_with fail;refine Jd CV.out fun W5 hb5=>?_;have HY:=Ja (And.intro HY.out.1 (HY.out.2.go hb5));have KW:=Ja (Jg KW.out hb5);have OZ:=Ja (OZ.out.below hb5);clear hb5 CV;rcases cb with _ | _
     ·have hfs:=HFS1.out rfl;have hnx:q<=8796093022208:=by
       have h1:=HY.out.1;have h2:=Yu (HFM.out _ _ hfs);omega
      have HFK:=Ja hfs;clear hfs HFN1 HFS1;rcases FT M with hMn | ⟨M0,yy,hMy⟩
      ·obtain rfl:m=0:=by rw[<-OZ.out.len,hMn];rfl
       have HJ:=Ja fun Ac cc=>(show Jv (M++[((⟨Ac,q,cc⟩:ZV),((k:Int),(k:Int)),u0)])=UF f (k+1) by rw[JA,HMZ.out,Jcb HFK.out (by rw[<-HMZ.out,hMn];rfl)];rfl);clear hMn;have CP:=Ja (Qn D q d (sv u0) W5 (HY.out.2) (Ju _) hnx);go_wp2_with (first
        | (go_at_call 63;go_must (refine CP.out.mono ?_);rintro e Wc ⟨Ac,cc,rfl,ho7,hb7⟩;have KC:=Ja (Jg KW.out hb7);have OC:=Ja (OZ.out.below hb7);have CV7:=Ja (Jk ho7 KW.out.size);clear ho7 hb7)
        | (at_builtin;go_must (refine Jh _ rfl (.tmp 99) (.tmp 106) _ rfl w8.heap.size 129 i0 _ 3 40 underlying32 hi0 hz0 hz1 hz2 rfl (by decide) (.slice A' 0 c') 0 _ rfl (OC.out.row.alloc _) _ (some ⟨_,0,none⟩) 1 1 [.int .i64 (k:Int),.int .i64 (k:Int),.slice Ac q cc] rfl (Rd.new _ 129 3 1 #[.int .i64 (k:Int),.int .i64 (k:Int),.slice Ac q cc] rfl h1max) (JL (⟨Ac,q,cc⟩,((k:Int),(k:Int)),u0)) h63 (by omega) (by have:=KC.out.size;simp;omega) ?_);intro A3 c3 W3 ho3 hg3 hat3))
       go_roundw
       case rel=>
        have hba:=(Ec Wc.heap.size Wc).alloc Zl (.cells #[.int .i64 (k:Int),.int .i64 (k:Int),.slice Ac q cc] 129);have kka:=Jg KC.out hba;exact⟨k+1,0+1,c3,A3,by go_num,rfl,by omega,kka.trans (Jb hg3 kka.size (fun g hg=>JM OC.out.row g hg)),_,Qk.push (p:=(⟨Ac,q,cc⟩,((k:Int),(k:Int)),u0)) (OC.out.below hba) ⟨HY.out.1,Jf CV7.out hba Zl⟩ hg3 ho3,HJ.out Ac cc⟩
       case measure=>simp[intOf];omega
      ·rw[FU] at hMy;subst hMy;obtain⟨j,rfl⟩:∃j,m=j+1:=⟨m - 1,by rw[<-OZ.out.len,Eb,List.length_singleton];omega⟩;have hM0:M0.length=j:=by have:=OZ.out.len;rw[Eb,List.length_singleton] at this;omega
       obtain⟨⟨Ay,ny,cy⟩,⟨ylo,yhi⟩,yu⟩:=yy;have hsn:=JaC HFM.out hk HFK.out (D:=Jv M0) (y:=((ylo,yhi),yu)) (by rw[<-HMZ.out,JA];rfl);dsimp only at hsn;obtain⟨Aq,cq,hvq,_,hfq⟩:=Xi OZ.out.row;injection hvq with hv1 _ hv3;subst hv1 hv3;have hrz:=OZ.out.rd;obtain⟨g',o',hA',hgl,p0,p1,p2⟩:=hrz.zone (k:=j) (by rw[hrz.len];omega);have hgj:(M0++[((⟨Ay,ny,cy⟩:ZV),(ylo,yhi),yu)])[j]'(by rw[hrz.len];omega)=(⟨Ay,ny,cy⟩,(ylo,yhi),yu):=by
        rw[FO (by omega)];simp[hM0]
       rw[hgj] at p0 p1 p2;dsimp only at p0 p1 p2;obtain⟨g,hga,hg1,_⟩:=hfq _ hA';injection hga with h1 h2;subst h1 h2;subst hA';simp only[EU] at p0 p1 p2;have hye:=OZ.out.el (⟨Ay,ny,cy⟩,(ylo,yhi),yu) (by simp);have EQ:=Jbv Ay D ny cy q d yu u0 W5 hye.1 HY.out.1 (Rd.of_own hye.2) HY.out.2;have e8:IntKind.i64.wrap (j:Int)=(j:Int):=EJ _ (by omega);have e9:(((j+1:Nat):Int) - 1)=(j:Int):=by omega
       have e10:IntKind.i64.wrap (((j+1:Nat):Int) - 1)=(j:Int):=by rw[e9];exact e8
       have hin2:(0:Int)<=(j:Int)/\(j:Int) < ((j+1:Nat):Int):=by omega
       have dk:decide (0 < j+1)=true:=by simp
       have HG1:=Ja hg1;have HM0:=Ja hM0;clear hrz hgj hfq hg1 hye hM0;by_cases h4:yhi=(k:Int) - 1
       ·by_cases h5:yu=u0
        ·rw[Ei ⟨h4,h5⟩] at hsn;have HSN:=Ja hsn;rw[Eu h5] at EQ;have EQ:=Ja EQ;have H5:=Ja h5;subst h4;clear hsn h5 HFK;go_wp2_with fail;refine Jd EQ.out fun W6 hq6=>?_;have hb6:Bz W5 W6:=by obtain⟨q6,rfl⟩:=hq6;exact Jr Zr _
         have KW:=Ja (Jg KW.out hb6);have OZ:=Ja (OZ.out.below hb6);obtain⟨oc1,oc2,oc3⟩:=Zx OZ.out.row (j:=j * 3+1) (by omega) (.int .i64 (k:Int));rw[<-HM0.out,Yv,HM0.out] at oc1;have HOC:=Ja (And.intro oc1 oc2);have p1:=(hb6.cell (p:=⟨g',j * 3+1,none⟩) hgl).trans p1;clear hq6 hb6 oc1 oc2 p0 p2 hgl EQ;go_wp2;go_roundw
         case rel=>
          refine⟨k+1,j+1,c',some ⟨g',0,none⟩,by go_num,rfl,by omega,KW.out.setCell (p:=⟨g',j * 3+1,none⟩) HG1.out _,M0++[((⟨Ay,ny,cy⟩:ZV),(ylo,(k:Int)),yu)],⟨HOC.out.1,fun p hp=>?_⟩,?_⟩
          ·have key:∀p∈M0++[((⟨Ay,ny,cy⟩:ZV),(ylo,(k:Int) - 1),yu)],p.2.2.length=p.1.n/\(W6.setCell ⟨g',j * 3+1,none⟩ (.int .i64 (k:Int))).ownsRow w8.heap.size 28 2 (.slice p.1.A p.1.n p.1.c) p.1.n (sv p.2.2):=fun p hp=>⟨(OZ.out.el p hp).1,(OZ.out.el p hp).2.kept HOC.out.2 (Qb (OZ.out.el p hp).2 OZ.out.row (by decide))⟩;rcases EB.1 hp with hp | hp
           ·exact key p (Fc _ hp)
           ·rw[Ez] at hp;subst hp;exact key (⟨Ay,ny,cy⟩,(ylo,(k:Int) - 1),yu) (by simp)
          ·rw[HSN.out,JA,H5.out];rfl
         case measure=>simp[intOf];omega
        ·rw[Ef (fun h=>h5 h.2)] at hsn;have HJ:=Ja fun Ac cc=>(show Jv ((M0++[((⟨Ay,ny,cy⟩:ZV),(ylo,yhi),yu)])++[((⟨Ac,q,cc⟩:ZV),((k:Int),(k:Int)),u0)])=UF f (k+1) by rw[hsn,JA,JA];rfl);rw[Ew h5] at EQ;have EQ:=Ja EQ;subst h4;clear hsn h5 HFK;go_wp2_with fail;refine Jd EQ.out fun W6 hq6=>?_;have hb6:Bz W5 W6:=by obtain⟨q6,rfl⟩:=hq6;exact Jr Zr _
         have HY:=Ja (And.intro HY.out.1 (HY.out.2.go hb6));have KW:=Ja (Jg KW.out hb6);have OZ:=Ja (OZ.out.below hb6);clear hq6 hb6 p0 p1 p2 hgl EQ;have CP:=Ja (Qn D q d (sv u0) W6 (HY.out.2) (Ju _) hnx);go_wp2_with (first
          | (go_at_call 63;go_must (refine CP.out.mono ?_);rintro e Wc ⟨Ac,cc,rfl,ho7,hb7⟩;have KC:=Ja (Jg KW.out hb7);have OC:=Ja (OZ.out.below hb7);have CV7:=Ja (Jk ho7 KW.out.size);clear ho7 hb7)
          | (at_builtin;go_must (refine Jh _ rfl (.tmp 99) (.tmp 106) _ rfl w8.heap.size 129 i0 _ 3 40 underlying32 hi0 hz0 hz1 hz2 rfl (by decide) (.slice (some ⟨g',0,none⟩) (j+1) c') (j+1) _ rfl (OC.out.row.alloc _) _ (some ⟨_,0,none⟩) 1 1 [.int .i64 (k:Int),.int .i64 (k:Int),.slice Ac q cc] rfl (Rd.new _ 129 3 1 #[.int .i64 (k:Int),.int .i64 (k:Int),.slice Ac q cc] rfl h1max) (JL (⟨Ac,q,cc⟩,((k:Int),(k:Int)),u0)) h63 (by omega) (by have:=KC.out.size;simp;omega) ?_);intro A3 c3 W3 ho3 hg3 hat3))
         go_roundw
         case rel=>
          have hba:=(Ec Wc.heap.size Wc).alloc Zl (.cells #[.int .i64 (k:Int),.int .i64 (k:Int),.slice Ac q cc] 129);have kka:=Jg KC.out hba;exact⟨k+1,(j+1)+1,c3,A3,by go_num,rfl,by omega,kka.trans (Jb hg3 kka.size (fun g hg=>JM OC.out.row g hg)),_,Qk.push (p:=(⟨Ac,q,cc⟩,((k:Int),(k:Int)),u0)) (OC.out.below hba) ⟨HY.out.1,Jf CV7.out hba Zl⟩ hg3 ho3,HJ.out Ac cc⟩
         case measure=>simp[intOf];omega
       ·rw[Ef (fun h=>h4 h.1)] at hsn;have HJ:=Ja fun Ac cc=>(show Jv ((M0++[((⟨Ay,ny,cy⟩:ZV),(ylo,yhi),yu)])++[((⟨Ac,q,cc⟩:ZV),((k:Int),(k:Int)),u0)])=UF f (k+1) by rw[hsn,JA,JA];rfl);have b4:(yhi == (k:Int) - 1)=false:=by simpa using h4
        clear hsn h4 HFK EQ p0 p2 hgl;have CP:=Ja (Qn D q d (sv u0) W5 (HY.out.2) (Ju _) hnx);go_wp2_with (first
         | (go_at_call 63;go_must (refine CP.out.mono ?_);rintro e Wc ⟨Ac,cc,rfl,ho7,hb7⟩;have KC:=Ja (Jg KW.out hb7);have OC:=Ja (OZ.out.below hb7);have CV7:=Ja (Jk ho7 KW.out.size);clear ho7 hb7)
         | (at_builtin;go_must (refine Jh _ rfl (.tmp 99) (.tmp 106) _ rfl w8.heap.size 129 i0 _ 3 40 underlying32 hi0 hz0 hz1 hz2 rfl (by decide) (.slice (some ⟨g',0,none⟩) (j+1) c') (j+1) _ rfl (OC.out.row.alloc _) _ (some ⟨_,0,none⟩) 1 1 [.int .i64 (k:Int),.int .i64 (k:Int),.slice Ac q cc] rfl (Rd.new _ 129 3 1 #[.int .i64 (k:Int),.int .i64 (k:Int),.slice Ac q cc] rfl h1max) (JL (⟨Ac,q,cc⟩,((k:Int),(k:Int)),u0)) h63 (by omega) (by have:=KC.out.size;simp;omega) ?_);intro A3 c3 W3 ho3 hg3 hat3))
        go_roundw
        case rel=>
         have hba:=(Ec Wc.heap.size Wc).alloc Zl (.cells #[.int .i64 (k:Int),.int .i64 (k:Int),.slice Ac q cc] 129);have kka:=Jg KC.out hba;exact⟨k+1,(j+1)+1,c3,A3,by go_num,rfl,by omega,kka.trans (Jb hg3 kka.size (fun g hg=>JM OC.out.row g hg)),_,Qk.push (p:=(⟨Ac,q,cc⟩,((k:Int),(k:Int)),u0)) (OC.out.below hba) ⟨HY.out.1,Jf CV7.out hba Zl⟩ hg3 ho3,HJ.out Ac cc⟩
        case measure=>simp[intOf];omega
     ·have HFK:=Ja (HFN1.out rfl);clear HFN1 HFS1 HY;go_wp2;go_roundw
      case rel=>exact⟨k+1,m,c',A',by go_num,rfl,by omega,KW.out,M,OZ.out,by rw[JaQ HFK.out];exact HMZ.out⟩
      case measure=>simp[intOf];omega
  ·obtain rfl:k=256:=by omega
   have HB:=Ja hb;have HM:=Ja hM;have HMZ:=Ja hMz;clear hb hM hMz;go_wp2;go_ret3;exact⟨A',m,c',M,A9,nK,c9,rfl,HM.out.rd,by rw[HMZ.out,HZ.out],HNK.out,HK.out.go HB.out,Jg HBB.out HB.out⟩
end Go.Proofs.YtmbeahbgafkjfaaGreatDoor
