/- Lemmas, layer 19. -/
import Derived.Test.YtmbeahbgafkjfaaGreatDoorKp18
set_option linter.unusedSimpArgs false
set_option maxRecDepth 100000
set_option maxHeartbeats 16000000
namespace Go.Proofs.YtmbeahbgafkjfaaGreatDoor
open Go.Proofs.Tryz Go.RowKit
section
open Go.RowKit Go.Shelf
attribute [local go_sem] Oper.semAt_some
def Jmy (r s e a:List Vc.St) (k:Nat):List Vc.St:=if Vc.Jz r k < Vc.Jz e k/\Vc.Jz s k<=Vc.Jz r k then XM (jn [a,[(Vc.Jz e k,(k:Int))]]) else a
def JcD (r s e:List Vc.St) (l:List Nat):List Vc.St:=l.foldl (Jmy r s e) r
theorem JdQ (r s e:List Vc.St) (l:List Nat) (k:Nat):JcD r s e (l++[k])=Jmy r s e (JcD r s e l) k:=by unfold JcD;rw[FM];rfl
theorem Jej (r s e:List Vc.St):∀k,JcD r s e (Vc.Ys (Zf (Vc.Jz e)) k)=Xa r s e k
 | 0=>rfl
 | k+1=>by
  have ih:=Jej r s e k;have h0:=Vc.Qv r k;unfold Vc.Ys at ih ⊢;rw[NM,FD];rcases hp:Zf (Vc.Jz e) k with _ | _
  ·have h1:¬ 0 < Vc.Jz e k:=by simpa[Zf] using hp
   rw[show List.filter (Zf (Vc.Jz e)) [k]=[] by simp[hp],EG,ih,Xa,Ef (by omega)]
  ·rw[show List.filter (Zf (Vc.Jz e)) [k]=[k] by simp[hp],JdQ,ih,Xa];rfl
theorem Jgg (v:List Vc.St) {k:Nat} (h:k < 64):Zg v (k:Int)=Vc.Jz v k:=by unfold Zg;rw[Ei (by omega),Int.toNat_natCast]
def Jo1 (w:World) (A:OA) (u:List Vc.St) (A':OA) (f:List Vc.St):Prop:=(A'=A/\f=u)\/∀a,A'=some a->w.heap.size<=a.block
def Jpd (w:World) (A:OA) (u0:List Vc.St) (BF:Nat) (u:List Vc.St) (W:World):Prop:=∃A' c',Boxed W BF 22 (.slice A' u.length c')/\Rd W W.heap.size 2 A' u.length c' (sv u)/\Jo1 w A u0 A' u
theorem JdB (v:NV) (x:Nt) (A:OA) (n c:Nat) (u:List Vc.St) (w:World) (hT:UW w) (hN:Yf w w.heap.size v x) (hl:u.length=n) (hR:Rd w w.heap.size 2 A n c (sv u)):
  Calls prog 183 #[.slice A n c,.agg v.val] w fun e w'=>∃A' c',e=.returned (.slice A' (Xa u x.s x.e 64).length c')/\Rd w' w'.heap.size 2 A' (Xa u x.s x.e 64).length c' (sv (Xa u x.s x.e 64))/\Jo1 w A u A' (Xa u x.s x.e 64)/\Bz w w':=by
 obtain⟨A1,n1,c1,A2,n2,c2,A3,n3,c3,A4,n4,c4⟩:=v;have h0lt:0 < w.heap.size:=Ep _ _ (hT 0 (by decide));have b1:=((Boxed.new w 22 (.slice A n c)).alloc (.cells #[.slice A1 n1 c1,.slice A2 n2 c2,.slice A3 n3 c3,.slice A4 n4 c4] 26)).alloc (.cells #[.slice A n c] 22);have b2:=(Jm.new (w.alloc (.cells #[.slice A n c] 22)) 26 #[.slice A1 n1 c1,.slice A2 n2 c2,.slice A3 n3 c3,.slice A4 n4 c4]).alloc (.cells #[.slice A n c] 22);have b3:=Boxed.new ((w.alloc (.cells #[.slice A n c] 22)).alloc (.cells #[.slice A1 n1 c1,.slice A2 n2 c2,.slice A3 n3 c3,.slice A4 n4 c4] 26)) 22 (.slice A n c);have hb0:Bz w (((w.alloc (.cells #[.slice A n c] 22)).alloc (.cells #[.slice A1 n1 c1,.slice A2 n2 c2,.slice A3 n3 c3,.slice A4 n4 c4] 26)).alloc (.cells #[.slice A n c] 22)):=(((Ec _ w).alloc Zl _).alloc (by simp) _).alloc (by simp;omega) _;simp only[El] at b2 b3;obtain⟨W0,hW0⟩:∃W0,W0=(((w.alloc (.cells #[.slice A n c] 22)).alloc (.cells #[.slice A1 n1 c1,.slice A2 n2 c2,.slice A3 n3 c3,.slice A4 n4 c4] 26)).alloc (.cells #[.slice A n c] 22)):=⟨_,rfl⟩;have hs0:W0.heap.size=w.heap.size+1+1+1:=by rw[hW0];simp
 rw[<-hW0] at b1 b2 b3 hb0;have hN0:=hN.go hb0;have HALL:=Ja (JeM A2 n2 c2 x.e W0 hN0.l2 hN0.r2);have HC1:=Ja fun (V:World) (hb:Bz w V) (k:Int)=>Jbd A n c u k V hl (hR.go hb);have HC2:=Ja fun (V:World) (hb:Bz w V) (k:Int)=>Jbd A1 n1 c1 x.s k V hN.l1 (hN.go hb).r1;have HW:=Ja hW0.symm;have HB0:=Ja hb0;have HT:=Ja hT;have HR0:=Ja (hR.go hb0);have HL:=Ja hl;have HBX:=Ja (And.intro b1 (And.intro b2 b3));have HS0:=Ja hs0;have q1:=b2.cell 1;have q0:=b1.cell;clear hN hN0 hR hl b1 b2 b3 hb0 hW0 hT;refine(Ex (n:=3)).1 ?_;refine FH func183 rfl trivial ?_ rfl;simp only[ntmps183,Fo,List.length_cons,List.length_nil,Nat.reduceAdd,Nat.reduceSub,Fm,Array.replicate_zero,Fw,Fr,List.nil_append,List.cons_append]
 gi_wp2_with fail
 rw[HW.out]
 gi_wp2_with fail
 refine⟨trivial,?_⟩;refine(Ex.2 HALL.out).mono ?_;rintro e w1 ⟨G,Bx,rfl,hG,hBx,hg1,hx1,hb1⟩;have hbw:=Jg HB0.out hb1;have hGood:XH G Bx (fun m k=>k=Vc.Jz x.e m) w1:=⟨HT.out.below hbw,hBx,_,_,hG,fun _ _=>rfl⟩;have hh:=hG.cell 64;rw[Ul,JeD] at hh;have hFar:Jpd w A u (w.heap.size+1+1) u w1:=⟨A,c,by rw[HL.out];exact(hb1.block _ (by have:=HS0.out;omega)).trans HBX.out.2.2,by rw[HL.out];exact HR0.out.go hb1,.inl ⟨rfl,rfl⟩⟩;have HBW:=Ja hbw;have hs1:=hb1.size;have HB1:=Ja hb1;clear q0 q1 HALL hb1 hbw
 gi_wp2
 refine NG rfl (by omega) (gf:=221) (lb:=#[.pointer (some ⟨Bx,0,none⟩)]) rfl trivial (NU func221 (by kernel_rfl) rfl)
  (Up (3 - 1) (by omega) G Bx (Zf (Vc.Jz x.e)) (fun m k=>k=Vc.Jz x.e m) _ hGood hh) JeA (Jfu hG.lt hBx.lt (by omega)) Zr (fun _=>rfl)
  (fun pre W=>Jpd w A u (w.heap.size+1+1) (JcD u x.s x.e (OG pre)) W/\Below (w.heap.size+1+1) w1 W)
  (fun _ _ _=>False)
  (Nc (fun s X Y row hs hg hr=>by
   obtain⟨A',c',h1,h2,h3⟩:=hs;exact⟨A',c',(show Jm X _ _ _ from h1).kept_ hg (fun r e=>(hr r e).2),(Jba h2 hg (fun r e=>(hr r e).2)).more hg.size,h3⟩) (GZ (by have:=HS0.out;omega) (by have:=HS0.out;omega)))
  (fun _ _ _ _ _ hs _ _=>hs)
  ⟨hFar,Ec _ _⟩
  (fun y=>{ tmps:=#[.slice A n c,.agg (NV.val ⟨A1,n1,c1,A2,n2,c2,A3,n3,c3,A4,n4,c4⟩),.pointer (some ⟨w.heap.size,0,none⟩),.pointer (some ⟨w.heap.size+1,0,none⟩),.slice none 0 0,.pointer (some ⟨w.heap.size+1+1,0,none⟩),.int .i64 (y.1.1:Int),.int .i64 y.1.2,undef,.slice A n c,.pointer (some ⟨w.heap.size+1,1,none⟩),.slice A2 n2 c2,.func (.func 221) #[] #[.pointer (some ⟨Bx,0,none⟩)],.int .i64 (y.1.1:Int),.int .i64 y.1.2,undef,undef,undef,undef,undef,undef,undef,undef,undef,undef,undef,undef,undef,undef,undef,undef,undef,undef,undef,undef],defers:=[] }) ?assign ?body ?done ?stop
 case assign=>
  intro l y W K hK;dsimp only[evs]
  gi_wp2
  exact hK
 case body=>
  rintro l pre y W ⟨⟨A',c',hbox,hrd,hna⟩,hB⟩ hlt;have hk64:=y.2.1;have hval:=y.2.2.2;generalize hk:y.1.1=k at hk64 hval ⊢;generalize hct:y.1.2=ct at hval ⊢;have hbW:Bz w W:=HBW.out.trans (hB.mono (by omega));have bx0:Boxed W w.heap.size 22 (.slice A n c):=(hB.block _ (by omega)).trans ((HB1.out.block _ (by have:=HS0.out;omega)).trans HBX.out.1);have bx1:Jm W (w.heap.size+1) 26 #[.slice A1 n1 c1,.slice A2 n2 c2,.slice A3 n3 c3,.slice A4 n4 c4]:=(hB.block _ (by omega)).trans ((HB1.out.block _ (by have:=HS0.out;omega)).trans HBX.out.2.1);have q0:=bx0.cell;have hsn:=JdQ u x.s x.e (OG pre) k;have hsn2:JcD u x.s x.e (OG (pre++[y]))=Jmy u x.s x.e (JcD u x.s x.e (OG pre)) k:=by rw[Km,hk];exact hsn
  have e1:=HC1.out W hbW (k:Int);rw[Jgg u hk64] at e1;have hfs:Jmy u x.s x.e (JcD u x.s x.e (OG pre)) k=if Vc.Jz u k < Vc.Jz x.e k/\Vc.Jz x.s k<=Vc.Jz u k then XM (jn [JcD u x.s x.e (OG pre),[(Vc.Jz x.e k,(k:Int))]]) else JcD u x.s x.e (OG pre):=rfl;have e2:=fun V hb=>HC2.out V hb (k:Int);simp only[Jgg x.s hk64] at e2;generalize JcD u x.s x.e (OG pre)=f at hbox hrd hsn2 hfs hna;generalize Jmy u x.s x.e f k=g at hsn2 hfs;generalize Vc.Jz u k=a at e1 hfs;rw[<-hval] at hfs;generalize Vc.Jz x.s k=b at e2 hfs;have E1:=Ja e1;have E2:=Ja e2;have HFS:=Ja hfs;have HSN:=Ja hsn2;have HBo:=Ja hbox;have HRd:=Ja hrd;have HBB:=Ja hB;have HX1:=Ja bx1;have HBW2:=Ja hbW;have hWs:=hB.size;clear e1 e2 hfs hsn hsn2 hk hct hval hbox hrd hB bx0 bx1 hbW
  gi_wp2_with fail
  refine⟨trivial,?_⟩;refine(Ex.2 E1.out).mono ?_;rintro e w4 ⟨rfl,hb4⟩;have hbx4:Boxed w4 (w.heap.size+1+1) 22 (.slice A' f.length c'):=(hb4.block _ HBo.out.lt).trans HBo.out;have q3:=(HX1.out.go hb4).cell 0;clear q0 E1;by_cases c1:ct > a
  ·have HB4:=Ja hb4;have HX4:=Ja hbx4;clear hb4 hbx4
   gi_wp2_with fail
   refine⟨trivial,?_⟩;refine(Ex.2 (E2.out _ (Jg HBW2.out HB4.out))).mono ?_;rintro e w5 ⟨rfl,hb5⟩;have hb5:=Jg HB4.out hb5;have HB5:=Ja hb5;have hbx5:Boxed w5 (w.heap.size+1+1) 22 (.slice A' f.length c'):=(hb5.block _ HBo.out.lt).trans HBo.out;by_cases c2:a ≥ b
   ·have HG:=Ja (show g=XM (jn [f,[(ct,(k:Int))]]) by rw[HFS.out,Ei ⟨c1,c2⟩]);have q4:=hbx5.cell;have WI:=Ja (JmF A' f.length c' f (ct,(k:Int)) w5 (HT.out.below (Jg HBW2.out hb5)) rfl (HRd.out.go hb5));clear hb5 hbx5 q3 E2
    gi_wp2_with fail
    refine⟨trivial,?_⟩;refine(Ex.2 WI.out).mono ?_;rintro e w6 hout;rw[<-HG.out] at hout;obtain⟨A6,c6,rfl,ho6,hb6⟩:=hout;have hb6W:=Jg HB5.out hb6;have hbx6:Boxed w6 (w.heap.size+1+1) 22 (.slice A' f.length c'):=(hb6W.block _ HBo.out.lt).trans HBo.out;have q5:=hbx6.cell;have f5:=hbx6.frozen;have HB6:=Ja hb6W;have HX6:=Ja hbx6;have hs5:=HB5.out.size;have hbl:=HBo.out.lt;clear hb6 hb6W hbx6 q4 WI
    gi_wp2
    refine⟨(QC HB6.out).trans ((KeepsOthers.setCell _ _ _).from _),fun hg=>?_,⟨A6,c6,?_,?_,.inr (fun a ha=>?_)⟩,?_⟩
    ·exact(hg.below HB6.out (by obtain⟨_,_,h,_⟩:=hg.cnts;exact h.lt) hg.box.lt (by omega)).set_ _ (by omega) (by omega) (by omega)
    ·rw[HSN.out];exact HX6.out.set _
    ·rw[HSN.out];exact Rd.of_own (ho6.kept (Gx w6 (w.heap.size+1+1) _) (JnZ ho6 (by omega)))
    ·obtain⟨A7,c7,hv,_,hf⟩:=Xi ho6;injection hv with hv1 _ _;subst hv1;obtain⟨g7,rfl,hg7,_⟩:=hf a ha;have:=HBW2.out.size;show w.heap.size<=g7;omega
    ·exact(HBB.out.trans (HB6.out.mono (by omega))).setCell (p:=⟨w.heap.size+1+1,0,none⟩) Zl _
   ·have HG:=Ja (show g=f by rw[HFS.out,Ef (by omega)]);clear hb5 hbx5 q3 E2
    gi_wp2
    refine⟨QC HB5.out,fun hg=>?_,⟨A',c',?_,?_,by rw[HSN.out,HG.out];exact hna⟩,?_⟩
    ·exact hg.below HB5.out (by obtain⟨_,_,h,_⟩:=hg.cnts;exact h.lt) hg.box.lt (by omega)
    ·rw[HSN.out,HG.out];exact(HB5.out.block _ HBo.out.lt).trans HBo.out
    ·rw[HSN.out,HG.out];exact HRd.out.go HB5.out
    ·exact HBB.out.trans (HB5.out.mono (by omega))
  ·have HG:=Ja (show g=f by rw[HFS.out,Ef (by omega)]);have HB4:=Ja hb4;clear hb4 hbx4 q3 E2
   gi_wp2
   refine⟨trivial,?_⟩
   gi_wp2
   refine⟨QC HB4.out,fun hg=>?_,⟨A',c',?_,?_,by rw[HSN.out,HG.out];exact hna⟩,?_⟩
   ·exact hg.below HB4.out (by obtain⟨_,_,h,_⟩:=hg.cnts;exact h.lt) hg.box.lt (by omega)
   ·rw[HSN.out,HG.out];exact(HB4.out.block _ HBo.out.lt).trans HBo.out
   ·rw[HSN.out,HG.out];exact HRd.out.go HB4.out
   ·exact HBB.out.trans (HB4.out.mono (by omega))
 case done=>
  rintro D ys W hD hys ⟨⟨A',c',hbox,hrd,hna⟩,hB⟩ hK;have hys':OG ys=Vc.Ys (Zf (Vc.Jz x.e)) 64:=hys;rw[hys',Jej] at hbox hrd hna;have q:=hbox.cell;clear hys hys'
  gi_wp2
  refine⟨by simp,.inl ⟨_,_,rfl,Gn hK,?_⟩⟩;exact⟨_,results_tmp rfl _ _ _,A',c',rfl,(Jba hrd (Gj W D (.deferred none)) (fun r e=>by cases e;exact⟨_,hK,rfl⟩)).more (by simp),hna,(HBW.out.trans (hB.mono (by omega))).trans (Rh (w:=w) Zl W D _ _ (by omega) hK rfl rfl)⟩
 case stop=>
  rintro D c pre W _ _ h _;exact h.elim
end
section
open Go.RowKit Go.Shelf
theorem Qk.setB {w:World} {base BO k c:Nat} {A:OA} {L:List (ZV×Zn)} {v0:Value} (h:Qk w base A k c L) (hv:Boxed w BO 32 v0) (v:Value):Qk (w.setCell ⟨BO,0,none⟩ v) base A k c L:=
 ⟨h.row.kept (Gx w BO v) (.inr (hv.not_row (by decide) h.row).symm),fun p hp=>⟨(h.el p hp).1,(h.el p hp).2.kept (Gx w BO v) (.inr (hv.not_row (by decide) (h.el p hp).2).symm)⟩⟩
theorem Rd.kz {BO:Nat} {W V:World} {size n c:Nat} {A:OA} {xs:List Value} (h:Rd W W.heap.size size A n c xs) (k:KZ BO W V) (hs:0 < n->∀a,A=some a->a.block≠BO/\pt BO W≠some a.block):Rd V V.heap.size size A n c xs:=
 ⟨h.len,h.cap,h.max,h.nil,fun hn=>by
  obtain⟨ad,e,hb,hc⟩:=h.at0 hn;obtain⟨s1,s2⟩:=hs hn ad e;exact⟨ad,e,FC hb k.size,fun j u hu=>k.cell (by rw[QK];exact s1) (by rw[QK];exact s2) (hc j u hu)⟩⟩
def JaV (BO:Nat) (W:World) (n:Nat) (A:OA):Prop:=0 < n->∀a,A=some a->a.block≠BO/\pt BO W≠some a.block
theorem KeepsFrom.zero {B:Nat} {W V:World} (h:KeepsFrom 0 W V):KeepsFrom B W V:=⟨h.size,fun k o _ hk ho=>h.same k o (FB _) hk ho⟩
def Jgi (c:Bool) (l:List Sn.Sp) (u:List Vc.St):List Zn:=if c=true then [] else l.map fun s=>(s,u)
structure Jnc (w:World) (BO base:Nat) (Z:List Zn) (W:World):Prop where
 st:∃A k c M,Boxed W BO 32 (.slice A k c)/\Qk W base A k c M/\Jv M=Z
 kz:KZ BO w W
 kf:KeepsFrom 0 w W
 bl:Below base w W
theorem rdN {W:World} {t:TypeId} {cs:Array Value} (size n:Nat) (_:Bz W (W.alloc (.cells cs t))) (hn:cs.size=n * size) (hm:n<=maxLen):Rd (W.alloc (.cells cs t)) (W.alloc (.cells cs t)).heap.size size (some ⟨W.heap.size,0,none⟩) n n cs.toList:=by
 have:=Rd.new W t size n cs hn hm;rw[El];exact this
theorem Jjk (BN BO base:Nat) (D A N A0:OA) (m d n c nn nc k0 c0:Nat) (l:List Sn.Sp) (u nw:List Vc.St) (M:List (ZV×Zn)) (w:World) (hT:UW w) (hbn:Boxed w BN 22 (.slice N nn nc)) (hnn:nw.length=nn) (hRN:Rd w w.heap.size 2 N nn nc (sv nw))
  (hbo:Boxed w BO 32 (.slice A0 k0 c0)) (hM:Qk w base A0 k0 c0 M) (hbase:base<=BO) (hl:l.length=m) (hRl:Rd w w.heap.size 2 D m d (sv l)) (sl:JaV BO w m D) (hu:u.length=n) (hRu:Rd w w.heap.size 2 A n c (sv u)) (su:JaV BO w n A) (hn:n<=8796093022208) (hsz:k0+m<=3518437208883):
  Calls prog 181 #[.slice D m d,.slice A n c,.pointer (some ⟨BN,0,none⟩),.pointer (some ⟨BO,0,none⟩)] w fun e w'=>e=.returned (.tuple #[])/\Jnc w BO base (Jv M++Jgi (Xj u nw) l u) w':=by
 have hq:=hbn.cell;have C:=ZG A N n c nn nc u nw w hT hu hnn hRu hRN;rcases hc:QL (Vc.Jz u) (Vc.Jz nw) with _ | _
 ·rw[hc] at C;have HP:=Ja (show Jgi (Xj u nw) l u=l.map fun s=>(s,u) by unfold Xj;rw[hc];rfl);obtain⟨i0,hi0,hz0,hz1,hz2⟩:=EN Kr;have h1max:1<=maxLen:=by unfold maxLen;omega
  have C:=Ja C;have HBO:=Ja hbo;have HM0:=Ja hM;have HLl:=Ja hl;have HRl:=Ja hRl;have HRu:=Ja hRu;have SL:=Ja sl;have SU:=Ja su;have HU:=Ja hu;have hlm:=hRl.cap;have hlx:=hRl.max;have hmx:m<=9223372036854775807:=by unfold maxLen at hlx;omega
  clear hc hbo hM hRl hRu sl su hT hbn hRN hl hu;go_enter func181,ntmps181;go_wp2_with fail;refine Jd C.out fun w1 hb1=>?_;have P1:=Ja (show Jnc w BO base (Jv M++(l.take 0).map fun s=>(s,u)) w1 from ⟨⟨A0,k0,c0,M,(hb1.block _ HBO.out.lt).trans HBO.out,HM0.out.below hb1,by simp⟩,KZ.of_below HBO.out.lt hb1,QC hb1,hb1.mono (by have:=HBO.out.lt;omega)⟩);clear hb1 hq C;go_wp2;go_loopw [13] (fun v13 wr=>∃i:Nat,v13=.int .i64 i/\i<=m/\Hid (Jnc w BO base (Jv M++(l.take i).map fun s=>(s,u)) wr)) (fun v13 _=>m - (intOf v13).toNat)
  case atStart=>exact⟨0,rfl,FB _,P1.out⟩
  case round=>
   obtain⟨i,rfl,hi,hp⟩:=hrel;by_cases hlt:i < m
   ·obtain⟨⟨A1,k1,c1,M1,hbx,hM1,hz⟩,kz,kf,bl⟩:=hp.out;have hkl:i < l.length:=by rw[HLl.out];exact hlt
    obtain⟨b,oo,rfl,hab,g0,g1⟩:=(HRl.out.kz kz SL.out).stamp HLl.out hlt;have hRu1:=HRu.out.kz kz SU.out;have hnx:=Eq hkl;have hk1:k1=k0+i:=by
     have e1:=congrArg List.length hz;have e2:=hM1.len;have e3:=HM0.out.len;rw[JH,Eb,JH,Gl,Et] at e1;omega
    have hk2:k1+1<=3518437208883:=by omega
    clear hk1;generalize (l[i]'hkl)=s at g0 g1 hnx;obtain⟨lo,hi'⟩:=s;dsimp only at g0 g1;have hwb:Bz wr (wr.alloc (.cells #[.int .i64 lo,.int .i64 hi'] 63)):=Zr.alloc Zl _;have XS:=Ja ((Jm.new wr 63 #[.int .i64 lo,.int .i64 hi']).go Zr.drew);have hwd:=Jg hwb (Ec _ (wr.alloc (.cells #[.int .i64 lo,.int .i64 hi'] 63))).drew;have BX:=Ja (show Boxed _ BO 32 (.slice A1 k1 c1) from (hwd.block _ hbx.lt).trans hbx);have BX0:=BX;have CZ:=Ja (hM1.below hwd);have RU:=Ja fun V (hb:Bz wr V)=>YQ A n c (sv u) V (hRu1.go hb) (Ju _) hn;have k:=hwd;have h63:k1+1<=maxLen:=by unfold maxLen;omega
    have HNX:=Ja (show (l.take (i+1)).map (fun s=>(s,u))=(l.take i).map (fun s=>(s,u))++[((lo,hi'),u)] by rw[hnx,GM];rfl);have HZ:=Ja hz;have HBX:=Ja hbx;have KZZ:=Ja kz;have KF:=Ja kf;have BL:=Ja bl;have hbs:=bl.size;have hbl:=HBO.out.lt;clear hp hbx hM1 hz kz kf bl hab hRu1 hnx hkl hwb hwd P1;go_wp2_with fail;clear g0 g1;refine Jl fun KK hKK=>?_;refine Eg (S:=(fun V=>V.cell? ⟨wr.heap.size,0,none⟩=some (.int .i64 lo)/\V.cell? ⟨wr.heap.size,1,none⟩=some (.int .i64 hi'))) (by kernel_rfl) (by first | exact⟨XS.out.cell 0,XS.out.cell 1⟩) (fun hHeld=>?_);refine Jc 1 18 2 19 (⟨XS.out.cell 0,XS.out.cell 1⟩) ?_;refine EO (rs:=[0,3]) (by kernel_rfl) (by simp) ?_;refine Ee rfl (fun K hK=>?_) (Ee rfl (fun K hK=>?_) EH)
    ·have qg:=BX0.out.cell;have qg2:=BX.out.cell;go_simp;clear qg qg2;refine hK.out _ _ (⟨XS.out.cell 0,XS.out.cell 1⟩) fun hHeld=>?_;clear hK K;refine Qa 3 fun K hK=>?_;go_simp;refine(RU.out _ k).mono ?_;rintro e W1 ⟨Ac,cc,rfl,ho,hb'⟩;have CV:=Ja (Jk ho (show base<=_ from by have:=k.size;have:=KZZ.out.size;omega));have CZ:=Ja (CZ.out.below hb');have XS:=Ja (XS.out.go hb');have BX:=Ja (show Boxed W1 BO 32 (.slice A1 k1 c1) from (hb'.block _ BX.out.lt).trans BX.out);have k:=Jg k hb';clear ho hb';refine hK.out _ _ (⟨XS.out.cell 0,XS.out.cell 1⟩) fun hHeld=>?_;clear hK K;refine Qx 4 21 (⟨XS.out.cell 0,XS.out.cell 1⟩) ?_;refine Qa 5 fun K hK=>?_;go_simp;have hb':=Ji k (.cells #[.int .i64 lo,.int .i64 hi',.slice Ac n cc] 129);have CV:=Ja (Jf CV.out hb' Zl);have CZ:=Ja (CZ.out.below hb');have XS:=Ja (XS.out.go hb');have BX:=Ja (show Boxed _ BO 32 (.slice A1 k1 c1) from (hb'.block _ BX.out.lt).trans BX.out);have RN:=Ja (rdN 3 1 hb' rfl h1max);have k:=Jg k hb';clear hb';refine hK.out _ _ (⟨XS.out.cell 0,XS.out.cell 1⟩) fun hHeld=>?_;clear hK K;refine Qa 6 fun K hK=>?_;rw[Ei (by kernel_rfl)];refine JS _ (.tmp 17) (.tmp 22) _ rfl base 129 i0 _ 3 40 underlying32 hi0 hz0 hz1 hz2 rfl (by decide) (.slice A1 k1 c1) k1 _ rfl CZ.out.row _ (some ⟨_,0,none⟩) 1 1 _ rfl RN.out (JL (⟨Ac,n,cc⟩,(lo,hi'),u)) h63 (by omega) (by have:=k.size;have:=KZZ.out.size;omega) ?_;intro A3 c3 W3 ho3 hg3 hat3;have hnr:=BX.out.not_row (show (32:TypeId)≠129 by decide) CZ.out.row;have BX3:=Ja (BX.out.kept hg3 hnr);have XS:=Ja (XS.out.grown hg3 (Jm.not_row XS.out (show (63:TypeId)≠129 by decide) CZ.out.row));have CZ3:=Ja (Qk.push (p:=(⟨Ac,n,cc⟩,(lo,hi'),u)) CZ.out ⟨HU.out,CV.out⟩ hg3 ho3);have kz3:=Ja (KZ.appended (v':=.slice A3 (k1+1) c3) HBX.out (show (32:TypeId)≠129 by decide) k CZ.out.row hg3 hat3 (fun g hg=>(ho3.lt g hg).2));have kf3:=Ja (KeepsFrom.appended (B:=0) (BO:=BO) (v':=.slice A3 (k1+1) c3) k CZ.out.row hg3);have bl3:=Ja (((BL.out.trans (k.mono (by have:=KZZ.out.size;omega))).trans (Jb hg3 (by have:=k.size;have:=KZZ.out.size;omega) (fun g hg=>JM CZ.out.row g hg))).setCell (p:=⟨BO,0,none⟩) hbase (.slice A3 (k1+1) c3));clear ho3 hg3 hat3 hnr;refine hK.out _ _ (⟨XS.out.cell 0,XS.out.cell 1⟩) fun hHeld=>?_;clear hK K;refine Qa 7 fun K hK=>?_;have qg:=BX3.out.cell;have qf:=BX3.out.frozen;go_simp;clear qg qf;have XS:=Ja (XS.out.grown (Gx _ BO (.slice A3 (k1+1) c3)) (fun e=>by injection e with e;omega));refine hK.out _ _ (⟨XS.out.cell 0,XS.out.cell 1⟩) fun hHeld=>?_;clear hK K;refine Es (by kernel_rfl) ?_ _;refine QQ.out (hKK _ _ ?_);go_wp2;go_roundw
     case rel=>exact⟨i+1,by go_num,by omega,⟨⟨A3,k1+1,c3,_,BX3.out.set _,CZ3.out.setB BX3.out _,by rw[JA,HZ.out,HNX.out,Er];rfl⟩,KZZ.out.trans kz3.out,KF.out.trans kf3.out,bl3.out⟩⟩
     case measure=>simp[intOf];omega
    ·go_simp;refine(RU.out _ k).mono ?_;rintro e W1 ⟨Ac,cc,rfl,ho,hb'⟩;have CV:=Ja (Jk ho (show base<=_ from by have:=k.size;have:=KZZ.out.size;omega));have CZ:=Ja (CZ.out.below hb');have XS:=Ja (XS.out.go hb');have BX:=Ja (show Boxed W1 BO 32 (.slice A1 k1 c1) from (hb'.block _ BX.out.lt).trans BX.out);have k:=Jg k hb';clear ho hb';refine hK.out _ _ (⟨XS.out.cell 0,XS.out.cell 1⟩) fun hHeld=>?_;clear hK K;refine Qx 4 21 (⟨XS.out.cell 0,XS.out.cell 1⟩) ?_;refine EO (rs:=[0,5]) (by kernel_rfl) (by simp) ?_;refine Ee rfl (fun K hK=>?_) (Ee rfl (fun K hK=>?_) EH)
     ·have qg:=BX0.out.cell;have qg2:=BX.out.cell;go_simp;clear qg qg2;refine hK.out _ _ (⟨XS.out.cell 0,XS.out.cell 1⟩) fun hHeld=>?_;clear hK K;refine Qa 5 fun K hK=>?_;go_simp;have hb':=Ji k (.cells #[.int .i64 lo,.int .i64 hi',.slice Ac n cc] 129);have CV:=Ja (Jf CV.out hb' Zl);have CZ:=Ja (CZ.out.below hb');have XS:=Ja (XS.out.go hb');have BX:=Ja (show Boxed _ BO 32 (.slice A1 k1 c1) from (hb'.block _ BX.out.lt).trans BX.out);have RN:=Ja (rdN 3 1 hb' rfl h1max);have k:=Jg k hb';clear hb';refine hK.out _ _ (⟨XS.out.cell 0,XS.out.cell 1⟩) fun hHeld=>?_;clear hK K;refine Qa 6 fun K hK=>?_;rw[Ei (by kernel_rfl)];refine JS _ (.tmp 17) (.tmp 22) _ rfl base 129 i0 _ 3 40 underlying32 hi0 hz0 hz1 hz2 rfl (by decide) (.slice A1 k1 c1) k1 _ rfl CZ.out.row _ (some ⟨_,0,none⟩) 1 1 _ rfl RN.out (JL (⟨Ac,n,cc⟩,(lo,hi'),u)) h63 (by omega) (by have:=k.size;have:=KZZ.out.size;omega) ?_;intro A3 c3 W3 ho3 hg3 hat3;have hnr:=BX.out.not_row (show (32:TypeId)≠129 by decide) CZ.out.row;have BX3:=Ja (BX.out.kept hg3 hnr);have XS:=Ja (XS.out.grown hg3 (Jm.not_row XS.out (show (63:TypeId)≠129 by decide) CZ.out.row));have CZ3:=Ja (Qk.push (p:=(⟨Ac,n,cc⟩,(lo,hi'),u)) CZ.out ⟨HU.out,CV.out⟩ hg3 ho3);have kz3:=Ja (KZ.appended (v':=.slice A3 (k1+1) c3) HBX.out (show (32:TypeId)≠129 by decide) k CZ.out.row hg3 hat3 (fun g hg=>(ho3.lt g hg).2));have kf3:=Ja (KeepsFrom.appended (B:=0) (BO:=BO) (v':=.slice A3 (k1+1) c3) k CZ.out.row hg3);have bl3:=Ja (((BL.out.trans (k.mono (by have:=KZZ.out.size;omega))).trans (Jb hg3 (by have:=k.size;have:=KZZ.out.size;omega) (fun g hg=>JM CZ.out.row g hg))).setCell (p:=⟨BO,0,none⟩) hbase (.slice A3 (k1+1) c3));clear ho3 hg3 hat3 hnr;refine hK.out _ _ (⟨XS.out.cell 0,XS.out.cell 1⟩) fun hHeld=>?_;clear hK K;refine Qa 7 fun K hK=>?_;have qg:=BX3.out.cell;have qf:=BX3.out.frozen;go_simp;clear qg qf;have XS:=Ja (XS.out.grown (Gx _ BO (.slice A3 (k1+1) c3)) (fun e=>by injection e with e;omega));refine hK.out _ _ (⟨XS.out.cell 0,XS.out.cell 1⟩) fun hHeld=>?_;clear hK K;refine Es (by kernel_rfl) ?_ _;refine QQ.out (hKK _ _ ?_);go_wp2;go_roundw
      case rel=>exact⟨i+1,by go_num,by omega,⟨⟨A3,k1+1,c3,_,BX3.out.set _,CZ3.out.setB BX3.out _,by rw[JA,HZ.out,HNX.out,Er];rfl⟩,KZZ.out.trans kz3.out,KF.out.trans kf3.out,bl3.out⟩⟩
      case measure=>simp[intOf];omega
     ·go_simp;have hb':=Ji k (.cells #[.int .i64 lo,.int .i64 hi',.slice Ac n cc] 129);have CV:=Ja (Jf CV.out hb' Zl);have CZ:=Ja (CZ.out.below hb');have XS:=Ja (XS.out.go hb');have BX:=Ja (show Boxed _ BO 32 (.slice A1 k1 c1) from (hb'.block _ BX.out.lt).trans BX.out);have RN:=Ja (rdN 3 1 hb' rfl h1max);have k:=Jg k hb';clear hb';refine hK.out _ _ (⟨XS.out.cell 0,XS.out.cell 1⟩) fun hHeld=>?_;clear hK K;refine Qa 0 fun K hK=>?_;have qg:=BX0.out.cell;have qg2:=BX.out.cell;go_simp;clear qg qg2;refine hK.out _ _ (⟨XS.out.cell 0,XS.out.cell 1⟩) fun hHeld=>?_;clear hK K;refine Qa 6 fun K hK=>?_;rw[Ei (by kernel_rfl)];refine JS _ (.tmp 17) (.tmp 22) _ rfl base 129 i0 _ 3 40 underlying32 hi0 hz0 hz1 hz2 rfl (by decide) (.slice A1 k1 c1) k1 _ rfl CZ.out.row _ (some ⟨_,0,none⟩) 1 1 _ rfl RN.out (JL (⟨Ac,n,cc⟩,(lo,hi'),u)) h63 (by omega) (by have:=k.size;have:=KZZ.out.size;omega) ?_;intro A3 c3 W3 ho3 hg3 hat3;have hnr:=BX.out.not_row (show (32:TypeId)≠129 by decide) CZ.out.row;have BX3:=Ja (BX.out.kept hg3 hnr);have XS:=Ja (XS.out.grown hg3 (Jm.not_row XS.out (show (63:TypeId)≠129 by decide) CZ.out.row));have CZ3:=Ja (Qk.push (p:=(⟨Ac,n,cc⟩,(lo,hi'),u)) CZ.out ⟨HU.out,CV.out⟩ hg3 ho3);have kz3:=Ja (KZ.appended (v':=.slice A3 (k1+1) c3) HBX.out (show (32:TypeId)≠129 by decide) k CZ.out.row hg3 hat3 (fun g hg=>(ho3.lt g hg).2));have kf3:=Ja (KeepsFrom.appended (B:=0) (BO:=BO) (v':=.slice A3 (k1+1) c3) k CZ.out.row hg3);have bl3:=Ja (((BL.out.trans (k.mono (by have:=KZZ.out.size;omega))).trans (Jb hg3 (by have:=k.size;have:=KZZ.out.size;omega) (fun g hg=>JM CZ.out.row g hg))).setCell (p:=⟨BO,0,none⟩) hbase (.slice A3 (k1+1) c3));clear ho3 hg3 hat3 hnr;refine hK.out _ _ (⟨XS.out.cell 0,XS.out.cell 1⟩) fun hHeld=>?_;clear hK K;refine Qa 7 fun K hK=>?_;have qg:=BX3.out.cell;have qf:=BX3.out.frozen;go_simp;clear qg qf;have XS:=Ja (XS.out.grown (Gx _ BO (.slice A3 (k1+1) c3)) (fun e=>by injection e with e;omega));refine hK.out _ _ (⟨XS.out.cell 0,XS.out.cell 1⟩) fun hHeld=>?_;clear hK K;refine Es (by kernel_rfl) ?_ _;refine QQ.out (hKK _ _ ?_);go_wp2;go_roundw
      case rel=>exact⟨i+1,by go_num,by omega,⟨⟨A3,k1+1,c3,_,BX3.out.set _,CZ3.out.setB BX3.out _,by rw[JA,HZ.out,HNX.out,Er];rfl⟩,KZZ.out.trans kz3.out,KF.out.trans kf3.out,bl3.out⟩⟩
      case measure=>simp[intOf];omega
   ·obtain rfl:i=m:=by omega
    have HPP:=Ja (show Jnc w BO base (Jv M++Jgi (Xj u nw) l u) wr by rw[HP.out];have:=hp.out;rwa [Eo (by rw[HLl.out];exact Ek _)] at this);clear hp;go_wp2;go_end0;exact⟨rfl,HPP.out⟩
 ·rw[hc] at C;have HP:=Ja (show Jgi (Xj u nw) l u=[] by unfold Xj;rw[hc];rfl);have C:=Ja C;have HBO:=Ja hbo;have HM0:=Ja hM;clear hc hbo hM hRl hRu sl su hT hbn hRN;go_enter func181,ntmps181;go_wp2_with fail;refine Jd C.out fun w1 hb1=>?_;go_wp2;refine EF (Nd rfl _ _ _) rfl ?_;rw[HP.out,EG];exact⟨rfl,⟨A0,k0,c0,M,(hb1.block _ HBO.out.lt).trans HBO.out,HM0.out.below hb1,rfl⟩,KZ.of_below HBO.out.lt hb1,QC hb1,hb1.mono (by have:=HBO.out.lt;omega)⟩
open Go.Shelf
def Jc7:Go.Shelf.Ren:=⟨fun | 6=>211 | 15=>227 | 14=>226 | 28=>238 | 29=>239 | 20=>230 | 21=>231 | 22=>232 | 23=>233 | 24=>234 | 25=>235 | 26=>236 | 27=>237 | 46=>249 | 47=>250 | 48=>251 | 49=>252 | 50=>253 | 57=>257 | n=>n,fun | 22=>32 | 24=>129 | 25=>240 | 3=>3 | 39=>186 | 0=>0 | 53=>266 | 55=>201 | 4=>4 | 46=>260 | 45=>259 | 50=>111 | 5=>5 | 9=>9 | 66=>273 | 70=>277 | 76=>281 | 77=>282 | n=>n,fun | n=>n⟩
theorem Jlj:Go.Proofs.SlLaysF0.n6 prog Jc7:={
 mixed:=by kernel_rfl
 f6:=⟨Tryz.f211.name,by decide,func211.trans (congrArg some (by kernel_rfl))⟩
 f14:=⟨Tryz.f226.name,by decide,func226.trans (congrArg some (by kernel_rfl))⟩
 f15:=func227.trans (congrArg some (by kernel_rfl))
 f20:=⟨Tryz.f230.name,by decide,func230.trans (congrArg some (by kernel_rfl))⟩
 f21:=⟨Tryz.f231.name,by decide,func231.trans (congrArg some (by kernel_rfl))⟩
 f22:=⟨Tryz.f232.name,by decide,func232.trans (congrArg some (by kernel_rfl))⟩
 f23:=⟨Tryz.f233.name,by decide,func233.trans (congrArg some (by kernel_rfl))⟩
 f24:=⟨Tryz.f234.name,by decide,func234.trans (congrArg some (by kernel_rfl))⟩
 f25:=⟨Tryz.f235.name,by decide,func235.trans (congrArg some (by kernel_rfl))⟩
 f26:=⟨Tryz.f236.name,by decide,func236.trans (congrArg some (by kernel_rfl))⟩
 f27:=⟨Tryz.f237.name,by decide,func237.trans (congrArg some (by kernel_rfl))⟩
 f28:=func238.trans (congrArg some (by kernel_rfl))
 f29:=func239.trans (congrArg some (by kernel_rfl))
 f46:=⟨Tryz.f249.name,by decide,func249.trans (congrArg some (by kernel_rfl))⟩
 f47:=func250.trans (congrArg some (by kernel_rfl))
 f48:=func251.trans (congrArg some (by kernel_rfl))
 f49:=⟨Tryz.f252.name,by decide,func252.trans (congrArg some (by kernel_rfl))⟩
 f50:=⟨Tryz.f253.name,by decide,func253.trans (congrArg some (by kernel_rfl))⟩
 f57:=⟨Tryz.f257.name,by decide,func257.trans (congrArg some (by kernel_rfl))⟩
 t0:=underlying0
 a0:=Tryz.isAgg0
 z0:=Tryz.sizeOf0
 v0:=Tryz.zeroValue0
 t3:=underlying3
 a3:=Tryz.isAgg3
 z3:=Tryz.sizeOf3
 v3:=Tryz.zeroValue3
 t4:=underlying4
 a4:=Tryz.isAgg4
 z4:=Tryz.sizeOf4
 v4:=Tryz.zeroValue4
 t5:=underlying5
 a5:=Tryz.isAgg5
 z5:=Tryz.sizeOf5
 v5:=Tryz.zeroValue5
 t9:=underlying9
 a9:=Tryz.isAgg9
 z9:=Tryz.sizeOf9
 v9:=Tryz.zeroValue9
 t22:=underlying32
 a22:=Tryz.isAgg32
 z22:=Tryz.sizeOf32
 v22:=Tryz.zeroValue32
 t25:=underlying240
 a25:=Tryz.isAgg240
 z25:=Tryz.sizeOf240
 v25:=Tryz.zeroValue240
 t39:=underlying186
 a39:=Tryz.isAgg186
 z39:=Tryz.sizeOf186
 v39:=Tryz.zeroValue186
 t45:=underlying259
 a45:=Tryz.isAgg259
 z45:=Tryz.sizeOf259
 v45:=Tryz.zeroValue259
 t46:=underlying260
 a46:=Tryz.isAgg260
 z46:=Tryz.sizeOf260
 v46:=Tryz.zeroValue260
 t50:=underlying111
 a50:=Tryz.isAgg111
 z50:=Tryz.sizeOf111
 v50:=Tryz.zeroValue111
 t53:=underlying266
 a53:=Tryz.isAgg266
 z53:=Tryz.sizeOf266
 v53:=Tryz.zeroValue266
 t55:=underlying201
 a55:=Tryz.isAgg201
 z55:=Tryz.sizeOf201
 v55:=Tryz.zeroValue201
 t66:=underlying273
 a66:=Tryz.isAgg273
 z66:=Tryz.sizeOf273
 v66:=Tryz.zeroValue273
 t70:=underlying277
 a70:=Tryz.isAgg277
 z70:=Tryz.sizeOf277
 v70:=Tryz.zeroValue277
 t76:=underlying281
 a76:=Tryz.isAgg281
 z76:=Tryz.sizeOf281
 v76:=Tryz.zeroValue281
 t77:=underlying282
 a77:=Tryz.isAgg282
 z77:=Tryz.sizeOf282
 v77:=Tryz.zeroValue282 }
open Go.RowKit Go.Shelf Go.Sort
abbrev ZA:={ p:ZV×Zn // 0<=p.2.1.1/\p.2.1.1<=255 }
instance:Inhabited ZA:=⟨⟨(⟨none,0,0⟩,((0,0),[])),by simp⟩⟩
def Uj (x:ZA):List Value:=zvl x.1
def zav (l:List ZA):List Value:=l.flatMap Uj
theorem JmR (l:List ZA) (t:Nat) (h:t < l.length * 3):(zav l)[t]?=(Uj (l[t / 3]'(by omega)))[t % 3]?:=by
 have:=ZZ Uj 3 (by decide) l (fun _ _=>rfl) (t / 3) (by omega) (t % 3) (by omega);rw[show t / 3 * 3+t % 3=t by omega] at this;exact this
theorem Jef (l:List ZA) (t:Nat) (h:t < l.length * 3):(zav l)[t]?=some ((flatK Uj 3 l.toArray)[t]!):=by
 rw[JmR l t h];have e1:(flatK Uj 3 l.toArray)[t]! = (Uj l.toArray[t / 3]!)[t % 3]!:=by
  rw[Nh _ t (by simp[flatK];omega)];simp[flatK]
 rw[e1,show l.toArray[t / 3]! = l[t / 3]'(by omega) by rw[Nh _ _ (by simp;omega)];simp];have h3:t % 3=0\/t % 3=1\/t % 3=2:=by omega
 rcases h3 with h3 | h3 | h3<;>rw[h3]<;>rfl
theorem JiR (l:List ZA):(zav l).length=l.length * 3:=Xw Uj 3 l (fun _ _=>rfl)
theorem Jn1 {w:World} {base G n c:Nat} {l:List ZA} (h:w.ownsRow base 129 3 (.slice (some ⟨G,0,none⟩) n c) n (zav l)) (hl:l.length=n):HoldsK Uj 3 w G 0 l.toArray:=by
 intro j hj;have hj':j < l.length * 3:=by simpa[flatK] using hj
 obtain⟨_,h | ⟨g,cap,cur,hv,_,hg,_,_,hcs,hx⟩⟩:=h
 ·exact absurd h.1 (by simp)
 ·injection hv with hv1 _ _;injection hv1 with hv1;injection hv1 with hv1;subst hv1;refine⟨?_,by simp[World.frozen?,hg]⟩;rw[EU,Nx w G j cur _ (0,0) hg];have h1:(zav l)[j]?=cur[j]?:=by
   rw[<-hx,Fx,Ei (by omega)];simp
  rw[<-h1,Jef l j hj'];rfl
theorem Jkh {w:World} {base G n c:Nat} {l:List ZA} (h:w.ownsRow base 129 3 (.slice (some ⟨G,0,none⟩) n c) n (zav l)) (d:Array ZA) (hd:d.size=n) (m:Nat) (os:Array Obj):
  (sortWorldK Uj 3 w G 0 m d os).ownsRow base 129 3 (.slice (some ⟨G,0,none⟩) n c) n (zav d.toList)/\w.grownBy (sortWorldK Uj 3 w G 0 m d os) (some G):=by
 obtain⟨hl,h | ⟨g,cap,cur,hv,hb,hg,hnc,hcm,hcs,hx⟩⟩:=h
 ·exact absurd h.1 (by simp)
 ·injection hv with hv1 _ hv3;injection hv1 with hv1;injection hv1 with hv1;subst hv1 hv3;have hlt:G < w.heap.size:=(EA.1 hg).1;have hat:(sortWorldK Uj 3 w G 0 m d os).heap[G]?=some (.cells (putCells id 0 (flatK Uj 3 d) cur) 129 (0,0)):=by
   unfold sortWorldK grow putRowK putRow mapBlock «Sort».ahead;rw[Gh (by simpa using hlt)];simp[Ns,hg,onCells]
  have hother:∀k,k < w.heap.size->k≠G->(sortWorldK Uj 3 w G 0 m d os).heap[k]?=w.heap[k]?:=fun k hk hne=>by
   unfold sortWorldK grow putRowK putRow mapBlock «Sort».ahead;rw[Gh (by simpa using hk)];simp[Ns,Ne.symm hne]
  have hfl:(flatK Uj 3 d).size=n * 3:=by simp[flatK,hd]
  have hnc':n * 3<=c * 3:=Ff _ hnc;refine⟨⟨by rw[JiR];simp[hd],.inr ⟨G,c,_,rfl,hb,hat,hnc,hcm,by simp[putCells,hcs],?_⟩⟩,⟨rfl,rfl,rfl,size_sortWorldK_c Uj 3 w G 0 m d os,fun k hk hne=>hother k hk (fun e=>hne (by rw[e]))⟩⟩;apply GX;intro t;by_cases ht:t < n * 3
  ·rw[Fx,Ei ht];have h1:=Jef d.toList t (by simp[hd];exact ht);rw[h1];have hc:t < cur.size:=by omega
   simp only[putCells,Array.toList_mapIdx,List.getElem?_mapIdx,Nr,Array.getElem?_eq_getElem hc,Option.map_some,hfl];rw[Ei ⟨FB _,by omega⟩];simp
  ·rw[Fx,Ef ht,Fy (by rw[JiR];simp[hd];omega)]
def JmG (x y:ZA):Int:=x.1.2.1.1 - y.1.2.1.1
theorem Je4 (x y:ZA) (W:World):Calls prog 212 #[.agg (Uj x).toArray,.agg (Uj y).toArray] W fun e w'=>e=.returned (.int .i64 (JmG x y))/\∃q os',w'=grow (W.drewN q) os':=by
 obtain⟨⟨⟨A,n,c⟩,⟨lo,hi⟩,u⟩,h1,h2⟩:=x;obtain⟨⟨⟨D,m,d⟩,⟨lo2,hi2⟩,u2⟩,h3,h4⟩:=y;dsimp only at h1 h2 h3 h4;have hw:IntKind.i64.wrap (lo - lo2)=lo - lo2:=EJ _ (by omega);show Calls _ _ #[.agg #[.int .i64 lo,.int .i64 hi,.slice A n c],.agg #[.int .i64 lo2,.int .i64 hi2,.slice D m d]] W _;go_enter func212,ntmps212;go_wp2;go_ret;exact⟨rfl,0,_,by rw[alloc_eq_grow,alloc_eq_grow,grow_grow];rfl⟩
theorem ltZ (x y:ZA):ltOf JmG x y=decide (x.1.2.1.1 < y.1.2.1.1):=by
 unfold ltOf JmG;by_cases h1:x.1.2.1.1 < y.1.2.1.1
 ·simp[h1];omega
 ·simp[h1];omega
theorem JpR:SWO (ltOf JmG) where
 irrefl x:=by rw[ltZ];simp
 trans x y z h1 h2:=by rw[ltZ] at *;simp at *;omega
 ntrans x y z h1 h2:=by rw[ltZ] at *;simp at *;omega
theorem Jlw:∀w,(isAgg 129).run prog w=.ok true w:=fun _=>by kernel_rfl
theorem Jj4:∀w,(Go.sizeOf 129).run prog w=.ok 3 w:=fun _=>by kernel_rfl
theorem JlQ (x:ZA):∀v∈Uj x,v.oneCell'=true:=JL x.1
theorem JhT (base G n c:Nat) (l:List ZA) (w:World) (ho:w.ownsRow base 129 3 (.slice (some ⟨G,0,none⟩) n c) n (zav l)) (hl:l.length=n) (hn:n < 4611686018427387904):
  Calls prog 211 #[.slice (some ⟨G,0,none⟩) n c,.func (.func 212) #[] #[]] w fun e w'=>e=.returned (.tuple #[]) /\
   ∃l',List.Perm l l'/\(l'.Pairwise fun x y=>x.1.2.1.1<=y.1.2.1.1)/\w'.ownsRow base 129 3 (.slice (some ⟨G,0,none⟩) n c) n (zav l')/\w.grownBy w' (some G):=by
 have eg:∀args w,(callFunc 212 args).run prog w=.ok (.enter 212 args) w:=NU func212 (by kernel_rfl) rfl;have hsz:l.toArray.size=n:=by simpa using hl
 have hG:G < w.heap.size:=(ho.lt G rfl).2;have hcon:=AnyQ.slices_SortFunc Jlj 3 Jlw Jj4 Uj (fun _=>rfl) JlQ JmG JpR 212 #[] G 0 c l.toArray w eg (fun _ _ _ _ x y=>Je4 x y _) (Jn1 ho hl) hG (by omega);rw[hsz] at hcon;refine hcon.mono fun e w' ⟨he,d',m,os,hp,hs,hw⟩=>⟨he,d'.toList,?_,?_,?_⟩
 ·obtain⟨h1,_,h3⟩:=hp;have e1:(d'.extract 0 n).toList=d'.toList:=by rw[<-hsz,<-h1];simp
  have e2:(l.toArray.extract 0 n).toList=l:=by rw[<-hsz];simp
  rw[e1,e2] at h3;exact h3.symm
 ·refine Gm.2 fun i j hi hj hij=>?_;have h1:d'.size=n:=by rw[hp.1,hsz]
  have hj':j < d'.size:=by simpa using hj
  have:=hs i j (FB _) hij (by omega);rw[ltZ,Nh d' j hj',Nh d' i (by omega)] at this;simp at this;simpa using this
 ·rw[hw];exact Jkh ho d' (by rw[hp.1,hsz]) m os
theorem JjU (base G n c:Nat) (L:List (ZV×Zn)) (hb:∀p∈L,0<=p.2.1.1/\p.2.1.1<=255) (w:World) (ho:Qk w base (some ⟨G,0,none⟩) n c L) (hn:n < 4611686018427387904):
  Calls prog 211 #[.slice (some ⟨G,0,none⟩) n c,.func (.func 212) #[] #[]] w fun e w'=>e=.returned (.tuple #[]) /\
   ∃L',List.Perm L L'/\(L'.Pairwise fun x y=>x.2.1.1<=y.2.1.1)/\Qk w' base (some ⟨G,0,none⟩) n c L'/\w.grownBy w' (some G):=by
 obtain⟨l,hl⟩:∃l:List ZA,l.map (·.1)=L:=⟨L.pmap (fun p h=>⟨p,h⟩) hb,by rw[List.map_pmap];simp⟩;have he:∀k:List ZA,zav k=zvv (k.map (·.1)):=fun k=>by unfold zav zvv;rw[List.flatMap_map];rfl
 subst hl;have hr:=ho.row;rw[<-he] at hr;have hlen:=ho.len;rw[Gl] at hlen;refine(JhT base G n c l w hr hlen hn).mono fun e w' ⟨h1,l',h2,h3,h4,h5⟩=>⟨h1,l'.map (·.1),h2.map _,?_,⟨by rw[<-he];exact h4,fun p hp=>?_⟩,h5⟩
 ·rw[List.pairwise_map];exact h3
 ·have hp':p∈l.map (·.1):=(h2.map (·.1)).mem_iff.2 hp;obtain⟨a1,a2⟩:=ho.el p hp';exact⟨a1,a2.kept h5 (Qb a2 hr (by decide))⟩
theorem Jf9 (f:Value) (w:World):Calls prog 230 #[.slice none 0 0,.int .i64 0,.int .i64 0,f] w fun e w'=>e=.returned (.tuple #[])/\w=w':=by
 go_enter func230,ntmps230;go_wp2;go_loop [8] (fun v8=>v8=.int .i64 1) (fun _=>0)
 case atStart=>exact rfl
 case round=>
  obtain rfl:=hrel;go_wp2;go_end0;exact⟨rfl,rfl⟩
theorem Jgx (f:Value) (w:World):Calls prog 226 #[.slice none 0 0,.int .i64 0,.int .i64 0,.int .i64 0,f] w fun e w'=>e=.returned (.tuple #[])/\w=w':=by
 go_enter func226,ntmps226;go_wp2;go_loop [1,2,3,10] (fun v1 v2 v3 v10=>v1=.int .i64 0/\v2=.int .i64 0/\v3=.int .i64 0/\v10=.bool true) (fun _ _ _ _=>0)
 case atStart=>exact⟨rfl,rfl,rfl,rfl⟩
 case round=>
  obtain⟨rfl,rfl,rfl,rfl⟩:=hrel;go_wp2_with (go_at_call 230;go_must (refine(Jf9 _ _).mono ?_);rintro e w' ⟨rfl,rfl⟩);refine EF (Nd rfl _ _ _) rfl ?_;exact⟨rfl,rfl⟩
theorem Jfp (f:Value) (w:World):Calls prog 211 #[.slice none 0 0,f] w fun e w'=>e=.returned (.tuple #[])/\w=w':=by
 have hl:∀W,Calls prog 227 #[.int .u64 0] W fun e w'=>e=.returned (.int .i64 0)/\W=w':=fun W=>
  (Any.bits_Len (SlLaysF0.n15.bits (P:=prog) (ρ:=Jc7) { Jlj with }) 0 W (by omega) (by omega)).mono fun _ _ ⟨he,hw⟩=>⟨he,hw.symm⟩
 go_enter func211,ntmps211;go_wp2_with (first
  | (go_at_call 227;go_must (refine(hl _).mono ?_);rintro e w' ⟨rfl,rfl⟩)
  | (go_at_call 226;go_must (refine(Jgx _ _).mono ?_);rintro e w' ⟨rfl,rfl⟩))
 go_end0;exact⟨rfl,rfl⟩
theorem Jhj (l:List Zn) (y x:Zn):Yy (l++[y]) x=if y.1.2+1=x.1.1/\y.2=x.2 then l++[((y.1.1,x.1.2),x.2)] else l++[y]++[x]:=by
 unfold Yy;rw[NB];simp
theorem Yv (u:List (ZV×Zn)) (v:ZV) (lo hi h2:Int) (x:List Vc.St):(zvv (u++[(v,(lo,hi),x)])).set (u.length * 3+1) (.int .i64 h2)=zvv (u++[(v,(lo,h2),x)]):=by
 rw[Jcd,Jcd,List.set_append,Ef (by rw[Jb7];omega),Jb7];rw[show u.length * 3+1 - u.length * 3=1 by omega];rfl
structure JoI (w1:World) (A:OA) (k c:Nat) (Z:List Zn) (M:List (ZV×Zn)) (W:World):Prop where
 row:W.ownsRow w1.heap.size 129 3 (.slice A k c) k (zvv M)
 el:∀p∈M,p.2.2.length=p.1.n/\Rd w1 w1.heap.size 2 p.1.A p.1.n p.1.c (sv p.2.2)
 hi:∀p∈M,-1<=p.2.1.2/\p.2.1.2<=255
 z:Jv M=Z
theorem JoI.len {w1 W:World} {A:OA} {k c:Nat} {Z:List Zn} {M:List (ZV×Zn)} (h:JoI w1 A k c Z M W):M.length=k:=by
 have:=h.row.1;rw[Jb7] at this;omega
theorem JhG (base n c:Nat) (A:OA) (L:List (ZV×Zn)) (w:World) (hL:Qk w base A n c L) (hb:∀p∈L,(0<=p.2.1.1/\p.2.1.1<=255)/\(-1<=p.2.1.2/\p.2.1.2<=255)) (hn:n<=3518437208883) (hbase:base<=w.heap.size):
  Calls prog 188 #[.slice A n c] w fun e w'=>∃A' k' c' M,e=.returned (.slice A' k' c')/\Zc w' w'.heap.size A' k' c' M/\(∃m,(Jv L).Perm m/\(m.Pairwise fun a b=>a.1.1<=b.1.1)/\Jv M=YM m)/\Below base w w'/\KeepsFrom 0 w w':=by
 have hs:Calls prog 211 #[.slice A n c,.func (.func 212) #[] #[]] w fun e w'=>e=.returned (.tuple #[])/\Below base w w'/\KeepsFrom 0 w w'/\∃L',List.Perm L L'/\(L'.Pairwise fun x y=>x.2.1.1<=y.2.1.1)/\Qk w' base A n c L':=by
  obtain⟨A',c',hv,h1,h2⟩:=Xi hL.row;injection hv with hv1 _ hv3;subst hv1 hv3;rcases A with _ | a
  ·obtain⟨rfl,rfl⟩:=h1 rfl;refine(Jfp _ w).mono fun e w' ⟨he,hw⟩=>?_;subst hw;obtain rfl:L=[]:=Ey hL.len;exact⟨he,Ec _ _,KeepsFrom.refl _ _,[],List.Perm.refl _,List.Pairwise.nil,hL⟩
  ·obtain⟨g,rfl,hg,hg2⟩:=h2 a rfl;refine(JjU base g n c L (fun p hp=>(hb p hp).1) w hL (by omega)).mono fun e w' ⟨he,L',p1,p2,p3,p4⟩=>?_;have hcl:∃cur,w.heap[g]?=some (.cells cur 129 (0,0)):=by
    rcases hL.row.2 with h | ⟨g2,cap,cur,hv2,_,hgb,_⟩
    ·exact absurd h.1 (by simp)
    ·injection hv2 with e1 _ _;injection e1 with e1;injection e1 with e1;subst e1;exact⟨cur,hgb⟩
   obtain⟨cur,hcl⟩:=hcl;exact⟨he,Jb p4 (by omega) (fun k hk=>by cases hk;exact hg),(KeepsOthers.of_grownBy p4 (fun j o ej hj=>by cases ej;rw[hcl] at hj;cases hj;rfl)).from _,L',p1,p2,p3⟩
 obtain⟨i0,hi0,hz0,hz1,hz2⟩:=EN Kr;have h1max:1<=maxLen:=by unfold maxLen;omega
 have HS:=Ja hs;have HB:=Ja hb;clear hs hL hb;go_enter func188,ntmps188;go_wp2_with fail;refine HS.out.mono ?_;rintro e w1 ⟨rfl,hb1,hkf,L',hp,hr,hL1⟩;have HKF:=Ja hkf;have HP:=Ja hp;have HRI:=Ja hr;have HB1:=Ja hb1;have HL1:=Ja hL1;have HLN:=Ja hL1.len;have HBL:=Ja fun p (h:p∈L')=>HB.out p (hp.mem_iff.2 h);clear hp hr hb1 hL1 hkf HS HB;go_wp2;go_loopw [3,11] (fun v3 v11 wr=>∃(i k c':Nat) (A':OA),v11=.int .i64 i/\v3=.slice A' k c'/\i<=n/\k<=i/\Bz w1 wr/\Hid (∃M,JoI w1 A' k c' (((Jv L').take i).foldl Yy []) M wr)) (fun _ v11 _=>n - (intOf v11).toNat)
 case atStart=>exact⟨0,0,0,none,rfl,rfl,by omega,by omega,Ec _ _,[],⟨ED _ _ _ _,(fun p hp=>by cases hp),(fun p hp=>by cases hp),rfl⟩⟩
 case round=>
  obtain⟨i,k,c',A',rfl,rfl,hi,hki,hb,hq⟩:=hrel;obtain⟨M,hM⟩:=hq.out;have hbs:=hb.size;by_cases hlt:i < n
  ·have hkL:i < L'.length:=by rw[HLN.out];exact hlt
   have hkZ:i < (Jv L').length:=by rw[JH];exact hkL
   obtain⟨b,oo,rfl,hab,g0,g1,g2⟩:=(HL1.out.rd.below hb).zone hkL;obtain⟨hvl,hRv⟩:=HL1.out.rd.each _ (En hkL);have hxb:=HBL.out _ (En hkL);have hnx:((Jv L').take (i+1)).foldl Yy []=Yy (((Jv L').take i).foldl Yy []) L'[i].2:=by rw[Eq hkZ,XE L' i hkL,FM];rfl
   generalize L'[i]=x at g0 g1 g2 hvl hRv hxb hnx;obtain⟨⟨Av,nv,cv⟩,⟨lo,hi'⟩,u⟩:=x;dsimp only at g0 g1 g2 hvl hRv hxb hnx;rw[<-hM.z] at hnx;have hml:=hM.len;have hwb:=(Ec wr.heap.size wr).alloc Zl (.cells #[.int .i64 lo,.int .i64 hi',.slice Av nv cv] 129);have hX:=Jm.new wr 129 #[.int .i64 lo,.int .i64 hi',.slice Av nv cv];have hrow:=Jf hM.row hwb Zl;have hb2:=Jg hb hwb;obtain⟨W,hW⟩:∃W,W=wr.alloc (.cells #[.int .i64 lo,.int .i64 hi',.slice Av nv cv] 129):=⟨_,rfl⟩;have hsW:W.heap.size=wr.heap.size+1:=by rw[hW];simp
   rw[<-hW] at hX hrow hb2;have HW:=Ja hW.symm;have HSW:=Ja hsW;have HX:=Ja hX;have HB2:=Ja hb2;have HEL:=Ja hM.el;have HHI:=Ja hM.hi;have HXE:=Ja (And.intro hvl hRv);have h63:k+1<=maxLen:=by unfold maxLen;omega
   have HHB:=Ja hxb;clear hvl hRv hX hwb hW hb2 hab hkL hkZ hq hb hsW;have APP:=Ja fun (V:World) (q:Nat) (hV:V=W.drewN q) (hj:Jv (M++[((⟨Av,nv,cv⟩:ZV),(lo,hi'),u)])=((Jv L').take (i+1)).foldl Yy []) (A3:OA) (c3:Nat) (W3:World) (ho:W3.ownsRow w1.heap.size 129 3 (.slice A3 (k+1) c3) (k+1) (zvv M++zvl (⟨Av,nv,cv⟩,(lo,hi'),u)))=>
    (show JoI w1 A3 (k+1) c3 (((Jv L').take (i+1)).foldl Yy []) (M++[((⟨Av,nv,cv⟩:ZV),(lo,hi'),u)]) W3 from
    ⟨by rw[Jcd];simpa[zvv] using ho,fun p hp=>by
     rcases EB.1 hp with hp | hp
     ·exact HEL.out p hp
     ·rw[Ez] at hp;subst hp;exact HXE.out,fun p hp=>by
     rcases EB.1 hp with hp | hp
     ·exact HHI.out p hp
     ·rw[Ez] at hp;subst hp;exact HHB.out.2,hj⟩)
   rcases FT M with hMn | ⟨M0,y,hMy⟩
   ·have hk0:k=0:=by rw[<-hml,hMn];rfl
    have HJ:=Ja (show Jv (M++[((⟨Av,nv,cv⟩:ZV),(lo,hi'),u)])=((Jv L').take (i+1)).foldl Yy [] by rw[hnx,hMn];rfl);have dk:decide (0 < k)=false:=by simp;omega
    have HROW:=Ja hrow;clear hnx hMn hk0 hM hml hrow;go_wp2_with fail;rw[HW.out];obtain⟨x0,x1,x2⟩:=HX.out.three;go_wp2_with fail;go_quiet (fail);go_wp2_with (at_builtin;go_must (refine Jh _ rfl (.tmp 53) (.tmp 55) _ rfl w1.heap.size 129 i0 _ 3 40 underlying32 hi0 hz0 hz1 hz2 rfl (by decide) (.slice A' k c') k _ rfl (HROW.out.alloc _) _ (some ⟨_,0,none⟩) 1 1 [.int .i64 lo,.int .i64 hi',.slice Av nv cv] rfl (Rd.new _ 129 3 1 #[.int .i64 lo,.int .i64 hi',.slice Av nv cv] rfl h1max) (JL (⟨Av,nv,cv⟩,(lo,hi'),u)) h63 (by omega) (by have:=HB2.out.size;simp;omega) ?_);intro A3 c3 W3 ho3 hg3 hat3);go_roundw
    case rel=>exact⟨i+1,k+1,c3,A3,by go_num,rfl,by omega,by omega,((Jr HB2.out _).alloc (by exact HB2.out.size) _).trans (Jb hg3 (by have:=HB2.out.size;simp;omega) (fun g hg=>JM HROW.out g hg)),_,APP.out _ 0 rfl HJ.out A3 c3 W3 ho3⟩
    case measure=>simp[intOf];omega
   ·rw[FU] at hMy;subst hMy;obtain⟨j,rfl⟩:∃j,k=j+1:=⟨k - 1,by rw[<-hml,Eb,List.length_singleton];omega⟩;have hM0:M0.length=j:=by rw[Eb,List.length_singleton] at hml;omega
    obtain⟨⟨Ay,ny,cy⟩,⟨ylo,yhi⟩,yu⟩:=y;rw[JA,show Jv [((⟨Ay,ny,cy⟩:ZV),(ylo,yhi),yu)]=[((ylo,yhi),yu)] from rfl,Jhj] at hnx;dsimp only at hnx;obtain⟨A9,c9,hv9,_,hf9⟩:=Xi hrow;injection hv9 with hv1 _ hv3;subst hv1 hv3;have hrz:Zc W W.heap.size A' (j+1) c' (M0++[((⟨Ay,ny,cy⟩:ZV),(ylo,yhi),yu)]):=⟨hml,Rd.of_own hrow,fun p hp=>⟨(HEL.out p hp).1,(HEL.out p hp).2.go HB2.out⟩⟩;obtain⟨g',o',hA',hgl,p0,p1,p2⟩:=hrz.zone (k:=j) (by rw[hml];omega);have hgj:(M0++[((⟨Ay,ny,cy⟩:ZV),(ylo,yhi),yu)])[j]'(by rw[hml];omega)=(⟨Ay,ny,cy⟩,(ylo,yhi),yu):=by
     rw[FO (by omega)];simp[hM0]
    rw[hgj] at p0 p1 p2;dsimp only at p0 p1 p2;obtain⟨g,hga,hg1,_⟩:=hf9 _ hA';injection hga with h1 h2;subst h1 h2;subst hA';have hyE:=HEL.out (⟨Ay,ny,cy⟩,(ylo,yhi),yu) (by simp);have hyH:=HHI.out (⟨Ay,ny,cy⟩,(ylo,yhi),yu) (by simp);dsimp only at hyE hyH;have EQ:=fun m=>Jem Ay Av ny cy nv cv yu u (W.drewN m) hyE.1 HXE.out.1 ((hyE.2.go HB2.out).drewN m) ((HXE.out.2.go HB2.out).drewN m);obtain⟨oc1,oc2,oc3⟩:=Zx hrow (j:=j * 3+1) (by omega) (.int .i64 hi');rw[<-hM0,Yv,hM0] at oc1;simp only[EU] at p0 p1 p2;have HROW:=Ja hrow;have HM0:=Ja hM0;have HOC:=Ja (And.intro oc1 (And.intro oc2 oc3));have e8:IntKind.i64.wrap (j:Int)=(j:Int):=EJ _ (by omega);have e9:(((j+1:Nat):Int) - 1)=(j:Int):=by omega
    have e10:IntKind.i64.wrap (((j+1:Nat):Int) - 1)=(j:Int):=by rw[e9];exact e8
    have hin:(0:Int)<=(j:Int)/\(j:Int) < ((j+1:Nat):Int):=by omega
    have wy:IntKind.i64.wrap (yhi+1)=yhi+1:=EJ _ (by omega);have dk:decide (0 < j+1)=true:=by simp
    have HG1:=Ja hg1;clear hrow hrz hgj hf9 hg1 hM0 hM hml oc1 oc2 hyE;by_cases c4:yhi+1=lo
    ·by_cases c5:yu=u
     ·rw[Ei ⟨c4,c5⟩] at hnx;have HNX:=Ja hnx;subst c4;have HC5:=Ja c5;have JEL:=Ja (show ∀p∈M0++[((⟨Ay,ny,cy⟩:ZV),(ylo,hi'),yu)],p.2.2.length=p.1.n/\Rd w1 w1.heap.size 2 p.1.A p.1.n p.1.c (sv p.2.2) from fun p hp=>by
       rcases EB.1 hp with hp | hp
       ·exact HEL.out p (Fc _ hp)
       ·rw[Ez] at hp;subst hp;exact HEL.out (⟨Ay,ny,cy⟩,(ylo,yhi),yu) (by simp))
      have JHI:=Ja (show ∀p∈M0++[((⟨Ay,ny,cy⟩:ZV),(ylo,hi'),yu)],-1<=p.2.1.2/\p.2.1.2<=255 from fun p hp=>by
       rcases EB.1 hp with hp | hp
       ·exact HHI.out p (Fc _ hp)
       ·rw[Ez] at hp;subst hp;exact HHB.out.2)
      simp only[Eu c5] at EQ;have EQ:=Ja EQ;clear hnx c5;go_wp2_with fail;rw[HW.out];obtain⟨x0,x1,x2⟩:=HX.out.three;go_wp2_with fail;go_quiet ((go_at_call 160;exact GG (EQ.out _)));clear EQ;go_wp2;go_roundw
      case rel=>exact⟨i+1,j+1,c',some ⟨g',0,none⟩,by go_num,rfl,by omega,by omega,(Jr HB2.out _).setCell (p:=⟨g',j * 3+1,none⟩) HG1.out _,M0++[((⟨Ay,ny,cy⟩:ZV),(ylo,hi'),yu)],⟨HOC.out.1,JEL.out,JHI.out,by rw[HNX.out,JA,HC5.out];rfl⟩⟩
      case measure=>simp[intOf];omega
     ·rw[Ef (fun h=>c5 h.2)] at hnx;have HJ:=Ja (show Jv ((M0++[((⟨Ay,ny,cy⟩:ZV),(ylo,yhi),yu)])++[((⟨Av,nv,cv⟩:ZV),(lo,hi'),u)])=((Jv L').take (i+1)).foldl Yy [] by rw[hnx,JA,JA];rfl);simp only[Ew c5] at EQ;have EQ:=Ja EQ;subst c4;clear hnx c5;go_wp2_with fail;rw[HW.out];obtain⟨x0,x1,x2⟩:=HX.out.three;go_wp2_with fail;go_quiet ((go_at_call 160;exact GG (EQ.out _)));clear EQ;go_wp2_with (at_builtin;go_must (refine Jh _ rfl (.tmp 53) (.tmp 55) _ rfl w1.heap.size 129 i0 _ 3 40 underlying32 hi0 hz0 hz1 hz2 rfl (by decide) (.slice (some ⟨g',0,none⟩) (j+1) c') (j+1) _ rfl (HROW.out.alloc _) _ (some ⟨_,0,none⟩) 1 1 [.int .i64 (yhi+1),.int .i64 hi',.slice Av nv cv] rfl (Rd.new _ 129 3 1 #[.int .i64 (yhi+1),.int .i64 hi',.slice Av nv cv] rfl h1max) (JL (⟨Av,nv,cv⟩,(yhi+1,hi'),u)) h63 (by omega) (by have:=HB2.out.size;simp;omega) ?_);intro A3 c3 W3 ho3 hg3 hat3);go_roundw
      case rel=>exact⟨i+1,j+1+1,c3,A3,by go_num,rfl,by omega,by omega,((Jr HB2.out _).alloc (by exact HB2.out.size) _).trans (Jb hg3 (by have:=HB2.out.size;simp;omega) (fun g hg=>JM HROW.out g hg)),_,APP.out _ 0 rfl HJ.out A3 c3 W3 ho3⟩
      case measure=>simp[intOf];omega
    ·rw[Ef (fun h=>c4 h.1)] at hnx;have HJ:=Ja (show Jv ((M0++[((⟨Ay,ny,cy⟩:ZV),(ylo,yhi),yu)])++[((⟨Av,nv,cv⟩:ZV),(lo,hi'),u)])=((Jv L').take (i+1)).foldl Yy [] by rw[hnx,JA,JA];rfl);have d4:(yhi+1 == lo)=false:=by simpa using c4
     clear hnx c4 EQ;go_wp2_with fail;rw[HW.out];obtain⟨x0,x1,x2⟩:=HX.out.three;go_wp2_with fail;go_quiet (fail);go_wp2_with (at_builtin;go_must (refine Jh _ rfl (.tmp 53) (.tmp 55) _ rfl w1.heap.size 129 i0 _ 3 40 underlying32 hi0 hz0 hz1 hz2 rfl (by decide) (.slice (some ⟨g',0,none⟩) (j+1) c') (j+1) _ rfl (HROW.out.alloc _) _ (some ⟨_,0,none⟩) 1 1 [.int .i64 lo,.int .i64 hi',.slice Av nv cv] rfl (Rd.new _ 129 3 1 #[.int .i64 lo,.int .i64 hi',.slice Av nv cv] rfl h1max) (JL (⟨Av,nv,cv⟩,(lo,hi'),u)) h63 (by omega) (by have:=HB2.out.size;simp;omega) ?_);intro A3 c3 W3 ho3 hg3 hat3);go_roundw
     case rel=>exact⟨i+1,j+1+1,c3,A3,by go_num,rfl,by omega,by omega,((Jr HB2.out _).alloc (by exact HB2.out.size) _).trans (Jb hg3 (by have:=HB2.out.size;simp;omega) (fun g hg=>JM HROW.out g hg)),_,APP.out _ 0 rfl HJ.out A3 c3 W3 ho3⟩
     case measure=>simp[intOf];omega
  ·obtain rfl:i=n:=by omega
   have HZ:=Ja (show Jv M=YM (Jv L') by rw[hM.z,Eo (by rw[JH,HLN.out];exact Ek _)];rfl);have HRZ:=Ja (show Zc wr wr.heap.size A' k c' M from ⟨hM.len,Rd.of_own hM.row,fun p hp=>⟨(hM.el p hp).1,(hM.el p hp).2.go hb⟩⟩);clear hq hM;go_wp2;go_ret;exact⟨A',k,c',M,rfl,HRZ.out,⟨Jv L',HP.out.map _,by unfold Jv;rw[List.pairwise_map];exact HRI.out,HZ.out⟩,HB1.out.trans (hb.mono (by have:=HB1.out.size;omega)),HKF.out.trans (QC hb)⟩
theorem JgO {n:Nat} {P:Program} {row:String} {args:Array Value} {w:World} {R:Value->World->Prop} (h:Rows P row args w R):RowsIn Fence.wide n P row args w R:=by
 intro c cs hr;obtain⟨v,w',h1,h2⟩:=h c cs;exact⟨v,w',h1,stepsIn_wide.2 h2⟩
theorem Jls {K:Act->World->Prop} (h:LetsOut (QQ K)):False:=by
 obtain⟨a,w,h⟩:=h;exact h
theorem Jia {n l:Nat} {P:Program} {o:Oper} {a:Act} {w:World} {K N:Act->World->Prop} (hd:∀c,o.op≠.defer c) (h:o.wp P a w N (QQ K)):o.wpIn (Fence.wide.inRound l) n P a w N (QQ K):=by
 refine⟨fun f _=>trivial,?_⟩;rw[Oper.semAt_eq _ _ _ hd];unfold Oper.wp at h;generalize (execOp a.eval o).run P w=r at *
 cases r with
 | ok x w'=>
  cases x with
  | enter f args=>exact⟨fun hh=>by simp[Fence.wide,Fence.inRound] at hh,CallsIn.inRound l (Ex.2 h)⟩
  | row row args=>exact⟨fun hh=>by simp[Fence.wide,Fence.inRound] at hh,JgO h⟩
  | _=>first | exact h | exact False.elim h
 | halt x w'=>cases x<;>first | exact h | exact False.elim h
theorem Jd2 {n l:Nat} {P:Program} {ops:Array Oper} {K:Act->World->Prop} {md:Region.Mode} (hd:ops.all (fun o=>match o.op with | .defer _=>false | _=>true)=true):
  ∀(fuel:Nat) (listed:Array Bool) (a:Act) (w:World),wpAny P md ops (QQ K) fuel listed a w->wpAnyIn (Fence.wide.inRound l) n P md ops (QQ K) fuel listed a w
 | 0,_,_,_,h=>h
 | fuel+1,listed,a,w,h=>by
  refine⟨h.1,fun i hi=>?_⟩;have h2:=wpOp_mono (fun a w=>Jd2 (n:=n) (l:=l) hd fuel (listed.setIfInBounds i true) a w) (h.2 i hi);unfold wpOp at h2;unfold wpOpIn;split
  ·rename_i e;rw[e] at h2;exact h2
  ·rename_i o e;rw[e] at h2;simp only at h2 ⊢;have hdo:∀c,o.op≠.defer c:=fun c hc=>by
    have:=NP.1 hd o (Array.mem_of_getElem? e);rw[hc] at this;cases this
   split
   ·rename_i hw;rw[Ei hw] at h2;rcases h2 with h2 | ⟨_,h2⟩
    ·exact Jia hdo h2
    ·exact(Jls h2).elim
   ·rename_i hw;rw[Ef hw] at h2;exact⟨fun f _=>trivial,h2⟩
theorem JaZ {n l:Nat} {P:Program} {id:Nat} {ops:Array Oper} {Q:Exit->Act->World->Prop} {a:Act} {w:World} {S:World->Prop} (hm:P.follows .mixedOrders=true) (hd:ops.all (fun o=>match o.op with | .defer _=>false | _=>true)=true)
  (hS:S w.drew) (h:∀K:Act->World->Prop,(∀a w,Q .normal a w->K a w)->S w.drew->wpAnyH P .any ops (QQ K) S ops.size (Array.replicate ops.size false) a w.drew):(Code.region id ops true).wpIn (Fence.wide.inRound l) n P Q a w:=by
 refine wpIn_mono (Q:=QQ fun a w=>Q .normal a w) (wpIn_region_any hm (Jd2 hd _ _ _ _ (wpAny_of_held _ _ _ _ (h (fun a w=>Q .normal a w) (fun _ _ hh=>hh) hS)))) fun e a w hh=>?_
 cases e with
 | normal=>exact hh
 | _=>exact False.elim hh
theorem Jm.four4 {W:World} {g:Nat} {t:TypeId} {a b c d:Value} (h:Jm W g t #[a,b,c,d]):W.cell? ⟨g,0,none⟩=some a/\W.cell? ⟨g,1,none⟩=some b/\W.cell? ⟨g,2,none⟩=some c/\W.cell? ⟨g,3,none⟩=some d:=
 ⟨h.cell 0,h.cell 1,h.cell 2,h.cell 3⟩
end
end Go.Proofs.YtmbeahbgafkjfaaGreatDoor
