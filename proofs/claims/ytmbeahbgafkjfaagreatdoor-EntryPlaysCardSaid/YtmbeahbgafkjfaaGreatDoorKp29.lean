/- Lemmas, layer 29. -/
import Derived.Test.YtmbeahbgafkjfaaGreatDoorKp28
set_option maxRecDepth 100000
set_option linter.unusedSimpArgs false
set_option maxHeartbeats 16000000
namespace Go.Proofs.YtmbeahbgafkjfaaGreatDoor
open Go.Proofs.Tryz Go.RowKit
theorem JgF (A:OA) (n c:Nat) (xs:List Value) (w:World) (hR:Rd w w.heap.size 4 A n c xs) (h1:∀u∈xs,u.oneCell'=true) (hn:n<=2932031007402):
  Calls prog 195 #[.slice A n c] w fun e w'=>∃A' c',e=.returned (.slice A' n c')/\w'.ownsRow w.heap.size 31 4 (.slice A' n c') n xs/\Bz w w':=by
 have hmax:=hR.max;have hcap:=hR.cap;rcases A with _ | ad
 ·have hc0:=hR.nil rfl;obtain rfl:n=0:=by omega
  subst hc0;have hx:xs=[]:=Ey (by simpa using hR.len);subst hx;have ht:=fun W=>Fh (P:=prog) W 33 31 none 0 0 0 0 underlying33;clear hR h1;go_enter func195,ntmps195;go_wp2;go_ret;exact⟨none,0,rfl,ED _ _ _ _,Ec _ _⟩
 ·have ht:=fun W=>Fh (P:=prog) W 33 31 (some ad) n c 0 0 underlying33;obtain⟨i0,hi0,hz0,hz1,hz2⟩:=EN Ye;have h63:0+n<=maxLen:=by omega
  go_enter func195,ntmps195;go_wp2_with (at_builtin;go_must (refine Jh _ rfl (.tmp 5) (.tmp 6) _ rfl w.heap.size 31 i0 _ 4 48 underlying33 hi0 hz0 hz1 hz2 rfl (by decide) (.slice (some ⟨w.heap.size,0,none⟩) 0 0) 0 [] rfl (QT w _ _) w.heap.size (some ad) n c xs rfl (hR.alloc Zl _) h1 h63 (by omega) (by simp) ?_);intro A' c' w1 hown hg hat);go_ret;exact⟨A',c',rfl,by simpa using hown,(Zr.alloc Zl _).trans (Jb hg (by simp) (by simp[Value.ownBlock]))⟩
theorem JfY (A:OA) (n c:Nat) (xs:List Value) (w:World) (hR:Rd w w.heap.size 7 A n c xs) (h1:∀u∈xs,u.oneCell'=true) (hn:n<=2513169434916):
  Calls prog 137 #[.slice A n c] w fun e w'=>∃A' c',e=.returned (.slice A' n c')/\w'.ownsRow w.heap.size 65 7 (.slice A' n c') n xs/\Bz w w':=by
 have hmax:=hR.max;have hcap:=hR.cap;rcases A with _ | ad
 ·have hc0:=hR.nil rfl;obtain rfl:n=0:=by omega
  subst hc0;have hx:xs=[]:=Ey (by simpa using hR.len);subst hx;have ht:=fun W=>Fh (P:=prog) W 36 65 none 0 0 0 0 underlying36;clear hR h1;go_enter func137,ntmps137;go_wp2;go_ret;exact⟨none,0,rfl,ED _ _ _ _,Ec _ _⟩
 ·have ht:=fun W=>Fh (P:=prog) W 36 65 (some ad) n c 0 0 underlying36;obtain⟨i0,hi0,hz0,hz1,hz2⟩:=EN Yk;have h63:0+n<=maxLen:=by omega
  go_enter func137,ntmps137;go_wp2_with (at_builtin;go_must (refine Jh _ rfl (.tmp 5) (.tmp 6) _ rfl w.heap.size 65 i0 _ 7 56 underlying36 hi0 hz0 hz1 hz2 rfl (by decide) (.slice (some ⟨w.heap.size,0,none⟩) 0 0) 0 [] rfl (QT w _ _) w.heap.size (some ad) n c xs rfl (hR.alloc Zl _) h1 h63 (by omega) (by simp) ?_);intro A' c' w1 hown hg hat);go_ret;exact⟨A',c',rfl,by simpa using hown,(Zr.alloc Zl _).trans (Jb hg (by simp) (by simp[Value.ownBlock]))⟩
theorem OT (x:Wq.Bd) (A:OA) (c:Nat) (w:World) (hR:Rd w w.heap.size 1 A x.v.length c (bv x.v)) (hz:x.v.length<=140737488355328):
  Calls prog 194 #[.agg (JO x A c)] w fun e w'=>∃A' c',e=.returned (.agg (JO x A' c'))/\w'.ownsRow w.heap.size 5 1 (.slice A' x.v.length c') x.v.length (bv x.v)/\Bz w w':=by
 obtain⟨o_,⟨a_,b_⟩,xv⟩:=x;dsimp only at hR hz;unfold JO;dsimp only;have h1:Bz w (w.alloc (.cells #[.int .i64 o_,.int .i64 a_,.int .i64 b_,.slice A xv.length c] 31)):=Zr.alloc Zl _;have h2:Bz w ((w.alloc (.cells #[.int .i64 o_,.int .i64 a_,.int .i64 b_,.slice A xv.length c] 31)).alloc (.cells #[.int .i64 0,.int .i64 0,.int .i64 0,.slice none 0 0] 31)):=h1.alloc (by simp) _;have b1:=(Jm.new w 31 #[.int .i64 o_,.int .i64 a_,.int .i64 b_,.slice A xv.length c]).alloc (.cells #[.int .i64 0,.int .i64 0,.int .i64 0,.slice none 0 0] 31);have b2:=Jm.new (w.alloc (.cells #[.int .i64 o_,.int .i64 a_,.int .i64 b_,.slice A xv.length c] 31)) 31 #[.int .i64 0,.int .i64 0,.int .i64 0,.slice none 0 0];rw[El] at b2;obtain⟨P,hP⟩:∃P,P=w.heap.size:=⟨_,rfl⟩;have G:=Jd0 A xv.length c (bv xv) _ (hR.go h2) (Un _) hz;generalize hW0:(w.alloc (.cells #[.int .i64 o_,.int .i64 a_,.int .i64 b_,.slice A xv.length c] 31)).alloc (.cells #[.int .i64 0,.int .i64 0,.int .i64 0,.slice none 0 0] 31)=W0 at h2 b1 b2 G;obtain⟨m,hm⟩:∃m,m=xv.length:=⟨_,rfl⟩;rw[<-hm] at G b1 hW0 ⊢;rw[<-hP] at b1 b2;have HM:=Ja hm;have HW0:=Ja hW0;have HP:=Ja hP;have G:=Ja G;have KB:=Ja h2;have B1:=Ja b1;have B2:=Ja b2;obtain⟨p0,p1,p2,p3⟩:=(show Jm W0 P 31 #[.int .i64 o_,.int .i64 a_,.int .i64 b_,.slice A m c] from b1).quad;clear h1 h2 b1 b2 hW0 hR hm;go_enter func194,ntmps194;go_upto_region 1 with fail;rw[HW0.out,<-HP.out];clear hP;go_wp2_with fail;refine G.out.mono ?_;rintro e w1 ⟨D,d,rfl,ho,hb⟩;have B1:=Ja (B1.out.go hb);have B2:=Ja (B2.out.go hb);have HO:=Ja ho;have KB:=Ja (Jg KB.out hb);have HS:=Ja hb.size;clear p0 p1 p2 p3 ho hb;have c3:w1.cell? ⟨P,3,none⟩=some (.slice A m c):=B1.out.cell 3;have f3:=B1.out.frozen 3;go_upto_region 2 with fail;have hu:JF P w1 (w1.setCell ⟨P,3,none⟩ (.slice D m d)):=JF.set_ w1 (p:=⟨P,3,none⟩) rfl _;have hx:Jm (w1.setCell ⟨P,3,none⟩ (.slice D m d)) P 31 #[.int .i64 o_,.int .i64 a_,.int .i64 b_,.slice D m d]:=B1.out.set_ 3 _;have hy:=B2.out.but hu (by omega);have hlP:=B1.out.lt;have hl2:=B2.out.lt;have hPw:w.heap.size<=P:=Rs HP.out.symm;have hs1:=El w;have ko:=HO.out;have kk:Bz w (w1.setCell ⟨P,3,none⟩ (.slice D m d)):=KB.out.setCell (p:=⟨P,3,none⟩) hPw _;have hPW:P+1 < W0.heap.size:=by
  have h:=HW0.out;have e:W0.heap.size=w.heap.size+1+1:=by rw[<-h];simp
  have:=HP.out;omega
 have ko2:=Qf ko hu (by omega);generalize w1.setCell ⟨P,3,none⟩ (.slice D m d)=w2 at hu hx hy kk ko2 ⊢;obtain⟨x0,x1,x2,x3⟩:=hx.quad;obtain⟨z0,z1,z2,z3⟩:=hy.quad;have y0:=hy.frozen 0;have y1:=hy.frozen 1;have y2:=hy.frozen 2;have y3:=hy.frozen 3;have HX:=Ja hx;have HY:=Ja hy;have KK:=Ja kk;have KO:=Ja ko2;clear hx hy kk ko2 ko hu c3 f3 hs1;go_wp2;have hF:=(((HY.out.set_ 0 (.int .i64 o_)).set_ 1 (.int .i64 a_)).set_ 2 (.int .i64 b_)).set_ 3 (.slice D m d);have hu4:JF (P+1) w2 ((((w2.setCell ⟨P+1,0,none⟩ (.int .i64 o_)).setCell ⟨P+1,1,none⟩ (.int .i64 a_)).setCell ⟨P+1,2,none⟩ (.int .i64 b_)).setCell ⟨P+1,3,none⟩ (.slice D m d)):=
  (((JF.set_ (g:=P+1) _ (p:=⟨P+1,0,none⟩) rfl _).trans (JF.set_ (g:=P+1) _ (p:=⟨P+1,1,none⟩) rfl _)).trans (JF.set_ (g:=P+1) _ (p:=⟨P+1,2,none⟩) rfl _)).trans (JF.set_ (g:=P+1) _ (p:=⟨P+1,3,none⟩) rfl _)
 refine EF (Gc rfl _ _ (P+1) 31 _ _ _ rfl hF underlying31 rfl (by kernel_rfl)) rfl ⟨D,d,rfl,?_,JJ KK.out hu4 (by have:=KK.out.size;omega) (by omega)⟩;exact Jk (Qf KO.out hu4 hPW) (by omega)
theorem UB (A:OA) (n c:Nat) (L:List (BV×Wq.Bd)) (ob:Int) (w:World) (hR:QI w w.heap.size A n c L) (hn:n<=256) (hv:∀p∈L,p.2.v.length<=140737488355328):
  Calls prog 143 #[.slice A n c,.int .i64 ob] w fun e w'=>∃A' k c',e=.returned (.slice A' k c')/\(∃M,JZ w' w.heap.size A' k c' M/\JG M=(JG L).filter fun y=>!decide (y.o=ob))/\Bz w w':=by
 obtain⟨ib0,hbi0,hbz0,hbz1,hbz2⟩:=EN Ye;have h1max:1<=maxLen:=by unfold maxLen;omega
 have hln:=hR.len;have HL:=Ja hln;have HR:=Ja hR;have HV:=Ja hv;clear hR hln hv;go_enter func143,ntmps143;go_wp2;go_loopw [5,7,10] (fun v5 _ v10 wr=>∃(j k c':Nat) (A':OA),v10=.int .i64 j/\v5=.slice A' k c'/\j<=n/\k<=j/\Bz w wr/\Hid (∃M,JZ wr w.heap.size A' k c' M/\JG M=((JG L).take j).filter fun y=>!decide (y.o=ob))) (fun _ _ v10 _=>n - (intOf v10).toNat)
 case atStart=>exact⟨0,0,0,none,rfl,rfl,by omega,by omega,Ec _ _,[],JZ.nil _ _,rfl⟩
 case round=>
  obtain⟨j,k,c',A',rfl,rfl,hj,hk,hb,hq⟩:=hrel;by_cases hlt:j < n
  ·have hjL:j < L.length:=by rw[HL.out];exact hlt
   have hjB:j < (JG L).length:=by rw[Jt];exact hjL
   obtain⟨M,hM,hMz⟩:=hq.out;obtain⟨b,oo,rfl,hab,g0,g1,g2,g3⟩:=((HR.out.below hb)).body hjL;have hRv:=(HR.out.go hb).each _ (En hjL);have hvz:=HV.out _ (En hjL);have hnx:=Eq hjB;rw[Xr L j hjL] at hnx;generalize L[j]=q at g0 g1 g2 g3 hRv hvz hnx;obtain⟨⟨xA,xc⟩,⟨o_,⟨a_,b_⟩,xv⟩⟩:=q;dsimp only at g0 g1 g2 g3 hRv hvz hnx;have hb9:Bz wr (wr.alloc (.cells #[.int .i64 o_,.int .i64 a_,.int .i64 b_,.slice xA xv.length xc] 31)):=Zr.alloc Zl _;have hX9:=Jm.new wr 31 #[.int .i64 o_,.int .i64 a_,.int .i64 b_,.slice xA xv.length xc];have G:=OT ⟨o_,(a_,b_),xv⟩ xA xc _ (hRv.go hb9) hvz;unfold JO at G;dsimp only at G;have hM9:=hM.below hb9;have kw:=Jg hb hb9;have hbs:=hb.size;generalize hV9:wr.alloc (.cells #[.int .i64 o_,.int .i64 a_,.int .i64 b_,.slice xA xv.length xc] 31)=V9 at hX9 G hM9 kw;have HV9:=Ja hV9;obtain⟨m,hm⟩:∃m,m=xv.length:=⟨_,rfl⟩;rw[<-hm] at G hX9 g3;have HV9:=Ja (show wr.alloc (.cells #[.int .i64 o_,.int .i64 a_,.int .i64 b_,.slice xA m xc] 31)=V9 by rw[hm];exact HV9.out);have HM:=Ja hm;have G:=Ja G;have HNX:=Ja hnx;have HMZ:=Ja hMz;have KM:=Ja hM9;obtain⟨r0,r1,r2,r3⟩:=hX9.quad;clear hV9 hX9 hb9 hM9 hM hMz hnx hRv hvz hm hjB hjL hq hb hab;go_upto_region 5 with fail;rw[HV9.out];clear g0 g1 g2 g3;by_cases ho:o_=ob
   ·subst ho;go_wp2_with fail;go_roundw
    case rel=>
     refine⟨j+1,k,c',A',by go_num,rfl,by omega,by omega,kw,?_⟩;refine⟨M,KM.out,?_⟩;rw[HNX.out,FD,<-HMZ.out];simp
    case measure=>simp[intOf];omega
   ·have hne:(o_ != ob)=true:=by simpa using ho
    have HO:=Ja ho;clear ho;go_wp2_with fail;refine G.out.mono ?_;rintro e w1 ⟨D,d,rfl,hd,hb1⟩;have KM:=Ja (KM.out.below hb1);have kw:=Jg kw hb1;have hsz:w.heap.size<=V9.heap.size:=by
     have h:=HV9.out;have e:V9.heap.size=wr.heap.size+1:=by rw[<-h];simp
     omega
    have HD:=Ja (Jk hd hsz);clear hsz;have hb':Bz w1 (w1.alloc (.cells #[.int .i64 o_,.int .i64 a_,.int .i64 b_,.slice D m d] 31)):=Zr.alloc Zl _;have C:=Ja (ZK hb' (size:=4) (n:=1) rfl h1max);have KM:=Ja (KM.out.below hb');have HD:=Ja (Jf HD.out hb' Zl);have kw:=Jg kw hb';clear hd hb1 hb' r0 r1 r2 r3;go_wp2_with (at_builtin;go_must (refine Jh _ rfl (.tmp 18) (.tmp 21) _ rfl w.heap.size 31 ib0 _ 4 48 underlying33 hbi0 hbz0 hbz1 hbz2 rfl (by decide) _ k (KU M) rfl KM.out.row _ _ 1 1 [.int .i64 o_,.int .i64 a_,.int .i64 b_,.slice D m d] rfl C.out (by simp[Value.oneCell']) (by unfold maxLen;omega) (by omega) kw.size ?_);intro A9 c9 W9 ho hg hat);have KZ:=Ja (KM.out.push (p:=(⟨D,d⟩,⟨o_,(a_,b_),xv⟩)) (by dsimp only;rw[<-HM.out];exact HD.out) hg (by unfold bvl;dsimp only;rw[<-HM.out];exact ho));have kz:=kw.trans (Jb hg kw.size (fun g hg'=>(KM.out.row.lt g hg').1));clear ho hg hat KM C HD;go_roundw
    case rel=>
     refine⟨j+1,k+1,c9,A9,by go_num,rfl,by omega,by omega,kz,?_⟩;refine⟨_,KZ.out,?_⟩;rw[HNX.out,FD,<-HMZ.out,Kb];simp[HO.out,JG]
    case measure=>simp[intOf];omega
  ·obtain rfl:n=j:=by omega
   obtain⟨M,hM,hMz⟩:=hq.out;have KM:=Ja hM;have HMZ:=Ja (show JG M=(JG L).filter fun y=>!decide (y.o=ob) by rw[hMz,Eo (by rw[Jt,HL.out];exact Ek _)]);clear hM hMz hq;go_wp2;go_ret;exact⟨_,_,_,rfl,⟨M,KM.out,HMZ.out⟩,hb⟩
theorem Jiq (A:OA) (n c:Nat) (w:World) (hc:n<=c) (_hm:c<=maxLen):
  Calls prog 193 #[.slice A n c] w fun e w'=>e=.returned (.slice A n n)/\Bz w w':=by
 go_enter func193,ntmps193;go_wp2;go_ret;exact⟨rfl,Ec _ _⟩
def wrR (w:Wr):Bool:=(decide (0<=w.2.1) && decide (w.2.1<=255)) && Vc.right w.1
theorem YL:∀(last:Int) (l:List Wr),Xu last l=true↔(∀w∈l,wrR w=true/\last < w.2.1)/\l.Pairwise fun a b=>a.2.1 < b.2.1
 | last,[]=>by simp[Xu]
 | last,w :: r=>by
  show (wrR w && (decide (last < w.2.1) && Xu w.2.1 r))=true↔_;rw[Ea,Ea,YL w.2.1 r,Ej,Fp,List.forall_mem_cons];constructor
  ·rintro⟨h1,h2,h3,h4⟩;exact⟨⟨⟨h1,h2⟩,fun x hx=>⟨(h3 x hx).1,by have:=(h3 x hx).2;omega⟩⟩,fun x hx=>(h3 x hx).2,h4⟩
  ·rintro⟨⟨⟨h1,h2⟩,h3⟩,h4,h5⟩;exact⟨h1,h2,fun x hx=>⟨(h3 x hx).1,h4 x hx⟩,h5⟩
theorem Zi (w:Wr):wrR w=true↔(0<=w.2.1/\w.2.1<=255)/\Vc.right w.1=true:=by
 unfold wrR;simp only[Ea,Ej]
theorem QA:∀{l:List Wr},(l.Pairwise fun a b=>a.2.1 < b.2.1)->∀{o:Int} {w:Wr},Xy l o=some w↔w∈l/\w.2.1=o
 | [],_,o,w=>by simp[Xy]
 | x :: r,h,o,w=>by
  rw[Fp] at h;unfold Xy;rw[List.find?_cons];by_cases hx:x.2.1=o
  ·simp only[hx,Rm,Gg,EE];constructor
   ·rintro rfl;exact⟨.inl rfl,hx⟩
   ·rintro⟨rfl | h2,h3⟩
    ·rfl
    ·have:=h.1 w h2;omega
  ·simp only[hx,decide_false];have:=QA h.2 (o:=o) (w:=w);unfold Xy at this;rw[this,EE];constructor
   ·rintro⟨a,b⟩;exact⟨.inr a,b⟩
   ·rintro⟨rfl | a,b⟩
    ·exact absurd b hx
    ·exact⟨a,b⟩
theorem Jck:∀{l m:List Wr},(l.Pairwise fun a b=>a.2.1 < b.2.1)->(m.Pairwise fun a b=>a.2.1 < b.2.1)->(∀w,w∈l↔w∈m)->l=m
 | [],[],_,_,_=>rfl
 | [],y :: m,_,_,h=>by have:=(h y).2 (EW ..);cases this
 | x :: l,[],_,_,h=>by have:=(h x).1 (EW ..);cases this
 | x :: l,y :: m,h1,h2,h=>by
  rw[Fp] at h1 h2;have e:x=y:=by
   rcases EE.1 ((h x).1 (EW ..)) with e | a
   ·exact e
   ·rcases EE.1 ((h y).2 (EW ..)) with e | b
    ·exact e.symm
    ·have:=h1.1 y b;have:=h2.1 x a;omega
  subst e;rw[Jck h1.2 h2.2 fun w=>⟨fun hw=>?_,fun hw=>?_⟩]
  ·rcases EE.1 ((h w).1 (ER _ hw)) with rfl | a
   ·have:=h1.1 w hw;omega
   ·exact a
  ·rcases EE.1 ((h w).2 (ER _ hw)) with rfl | a
   ·have:=h2.1 w hw;omega
   ·exact a
def QZ (f:Int->Option Wr) (w:Wr) (o:Int):Option Wr:=if o=w.2.1 then (match f o with
 | none=>some w
 | some v=>if Kz v.1 w.1=true then some w else some v) else f o
def okA (f:Int->Option Wr):Prop:=∀o w,f o=some w->w.2.1=o/\wrR w=true
theorem Jdi {l:List Wr} (h:Xu (-1) l=true):okA (Xy l):=fun o w e=>by
 obtain⟨h1,h2⟩:=(YL _ _).1 h;obtain⟨a,b⟩:=(QA h2).1 e;exact⟨b,(h1 w a).1⟩
theorem JnF {f:Int->Option Wr} (h:okA f) {w:Wr} (hw:wrR w=true):okA (QZ f w):=fun o v e=>by
 unfold QZ at e
 split at e
 ·rename_i ho
  split at e
  ·injection e with e;subst e;exact⟨ho.symm,hw⟩
  ·rename_i u hu
   split at e
   ·injection e with e;subst e;exact⟨ho.symm,hw⟩
   ·injection e with e;subst e;exact h o _ hu
 ·exact h o v e
theorem Ja5:∀{t:List Wr} {f:Int->Option Wr},okA f->(∀w∈t,wrR w=true)->okA (t.foldl QZ f)
 | [],_,h,_=>h
 | x :: t,f,h,ht=>by
  rw[List.foldl_cons];exact Ja5 (JnF h (ht x (EW ..))) fun w hw=>ht w (ER _ hw)
def lsO (f:Int->Option Wr):List Wr:=(List.range 256).filterMap fun n:Nat=>f (n:Int)
theorem JaA {f:Int->Option Wr} (h:okA f) (w:Wr):w∈lsO f↔f w.2.1=some w:=by
 unfold lsO;rw[List.mem_filterMap];constructor
 ·rintro⟨n,_,e⟩;rw[(h _ _ e).1];exact e
 ·intro e;obtain⟨h1,h2⟩:=h _ _ e;rw[Zi] at h2;refine⟨w.2.1.toNat,List.mem_range.2 (by omega),?_⟩;rw[Fz h2.1.1];exact e
theorem Uf {f:Int->Option Wr} (h:okA f):(lsO f).Pairwise fun a b=>a.2.1 < b.2.1:=by
 unfold lsO;rw[List.pairwise_filterMap];refine List.Pairwise.imp ?_ List.pairwise_lt_range;intro a b hab u hu v hv;rw[(h _ _ hu).1,(h _ _ hv).1];omega
theorem JoZ {f:Int->Option Wr} (h:okA f):Xu (-1) (lsO f)=true:=(YL _ _).2 ⟨fun w hw=>by
 have:=(h _ _ ((JaA h w).1 hw)).2;refine⟨this,?_⟩;rw[Zi] at this;omega,Uf h⟩
theorem Jol {f:Int->Option Wr} (h:okA f) (o:Int):Xy (lsO f) o=f o:=by
 rcases hf:f o with _ | w
 ·rcases ha:Xy (lsO f) o with _ | v
  ·rfl
  ·obtain⟨a,b⟩:=(QA (Uf h)).1 ha;rw[JaA h,b,hf] at a;cases a
 ·rw[QA (Uf h),JaA h,(h _ _ hf).1];exact⟨hf,rfl⟩
theorem Jl5 {l:List Wr} {f:Int->Option Wr} (h:Xu (-1) l=true) (e:∀o,Xy l o=f o):l=lsO f:=by
 obtain rfl:Xy l=f:=funext e;have hs:=((YL _ _).1 h).2;refine Jck hs (Uf (Jdi h)) fun w=>?_;rw[JaA (Jdi h),QA hs];exact⟨fun a=>⟨a,rfl⟩,fun a=>a.1⟩
def XJ (l t:List Wr):List Wr:=lsO (t.foldl QZ (Xy l))
theorem Jn9 {l:List Wr} (h:Xu (-1) l=true) {w:Wr} (hw:wrR w=true) {i:Nat} (hi:i<=l.length) (h1:∀t (ht:t < l.length),t < i->l[t].2.1 < w.2.1) (h2:∀t (ht:t < l.length),i<=t->w.2.1<=l[t].2.1) (hn:Xy l w.2.1=none):
  Xu (-1) (l.take i++w :: l.drop i)=true/\∀o,Xy (l.take i++w :: l.drop i) o=QZ (Xy l) w o:=by
 obtain⟨a1,a2⟩:=(YL _ _).1 h;have hno:∀x∈l,x.2.1≠w.2.1:=fun x hx e=>by
  have:=(QA a2).2 ⟨hx,e⟩;rw[hn] at this;cases this
 have b1:∀x∈l.take i,x.2.1 < w.2.1:=fun x hx=>by
  obtain⟨t,ht,rfl⟩:=Fv.1 hx;rw[Et] at ht;rw[List.getElem_take];exact h1 t (by omega) (by omega)
 have b2:∀x∈l.drop i,w.2.1 < x.2.1:=fun x hx=>by
  obtain⟨t,ht,rfl⟩:=Fv.1 hx;have hx2:=hno _ (Fu hx);rw[EP] at ht;rw[List.getElem_drop] at hx2 ⊢;have:=h2 (i+t) (by omega) (by omega);omega
 have hp:(l.take i++w :: l.drop i).Pairwise fun a b=>a.2.1 < b.2.1:=by
  rw[NA,Fp];refine⟨a2.sublist (List.take_sublist _ _),⟨b2,a2.sublist (List.drop_sublist _ _)⟩,fun x hx y hy=>?_⟩;rcases EE.1 hy with rfl | hy
  ·exact b1 x hx
  ·have:=b1 x hx;have:=b2 y hy;omega
 have hm:∀x,x∈l.take i++w :: l.drop i↔x=w\/x∈l:=fun x=>by
  constructor
  ·intro hx;rcases EB.1 hx with hx | hx
   ·exact .inr (Gs hx)
   ·rcases EE.1 hx with rfl | hx
    ·exact .inl rfl
    ·exact .inr (Fu hx)
  ·rintro(rfl | hx)
   ·exact EB.2 (.inr (EW ..))
   ·rw[<-EZ i l] at hx;rcases EB.1 hx with hx | hx
    ·exact EB.2 (.inl hx)
    ·exact EB.2 (.inr (ER _ hx))
 refine⟨(YL _ _).2 ⟨fun x hx=>?_,hp⟩,fun o=>?_⟩
 ·rcases(hm x).1 hx with rfl | hx
  ·exact⟨hw,by rw[Zi] at hw;omega⟩
  ·exact a1 x hx
 ·unfold QZ;by_cases ho:o=w.2.1
  ·subst ho;rw[Ei rfl,hn,QA hp,hm];exact⟨.inl rfl,rfl⟩
  ·rw[Ef ho];rcases hf:Xy l o with _ | v
   ·rcases ha:Xy (l.take i++w :: l.drop i) o with _ | v
    ·rfl
    ·obtain⟨c1,c2⟩:=(QA hp).1 ha;rcases(hm v).1 c1 with rfl | c3
     ·exact absurd c2.symm ho
     ·rw[(QA a2).2 ⟨c3,c2⟩] at hf;cases hf
   ·obtain⟨c1,c2⟩:=(QA a2).1 hf;exact(QA hp).2 ⟨(hm v).2 (.inr c1),c2⟩
theorem Jny {l:List Wr} (h:Xu (-1) l=true) {w:Wr} (hw:wrR w=true) {i:Nat} (hi:i < l.length) (he:l[i].2.1=w.2.1) (hn:Xy l w.2.1=some l[i]) (hs:Kz l[i].1 w.1=true):
  Xu (-1) (l.set i w)=true/\∀o,Xy (l.set i w) o=QZ (Xy l) w o:=by
 obtain⟨a1,a2⟩:=(YL _ _).1 h;have hp:(l.set i w).Pairwise fun a b=>a.2.1 < b.2.1:=by
  rw[Gm] at a2 ⊢;intro s t hs1 ht1 hst;rw[Gk] at hs1 ht1;rw[NY,NY];split
  ·rename_i e;subst e;rw[Ef (by omega),<-he];exact a2 _ _ hs1 ht1 hst
  ·split
   ·rename_i e;subst e;rw[<-he];exact a2 _ _ hs1 ht1 hst
   ·exact a2 _ _ hs1 ht1 hst
 have hm:∀x,x∈l.set i w->x=w\/x∈l:=fun x hx=>(List.mem_or_eq_of_mem_set hx).symm;have hm2:∀x∈l,x.2.1≠w.2.1->x∈l.set i w:=fun x hx hne=>by
  obtain⟨t,ht,rfl⟩:=Fv.1 hx;rw[Fv];refine⟨t,by rw[Gk];exact ht,?_⟩;rw[NY,Ef];rintro rfl;exact hne he
 refine⟨(YL _ _).2 ⟨fun x hx=>?_,hp⟩,fun o=>?_⟩
 ·rcases hm x hx with rfl | hx
  ·exact⟨hw,by rw[Zi] at hw;omega⟩
  ·exact a1 x hx
 ·unfold QZ;by_cases ho:o=w.2.1
  ·subst ho;rw[Ei rfl,hn];simp only;rw[Ei hs,QA hp];refine⟨?_,rfl⟩;exact Fv.2 ⟨i,by rw[Gk];exact hi,by rw[NY,Ei rfl]⟩
  ·rw[Ef ho];rcases hf:Xy l o with _ | v
   ·rcases ha:Xy (l.set i w) o with _ | v
    ·rfl
    ·obtain⟨c1,c2⟩:=(QA hp).1 ha;rcases hm v c1 with rfl | c3
     ·exact absurd c2.symm ho
     ·rw[(QA a2).2 ⟨c3,c2⟩] at hf;cases hf
   ·obtain⟨c1,c2⟩:=(QA a2).1 hf;exact(QA hp).2 ⟨hm2 v c1 (by rw[c2];exact ho),c2⟩
theorem Jnu {l:List Wr} {w v:Wr} (hn:Xy l w.2.1=some v) (hs:Kz v.1 w.1=false) (o:Int):Xy l o=QZ (Xy l) w o:=by
 unfold QZ;by_cases ho:o=w.2.1
 ·subst ho;rw[Ei rfl,hn];simp only;rw[hs];rfl
 ·rw[Ef ho]
/-! ### Bodies -/
def YR (held:List Wr) (B:List Wq.Bd) (w:Wr):List Wq.Bd:=match B.findIdx? (fun x=>decide (x.o=w.2.1)) with
 | none=>B
 | some i=>if (B[i]?.map (JV held)).getD true=true then B else B.eraseIdx i
theorem JaR:∀{B:List Wq.Bd} {i:Nat} (hi:i < B.length) (p:Wq.Bd->Bool),p B[i]=false->(∀j (hj:j < B.length),j≠i->p B[j]=true)->B.eraseIdx i=B.filter p
 | [],i,hi,_,_,_=>by simp at hi
 | x :: B,0,hi,p,h1,h2=>by
  simp only[List.getElem_cons_zero] at h1;rw[List.eraseIdx_cons_zero,Ge,h1];simp only[Nm,if_false];rw[Gi.2];intro y hy;obtain⟨j,hj,rfl⟩:=Fv.1 hy;exact h2 (j+1) (by simp;omega) (by omega)
 | x :: B,i+1,hi,p,h1,h2=>by
  simp only[List.getElem_cons_succ] at h1;have h0:p x=true:=h2 0 (by simp) (by omega);rw[List.eraseIdx_cons_succ,Ge,h0];simp only[Nf];rw[JaR (by simpa using hi) p h1 fun j hj hne=>h2 (j+1) (by simp;omega) (by omega)]
theorem Jk6 {held:List Wr} {B:List Wq.Bd} (hd:B.Pairwise fun a b=>a.o≠b.o) (w:Wr):YR held B w=B.filter fun x=>!decide (x.o=w.2.1) || JV held x:=by
 unfold YR;split
 ·rename_i hf;rw[List.findIdx?_eq_none_iff] at hf;rw[Gi.2];intro x hx;rw[hf x hx];rfl
 ·rename_i i hf;obtain⟨hi,he,_⟩:=List.findIdx?_eq_some_iff_getElem.1 hf;replace he:B[i].o=w.2.1:=of_decide_eq_true he;simp only[Em hi,Option.map_some,Option.getD_some];have hne:∀j (hj:j < B.length),j≠i->¬ B[j].o=w.2.1:=fun j hj hji e=>by
   rw[Gm] at hd;rcases FI j i with h | h
   ·exact hd j i hj hi h (e.trans he.symm)
   ·exact hd i j hi hj (by omega) (he.trans e.symm)
  split
  ·rename_i hw;rw[Gi.2];intro x hx;obtain⟨j,hj,rfl⟩:=Fv.1 hx;by_cases hji:j=i
   ·subst hji;rw[hw];simp
   ·simp[hne j hj hji]
  ·rename_i hw;refine JaR hi _ ?_ fun j hj hji=>?_
   ·rw[(Bool.not_eq_true _).mp hw];simp[he]
   ·simp[hne j hj hji]
theorem JbR:∀{l:List Wq.Bd} {Xm:List Int},Qz Xm l=true->(∀x∈l,x.o ∉ Xm)/\l.Pairwise fun a b=>a.o≠b.o
 | [],_,_=>⟨fun x hx=>(by cases hx),List.Pairwise.nil⟩
 | y :: r,Xm,h=>by
  rw[Qz] at h;simp only[Ea,Gv,List.contains_eq_mem,EI] at h;obtain⟨h1,h2⟩:=JbR h.2;refine⟨fun x hx=>?_,Fp.2 ⟨fun x hx e=>?_,h2⟩⟩
  ·rcases EE.1 hx with rfl | hx
   ·exact h.1.1
   ·exact fun hs=>h1 x hx (EB.2 (.inl hs))
  ·exact h1 x hx (EB.2 (.inr (by rw[e];exact Ez.2 rfl)))
theorem JcQ {held:List Wr}:∀(t:List Wr) {B:List Wq.Bd},(B.Pairwise fun a b=>a.o≠b.o)->t.foldl (YR held) B=B.filter fun x=>(t.all fun w=>!decide (x.o=w.2.1)) || JV held x
 | [],B,_=>(Gi.2 fun _ _=>rfl).symm
 | w :: t,B,h=>by
  rw[List.foldl_cons,Jk6 h,JcQ t (h.sublist List.filter_sublist),List.filter_filter];refine List.filter_congr fun x _=>?_;rw[List.all_cons];cases decide (x.o=w.2.1)<;>cases JV held x<;>simp
theorem Jke {t:List Wr} {f:Int->Option Wr} {o:Int} (h:∀w∈t,w.2.1≠o):t.foldl QZ f o=f o:=by
 induction t generalizing f with
 | nil=>rfl
 | cons x t ih=>
  rw[List.foldl_cons,ih fun w hw=>h w (ER _ hw)];unfold QZ;rw[Ef fun e=>h x (EW ..) e.symm]
theorem Jl8 {held t:List Wr} {B:List Wq.Bd} (hh:Xu (-1) held=true) (ht:∀w∈t,wrR w=true) (hd:B.Pairwise fun a b=>a.o≠b.o) (hw:∀x∈B,JV held x=true):
  t.foldl (YR (XJ held t)) B=B.filter (JV (XJ held t)):=by
 rw[JcQ t hd];refine List.filter_congr fun x hx=>?_;rcases hz:t.all fun w=>!decide (x.o=w.2.1) with _ | _
 ·rfl
 ·have h2:∀w∈t,w.2.1≠x.o:=fun w hw2 e=>by
   have:=Fg.1 hz w hw2;simp[e] at this
  have:=hw x hx;unfold JV at this ⊢;unfold XJ;rw[Jol (Ja5 (Jdi hh) ht),Jke h2];rw[this];rfl
end Go.Proofs.YtmbeahbgafkjfaaGreatDoor
