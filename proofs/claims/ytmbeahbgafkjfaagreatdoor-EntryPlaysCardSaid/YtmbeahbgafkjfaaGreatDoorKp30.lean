/- Lemmas, layer 30. -/
import Derived.Test.YtmbeahbgafkjfaaGreatDoorKp29
set_option maxRecDepth 100000
set_option linter.unusedSimpArgs false
set_option maxHeartbeats 16000000
namespace Go.Proofs.YtmbeahbgafkjfaaGreatDoor
open Go.Proofs.Tryz Go.RowKit
theorem JmT (l:List Wr) (i:Nat) (h:i < l.length) (x:Wr):((((wv l).set (i * 4) (.int .i64 x.1.1)).set (i * 4+1) (.int .i64 x.1.2)).set (i * 4+2) (.int .i64 x.2.1)).set (i * 4+3) (.bool x.2.2)=wv (l.set i x):=by
 have e:l=l.take i++l[i] :: l.drop (i+1):=by rw[<-Eh h,EZ]
 have hP:(l.take i).length=i:=by rw[Et];omega
 generalize l.take i=P at *;generalize l.drop (i+1)=Q at *;generalize l[i]=y at *;subst e;have e2:(P++y :: Q).set i x=P++x :: Q:=by rw[Fk _ _ (by omega),hP,GT];rfl
 have e3:∀z:Wr,wv (P++z :: Q)=wv P++(wc z++wv Q):=fun z=>by simp[wv]
 have hl:(wv P).length=i * 4:=by rw[Yp,hP]
 rw[e2,e3,e3];rw[Fk _ _ (by omega),Fk _ _ (by omega),Fk _ _ (by omega),Fk _ _ (by omega),hl,GT,FL,FL,FL];rfl
theorem Jgq {w:World} {base G n c:Nat} {l:List Wr} (h:w.ownsRow base 70 4 (.slice (some ⟨G,0,none⟩) n c) n (wv l)) (hl:l.length=n) (i:Nat) (hi:i < n) (x:Wr):
  ((((w.setCell ⟨G,i * 4,none⟩ (.int .i64 x.1.1)).setCell ⟨G,i * 4+1,none⟩ (.int .i64 x.1.2)).setCell ⟨G,i * 4+2,none⟩ (.int .i64 x.2.1)).setCell ⟨G,i * 4+3,none⟩ (.bool x.2.2)).ownsRow base 70 4 (.slice (some ⟨G,0,none⟩) n c) n (wv (l.set i x)) /\
    w.grownBy ((((w.setCell ⟨G,i * 4,none⟩ (.int .i64 x.1.1)).setCell ⟨G,i * 4+1,none⟩ (.int .i64 x.1.2)).setCell ⟨G,i * 4+2,none⟩ (.int .i64 x.2.1)).setCell ⟨G,i * 4+3,none⟩ (.bool x.2.2)) (some G):=by
 have s1:=h.stored (i * 4) (.int .i64 x.1.1);have s2:=s1.1.stored (i * 4+1) (.int .i64 x.1.2);have s3:=s2.1.stored (i * 4+2) (.int .i64 x.2.1);have s4:=s3.1.stored (i * 4+3) (.bool x.2.2);refine⟨?_,((s1.2.trans s2.2).trans s3.2).trans s4.2⟩;have:=s4.1;rw[JmT l i (by omega) x] at this;exact this
theorem ZL {w:World} {base G n c:Nat} {l:List Wr} (h:w.ownsRow base 70 4 (.slice (some ⟨G,0,none⟩) n c) n (wv l)) (hl:l.length=n) (i:Nat) (hi:i < l.length):
  w.cell? ⟨G,i * 4,none⟩=some (.int .i64 l[i].1.1)/\w.cell? ⟨G,i * 4+1,none⟩=some (.int .i64 l[i].1.2)/\w.cell? ⟨G,i * 4+2,none⟩=some (.int .i64 l[i].2.1)/\w.cell? ⟨G,i * 4+3,none⟩=some (.bool l[i].2.2):=by
 have e:∀j,j < 4->∀u,(wc l[i])[j]?=some u->w.cell? ⟨G,i * 4+j,none⟩=some u:=fun j hj u hu=>by
  rw[h.cellAt (i * 4+j) (by omega),JiO l i hi j hj];exact hu
 exact⟨e 0 (by decide) _ rfl,e 1 (by decide) _ rfl,e 2 (by decide) _ rfl,e 3 (by decide) _ rfl⟩
open Go.Sort in
theorem Gr.belowP {a b:World} (h:Gr a b):Bz a b:=by
 obtain⟨q,os,rfl⟩:=h;exact⟨rfl,rfl,rfl,by rw[size_grow];exact Nat.le_add_right _ _,fun k hk=>by
  unfold grow;exact Gh hk⟩
theorem KJ (l t:List Wr) (x:Wr):XJ l (t++[x])=lsO (QZ (t.foldl QZ (Xy l)) x):=by unfold XJ;rw[FM];rfl
structure ShI (l t X:List Wr):Prop where
 f:Xu (-1) X=true
 a:∀o,Xy X o=t.foldl QZ (Xy l) o
theorem ShI.start {l:List Wr} (h:Xu (-1) l=true):ShI l [] l:=⟨h,fun _=>rfl⟩
theorem ShI.is {l t X:List Wr} (h:ShI l t X):X=XJ l t:=Jl5 h.f h.a
theorem Jam {f g:Int->Option Wr} (h:∀o,f o=g o) (x:Wr) (o:Int):QZ f x o=QZ g x o:=by unfold QZ;rw[h o]
theorem ShI.in_ {l t X:List Wr} (h:ShI l t X) {x:Wr} (hx:wrR x=true) {i:Nat} (hi:i<=X.length) (h1:∀t (ht:t < X.length),t < i->X[t].2.1 < x.2.1) (h2:∀t (ht:t < X.length),i<=t->x.2.1<=X[t].2.1) (hn:Xy X x.2.1=none):ShI l (t++[x]) (X.take i++x :: X.drop i):=by
 obtain⟨a,b⟩:=Jn9 h.f hx hi h1 h2 hn;exact⟨a,fun o=>by rw[FM,b o];exact Jam h.a x o⟩
theorem ShI.set_ {l t X:List Wr} (h:ShI l t X) {x:Wr} (hx:wrR x=true) {i:Nat} (hi:i < X.length) (he:X[i].2.1=x.2.1) (hn:Xy X x.2.1=some X[i]) (hs:Kz X[i].1 x.1=true):ShI l (t++[x]) (X.set i x):=by
 obtain⟨a,b⟩:=Jny h.f hx hi he hn hs;exact⟨a,fun o=>by rw[FM,b o];exact Jam h.a x o⟩
theorem ShI.not_ {l t X:List Wr} (h:ShI l t X) {x v:Wr} (hn:Xy X x.2.1=some v) (hs:Kz v.1 x.1=false):ShI l (t++[x]) X:=
 ⟨h.f,fun o=>by rw[FM,Jnu hn hs o];exact Jam h.a x o⟩
theorem Jog (X:List Wr) (i:Nat) (x:Wr):wv (X.take i++x :: X.drop i)=(wv X).take (i * 4)++(wc x++(wv X).drop (i * 4)):=by
 have h1:(wv X).take (i * 4)=wv (X.take i):=by
  by_cases hi:i<=X.length
  ·have e:wv X=wv (X.take i)++wv (X.drop i):=by rw[<-Jbu,EZ]
   rw[e,ET (by rw[Yp,Et];omega),Eo (by rw[Yp,Et];omega)]
  ·rw[Eo (by rw[Yp];omega),Eo (by omega)]
 have h2:(wv X).drop (i * 4)=wv (X.drop i):=by
  by_cases hi:i<=X.length
  ·have e:wv X=wv (X.take i)++wv (X.drop i):=by rw[<-Jbu,EZ]
   rw[e,FY (by rw[Yp,Et];omega),Ed (by rw[Yp,Et];omega),List.nil_append]
  ·rw[Ed (by rw[Yp];omega),Ed (by omega)];rfl
 rw[h1,h2,Jbu];rfl
theorem ShI.len {l t X:List Wr} (h:ShI l t X):X.length<=256:=by
 rcases Wq.ZW h.f (by omega) with a | e
 ·omega
 ·rw[e];simp
theorem Jfn (A B:OA) (n c m d:Nat) (l t:List Wr) (w:World) (hl:l.length=n) (hR:Rd w w.heap.size 4 A n c (wv l)) (hl2:t.length=m) (hR2:Rd w w.heap.size 4 B m d (wv t)) (hf:Xu (-1) l=true) (ht:∀x∈t,wrR x=true) (hm:m<=1000000):
  Calls prog 142 #[.slice A n c,.slice B m d] w fun e w'=>∃A' k c',e=.returned (.tuple #[.slice A' k c',.int .i64 0])/\(XJ l t).length=k/\Rd w' w'.heap.size 4 A' k c' (wv (XJ l t))/\Bz w w':=by
 have h1max:1<=maxLen:=by unfold maxLen;omega
 have hln:n<=256:=by
  rcases Wq.ZW hf (by omega) with h | h
  ·omega
  ·rw[<-hl,h];simp
 have G1:=XU A n c l w hl hR;rw[hf] at G1;have G2:=Ja fun (W:World) (hb:Bz w W)=>UN A n c (wv l) W (hR.go hb) (XY l) (by omega);have G1:=Ja G1;have HS:=Ja (ShI.start hf);have HL:=Ja hl;have HL2:=Ja hl2;have HR2:=Ja fun (W:World) (hb:Bz w W)=>hR2.go hb;have HT:=Ja ht;clear hR hR2 hf ht hl hl2;go_enter func142,ntmps142;go_wp2_with (go_at_call 93;go_must (refine Jd G1.out fun w1 hb1=>?_));refine(G2.out _ hb1).mono ?_;rintro e w2 ⟨A2,c2,rfl,ho,hb2⟩;have hb:=Jg hb1 hb2;have ho:=Jk ho hb1.size;clear hb1 hb2 G1 G2;go_wp2_with fail;go_loopw [8,9,10,6,18] (fun _ _ _ v6 v18 wr=>∃(j k c':Nat) (A':OA) (X:List Wr),v18=.int .i64 j/\v6=.slice A' k c'/\j<=m/\k<=256/\Hid (ShI l (t.take j) X)/\Hid (X.length=k)/\Hid (wr.ownsRow w.heap.size 70 4 (.slice A' k c') k (wv X))/\Bz w wr) (fun _ _ _ _ v18 _=>m - (intOf v18).toNat)
 case atStart=>exact⟨0,n,c2,A2,l,rfl,rfl,by omega,hln,HS,HL,ho,hb⟩
 case round=>
  clear ho hb;obtain⟨j,k,c',A',X,rfl,rfl,hj,hk,HI,HX,HO,hb⟩:=hrel;by_cases hlt:j < m
  ·have hjl:j < t.length:=by rw[HL2.out];exact hlt
   obtain⟨b,o,rfl,hab,g0,g1,g2,g3⟩:=(HR2.out wr hb).write HL2.out hjl;have hwr:=HT.out _ (En hjl);have hnx:=Eq hjl;generalize t[j]=x at g0 g1 g2 g3 hwr hnx;obtain⟨⟨sc,sn⟩,ob,gn⟩:=x;dsimp only at g0 g1 g2 g3;have G3:=UQ sc sn ob gn;rw[show ((decide (0<=ob) && decide (ob<=255)) && Vc.right (sc,sn))=true from hwr] at G3;have G3:=Ja G3;have hb9:Bz wr (wr.alloc (.cells #[.int .i64 sc,.int .i64 sn,.int .i64 ob,.bool gn] 70)):=Zr.alloc Zl _;have hX9:=Jm.new wr 70 #[.int .i64 sc,.int .i64 sn,.int .i64 ob,.bool gn];have hO9:=HO.out.alloc (.cells #[.int .i64 sc,.int .i64 sn,.int .i64 ob,.bool gn] 70);have kw:=Jg hb hb9;obtain⟨W9,hW9⟩:∃W,W=wr.alloc (.cells #[.int .i64 sc,.int .i64 sn,.int .i64 ob,.bool gn] 70):=⟨_,rfl⟩;rw[<-hW9] at hb9 hX9 hO9 kw;have HW9:=Ja hW9.symm;have HXB:=Ja (fun (W:World) (hb:Bz W9 W)=>hX9.go hb);have HO0:=HO;have HO:=Ja hO9;have HNX:=Ja hnx;have HWR:=Ja hwr;have hgs:w.heap.size<=wr.heap.size:=hb.size;have hG0:(Value.slice A' k c').ownBlock≠some wr.heap.size:=fun e=>by have:=(HO0.out.lt _ e).2;omega
   have HG0:=Ja hG0;clear hb9 hX9 hO9 hW9 hnx hwr hb hgs HO0;go_upto_region 7 with fail;rw[HW9.out];clear g0 g1 g2 g3;obtain⟨r0,r1,r2,r3⟩:=(HXB.out _ Zr).quad;go_wp2_with fail;refine Jd (G3.out _) fun w3 hb3=>?_;have z3:=hb3;have kw:=Jg kw hb3;have HO:=Ja (Jf HO.out hb3 Zl);clear r0 r1 r2 r3 hb3;obtain⟨r0,r1,r2,r3⟩:=(HXB.out _ z3).quad;have GP:=JbW A' k c' X ob w3 HX.out (Rd.of_own HO.out) (JcA HI.out.f) (by omega);have GP:=Ja GP;go_wp2_with fail;refine GP.out.mono ?_;rintro e w4 ⟨i,b,rfl,hi,hy,hno,⟨hlo,hhi⟩,hb4⟩;have z4:=Jg z3 hb4;have kw:=Jg kw hb4;have HO:=Ja (Jf HO.out hb4 Zl);clear r0 r1 r2 r3 hb4 z3;obtain⟨r0,r1,r2,r3⟩:=(HXB.out _ z4).quad;have hiX:i<=k:=by rw[<-HX.out];exact hi
   cases b
   ·have HI2:=Ja (HI.out.in_ HWR.out hi hlo hhi (hno rfl));have HD:=Ja (ZK (size:=4) (n:=1) (cs:=#[.int .i64 sc,.int .i64 sn,.int .i64 ob,.bool gn]) (t:=70) ((Ec w4.heap.size w4).alloc Zl _) rfl h1max);have hB:=Jm.new w4 70 #[.int .i64 sc,.int .i64 sn,.int .i64 ob,.bool gn];have hOa:=HO.out.alloc (.cells #[.int .i64 sc,.int .i64 sn,.int .i64 ob,.bool gn] 70);have kw:=kw.alloc kw.size (.cells #[.int .i64 sc,.int .i64 sn,.int .i64 ob,.bool gn] 70);have hne:(Value.slice A' k c').ownBlock≠some w4.heap.size:=fun e=>by have:=(HO.out.lt _ e).2;omega
    have GI:=Ja (JjG w.heap.size k c' i w4.heap.size 1 A' (wv X) [.int .i64 sc,.int .i64 sn,.int .i64 ob,.bool gn] _ hOa kw.size (XY X) (by omega) hiX hB rfl (by simp[Value.oneCell']) Zl h1max hne);have HEQ:=Ja (show wv (X.take i++((sc,sn),ob,gn) :: X.drop i)=(wv X).take (i * 4)++([.int .i64 sc,.int .i64 sn,.int .i64 ob,.bool gn]++(wv X).drop (i * 4)) from Jog X i ((sc,sn),ob,gn));clear hy hno hlo hhi hB hOa hne hi;go_wp2_with fail;refine GI.out.mono ?_;rintro e w5 ⟨A5,c5,rfl,ho5,hg5⟩;have kw:=kw.trans (Jb hg5 kw.size (fun r hr=>(HO.out.lt r hr).1));have HO5:=Ja (show w5.ownsRow w.heap.size 70 4 (.slice A5 (k+1) c5) (k+1) (wv (X.take i++((sc,sn),ob,gn) :: X.drop i)) by rw[HEQ.out];exact ho5);clear ho5 hg5 GI HD;go_wp2_with fail;go_roundw
    case rel=>
     refine⟨j+1,k+1,c5,A5,_,by go_num,rfl,by omega,?_,?_,?_,HO5,kw⟩
     ·have:=HI2.out.len;rw[Eb,List.length_cons,Et,EP,HX.out] at this;omega
     ·rw[HNX.out];exact HI2
     ·refine Ja ?_;rw[Eb,List.length_cons,Et,EP,HX.out];omega
    case measure=>simp[intOf];omega
   ·obtain⟨hil,he,hat⟩:=hy rfl;have hik:i < k:=by rw[<-HX.out];exact hil
    obtain⟨G,rfl⟩:∃G,A'=some ⟨G,0,none⟩:=by
     rcases YN HO.out with ⟨_,h,_⟩ | h
     ·omega
     ·exact h
    obtain⟨a0,a1,a2,a3⟩:=ZL HO.out HX.out i hil;have GC:=fun W=>Jbt X[i].1 (sc,sn) W;have hlt2:=Jor X[i].1 (sc,sn);dsimp only at GC;have hset:=fun h=>HI.out.set_ HWR.out hil he hat h;have hnot:=fun h=>HI.out.not_ (x:=((sc,sn),ob,gn)) hat h;dsimp only at hset hnot;generalize Kz X[i].1 (sc,sn)=z at hlt2 hset hnot;have HSET:=Ja hset;have HNOT:=Ja hnot;generalize stC X[i].1 (sc,sn)=q at GC hlt2;generalize X[i].1.1=x0 at a0 GC;generalize X[i].1.2=x1 at a1 GC;have HGC:=Ja fun W=>(GC W).mono fun e w' h=>And.intro h.1 h.2.belowP;have HLT:=Ja hlt2;have hikZ:(i:Int) < (k:Int):=by omega
    have HR1:=Ja (fun (W:World) (hb:Bz w4 W)=>(show (W.cell? ⟨G,i * 4,none⟩=some (.int .i64 x0)/\W.cell? ⟨G,i * 4+1,none⟩=some (.int .i64 x1))/\(W.cell? ⟨wr.heap.size,0,none⟩=some (.int .i64 sc)/\W.cell? ⟨wr.heap.size,1,none⟩=some (.int .i64 sn)) from by
     have hGl:=(HO.out.lt G rfl).2;obtain⟨y0,y1,_,_⟩:=(HXB.out W (Jg z4 hb)).quad;exact⟨⟨(hb.cell hGl).trans a0,(hb.cell hGl).trans a1⟩,y0,y1⟩))
    clear hy hno hlo hhi hi he hat hset hnot GC hlt2 a2 a3;go_upto_region 12 with fail;clear r0 r1 r2 r3 a0 a1;have kd:Bz w4 w4.drew:=Zr.drew;refine Jl fun KK hKK=>?_;refine Eg (S:=(fun W=>(W.cell? ⟨G,i * 4,none⟩=some (.int .i64 x0)/\W.cell? ⟨G,i * 4+1,none⟩=some (.int .i64 x1))/\(W.cell? ⟨wr.heap.size,0,none⟩=some (.int .i64 sc)/\W.cell? ⟨wr.heap.size,1,none⟩=some (.int .i64 sn)))) (by kernel_rfl) (by first | exact HR1.out _ kd) (fun hHeld=>?_);refine Jc 0 41 1 42 (HR1.out _ kd) ?_;refine Jc 2 43 3 44 (HR1.out _ kd) ?_;refine Jc 4 45 5 46 (HR1.out _ kd) ?_;refine Qx 6 47 (HR1.out _ kd) ?_;refine Qa 7 fun K hK=>?_;go_simp;refine Jd (HGC.out _) fun w5 hb5=>?_;have kd:=Jg kd hb5;have hlt2:=HLT.out;refine hK.out _ _ (HR1.out _ kd) fun hHeld=>?_;clear hK K;refine puB 8 49 ((.bool z)) (HR1.out _ kd) ?_;refine Qx 9 40 (HR1.out _ kd) ?_;refine Es (by kernel_rfl) ?_ _;refine QQ.out (hKK _ _ ?_);clear hHeld;have kw:=kw.drew;have kw:=Jg kw hb5;have HO:=Ja (Jf HO.out kd Zl);have z5:=Jg z4 kd;clear hlt2;cases z
    ·go_wp2_with fail;go_roundw
     case rel=>
      refine⟨j+1,k,c',some ⟨G,0,none⟩,X,by go_num,rfl,by omega,hk,?_,HX,HO,kw⟩;rw[HNX.out];exact Ja (HNOT.out rfl)
     case measure=>simp[intOf];omega
    ·obtain⟨r0,r1,r2,r3⟩:=(HXB.out _ z5).quad;obtain⟨a0,a1,a2,a3⟩:=ZL HO.out HX.out i (by rw[HX.out];exact hik);have f0:=HO.out.frozenAt (i * 4);have f1:=HO.out.frozenAt (i * 4+1);have f2:=HO.out.frozenAt (i * 4+2);have f3:=HO.out.frozenAt (i * 4+3);have hp:=Jgq HO.out HX.out i hik ((sc,sn),ob,gn);have HP:=Ja hp;have HG:=Ja (HO.out.lt G rfl).1;generalize (X[i]'(by rw[HX.out];exact hik)).1.1=y0 at a0;generalize (X[i]'(by rw[HX.out];exact hik)).1.2=y1 at a1;generalize (X[i]'(by rw[HX.out];exact hik)).2.1=y2 at a2;generalize (X[i]'(by rw[HX.out];exact hik)).2.2=y3 at a3;clear hp;go_wp2_with fail;go_roundw
     case rel=>
      refine⟨j+1,k,c',some ⟨G,0,none⟩,X.set i ((sc,sn),ob,gn),by go_num,rfl,by omega,hk,?_,Ja (by rw[Gk];exact HX.out),Ja HP.out.1,kw.trans (Jb HP.out.2 kw.size (fun r hr=>by cases hr;exact HG.out))⟩;rw[HNX.out];exact Ja (HSET.out rfl)
     case measure=>simp[intOf];omega
  ·obtain rfl:j=m:=by omega
   have HE:=Ja (show X=XJ l t by have h:=HI.out.is;rw[Eo (by rw[HL2.out];exact Ek _)] at h;exact h);have GCl:=Ja fun W=>Jiq A' k c' W (XP HO.out).1 (XP HO.out).2;go_wp2_with (go_at_call 193;go_must (refine Jd (GCl.out _) fun w8 hb8=>?_));go_ret2;have hr:=Rd.of_own HO.out;rw[HE.out] at hr;refine⟨A',k,k,rfl,by rw[<-HE.out];exact HX.out,?_,Jg hb hb8⟩;exact(show Rd wr wr.heap.size 4 A' k k (wv (XJ l t)) from ⟨hr.len,Ek _,by have:=hr.max;have:=hr.cap;omega,fun h=>by have:=hr.nil h;have:=hr.cap;omega,hr.at0⟩).go hb8
theorem JeW (gz gk:Nat) (A D:OA) (n c m d:Nat) (L:List (ZV×Zn)) (u0:List Vc.St) (sc sn ob:Int) (gn:Bool) (w:World) (hz:w.cell? ⟨gz,0,none⟩=some (.slice A n c)) (hk:w.cell? ⟨gk,0,none⟩=some (.slice D m d))
  (hR:Zc w w.heap.size A n c L) (hl:u0.length=m) (hR2:Rd w w.heap.size 2 D m d (sv u0)):
  Calls prog 141 #[.agg #[.int .i64 sc,.int .i64 sn,.int .i64 ob,.bool gn],.pointer (some ⟨gz,0,none⟩),.pointer (some ⟨gk,0,none⟩)] w fun e w'=>e=.returned (.bool (!(QD (JQ (Jv L) u0 ob) (sc,sn))))/\Bz w w':=by
 have hb0:Bz w (w.alloc (.cells #[.int .i64 sc,.int .i64 sn,.int .i64 ob,.bool gn] 70)):=Zr.alloc Zl _;have h1:=(hb0.cell (p:=⟨gz,0,none⟩) (Ep _ _ hz)).trans hz;have h2:=(hb0.cell (p:=⟨gk,0,none⟩) (Ep _ _ hk)).trans hk;have H1:=Uw A D n c m d L u0 ((sc,sn),ob,gn) _ (hR.go hb0) hl (hR2.go hb0);dsimp only at H1;have H1:=Ja H1;generalize QD (JQ (Jv L) u0 ob) (sc,sn)=z at H1 ⊢;have HB:=Ja hb0;clear hl hR hR2 hz hk hb0;go_enter func141,ntmps141;go_wp2_with (go_at_call 97;go_must (refine Jd H1.out fun w1 hb1=>?_));go_ret;exact⟨rfl,Jg HB.out hb1⟩
theorem Jk3 {w:World} {base G n c:Nat} {F X:List Wr} (h:w.ownsRow base 70 4 (.slice (some ⟨G,0,none⟩) n c) n (wv (F++X))):w.ownsRow base 70 4 (.slice (some ⟨G,0,none⟩) F.length c) F.length (wv F):=by
 obtain⟨hlen,h | ⟨g,cap,cur,hv,hb,hg,hnc,hcm,hcs,hx⟩⟩:=h
 ·exact absurd h.1 (by simp)
 ·injection hv with hv1 _ hv3;injection hv1 with hv1;injection hv1 with hv1;subst hv1 hv3;rw[Yp,Eb] at hlen;refine⟨Yp F,.inr ⟨G,c,cur,rfl,hb,hg,by omega,hcm,hcs,?_⟩⟩;have h1:=congrArg (List.take (F.length * 4)) hx;rw[GE,FK (by omega),Jbu,ET (by rw[Yp];exact Ek _)] at h1;rw[h1,Eo (by rw[Yp];exact Ek _)]
theorem Jd1 {base G n c:Nat} {F:List Wr} (hn:F.length=n):∀(vs:List Value) (o:Nat) (w:World),n * 4<=o->w.ownsRow base 70 4 (.slice (some ⟨G,0,none⟩) n c) n (wv F) ->
  (w.setCells G o vs).ownsRow base 70 4 (.slice (some ⟨G,0,none⟩) n c) n (wv F)/\w.grownBy (w.setCells G o vs) (some G)
 | [],_,w,_,h=>⟨h,Nj _ _⟩
 | v :: vs,o,w,ho,h=>by
  have s:=h.stored o v;rw[List.set_eq_of_length_le (by rw[Yp];omega)] at s;obtain⟨h1,h2⟩:=Jd1 hn vs (o+1) _ (by omega) s.1;exact⟨h1,s.2.trans h2⟩
theorem JhX (w:World) (G n c i:Nat) (hin:i < n) (hc:∀j,j < n * 4->(w.cell? ⟨G,j,none⟩).isSome=true) (hf:∀j,w.frozen? ⟨G,j,none⟩=false):
  ∃vs,∀ty,(Builtin.clear_ #[24] ty #[.slice (some ⟨G,i * 4,none⟩) (n - i) c]).run prog w=.ok (.tuple #[]) (w.setCells G (i * 4) vs):=by
 have hz:∀w,(zeroValue 70).run prog w=.ok (.agg #[.int .i64 0,.int .i64 0,.int .i64 0,.bool false]) w:=fun _=>by kernel_rfl
 obtain⟨vs,hvs⟩:∃vs,vs=(Builtin.zeroCells (Value.agg #[.int .i64 0,.int .i64 0,.int .i64 0,.bool false]).cells (n - i)).toList:=⟨_,rfl⟩;have hlen:vs.length=(n - i) * 4:=by rw[hvs];simp[Builtin.zeroCells,Value.cells]
 have hone:∀v∈vs,v.oneCell'=true:=fun v hv=>by
  obtain⟨j,hj,rfl⟩:=Na hv;have:∀k,k < 4->(#[Value.int .i64 0,.int .i64 0,.int .i64 0,.bool false][k]!).oneCell'=true:=by
   intro k hk
   match k,hk with
   | 0,_=>rfl
   | 1,_=>rfl
   | 2,_=>rfl
   | 3,_=>rfl
  have h4:=this (j % 4) (Ri _ (by decide));simp only[hvs,Builtin.zeroCells,Value.cells];simp at h4 ⊢;simpa using h4
 have hst:=Nw (P:=prog) G (i * 4) vs 0 w (by rw[hlen];intro j hj;exact hc (i * 4+j) (by omega)) (fun j _=>hf _) hone;simp only[Nat.add_zero] at hst;refine⟨vs,fun ty=>?_⟩;obtain⟨m,hm⟩:∃m,n - i=m+1:=⟨n - i - 1,by omega⟩;rw[hm] at hvs ⊢;simp[Builtin.clear_,FR underlying24,hz,<-hvs,hst]
theorem Kv {w w':World} (hb:Bz w w') (row:Option Nat):w.grownBy w' row:=⟨hb.os,hb.tape,hb.output,hb.size,fun k hk _=>hb.block k hk⟩
def Jja (w:World) (G:Nat) (pv qv:Value) (p:Wr->Bool):Prop:=∀W,w.grownBy W (some G)->∀(sc sn ob:Int) (gn:Bool),
 Calls prog 141 #[.agg #[.int .i64 sc,.int .i64 sn,.int .i64 ob,.bool gn],pv,qv] W fun e w'=>e=.returned (.bool (p ((sc,sn),ob,gn)))/\Bz W w'
def ixV (p:Wr->Bool):Nat->List Wr->Int
 | _,[]=>-1
 | k,s :: r=>if p s=true then (k:Int) else ixV p (k+1) r
theorem JlO (p:Wr->Bool) (k:Nat) (l:List Wr) (h:k < l.length):ixV p k (l.drop k)=if p l[k]=true then (k:Int) else ixV p (k+1) (l.drop (k+1)):=by
 rw[Eh h,ixV]
theorem Jgt {p:Wr->Bool}:∀{l:List Wr} {k:Nat},ixV p k l=-1->l.filter (fun x=>!p x)=l
 | [],_,_=>rfl
 | s :: r,k,h=>by
  rw[ixV] at h
  split at h
  ·omega
  ·rename_i hp;have hp':p s=false:=by simpa using hp
   rw[Ge,hp'];simp[Jgt h]
theorem JfQ {p:Wr->Bool}:∀{l:List Wr} {k:Nat},ixV p k l≠-1->∃F x T,l=F++x :: T/\p x=true/\(∀y∈F,p y=false)/\ixV p k l=((k+F.length:Nat):Int)
 | [],_,h=>absurd rfl h
 | s :: r,k,h=>by
  rw[ixV] at h ⊢
  split at h
  ·rename_i hp;rw[Ei hp];exact⟨[],s,r,rfl,hp,(fun y hy=>by cases hy),by simp⟩
  ·rename_i hp;rw[Ef hp];obtain⟨F,x,T,e1,e2,e3,e4⟩:=JfQ h;refine⟨s :: F,x,T,by rw[e1];rfl,e2,fun y hy=>?_,by rw[e4,List.length_cons];omega⟩;rcases EE.1 hy with rfl | hy
   ·simpa using hp
   ·exact e3 y hy
theorem Jh9 (base G n c:Nat) (l:List Wr) (pv qv:Value) (p:Wr->Bool) (w:World) (ho:w.ownsRow base 70 4 (.slice (some ⟨G,0,none⟩) n c) n (wv l)) (hl:l.length=n) (hn:n<=1000000000) (hp:Jja w G pv qv p):
  Calls prog 189 #[.slice (some ⟨G,0,none⟩) n c,.func (.func 141) #[] #[pv,qv]] w fun e w'=>e=.returned (.int .i64 (ixV p 0 l))/\Bz w w':=by
 have HO:=Ja ho;have HP:=Ja hp;have HL:=Ja hl;clear ho hp hl;go_enter func189,ntmps189;go_wp2;go_loopw [8] (fun i wr=>∃(k:Nat),k<=n/\i=.int .i64 k/\Bz w wr/\Hid (ixV p 0 l=ixV p k (l.drop k))) (fun i _=>n - (intOf i).toNat)
 case atStart=>exact⟨0,by omega,rfl,Ec _ _,rfl⟩
 case round=>
  obtain⟨k,hk,rfl,hb,hf⟩:=hrel;by_cases hlt:k < n
  ·have hkl:k < l.length:=by rw[HL.out];omega
   obtain⟨h0,h1,h2,h3⟩:=ZL (Jf HO.out hb Zl) HL.out k hkl;have HD:=Ja (JlO p k l hkl);have H1:=HP.out wr (Kv hb _) (l[k]'hkl).1.1 (l[k]'hkl).1.2 (l[k]'hkl).2.1 (l[k]'hkl).2.2;have e9:(((l[k]'hkl).1.1,(l[k]'hkl).1.2),(l[k]'hkl).2.1,(l[k]'hkl).2.2)=l[k]'hkl:=rfl;rw[e9] at H1;generalize hz:p (l[k]'hkl)=z at H1 HD;generalize (l[k]'hkl).1.1=sc at h0 H1;generalize (l[k]'hkl).1.2=sn at h1 H1;generalize (l[k]'hkl).2.1=ob at h2 H1;generalize (l[k]'hkl).2.2=gn at h3 H1;have HB:=Ja hb;have HF:=Ja (hf.out.trans HD.out);have H1:=Ja H1;clear hz hb hf HD e9;cases z
   ·go_wp2_with (go_at_call 141;go_must (refine Jd H1.out fun w1 hb1=>?_));go_roundw
    case rel=>exact⟨k+1,by omega,by go_num,Jg HB.out hb1,by show _=_;rw[HF.out];rfl⟩
    case measure=>simp[intOf];omega
   ·go_wp2_with (go_at_call 141;go_must (refine Jd H1.out fun w1 hb1=>?_));go_ret;exact⟨by rw[HF.out];rfl,Jg HB.out hb1⟩
  ·obtain rfl:k=n:=by omega
   have HN:=Ja (show ixV p 0 l=-1 by rw[hf.out,Ed (by rw[HL.out];exact Ek _)];rfl);have HB:=Ja hb;clear hb hf;go_wp2;go_ret;exact⟨by rw[HN.out];rfl,HB.out⟩
theorem Jlp (P Q:List Wr) (x:Wr) (j:Nat) (h:j=P.length) (hj:j < (P++x :: Q).length):(P++x :: Q)[j]=x:=by subst h;simp
theorem JmD (P Q:List Wr) (y x:Wr) (j:Nat) (h:j=P.length):(P++y :: Q).set j x=P++x :: Q:=by
 subst h;rw[Fk _ _ Zl,GT];rfl
theorem JfN (base G n c:Nat) (l:List Wr) (pv qv:Value) (p:Wr->Bool) (w:World) (ho:w.ownsRow base 70 4 (.slice (some ⟨G,0,none⟩) n c) n (wv l)) (hl:l.length=n) (hn:n<=1000000000) (hp:Jja w G pv qv p):
  Calls prog 139 #[.slice (some ⟨G,0,none⟩) n c,.func (.func 141) #[] #[pv,qv]] w fun e w'=>∃i:Nat,e=.returned (.slice (some ⟨G,0,none⟩) i c)/\(l.filter fun x=>!p x).length=i/\w'.ownsRow base 70 4 (.slice (some ⟨G,0,none⟩) i c) i (wv (l.filter fun x=>!p x))/\w.grownBy w' (some G):=by
 have HI:=Ja (Jh9 base G n c l pv qv p w ho hl hn hp);have HP:=Ja hp;have HO:=Ja ho;have HL:=Ja hl;have HNC:=Ja (show n<=c by
  obtain⟨_,h | ⟨g,cap,cur,hv,_,_,hnc,_⟩⟩:=ho
  ·exact absurd h.1 (by simp)
  ·injection hv with _ _ hv3;omega)
 clear hp ho hl;by_cases hx:ixV p 0 l=-1
 ·have HF:=Ja (Jgt hx);rw[hx] at HI;clear hx;go_enter func139,ntmps139;go_wp2_with (go_at_call 189;go_must (refine Jd HI.out fun w1 hb1=>?_));go_ret;exact⟨n,rfl,by rw[HF.out];exact HL.out,by rw[HF.out];exact Jf HO.out hb1 Zl,Kv hb1 _⟩
 ·obtain⟨F,x,T,e1,e2,e3,e4⟩:=JfQ hx;rw[EU] at e4;rw[e4] at HI;have HFL:=Ja (show (l.filter fun x=>!p x)=F++T.filter fun x=>!p x by
   rw[e1,FD,Ge,e2,Ef (by simp),Gi.2 (fun y hy=>by rw[e3 y hy];rfl)])
  have HLL:=Ja (show F.length+1+T.length=n by rw[<-HL.out,e1];simp;omega);have HD:=Ja e1;clear hx e1 e2 e3 e4;obtain⟨i,hi⟩:∃i,i=F.length:=⟨_,rfl⟩;rw[<-hi] at HI;have hin:i < n:=by have:=HLL.out;omega
  have him:((i:Int) == -1)=false:=FX.2 (by omega);have him2:¬ (i:Int)=-1:=by omega
  have HIF:=Ja hi;clear hi;go_enter func139,ntmps139;go_wp2_with (go_at_call 189;go_must (refine Jd HI.out fun w1 hb1=>?_));have ho1:=Jf HO.out hb1 Zl;have hg1:=Kv hb1 (some G);go_loopw [5,6] (fun v5 v6 wr=>∃(i j:Nat) (F Y T:List Wr),v5=.int .i64 i/\v6=.int .i64 j/\i < j/\j<=n/\Hid (i=F.length/\j=F.length+Y.length/\j+T.length=n)/\Hid ((l.filter fun x=>!p x)=F++T.filter fun x=>!p x)/\Hid (wr.ownsRow base 70 4 (.slice (some ⟨G,0,none⟩) n c) n (wv (F++Y++T)))/\Hid (w.grownBy wr (some G))) (fun _ v6 _=>n - (intOf v6).toNat)
  case atStart=>exact⟨i,i+1,F,[x],T,rfl,by go_num,by omega,by omega,⟨HIF.out,by simp[HIF.out],by have:=HLL.out;have:=HIF.out;omega⟩,HFL,by show World.ownsRow _ _ _ _ _ _ _;rw[Er];rw[HD.out] at ho1;exact ho1,hg1⟩
  case round=>
   clear ho1 hg1 hb1;obtain⟨i,j,F,Y,T,rfl,rfl,hij,hjn,HN,HF,HW,HG⟩:=hrel;by_cases hlt:j < n
   ·obtain⟨x,T,rfl⟩:∃x T',T=x :: T':=by
     cases T with
     | nil=>have:=HN.out;simp at this;omega
     | cons x T'=>exact⟨x,T',rfl⟩
    obtain⟨y,Y,rfl⟩:∃y Y',Y=y :: Y':=by
     cases Y with
     | nil=>have:=HN.out;simp at this;omega
     | cons x T'=>exact⟨x,T',rfl⟩
    have hlen:(F++(y :: Y)++x :: T).length=n:=by have:=HN.out;simp at this ⊢;omega
    have hjl:j < (F++(y :: Y)++x :: T).length:=by omega
    have hil:i < (F++(y :: Y)++x :: T).length:=by omega
    obtain⟨h0,h1,h2,h3⟩:=ZL HW.out hlen j hjl;rw[Jlp (F++(y :: Y)) T x j (by have:=HN.out;simp at this ⊢;omega) hjl] at h0 h1 h2 h3;obtain⟨⟨sc,sn⟩,ob,gn⟩:=x;dsimp only at h0 h1 h2 h3;obtain⟨W1,hW1⟩:∃W1,W1=wr.alloc (.cells #[.int .i64 sc,.int .i64 sn,.int .i64 ob,.bool gn] 70):=⟨_,rfl⟩;have H1:=HP.out W1 (by rw[hW1];exact HG.out.trans (World.grownBy_alloc _ _ _)) sc sn ob gn;rw[hW1] at H1;have HBN:=Ja (Jm.new wr 70 #[.int .i64 sc,.int .i64 sn,.int .i64 ob,.bool gn]);have HOW:=Ja (show (wr.alloc (.cells #[.int .i64 sc,.int .i64 sn,.int .i64 ob,.bool gn] 70)).ownsRow base 70 4 (.slice (some ⟨G,0,none⟩) n c) n (wv (F++(y :: Y)++((sc,sn),ob,gn) :: T)) from HW.out.alloc _);have HGW:=Ja (HG.out.trans (World.grownBy_alloc wr (.cells #[.int .i64 sc,.int .i64 sn,.int .i64 ob,.bool gn] 70) _));have HF1:=HF.out;rw[Ge] at HF1;generalize p ((sc,sn),ob,gn)=z at H1 HF1;have H1:=Ja H1;have HF1:=Ja HF1;have hjz:(j:Int) < (n:Int):=by omega
    clear hW1;cases z
    ·go_wp2_with (go_at_call 141;go_must (refine Jd H1.out fun w2 hb2=>?_);obtain⟨b0,b1,b2,b3⟩:=(HBN.out.go hb2).four4;obtain⟨a0,a1,a2,a3⟩:=ZL (Jf HOW.out hb2 Zl) hlen i hil;have f0:=(Jf HOW.out hb2 Zl).frozenAt (i * 4);have f1:=(Jf HOW.out hb2 Zl).frozenAt (i * 4+1);have f2:=(Jf HOW.out hb2 Zl).frozenAt (i * 4+2);have f3:=(Jf HOW.out hb2 Zl).frozenAt (i * 4+3);have HS:=Ja (Jgq (Jf HOW.out hb2 Zl) hlen i (by omega) ((sc,sn),ob,gn));have HK:=Ja (HGW.out.trans (Kv hb2 (some G)));clear hb2;generalize (F++(y :: Y)++((sc,sn),ob,gn) :: T)[i].1.1=o0 at a0;generalize (F++(y :: Y)++((sc,sn),ob,gn) :: T)[i].1.2=o1 at a1;generalize (F++(y :: Y)++((sc,sn),ob,gn) :: T)[i].2.1=o2 at a2;generalize (F++(y :: Y)++((sc,sn),ob,gn) :: T)[i].2.2=o3 at a3);go_roundw
     case rel=>
      refine⟨i+1,j+1,F++[((sc,sn),ob,gn)],Y++[((sc,sn),ob,gn)],T,by go_num,by go_num,by omega,by omega,by have:=HN.out;exact Ja (by simp at this ⊢;omega),by show _=_;rw[HF1.out];simp,?_,HK.out.trans HS.out.2⟩;have h9:=HS.out.1;rw[Er,List.cons_append,JmD F _ _ _ i HN.out.1] at h9;show World.ownsRow _ _ _ _ _ _ _;have e9:F++[((sc,sn),ob,gn)]++(Y++[((sc,sn),ob,gn)])++T=F++((sc,sn),ob,gn) :: (Y++((sc,sn),ob,gn) :: T):=by simp
      rw[e9];exact h9
     case measure=>simp[intOf];omega
    ·go_wp2_with (go_at_call 141;go_must (refine Jd H1.out fun w2 hb2=>?_));go_roundw
     case rel=>
      refine⟨i,j+1,F,(y :: Y)++[((sc,sn),ob,gn)],T,rfl,by go_num,by omega,by omega,by have:=HN.out;exact Ja (by simp at this ⊢;omega),by show _=_;rw[HF1.out];simp,?_,HGW.out.trans (Kv hb2 _)⟩;show World.ownsRow _ _ _ _ _ _ _;have e9:F++((y :: Y)++[((sc,sn),ob,gn)])++T=F++(y :: Y)++((sc,sn),ob,gn) :: T:=by simp
      rw[e9];exact Jf HOW.out hb2 Zl
     case measure=>simp[intOf];omega
   ·obtain rfl:j=n:=by omega
    have hT:T=[]:=FV.1 (by have:=HN.out;omega);subst hT;have HF2:=Ja (show (l.filter fun x=>!p x)=F by rw[HF.out];simp);have hW:=HW.out;rw[EG] at hW;have hiF:=HN.out.1;have hnc:=HNC.out;have hlen:(F++Y).length=j:=by have:=HN.out;simp at this ⊢;omega
    obtain⟨vs,hcl⟩:=JhX wr G j (c - i) i hij (fun t ht=>by rw[hW.cellAt t ht,Em (by rw[Yp,hlen];exact ht)];rfl) (fun t=>hW.frozenAt t);have hfr:=fun W=>Yh (P:=prog) W 24 70 4 underlying24 Ke (some ⟨G,0,none⟩) j c .i64 i i rfl (by omega);rw[show Qu 4 (some ⟨G,0,none⟩) c i=some ⟨G,i * 4,none⟩ by unfold Qu;rw[Ef (by omega)];simp[Addr.add];omega] at hfr;have hup:=fun W=>JaM (P:=prog) W 24 70 4 underlying24 Ke (some ⟨G,0,none⟩) j c .i64 i i rfl (by omega);have HE:=Ja (Jd1 rfl vs (i * 4) wr (by omega) (Jk3 hW));have HI2:=Ja hiF;clear hW hiF hlen hnc;go_wp2;go_ret;refine⟨i,rfl,by rw[HF2.out];exact HI2.out.symm,?_,HG.out.trans HE.out.2⟩;rw[HF2.out,HI2.out];have h9:=HE.out.1;rw[HI2.out] at h9;exact h9
theorem Jdy (X:OA) (xc:Nat) (ob:Int) (x:Wq.Bd) (Bx:Nat) (w:World) (hx:w.cell? ⟨Bx,2,none⟩=some (.int .i64 ob)):
  Calls prog 145 #[.agg (JO x X xc),.pointer (some ⟨Bx,0,none⟩)] w fun e w'=>e=.returned (.bool (decide (x.o=ob)))/\Bz w w':=by
 have hlt:=Ep _ _ hx;have hb0:Bz w (w.alloc (.cells (JO x X xc) 31)):=Zr.alloc Zl _;have hc:=(hb0.cell (p:=⟨Bx,2,none⟩) hlt).trans hx;obtain⟨o,⟨a,b⟩,v⟩:=x;unfold JO at hc hb0 ⊢;dsimp only at hc hb0 ⊢;generalize v.length=m at hc hb0 ⊢;have HB:=Ja hb0;clear hb0;by_cases h:o=ob
 ·subst h;have HZ:=Ja (show decide (o=o)=true from Eu rfl);rw[HZ.out];go_enter func145,ntmps145;go_wp2;go_ret;exact⟨rfl,HB.out⟩
 ·have HZ:=Ja (show decide (o=ob)=false from Ew h);have hbq:(o == ob)=false:=FX.2 h;rw[HZ.out];go_enter func145,ntmps145;go_wp2;go_ret;exact⟨rfl,HB.out⟩
theorem Jik (D:OA) (m d:Nat) (ob:Int) (M:List (BV×Wq.Bd)) (Bx:Nat) (w:World) (hx:w.cell? ⟨Bx,2,none⟩=some (.int .i64 ob)) (hM:QI w w.heap.size D m d M):
  Calls prog 144 #[.slice D m d,.func (.func 145) #[] #[.pointer (some ⟨Bx,0,none⟩)]] w fun e w'=>e=.returned (.int .i64 (ixB (fun x:Wq.Bd=>decide (x.o=ob)) 0 (JG M)))/\Bz w w':=by
 have hmax:=hM.max;have hBx:=Ep _ _ hx;have HXC:=Ja hx;have HL:=Ja hM.len;have HW:=Ja fun (W:World) (hb:Bz w W) k (hk:k < M.length)=>(hM.below hb).body hk;have HT:=Ja fun (W:World) (hb:Bz w W) (X:OA) (xc:Nat) (x:Wq.Bd)=>Jdy X xc ob x Bx W ((hb.cell (p:=⟨Bx,2,none⟩) hBx).trans hx);clear hx hM;generalize ht:(fun x:Wq.Bd=>decide (x.o=ob))=t;have ht2:∀x:Wq.Bd,(decide (x.o=ob))=t x:=fun x=>by rw[<-ht]
 simp only[ht2] at HT;clear ht ht2;have HD:=Ja fun k h=>Jgk t k (JG M) h;go_enter func144,ntmps144;go_wp2;go_loopw [8] (fun i wr=>∃(k:Nat),k<=m/\i=.int .i64 k/\Bz w wr/\Hid (ixB t 0 (JG M)=ixB t k ((JG M).drop k))) (fun i _=>m - (intOf i).toNat)
 case atStart=>exact⟨0,by omega,rfl,Ec _ _,rfl⟩
 case round=>
  obtain⟨k,hk,rfl,hb,hf⟩:=hrel;by_cases hlt:k < m
  ·have hkl:k < M.length:=by rw[HL.out];omega
   have hkb:k < (JG M).length:=by rw[Jt];exact hkl
   obtain⟨b,o,rfl,hab,g0,g1,g2,g3⟩:=HW.out wr hb k hkl;have HF:=hf.out.trans (HD.out k hkb);rw[Xr M k hkl] at HF;have H1:=HT.out wr hb M[k].1.A M[k].1.c M[k].2;generalize t M[k].2=z at H1 HF;unfold JO at H1;generalize M[k].2.o=x0 at g0 H1;generalize M[k].2.s.1=x1 at g1 H1;generalize M[k].2.s.2=x2 at g2 H1;generalize M[k].2.v.length=q at g3 H1;generalize M[k].1.A=x3 at g3 H1;generalize M[k].1.c=x4 at g3 H1;have HB:=Ja hb;have H1:=Ja H1;have HF:=Ja HF;clear hb hf;cases z
   ·go_wp2_with (go_at_call 145;go_must (refine Jd H1.out fun w1 hb1=>?_));go_roundw
    case rel=>exact⟨k+1,by omega,by go_num,Jg HB.out hb1,by show _=_;rw[HF.out];rfl⟩
    case measure=>simp[intOf];omega
   ·go_wp2_with (go_at_call 145;go_must (refine Jd H1.out fun w1 hb1=>?_));go_ret;exact⟨by rw[HF.out];rfl,Jg HB.out hb1⟩
  ·obtain rfl:k=m:=by omega
   have HN:=Ja (show ixB t 0 (JG M)=-1 by rw[hf.out,Ed (by rw[Jt,HL.out];omega)];rfl);have HB:=Ja hb;clear hb hf;go_wp2;go_ret;exact⟨by rw[HN.out];rfl,HB.out⟩
theorem JcV (t:Wq.Bd->Bool):∀(k:Nat) (l:List Wq.Bd),ixB t k l=match l.findIdx? t with
  | none=>-1
  | some i=>((k+i:Nat):Int)
 | _,[]=>rfl
 | k,s :: r=>by
  rw[ixB,List.findIdx?_cons];by_cases h:t s=true
  ·rw[Ei h,h];simp
  ·rw[Ef h,JcV t (k+1) r];have h':t s=false:=by simpa using h
   rw[h']
   cases r.findIdx? t with
   | none=>rfl
   | some i=>show ((k+1+i:Nat):Int)=((k+(i+1):Nat):Int);congr 1;omega
theorem Jko (M:List (BV×Wq.Bd)) (i:Nat) (h:i < M.length):(KU M).take (i * 4)++(KU M).drop ((i+1) * 4)=KU (M.eraseIdx i):=by
 have e1:(KU M).take (i * 4)=KU (M.take i):=by
  have e:KU M=KU (M.take i)++KU (M.drop i):=by rw[<-JaY,EZ]
  rw[e,ET (by rw[Uc,Et];omega),Eo (by rw[Uc,Et];omega)]
 have e2:(KU M).drop ((i+1) * 4)=KU (M.drop (i+1)):=by
  have e:KU M=KU (M.take (i+1))++KU (M.drop (i+1)):=by rw[<-JaY,EZ]
  rw[e,FY (by rw[Uc,Et];omega),Ed (by rw[Uc,Et];omega),List.nil_append]
 rw[e1,e2,<-JaY,List.eraseIdx_eq_take_drop_succ]
theorem JZ.erase {w w':World} {base G k c:Nat} {M:List (BV×Wq.Bd)} (h:JZ w base (some ⟨G,0,none⟩) (k+1) c M) {i:Nat} (hi:i < M.length) (ho:w'.ownsRow base 31 4 (.slice (some ⟨G,0,none⟩) k c) k ((KU M).take (i * 4)++(KU M).drop ((i+1) * 4))) (hg:w.grownBy w' (some G)):
  JZ w' base (some ⟨G,0,none⟩) k c (M.eraseIdx i):=
 ⟨by rw[<-Jko M i hi];exact ho,fun p hp=>(h.el p (List.mem_of_mem_eraseIdx hp)).kept hg (Qb (h.el p (List.mem_of_mem_eraseIdx hp)) h.row (by decide))⟩
theorem Jki (M:List (BV×Wq.Bd)) (i:Nat):JG (M.eraseIdx i)=(JG M).eraseIdx i:=by
 unfold JG;rw[List.eraseIdx_eq_take_drop_succ,List.eraseIdx_eq_take_drop_succ,GM,List.map_take,Ro]
open Wq
def YS (room:Int):List Bd->List Bd
 | []=>[]
 | x :: r=>if room < (JC (x :: r):Int) then YS room r else x :: r
theorem JhY (room:Int) (l:List Bd) (k:Nat) (h:k < l.length):YS room (l.drop k)=if room < (JC (l.drop k):Int) then YS room (l.drop (k+1)) else l.drop k:=by
 rw[Eh h,YS]
theorem JgT {room:Int} {l:List Bd} (h:¬ room < (JC l:Int)):YS room l=l:=by
 cases l with
 | nil=>rfl
 | cons x r=>rw[YS,Ef h]
def Jgv (l:List Bd) (room:Int) (x:Bd):List Bd:=YS room (l.filter (fun y=>!decide (y.o=x.o))++[x])
def Yo (v:Vw) (n:Nt):List Wr:=n.w.filter (Ue (tkZ v.zones v.known n) (Qj v.known n))
def XA (v:Vw) (n:Nt):Vw:=⟨Qj v.known n,tkZ v.zones v.known n,XJ v.held (Yo v n),v.bods.filter (JV (XJ v.held (Yo v n))),v.room⟩
def Ql (v:Vw) (n:Nt):Int:=if (Ut v && Yw n)=true then (if Za n v.known=true then 0 else 3) else 1
def JaS (v:Vw) (x:Bd):Vw:=⟨v.known,v.zones,v.held,Jgv v.bods v.room x,v.room⟩
def Xq (v:Vw) (x:Bd):Int:=if (Ut v && bdF x)=true then (if JV v.held x=true then 0 else 13) else 1
theorem Jas (known:List Vc.St) (x:Zn):QU known x=true↔Xj known x.2=true/\Xj x.2 known=false:=by
 unfold QU Oj Xj;cases QL (Vc.Jz x.2) (Vc.Jz known)<;>cases QL (Vc.Jz known) (Vc.Jz x.2)<;>simp
theorem JdU (v:List Vc.St):Xj v v=true:=(Yr _ _).2 fun _ _=>Gt _
theorem Jes {z:List Zn} {o:Int} {v:List Vc.St} (h:JD z o=some v):∃x∈z,x.2=v:=by
 unfold JD at h;rcases hf:z.find? (Xg o) with _ | y
 ·rw[hf] at h;cases h
 ·rw[hf] at h;injection h with h;exact⟨y,List.mem_of_find?_eq_some hf,h⟩
theorem JbN {z:List Zn} {known:List Vc.St} (h:z.all (QU known)=true) (o:Int):Xj known (Qd z known o)=true:=by
 rw[Og];rcases ht:JD z o with _ | v
 ·exact JdU _
 ·obtain⟨x,hx,rfl⟩:=Jes ht;exact((Jas _ _).1 (Fg.1 h x hx)).1
theorem Ji3 {known:List Vc.St} (h:fm (-1) known=true):Qj known ntz=known:=by
 refine JiH (YF _) h fun n hn=>?_;rw[Ow _ _ hn];show max (Vc.Jz known n) (Vc.Jz [] n)=_;have:=Vc.Qv known n;have h0:Vc.Jz [] n=0:=rfl;omega
theorem JkW (o:Int):Yx [] o=false:=by unfold Yx;simp[Sn.Jca]
theorem Jn8 {z:List Zn} {known:List Vc.St} (h:zF (-1) none z=true) (hk:fm (-1) known=true) (ha:z.all (QU known)=true):tkZ z known ntz=z:=by
 refine JoB h (fun o v e=>JeR h hk _ o v e) fun o ho=>?_;have e:Kl z known ntz (o:Int)=Qd z known (o:Int):=by
  unfold Kl;rw[show ntz.b=[] from rfl,JkW];show XM (YG (Qd z known (o:Int)) [] [])=_;refine JiH (YF _) (ZJ h hk _) fun n hn=>?_;rw[ZQ _ _ _ hn];have:=Vc.Qv (Qd z known (o:Int)) n;have h0:Vc.Jz [] n=0:=rfl;unfold YG;split<;>omega
 unfold tkF;rw[e,Ji3 hk,Og];rcases ht:JD z (o:Int) with _ | v
 ·rw[Option.getD_none,JdU,Ei rfl]
 ·obtain⟨x,hx,rfl⟩:=Jes ht;rw[Option.getD_some,((Jas _ _).1 (Fg.1 ha x hx)).2];rfl
structure VwP (v:Vw):Prop where
 k:fm (-1) v.known=true
 z:zF (-1) none v.zones=true
 h:Xu (-1) v.held=true
 r:0<=v.room/\v.room<=16777216
 n:v.bods.length<=256
 a:Qz [] v.bods=true
 u:(JC v.bods:Int)<=v.room
 za:v.zones.all (QU v.known)=true
 ha:v.held.all (Ue v.zones v.known)=true
 ba:v.bods.all (JV v.held)=true
theorem JaK (v:Vw):Ut v=true↔VwP v:=by
 unfold Ut caF;simp only[Ea,Ej];constructor
 ·rintro⟨⟨a,b,c,⟨d,e,f⟩,g,h⟩,i,j,k⟩;exact⟨a,b,c,⟨d,e⟩,f,g,h,i,j,k⟩
 ·rintro⟨a,b,c,⟨d,e⟩,f,g,h,i,j,k⟩;exact⟨⟨a,b,c,⟨d,e,f⟩,g,h⟩,i,j,k⟩
theorem JaN {l:List Wr} (h:Xu (-1) l=true):XJ l []=l:=(Jl5 h fun _=>rfl).symm
theorem Jjs {v:Vw} (h:Ut v=true):XA v ntz=v:=by
 have p:=(JaK v).1 h;have e:Yo v ntz=[]:=rfl;unfold XA;rw[e,JaN p.h,Ji3 p.k,Jn8 p.z p.k p.za,Gi.2 fun x hx=>Fg.1 p.ba x hx]
theorem OD:∀(l:List Bd) (Xm:List Int),Qz Xm l=true↔(∀x∈l,bdF x=true/\x.o ∉ Xm)/\l.Pairwise fun a b=>a.o≠b.o
 | [],Xm=>by simp[Qz]
 | y :: r,Xm=>by
  rw[Qz];simp only[Ea,Gv,List.contains_eq_mem,EI];rw[OD r,Fp,List.forall_mem_cons];constructor
  ·rintro⟨⟨a,b⟩,c,d⟩;refine⟨⟨⟨b,a⟩,fun x hx=>⟨(c x hx).1,fun hs=>(c x hx).2 (EB.2 (.inl hs))⟩⟩,fun x hx e=>(c x hx).2 (EB.2 (.inr (by rw[e];exact Ez.2 rfl))),d⟩
  ·rintro⟨⟨⟨a,b⟩,c⟩,d,e⟩;refine⟨⟨b,a⟩,fun x hx=>⟨(c x hx).1,fun hs=>?_⟩,e⟩;rcases EB.1 hs with hs | hs
   ·exact(c x hx).2 hs
   ·exact d x hx (Ez.1 hs).symm
theorem Kt:∀{l m:List Bd},l.Sublist m->JC l<=JC m
 | _,_,.slnil=>Ek _
 | _,_,.cons a h=>by rw[JC];have:=Kt h;omega
 | _,_,.cons_cons a h=>by rw[JC,JC];have:=Kt h;omega
theorem Jni {l m:List Bd} (h:l.Sublist m) (h1:Qz [] m=true):Qz [] l=true:=by
 rw[OD] at h1 ⊢;exact⟨fun x hx=>h1.1 x (h.subset hx),h1.2.sublist h⟩
theorem JiA {e:List Vc.St} {b:List Sn.Sp}:∀{l:List Wr} {last:Int},ntW e b last l=true->∀w∈l,wrR w=true
 | [],_,_,w,hw=>by cases hw
 | x :: r,last,h,w,hw=>by
  rw[ntW,Ea,JiL] at h;rcases EE.1 hw with rfl | hw
  ·have h1:=h.1;simp only[Ea,Ej] at h1;rw[Zi];refine⟨h1.2.1,?_⟩;have h2:=h1.1;unfold QD at h2;rw[Ea] at h2;exact h2.1
  ·exact JiA h.2 w hw
theorem Ja4 {n:Nt} (h:Yw n=true):∀w∈n.w,wrR w=true:=by
 unfold Yw at h;rw[Ea] at h;exact JiA h.2
theorem Jdj:∀{z:List Zn} {e:Int} {p:Option (List Vc.St)},zF e p z=true->∀x∈z,JD z x.1.1=some x.2/\e < x.1.1/\x.1.1<=x.1.2/\x.1.2<=255
 | [],_,_,_,x,hx=>by cases hx
 | y :: r,e,p,h,x,hx=>by
  rw[zF,Ea] at h;obtain⟨a,b,c,d⟩:=Qo h.1;rcases EE.1 hx with rfl | hx
  ·refine⟨?_,a,b,c⟩;unfold JD;rw[List.find?_cons,show Xg x.1.1 x=true from Qc.2 ⟨Gt _,b⟩];rfl
  ·obtain⟨f1,f2,f3,f4⟩:=Jdj h.2 x hx;refine⟨?_,by omega,f3,f4⟩;rw[<-f1];unfold JD;rw[List.find?_cons,show Xg x.1.1 y=false from Bool.eq_false_iff.2 fun hq=>by have:=Qc.1 hq;omega]
theorem JlK {z:List Zn} {known:List Vc.St} (x:Nt) (o:Int) (h:Xj known (Qd z known o)=true):Xj (Qj known x) (Kl z known x o)=true:=by
 have h1:Xj (Qj known x) (Qd z known o)=true:=by
  rw[Yr] at h ⊢;intro n hn;rw[Ow _ _ hn];have:=h n hn;omega
 unfold Kl;split
 ·exact h1
 ·refine JeL (fun u=>Xj (Qj known x) u=true) o ?_ h1;rw[Yr] at h ⊢;intro n hn;rw[Ow _ _ hn,ZQ _ _ _ hn];have:=h n hn;unfold YG;split<;>omega
theorem Jd8:∀{t:List Wr} {f:Int->Option Wr} {o:Int} {w:Wr},t.foldl QZ f o=some w->w∈t\/f o=some w
 | [],f,o,w,h=>.inr h
 | x :: t,f,o,w,h=>by
  rw[List.foldl_cons] at h;rcases Jd8 h with h | h
  ·exact .inl (ER _ h)
  ·unfold QZ at h
   split at h
   ·split at h
    ·injection h with h;subst h;exact .inl (EW ..)
    ·rename_i u hu
     split at h
     ·injection h with h;subst h;exact .inl (EW ..)
     ·exact .inr (hu.trans h)
   ·exact .inr h
theorem Jbo {v:Vw} {n:Nt} (hv:Ut v=true) (hn:Yw n=true):Ut (XA v n)=true:=by
 have p:=(JaK v).1 hv;have ht:∀w∈Yo v n,wrR w=true:=fun w hw=>Ja4 hn w (Ga.1 hw).1;have ok:=Ja5 (Jdi p.h) ht;have hz:=Joo p.z p.k n;refine(JaK _).2 ⟨YF _,hz,JoZ ok,p.r,?_,Jni List.filter_sublist p.a,?_,?_,?_,?_⟩
 ·exact EY (GJ _ _) p.n
 ·have:=Kt (List.filter_sublist (p:=JV (XJ v.held (Yo v n))) (l:=v.bods));have:=p.u;show (JC (v.bods.filter _):Int)<=v.room;omega
 ·refine Fg.2 fun x hx=>?_;obtain⟨t1,t2,t3,t4⟩:=Jdj hz x hx;rw[Jek p.z p.k,Ei (by omega)] at t1;unfold tkF at t1
  split at t1
  ·cases t1
  ·rename_i hc;injection t1 with t1;rw[Jas,<-t1];exact⟨JlK _ _ (JbN p.za _),Bool.eq_false_iff.2 hc⟩
 ·refine Fg.2 fun w hw=>?_;have hf:(Yo v n).foldl QZ (Xy v.held) w.2.1=some w:=(JaA ok w).1 hw;have hr:=(Zi w).1 (ok _ _ hf).2;rcases Jd8 hf with h | h
  ·exact(Ga.1 h).2
  ·have hm:=((QA ((YL _ _).1 p.h).2).1 h).1;have h1:=Fg.1 p.ha w hm;unfold Ue at h1 ⊢;have e:(w.2.1.toNat:Int)=w.2.1:=Fz hr.1.1;have h2:=(JhP p.z p.k (x:=n) w.2.1.toNat (by omega) (JbN p.za _)).1;rw[e] at h2;exact Jm5 ((Yr _ _).1 h2) h1
 ·exact Fg.2 fun x hx=>(Ga.1 hx).2
def JjE (x:Qw):Qw:=⟨1,x.note,bdz,0,[],vw0,[]⟩
def JjL (x:Qw):Qw:=⟨2,ntz,x.body,0,[],vw0,[]⟩
def Jbb (x:Qw):Qw:=⟨3,x.note,x.body,0,[],vw0,[]⟩
def JjC (x:Qw):Qw:=⟨4,ntz,bdz,x.from_,x.int,vw0,[]⟩
def Jkw (x:Qw):Qw:=⟨5,ntz,bdz,0,[],x.view,x.subs⟩
theorem Ox (x:Bd):XK x=true↔x=bdz:=⟨bareB_is,fun h=>by rw[h];rfl⟩
theorem Jay (x:Nt):Ya x=true↔x=ntz:=⟨emptyN_is,fun h=>by rw[h];rfl⟩
theorem OB (x:Qw):ZE x=true↔x.from_=0/\x.int=[]:=⟨noSub_is,fun h=>by unfold ZE;rw[h.1,h.2];rfl⟩
theorem Oz (x:Qw):ZB x=true↔x.view=vw0/\x.subs=[]:=⟨noChk_is,fun h=>by unfold ZB;rw[h.1,h.2];rfl⟩
theorem JaX (x:Qw) (k:Int) (n:Nt) (b:Bd) (f:Int) (i:List Sn.Sp) (v:Vw) (s:List Sb):x=⟨k,n,b,f,i,v,s⟩↔x.kind=k/\x.note=n/\x.body=b/\x.from_=f/\x.int=i/\x.view=v/\x.subs=s:=by
 obtain⟨a1,a2,a3,a4,a5,a6,a7⟩:=x;simp
theorem JoT (x:Qw) (h:x.kind=1):Zh x (JjE x)=(XK x.body && (ZE x && ZB x)):=by
 rw[EM,UZ,JjE,JaX,Ea,Ea,Ox,OB,Oz];exact⟨fun ⟨_,_,a,b,c,d,e⟩=>⟨a,⟨b,c⟩,d,e⟩,fun ⟨a,⟨b,c⟩,d,e⟩=>⟨h,rfl,a,b,c,d,e⟩⟩
theorem JoY (x:Qw) (h:x.kind=2):Zh x (JjL x)=(Ya x.note && (ZE x && ZB x)):=by
 rw[EM,UZ,JjL,JaX,Ea,Ea,Jay,OB,Oz];exact⟨fun ⟨_,a,_,b,c,d,e⟩=>⟨a,⟨b,c⟩,d,e⟩,fun ⟨a,⟨b,c⟩,d,e⟩=>⟨h,a,rfl,b,c,d,e⟩⟩
theorem Jpb (x:Qw) (h:x.kind=3):Zh x (Jbb x)=(ZE x && ZB x):=by
 rw[EM,UZ,Jbb,JaX,Ea,OB,Oz];exact⟨fun ⟨_,_,_,b,c,d,e⟩=>⟨⟨b,c⟩,d,e⟩,fun ⟨⟨b,c⟩,d,e⟩=>⟨h,rfl,rfl,b,c,d,e⟩⟩
theorem Jpm (x:Qw) (h:x.kind=4):Zh x (JjC x)=(Ya x.note && (XK x.body && ZB x)):=by
 rw[EM,UZ,JjC,JaX,Ea,Ea,Jay,Ox,Oz];exact⟨fun ⟨_,a,b,_,_,d,e⟩=>⟨a,b,d,e⟩,fun ⟨a,b,d,e⟩=>⟨h,a,b,rfl,rfl,d,e⟩⟩
theorem Jpl (x:Qw) (h:x.kind=5):Zh x (Jkw x)=(Ya x.note && (XK x.body && ZE x)):=by
 rw[EM,UZ,Jkw,JaX,Ea,Ea,Jay,Ox,OB];exact⟨fun ⟨_,a,b,d,e,_,_⟩=>⟨a,b,d,e⟩,fun ⟨a,b,d,e⟩=>⟨h,a,b,d,e,rfl,rfl⟩⟩
theorem Jn6 (x:Qw) (h:x.kind=1):Xd x=(Yw x.note && Zh x (JjE x)):=by
 rw[JoT x h];unfold Xd;rw[Ei h]
theorem Jn5 (x:Qw) (h:x.kind=2):Xd x=(bdF x.body && Zh x (JjL x)):=by
 rw[JoY x h];unfold Xd;rw[Ef (by rw[h];decide),Ei h];cases Ya x.note<;>cases bdF x.body<;>simp
theorem JhC (x:Qw) (h:x.kind=3):Xd x=(Zh x (Jbb x) && (match x.note.w with | [w]=>Yw x.note && Jbj w x.body | _=>false)):=by
 rw[Jpb x h];unfold Xd;rw[Ef (by rw[h];decide),Ef (by rw[h];decide),Ei h];rfl
theorem JeZ (x:Qw) (h:x.kind=4):Xd x=(((decide (0<=x.from_) && decide (x.from_<=63)) && Sn.Xp (-2) x.int) && Zh x (JjC x)):=by
 rw[Jpm x h];unfold Xd;rw[Ef (by rw[h];decide),Ef (by rw[h];decide),Ef (by rw[h];decide),Ei h];exact Bool.and_comm _ _
theorem JhN (x:Qw) (h:x.kind=5):Xd x=((Ut x.view && Qy x.subs) && Zh x (Jkw x)):=by
 rw[Jpl x h];unfold Xd;rw[Ef (by rw[h];decide),Ef (by rw[h];decide),Ef (by rw[h];decide),Ef (by rw[h];decide),Ei h];exact Bool.and_comm _ _
theorem JeS (x:Qw) (h:¬ (x.kind=1\/x.kind=2\/x.kind=3\/x.kind=4\/x.kind=5)):Xd x=false:=by
 unfold Xd;rw[Ef (by omega),Ef (by omega),Ef (by omega),Ef (by omega),Ef (by omega)]
def YO (x:Qw):Bool:=match x.note.w with
 | []=>false
 | w :: _=>!w.2.2
def JjB (v:Vw) (l:List Sb) (x:Qw):Int:=
 if x.kind=1 then Ql v x.note
 else if x.kind=2 then Xq v x.body
 else if x.kind=3 then (if Ql v x.note=0/\YO x=true then Xq (XA v x.note) x.body else Ql v x.note)
 else if x.kind=4 then (if (Ka l x.from_ x.int).length<=16 then 0 else 15)
 else 0
def Jkl (v:Vw) (x:Qw):Vw:=
 if x.kind=1 then XA v x.note
 else if x.kind=2 then JaS v x.body
 else if x.kind=3 then (if YO x=true then JaS (XA v x.note) x.body else XA v x.note)
 else if x.kind=4 then v
 else x.view
def Jm7 (l:List Sb) (x:Qw):List Sb:=
 if x.kind=4 then Ka l x.from_ x.int
 else if x.kind=5 then x.subs
 else l
def JbS (v:Vw) (l:List Sb) (x:Qw):Int:=if (Ut v && (Qy l && Xd x))=true then JjB v l x else 1
def JcP (v:Vw) (l:List Sb) (x:Qw):Vw:=if JbS v l x=0 then Jkl v x else vw0
def Ja6 (v:Vw) (l:List Sb) (x:Qw):List Sb:=if JbS v l x=0 then Jm7 l x else []
theorem Om {v:Vw} {n:Nt} (h:Ql v n=0):Ut v=true/\Yw n=true:=by
 unfold Ql at h
 split at h
 ·rename_i c;exact Ea .. ▸ c
 ·cases h
theorem JgD (fv:Value) (w:World):Calls prog 139 #[.slice none 0 0,fv] w fun e w'=>e=.returned (.slice none 0 0)/\w=w':=by
 have H1:=Ja fun (w:World)=>(show Calls prog 189 #[.slice none 0 0,fv] w fun e w'=>e=.returned (.int .i64 (-1))/\w=w' from by
  go_enter func189,ntmps189;go_wp2;go_loopw [8] (fun i wr=>i=.int .i64 0/\w=wr) (fun _ _=>0)
  case atStart=>exact⟨rfl,rfl⟩
  case round=>
   obtain⟨rfl,rfl⟩:=hrel;go_wp2;go_ret;exact⟨rfl,rfl⟩)
 go_enter func139,ntmps139;go_wp2_with (go_at_call 189;go_must (refine(H1.out _).mono ?_);rintro e w1 ⟨rfl,rfl⟩);go_ret;exact⟨rfl,rfl⟩
theorem Jfq (base n c:Nat) (A:OA) (l:List Wr) (pv qv:Value) (p:Wr->Bool) (w:World) (ho:w.ownsRow base 70 4 (.slice A n c) n (wv l)) (hl:l.length=n) (hn:n<=1000000000) (hp:∀G,A=some ⟨G,0,none⟩->Jja w G pv qv p):
  Calls prog 139 #[.slice A n c,.func (.func 141) #[] #[pv,qv]] w fun e w'=>∃i,e=.returned (.slice A i c)/\(l.filter fun x=>!p x).length=i/\w'.ownsRow base 70 4 (.slice A i c) i (wv (l.filter fun x=>!p x))/\w.grownBy w' (Value.slice A 0 0).ownBlock:=by
 rcases YN ho with ⟨rfl,rfl,rfl,h⟩ | ⟨G,rfl⟩
 ·have hl0:l=[]:=FV.1 hl;subst hl0;refine(JgD _ w).mono ?_;rintro e w' ⟨rfl,rfl⟩;exact⟨0,rfl,rfl,ho,Nj _ _⟩
 ·exact JfN base G n c l pv qv p w ho hl hn (hp G rfl)
theorem JZ.cells {w:World} {base G k c:Nat} {L:List (BV×Wq.Bd)} (h:JZ w base (some ⟨G,0,none⟩) k c L) {i:Nat} (hi:i < L.length):
  w.cell? ⟨G,i * 4,none⟩=some (.int .i64 L[i].2.o)/\w.cell? ⟨G,i * 4+1,none⟩=some (.int .i64 L[i].2.s.1)/\w.cell? ⟨G,i * 4+2,none⟩=some (.int .i64 L[i].2.s.2)/\w.cell? ⟨G,i * 4+3,none⟩=some (.slice L[i].1.A L[i].2.v.length L[i].1.c):=by
 have hl:=h.len;have e:∀j,j < 4->∀u,(bvl L[i])[j]?=some u->w.cell? ⟨G,i * 4+j,none⟩=some u:=fun j hj u hu=>by
  rw[h.row.cellAt (i * 4+j) (by omega),Jlc L i hi j hj];exact hu
 exact⟨e 0 (by decide) _ rfl,e 1 (by decide) _ rfl,e 2 (by decide) _ rfl,e 3 (by decide) _ rfl⟩
def TkV (w:World) (E:Int) (V:Vw) (e:Ending) (w':World):Prop:=∃u',e=.returned (.tuple #[.agg (Jy V u'),.int .i64 E])/\(∃L M,JU w' w'.heap.size u' V L M)/\Bz w w'
def UE:VV:=⟨none,0,none,0,none,0,none,0⟩
theorem JhM (w:World) (B:Nat):JU w B UE Wq.vw0 [] []:=⟨Rd.none_,Zc.none_ _ _,rfl,Rd.none_,QI.none_ _ _,rfl⟩
theorem TkV.no {w w':World} {E:Int} (hb:Bz w w'):TkV w E Wq.vw0 (.returned (.tuple #[.agg #[.slice none 0 0,.slice none 0 0,.slice none 0 0,.slice none 0 0,.int .i64 0],.int .i64 E])) w':=⟨UE,rfl,⟨[],[],JhM _ _⟩,hb⟩
theorem Jbp {v:Vw} (hv:Ut v=true) (x:Nt):tkE v.zones v.known x=Ql v x:=by
 obtain⟨h1,h2,_,_⟩:=Wq.QY hv;unfold tkE Ql;rw[h1,h2,hv];simp
theorem JgB {v:Vw} {x:Nt} (h:Ql v x=0):(x.w.filter fun q=>!(!(QD (JQ (tkZ v.zones v.known x) (Qj v.known x) q.2.1) q.1)))=Yo v x:=by
 obtain⟨hv,hx⟩:=Om h;have hf:=Jbo hv hx;obtain⟨h1,h2,_,_⟩:=Wq.QY hf;unfold Yo;refine List.filter_congr fun q hq=>?_;have hr:=((Zi _).1 (Ja4 hx q hq)).1;rw[Bool.not_not,Uq (z:=tkZ v.zones v.known x) (known:=Qj v.known x) h2 h1 hr];rfl
def Jfo:Array Value:=#[.int .i64 0,.slice none 0 0,.slice none 0 0,.slice none 0 0,.slice none 0 0,.int .i64 0,.int .i64 0,.int .i64 0,.slice none 0 0,.int .i64 0,.slice none 0 0,.slice none 0 0,.slice none 0 0,.slice none 0 0,.slice none 0 0,.int .i64 0,.slice none 0 0]
theorem Jj2 (w:World):(Instr.typeAssert .nilIface 20 82 true).run prog w=.ok (.tuple #[.agg #[],.bool false]) w:=rfl
theorem Jhx (p q:Addr) (w:World):
  CallsD prog 47 #[.pointer (some p),.pointer (some q)] .returning w fun e u' w'=>e=.returned (.tuple #[])/\u'=.returning/\Bz w w':=by
 refine callsD_of_wpS func47 rfl fun c₀ cs hu=>?_;apply wpS_seq;apply wpS_region;simp[wpOpsS,go_sem,recoverD,hu,ntmps47,Exit.thenS,Jj2];apply wpS_seq;apply wpS_region;simp[wpOpsS,go_sem,Exit.thenS];refine wpS_cond (t:=false) (by simp[Act.eval,Array.replicate]) ?_;simp only[Nm,if_false];refine wpS_of_wp (wp_skip ?_);cases c₀
 simp_all [bodyPostS,results,Tryz.results47]
 exact Zr.alloc Zl _
theorem Jos {P:Program} {fn:Func} {p q:Tmp} {ty ty2:TypeId} (h:fn.results=#[.cell p ty,.cell q ty2]) (tmps:Array Value) (w:World) (g g2:Nat) (t t2:TypeId) (cs:Array Value) (z:Value) (fr fr2:Nat×Nat) (d d2:TypeDesc)
  (hp:tmps.getD p undef=.pointer (some ⟨g,0,none⟩)) (hg:w.heap[g]?=some (.cells cs t fr))
  (hu:P.underlying ty=some d) (hd:(match d with | .struct _ | .array _ _=>true | _=>false)=true) (hi:(P.info? ty).map (·.size)=some cs.size)
  (hq:tmps.getD q undef=.pointer (some ⟨g2,0,none⟩)) (hg2:w.heap[g2]?=some (.cells #[z] t2 fr2))
  (hu2:P.underlying ty2=some d2) (hd2:(match d2 with | .struct _ | .array _ _=>true | _=>false)=false):
  (results fn tmps).run P w=.ok (.tuple #[.agg cs,z]) w:=by
 have hp':tmps[p]?.getD undef=.pointer (some ⟨g,0,none⟩):=by simpa using hp
 have hq':tmps[q]?.getD undef=.pointer (some ⟨g2,0,none⟩):=by simpa using hq
 have hc:w.cell? ⟨g2,0,none⟩=some z:=by rw[Nx w g2 0 #[z] t2 fr2 hg2];rfl
 have hagg:(isAgg ty2).run P w=.ok false w:=by
  unfold isAgg;rw[Sem.run_bind,FR hu2 w];cases d2<;>simp_all
 have hl:(loadVar ty2 ⟨g2,0,none⟩).run P w=.ok z w:=by
  simp[loadVar,Sem.run_bind,hagg,go_sem,hc]
 simp[results,h,hp',hq',asAddr,run_loadVar_row w g t ty cs fr d hg hu hd hi,hl]
structure EC (W:World) (X base:Nat) (u:EV) (x:Qw) (L:List (ZV×Zn)) (M:List (BV×Wq.Bd)) (S:List (SV×Sb)):Prop where
 blk:Jm W X 38 (eval x u)
 nt:Zd W base u.nv x.note
 bd:W.ownsRow base 5 1 (.slice u.bA x.body.v.length u.bc) x.body.v.length (bv x.body.v)
 it:W.ownsRow base 63 2 (.slice u.iA x.int.length u.ic) x.int.length (sv x.int)
 vw:Yq W base u.vv x.view L M
 sb:JY W base u.sA x.subs.length u.sc S
 ns:JK S=x.subs
theorem Zd.kp {w w':World} {base:Nat} {t:TypeId} {v:NV} {n:Nt} (h:Zd w base v n) (k:Kp t w w') (h1:28≠t) (h2:63≠t) (h3:70≠t):Zd w' base v n:=
 ⟨h.l1,k _ _ _ _ _ _ h1 h.o1,h.l2,k _ _ _ _ _ _ h1 h.o2,h.l3,k _ _ _ _ _ _ h2 h.o3,h.l4,k _ _ _ _ _ _ h3 h.o4⟩
theorem JY.kp {w w':World} {base k c:Nat} {t:TypeId} {A:OA} {S:List (SV×Sb)} (h:JY w base A k c S) (q:Kp t w w') (h1:65≠t) (h2:63≠t):JY w' base A k c S:=
 ⟨q _ _ _ _ _ _ h1 h.row,fun p hp=>q _ _ _ _ _ _ h2 (h.el p hp)⟩
structure ES (w W:World) (X:Nat) (cur:List UInt8) (u:EV) (x:Qw) (L:List (ZV×Zn)) (M:List (BV×Wq.Bd)) (S:List (SV×Sb)):Prop extends EC W X (X+3) u x L M S where
 err:Jm W (X+1) 40 #[.int .i64 0]
 tr:TR W (X+2) X cur
 out:Below X w W
 hX:X=w.heap.size
theorem JF.grown {g:Nat} {W W':World} (hg:W.grownBy W' (some g)):JF g W W':=⟨hg.os,hg.tape,hg.output,hg.size,fun k hk hn=>hg.block k hk (fun e=>hn (Fq e))⟩
section
variable {W W':World} {X base g:Nat} {u:EV} {x:Qw} {L:List (ZV×Zn)} {M:List (BV×Wq.Bd)} {S:List (SV×Sb)}
theorem EC.call (h:EC W X base u x L M S) (hb:JF g W W') (h1:X≠g) (h2:g < base):EC W' X base u x L M S:=
 ⟨h.blk.but hb h1,h.nt.but hb h2,Qf h.bd hb h2,Qf h.it hb h2,h.vw.but hb h2,h.sb.but hb h2,h.ns⟩
theorem EC.grow (h:EC W X base u x L M S) (hb:Bz W W'):EC W' X base u x L M S:=
 ⟨h.blk.go hb,h.nt.below hb,Jf h.bd hb Zl,Jf h.it hb Zl,h.vw.below hb,h.sb.below hb,h.ns⟩
theorem EC.put {u':EV} {x':Qw} (h:EC W X base u x L M S) (hu:JF X W W') (hblk:Jm W' X 38 (eval x' u'))
  (hn:Zd W base u'.nv x'.note) (hb:W.ownsRow base 5 1 (.slice u'.bA x'.body.v.length u'.bc) x'.body.v.length (bv x'.body.v)) (hi:W.ownsRow base 63 2 (.slice u'.iA x'.int.length u'.ic) x'.int.length (sv x'.int))
  {L':List (ZV×Zn)} {M':List (BV×Wq.Bd)} (hv:Yq W base u'.vv x'.view L' M') {S':List (SV×Sb)} (hs:JY W base u'.sA x'.subs.length u'.sc S') (hns:JK S'=x'.subs):JF X W W'/\EC W' X base u' x' L' M' S':=
 have k:=Kp.blk h.blk hu
 ⟨hu,hblk,hn.kp k (by decide) (by decide) (by decide),k _ _ _ _ _ _ (by decide) hb,k _ _ _ _ _ _ (by decide) hi,hv.kp k (by decide) (by decide) (by decide) (by decide) (by decide),hs.kp k (by decide) (by decide),hns⟩
theorem EC.kind_ (h:EC W X base u x L M S) (k:Int):JF X W (W.setCell ⟨X,0,none⟩ (.int .i64 k))/\EC (W.setCell ⟨X,0,none⟩ (.int .i64 k)) X base ⟨u.nv,u.bA,u.bc,u.iA,u.ic,u.vv,u.sA,u.sc⟩ ⟨k,x.note,x.body,x.from_,x.int,x.view,x.subs⟩ L M S:=
 h.put (u':=⟨u.nv,u.bA,u.bc,u.iA,u.ic,u.vv,u.sA,u.sc⟩) (x':=⟨k,x.note,x.body,x.from_,x.int,x.view,x.subs⟩) (JF.set_ (g:=X) W (p:=⟨X,0,none⟩) rfl _) (h.blk.set_ 0 (.int .i64 k)) h.nt h.bd h.it h.vw h.sb h.ns
theorem EC.frm_ (h:EC W X base u x L M S) (f:Int):JF X W (W.setCell ⟨X,9,none⟩ (.int .i64 f))/\EC (W.setCell ⟨X,9,none⟩ (.int .i64 f)) X base ⟨u.nv,u.bA,u.bc,u.iA,u.ic,u.vv,u.sA,u.sc⟩ ⟨x.kind,x.note,x.body,f,x.int,x.view,x.subs⟩ L M S:=
 h.put (u':=⟨u.nv,u.bA,u.bc,u.iA,u.ic,u.vv,u.sA,u.sc⟩) (x':=⟨x.kind,x.note,x.body,f,x.int,x.view,x.subs⟩) (JF.set_ (g:=X) W (p:=⟨X,9,none⟩) rfl _) (h.blk.set_ 9 (.int .i64 f)) h.nt h.bd h.it h.vw h.sb h.ns
theorem EC.int_ (h:EC W X base u x L M S) {i:List Sn.Sp} {A:OA} {c:Nat} (hi:W.ownsRow base 63 2 (.slice A i.length c) i.length (sv i)):JF X W (W.setCell ⟨X,10,none⟩ (.slice A i.length c))/\EC (W.setCell ⟨X,10,none⟩ (.slice A i.length c)) X base ⟨u.nv,u.bA,u.bc,A,c,u.vv,u.sA,u.sc⟩ ⟨x.kind,x.note,x.body,x.from_,i,x.view,x.subs⟩ L M S:=
 h.put (u':=⟨u.nv,u.bA,u.bc,A,c,u.vv,u.sA,u.sc⟩) (x':=⟨x.kind,x.note,x.body,x.from_,i,x.view,x.subs⟩) (JF.set_ (g:=X) W (p:=⟨X,10,none⟩) rfl _) (h.blk.set_ 10 (.slice A i.length c)) h.nt h.bd hi h.vw h.sb h.ns
end
section
variable {w W W':World} {X:Nat} {cur cur':List UInt8} {u u':EV} {x x':Qw} {L L':List (ZV×Zn)} {M M':List (BV×Wq.Bd)} {S S':List (SV×Sb)}
theorem ES.call (h:ES w W X cur u x L M S) (hb:JF (X+2) W W') (ht:TR W' (X+2) X cur'):ES w W' X cur' u x L M S:=
 ⟨h.toEC.call hb (by omega) (by omega),h.err.but hb (by omega),ht,JJ h.out hb (by have:=h.blk.lt;omega) (by omega),h.hX⟩
theorem ES.grow (h:ES w W X cur u x L M S) (hb:Bz W W'):ES w W' X cur u x L M S:=
 ⟨h.toEC.grow hb,h.err.go hb,h.tr.go hb,Qg h.out (Rs h.hX) hb,h.hX⟩
theorem ES.err_ (h:ES w W X cur u x L M S):ES w (W.setCell ⟨X+1,0,none⟩ (.int .i64 0)) X cur u x L M S:=
 have hu:JF (X+1) W (W.setCell ⟨X+1,0,none⟩ (.int .i64 0)):=JF.set_ W (p:=⟨X+1,0,none⟩) rfl _
 ⟨h.toEC.call hu (by omega) (by omega),h.err.set_ 0 _,h.tr.but hu (by omega) (by omega),JJ h.out hu (by have:=h.blk.lt;omega) (by omega),h.hX⟩
theorem ES.put (h:ES w W X cur u x L M S) (k:JF X W W'/\EC W' X (X+3) u' x' L' M' S'):ES w W' X cur u' x' L' M' S':=
 ⟨k.2,h.err.but k.1 (by omega),h.tr.but k.1 Zl (by omega),JJ h.out k.1 (by have:=h.blk.lt;omega) Zl,h.hX⟩
theorem ES.same_ (h:ES w W X cur u x L M S) (hg:W.grownBy W' (some X)) (hb:Jm W' X 38 (eval x u)):ES w W' X cur u x L M S:=h.put (h.toEC.put (JF.grown hg) hb h.nt h.bd h.it h.vw h.sb h.ns)
theorem ES.tab (h:ES w W X cur u x L M S) (hT:UW w):UW W:=hT.below (by show Below w.heap.size w W;rw[<-h.hX];exact h.out)
end
def JfC (l:List UInt8) (w:World) (e:Ending) (w':World):Prop:=
 (Wq.Jip l=none/\e=.returned (.tuple #[.agg Jfo,.int .i64 4])/\Bz w w') \/
 ∃x u,Wq.Jip l=some x/\e=.returned (.tuple #[.agg (eval x u),.int .i64 0])/\(∃L M S,QP w' w'.heap.size u x L M S)/\Bz w w'
def JoU (X:Nat):List Deferred:=[{ target:=.fn (.func 47) #[.pointer (some ⟨X,0,none⟩),.pointer (some ⟨X+1,0,none⟩)],args:=#[] }]
theorem Jm2 {l:List UInt8} {w W:World} {X:Nat} {cs:Array Value} {z:Value} {tmps:Array Value} (hX:Jm W X 38 cs) (hs:cs.size=17) (hE:Jm W (X+1) 40 #[z])
  (hp:∀w',Bz W w'->JfC l w (.returned (.tuple #[.agg cs,z])) w')
  (h2:tmps.getD 2 undef=.pointer (some ⟨X,0,none⟩)) (h3:tmps.getD 3 undef=.pointer (some ⟨X+1,0,none⟩)):
  bodyPostD prog Tryz.f15 (JfC l w) .ret { tmps:=tmps,defers:=JoU X } W:=by
 unfold JoU;refine leaves_cons (f:=47) (args:=#[.pointer (some ⟨X,0,none⟩),.pointer (some ⟨X+1,0,none⟩)]) (by simp) (by simp[go_sem]) ?_;refine(Jhx _ _ W).mono ?_;rintro e u' w' ⟨rfl,rfl,hb⟩;show ∃v,(results Tryz.f15 tmps).run prog w'=.ok v w'/\JfC l w (.returned v) w';have hi:(prog.info? 38).map (·.size)=some cs.size:=by rw[hs];kernel_rfl
 exact⟨_,Jos rfl _ _ X (X+1) 38 40 cs _ _ _ _ _ h2 (hX.go hb) underlying38 rfl hi h3 (hE.go hb) underlying40 rfl,hp w' hb⟩
structure JnW (x:Qw):Prop where
 c:x.body.s.1 < 9223372036854775808
 n:x.note.s.length+x.note.e.length+x.note.b.length+x.note.w.length<=9223372036854775807
 v:x.view.known.length+x.view.zones.length+x.view.held.length+x.view.bods.length<=9223372036854775807
 o:∀y∈x.view.bods,(Lit.int .i64 y.o).wf=true
theorem ES.rd {w W:World} {X:Nat} {cur:List UInt8} {u:EV} {x:Qw} {L:List (ZV×Zn)} {M:List (BV×Wq.Bd)} {S:List (SV×Sb)} (h:ES w W X cur u x L M S) (hb:JnW x):QP W W.heap.size u x L M S:=
 ⟨h.nt.rd,Rd.of_own h.bd,Rd.of_own h.it,h.vw.rd (fun p hp=>hb.o p.2 (by rw[<-h.vw.nb];exact EL hp)),h.sb.rd,h.ns⟩
end Go.Proofs.YtmbeahbgafkjfaaGreatDoor
