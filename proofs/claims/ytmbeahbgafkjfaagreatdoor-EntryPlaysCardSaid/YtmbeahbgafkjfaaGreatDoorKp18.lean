/- Lemmas, layer 18. -/
import Derived.Test.YtmbeahbgafkjfaaGreatDoorKp17
set_option linter.unusedSimpArgs false
set_option maxRecDepth 100000
set_option maxHeartbeats 16000000
namespace Go.Proofs.YtmbeahbgafkjfaaGreatDoor
open Go.Proofs.Tryz Go.RowKit
section
def bdE (x y:Wq.Bd):Bool:=decide (x.o=y.o) && (decide (x.s=y.s) && (x.v == y.v))
theorem JeP (x y:Wq.Bd):bdE x y=true↔x=y:=by
 cases x;cases y;simp[bdE]
def KL:List Wq.Bd->List Wq.Bd->Bool
 | [],[]=>true
 | x :: r,y :: q=>bdE x y && KL r q
 | _,_=>false
theorem JcT:∀(l m:List Wq.Bd),KL l m=true↔l=m
 | [],[]=>by simp[KL]
 | [],y :: q=>by simp[KL]
 | x :: r,[]=>by simp[KL]
 | x :: r,y :: q=>by simp[KL,JeP,JcT r q]
theorem JkT {l m:List Wq.Bd} (h:¬ l.length=m.length):KL l m=false:=by
 rcases hb:KL l m with _ | _
 ·rfl
 ·exact absurd (congrArg List.length ((JcT l m).1 hb)) h
theorem Jjv (l m:List Wq.Bd) (k:Nat) (h:k < l.length) (h2:k < m.length):KL (l.drop k) (m.drop k)=(bdE l[k] m[k] && KL (l.drop (k+1)) (m.drop (k+1))):=by
 rw[Eh h,Eh h2,KL]
theorem XT (x y:Wq.Bd) (A B:OA) (c d:Nat) (w:World) (hR:Rd w w.heap.size 1 A x.v.length c (bv x.v)) (hR2:Rd w w.heap.size 1 B y.v.length d (bv y.v)):
  Calls prog 45 #[.agg (JO x A c),.agg (JO y B d)] w fun e w'=>e=.returned (.bool (bdE x y))/\Bz w w':=by
 obtain⟨o,⟨a,b⟩,v⟩:=x;obtain⟨o2,⟨a2,b2⟩,v2⟩:=y;unfold JO bdE;dsimp only at *;have hb:Bz w ((w.alloc (.cells #[.int .i64 o,.int .i64 a,.int .i64 b,.slice A v.length c] 31)).alloc (.cells #[.int .i64 o2,.int .i64 a2,.int .i64 b2,.slice B v2.length d] 31)):=(Zr.alloc Zl _).alloc (by simp) _;have h1:=((Jm.new w 31 #[.int .i64 o,.int .i64 a,.int .i64 b,.slice A v.length c]).alloc (.cells #[.int .i64 o2,.int .i64 a2,.int .i64 b2,.slice B v2.length d] 31)).quad;have h2:=(Jm.new (w.alloc (.cells #[.int .i64 o,.int .i64 a,.int .i64 b,.slice A v.length c] 31)) 31 #[.int .i64 o2,.int .i64 a2,.int .i64 b2,.slice B v2.length d]).quad;rw[El] at h2;have G:=Jd4 A B v.length c v2.length d w.heap.size w.heap.size v v2 ((w.alloc (.cells #[.int .i64 o,.int .i64 a,.int .i64 b,.slice A v.length c] 31)).alloc (.cells #[.int .i64 o2,.int .i64 a2,.int .i64 b2,.slice B v2.length d] 31)) (hR.below hb) (hR2.below hb);generalize (v == v2)=z at G ⊢;obtain⟨p0,p1,p2,p3⟩:=h1;obtain⟨q0,q1,q2,q3⟩:=h2;have G:=Ja G;have HB:=Ja hb;clear hb hR hR2;generalize v.length=n at *;generalize v2.length=n2 at *;by_cases e1:o=o2
 ·subst e1;by_cases e2:a=a2
  ·subst e2;by_cases e3:b=b2
   ·subst e3;have HN:=Ja (show (decide (o=o) && (decide ((a,b)=(a,b)) && z))=z by simp);rw[HN.out];go_enter func45,ntmps45;go_wp2_with (go_at_call 11;go_must (refine G.out.mono ?_);rintro e w1 ⟨rfl,rfl⟩);go_ret;exact⟨rfl,HB.out⟩
   ·have HN:=Ja (show (decide (o=o) && (decide ((a,b)=(a,b2)) && z))=false by simp[e3]);rw[HN.out];go_enter func45,ntmps45;go_wp2;go_ret;exact⟨rfl,HB.out⟩
  ·have HN:=Ja (show (decide (o=o) && (decide ((a,b)=(a2,b2)) && z))=false by simp[e2]);rw[HN.out];go_enter func45,ntmps45;go_wp2;go_ret;exact⟨rfl,HB.out⟩
 ·have HN:=Ja (show (decide (o=o2) && (decide ((a,b)=(a2,b2)) && z))=false by simp[e1]);rw[HN.out];go_enter func45,ntmps45;go_wp2;go_ret;exact⟨rfl,HB.out⟩
theorem JdJ (A D:OA) (n c m d:Nat) (L M:List (BV×Wq.Bd)) (w:World) (hR:QI w w.heap.size A n c L) (hR2:QI w w.heap.size D m d M):
  Calls prog 83 #[.slice A n c,.slice D m d] w fun e w'=>e=.returned (.bool (KL (JG L) (JG M)))/\Bz w w':=by
 have hmax:=hR.max;have HL:=Ja hR.len;have HL2:=Ja hR2.len;by_cases hnm:n=m
 ·subst hnm;have HB1:=Ja fun (W:World) (hb:Bz w W) k (hk:k < L.length)=>(hR.below hb).body hk;have HB2:=Ja fun (W:World) (hb:Bz w W) k (hk:k < M.length)=>(hR2.below hb).body hk;have HG:=Ja fun (W:World) (hb:Bz w W) p (hp:p∈L) q (hq:q∈M)=>XT p.2 q.2 p.1.A q.1.A p.1.c q.1.c W ((hR.each p hp).go hb) ((hR2.each q hq).go hb);have HD:=Ja fun k h h2=>Jjv (JG L) (JG M) k h h2;clear hR hR2;go_enter func83,ntmps83;go_wp2;go_loopw [5] (fun i wr=>∃(j:Nat),j<=n/\i=.int .i64 j/\Bz w wr/\Hid (KL (JG L) (JG M)=KL ((JG L).drop j) ((JG M).drop j))) (fun i _=>n - (intOf i).toNat)
  case atStart=>exact⟨0,by omega,rfl,Ec _ _,rfl⟩
  case round=>
   obtain⟨j,hj,rfl,k,hr⟩:=hrel;by_cases hlt:j < n
   ·have hjl:j < L.length:=by rw[HL.out];exact hlt
    have hjm:j < M.length:=by rw[HL2.out];exact hlt
    obtain⟨b,o,rfl,hbb,-⟩:=HB1.out wr k j hjl;obtain⟨b2,o2,rfl,hbb2,-⟩:=HB2.out wr k j hjm;have hd:=hr.out.trans (HD.out j (by rw[Jt];exact hjl) (by rw[Jt];exact hjm));rw[Xr L j hjl,Xr M j hjm] at hd;have G:=fun (W:World) (hb:Bz w W)=>HG.out W hb L[j] (En hjl) M[j] (En hjm);unfold JO at G;generalize bdE L[j].2 M[j].2=z at G hd;have HE:=Ja fun (W:World) (hb:Bz wr W)=>(⟨YI (HB1.out W (Jg k hb) j hjl),YI (HB2.out W (Jg k hb) j hjm)⟩:_/\_);generalize L[j].2.o=y0 at G HE;generalize L[j].2.s.1=y1 at G HE;generalize L[j].2.s.2=y2 at G HE;generalize L[j].1.A=y3 at G HE;generalize L[j].2.v.length=y4 at G HE;generalize L[j].1.c=y5 at G HE;generalize M[j].2.o=z0 at G HE;generalize M[j].2.s.1=z1 at G HE;generalize M[j].2.s.2=z2 at G HE;generalize M[j].1.A=z3 at G HE;generalize M[j].2.v.length=z4 at G HE;generalize M[j].1.c=z5 at G HE;have G:=Ja G;have HDD:=Ja hd;have HS:=HE;clear hr hd HE hbb hbb2 hjl hjm;cases z
    ·have HN:=Ja (show KL (JG L) (JG M)=false by rw[HDD.out,FZ]);have kw:Bz w wr.drew:=k.drew;have kk:Bz wr wr.drew:=(Ec _ wr).drew;clear k;go_wp2;refine Jl fun KK hKK=>?_;refine Eg (S:=(fun W=>(W.cell? ⟨b,o+j * 4,none⟩=some (.int .i64 y0)/\W.cell? ⟨b,o+j * 4+1,none⟩=some (.int .i64 y1)/\W.cell? ⟨b,o+j * 4+2,none⟩=some (.int .i64 y2)/\W.cell? ⟨b,o+j * 4+3,none⟩=some (.slice y3 y4 y5))/\(W.cell? ⟨b2,o2+j * 4,none⟩=some (.int .i64 z0)/\W.cell? ⟨b2,o2+j * 4+1,none⟩=some (.int .i64 z1)/\W.cell? ⟨b2,o2+j * 4+2,none⟩=some (.int .i64 z2)/\W.cell? ⟨b2,o2+j * 4+3,none⟩=some (.slice z3 z4 z5)))) (by kernel_rfl) (by first | exact HS.out _ kk) (fun hHeld=>?_);refine Jc 0 17 1 18 (HS.out _ kk) ?_;refine Jc 2 19 3 20 (HS.out _ kk) ?_;refine Jc 4 21 5 22 (HS.out _ kk) ?_;refine Jc 6 23 7 24 (HS.out _ kk) ?_;refine Qa 8 fun K hK=>?_;go_simp;refine Jj (G.out _ kw) kw kk fun w' kw kk=>?_;refine hK.out _ _ (HS.out _ kk) fun hHeld=>?_;clear hK K;refine Qx 9 26 (HS.out _ kk) ?_;refine Es (by kernel_rfl) ?_ _;refine QQ.out (hKK _ _ ?_);go_wp2;go_ret;exact⟨by rw[HN.out]<;>rfl,kw⟩
    ·have HN:=Ja (show KL (JG L) (JG M)=KL ((JG L).drop (j+1)) ((JG M).drop (j+1)) by rw[HDD.out,Fb]);have kw:Bz w wr.drew:=k.drew;have kk:Bz wr wr.drew:=(Ec _ wr).drew;clear k;go_wp2;refine Jl fun KK hKK=>?_;refine Eg (S:=(fun W=>(W.cell? ⟨b,o+j * 4,none⟩=some (.int .i64 y0)/\W.cell? ⟨b,o+j * 4+1,none⟩=some (.int .i64 y1)/\W.cell? ⟨b,o+j * 4+2,none⟩=some (.int .i64 y2)/\W.cell? ⟨b,o+j * 4+3,none⟩=some (.slice y3 y4 y5))/\(W.cell? ⟨b2,o2+j * 4,none⟩=some (.int .i64 z0)/\W.cell? ⟨b2,o2+j * 4+1,none⟩=some (.int .i64 z1)/\W.cell? ⟨b2,o2+j * 4+2,none⟩=some (.int .i64 z2)/\W.cell? ⟨b2,o2+j * 4+3,none⟩=some (.slice z3 z4 z5)))) (by kernel_rfl) (by first | exact HS.out _ kk) (fun hHeld=>?_);refine Jc 0 17 1 18 (HS.out _ kk) ?_;refine Jc 2 19 3 20 (HS.out _ kk) ?_;refine Jc 4 21 5 22 (HS.out _ kk) ?_;refine Jc 6 23 7 24 (HS.out _ kk) ?_;refine Qa 8 fun K hK=>?_;go_simp;refine Jj (G.out _ kw) kw kk fun w' kw kk=>?_;refine hK.out _ _ (HS.out _ kk) fun hHeld=>?_;clear hK K;refine Qx 9 26 (HS.out _ kk) ?_;refine Es (by kernel_rfl) ?_ _;refine QQ.out (hKK _ _ ?_);go_wp2;go_roundw
     case rel=>exact⟨j+1,by omega,by go_num,kw,HN⟩
     case measure=>simp[intOf];omega
   ·obtain rfl:j=n:=by omega
    have HN:=Ja (show KL (JG L) (JG M)=true by rw[hr.out,Ed (by rw[Jt,HL.out];exact Ek _),Ed (by rw[Jt,HL2.out];exact Ek _)];rfl);clear hr;go_wp2;go_ret;exact⟨by rw[HN.out]<;>rfl,k⟩
 ·have HN:=Ja (JkT (l:=JG L) (m:=JG M) (by rw[Jt,Jt,HL.out,HL2.out];exact hnm));have hne:¬ ((n:Int)=(m:Int)):=by omega
  clear hR hR2;go_enter func83,ntmps83;go_wp2;go_ret;exact⟨by rw[HN.out]<;>rfl,Ec _ _⟩
def vwE (v u:Vw):Bool:=decide (v.known=u.known) && (decide (v.zones=u.zones) && (decide (v.held=u.held) && (KL v.bods u.bods && decide (v.room=u.room))))
theorem JiI (v u:Vw):vwE v u=true↔v=u:=by
 cases v;cases u;simp[vwE,JcT]
theorem OU (u u':VV) (v v':Vw) (L L':List (ZV×Zn)) (M M':List (BV×Wq.Bd)) (w:World) (hV:JU w w.heap.size u v L M) (hV':JU w w.heap.size u' v' L' M'):
  Calls prog 22 #[.agg (Jy v u),.agg (Jy v' u')] w fun e w'=>e=.returned (.bool (vwE v v'))/\Bz w w':=by
 obtain⟨kA,kc,zA,zc,hA,hc,bA,bc⟩:=u;obtain⟨known,zones,held,bods,room⟩:=v;obtain⟨h1,h2,h3,h4,h5,h6⟩:=hV;obtain⟨kA',kc',zA',zc',hA',hc',bA',bc'⟩:=u';obtain⟨known',zones',held',bods',room'⟩:=v';obtain⟨h1',h2',h3',h4',h5',h6'⟩:=hV';unfold Jy vwE;dsimp only at *;have G1:=Ja fun (W:World) (hb:Bz w W)=>Jdc kA kA' known.length kc known'.length kc' known known' W rfl rfl (h1.go hb) (h1'.go hb);have G2:=fun (W:World) (hb:Bz w W)=>(Jcv zA zA' zones.length zc zones'.length zc' L L' W (h2.go hb) (h2'.go hb)).mono (R':=fun e w'=>e=.returned (.bool (decide (Jv L=Jv L')))/\Bz W w') (fun e w' h=>by obtain⟨h1,q,h2⟩:=h;subst h2;exact⟨h1,Jr Zr q⟩);have G3:=Ja fun (W:World) (hb:Bz w W)=>Jea hA hA' held.length hc held'.length hc' held held' W rfl rfl (h4.go hb) (h4'.go hb);have G4:=fun (W:World) (hb:Bz w W)=>JdJ bA bA' bods.length bc bods'.length bc' M M' W (h5.go hb) (h5'.go hb);rw[h3,h3'] at G2;rw[h6,h6'] at G4;have G2:=Ja G2;have G4:=Ja G4;generalize decide (known=known')=f1 at G1 ⊢;generalize decide (zones=zones')=f2 at G2 ⊢;generalize decide (held=held')=f3 at G3 ⊢;generalize KL bods bods'=f4 at G4 ⊢;clear h1 h2 h3 h4 h5 h6 h1' h2' h3' h4' h5' h6';generalize known.length=nk at *;generalize zones.length=nz at *;generalize held.length=nh at *;generalize bods.length=nb at *;generalize known'.length=nk' at *;generalize zones'.length=nz' at *;generalize held'.length=nh' at *;generalize bods'.length=nb' at *;have hb0:Bz w ((w.alloc (.cells #[.slice kA nk kc,.slice zA nz zc,.slice hA nh hc,.slice bA nb bc,.int .i64 room] 35)).alloc (.cells #[.slice kA' nk' kc',.slice zA' nz' zc',.slice hA' nh' hc',.slice bA' nb' bc',.int .i64 room'] 35)):=(Zr.alloc Zl _).alloc (by simp) _;have hX:=(Jm.new w 35 #[.slice kA nk kc,.slice zA nz zc,.slice hA nh hc,.slice bA nb bc,.int .i64 room]).alloc (.cells #[.slice kA' nk' kc',.slice zA' nz' zc',.slice hA' nh' hc',.slice bA' nb' bc',.int .i64 room'] 35);have hY:=Jm.new (w.alloc (.cells #[.slice kA nk kc,.slice zA nz zc,.slice hA nh hc,.slice bA nb bc,.int .i64 room] 35)) 35 #[.slice kA' nk' kc',.slice zA' nz' zc',.slice hA' nh' hc',.slice bA' nb' bc',.int .i64 room'];rw[El] at hY;generalize hW0:(w.alloc (.cells #[.slice kA nk kc,.slice zA nz zc,.slice hA nh hc,.slice bA nb bc,.int .i64 room] 35)).alloc (.cells #[.slice kA' nk' kc',.slice zA' nz' zc',.slice hA' nh' hc',.slice bA' nb' bc',.int .i64 room'] 35)=W0 at hb0 hX hY;have HX:=Ja fun (W:World) (hb:Bz W0 W)=>(⟨(hX.go hb).five,(hY.go hb).five⟩:_/\_);have HW0:=Ja hW0;have k:Bz W0 W0:=Ec _ _;have kw:Bz w W0:=hb0;obtain⟨⟨b0,b1,b2,b3,b4⟩,c0,c1,c2,c3,c4⟩:=HX.out _ k;clear hX hY hW0 hb0;go_enter func22,ntmps22;go_wp2_with fail;rw[HW0.out];cases f1
 ·go_wp2_with (first | (go_at_call 80;go_must (refine Jj (G1.out _ kw) k kw fun w' k kw=>?_);obtain⟨⟨b0,b1,b2,b3,b4⟩,c0,c1,c2,c3,c4⟩:=HX.out _ k));go_ret;exact⟨by simp,kw⟩
 cases f2
 ·go_wp2_with (first | (go_at_call 80;go_must (refine Jj (G1.out _ kw) k kw fun w' k kw=>?_);obtain⟨⟨b0,b1,b2,b3,b4⟩,c0,c1,c2,c3,c4⟩:=HX.out _ k) | (go_at_call 81;go_must (refine Jj (G2.out _ kw) k kw fun w' k kw=>?_);obtain⟨⟨b0,b1,b2,b3,b4⟩,c0,c1,c2,c3,c4⟩:=HX.out _ k));go_ret;exact⟨by simp,kw⟩
 cases f3
 ·go_wp2_with (first | (go_at_call 80;go_must (refine Jj (G1.out _ kw) k kw fun w' k kw=>?_);obtain⟨⟨b0,b1,b2,b3,b4⟩,c0,c1,c2,c3,c4⟩:=HX.out _ k) | (go_at_call 81;go_must (refine Jj (G2.out _ kw) k kw fun w' k kw=>?_);obtain⟨⟨b0,b1,b2,b3,b4⟩,c0,c1,c2,c3,c4⟩:=HX.out _ k) | (go_at_call 82;go_must (refine Jj (G3.out _ kw) k kw fun w' k kw=>?_);obtain⟨⟨b0,b1,b2,b3,b4⟩,c0,c1,c2,c3,c4⟩:=HX.out _ k));go_ret;exact⟨by simp,kw⟩
 cases f4
 ·go_wp2_with (first | (go_at_call 80;go_must (refine Jj (G1.out _ kw) k kw fun w' k kw=>?_);obtain⟨⟨b0,b1,b2,b3,b4⟩,c0,c1,c2,c3,c4⟩:=HX.out _ k) | (go_at_call 81;go_must (refine Jj (G2.out _ kw) k kw fun w' k kw=>?_);obtain⟨⟨b0,b1,b2,b3,b4⟩,c0,c1,c2,c3,c4⟩:=HX.out _ k) | (go_at_call 82;go_must (refine Jj (G3.out _ kw) k kw fun w' k kw=>?_);obtain⟨⟨b0,b1,b2,b3,b4⟩,c0,c1,c2,c3,c4⟩:=HX.out _ k) | (go_at_call 83;go_must (refine Jj (G4.out _ kw) k kw fun w' k kw=>?_);obtain⟨⟨b0,b1,b2,b3,b4⟩,c0,c1,c2,c3,c4⟩:=HX.out _ k));go_ret;exact⟨by simp,kw⟩
 by_cases hr:room=room'
 ·subst hr;go_wp2_with (first | (go_at_call 80;go_must (refine Jj (G1.out _ kw) k kw fun w' k kw=>?_);obtain⟨⟨b0,b1,b2,b3,b4⟩,c0,c1,c2,c3,c4⟩:=HX.out _ k) | (go_at_call 81;go_must (refine Jj (G2.out _ kw) k kw fun w' k kw=>?_);obtain⟨⟨b0,b1,b2,b3,b4⟩,c0,c1,c2,c3,c4⟩:=HX.out _ k) | (go_at_call 82;go_must (refine Jj (G3.out _ kw) k kw fun w' k kw=>?_);obtain⟨⟨b0,b1,b2,b3,b4⟩,c0,c1,c2,c3,c4⟩:=HX.out _ k) | (go_at_call 83;go_must (refine Jj (G4.out _ kw) k kw fun w' k kw=>?_);obtain⟨⟨b0,b1,b2,b3,b4⟩,c0,c1,c2,c3,c4⟩:=HX.out _ k));go_ret;exact⟨by simp,kw⟩
 ·go_wp2_with (first | (go_at_call 80;go_must (refine Jj (G1.out _ kw) k kw fun w' k kw=>?_);obtain⟨⟨b0,b1,b2,b3,b4⟩,c0,c1,c2,c3,c4⟩:=HX.out _ k) | (go_at_call 81;go_must (refine Jj (G2.out _ kw) k kw fun w' k kw=>?_);obtain⟨⟨b0,b1,b2,b3,b4⟩,c0,c1,c2,c3,c4⟩:=HX.out _ k) | (go_at_call 82;go_must (refine Jj (G3.out _ kw) k kw fun w' k kw=>?_);obtain⟨⟨b0,b1,b2,b3,b4⟩,c0,c1,c2,c3,c4⟩:=HX.out _ k) | (go_at_call 83;go_must (refine Jj (G4.out _ kw) k kw fun w' k kw=>?_);obtain⟨⟨b0,b1,b2,b3,b4⟩,c0,c1,c2,c3,c4⟩:=HX.out _ k));go_ret;exact⟨by simp[hr],kw⟩
open Go.RowKit Go.Shelf
attribute [local go_sem] Oper.semAt_some
def pt (BO:Nat) (W:World):Option Nat:=match W.cell? ⟨BO,0,none⟩ with
 | some (.slice (some a) _ _)=>some a.block
 | _=>none
theorem Oq {BO:Nat} {W V:World} (h:V.cell? ⟨BO,0,none⟩=W.cell? ⟨BO,0,none⟩):pt BO V=pt BO W:=by unfold pt;rw[h]
structure KZ (BO:Nat) (W W':World):Prop where
 size:W.heap.size<=W'.heap.size
 same:∀k o,k≠BO->pt BO W≠some k->W.heap[k]?=some o->o.isCells=true->W'.heap[k]?=some o
 ptr:pt BO W'=pt BO W\/∃g,pt BO W'=some g/\W.heap.size<=g/\g < W'.heap.size
section
variable {BO:Nat} {W V X:World}
theorem KZ.trans (h:KZ BO W V) (k:KZ BO V X):KZ BO W X:=by
 refine⟨EY h.size k.size,fun i o hB hp hi ho=>?_,?_⟩
 ·refine k.same i o hB ?_ (h.same i o hB hp hi ho) ho;have hlt:=(EA.1 hi).1;rcases h.ptr with e | ⟨g,e,h1,_⟩
  ·rw[e];exact hp
  ·rw[e];intro e2;injection e2 with e2;omega
 ·rcases k.ptr with e | ⟨g,e,h1,h2⟩
  ·rcases h.ptr with e2 | ⟨g,e2,h1,h2⟩
   ·exact .inl (e.trans e2)
   ·exact .inr ⟨g,e.trans e2,h1,FC h2 k.size⟩
  ·exact .inr ⟨g,e,EY h.size h1,h2⟩
theorem KZ.of_below (hB:BO < W.heap.size) (h:Bz W V):KZ BO W V:=
 ⟨h.size,fun k _ _ _ hk _=>(h.block k (EA.1 hk).1).trans hk,.inl (Oq (h.cell (p:=⟨BO,0,none⟩) hB))⟩
theorem KZ.putObj {l:Nat} {o o':Obj} (hB:BO≠l) (hl:W.heap[l]?=some o) (h1:o.isCells=false):KZ BO W (W.putObj l o'):=
 ⟨by simp,fun k x _ _ hk hx=>by
  by_cases hkl:k=l
  ·subst hkl;rw[hl] at hk;injection hk with hk;subst hk;rw[h1] at hx;cases hx
  ·exact(Fj (by omega)).trans hk,.inl (Oq (GQ (Fj hB)))⟩
theorem KZ.cell (h:KZ BO W V) {p:Addr} {u:Value} (hB:p.block≠BO) (hp:pt BO W≠some p.block) (hc:W.cell? p=some u):V.cell? p=some u:=by
 obtain⟨o,ho,hx⟩:=cells_of_cell hc;exact(GQ ((h.same _ o hB hp ho hx).trans ho.symm)).trans hc
theorem KZ.blk (h:KZ BO W V) {g:Nat} {t:TypeId} {cs:Array Value} (hB:g≠BO) (hp:pt BO W≠some g) (hc:Jm W g t cs):Jm V g t cs:=h.same g _ hB hp hc rfl
end
structure Uu (w0:World) (BO B1 B2:Nat) (A:OA) (n c:Nat) (D:OA) (q d:Nat) (W:World):Prop where
 ol:JdF w0 W
 b1:Jm W B1 32 #[.slice A n c]
 b2:Jm W B2 22 #[.slice D q d]
 bo:BO < W.heap.size
 n0:w0.heap.size<=BO
 n1:BO≠B1
 n2:BO≠B2
 np:∀g,pt BO W=some g->w0.heap.size<=g/\g≠B1/\g≠B2/\g < W.heap.size
section
variable {w0 W V:World} {BO B1 B2:Nat} {A D:OA} {n c q d:Nat}
theorem Uu.keep (h:Uu w0 BO B1 B2 A n c D q d W) (k:KZ BO W V):Uu w0 BO B1 B2 A n c D q d V:=by
 have h1:=h.b1.lt;have h2:=h.b2.lt;have h0:=h.ol.size;refine⟨⟨EY h0 k.size,fun p u hp=>?_⟩,k.blk (fun e=>h.n1 e.symm) (fun e=>(h.np _ e).2.1 rfl) h.b1,k.blk (fun e=>h.n2 e.symm) (fun e=>(h.np _ e).2.2.1 rfl) h.b2,FC h.bo k.size,h.n0,h.n1,h.n2,fun g hg=>?_⟩
 ·have hlt:=Ep _ _ hp;exact k.cell (fun e=>by have:=h.n0;omega) (fun e=>by have:=(h.np _ e).1;omega) (h.ol.cell p u hp)
 ·rcases k.ptr with e | ⟨g',e,e1,e2⟩
  ·obtain⟨a1,a2,a3,a4⟩:=h.np g (e ▸ hg);exact⟨a1,a2,a3,FC a4 k.size⟩
  ·rw[e] at hg;injection hg with hg;subst hg;exact⟨by omega,by omega,by omega,e2⟩
theorem Uu.go (h:Uu w0 BO B1 B2 A n c D q d W) (hb:Bz W V):Uu w0 BO B1 B2 A n c D q d V:=h.keep (KZ.of_below h.bo hb)
theorem Uu.fresh (h:Uu w0 BO B1 B2 A n c D q d W) (o:Obj):pt BO (W.alloc o)≠some W.heap.size/\W.heap.size≠BO:=by
 have e:pt BO (W.alloc o)=pt BO W:=Oq (Ny W o _ h.bo);refine⟨fun e2=>?_,fun e2=>by have:=h.bo;omega⟩;rw[e] at e2;have:=(h.np _ e2).2.2.2;omega
theorem KZ.still (h:KZ BO W V) {g:Nat} (hg:g < W.heap.size) (hp:pt BO W≠some g):pt BO V≠some g:=by
 rcases h.ptr with e | ⟨g',e,e1,_⟩
 ·rw[e];exact hp
 ·rw[e];intro e2;injection e2 with e2;omega
end
theorem Jb5 {W W':World} (h:Bz W W'):W.grownBy W' none:=⟨h.os,h.tape,h.output,h.size,fun k hk _=>h.block k hk⟩
theorem JoM {β:Type} {B:Nat} {J:β->World->Prop} (h:AbidesFrom B J) {s:β} {W W':World} (hb:Bz W W') (hs:J s W):J s W':=h s W W' none hs (Jb5 hb) (fun r e=>by cases e)
def evZ (x:ZV×Zn):Array Value:=#[.agg #[.int .i64 x.2.1.1,.int .i64 x.2.1.2,.slice x.1.A x.1.n x.1.c]]
structure EvT (w0:World) (x:ZV×Zn):Prop where
 len:x.2.2.length=x.1.n
 rd:Rd w0 w0.heap.size 2 x.1.A x.1.n x.1.c (sv x.2.2)
 fm:fm (-1) x.2.2=true
theorem Jm3 (u:List Vc.St) {a:Int} {x:Zn} {r:List Zn} (h:a < x.1.1):KP u a (x :: r)=((a,x.1.1 - 1),u) :: x :: KP u (x.1.2+1) r:=by rw[KP,Ei h];rfl
theorem Jku (u:List Vc.St) {a:Int} {x:Zn} {r:List Zn} (h:¬ a < x.1.1):KP u a (x :: r)=x :: KP u (x.1.2+1) r:=by rw[KP,Ef h];rfl
theorem Jh6 (m:Nat) (hm:1<=m) (lp BO B1 B2:Nat) (A D:OA) (n c q d:Nat) (L:List (ZV×Zn)) (u0:List Vc.St) (w0:World) (hR:Zc w0 w0.heap.size A n c L) (hf:zF (-1) none (Jv L)=true) (hT0:∀s,EvT w0 (⟨D,q,d⟩,s,u0))
  (J Jx:List (ZV×Zn)->World->Prop) (B:Nat) (hJ:AbidesFrom B J)
  (hY:∀pre (x:ZV×Zn) W,J pre W->EvT w0 x->pre.length < 513->YieldAt Fence.wide (m - 1) prog lp (evZ x) W fun e W'=>
   (e=.returned (.bool true)/\J (pre++[x]) W'/\KZ BO W W')\/(e=.returned (.bool false)/\Jx (pre++[x]) W'))
  (W:World) (hg:Uu w0 BO B1 B2 A n c D q d W) (h0:J [] W):
  CallsIn Fence.wide m prog 206 #[.func (.yield lp) #[] #[],.pointer (some ⟨B1,0,none⟩),.pointer (some ⟨B2,0,none⟩)] W fun e W'=>(∃v,e=.returned v) /\
   ((∃ys,Jv ys=KP u0 0 (Jv L)/\J ys W')\/(∃pre,(Jv pre <+: KP u0 0 (Jv L))/\Jx pre W')):=by
 have hn:=JcO hf;rw[JH,hR.len] at hn;have hbx:=hg.b1.cell 0;have HL:=Ja hR.len;have HR:=Ja hR;have HFM:=Ja hf;have HT0:=Ja hT0;clear hR hf hT0;refine callsIn_of_wp func206 rfl trivial ?_ rfl;simp only[ntmps206,Fo,List.length_cons,List.length_nil,Nat.reduceAdd,Nat.reduceSub,Fm,Array.replicate_zero,Fw,Fr,List.nil_append,List.cons_append]
 gi_wp2
 clear hbx
 gi_loopw [4,9] (fun v4 v9 wr=>∃(i:Nat) (a:Int) (pre:List (ZV×Zn)),v9=.int .i64 i/\v4=.int .i64 a/\i<=n/\(0<=a/\a<=256)/\Uu w0 BO B1 B2 A n c D q d wr/\J pre wr/\Hid (∃p,zF (a - 1) p ((Jv L).drop i)=true)/\Hid (KP u0 0 (Jv L)=Jv pre++KP u0 a ((Jv L).drop i))/\pre.length<=2 * i) (fun _ v9 _=>n - (intOf v9).toNat)
 case atStart=>exact⟨0,0,[],rfl,rfl,by omega,by omega,hg,h0,⟨none,HFM.out⟩,rfl,by simp⟩
 case round=>
  obtain⟨i,a,pre,rfl,rfl,hi,ha,hgd,hj,hzf,hev,hpl⟩:=hrel;by_cases hlt:i < n
  ·have hkL:i < L.length:=by rw[HL.out];exact hlt
   have hkZ:i < (Jv L).length:=by rw[JH];exact hkL
   obtain⟨p,hp⟩:=hzf.out;rw[Eh hkZ,XE L i hkL,zF,Ea] at hp;obtain⟨b,oo,rfl,hab,g0,g1,g2⟩:=HR.out.zone hkL;obtain⟨hvl,hRv⟩:=HR.out.each _ (En hkL);have hvf:=JbJ HFM.out L[i].2 (by unfold Jv;exact EL (En hkL));have hev1:=hev.out;rw[Eh hkZ,XE L i hkL] at hev1;obtain⟨z1,z2,z3,z4⟩:=Qo hp.1;have hp2:=hp.2;generalize L[i]=y at g0 g1 g2 hvl hRv hvf hev1 z1 z2 z3 hp2;obtain⟨⟨Av,nv,cv⟩,⟨lo,hi'⟩,u⟩:=y;dsimp only at g0 g1 g2 hvl hRv hvf hev1 z1 z2 z3 hp2;have HTV:=Ja (show EvT w0 (⟨Av,nv,cv⟩,(lo,hi'),u) from ⟨hvl,hRv,hvf⟩);have HP2:=Ja (show ∃p,zF (hi'+1 - 1) p ((Jv L).drop (i+1))=true from ⟨some u,by rw[show hi'+1 - 1=hi' by omega];exact hp2⟩);have HEV:=Ja hev1;have g0:=hgd.ol.cell _ _ g0;have g1:=hgd.ol.cell _ _ g1;have g2:=hgd.ol.cell _ _ g2;have hb1:Bz wr (wr.alloc (.cells #[.int .i64 lo,.int .i64 hi',.slice Av nv cv] 129)):=Zr.alloc Zl _;have hX:=Jm.new wr 129 #[.int .i64 lo,.int .i64 hi',.slice Av nv cv];have hgd1:=hgd.go hb1;have hj1:=JoM hJ hb1 hj;obtain⟨f1,f2⟩:=hgd.fresh (.cells #[.int .i64 lo,.int .i64 hi',.slice Av nv cv] 129);have hw1:IntKind.i64.wrap (lo - 1)=lo - 1:=EJ _ (by omega);have hw2:IntKind.i64.wrap (hi'+1)=hi'+1:=EJ _ (by omega);clear hp hp2 hvl hRv hvf hev hev1 hzf hab hgd hj z4 hkL hkZ;by_cases c1:a < lo
   ·obtain⟨fn,tmps,assign,body,hy,hR⟩:=hY pre (⟨D,q,d⟩,(a,lo - 1),u0) _ hj1 (HT0.out _) (by omega);have q2:=hgd1.b2.cell 0;have HX:=Ja hX;have HG:=Ja hgd1;have HF:=Ja (And.intro f1 f2);have HE:=Ja (show KP u0 0 (Jv L)=Jv ((pre++[(⟨D,q,d⟩,(a,lo - 1),u0)])++[(⟨Av,nv,cv⟩,(lo,hi'),u)])++KP u0 (hi'+1) ((Jv L).drop (i+1)) by
     rw[HEV.out,Jm3 u0 c1,JA,JA,Er,Er];rfl)
    have hy:(Instr.yield lp #[.agg #[.int .i64 a,.int .i64 (lo - 1),.slice D q d]]).run prog (wr.alloc (.cells #[.int .i64 lo,.int .i64 hi',.slice Av nv cv] 129))=_:=hy;have HY:=Ja hy;clear hX hgd1 hj1 HEV f1 f2 hy
    gi_wp2
    rw[HY.out]
    gi_wp2
    refine hR.mono ?_;have HE0:=Ja (show Jv (pre++[((⟨D,q,d⟩:ZV),(a,lo - 1),u0)]) <+: KP u0 0 (Jv L) by rw[HE.out,JA (pre++_),Er];exact⟨_,rfl⟩);rintro e W3 (⟨rfl,hJ3,hk3⟩ | ⟨rfl,hJx3⟩)
    ·have X1:=Ja (hk3.blk HF.out.2 HF.out.1 HX.out);have G1:=Ja (HG.out.keep hk3);have FF:=Ja (And.intro (hk3.still (by simp) HF.out.1) HF.out.2);clear HX HG HF hk3 q2 HY;obtain⟨fn2,tmps2,assign2,body2,hy2,hR2⟩:=hY (pre++[(⟨D,q,d⟩,(a,lo - 1),u0)]) (⟨Av,nv,cv⟩,(lo,hi'),u) W3 hJ3 HTV.out (by simp only[Eb,List.length_singleton];omega);have hy2:(Instr.yield lp #[.agg #[.int .i64 lo,.int .i64 hi',.slice Av nv cv]]).run prog W3=_:=hy2;have HY2:=Ja hy2;obtain⟨x0,x1,x2⟩:=X1.out.three;clear hy2
     gi_wp2
     rw[HY2.out]
     gi_wp2
     refine hR2.mono ?_;rintro e W4 (⟨rfl,hJ4,hk4⟩ | ⟨rfl,hJx4⟩)
     ·have hX4:=hk4.blk FF.out.2 FF.out.1 X1.out;have y1:=hX4.cell 1;have hgd4:=G1.out.keep hk4;clear x0 x1 x2 HY2
      gi_wp2
      go_roundw
      case rel=>exact⟨i+1,hi'+1,_,by go_num,rfl,by omega,by omega,hgd4,hJ4,HP2.out,HE.out,by simp only[Eb,List.length_singleton];omega⟩
      case measure=>simp[intOf];omega
     ·gi_wp2
      refine EF (Nd rfl _ _ _) rfl ?_;exact⟨⟨_,rfl⟩,.inr ⟨_,⟨_,HE.out.symm⟩,hJx4⟩⟩
    ·gi_wp2
     refine EF (Nd rfl _ _ _) rfl ?_;exact⟨⟨_,rfl⟩,.inr ⟨_,HE0.out,hJx3⟩⟩
   ·have HE:=Ja (show KP u0 0 (Jv L)=Jv (pre++[(⟨Av,nv,cv⟩,(lo,hi'),u)])++KP u0 (hi'+1) ((Jv L).drop (i+1)) by
     rw[HEV.out,Jku u0 c1,JA,Er];rfl)
    have X1:=Ja hX;have G1:=Ja hgd1;have FF:=Ja (And.intro f1 f2);clear hX hgd1 HEV f1 f2;obtain⟨fn2,tmps2,assign2,body2,hy2,hR2⟩:=hY (pre) (⟨Av,nv,cv⟩,(lo,hi'),u) (wr.alloc (.cells #[.int .i64 lo,.int .i64 hi',.slice Av nv cv] 129)) hj1 HTV.out (by omega);have hy2:(Instr.yield lp #[.agg #[.int .i64 lo,.int .i64 hi',.slice Av nv cv]]).run prog (wr.alloc (.cells #[.int .i64 lo,.int .i64 hi',.slice Av nv cv] 129))=_:=hy2;have HY2:=Ja hy2;obtain⟨x0,x1,x2⟩:=X1.out.three;clear hy2
    gi_wp2
    refine⟨fun f hf=>(by cases hf),?_⟩
    gi_wp2
    rw[HY2.out]
    gi_wp2
    refine hR2.mono ?_;rintro e W4 (⟨rfl,hJ4,hk4⟩ | ⟨rfl,hJx4⟩)
    ·have hX4:=hk4.blk FF.out.2 FF.out.1 X1.out;have y1:=hX4.cell 1;have hgd4:=G1.out.keep hk4;clear x0 x1 x2 HY2
     gi_wp2
     go_roundw
     case rel=>exact⟨i+1,hi'+1,_,by go_num,rfl,by omega,by omega,hgd4,hJ4,HP2.out,HE.out,by simp only[Eb,List.length_singleton];omega⟩
     case measure=>simp[intOf];omega
    ·gi_wp2
     refine EF (Nd rfl _ _ _) rfl ?_;exact⟨⟨_,rfl⟩,.inr ⟨_,⟨_,HE.out.symm⟩,hJx4⟩⟩
  ·obtain rfl:i=n:=by omega
   have hev1:=hev.out;rw[Ed (by rw[JH,HL.out];exact Ek _)] at hev1;by_cases c1:a<=255
   ·have HE:=Ja (show KP u0 0 (Jv L)=Jv (pre++[(⟨D,q,d⟩,(a,255),u0)]) by rw[hev1,KP,Ei c1,JA];rfl);obtain⟨fn,tmps,assign,body,hy,hR⟩:=hY pre (⟨D,q,d⟩,(a,255),u0) wr hj (HT0.out _) (by omega);have hy:(Instr.yield lp #[.agg #[.int .i64 a,.int .i64 255,.slice D q d]]).run prog wr=_:=hy;have HY:=Ja hy;have q2:=hgd.b2.cell 0;clear hev hev1 hzf hy
    gi_wp2
    rw[HY.out]
    gi_wp2
    refine hR.mono ?_;rintro e W3 (⟨rfl,hJ3,hk3⟩ | ⟨rfl,hJx3⟩)
    ·gi_wp2
     go_end0;exact⟨⟨_,rfl⟩,.inl ⟨_,HE.out.symm,hJ3⟩⟩
    ·gi_wp2
     go_end0;exact⟨⟨_,rfl⟩,.inr ⟨_,by rw[HE.out];exact List.prefix_refl _,hJx3⟩⟩
   ·have HE:=Ja (show KP u0 0 (Jv L)=Jv pre by rw[hev1,KP,Ef c1,EG]);clear hev hev1 hzf
    gi_wp2
    go_end0;exact⟨⟨_,rfl⟩,.inl ⟨pre,HE.out.symm,hj⟩⟩
theorem Jf6 (m:Nat) (hm:1<=m) (BO B1 B2:Nat) (A D:OA) (n c q d:Nat) (L:List (ZV×Zn)) (u0:List Vc.St) (w0:World) (hR:Zc w0 w0.heap.size A n c L) (hf:zF (-1) none (Jv L)=true) (hT0:∀s,EvT w0 (⟨D,q,d⟩,s,u0)) (w:World) (hg:Uu w0 BO B1 B2 A n c D q d w):
  JiX Fence.wide m prog 206 #[.pointer (some ⟨B1,0,none⟩),.pointer (some ⟨B2,0,none⟩)] evZ (fun x _=>EvT w0 x) (KZ BO) (fun ys=>Jv ys=KP u0 0 (Jv L)) (fun pre=>Jv pre <+: KP u0 0 (Jv L)) 513 w:=by
 intro lp J Jx W hW hJ hJx hY h0;exact Jh6 m hm lp BO B1 B2 A D n c q d L u0 w0 hR hf hT0 J Jx W.heap.size hJ hY W (hg.go hW) h0
theorem Jht (A D:OA) (n c q d:Nat) (w:World):Calls prog 182 #[.slice A n c,.slice D q d] w fun e w'=>
  e=.returned (.func (.func 206) #[] #[.pointer (some ⟨w.heap.size,0,none⟩),.pointer (some ⟨w.heap.size+1,0,none⟩)])/\w'=(w.alloc (.cells #[.slice A n c] 32)).alloc (.cells #[.slice D q d] 22):=by
 go_enter func182,ntmps182;go_wp2;go_ret;exact⟨rfl,rfl⟩
end
section
open Go.RowKit Go.Shelf
attribute [local go_sem] Oper.semAt_some
theorem QC {B:Nat} {W V:World} (h:Bz W V):KeepsFrom B W V:=⟨h.size,fun k _ _ hk _=>(h.block k (EA.1 hk).1).trans hk⟩
theorem UG {W:World} {BO:Nat} {t:TypeId} {v:Value} (h:Boxed W BO t v):pt BO W=v.ownBlock:=by
 unfold pt;rw[h.cell];rcases v with _ | _ | _ | _ | _ | _ | _ | _ | _ | _ | _ | _ | _ | _<;>first | rfl | (rename_i a _ _;cases a<;>rfl)
theorem KZ.appended {W W1 W2:World} {BO base k:Nat} {t e:TypeId} {size:Nat} {v v':Value} {xs:List Value} (hv:Boxed W BO t v) (hte:t≠e) (hb:Bz W W1) (hrow:W1.ownsRow base e size v k xs)
  (hg:W1.grownBy W2 v.ownBlock) (hat:v'.ownBlock=v.ownBlock\/v'.ownBlock=some W1.heap.size) (hlt:∀g,v'.ownBlock=some g->g < W2.heap.size):KZ BO W (W2.setCell ⟨BO,0,none⟩ v'):=by
 have hv1:Boxed W1 BO t v:=(hb.block _ hv.lt).trans hv;have hv2:Boxed W2 BO t v:=hv1.kept hg (hv1.not_row hte hrow);refine⟨by have:=hb.size;have:=hg.size;simp;omega,fun i o hB hp hi _=>?_,?_⟩
 ·have h1:=(hb.block i (EA.1 hi).1).trans hi;have h2:=(hg.block i (EA.1 h1).1 (fun e=>hp (by rw[UG hv,<-e]))).trans h1;exact(GH W2 ⟨BO,0,none⟩ v' i (fun e=>hB (by rw[e]))).trans h2
 ·rw[UG (hv2.set v'),UG hv];rcases hat with e | e
  ·exact .inl e
  ·exact .inr ⟨_,e,hb.size,by have:=hlt _ e;simpa using this⟩
theorem KeepsFrom.appended {W W1 W2:World} {B BO base k:Nat} {e:TypeId} {size:Nat} {v v':Value} {xs:List Value} (hb:Bz W W1) (hrow:W1.ownsRow base e size v k xs) (hg:W1.grownBy W2 v.ownBlock):KeepsFrom B W (W2.setCell ⟨BO,0,none⟩ v'):=by
 refine(QC hb).trans (((KeepsOthers.of_grownBy hg fun j o ej hj=>?_).trans (KeepsOthers.setCell _ _ _)).from _);rcases hrow.2 with ⟨rfl,_⟩ | ⟨g,cap,cur,rfl,_,hgb,_⟩
 ·simp[Value.ownBlock] at ej
 ·obtain rfl:g=j:=by simpa[Value.ownBlock] using ej
  rw[hgb] at hj;cases hj;rfl
end
end Go.Proofs.YtmbeahbgafkjfaaGreatDoor
