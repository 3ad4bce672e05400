/- Lemmas for the claim, layer 21. -/
import Derived.Test.YtmbeahbgafkjfaaGreatDoorKc20
set_option maxRecDepth 100000
set_option maxHeartbeats 16000000
namespace Go.Proofs.YtmbeahbgafkjfaaGreatDoor
open Go.RowKit
def bdE (x y:Wq.Bd):Bool:=decide (x.o=y.o) && (decide (x.s=y.s) && (x.v == y.v))
theorem bdE_iff (x y:Wq.Bd):bdE x y=true↔x=y:=by
 cases x;cases y;simp[bdE]
def bdsE:List Wq.Bd->List Wq.Bd->Bool
 | [],[]=>true
 | x :: r,y :: q=>bdE x y && bdsE r q
 | _,_=>false
theorem bdsE_iff:∀(l m:List Wq.Bd),bdsE l m=true↔l=m
 | [],[]=>by simp[bdsE]
 | [],y :: q=>by simp[bdsE]
 | x :: r,[]=>by simp[bdsE]
 | x :: r,y :: q=>by simp[bdsE,bdE_iff,bdsE_iff r q]
theorem bdsE_len {l m:List Wq.Bd} (h:¬ l.length=m.length):bdsE l m=false:=by
 rcases hb:bdsE l m with _ | _
 ·rfl
 ·exact absurd (congrArg List.length ((bdsE_iff l m).1 hb)) h
theorem bdsE_drop (l m:List Wq.Bd) (k:Nat) (h:k < l.length) (h2:k < m.length):bdsE (l.drop k) (m.drop k)=(bdE l[k] m[k] && bdsE (l.drop (k+1)) (m.drop (k+1))):=by
 rw[List.drop_eq_getElem_cons h,List.drop_eq_getElem_cons h2,bdsE]
theorem refSameBody_any (x y:Wq.Bd) (A B:Option Addr) (c d:Nat) (w:World) (hR:Rd w w.heap.size 1 A x.v.length c (bv x.v)) (hR2:Rd w w.heap.size 1 B y.v.length d (bv y.v)):
  Calls Tryz.prog 45 #[.agg (bval x A c),.agg (bval y B d)] w fun e w'=>e=.returned (.bool (bdE x y))/\Below w.heap.size w w':=by
 obtain⟨o,⟨a,b⟩,v⟩:=x;obtain⟨o2,⟨a2,b2⟩,v2⟩:=y;unfold bval bdE;dsimp only at *;have hb:Below w.heap.size w ((w.alloc (.cells #[.int .i64 o,.int .i64 a,.int .i64 b,.slice A v.length c] 31)).alloc (.cells #[.int .i64 o2,.int .i64 a2,.int .i64 b2,.slice B v2.length d] 31)):=(Zr.alloc Zl _).alloc (by simp) _;have h1:=((Blk.new w 31 #[.int .i64 o,.int .i64 a,.int .i64 b,.slice A v.length c]).alloc (.cells #[.int .i64 o2,.int .i64 a2,.int .i64 b2,.slice B v2.length d] 31)).quad;have h2:=(Blk.new (w.alloc (.cells #[.int .i64 o,.int .i64 a,.int .i64 b,.slice A v.length c] 31)) 31 #[.int .i64 o2,.int .i64 a2,.int .i64 b2,.slice B v2.length d]).quad;rw[World.size_alloc] at h2;have G:=sameB_any A B v.length c v2.length d w.heap.size w.heap.size v v2 ((w.alloc (.cells #[.int .i64 o,.int .i64 a,.int .i64 b,.slice A v.length c] 31)).alloc (.cells #[.int .i64 o2,.int .i64 a2,.int .i64 b2,.slice B v2.length d] 31)) (hR.below hb) (hR2.below hb);generalize (v == v2)=z at G ⊢;obtain⟨p0,p1,p2,p3⟩:=h1;obtain⟨q0,q1,q2,q3⟩:=h2;have G:=Hz_ G;have HB:=Hz_ hb;clear hb hR hR2;generalize v.length=n at *;generalize v2.length=n2 at *;by_cases e1:o=o2
 ·subst e1;by_cases e2:a=a2
  ·subst e2;by_cases e3:b=b2
   ·subst e3;have HN:=Hz_ (show (decide (o=o) && (decide ((a,b)=(a,b)) && z))=z by simp);rw[HN.out];go_enter Tryz.func45,Tryz.ntmps45;go_wp2_with (go_at_call 11;go_must (refine G.out.mono ?_);rintro e w1 ⟨rfl,rfl⟩);go_ret;exact⟨rfl,HB.out⟩
   ·have HN:=Hz_ (show (decide (o=o) && (decide ((a,b)=(a,b2)) && z))=false by simp[e3]);rw[HN.out];go_enter Tryz.func45,Tryz.ntmps45;go_wp2;go_ret;exact⟨rfl,HB.out⟩
  ·have HN:=Hz_ (show (decide (o=o) && (decide ((a,b)=(a2,b2)) && z))=false by simp[e2]);rw[HN.out];go_enter Tryz.func45,Tryz.ntmps45;go_wp2;go_ret;exact⟨rfl,HB.out⟩
 ·have HN:=Hz_ (show (decide (o=o2) && (decide ((a,b)=(a2,b2)) && z))=false by simp[e1]);rw[HN.out];go_enter Tryz.func45,Tryz.ntmps45;go_wp2;go_ret;exact⟨rfl,HB.out⟩
theorem ref12Same_any (A D:Option Addr) (n c m d:Nat) (L M:List (BV×Wq.Bd)) (w:World) (hR:RdBs w w.heap.size A n c L) (hR2:RdBs w w.heap.size D m d M):
  Calls Tryz.prog 83 #[.slice A n c,.slice D m d] w fun e w'=>e=.returned (.bool (bdsE (bds L) (bds M)))/\Below w.heap.size w w':=by
 have hmax:=hR.max;have HL:=Hz_ hR.len;have HL2:=Hz_ hR2.len;by_cases hnm:n=m
 ·subst hnm;have HB1:=Hz_ fun (W:World) (hb:Below w.heap.size w W) k (hk:k < L.length)=>(hR.below hb).body hk;have HB2:=Hz_ fun (W:World) (hb:Below w.heap.size w W) k (hk:k < M.length)=>(hR2.below hb).body hk;have HG:=Hz_ fun (W:World) (hb:Below w.heap.size w W) p (hp:p∈L) q (hq:q∈M)=>refSameBody_any p.2 q.2 p.1.A q.1.A p.1.c q.1.c W ((hR.each p hp).go hb) ((hR2.each q hq).go hb);have HD:=Hz_ fun k h h2=>bdsE_drop (bds L) (bds M) k h h2;clear hR hR2;go_enter Tryz.func83,Tryz.ntmps83;go_wp2;go_loopw [5] (fun i wr=>∃(j:Nat),j<=n/\i=.int .i64 j/\Below w.heap.size w wr/\Hid (bdsE (bds L) (bds M)=bdsE ((bds L).drop j) ((bds M).drop j))) (fun i _=>n - (intOf i).toNat)
  case atStart=>exact⟨0,by omega,rfl,Below.refl _ _,rfl⟩
  case round=>
   obtain⟨j,hj,rfl,k,hr⟩:=hrel;by_cases hlt:j < n
   ·have hjl:j < L.length:=by rw[HL.out];exact hlt
    have hjm:j < M.length:=by rw[HL2.out];exact hlt
    obtain⟨b,o,rfl,hbb,-⟩:=HB1.out wr k j hjl;obtain⟨b2,o2,rfl,hbb2,-⟩:=HB2.out wr k j hjm;have hd:=hr.out.trans (HD.out j (by rw[bds_len];exact hjl) (by rw[bds_len];exact hjm));rw[bds_at L j hjl,bds_at M j hjm] at hd;have G:=fun (W:World) (hb:Below w.heap.size w W)=>HG.out W hb L[j] (List.getElem_mem hjl) M[j] (List.getElem_mem hjm);unfold bval at G;generalize bdE L[j].2 M[j].2=z at G hd;have HE:=Hz_ fun (W:World) (hb:Below wr.heap.size wr W)=>(⟨held_at (HB1.out W (btn k hb) j hjl),held_at (HB2.out W (btn k hb) j hjm)⟩:_/\_);generalize L[j].2.o=y0 at G HE;generalize L[j].2.s.1=y1 at G HE;generalize L[j].2.s.2=y2 at G HE;generalize L[j].1.A=y3 at G HE;generalize L[j].2.v.length=y4 at G HE;generalize L[j].1.c=y5 at G HE;generalize M[j].2.o=z0 at G HE;generalize M[j].2.s.1=z1 at G HE;generalize M[j].2.s.2=z2 at G HE;generalize M[j].1.A=z3 at G HE;generalize M[j].2.v.length=z4 at G HE;generalize M[j].1.c=z5 at G HE;have G:=Hz_ G;have HDD:=Hz_ hd;have HS:=HE;clear hr hd HE hbb hbb2 hjl hjm;cases z
    ·have HN:=Hz_ (show bdsE (bds L) (bds M)=false by rw[HDD.out,Bool.false_and]);have kw:Below w.heap.size w wr.drew:=k.drew;have kk:Below wr.heap.size wr wr.drew:=(Below.refl _ wr).drew;clear k;go_wp2;refine region_nrm fun KK hKK=>?_;refine wp_region_held_drew (S:=(fun W=>(W.cell? ⟨b,o+j * 4,none⟩=some (.int .i64 y0)/\W.cell? ⟨b,o+j * 4+1,none⟩=some (.int .i64 y1)/\W.cell? ⟨b,o+j * 4+2,none⟩=some (.int .i64 y2)/\W.cell? ⟨b,o+j * 4+3,none⟩=some (.slice y3 y4 y5))/\(W.cell? ⟨b2,o2+j * 4,none⟩=some (.int .i64 z0)/\W.cell? ⟨b2,o2+j * 4+1,none⟩=some (.int .i64 z1)/\W.cell? ⟨b2,o2+j * 4+2,none⟩=some (.int .i64 z2)/\W.cell? ⟨b2,o2+j * 4+3,none⟩=some (.slice z3 z4 z5)))) (by kernel_rfl) (by first | exact HS.out _ kk) (fun hHeld=>?_);refine puA 0 17 (HS.out _ kk) ?_;refine puA 1 18 (HS.out _ kk) ?_;refine puA 2 19 (HS.out _ kk) ?_;refine puA 3 20 (HS.out _ kk) ?_;refine puA 4 21 (HS.out _ kk) ?_;refine puA 5 22 (HS.out _ kk) ?_;refine puA 6 23 (HS.out _ kk) ?_;refine puA 7 24 (HS.out _ kk) ?_;refine puR 8 fun K hK=>?_;go_simp;refine(G.out _ kw).mono ?_;rintro e w' ⟨rfl,hb'⟩;have kw:=btn kw hb';have kk:=btn kk hb';clear hb';refine hK.out _ _ (HS.out _ kk) fun hHeld=>?_;clear hK K;refine puA 9 26 (HS.out _ kk) ?_;refine wpAnyH_done (by kernel_rfl) ?_ _;refine Nrm.out (hKK _ _ ?_);go_wp2;go_ret;exact⟨by rw[HN.out]<;>rfl,kw⟩
    ·have HN:=Hz_ (show bdsE (bds L) (bds M)=bdsE ((bds L).drop (j+1)) ((bds M).drop (j+1)) by rw[HDD.out,Bool.true_and]);have kw:Below w.heap.size w wr.drew:=k.drew;have kk:Below wr.heap.size wr wr.drew:=(Below.refl _ wr).drew;clear k;go_wp2;refine region_nrm fun KK hKK=>?_;refine wp_region_held_drew (S:=(fun W=>(W.cell? ⟨b,o+j * 4,none⟩=some (.int .i64 y0)/\W.cell? ⟨b,o+j * 4+1,none⟩=some (.int .i64 y1)/\W.cell? ⟨b,o+j * 4+2,none⟩=some (.int .i64 y2)/\W.cell? ⟨b,o+j * 4+3,none⟩=some (.slice y3 y4 y5))/\(W.cell? ⟨b2,o2+j * 4,none⟩=some (.int .i64 z0)/\W.cell? ⟨b2,o2+j * 4+1,none⟩=some (.int .i64 z1)/\W.cell? ⟨b2,o2+j * 4+2,none⟩=some (.int .i64 z2)/\W.cell? ⟨b2,o2+j * 4+3,none⟩=some (.slice z3 z4 z5)))) (by kernel_rfl) (by first | exact HS.out _ kk) (fun hHeld=>?_);refine puA 0 17 (HS.out _ kk) ?_;refine puA 1 18 (HS.out _ kk) ?_;refine puA 2 19 (HS.out _ kk) ?_;refine puA 3 20 (HS.out _ kk) ?_;refine puA 4 21 (HS.out _ kk) ?_;refine puA 5 22 (HS.out _ kk) ?_;refine puA 6 23 (HS.out _ kk) ?_;refine puA 7 24 (HS.out _ kk) ?_;refine puR 8 fun K hK=>?_;go_simp;refine(G.out _ kw).mono ?_;rintro e w' ⟨rfl,hb'⟩;have kw:=btn kw hb';have kk:=btn kk hb';clear hb';refine hK.out _ _ (HS.out _ kk) fun hHeld=>?_;clear hK K;refine puA 9 26 (HS.out _ kk) ?_;refine wpAnyH_done (by kernel_rfl) ?_ _;refine Nrm.out (hKK _ _ ?_);go_wp2;go_roundw
     case rel=>exact⟨j+1,by omega,by go_num,kw,HN⟩
     case measure=>simp[intOf];omega
   ·obtain rfl:j=n:=by omega
    have HN:=Hz_ (show bdsE (bds L) (bds M)=true by rw[hr.out,List.drop_of_length_le (by rw[bds_len,HL.out];exact Nat.le_refl _),List.drop_of_length_le (by rw[bds_len,HL2.out];exact Nat.le_refl _)];rfl);clear hr;go_wp2;go_ret;exact⟨by rw[HN.out]<;>rfl,k⟩
 ·have HN:=Hz_ (bdsE_len (l:=bds L) (m:=bds M) (by rw[bds_len,bds_len,HL.out,HL2.out];exact hnm));have hne:¬ ((n:Int)=(m:Int)):=by omega
  clear hR hR2;go_enter Tryz.func83,Tryz.ntmps83;go_wp2;go_ret;exact⟨by rw[HN.out]<;>rfl,Below.refl _ _⟩
def vwE (v u:Vw):Bool:=decide (v.known=u.known) && (decide (v.zones=u.zones) && (decide (v.held=u.held) && (bdsE v.bods u.bods && decide (v.room=u.room))))
theorem vwE_iff (v u:Vw):vwE v u=true↔v=u:=by
 cases v;cases u;simp[vwE,bdsE_iff]
theorem ref13Same_any (u u':VV) (v v':Vw) (L L':List (ZV×Zn)) (M M':List (BV×Wq.Bd)) (w:World) (hV:VwRd w w.heap.size u v L M) (hV':VwRd w w.heap.size u' v' L' M'):
  Calls Tryz.prog 22 #[.agg (vval v u),.agg (vval v' u')] w fun e w'=>e=.returned (.bool (vwE v v'))/\Below w.heap.size w w':=by
 obtain⟨kA,kc,zA,zc,hA,hc,bA,bc⟩:=u;obtain⟨known,zones,held,bods,room⟩:=v;obtain⟨h1,h2,h3,h4,h5,h6⟩:=hV;obtain⟨kA',kc',zA',zc',hA',hc',bA',bc'⟩:=u';obtain⟨known',zones',held',bods',room'⟩:=v';obtain⟨h1',h2',h3',h4',h5',h6'⟩:=hV';unfold vval vwE;dsimp only at *;have G1:=Hz_ fun (W:World) (hb:Below w.heap.size w W)=>same_any kA kA' known.length kc known'.length kc' known known' W rfl rfl (h1.go hb) (h1'.go hb);have G2:=fun (W:World) (hb:Below w.heap.size w W)=>(refZonesSame_q zA zA' zones.length zc zones'.length zc' L L' W (h2.go hb) (h2'.go hb)).mono (R':=fun e w'=>e=.returned (.bool (decide (zns L=zns L')))/\Below W.heap.size W w') (fun e w' h=>by obtain⟨h1,q,h2⟩:=h;subst h2;exact⟨h1,below_drewN Zr q⟩);have G3:=Hz_ fun (W:World) (hb:Below w.heap.size w W)=>sameW_any hA hA' held.length hc held'.length hc' held held' W rfl rfl (h4.go hb) (h4'.go hb);have G4:=fun (W:World) (hb:Below w.heap.size w W)=>ref12Same_any bA bA' bods.length bc bods'.length bc' M M' W (h5.go hb) (h5'.go hb);rw[h3,h3'] at G2;rw[h6,h6'] at G4;have G2:=Hz_ G2;have G4:=Hz_ G4;generalize decide (known=known')=f1 at G1 ⊢;generalize decide (zones=zones')=f2 at G2 ⊢;generalize decide (held=held')=f3 at G3 ⊢;generalize bdsE bods bods'=f4 at G4 ⊢;clear h1 h2 h3 h4 h5 h6 h1' h2' h3' h4' h5' h6';generalize known.length=nk at *;generalize zones.length=nz at *;generalize held.length=nh at *;generalize bods.length=nb at *;generalize known'.length=nk' at *;generalize zones'.length=nz' at *;generalize held'.length=nh' at *;generalize bods'.length=nb' at *;have hb0:Below w.heap.size w ((w.alloc (.cells #[.slice kA nk kc,.slice zA nz zc,.slice hA nh hc,.slice bA nb bc,.int .i64 room] 35)).alloc (.cells #[.slice kA' nk' kc',.slice zA' nz' zc',.slice hA' nh' hc',.slice bA' nb' bc',.int .i64 room'] 35)):=(Zr.alloc Zl _).alloc (by simp) _;have hX:=(Blk.new w 35 #[.slice kA nk kc,.slice zA nz zc,.slice hA nh hc,.slice bA nb bc,.int .i64 room]).alloc (.cells #[.slice kA' nk' kc',.slice zA' nz' zc',.slice hA' nh' hc',.slice bA' nb' bc',.int .i64 room'] 35);have hY:=Blk.new (w.alloc (.cells #[.slice kA nk kc,.slice zA nz zc,.slice hA nh hc,.slice bA nb bc,.int .i64 room] 35)) 35 #[.slice kA' nk' kc',.slice zA' nz' zc',.slice hA' nh' hc',.slice bA' nb' bc',.int .i64 room'];rw[World.size_alloc] at hY;generalize hW0:(w.alloc (.cells #[.slice kA nk kc,.slice zA nz zc,.slice hA nh hc,.slice bA nb bc,.int .i64 room] 35)).alloc (.cells #[.slice kA' nk' kc',.slice zA' nz' zc',.slice hA' nh' hc',.slice bA' nb' bc',.int .i64 room'] 35)=W0 at hb0 hX hY;have HX:=Hz_ fun (W:World) (hb:Below W0.heap.size W0 W)=>(⟨(hX.go hb).five,(hY.go hb).five⟩:_/\_);have HW0:=Hz_ hW0;have k:Below W0.heap.size W0 W0:=Below.refl _ _;have kw:Below w.heap.size w W0:=hb0;obtain⟨⟨b0,b1,b2,b3,b4⟩,c0,c1,c2,c3,c4⟩:=HX.out _ k;clear hX hY hW0 hb0;go_enter Tryz.func22,Tryz.ntmps22;go_wp2_with fail;rw[HW0.out];cases f1
 ·go_wp2_with (first | (go_at_call 80;go_must (refine(G1.out _ kw).mono ?_);rintro e w' ⟨rfl,hb'⟩;have k:=btn k hb';have kw:=btn kw hb';clear hb';obtain⟨⟨b0,b1,b2,b3,b4⟩,c0,c1,c2,c3,c4⟩:=HX.out _ k));go_ret;exact⟨by simp,kw⟩
 cases f2
 ·go_wp2_with (first | (go_at_call 80;go_must (refine(G1.out _ kw).mono ?_);rintro e w' ⟨rfl,hb'⟩;have k:=btn k hb';have kw:=btn kw hb';clear hb';obtain⟨⟨b0,b1,b2,b3,b4⟩,c0,c1,c2,c3,c4⟩:=HX.out _ k) | (go_at_call 81;go_must (refine(G2.out _ kw).mono ?_);rintro e w' ⟨rfl,hb'⟩;have k:=btn k hb';have kw:=btn kw hb';clear hb';obtain⟨⟨b0,b1,b2,b3,b4⟩,c0,c1,c2,c3,c4⟩:=HX.out _ k));go_ret;exact⟨by simp,kw⟩
 cases f3
 ·go_wp2_with (first | (go_at_call 80;go_must (refine(G1.out _ kw).mono ?_);rintro e w' ⟨rfl,hb'⟩;have k:=btn k hb';have kw:=btn kw hb';clear hb';obtain⟨⟨b0,b1,b2,b3,b4⟩,c0,c1,c2,c3,c4⟩:=HX.out _ k) | (go_at_call 81;go_must (refine(G2.out _ kw).mono ?_);rintro e w' ⟨rfl,hb'⟩;have k:=btn k hb';have kw:=btn kw hb';clear hb';obtain⟨⟨b0,b1,b2,b3,b4⟩,c0,c1,c2,c3,c4⟩:=HX.out _ k) | (go_at_call 82;go_must (refine(G3.out _ kw).mono ?_);rintro e w' ⟨rfl,hb'⟩;have k:=btn k hb';have kw:=btn kw hb';clear hb';obtain⟨⟨b0,b1,b2,b3,b4⟩,c0,c1,c2,c3,c4⟩:=HX.out _ k));go_ret;exact⟨by simp,kw⟩
 cases f4
 ·go_wp2_with (first | (go_at_call 80;go_must (refine(G1.out _ kw).mono ?_);rintro e w' ⟨rfl,hb'⟩;have k:=btn k hb';have kw:=btn kw hb';clear hb';obtain⟨⟨b0,b1,b2,b3,b4⟩,c0,c1,c2,c3,c4⟩:=HX.out _ k) | (go_at_call 81;go_must (refine(G2.out _ kw).mono ?_);rintro e w' ⟨rfl,hb'⟩;have k:=btn k hb';have kw:=btn kw hb';clear hb';obtain⟨⟨b0,b1,b2,b3,b4⟩,c0,c1,c2,c3,c4⟩:=HX.out _ k) | (go_at_call 82;go_must (refine(G3.out _ kw).mono ?_);rintro e w' ⟨rfl,hb'⟩;have k:=btn k hb';have kw:=btn kw hb';clear hb';obtain⟨⟨b0,b1,b2,b3,b4⟩,c0,c1,c2,c3,c4⟩:=HX.out _ k) | (go_at_call 83;go_must (refine(G4.out _ kw).mono ?_);rintro e w' ⟨rfl,hb'⟩;have k:=btn k hb';have kw:=btn kw hb';clear hb';obtain⟨⟨b0,b1,b2,b3,b4⟩,c0,c1,c2,c3,c4⟩:=HX.out _ k));go_ret;exact⟨by simp,kw⟩
 by_cases hr:room=room'
 ·subst hr;go_wp2_with (first | (go_at_call 80;go_must (refine(G1.out _ kw).mono ?_);rintro e w' ⟨rfl,hb'⟩;have k:=btn k hb';have kw:=btn kw hb';clear hb';obtain⟨⟨b0,b1,b2,b3,b4⟩,c0,c1,c2,c3,c4⟩:=HX.out _ k) | (go_at_call 81;go_must (refine(G2.out _ kw).mono ?_);rintro e w' ⟨rfl,hb'⟩;have k:=btn k hb';have kw:=btn kw hb';clear hb';obtain⟨⟨b0,b1,b2,b3,b4⟩,c0,c1,c2,c3,c4⟩:=HX.out _ k) | (go_at_call 82;go_must (refine(G3.out _ kw).mono ?_);rintro e w' ⟨rfl,hb'⟩;have k:=btn k hb';have kw:=btn kw hb';clear hb';obtain⟨⟨b0,b1,b2,b3,b4⟩,c0,c1,c2,c3,c4⟩:=HX.out _ k) | (go_at_call 83;go_must (refine(G4.out _ kw).mono ?_);rintro e w' ⟨rfl,hb'⟩;have k:=btn k hb';have kw:=btn kw hb';clear hb';obtain⟨⟨b0,b1,b2,b3,b4⟩,c0,c1,c2,c3,c4⟩:=HX.out _ k));go_ret;exact⟨by simp,kw⟩
 ·go_wp2_with (first | (go_at_call 80;go_must (refine(G1.out _ kw).mono ?_);rintro e w' ⟨rfl,hb'⟩;have k:=btn k hb';have kw:=btn kw hb';clear hb';obtain⟨⟨b0,b1,b2,b3,b4⟩,c0,c1,c2,c3,c4⟩:=HX.out _ k) | (go_at_call 81;go_must (refine(G2.out _ kw).mono ?_);rintro e w' ⟨rfl,hb'⟩;have k:=btn k hb';have kw:=btn kw hb';clear hb';obtain⟨⟨b0,b1,b2,b3,b4⟩,c0,c1,c2,c3,c4⟩:=HX.out _ k) | (go_at_call 82;go_must (refine(G3.out _ kw).mono ?_);rintro e w' ⟨rfl,hb'⟩;have k:=btn k hb';have kw:=btn kw hb';clear hb';obtain⟨⟨b0,b1,b2,b3,b4⟩,c0,c1,c2,c3,c4⟩:=HX.out _ k) | (go_at_call 83;go_must (refine(G4.out _ kw).mono ?_);rintro e w' ⟨rfl,hb'⟩;have k:=btn k hb';have kw:=btn kw hb';clear hb';obtain⟨⟨b0,b1,b2,b3,b4⟩,c0,c1,c2,c3,c4⟩:=HX.out _ k));go_ret;exact⟨by simp[hr],kw⟩
open Go.RowKit Go.Shelf
attribute [local go_sem] Oper.semAt_some
def pt (BO:Nat) (W:World):Option Nat:=match W.cell? ⟨BO,0,none⟩ with
 | some (.slice (some a) _ _)=>some a.block
 | _=>none
theorem pt_cell {BO:Nat} {W V:World} (h:V.cell? ⟨BO,0,none⟩=W.cell? ⟨BO,0,none⟩):pt BO V=pt BO W:=by unfold pt;rw[h]
structure KZ (BO:Nat) (W W':World):Prop where
 size:W.heap.size<=W'.heap.size
 same:∀k o,k≠BO->pt BO W≠some k->W.heap[k]?=some o->o.isCells=true->W'.heap[k]?=some o
 ptr:pt BO W'=pt BO W\/∃g,pt BO W'=some g/\W.heap.size<=g/\g < W'.heap.size
section
variable {BO:Nat} {W V X:World}
theorem KZ.trans (h:KZ BO W V) (k:KZ BO V X):KZ BO W X:=by
 refine⟨Nat.le_trans h.size k.size,fun i o hB hp hi ho=>?_,?_⟩
 ·refine k.same i o hB ?_ (h.same i o hB hp hi ho) ho;have hlt:=(Array.getElem?_eq_some_iff.1 hi).1;rcases h.ptr with e | ⟨g,e,h1,_⟩
  ·rw[e];exact hp
  ·rw[e];intro e2;injection e2 with e2;omega
 ·rcases k.ptr with e | ⟨g,e,h1,h2⟩
  ·rcases h.ptr with e2 | ⟨g,e2,h1,h2⟩
   ·exact .inl (e.trans e2)
   ·exact .inr ⟨g,e.trans e2,h1,Nat.lt_of_lt_of_le h2 k.size⟩
  ·exact .inr ⟨g,e,Nat.le_trans h.size h1,h2⟩
theorem KZ.of_below (hB:BO < W.heap.size) (h:Below W.heap.size W V):KZ BO W V:=
 ⟨h.size,fun k _ _ _ hk _=>(h.block k (Array.getElem?_eq_some_iff.1 hk).1).trans hk,.inl (pt_cell (h.cell (p:=⟨BO,0,none⟩) hB))⟩
theorem KZ.putObj {l:Nat} {o o':Obj} (hB:BO≠l) (hl:W.heap[l]?=some o) (h1:o.isCells=false):KZ BO W (W.putObj l o'):=
 ⟨by simp,fun k x _ _ hk hx=>by
  by_cases hkl:k=l
  ·subst hkl;rw[hl] at hk;injection hk with hk;subst hk;rw[h1] at hx;cases hx
  ·exact(World.putObj_heap_other (by omega)).trans hk,.inl (pt_cell (World.cell?_of_block (World.putObj_heap_other hB)))⟩
theorem KZ.cell (h:KZ BO W V) {p:Addr} {u:Value} (hB:p.block≠BO) (hp:pt BO W≠some p.block) (hc:W.cell? p=some u):V.cell? p=some u:=by
 obtain⟨o,ho,hx⟩:=cells_of_cell hc;exact(World.cell?_of_block ((h.same _ o hB hp ho hx).trans ho.symm)).trans hc
theorem KZ.blk (h:KZ BO W V) {g:Nat} {t:TypeId} {cs:Array Value} (hB:g≠BO) (hp:pt BO W≠some g) (hc:Blk W g t cs):Blk V g t cs:=h.same g _ hB hp hc rfl
end
structure GoodZ (w0:World) (BO B1 B2:Nat) (A:Option Addr) (n c:Nat) (D:Option Addr) (q d:Nat) (W:World):Prop where
 ol:Olds w0 W
 b1:Blk W B1 32 #[.slice A n c]
 b2:Blk W B2 22 #[.slice D q d]
 bo:BO < W.heap.size
 n0:w0.heap.size<=BO
 n1:BO≠B1
 n2:BO≠B2
 np:∀g,pt BO W=some g->w0.heap.size<=g/\g≠B1/\g≠B2/\g < W.heap.size
section
variable {w0 W V:World} {BO B1 B2:Nat} {A D:Option Addr} {n c q d:Nat}
theorem GoodZ.keep (h:GoodZ w0 BO B1 B2 A n c D q d W) (k:KZ BO W V):GoodZ w0 BO B1 B2 A n c D q d V:=by
 have h1:=h.b1.lt;have h2:=h.b2.lt;have h0:=h.ol.size;refine⟨⟨Nat.le_trans h0 k.size,fun p u hp=>?_⟩,k.blk (fun e=>h.n1 e.symm) (fun e=>(h.np _ e).2.1 rfl) h.b1,k.blk (fun e=>h.n2 e.symm) (fun e=>(h.np _ e).2.2.1 rfl) h.b2,Nat.lt_of_lt_of_le h.bo k.size,h.n0,h.n1,h.n2,fun g hg=>?_⟩
 ·have hlt:=World.block_lt_of_cell? _ _ hp;exact k.cell (fun e=>by have:=h.n0;omega) (fun e=>by have:=(h.np _ e).1;omega) (h.ol.cell p u hp)
 ·rcases k.ptr with e | ⟨g',e,e1,e2⟩
  ·obtain⟨a1,a2,a3,a4⟩:=h.np g (e ▸ hg);exact⟨a1,a2,a3,Nat.lt_of_lt_of_le a4 k.size⟩
  ·rw[e] at hg;injection hg with hg;subst hg;exact⟨by omega,by omega,by omega,e2⟩
theorem GoodZ.go (h:GoodZ w0 BO B1 B2 A n c D q d W) (hb:Below W.heap.size W V):GoodZ w0 BO B1 B2 A n c D q d V:=h.keep (KZ.of_below h.bo hb)
theorem GoodZ.fresh (h:GoodZ w0 BO B1 B2 A n c D q d W) (o:Obj):pt BO (W.alloc o)≠some W.heap.size/\W.heap.size≠BO:=by
 have e:pt BO (W.alloc o)=pt BO W:=pt_cell (World.cell?_alloc_lt W o _ h.bo);refine⟨fun e2=>?_,fun e2=>by have:=h.bo;omega⟩;rw[e] at e2;have:=(h.np _ e2).2.2.2;omega
theorem KZ.still (h:KZ BO W V) {g:Nat} (hg:g < W.heap.size) (hp:pt BO W≠some g):pt BO V≠some g:=by
 rcases h.ptr with e | ⟨g',e,e1,_⟩
 ·rw[e];exact hp
 ·rw[e];intro e2;injection e2 with e2;omega
end
theorem grown_of_belowZ {W W':World} (h:Below W.heap.size W W'):W.grownBy W' none:=⟨h.os,h.tape,h.output,h.size,fun k hk _=>h.block k hk⟩
theorem abideZ {β:Type} {B:Nat} {J:β->World->Prop} (h:AbidesFrom B J) {s:β} {W W':World} (hb:Below W.heap.size W W') (hs:J s W):J s W':=h s W W' none hs (grown_of_belowZ hb) (fun r e=>by cases e)
def evZ (x:ZV×Zn):Array Value:=#[.agg #[.int .i64 x.2.1.1,.int .i64 x.2.1.2,.slice x.1.A x.1.n x.1.c]]
structure EvT (w0:World) (x:ZV×Zn):Prop where
 len:x.2.2.length=x.1.n
 rd:Rd w0 w0.heap.size 2 x.1.A x.1.n x.1.c (sv x.2.2)
 fm:fm (-1) x.2.2=true
theorem pcs_gap (u:List Vc.St) {a:Int} {x:Zn} {r:List Zn} (h:a < x.1.1):pcs u a (x :: r)=((a,x.1.1 - 1),u) :: x :: pcs u (x.1.2+1) r:=by rw[pcs,if_pos h];rfl
theorem pcs_tight (u:List Vc.St) {a:Int} {x:Zn} {r:List Zn} (h:¬ a < x.1.1):pcs u a (x :: r)=x :: pcs u (x.1.2+1) r:=by rw[pcs,if_neg h];rfl
theorem pieces1_in (m:Nat) (hm:1<=m) (lp BO B1 B2:Nat) (A D:Option Addr) (n c q d:Nat) (L:List (ZV×Zn)) (u0:List Vc.St) (w0:World) (hR:RdZ w0 w0.heap.size A n c L) (hf:zF (-1) none (zns L)=true) (hT0:∀s,EvT w0 (⟨D,q,d⟩,s,u0))
  (J Jx:List (ZV×Zn)->World->Prop) (B:Nat) (hJ:AbidesFrom B J)
  (hY:∀pre (x:ZV×Zn) W,J pre W->EvT w0 x->pre.length < 513->YieldAt Fence.wide (m - 1) Tryz.prog lp (evZ x) W fun e W'=>
   (e=.returned (.bool true)/\J (pre++[x]) W'/\KZ BO W W')\/(e=.returned (.bool false)/\Jx (pre++[x]) W'))
  (W:World) (hg:GoodZ w0 BO B1 B2 A n c D q d W) (h0:J [] W):
  CallsIn Fence.wide m Tryz.prog 206 #[.func (.yield lp) #[] #[],.pointer (some ⟨B1,0,none⟩),.pointer (some ⟨B2,0,none⟩)] W fun e W'=>(∃v,e=.returned v) /\
   ((∃ys,zns ys=pcs u0 0 (zns L)/\J ys W')\/(∃pre,(zns pre <+: pcs u0 0 (zns L))/\Jx pre W')):=by
 have hn:=zF_256 hf;rw[zns_len,hR.len] at hn;have hbx:=hg.b1.cell 0;have HL:=Hz_ hR.len;have HR:=Hz_ hR;have HFM:=Hz_ hf;have HT0:=Hz_ hT0;clear hR hf hT0;refine callsIn_of_wp Tryz.func206 rfl trivial ?_ rfl;simp only[Tryz.ntmps206,List.size_toArray,List.length_cons,List.length_nil,Nat.reduceAdd,Nat.reduceSub,Array.replicate_succ,Array.replicate_zero,List.push_toArray,List.append_toArray,List.nil_append,List.cons_append]
 gi_wp2
 clear hbx
 gi_loopw [4,9] (fun v4 v9 wr=>∃(i:Nat) (a:Int) (pre:List (ZV×Zn)),v9=.int .i64 i/\v4=.int .i64 a/\i<=n/\(0<=a/\a<=256)/\GoodZ w0 BO B1 B2 A n c D q d wr/\J pre wr/\Hid (∃p,zF (a - 1) p ((zns L).drop i)=true)/\Hid (pcs u0 0 (zns L)=zns pre++pcs u0 a ((zns L).drop i))/\pre.length<=2 * i) (fun _ v9 _=>n - (intOf v9).toNat)
 case atStart=>exact⟨0,0,[],rfl,rfl,by omega,by omega,hg,h0,⟨none,HFM.out⟩,rfl,by simp⟩
 case round=>
  obtain⟨i,a,pre,rfl,rfl,hi,ha,hgd,hj,hzf,hev,hpl⟩:=hrel;by_cases hlt:i < n
  ·have hkL:i < L.length:=by rw[HL.out];exact hlt
   have hkZ:i < (zns L).length:=by rw[zns_len];exact hkL
   obtain⟨p,hp⟩:=hzf.out;rw[List.drop_eq_getElem_cons hkZ,zns_at L i hkL,zF,Bool.and_eq_true] at hp;obtain⟨b,oo,rfl,hab,g0,g1,g2⟩:=HR.out.zone hkL;obtain⟨hvl,hRv⟩:=HR.out.each _ (List.getElem_mem hkL);have hvf:=zF_fm HFM.out L[i].2 (by unfold zns;exact List.mem_map_of_mem (List.getElem_mem hkL));have hev1:=hev.out;rw[List.drop_eq_getElem_cons hkZ,zns_at L i hkL] at hev1;obtain⟨z1,z2,z3,z4⟩:=zStep_iff hp.1;have hp2:=hp.2;generalize L[i]=y at g0 g1 g2 hvl hRv hvf hev1 z1 z2 z3 hp2;obtain⟨⟨Av,nv,cv⟩,⟨lo,hi'⟩,u⟩:=y;dsimp only at g0 g1 g2 hvl hRv hvf hev1 z1 z2 z3 hp2;have HTV:=Hz_ (show EvT w0 (⟨Av,nv,cv⟩,(lo,hi'),u) from ⟨hvl,hRv,hvf⟩);have HP2:=Hz_ (show ∃p,zF (hi'+1 - 1) p ((zns L).drop (i+1))=true from ⟨some u,by rw[show hi'+1 - 1=hi' by omega];exact hp2⟩);have HEV:=Hz_ hev1;have g0:=hgd.ol.cell _ _ g0;have g1:=hgd.ol.cell _ _ g1;have g2:=hgd.ol.cell _ _ g2;have hb1:Below wr.heap.size wr (wr.alloc (.cells #[.int .i64 lo,.int .i64 hi',.slice Av nv cv] 129)):=Zr.alloc Zl _;have hX:=Blk.new wr 129 #[.int .i64 lo,.int .i64 hi',.slice Av nv cv];have hgd1:=hgd.go hb1;have hj1:=abideZ hJ hb1 hj;obtain⟨f1,f2⟩:=hgd.fresh (.cells #[.int .i64 lo,.int .i64 hi',.slice Av nv cv] 129);have hw1:IntKind.i64.wrap (lo - 1)=lo - 1:=IntWalk.i64_in _ (by omega);have hw2:IntKind.i64.wrap (hi'+1)=hi'+1:=IntWalk.i64_in _ (by omega);clear hp hp2 hvl hRv hvf hev hev1 hzf hab hgd hj z4 hkL hkZ;by_cases c1:a < lo
   ·obtain⟨fn,tmps,assign,body,hy,hR⟩:=hY pre (⟨D,q,d⟩,(a,lo - 1),u0) _ hj1 (HT0.out _) (by omega);have q2:=hgd1.b2.cell 0;have HX:=Hz_ hX;have HG:=Hz_ hgd1;have HF:=Hz_ (And.intro f1 f2);have HE:=Hz_ (show pcs u0 0 (zns L)=zns ((pre++[(⟨D,q,d⟩,(a,lo - 1),u0)])++[(⟨Av,nv,cv⟩,(lo,hi'),u)])++pcs u0 (hi'+1) ((zns L).drop (i+1)) by
     rw[HEV.out,pcs_gap u0 c1,zns_app,zns_app,List.append_assoc,List.append_assoc];rfl)
    have hy:(Instr.yield lp #[.agg #[.int .i64 a,.int .i64 (lo - 1),.slice D q d]]).run Tryz.prog (wr.alloc (.cells #[.int .i64 lo,.int .i64 hi',.slice Av nv cv] 129))=_:=hy;have HY:=Hz_ hy;clear hX hgd1 hj1 HEV f1 f2 hy
    gi_wp2
    rw[HY.out]
    gi_wp2
    refine hR.mono ?_;have HE0:=Hz_ (show zns (pre++[((⟨D,q,d⟩:ZV),(a,lo - 1),u0)]) <+: pcs u0 0 (zns L) by rw[HE.out,zns_app (pre++_),List.append_assoc];exact⟨_,rfl⟩);rintro e W3 (⟨rfl,hJ3,hk3⟩ | ⟨rfl,hJx3⟩)
    ·have X1:=Hz_ (hk3.blk HF.out.2 HF.out.1 HX.out);have G1:=Hz_ (HG.out.keep hk3);have FF:=Hz_ (And.intro (hk3.still (by simp) HF.out.1) HF.out.2);clear HX HG HF hk3 q2 HY;obtain⟨fn2,tmps2,assign2,body2,hy2,hR2⟩:=hY (pre++[(⟨D,q,d⟩,(a,lo - 1),u0)]) (⟨Av,nv,cv⟩,(lo,hi'),u) W3 hJ3 HTV.out (by simp only[List.length_append,List.length_singleton];omega);have hy2:(Instr.yield lp #[.agg #[.int .i64 lo,.int .i64 hi',.slice Av nv cv]]).run Tryz.prog W3=_:=hy2;have HY2:=Hz_ hy2;obtain⟨x0,x1,x2⟩:=X1.out.three;clear hy2
     gi_wp2
     rw[HY2.out]
     gi_wp2
     refine hR2.mono ?_;rintro e W4 (⟨rfl,hJ4,hk4⟩ | ⟨rfl,hJx4⟩)
     ·have hX4:=hk4.blk FF.out.2 FF.out.1 X1.out;have y1:=hX4.cell 1;have hgd4:=G1.out.keep hk4;clear x0 x1 x2 HY2
      gi_wp2
      go_roundw
      case rel=>exact⟨i+1,hi'+1,_,by go_num,rfl,by omega,by omega,hgd4,hJ4,HP2.out,HE.out,by simp only[List.length_append,List.length_singleton];omega⟩
      case measure=>simp[intOf];omega
     ·gi_wp2
      refine bodyPost_ret (results_none rfl _ _ _) rfl ?_;exact⟨⟨_,rfl⟩,.inr ⟨_,⟨_,HE.out.symm⟩,hJx4⟩⟩
    ·gi_wp2
     refine bodyPost_ret (results_none rfl _ _ _) rfl ?_;exact⟨⟨_,rfl⟩,.inr ⟨_,HE0.out,hJx3⟩⟩
   ·have HE:=Hz_ (show pcs u0 0 (zns L)=zns (pre++[(⟨Av,nv,cv⟩,(lo,hi'),u)])++pcs u0 (hi'+1) ((zns L).drop (i+1)) by
     rw[HEV.out,pcs_tight u0 c1,zns_app,List.append_assoc];rfl)
    have X1:=Hz_ hX;have G1:=Hz_ hgd1;have FF:=Hz_ (And.intro f1 f2);clear hX hgd1 HEV f1 f2;obtain⟨fn2,tmps2,assign2,body2,hy2,hR2⟩:=hY (pre) (⟨Av,nv,cv⟩,(lo,hi'),u) (wr.alloc (.cells #[.int .i64 lo,.int .i64 hi',.slice Av nv cv] 129)) hj1 HTV.out (by omega);have hy2:(Instr.yield lp #[.agg #[.int .i64 lo,.int .i64 hi',.slice Av nv cv]]).run Tryz.prog (wr.alloc (.cells #[.int .i64 lo,.int .i64 hi',.slice Av nv cv] 129))=_:=hy2;have HY2:=Hz_ hy2;obtain⟨x0,x1,x2⟩:=X1.out.three;clear hy2
    gi_wp2
    refine⟨fun f hf=>(by cases hf),?_⟩
    gi_wp2
    rw[HY2.out]
    gi_wp2
    refine hR2.mono ?_;rintro e W4 (⟨rfl,hJ4,hk4⟩ | ⟨rfl,hJx4⟩)
    ·have hX4:=hk4.blk FF.out.2 FF.out.1 X1.out;have y1:=hX4.cell 1;have hgd4:=G1.out.keep hk4;clear x0 x1 x2 HY2
     gi_wp2
     go_roundw
     case rel=>exact⟨i+1,hi'+1,_,by go_num,rfl,by omega,by omega,hgd4,hJ4,HP2.out,HE.out,by simp only[List.length_append,List.length_singleton];omega⟩
     case measure=>simp[intOf];omega
    ·gi_wp2
     refine bodyPost_ret (results_none rfl _ _ _) rfl ?_;exact⟨⟨_,rfl⟩,.inr ⟨_,⟨_,HE.out.symm⟩,hJx4⟩⟩
  ·obtain rfl:i=n:=by omega
   have hev1:=hev.out;rw[List.drop_of_length_le (by rw[zns_len,HL.out];exact Nat.le_refl _)] at hev1;by_cases c1:a<=255
   ·have HE:=Hz_ (show pcs u0 0 (zns L)=zns (pre++[(⟨D,q,d⟩,(a,255),u0)]) by rw[hev1,pcs,if_pos c1,zns_app];rfl);obtain⟨fn,tmps,assign,body,hy,hR⟩:=hY pre (⟨D,q,d⟩,(a,255),u0) wr hj (HT0.out _) (by omega);have hy:(Instr.yield lp #[.agg #[.int .i64 a,.int .i64 255,.slice D q d]]).run Tryz.prog wr=_:=hy;have HY:=Hz_ hy;have q2:=hgd.b2.cell 0;clear hev hev1 hzf hy
    gi_wp2
    rw[HY.out]
    gi_wp2
    refine hR.mono ?_;rintro e W3 (⟨rfl,hJ3,hk3⟩ | ⟨rfl,hJx3⟩)
    ·gi_wp2
     go_end0;exact⟨⟨_,rfl⟩,.inl ⟨_,HE.out.symm,hJ3⟩⟩
    ·gi_wp2
     go_end0;exact⟨⟨_,rfl⟩,.inr ⟨_,by rw[HE.out];exact List.prefix_refl _,hJx3⟩⟩
   ·have HE:=Hz_ (show pcs u0 0 (zns L)=zns pre by rw[hev1,pcs,if_neg c1,List.append_nil]);clear hev hev1 hzf
    gi_wp2
    go_end0;exact⟨⟨_,rfl⟩,.inl ⟨pre,HE.out.symm,hj⟩⟩
theorem pieces_told (m:Nat) (hm:1<=m) (BO B1 B2:Nat) (A D:Option Addr) (n c q d:Nat) (L:List (ZV×Zn)) (u0:List Vc.St) (w0:World) (hR:RdZ w0 w0.heap.size A n c L) (hf:zF (-1) none (zns L)=true) (hT0:∀s,EvT w0 (⟨D,q,d⟩,s,u0)) (w:World) (hg:GoodZ w0 BO B1 B2 A n c D q d w):
  SeqTold Fence.wide m Tryz.prog 206 #[.pointer (some ⟨B1,0,none⟩),.pointer (some ⟨B2,0,none⟩)] evZ (fun x _=>EvT w0 x) (KZ BO) (fun ys=>zns ys=pcs u0 0 (zns L)) (fun pre=>zns pre <+: pcs u0 0 (zns L)) 513 w:=by
 intro lp J Jx W hW hJ hJx hY h0;exact pieces1_in m hm lp BO B1 B2 A D n c q d L u0 w0 hR hf hT0 J Jx W.heap.size hJ hY W (hg.go hW) h0
theorem pieces_any (A D:Option Addr) (n c q d:Nat) (w:World):Calls Tryz.prog 182 #[.slice A n c,.slice D q d] w fun e w'=>
  e=.returned (.func (.func 206) #[] #[.pointer (some ⟨w.heap.size,0,none⟩),.pointer (some ⟨w.heap.size+1,0,none⟩)])/\w'=(w.alloc (.cells #[.slice A n c] 32)).alloc (.cells #[.slice D q d] 22):=by
 go_enter Tryz.func182,Tryz.ntmps182;go_wp2;go_ret;exact⟨rfl,rfl⟩
end Go.Proofs.YtmbeahbgafkjfaaGreatDoor
namespace Go.Proofs.YtmbeahbgafkjfaaGreatDoor
open Go.RowKit Go.Shelf
attribute [local go_sem] Oper.semAt_some
theorem keeps_below {B:Nat} {W V:World} (h:Below W.heap.size W V):KeepsFrom B W V:=⟨h.size,fun k _ _ hk _=>(h.block k (Array.getElem?_eq_some_iff.1 hk).1).trans hk⟩
theorem pt_box {W:World} {BO:Nat} {t:TypeId} {v:Value} (h:Boxed W BO t v):pt BO W=v.ownBlock:=by
 unfold pt;rw[h.cell];rcases v with _ | _ | _ | _ | _ | _ | _ | _ | _ | _ | _ | _ | _ | _<;>first | rfl | (rename_i a _ _;cases a<;>rfl)
theorem KZ.appended {W W1 W2:World} {BO base k:Nat} {t e:TypeId} {size:Nat} {v v':Value} {xs:List Value} (hv:Boxed W BO t v) (hte:t≠e) (hb:Below W.heap.size W W1) (hrow:W1.ownsRow base e size v k xs)
  (hg:W1.grownBy W2 v.ownBlock) (hat:v'.ownBlock=v.ownBlock\/v'.ownBlock=some W1.heap.size) (hlt:∀g,v'.ownBlock=some g->g < W2.heap.size):KZ BO W (W2.setCell ⟨BO,0,none⟩ v'):=by
 have hv1:Boxed W1 BO t v:=(hb.block _ hv.lt).trans hv;have hv2:Boxed W2 BO t v:=hv1.kept hg (hv1.not_row hte hrow);refine⟨by have:=hb.size;have:=hg.size;simp;omega,fun i o hB hp hi _=>?_,?_⟩
 ·have h1:=(hb.block i (Array.getElem?_eq_some_iff.1 hi).1).trans hi;have h2:=(hg.block i (Array.getElem?_eq_some_iff.1 h1).1 (fun e=>hp (by rw[pt_box hv,<-e]))).trans h1;exact(Below.heap_setCell W2 ⟨BO,0,none⟩ v' i (fun e=>hB (by rw[e]))).trans h2
 ·rw[pt_box (hv2.set v'),pt_box hv];rcases hat with e | e
  ·exact .inl e
  ·exact .inr ⟨_,e,hb.size,by have:=hlt _ e;simpa using this⟩
theorem KeepsFrom.appended {W W1 W2:World} {B BO base k:Nat} {e:TypeId} {size:Nat} {v v':Value} {xs:List Value} (hb:Below W.heap.size W W1) (hrow:W1.ownsRow base e size v k xs) (hg:W1.grownBy W2 v.ownBlock):KeepsFrom B W (W2.setCell ⟨BO,0,none⟩ v'):=by
 refine(keeps_below hb).trans (((KeepsOthers.of_grownBy hg fun j o ej hj=>?_).trans (KeepsOthers.setCell _ _ _)).from _);rcases hrow.2 with ⟨rfl,_⟩ | ⟨g,cap,cur,rfl,_,hgb,_⟩
 ·simp[Value.ownBlock] at ej
 ·obtain rfl:g=j:=by simpa[Value.ownBlock] using ej
  rw[hgb] at hj;cases hj;rfl
end Go.Proofs.YtmbeahbgafkjfaaGreatDoor
