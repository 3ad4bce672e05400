/- Lemmas, layer 22. -/
import Derived.Test.YtmbeahbgafkjfaaGreatDoorKp21
set_option linter.unusedSimpArgs false
set_option maxRecDepth 100000
set_option maxHeartbeats 16000000
namespace Go.Proofs.YtmbeahbgafkjfaaGreatDoor
open Go.Proofs.Tryz Go.RowKit
structure SV where
 A:OA
 c:Nat
def KI (p:SV×Sb):List Value:=[.int .i64 p.2.from_,.slice p.1.A p.2.int.length p.1.c,.int .i64 p.2.ses,.int .i64 p.2.seq,.bool p.2.live,.bool p.2.heard,.bool p.2.idle]
def Yg (L:List (SV×Sb)):List Value:=L.flatMap KI
def JK (L:List (SV×Sb)):List Sb:=L.map (·.2)
theorem JX (L:List (SV×Sb)):(JK L).length=L.length:=by simp[JK]
theorem KY (L:List (SV×Sb)) (k:Nat) (h:k < L.length):(JK L)[k]'(by rw[JX];exact h)=L[k].2:=by simp[JK]
theorem Uo (L M:List (SV×Sb)):JK (L++M)=JK L++JK M:=by simp[JK]
theorem KX (L M:List (SV×Sb)):Yg (L++M)=Yg L++Yg M:=by simp[Yg]
theorem Jcl (L:List (SV×Sb)) (k:Nat) (h:k < L.length) (j:Nat) (hj:j < 7):(Yg L)[k * 7+j]?=(KI L[k])[j]?:=ZZ KI 7 (by decide) L (fun _ _=>rfl) k h j hj
theorem Xe (L:List (SV×Sb)):(Yg L).length=L.length * 7:=Xw KI 7 L (fun _ _=>rfl)
theorem Jga (p:SV×Sb):∀u∈KI p,u.oneCell'=true:=by
 intro u hu;simp only[KI,EE,Gd,Rb] at hu;rcases hu with h | h | h | h | h | h | h<;>subst h<;>rfl
theorem ZU (L:List (SV×Sb)):∀u∈Yg L,u.oneCell'=true:=by
 intro u hu;simp only[Yg,Gy] at hu;obtain⟨p,_,hp⟩:=hu;exact Jga p u hp
structure QM (w:World) (B:Nat) (A:OA) (n c:Nat) (L:List (SV×Sb)):Prop where
 len:L.length=n
 rd:Rd w B 7 A n c (Yg L)
 each:∀p∈L,Rd w B 2 p.1.A p.2.int.length p.1.c (sv p.2.int)
theorem QM.go {w w':World} {A:OA} {n c:Nat} {L:List (SV×Sb)} (h:QM w w.heap.size A n c L) (hb:Bz w w'):QM w' w'.heap.size A n c L:=⟨h.len,h.rd.go hb,fun p hp=>(h.each p hp).go hb⟩
theorem QM.below {w w':World} {B:Nat} {A:OA} {n c:Nat} {L:List (SV×Sb)} (h:QM w B A n c L) (hb:Below B w w'):QM w' B A n c L:=⟨h.len,h.rd.below hb,fun p hp=>(h.each p hp).below hb⟩
theorem QM.more {w:World} {B B':Nat} {A:OA} {n c:Nat} {L:List (SV×Sb)} (h:QM w B A n c L) (hb:B<=B'):QM w B' A n c L:=⟨h.len,h.rd.more hb,fun p hp=>(h.each p hp).more hb⟩
theorem QM.none_ (w:World) (B:Nat):QM w B none 0 0 []:=⟨rfl,Rd.none_,(fun p hp=>by cases hp)⟩
theorem QM.sub {w:World} {B n c k:Nat} {A:OA} {L:List (SV×Sb)} (h:QM w B A n c L) (hk:k < L.length):
  ∃b o,A=some ⟨b,o,none⟩/\b < B/\(w.cell? ⟨b,o+k * 7,none⟩=some (.int .i64 L[k].2.from_)/\w.cell? ⟨b,o+k * 7+1,none⟩=some (.slice L[k].1.A L[k].2.int.length L[k].1.c) /\
   w.cell? ⟨b,o+k * 7+2,none⟩=some (.int .i64 L[k].2.ses)/\w.cell? ⟨b,o+k * 7+3,none⟩=some (.int .i64 L[k].2.seq)/\w.cell? ⟨b,o+k * 7+4,none⟩=some (.bool L[k].2.live) /\
   w.cell? ⟨b,o+k * 7+5,none⟩=some (.bool L[k].2.heard)/\w.cell? ⟨b,o+k * 7+6,none⟩=some (.bool L[k].2.idle)):=by
 have hl:=h.len;obtain⟨b,o,rfl,hb,hc⟩:=h.rd.plain (by omega) (by decide);have e:∀j,j < 7->∀u,(KI L[k])[j]?=some u->w.cell? ⟨b,o+k * 7+j,none⟩=some u:=fun j hj u hu=>by
  rw[NK];exact hc (k * 7+j) u (by rw[Jcl L k hk j hj,hu])
 exact⟨b,o,rfl,hb,e 0 (by decide) _ rfl,e 1 (by decide) _ rfl,e 2 (by decide) _ rfl,e 3 (by decide) _ rfl,e 4 (by decide) _ rfl,e 5 (by decide) _ rfl,e 6 (by decide) _ rfl⟩
theorem QM.max {w:World} {B n c:Nat} {A:OA} {L:List (SV×Sb)} (h:QM w B A n c L):n<=9223372036854775807:=by
 have h1:=h.rd.cap;have h2:=h.rd.max;unfold maxLen at h2;omega
theorem Jm.seven {w:World} {g:Nat} {t:TypeId} {a0 a1 a2 a3 a4 a5 a6:Value} (h:Jm w g t #[a0,a1,a2,a3,a4,a5,a6]):w.cell? ⟨g,0,none⟩=some a0/\w.cell? ⟨g,1,none⟩=some a1/\w.cell? ⟨g,2,none⟩=some a2/\w.cell? ⟨g,3,none⟩=some a3/\w.cell? ⟨g,4,none⟩=some a4/\w.cell? ⟨g,5,none⟩=some a5/\w.cell? ⟨g,6,none⟩=some a6:=⟨h.cell 0,h.cell 1,h.cell 2,h.cell 3,h.cell 4,h.cell 5,h.cell 6⟩
def sbE (x y:Sb):Bool:=decide (x.from_=y.from_) && (decide (x.int=y.int) && (decide (x.ses=y.ses) && (decide (x.seq=y.seq) && ((x.live == y.live) && ((x.heard == y.heard) && (x.idle == y.idle))))))
theorem JnA (x y:Sb):sbE x y=true↔x=y:=by
 cases x;cases y;simp[sbE]
def YT:List Sb->List Sb->Bool
 | [],[]=>true
 | x :: r,y :: q=>sbE x y && YT r q
 | _,_=>false
theorem Ja8:∀(l m:List Sb),YT l m=true↔l=m
 | [],[]=>by simp[YT]
 | [],y :: q=>by simp[YT]
 | x :: r,[]=>by simp[YT]
 | x :: r,y :: q=>by simp[YT,JnA,Ja8 r q]
theorem Jly {l m:List Sb} (h:¬ l.length=m.length):YT l m=false:=by
 rcases hb:YT l m with _ | _
 ·rfl
 ·exact absurd (congrArg List.length ((Ja8 l m).1 hb)) h
theorem Jkk (l m:List Sb) (k:Nat) (h:k < l.length) (h2:k < m.length):YT (l.drop k) (m.drop k)=(sbE l[k] m[k] && YT (l.drop (k+1)) (m.drop (k+1))):=by
 rw[Eh h,Eh h2,YT]
theorem Jlk:(prog.info? 65).map (fun i=>(i.zero,i.size))=some (some (.agg #[.int .i64 0,.slice none 0 0,.int .i64 0,.int .i64 0,.bool false,.bool false,.bool false]),7):=by kernel_rfl
theorem JbQ (A D:OA) (n c m d:Nat) (L M:List (SV×Sb)) (w:World) (hR:QM w w.heap.size A n c L) (hR2:QM w w.heap.size D m d M):
  Calls prog 23 #[.slice A n c,.slice D m d] w fun e w'=>e=.returned (.bool (YT (JK L) (JK M)))/\Bz w w':=by
 have hmax:=hR.max;have HL:=Ja hR.len;have HL2:=Ja hR2.len;obtain⟨hz,hi⟩:=FG Jlk;have HI:=Ja hi;clear hi;by_cases hnm:n=m
 ·subst hnm;have HB1:=Ja fun (W:World) (hb:Bz w W) k (hk:k < L.length)=>(hR.below hb).sub hk;have HB2:=Ja fun (W:World) (hb:Bz w W) k (hk:k < M.length)=>(hR2.below hb).sub hk;have HG:=Ja fun (W:World) (hb:Bz w W) p (hp:p∈L) q (hq:q∈M)=>Oo p.1.A q.1.A p.2.int.length p.1.c q.2.int.length q.1.c p.2.int q.2.int W rfl rfl ((hR.each p hp).go hb) ((hR2.each q hq).go hb);have HD:=Ja fun k h h2=>Jkk (JK L) (JK M) k h h2;clear hR hR2;go_enter func23,ntmps23;go_wp2;go_loopw [5] (fun i wr=>∃(j:Nat),j<=n/\i=.int .i64 j/\Bz w wr/\Hid (YT (JK L) (JK M)=YT ((JK L).drop j) ((JK M).drop j))) (fun i _=>n - (intOf i).toNat)
  case atStart=>exact⟨0,by omega,rfl,Ec _ _,rfl⟩
  case round=>
   obtain⟨j,hj,rfl,k,hr⟩:=hrel;by_cases hlt:j < n
   ·have hjl:j < L.length:=by rw[HL.out];exact hlt
    have hjm:j < M.length:=by rw[HL2.out];exact hlt
    obtain⟨b,o,rfl,hbb,-⟩:=HB1.out wr k j hjl;obtain⟨b2,o2,rfl,hbb2,-⟩:=HB2.out wr k j hjm;have hd:=hr.out.trans (HD.out j (by rw[JX];exact hjl) (by rw[JX];exact hjm));rw[KY L j hjl,KY M j hjm] at hd;have G:=fun (W:World) (hb:Bz w W)=>HG.out W hb L[j] (En hjl) M[j] (En hjm);have HE:=Ja fun (W:World) (hb:Bz wr W)=>(⟨YI (HB1.out W (Jg k hb) j hjl),YI (HB2.out W (Jg k hb) j hjm)⟩:_/\_);unfold sbE at hd;generalize decide (L[j].2.int=M[j].2.int)=zi at G hd;generalize L[j].2.from_=y0 at HE hd;generalize M[j].2.from_=z0 at HE hd;generalize L[j].1.A=y1 at G HE;generalize M[j].1.A=z1 at G HE;generalize L[j].2.int.length=y2 at G HE;generalize M[j].2.int.length=z2 at G HE;generalize L[j].1.c=y3 at G HE;generalize M[j].1.c=z3 at G HE;generalize L[j].2.ses=y4 at HE hd;generalize M[j].2.ses=z4 at HE hd;generalize L[j].2.seq=y5 at HE hd;generalize M[j].2.seq=z5 at HE hd;generalize L[j].2.live=y6 at HE hd;generalize M[j].2.live=z6 at HE hd;generalize L[j].2.heard=y7 at HE hd;generalize M[j].2.heard=z7 at HE hd;generalize L[j].2.idle=y8 at HE hd;generalize M[j].2.idle=z8 at HE hd;have G:=Ja G;have HDD:=Ja hd;have HKR:=Ja k;clear hr hd hbb hbb2 hjl hjm k;go_wp2;go_cut [6,7] from 13 to 74 (fun v6 v7 wx=>∃g6 g7:Nat,v6=.pointer (some ⟨g6,0,none⟩)/\v7=.pointer (some ⟨g7,0,none⟩)/\Hid (Bz wr wx/\Jm wx g6 65 #[.int .i64 y0,.slice y1 y2 y3,.int .i64 y4,.int .i64 y5,.bool y6,.bool y7,.bool y8]/\Jm wx g7 65 #[.int .i64 z0,.slice z1 z2 z3,.int .i64 z4,.int .i64 z5,.bool z6,.bool z7,.bool z8]))
    case first=>
     have k:Bz wr wr.drew:=(Ec _ wr).drew;refine Jl fun KK hKK=>?_;refine Eg (S:=(fun W=>(W.cell? ⟨b,o+j * 7,none⟩=some (.int .i64 y0)/\W.cell? ⟨b,o+j * 7+1,none⟩=some (.slice y1 y2 y3)/\W.cell? ⟨b,o+j * 7+2,none⟩=some (.int .i64 y4)/\W.cell? ⟨b,o+j * 7+3,none⟩=some (.int .i64 y5)/\W.cell? ⟨b,o+j * 7+4,none⟩=some (.bool y6)/\W.cell? ⟨b,o+j * 7+5,none⟩=some (.bool y7)/\W.cell? ⟨b,o+j * 7+6,none⟩=some (.bool y8))/\(W.cell? ⟨b2,o2+j * 7,none⟩=some (.int .i64 z0)/\W.cell? ⟨b2,o2+j * 7+1,none⟩=some (.slice z1 z2 z3)/\W.cell? ⟨b2,o2+j * 7+2,none⟩=some (.int .i64 z4)/\W.cell? ⟨b2,o2+j * 7+3,none⟩=some (.int .i64 z5)/\W.cell? ⟨b2,o2+j * 7+4,none⟩=some (.bool z6)/\W.cell? ⟨b2,o2+j * 7+5,none⟩=some (.bool z7)/\W.cell? ⟨b2,o2+j * 7+6,none⟩=some (.bool z8)))) (by kernel_rfl) (by first | exact HE.out _ k) (fun hHeld=>?_);refine Jc 0 19 1 20 (HE.out _ k) ?_;refine Jc 2 21 3 22 (HE.out _ k) ?_;refine Jc 4 23 5 24 (HE.out _ k) ?_;refine Jc 6 25 7 26 (HE.out _ k) ?_;obtain⟨V,hV⟩:∃V,V=wr.drew:=⟨_,rfl⟩;rw[<-hV] at k ⊢;clear hV;refine EO (rs:=[8,9]) (by kernel_rfl) (by simp) ?_;refine Ee rfl (fun K hK=>?_) (Ee rfl (fun K hK=>?_) EH)
     ·go_simp;have hb':=Ji k (.cells #[.int .i64 0,.slice none 0 0,.int .i64 0,.int .i64 0,.bool false,.bool false,.bool false] 65);have G6:=JE hb';have B6:=k.size;have k:=Jg k hb';refine hK.out _ _ (HE.out _ k) fun hHeld=>?_;clear hK K hb'
      try simp only[Jq,Jo,Jp]
      generalize V.alloc (.cells #[.int .i64 0,.slice none 0 0,.int .i64 0,.int .i64 0,.bool false,.bool false,.bool false] 65)=U at *;generalize V.heap.size=g6 at *;refine Qa 9 fun K hK=>?_;go_simp;have hb':=Ji k (.cells #[.int .i64 0,.slice none 0 0,.int .i64 0,.int .i64 0,.bool false,.bool false,.bool false] 65);have G7:=JE hb';have B7:=k.size;have D:g6≠U.heap.size:=Fi G6.lt;have G6:=G6.go hb';have k:=Jg k hb';refine hK.out _ _ (HE.out _ k) fun hHeld=>?_;clear hK K hb'
      try simp only[Jq,Jo,Jp]
      generalize U.alloc (.cells #[.int .i64 0,.slice none 0 0,.int .i64 0,.int .i64 0,.bool false,.bool false,.bool false] 65)=T at *;generalize U.heap.size=g7 at *;refine Qa 10 fun K hK=>?_;rw[Ei (by kernel_rfl)];refine Qe 65 (.tmp 6) (.tmp 22) rfl _ 65 _ #[.int .i64 y0,.slice y1 y2 y3,.int .i64 y4,.int .i64 y5,.bool y6,.bool y7,.bool y8] rfl rfl G6 HI.out rfl (by simp[Value.oneCell']) ?_;intro Ws6 hblk hg;have G7:=G7.grown hg (fun e=>by injection e with e;omega);have k:=k.trans (Jb hg k.size (fun j hj=>by cases hj;exact B6));have G6:=hblk;clear hg hblk;refine hK.out _ _ (HE.out _ k) fun hHeld=>?_;clear hK K
      try simp only[Jq,Jo,Jp]
      refine Qa 11 fun K hK=>?_;rw[Ei (by kernel_rfl)];refine Qe 65 (.tmp 7) (.tmp 26) rfl _ 65 _ #[.int .i64 z0,.slice z1 z2 z3,.int .i64 z4,.int .i64 z5,.bool z6,.bool z7,.bool z8] rfl rfl G7 HI.out rfl (by simp[Value.oneCell']) ?_;intro Ws7 hblk hg;have G6:=G6.grown hg (fun e=>by injection e with e;omega);have k:=k.trans (Jb hg k.size (fun j hj=>by cases hj;exact B7));have G7:=hblk;clear hg hblk;refine hK.out _ _ (HE.out _ k) fun hHeld=>?_;clear hK K
      try simp only[Jq,Jo,Jp]
      refine Es (by kernel_rfl) ?_ _;refine QQ.out (hKK _ _ ?_);go_wp2_with fail;go_meet;exact⟨g6,g7,rfl,rfl,k,G6,G7⟩
     ·go_simp;have hb':=Ji k (.cells #[.int .i64 0,.slice none 0 0,.int .i64 0,.int .i64 0,.bool false,.bool false,.bool false] 65);have G7:=JE hb';have B7:=k.size;have k:=Jg k hb';refine hK.out _ _ (HE.out _ k) fun hHeld=>?_;clear hK K hb'
      try simp only[Jq,Jo,Jp]
      generalize V.alloc (.cells #[.int .i64 0,.slice none 0 0,.int .i64 0,.int .i64 0,.bool false,.bool false,.bool false] 65)=U at *;generalize V.heap.size=g7 at *;refine Qa 8 fun K hK=>?_;go_simp;have hb':=Ji k (.cells #[.int .i64 0,.slice none 0 0,.int .i64 0,.int .i64 0,.bool false,.bool false,.bool false] 65);have G6:=JE hb';have B6:=k.size;have D:g7≠U.heap.size:=Fi G7.lt;have G7:=G7.go hb';have k:=Jg k hb';refine hK.out _ _ (HE.out _ k) fun hHeld=>?_;clear hK K hb'
      try simp only[Jq,Jo,Jp]
      generalize U.alloc (.cells #[.int .i64 0,.slice none 0 0,.int .i64 0,.int .i64 0,.bool false,.bool false,.bool false] 65)=T at *;generalize U.heap.size=g6 at *;refine Qa 10 fun K hK=>?_;rw[Ei (by kernel_rfl)];refine Qe 65 (.tmp 6) (.tmp 22) rfl _ 65 _ #[.int .i64 y0,.slice y1 y2 y3,.int .i64 y4,.int .i64 y5,.bool y6,.bool y7,.bool y8] rfl rfl G6 HI.out rfl (by simp[Value.oneCell']) ?_;intro Ws6 hblk hg;have G7:=G7.grown hg (fun e=>by injection e with e;omega);have k:=k.trans (Jb hg k.size (fun j hj=>by cases hj;exact B6));have G6:=hblk;clear hg hblk;refine hK.out _ _ (HE.out _ k) fun hHeld=>?_;clear hK K
      try simp only[Jq,Jo,Jp]
      refine Qa 11 fun K hK=>?_;rw[Ei (by kernel_rfl)];refine Qe 65 (.tmp 7) (.tmp 26) rfl _ 65 _ #[.int .i64 z0,.slice z1 z2 z3,.int .i64 z4,.int .i64 z5,.bool z6,.bool z7,.bool z8] rfl rfl G7 HI.out rfl (by simp[Value.oneCell']) ?_;intro Ws7 hblk hg;have G6:=G6.grown hg (fun e=>by injection e with e;omega);have k:=k.trans (Jb hg k.size (fun j hj=>by cases hj;exact B7));have G7:=hblk;clear hg hblk;refine hK.out _ _ (HE.out _ k) fun hHeld=>?_;clear hK K
      try simp only[Jq,Jo,Jp]
      refine Es (by kernel_rfl) ?_ _;refine QQ.out (hKK _ _ ?_);go_wp2_with fail;go_meet;exact⟨g6,g7,rfl,rfl,k,G6,G7⟩
    case rest=>
     obtain⟨g6,g7,rfl,rfl,hh⟩:=hcut;obtain⟨k,X6,X7⟩:=hh.out;obtain⟨q0,q1,q2,q3,q4,q5,q6⟩:=X6.seven;obtain⟨r0,r1,r2,r3,r4,r5,r6⟩:=X7.seven;have kw:=Jg HKR.out k;have HX6:=Ja X6;have HX7:=Ja X7;clear hh k X6 X7;by_cases e0:y0=z0;rotate_left
     ·skip;have HN:=Ja (show YT (JK L) (JK M)=false by rw[HDD.out];simp[e0]);go_wp2_with (go_at_call 62;go_must (refine Jd (G.out _ kw) fun w' hb'=>?_);have kw:=Jg kw hb';obtain⟨q0,q1,q2,q3,q4,q5,q6⟩:=(HX6.out.go hb').seven;obtain⟨r0,r1,r2,r3,r4,r5,r6⟩:=(HX7.out.go hb').seven;clear hb');go_ret;exact⟨by rw[HN.out]<;>rfl,kw⟩
     subst e0;rcases zi with _ | _
     ·skip;have HN:=Ja (show YT (JK L) (JK M)=false by rw[HDD.out];simp);go_wp2_with (go_at_call 62;go_must (refine Jd (G.out _ kw) fun w' hb'=>?_);have kw:=Jg kw hb';obtain⟨q0,q1,q2,q3,q4,q5,q6⟩:=(HX6.out.go hb').seven;obtain⟨r0,r1,r2,r3,r4,r5,r6⟩:=(HX7.out.go hb').seven;clear hb');go_ret;exact⟨by rw[HN.out]<;>rfl,kw⟩
     by_cases e4:y4=z4;rotate_left
     ·skip;have HN:=Ja (show YT (JK L) (JK M)=false by rw[HDD.out];simp[e4]);go_wp2_with (go_at_call 62;go_must (refine Jd (G.out _ kw) fun w' hb'=>?_);have kw:=Jg kw hb';obtain⟨q0,q1,q2,q3,q4,q5,q6⟩:=(HX6.out.go hb').seven;obtain⟨r0,r1,r2,r3,r4,r5,r6⟩:=(HX7.out.go hb').seven;clear hb');go_ret;exact⟨by rw[HN.out]<;>rfl,kw⟩
     subst e4;by_cases e5:y5=z5;rotate_left
     ·skip;have HN:=Ja (show YT (JK L) (JK M)=false by rw[HDD.out];simp[e5]);go_wp2_with (go_at_call 62;go_must (refine Jd (G.out _ kw) fun w' hb'=>?_);have kw:=Jg kw hb';obtain⟨q0,q1,q2,q3,q4,q5,q6⟩:=(HX6.out.go hb').seven;obtain⟨r0,r1,r2,r3,r4,r5,r6⟩:=(HX7.out.go hb').seven;clear hb');go_ret;exact⟨by rw[HN.out]<;>rfl,kw⟩
     subst e5;by_cases e6:y6=z6;rotate_left
     ·cases y6<;>cases z6<;>first | (exact absurd rfl e6) | skip
      all_goals
       have HN:=Ja (show YT (JK L) (JK M)=false by rw[HDD.out];simp);go_wp2_with (go_at_call 62;go_must (refine Jd (G.out _ kw) fun w' hb'=>?_);have kw:=Jg kw hb';obtain⟨q0,q1,q2,q3,q4,q5,q6⟩:=(HX6.out.go hb').seven;obtain⟨r0,r1,r2,r3,r4,r5,r6⟩:=(HX7.out.go hb').seven;clear hb');go_ret;exact⟨by rw[HN.out]<;>rfl,kw⟩
     subst e6;by_cases e7:y7=z7;rotate_left
     ·cases y7<;>cases z7<;>first | (exact absurd rfl e7) | skip
      all_goals
       have HN:=Ja (show YT (JK L) (JK M)=false by rw[HDD.out];simp);go_wp2_with (go_at_call 62;go_must (refine Jd (G.out _ kw) fun w' hb'=>?_);have kw:=Jg kw hb';obtain⟨q0,q1,q2,q3,q4,q5,q6⟩:=(HX6.out.go hb').seven;obtain⟨r0,r1,r2,r3,r4,r5,r6⟩:=(HX7.out.go hb').seven;clear hb');go_ret;exact⟨by rw[HN.out]<;>rfl,kw⟩
     subst e7;by_cases e8:y8=z8;rotate_left
     ·cases y8<;>cases z8<;>first | (exact absurd rfl e8) | skip
      all_goals
       have HN:=Ja (show YT (JK L) (JK M)=false by rw[HDD.out];simp);go_wp2_with (go_at_call 62;go_must (refine Jd (G.out _ kw) fun w' hb'=>?_);have kw:=Jg kw hb';obtain⟨q0,q1,q2,q3,q4,q5,q6⟩:=(HX6.out.go hb').seven;obtain⟨r0,r1,r2,r3,r4,r5,r6⟩:=(HX7.out.go hb').seven;clear hb');go_ret;exact⟨by rw[HN.out]<;>rfl,kw⟩
     subst e8;have HN:=Ja (show YT (JK L) (JK M)=YT ((JK L).drop (j+1)) ((JK M).drop (j+1)) by rw[HDD.out];simp);go_wp2_with (go_at_call 62;go_must (refine Jd (G.out _ kw) fun w' hb'=>?_);have kw:=Jg kw hb';obtain⟨q0,q1,q2,q3,q4,q5,q6⟩:=(HX6.out.go hb').seven;obtain⟨r0,r1,r2,r3,r4,r5,r6⟩:=(HX7.out.go hb').seven;clear hb');go_roundw
     case rel=>exact⟨j+1,by omega,by go_num,kw,HN⟩
     case measure=>simp[intOf];omega
   ·obtain rfl:n=j:=by omega
    have HN:=Ja (show YT (JK L) (JK M)=true by rw[hr.out,Ed (by rw[JX,HL.out];exact Ek _),Ed (by rw[JX,HL2.out];exact Ek _)];rfl);clear hr;go_wp2;go_ret;exact⟨by rw[HN.out]<;>rfl,k⟩
 ·have HN:=Ja (Jly (l:=JK L) (m:=JK M) (by rw[JX,JX,HL.out,HL2.out];exact hnm));have hne:¬ ((n:Int)=(m:Int)):=by omega
  clear hR hR2;go_enter func23,ntmps23;go_wp2;go_ret;exact⟨by rw[HN.out]<;>rfl,Ec _ _⟩
structure Bw (W0:World) where
 W:World
 h:Bz W0 W
instance (W0:World):Nonempty (Bw W0):=⟨⟨W0,Ec _ _⟩⟩
structure QW (P:Program) (ops:Array Oper) (C:World->Prop) (Q:Act->Prop) (l:List Oper) (a:Act):Prop where
 out:wpQuiet P ops C Q l a
theorem Je9 {P:Program} {id:Nat} {Q:Exit->Act->World->Prop} {a:Act} {w:World} {l:List Oper} (hm:P.follows .mixedOrders=true) (hB:Region.lexB .any l.toArray=true)
  (h:QW P l.toArray (fun w'=>∃p:Bw w,w'=p.W) (fun a'=>∀w',(∃p:Bw w,w'=p.W)->Q .normal a' w') l a):(Code.region id l.toArray true).wp P Q a w:=
 wp_region_quiet (C:=fun w'=>∃p:Bw w,w'=p.W) hm hB ⟨⟨_,(Ec _ w).drew⟩,rfl⟩ (by simpa using h.out)
section
variable {P:Program} {ops:Array Oper} {C:World->Prop} {Q:Act->Prop} {a:Act} {o:Oper} {rest:List Oper}
theorem QR (hw:Region.wanted o (yielded ops a.tmps)=false) (h:QW P ops C Q rest (a.put o.dst undef)):QW P ops C Q (o :: rest) a:=⟨by
 unfold wpQuiet;rw[hw];exact h.out⟩
theorem JW (hw:Region.wanted o (yielded ops a.tmps)=true) (h:∀K:Act->Prop,(∀a,QW P ops C Q rest a->K a)->o.quiet P a C K):QW P ops C Q (o :: rest) a:=⟨by
 unfold wpQuiet;rw[Ei hw];exact h _ fun _ h=>h.out⟩
theorem Xh (h:Q a):QW P ops C Q [] a:=⟨h⟩
end
theorem Qq {P:Program} {f:FuncId} {args:Array Value} {w:World} {p:Bw w} {v:Value} (h:Calls P f args p.W fun e w'=>e=.returned v/\Below p.W.heap.size p.W w'):Calls P f args p.W fun e w''=>e=.returned v/\∃p':Bw w,w''=p'.W:=
 h.mono fun _ w' ⟨he,hb⟩=>⟨he,⟨w',p.h.trans (hb.mono p.h.size)⟩,rfl⟩
end Go.Proofs.YtmbeahbgafkjfaaGreatDoor
