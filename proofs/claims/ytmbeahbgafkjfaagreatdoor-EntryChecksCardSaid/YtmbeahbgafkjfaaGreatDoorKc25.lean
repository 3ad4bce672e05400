/- Lemmas for the claim, layer 25. -/
import Derived.Test.YtmbeahbgafkjfaaGreatDoorKc24
set_option maxRecDepth 100000
set_option maxHeartbeats 16000000
namespace Go.Proofs.YtmbeahbgafkjfaaGreatDoor
open Go.RowKit
structure SV where
 A:Option Addr
 c:Nat
def sbl (p:SV×Sb):List Value:=[.int .i64 p.2.from_,.slice p.1.A p.2.int.length p.1.c,.int .i64 p.2.ses,.int .i64 p.2.seq,.bool p.2.live,.bool p.2.heard,.bool p.2.idle]
def sbv (L:List (SV×Sb)):List Value:=L.flatMap sbl
def sbs (L:List (SV×Sb)):List Sb:=L.map (·.2)
theorem sbs_len (L:List (SV×Sb)):(sbs L).length=L.length:=by simp[sbs]
theorem sbs_at (L:List (SV×Sb)) (k:Nat) (h:k < L.length):(sbs L)[k]'(by rw[sbs_len];exact h)=L[k].2:=by simp[sbs]
theorem sbs_app (L M:List (SV×Sb)):sbs (L++M)=sbs L++sbs M:=by simp[sbs]
theorem sbv_app (L M:List (SV×Sb)):sbv (L++M)=sbv L++sbv M:=by simp[sbv]
theorem sbv_at (L:List (SV×Sb)) (k:Nat) (h:k < L.length) (j:Nat) (hj:j < 7):(sbv L)[k * 7+j]?=(sbl L[k])[j]?:=flat_at sbl 7 (by decide) L (fun _ _=>rfl) k h j hj
theorem sbv_len (L:List (SV×Sb)):(sbv L).length=L.length * 7:=flat_len sbl 7 L (fun _ _=>rfl)
theorem sbl_oneCell (p:SV×Sb):∀u∈sbl p,u.oneCell'=true:=by
 intro u hu;simp only[sbl,List.mem_cons,List.not_mem_nil,or_false] at hu;rcases hu with h | h | h | h | h | h | h<;>subst h<;>rfl
theorem sbv_oneCell (L:List (SV×Sb)):∀u∈sbv L,u.oneCell'=true:=by
 intro u hu;simp only[sbv,List.mem_flatMap] at hu;obtain⟨p,_,hp⟩:=hu;exact sbl_oneCell p u hp
structure RdSb (w:World) (B:Nat) (A:Option Addr) (n c:Nat) (L:List (SV×Sb)):Prop where
 len:L.length=n
 rd:Rd w B 7 A n c (sbv L)
 each:∀p∈L,Rd w B 2 p.1.A p.2.int.length p.1.c (sv p.2.int)
theorem RdSb.go {w w':World} {A:Option Addr} {n c:Nat} {L:List (SV×Sb)} (h:RdSb w w.heap.size A n c L) (hb:Below w.heap.size w w'):RdSb w' w'.heap.size A n c L:=⟨h.len,h.rd.go hb,fun p hp=>(h.each p hp).go hb⟩
theorem RdSb.below {w w':World} {B:Nat} {A:Option Addr} {n c:Nat} {L:List (SV×Sb)} (h:RdSb w B A n c L) (hb:Below B w w'):RdSb w' B A n c L:=⟨h.len,h.rd.below hb,fun p hp=>(h.each p hp).below hb⟩
theorem RdSb.more {w:World} {B B':Nat} {A:Option Addr} {n c:Nat} {L:List (SV×Sb)} (h:RdSb w B A n c L) (hb:B<=B'):RdSb w B' A n c L:=⟨h.len,h.rd.more hb,fun p hp=>(h.each p hp).more hb⟩
theorem RdSb.none_ (w:World) (B:Nat):RdSb w B none 0 0 []:=⟨rfl,Rd.none_,(fun p hp=>by cases hp)⟩
theorem RdSb.sub {w:World} {B n c k:Nat} {A:Option Addr} {L:List (SV×Sb)} (h:RdSb w B A n c L) (hk:k < L.length):
  ∃b o,A=some ⟨b,o,none⟩/\b < B/\(w.cell? ⟨b,o+k * 7,none⟩=some (.int .i64 L[k].2.from_)/\w.cell? ⟨b,o+k * 7+1,none⟩=some (.slice L[k].1.A L[k].2.int.length L[k].1.c) /\
   w.cell? ⟨b,o+k * 7+2,none⟩=some (.int .i64 L[k].2.ses)/\w.cell? ⟨b,o+k * 7+3,none⟩=some (.int .i64 L[k].2.seq)/\w.cell? ⟨b,o+k * 7+4,none⟩=some (.bool L[k].2.live) /\
   w.cell? ⟨b,o+k * 7+5,none⟩=some (.bool L[k].2.heard)/\w.cell? ⟨b,o+k * 7+6,none⟩=some (.bool L[k].2.idle)):=by
 have hl:=h.len;obtain⟨b,o,rfl,hb,hc⟩:=h.rd.plain (by omega) (by decide);have e:∀j,j < 7->∀u,(sbl L[k])[j]?=some u->w.cell? ⟨b,o+k * 7+j,none⟩=some u:=fun j hj u hu=>by
  rw[Nat.add_assoc];exact hc (k * 7+j) u (by rw[sbv_at L k hk j hj,hu])
 exact⟨b,o,rfl,hb,e 0 (by decide) _ rfl,e 1 (by decide) _ rfl,e 2 (by decide) _ rfl,e 3 (by decide) _ rfl,e 4 (by decide) _ rfl,e 5 (by decide) _ rfl,e 6 (by decide) _ rfl⟩
theorem RdSb.max {w:World} {B n c:Nat} {A:Option Addr} {L:List (SV×Sb)} (h:RdSb w B A n c L):n<=9223372036854775807:=by
 have h1:=h.rd.cap;have h2:=h.rd.max;unfold maxLen at h2;omega
theorem Blk.seven {w:World} {g:Nat} {t:TypeId} {a0 a1 a2 a3 a4 a5 a6:Value} (h:Blk w g t #[a0,a1,a2,a3,a4,a5,a6]):w.cell? ⟨g,0,none⟩=some a0/\w.cell? ⟨g,1,none⟩=some a1/\w.cell? ⟨g,2,none⟩=some a2/\w.cell? ⟨g,3,none⟩=some a3/\w.cell? ⟨g,4,none⟩=some a4/\w.cell? ⟨g,5,none⟩=some a5/\w.cell? ⟨g,6,none⟩=some a6:=⟨h.cell 0,h.cell 1,h.cell 2,h.cell 3,h.cell 4,h.cell 5,h.cell 6⟩
def sbE (x y:Sb):Bool:=decide (x.from_=y.from_) && (decide (x.int=y.int) && (decide (x.ses=y.ses) && (decide (x.seq=y.seq) && ((x.live == y.live) && ((x.heard == y.heard) && (x.idle == y.idle))))))
theorem sbE_iff (x y:Sb):sbE x y=true↔x=y:=by
 cases x;cases y;simp[sbE]
def sbsE:List Sb->List Sb->Bool
 | [],[]=>true
 | x :: r,y :: q=>sbE x y && sbsE r q
 | _,_=>false
theorem sbsE_iff:∀(l m:List Sb),sbsE l m=true↔l=m
 | [],[]=>by simp[sbsE]
 | [],y :: q=>by simp[sbsE]
 | x :: r,[]=>by simp[sbsE]
 | x :: r,y :: q=>by simp[sbsE,sbE_iff,sbsE_iff r q]
theorem sbsE_len {l m:List Sb} (h:¬ l.length=m.length):sbsE l m=false:=by
 rcases hb:sbsE l m with _ | _
 ·rfl
 ·exact absurd (congrArg List.length ((sbsE_iff l m).1 hb)) h
theorem sbsE_drop (l m:List Sb) (k:Nat) (h:k < l.length) (h2:k < m.length):sbsE (l.drop k) (m.drop k)=(sbE l[k] m[k] && sbsE (l.drop (k+1)) (m.drop (k+1))):=by
 rw[List.drop_eq_getElem_cons h,List.drop_eq_getElem_cons h2,sbsE]
theorem sub_zero:(Tryz.prog.info? 65).map (fun i=>(i.zero,i.size))=some (some (.agg #[.int .i64 0,.slice none 0 0,.int .i64 0,.int .i64 0,.bool false,.bool false,.bool false]),7):=by kernel_rfl
theorem refSubs_any (A D:Option Addr) (n c m d:Nat) (L M:List (SV×Sb)) (w:World) (hR:RdSb w w.heap.size A n c L) (hR2:RdSb w w.heap.size D m d M):
  Calls Tryz.prog 23 #[.slice A n c,.slice D m d] w fun e w'=>e=.returned (.bool (sbsE (sbs L) (sbs M)))/\Below w.heap.size w w':=by
 have hmax:=hR.max;have HL:=Hz_ hR.len;have HL2:=Hz_ hR2.len;obtain⟨hz,hi⟩:=zero_of_info sub_zero;have HI:=Hz_ hi;clear hi;by_cases hnm:n=m
 ·subst hnm;have HB1:=Hz_ fun (W:World) (hb:Below w.heap.size w W) k (hk:k < L.length)=>(hR.below hb).sub hk;have HB2:=Hz_ fun (W:World) (hb:Below w.heap.size w W) k (hk:k < M.length)=>(hR2.below hb).sub hk;have HG:=Hz_ fun (W:World) (hb:Below w.heap.size w W) p (hp:p∈L) q (hq:q∈M)=>sameS_any p.1.A q.1.A p.2.int.length p.1.c q.2.int.length q.1.c p.2.int q.2.int W rfl rfl ((hR.each p hp).go hb) ((hR2.each q hq).go hb);have HD:=Hz_ fun k h h2=>sbsE_drop (sbs L) (sbs M) k h h2;clear hR hR2;go_enter Tryz.func23,Tryz.ntmps23;go_wp2;go_loopw [5] (fun i wr=>∃(j:Nat),j<=n/\i=.int .i64 j/\Below w.heap.size w wr/\Hid (sbsE (sbs L) (sbs M)=sbsE ((sbs L).drop j) ((sbs M).drop j))) (fun i _=>n - (intOf i).toNat)
  case atStart=>exact⟨0,by omega,rfl,Below.refl _ _,rfl⟩
  case round=>
   obtain⟨j,hj,rfl,k,hr⟩:=hrel;by_cases hlt:j < n
   ·have hjl:j < L.length:=by rw[HL.out];exact hlt
    have hjm:j < M.length:=by rw[HL2.out];exact hlt
    obtain⟨b,o,rfl,hbb,-⟩:=HB1.out wr k j hjl;obtain⟨b2,o2,rfl,hbb2,-⟩:=HB2.out wr k j hjm;have hd:=hr.out.trans (HD.out j (by rw[sbs_len];exact hjl) (by rw[sbs_len];exact hjm));rw[sbs_at L j hjl,sbs_at M j hjm] at hd;have G:=fun (W:World) (hb:Below w.heap.size w W)=>HG.out W hb L[j] (List.getElem_mem hjl) M[j] (List.getElem_mem hjm);have HE:=Hz_ fun (W:World) (hb:Below wr.heap.size wr W)=>(⟨held_at (HB1.out W (btn k hb) j hjl),held_at (HB2.out W (btn k hb) j hjm)⟩:_/\_);unfold sbE at hd;generalize decide (L[j].2.int=M[j].2.int)=zi at G hd;generalize L[j].2.from_=y0 at HE hd;generalize M[j].2.from_=z0 at HE hd;generalize L[j].1.A=y1 at G HE;generalize M[j].1.A=z1 at G HE;generalize L[j].2.int.length=y2 at G HE;generalize M[j].2.int.length=z2 at G HE;generalize L[j].1.c=y3 at G HE;generalize M[j].1.c=z3 at G HE;generalize L[j].2.ses=y4 at HE hd;generalize M[j].2.ses=z4 at HE hd;generalize L[j].2.seq=y5 at HE hd;generalize M[j].2.seq=z5 at HE hd;generalize L[j].2.live=y6 at HE hd;generalize M[j].2.live=z6 at HE hd;generalize L[j].2.heard=y7 at HE hd;generalize M[j].2.heard=z7 at HE hd;generalize L[j].2.idle=y8 at HE hd;generalize M[j].2.idle=z8 at HE hd;have G:=Hz_ G;have HDD:=Hz_ hd;have HKR:=Hz_ k;clear hr hd hbb hbb2 hjl hjm k;go_wp2;go_cut [6,7] from 13 to 74 (fun v6 v7 wx=>∃g6 g7:Nat,v6=.pointer (some ⟨g6,0,none⟩)/\v7=.pointer (some ⟨g7,0,none⟩)/\Hid (Below wr.heap.size wr wx/\Blk wx g6 65 #[.int .i64 y0,.slice y1 y2 y3,.int .i64 y4,.int .i64 y5,.bool y6,.bool y7,.bool y8]/\Blk wx g7 65 #[.int .i64 z0,.slice z1 z2 z3,.int .i64 z4,.int .i64 z5,.bool z6,.bool z7,.bool z8]))
    case first=>
     have k:Below wr.heap.size wr wr.drew:=(Below.refl _ wr).drew;refine region_nrm fun KK hKK=>?_;refine wp_region_held_drew (S:=(fun W=>(W.cell? ⟨b,o+j * 7,none⟩=some (.int .i64 y0)/\W.cell? ⟨b,o+j * 7+1,none⟩=some (.slice y1 y2 y3)/\W.cell? ⟨b,o+j * 7+2,none⟩=some (.int .i64 y4)/\W.cell? ⟨b,o+j * 7+3,none⟩=some (.int .i64 y5)/\W.cell? ⟨b,o+j * 7+4,none⟩=some (.bool y6)/\W.cell? ⟨b,o+j * 7+5,none⟩=some (.bool y7)/\W.cell? ⟨b,o+j * 7+6,none⟩=some (.bool y8))/\(W.cell? ⟨b2,o2+j * 7,none⟩=some (.int .i64 z0)/\W.cell? ⟨b2,o2+j * 7+1,none⟩=some (.slice z1 z2 z3)/\W.cell? ⟨b2,o2+j * 7+2,none⟩=some (.int .i64 z4)/\W.cell? ⟨b2,o2+j * 7+3,none⟩=some (.int .i64 z5)/\W.cell? ⟨b2,o2+j * 7+4,none⟩=some (.bool z6)/\W.cell? ⟨b2,o2+j * 7+5,none⟩=some (.bool z7)/\W.cell? ⟨b2,o2+j * 7+6,none⟩=some (.bool z8)))) (by kernel_rfl) (by first | exact HE.out _ k) (fun hHeld=>?_);refine puA 0 19 (HE.out _ k) ?_;refine puA 1 20 (HE.out _ k) ?_;refine puA 2 21 (HE.out _ k) ?_;refine puA 3 22 (HE.out _ k) ?_;refine puA 4 23 (HE.out _ k) ?_;refine puA 5 24 (HE.out _ k) ?_;refine puA 6 25 (HE.out _ k) ?_;refine puA 7 26 (HE.out _ k) ?_;obtain⟨V,hV⟩:∃V,V=wr.drew:=⟨_,rfl⟩;rw[<-hV] at k ⊢;clear hV;refine wpAnyH_ready (rs:=[8,9]) (by kernel_rfl) (by simp) ?_;refine AllReadyH.cons rfl (fun K hK=>?_) (AllReadyH.cons rfl (fun K hK=>?_) AllReadyH.nil)
     ·go_simp;have hb':=then_alloc k (.cells #[.int .i64 0,.slice none 0 0,.int .i64 0,.int .i64 0,.bool false,.bool false,.bool false] 65);have G6:=blkOfT hb';have B6:=k.size;have k:=btn k hb';refine hK.out _ _ (HE.out _ k) fun hHeld=>?_;clear hK K hb'
      try simp only[List.setIfInBounds_toArray,List.set_cons_zero,List.set_cons_succ]
      generalize V.alloc (.cells #[.int .i64 0,.slice none 0 0,.int .i64 0,.int .i64 0,.bool false,.bool false,.bool false] 65)=U at *;generalize V.heap.size=g6 at *;refine puR 9 fun K hK=>?_;go_simp;have hb':=then_alloc k (.cells #[.int .i64 0,.slice none 0 0,.int .i64 0,.int .i64 0,.bool false,.bool false,.bool false] 65);have G7:=blkOfT hb';have B7:=k.size;have D:g6≠U.heap.size:=Nat.ne_of_lt G6.lt;have G6:=G6.go hb';have k:=btn k hb';refine hK.out _ _ (HE.out _ k) fun hHeld=>?_;clear hK K hb'
      try simp only[List.setIfInBounds_toArray,List.set_cons_zero,List.set_cons_succ]
      generalize U.alloc (.cells #[.int .i64 0,.slice none 0 0,.int .i64 0,.int .i64 0,.bool false,.bool false,.bool false] 65)=T at *;generalize U.heap.size=g7 at *;refine puR 10 fun K hK=>?_;rw[if_pos (by kernel_rfl)];refine wp_store_blk 65 (.tmp 6) (.tmp 22) rfl _ 65 _ #[.int .i64 y0,.slice y1 y2 y3,.int .i64 y4,.int .i64 y5,.bool y6,.bool y7,.bool y8] rfl rfl G6 HI.out rfl (by simp[Value.oneCell']) ?_;intro Ws6 hblk hg;have G7:=G7.grown hg (fun e=>by injection e with e;omega);have k:=k.trans (grown_below hg k.size (fun j hj=>by cases hj;exact B6));have G6:=hblk;clear hg hblk;refine hK.out _ _ (HE.out _ k) fun hHeld=>?_;clear hK K
      try simp only[List.setIfInBounds_toArray,List.set_cons_zero,List.set_cons_succ]
      refine puR 11 fun K hK=>?_;rw[if_pos (by kernel_rfl)];refine wp_store_blk 65 (.tmp 7) (.tmp 26) rfl _ 65 _ #[.int .i64 z0,.slice z1 z2 z3,.int .i64 z4,.int .i64 z5,.bool z6,.bool z7,.bool z8] rfl rfl G7 HI.out rfl (by simp[Value.oneCell']) ?_;intro Ws7 hblk hg;have G6:=G6.grown hg (fun e=>by injection e with e;omega);have k:=k.trans (grown_below hg k.size (fun j hj=>by cases hj;exact B7));have G7:=hblk;clear hg hblk;refine hK.out _ _ (HE.out _ k) fun hHeld=>?_;clear hK K
      try simp only[List.setIfInBounds_toArray,List.set_cons_zero,List.set_cons_succ]
      refine wpAnyH_done (by kernel_rfl) ?_ _;refine Nrm.out (hKK _ _ ?_);go_wp2_with fail;go_meet;exact⟨g6,g7,rfl,rfl,k,G6,G7⟩
     ·go_simp;have hb':=then_alloc k (.cells #[.int .i64 0,.slice none 0 0,.int .i64 0,.int .i64 0,.bool false,.bool false,.bool false] 65);have G7:=blkOfT hb';have B7:=k.size;have k:=btn k hb';refine hK.out _ _ (HE.out _ k) fun hHeld=>?_;clear hK K hb'
      try simp only[List.setIfInBounds_toArray,List.set_cons_zero,List.set_cons_succ]
      generalize V.alloc (.cells #[.int .i64 0,.slice none 0 0,.int .i64 0,.int .i64 0,.bool false,.bool false,.bool false] 65)=U at *;generalize V.heap.size=g7 at *;refine puR 8 fun K hK=>?_;go_simp;have hb':=then_alloc k (.cells #[.int .i64 0,.slice none 0 0,.int .i64 0,.int .i64 0,.bool false,.bool false,.bool false] 65);have G6:=blkOfT hb';have B6:=k.size;have D:g7≠U.heap.size:=Nat.ne_of_lt G7.lt;have G7:=G7.go hb';have k:=btn k hb';refine hK.out _ _ (HE.out _ k) fun hHeld=>?_;clear hK K hb'
      try simp only[List.setIfInBounds_toArray,List.set_cons_zero,List.set_cons_succ]
      generalize U.alloc (.cells #[.int .i64 0,.slice none 0 0,.int .i64 0,.int .i64 0,.bool false,.bool false,.bool false] 65)=T at *;generalize U.heap.size=g6 at *;refine puR 10 fun K hK=>?_;rw[if_pos (by kernel_rfl)];refine wp_store_blk 65 (.tmp 6) (.tmp 22) rfl _ 65 _ #[.int .i64 y0,.slice y1 y2 y3,.int .i64 y4,.int .i64 y5,.bool y6,.bool y7,.bool y8] rfl rfl G6 HI.out rfl (by simp[Value.oneCell']) ?_;intro Ws6 hblk hg;have G7:=G7.grown hg (fun e=>by injection e with e;omega);have k:=k.trans (grown_below hg k.size (fun j hj=>by cases hj;exact B6));have G6:=hblk;clear hg hblk;refine hK.out _ _ (HE.out _ k) fun hHeld=>?_;clear hK K
      try simp only[List.setIfInBounds_toArray,List.set_cons_zero,List.set_cons_succ]
      refine puR 11 fun K hK=>?_;rw[if_pos (by kernel_rfl)];refine wp_store_blk 65 (.tmp 7) (.tmp 26) rfl _ 65 _ #[.int .i64 z0,.slice z1 z2 z3,.int .i64 z4,.int .i64 z5,.bool z6,.bool z7,.bool z8] rfl rfl G7 HI.out rfl (by simp[Value.oneCell']) ?_;intro Ws7 hblk hg;have G6:=G6.grown hg (fun e=>by injection e with e;omega);have k:=k.trans (grown_below hg k.size (fun j hj=>by cases hj;exact B7));have G7:=hblk;clear hg hblk;refine hK.out _ _ (HE.out _ k) fun hHeld=>?_;clear hK K
      try simp only[List.setIfInBounds_toArray,List.set_cons_zero,List.set_cons_succ]
      refine wpAnyH_done (by kernel_rfl) ?_ _;refine Nrm.out (hKK _ _ ?_);go_wp2_with fail;go_meet;exact⟨g6,g7,rfl,rfl,k,G6,G7⟩
    case rest=>
     obtain⟨g6,g7,rfl,rfl,hh⟩:=hcut;obtain⟨k,X6,X7⟩:=hh.out;obtain⟨q0,q1,q2,q3,q4,q5,q6⟩:=X6.seven;obtain⟨r0,r1,r2,r3,r4,r5,r6⟩:=X7.seven;have kw:=btn HKR.out k;have HX6:=Hz_ X6;have HX7:=Hz_ X7;clear hh k X6 X7;by_cases e0:y0=z0;rotate_left
     ·skip;have HN:=Hz_ (show sbsE (sbs L) (sbs M)=false by rw[HDD.out];simp[e0]);go_wp2_with (go_at_call 62;go_must (refine(G.out _ kw).mono ?_);rintro e w' ⟨rfl,hb'⟩;have kw:=btn kw hb';obtain⟨q0,q1,q2,q3,q4,q5,q6⟩:=(HX6.out.go hb').seven;obtain⟨r0,r1,r2,r3,r4,r5,r6⟩:=(HX7.out.go hb').seven;clear hb');go_ret;exact⟨by rw[HN.out]<;>rfl,kw⟩
     subst e0;rcases zi with _ | _
     ·skip;have HN:=Hz_ (show sbsE (sbs L) (sbs M)=false by rw[HDD.out];simp);go_wp2_with (go_at_call 62;go_must (refine(G.out _ kw).mono ?_);rintro e w' ⟨rfl,hb'⟩;have kw:=btn kw hb';obtain⟨q0,q1,q2,q3,q4,q5,q6⟩:=(HX6.out.go hb').seven;obtain⟨r0,r1,r2,r3,r4,r5,r6⟩:=(HX7.out.go hb').seven;clear hb');go_ret;exact⟨by rw[HN.out]<;>rfl,kw⟩
     by_cases e4:y4=z4;rotate_left
     ·skip;have HN:=Hz_ (show sbsE (sbs L) (sbs M)=false by rw[HDD.out];simp[e4]);go_wp2_with (go_at_call 62;go_must (refine(G.out _ kw).mono ?_);rintro e w' ⟨rfl,hb'⟩;have kw:=btn kw hb';obtain⟨q0,q1,q2,q3,q4,q5,q6⟩:=(HX6.out.go hb').seven;obtain⟨r0,r1,r2,r3,r4,r5,r6⟩:=(HX7.out.go hb').seven;clear hb');go_ret;exact⟨by rw[HN.out]<;>rfl,kw⟩
     subst e4;by_cases e5:y5=z5;rotate_left
     ·skip;have HN:=Hz_ (show sbsE (sbs L) (sbs M)=false by rw[HDD.out];simp[e5]);go_wp2_with (go_at_call 62;go_must (refine(G.out _ kw).mono ?_);rintro e w' ⟨rfl,hb'⟩;have kw:=btn kw hb';obtain⟨q0,q1,q2,q3,q4,q5,q6⟩:=(HX6.out.go hb').seven;obtain⟨r0,r1,r2,r3,r4,r5,r6⟩:=(HX7.out.go hb').seven;clear hb');go_ret;exact⟨by rw[HN.out]<;>rfl,kw⟩
     subst e5;by_cases e6:y6=z6;rotate_left
     ·cases y6<;>cases z6<;>first | (exact absurd rfl e6) | skip
      all_goals
       have HN:=Hz_ (show sbsE (sbs L) (sbs M)=false by rw[HDD.out];simp);go_wp2_with (go_at_call 62;go_must (refine(G.out _ kw).mono ?_);rintro e w' ⟨rfl,hb'⟩;have kw:=btn kw hb';obtain⟨q0,q1,q2,q3,q4,q5,q6⟩:=(HX6.out.go hb').seven;obtain⟨r0,r1,r2,r3,r4,r5,r6⟩:=(HX7.out.go hb').seven;clear hb');go_ret;exact⟨by rw[HN.out]<;>rfl,kw⟩
     subst e6;by_cases e7:y7=z7;rotate_left
     ·cases y7<;>cases z7<;>first | (exact absurd rfl e7) | skip
      all_goals
       have HN:=Hz_ (show sbsE (sbs L) (sbs M)=false by rw[HDD.out];simp);go_wp2_with (go_at_call 62;go_must (refine(G.out _ kw).mono ?_);rintro e w' ⟨rfl,hb'⟩;have kw:=btn kw hb';obtain⟨q0,q1,q2,q3,q4,q5,q6⟩:=(HX6.out.go hb').seven;obtain⟨r0,r1,r2,r3,r4,r5,r6⟩:=(HX7.out.go hb').seven;clear hb');go_ret;exact⟨by rw[HN.out]<;>rfl,kw⟩
     subst e7;by_cases e8:y8=z8;rotate_left
     ·cases y8<;>cases z8<;>first | (exact absurd rfl e8) | skip
      all_goals
       have HN:=Hz_ (show sbsE (sbs L) (sbs M)=false by rw[HDD.out];simp);go_wp2_with (go_at_call 62;go_must (refine(G.out _ kw).mono ?_);rintro e w' ⟨rfl,hb'⟩;have kw:=btn kw hb';obtain⟨q0,q1,q2,q3,q4,q5,q6⟩:=(HX6.out.go hb').seven;obtain⟨r0,r1,r2,r3,r4,r5,r6⟩:=(HX7.out.go hb').seven;clear hb');go_ret;exact⟨by rw[HN.out]<;>rfl,kw⟩
     subst e8;have HN:=Hz_ (show sbsE (sbs L) (sbs M)=sbsE ((sbs L).drop (j+1)) ((sbs M).drop (j+1)) by rw[HDD.out];simp);go_wp2_with (go_at_call 62;go_must (refine(G.out _ kw).mono ?_);rintro e w' ⟨rfl,hb'⟩;have kw:=btn kw hb';obtain⟨q0,q1,q2,q3,q4,q5,q6⟩:=(HX6.out.go hb').seven;obtain⟨r0,r1,r2,r3,r4,r5,r6⟩:=(HX7.out.go hb').seven;clear hb');go_roundw
     case rel=>exact⟨j+1,by omega,by go_num,kw,HN⟩
     case measure=>simp[intOf];omega
   ·obtain rfl:n=j:=by omega
    have HN:=Hz_ (show sbsE (sbs L) (sbs M)=true by rw[hr.out,List.drop_of_length_le (by rw[sbs_len,HL.out];exact Nat.le_refl _),List.drop_of_length_le (by rw[sbs_len,HL2.out];exact Nat.le_refl _)];rfl);clear hr;go_wp2;go_ret;exact⟨by rw[HN.out]<;>rfl,k⟩
 ·have HN:=Hz_ (sbsE_len (l:=sbs L) (m:=sbs M) (by rw[sbs_len,sbs_len,HL.out,HL2.out];exact hnm));have hne:¬ ((n:Int)=(m:Int)):=by omega
  clear hR hR2;go_enter Tryz.func23,Tryz.ntmps23;go_wp2;go_ret;exact⟨by rw[HN.out]<;>rfl,Below.refl _ _⟩
structure Bw (W0:World) where
 W:World
 h:Below W0.heap.size W0 W
instance (W0:World):Nonempty (Bw W0):=⟨⟨W0,Below.refl _ _⟩⟩
structure QW (P:Program) (ops:Array Oper) (C:World->Prop) (Q:Act->Prop) (l:List Oper) (a:Act):Prop where
 out:wpQuiet P ops C Q l a
theorem wp_region_bw {P:Program} {id:Nat} {Q:Exit->Act->World->Prop} {a:Act} {w:World} {l:List Oper} (hm:P.follows .mixedOrders=true) (hB:Region.lexB .any l.toArray=true)
  (h:QW P l.toArray (fun w'=>∃p:Bw w,w'=p.W) (fun a'=>∀w',(∃p:Bw w,w'=p.W)->Q .normal a' w') l a):(Code.region id l.toArray true).wp P Q a w:=
 wp_region_quiet (C:=fun w'=>∃p:Bw w,w'=p.W) hm hB ⟨⟨_,(Below.refl _ w).drew⟩,rfl⟩ (by simpa using h.out)
section
variable {P:Program} {ops:Array Oper} {C:World->Prop} {Q:Act->Prop} {a:Act} {o:Oper} {rest:List Oper}
theorem bw_skip (hw:Region.wanted o (yielded ops a.tmps)=false) (h:QW P ops C Q rest (a.put o.dst undef)):QW P ops C Q (o :: rest) a:=⟨by
 unfold wpQuiet;rw[hw];exact h.out⟩
theorem bw_run (hw:Region.wanted o (yielded ops a.tmps)=true) (h:∀K:Act->Prop,(∀a,QW P ops C Q rest a->K a)->o.quiet P a C K):QW P ops C Q (o :: rest) a:=⟨by
 unfold wpQuiet;rw[if_pos hw];exact h _ fun _ h=>h.out⟩
theorem bw_nil (h:Q a):QW P ops C Q [] a:=⟨h⟩
end
theorem bw_of {P:Program} {f:FuncId} {args:Array Value} {w:World} {p:Bw w} {v:Value} (h:Calls P f args p.W fun e w'=>e=.returned v/\Below p.W.heap.size p.W w'):Calls P f args p.W fun e w''=>e=.returned v/\∃p':Bw w,w''=p'.W:=
 h.mono fun _ w' ⟨he,hb⟩=>⟨he,⟨w',p.h.trans (hb.mono p.h.size)⟩,rfl⟩
end Go.Proofs.YtmbeahbgafkjfaaGreatDoor
