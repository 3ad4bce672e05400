/- Lemmas, layer 23. -/
import Derived.Test.YtmbeahbgafkjfaaGreatDoorKp22
set_option linter.unusedSimpArgs false
set_option maxRecDepth 100000
set_option maxHeartbeats 16000000
namespace Go.Proofs.YtmbeahbgafkjfaaGreatDoor
open Go.Proofs.Tryz Go.RowKit
def YA (l:List Sb) (k:Nat):Int:=if h:0 < k/\k - 1 < l.length then (l[k - 1]'h.2).from_ else -1
theorem Oh (l:List Sb):YA l 0=-1:=by unfold YA;rw[dif_neg (by simp)]
theorem JbM (l:List Sb) (k:Nat) (h:k < l.length):YA l (k+1)=l[k].from_:=by
 unfold YA;rw[dif_pos ⟨by omega,by simpa using h⟩];simp
theorem Jet (last:Int) (s:Sb):sbF last s=((decide (last < s.from_) && decide (s.from_<=63)) && ((!decide (s.int.length=0) && Sn.Xp (-2) s.int) && ((decide (s.ses=0) && decide (s.seq=0)) && (!s.live && (!s.heard && !s.idle))))):=by
 unfold sbF sbZ;congr 2;rw[show s.int.isEmpty=decide (s.int.length=0) by cases s.int<;>simp]
theorem JbU (A:OA) (n c:Nat) (L:List (SV×Sb)) (w:World) (hR:QM w w.heap.size A n c L):
  Calls prog 42 #[.slice A n c] w fun e w'=>e=.returned (.bool (Qy (JK L)))/\Bz w w':=by
 have hmax:=hR.max;have HL:=Ja hR.len;have HB1:=Ja fun (W:World) (hb:Bz w W) k (hk:k < L.length)=>(hR.below hb).sub hk;have HG:=Ja fun (W:World) (hb:Bz w W) p (hp:p∈L)=>YX p.1.A p.2.int.length p.1.c p.2.int W rfl ((hR.each p hp).go hb);have HD:=Ja fun last k h=>Jeq last (JK L) k h;have HLE:=Ja (show (JK L).length=n by rw[JX];exact hR.len);have HRF:=Ja (show Qy (JK L)=(QS (-1) (JK L) && decide ((JK L).length<=16)) from rfl);clear hR;go_enter func42,ntmps42;go_wp2;go_loopw [3,8] (fun a i wr=>∃(j:Nat) (last:Int),j<=n/\i=.int .i64 j/\a=.int .i64 last/\Bz w wr/\Hid (QS (-1) (JK L)=QS last ((JK L).drop j))) (fun _ i _=>n - (intOf i).toNat)
 case atStart=>exact⟨0,-1,by omega,rfl,rfl,Ec _ _,rfl⟩
 case round=>
  obtain⟨j,last,hj,rfl,rfl,k,hr⟩:=hrel;by_cases hlt:j < n
  ·skip;have hjl:j < L.length:=by rw[HL.out];exact hlt
   obtain⟨b,o,rfl,hbb,q0,q1,q2,q3,q4,q5,q6⟩:=HB1.out wr k j hjl;have hjs:j < (JK L).length:=by rw[JX];exact hjl
   have hd:=hr.out.trans (HD.out last j hjs);rw[KY L j hjl,Jet] at hd;have G:=fun (W:World) (hb:Bz w W)=>HG.out W hb L[j] (En hjl);generalize Sn.Xp (-2) L[j].2.int=S at G hd;generalize L[j].2.from_=y0 at q0 hd;generalize L[j].1.A=y1 at q1 G;generalize L[j].2.int.length=y2 at q1 G hd;generalize L[j].1.c=y3 at q1 G;generalize L[j].2.ses=y4 at q2 hd;generalize L[j].2.seq=y5 at q3 hd;generalize L[j].2.live=y6 at q4 hd;generalize L[j].2.heard=y7 at q5 hd;generalize L[j].2.idle=y8 at q6 hd;have G:=Ja G;have HDD:=Ja hd;have HKR:=Ja k;have hal:Bz wr (wr.alloc (.cells #[.int .i64 y0,.slice y1 y2 y3,.int .i64 y4,.int .i64 y5,.bool y6,.bool y7,.bool y8] 65)):=Zr.alloc Zl _;have kw:=Jg k hal;have HX:=Ja (Jm.new wr 65 #[.int .i64 y0,.slice y1 y2 y3,.int .i64 y4,.int .i64 y5,.bool y6,.bool y7,.bool y8]);clear hr hd hbb hjs hjl k hal;by_cases e0:last < y0;rotate_left
   ·have d0:decide (y0<=last)=true:=by simp;omega
    have HN:=Ja (show Qy (JK L)=false by rw[HRF.out,HDD.out];simp[e0]);go_wp2_with (go_at_call 41;go_must (refine Jd (G.out _ kw) fun w' hb'=>?_);have kw:=Jg kw hb';obtain⟨x0,x1,x2,x3,x4,x5,x6⟩:=(HX.out.go hb').seven;clear hb');go_ret;exact⟨by rw[HN.out]<;>rfl,kw⟩
   have d0:decide (y0<=last)=false:=by simp;omega
   by_cases e1:y0<=63;rotate_left
   ·have d1:decide (y0 ≥ 64)=true:=by simp;omega
    have HN:=Ja (show Qy (JK L)=false by rw[HRF.out,HDD.out];simp[e1]);go_wp2_with (go_at_call 41;go_must (refine Jd (G.out _ kw) fun w' hb'=>?_);have kw:=Jg kw hb';obtain⟨x0,x1,x2,x3,x4,x5,x6⟩:=(HX.out.go hb').seven;clear hb');go_ret;exact⟨by rw[HN.out]<;>rfl,kw⟩
   have d1:decide (y0 ≥ 64)=false:=by simp;omega
   by_cases e2:y2=0
   ·subst e2;have HN:=Ja (show Qy (JK L)=false by rw[HRF.out,HDD.out];simp[]);go_wp2_with (go_at_call 41;go_must (refine Jd (G.out _ kw) fun w' hb'=>?_);have kw:=Jg kw hb';obtain⟨x0,x1,x2,x3,x4,x5,x6⟩:=(HX.out.go hb').seven;clear hb');go_ret;exact⟨by rw[HN.out]<;>rfl,kw⟩
   have d2:¬ ((y2:Nat):Int)=0:=by omega
   cases S
   ·skip;have HN:=Ja (show Qy (JK L)=false by rw[HRF.out,HDD.out];simp[]);go_wp2_with (go_at_call 41;go_must (refine Jd (G.out _ kw) fun w' hb'=>?_);have kw:=Jg kw hb';obtain⟨x0,x1,x2,x3,x4,x5,x6⟩:=(HX.out.go hb').seven;clear hb');go_ret;exact⟨by rw[HN.out]<;>rfl,kw⟩
   by_cases e4:y4=0;rotate_left
   ·skip;have HN:=Ja (show Qy (JK L)=false by rw[HRF.out,HDD.out];simp[e4]);go_wp2_with (go_at_call 41;go_must (refine Jd (G.out _ kw) fun w' hb'=>?_);have kw:=Jg kw hb';obtain⟨x0,x1,x2,x3,x4,x5,x6⟩:=(HX.out.go hb').seven;clear hb');go_ret;exact⟨by rw[HN.out]<;>rfl,kw⟩
   subst e4;by_cases e5:y5=0;rotate_left
   ·skip;have HN:=Ja (show Qy (JK L)=false by rw[HRF.out,HDD.out];simp[e5]);go_wp2_with (go_at_call 41;go_must (refine Jd (G.out _ kw) fun w' hb'=>?_);have kw:=Jg kw hb';obtain⟨x0,x1,x2,x3,x4,x5,x6⟩:=(HX.out.go hb').seven;clear hb');go_ret;exact⟨by rw[HN.out]<;>rfl,kw⟩
   subst e5;cases y6;rotate_left
   ·skip;have HN:=Ja (show Qy (JK L)=false by rw[HRF.out,HDD.out];simp[]);go_wp2_with (go_at_call 41;go_must (refine Jd (G.out _ kw) fun w' hb'=>?_);have kw:=Jg kw hb';obtain⟨x0,x1,x2,x3,x4,x5,x6⟩:=(HX.out.go hb').seven;clear hb');go_ret;exact⟨by rw[HN.out]<;>rfl,kw⟩
   cases y7;rotate_left
   ·skip;have HN:=Ja (show Qy (JK L)=false by rw[HRF.out,HDD.out];simp[]);go_wp2_with (go_at_call 41;go_must (refine Jd (G.out _ kw) fun w' hb'=>?_);have kw:=Jg kw hb';obtain⟨x0,x1,x2,x3,x4,x5,x6⟩:=(HX.out.go hb').seven;clear hb');go_ret;exact⟨by rw[HN.out]<;>rfl,kw⟩
   cases y8;rotate_left
   ·skip;have HN:=Ja (show Qy (JK L)=false by rw[HRF.out,HDD.out];simp[]);go_wp2_with (go_at_call 41;go_must (refine Jd (G.out _ kw) fun w' hb'=>?_);have kw:=Jg kw hb';obtain⟨x0,x1,x2,x3,x4,x5,x6⟩:=(HX.out.go hb').seven;clear hb');go_ret;exact⟨by rw[HN.out]<;>rfl,kw⟩
   have HN:=Ja (show QS (-1) (JK L)=QS y0 ((JK L).drop (j+1)) by rw[HDD.out];simp[e0,e1,e2]);go_wp2_with (go_at_call 41;go_must (refine Jd (G.out _ kw) fun w' hb'=>?_);have kw:=Jg kw hb';obtain⟨x0,x1,x2,x3,x4,x5,x6⟩:=(HX.out.go hb').seven;clear hb');go_roundw
   case rel=>exact⟨j+1,y0,by omega,by go_num,rfl,kw,HN⟩
   case measure=>simp[intOf];omega
  ·obtain rfl:n=j:=by omega
   have HN:=Ja (show Qy (JK L)=decide (n<=16) by rw[HRF.out,hr.out,Ed (by rw[HLE.out];exact Ek _),HLE.out];rfl);clear hr;by_cases h16:n<=16
   ·have d:decide ((n:Int)<=16)=true:=by simp;omega
    go_wp2;go_ret;exact⟨by rw[HN.out,Eu h16]<;>rfl,k⟩
   ·have d:decide ((n:Int)<=16)=false:=by simp;omega
    go_wp2;go_ret;exact⟨by rw[HN.out,Ew h16]<;>rfl,k⟩
theorem OY (A:OA) (n c:Nat) (L:List (SV×Sb)) (w:World) (hR:QM w w.heap.size A n c L):
  Calls prog 25 #[.slice A n c] w fun e w'=>e=.returned (.bool (Qy (JK L)))/\Bz w w':=by
 have hmax:=hR.max;have HL:=Ja hR.len;have HB1:=Ja fun (W:World) (hb:Bz w W) k (hk:k < L.length)=>(hR.below hb).sub hk;have HG:=Ja fun (W:World) (hb:Bz w W) p (hp:p∈L)=>Zy p.1.A p.2.int.length p.1.c p.2.int W rfl ((hR.each p hp).go hb);have HD:=Ja fun last k h=>Jeq last (JK L) k h;have HLE:=Ja (show (JK L).length=n by rw[JX];exact hR.len);have HRF:=Ja (show Qy (JK L)=(QS (-1) (JK L) && decide ((JK L).length<=16)) from rfl);clear hR;by_cases h16:n<=16;rotate_left
 ·have HN:=Ja (show Qy (JK L)=false by rw[HRF.out,HLE.out,Ew h16,NT]);have d:decide ((n:Int) > 16)=true:=by simp;omega
  go_enter func25,ntmps25;go_wp2;go_ret;exact⟨by rw[HN.out]<;>rfl,Ec _ _⟩
 have HR16:=Ja (show Qy (JK L)=QS (-1) (JK L) by rw[HRF.out,HLE.out,Eu h16,No]);have d:decide ((n:Int) > 16)=false:=by simp;omega
 go_enter func25,ntmps25;go_wp2;clear d;go_loopw [3] (fun i wr=>∃(j:Nat),j<=n/\i=.int .i64 j/\Bz w wr/\Hid (-1<=YA (JK L) j)/\Hid (QS (-1) (JK L)=QS (YA (JK L) j) ((JK L).drop j))) (fun i _=>n - (intOf i).toNat)
 case atStart=>exact⟨0,by omega,rfl,Ec _ _,(by rw[Oh];exact Gt _),(by rw[Oh];rfl)⟩
 case round=>
  obtain⟨j,hj,rfl,k,hl1,hr⟩:=hrel;by_cases hlt:j < n
  ·skip;have hjl:j < L.length:=by rw[HL.out];exact hlt
   obtain⟨b,o,rfl,hbb,q0,q1,q2,q3,q4,q5,q6⟩:=HB1.out wr k j hjl;have hjs:j < (JK L).length:=by rw[JX];exact hjl
   have hd:=hr.out.trans (HD.out _ j hjs);have hnx:=JbM (JK L) j hjs;rw[KY L j hjl,Jet] at hd;rw[KY L j hjl] at hnx;have G:=fun (W:World) (hb:Bz w W)=>HG.out W hb L[j] (En hjl);generalize Sn.Xp (-2) L[j].2.int=S at G hd;generalize L[j].2.from_=y0 at q0 hd hnx;generalize L[j].1.A=y1 at q1 G;generalize L[j].2.int.length=y2 at q1 G hd;generalize L[j].1.c=y3 at q1 G;generalize L[j].2.ses=y4 at q2 hd;generalize L[j].2.seq=y5 at q3 hd;generalize L[j].2.live=y6 at q4 hd;generalize L[j].2.heard=y7 at q5 hd;generalize L[j].2.idle=y8 at q6 hd;have G:=Ja G;have HDD:=Ja hd;have HNX:=Ja hnx;have HKR:=Ja k;have hal:Bz wr (wr.alloc (.cells #[.int .i64 y0,.slice y1 y2 y3,.int .i64 y4,.int .i64 y5,.bool y6,.bool y7,.bool y8] 65)):=Zr.alloc Zl _;have hX:=Jm.new wr 65 #[.int .i64 y0,.slice y1 y2 y3,.int .i64 y4,.int .i64 y5,.bool y6,.bool y7,.bool y8];obtain⟨W1,hW1⟩:∃W1,W1=wr.alloc (.cells #[.int .i64 y0,.slice y1 y2 y3,.int .i64 y4,.int .i64 y5,.bool y6,.bool y7,.bool y8] 65):=⟨_,rfl⟩;rw[<-hW1] at hal hX;have HW1:=Ja hW1.symm;have HX:=Ja fun (W:World) (hb:Bz W1 W)=>(hX.go hb).seven;have kw:Bz w W1:=Jg k hal;have HAL:=Ja hal;have HP:=Ja fun (W:World) (hb:Bz W1 W) i (hi:i < L.length)=>YI (HB1.out W (Jg kw hb) i hi);have HJL:=Ja hjl;clear hr hd hnx hbb hjs hjl k hal hX hW1;have x0:=fun p:Bw W1=>(HX.out p.W p.h).1;have x1:=fun p:Bw W1=>(HX.out p.W p.h).2.1;have x2:=fun p:Bw W1=>(HX.out p.W p.h).2.2.1;have x3:=fun p:Bw W1=>(HX.out p.W p.h).2.2.2.1;have x4:=fun p:Bw W1=>(HX.out p.W p.h).2.2.2.2.1;have x5:=fun p:Bw W1=>(HX.out p.W p.h).2.2.2.2.2.1;have x6:=fun p:Bw W1=>(HX.out p.W p.h).2.2.2.2.2.2;have G:=Ja fun p:Bw W1=>G.out p.W (Jg kw p.h);have z0:=(HX.out W1 Zr).1;go_wp2;rw[HW1.out];clear z0;refine Je9 (by kernel_rfl) (by kernel_rfl) ?_
   iterate 2 (refine JW (by kernel_rfl) (fun K hK=>?_);go_simp;first | (refine hK _ ?_;clear hK K) | (apply Exists.intro;refine⟨fun _=>?_,hK _ ?_⟩;exact Qq (G.out _);clear hK K))
   by_cases e0:y0 < 0
   ·have d0:decide (y0 < 0)=true:=by simpa using e0
    have HAH:=Ja (show YA (JK L) j=YA (JK L) j from rfl);have hll:=hl1.out;have e0q:¬ YA (JK L) j < y0:=by omega
    have HE0:=Ja e0q;clear hll e0q;have HN:=Ja (show QS (-1) (JK L)=false by rw[HDD.out,HAH.out];simp[HE0.out])
    repeat first | (refine QR (by exact rfl) ?_;simp only[Act.put,Jq,Jo,Jp]) | (refine JW (by kernel_rfl) (fun K hK=>?_);go_simp;first | (refine hK _ ?_;clear hK K) | (apply Exists.intro;refine⟨fun _=>?_,hK _ ?_⟩;exact Qq (G.out _);clear hK K))
    refine Xh ?_;intro _ hw2;obtain⟨p,hw3⟩:=hw2;subst hw3;have kw:=Jg kw p.h;go_wp2;go_ret;exact⟨by rw[HR16.out,HN.out]<;>rfl,kw⟩
   have d0:decide (y0 < 0)=false:=by simpa using e0
   have e0p:(-1:Int) < y0:=by omega
   iterate 4 (refine JW (by kernel_rfl) (fun K hK=>?_);go_simp;first | (refine hK _ ?_;clear hK K) | (apply Exists.intro;refine⟨fun _=>?_,hK _ ?_⟩;exact Qq (G.out _);clear hK K))
   by_cases e1:y0<=63;rotate_left
   ·have d1:decide (y0 > 63)=true:=by simp;omega
    have HAH:=Ja (show YA (JK L) j=YA (JK L) j from rfl);have HN:=Ja (show QS (-1) (JK L)=false by rw[HDD.out,HAH.out];simp[e1])
    repeat first | (refine QR (by exact rfl) ?_;simp only[Act.put,Jq,Jo,Jp]) | (refine JW (by kernel_rfl) (fun K hK=>?_);go_simp;first | (refine hK _ ?_;clear hK K) | (apply Exists.intro;refine⟨fun _=>?_,hK _ ?_⟩;exact Qq (G.out _);clear hK K))
    refine Xh ?_;intro _ hw2;obtain⟨p,hw3⟩:=hw2;subst hw3;have kw:=Jg kw p.h;go_wp2;go_ret;exact⟨by rw[HR16.out,HN.out]<;>rfl,kw⟩
   have d1:decide (y0 > 63)=false:=by simp;omega
   iterate 4 (refine JW (by kernel_rfl) (fun K hK=>?_);go_simp;first | (refine hK _ ?_;clear hK K) | (apply Exists.intro;refine⟨fun _=>?_,hK _ ?_⟩;exact Qq (G.out _);clear hK K))
   by_cases hj0:j=0
   ·have HAH:=Ja (show YA (JK L) j=-1 by rw[hj0];exact Oh _);have dj:decide (0 < j)=false:=by simp;omega
    clear hj0
    iterate 2 (refine JW (by kernel_rfl) (fun K hK=>?_);go_simp;first | (refine hK _ ?_;clear hK K) | (apply Exists.intro;refine⟨fun _=>?_,hK _ ?_⟩;exact Qq (G.out _);clear hK K))
    iterate 9 (refine QR (by kernel_rfl) ?_;simp only[Act.put,Jq,Jo,Jp])
    iterate 6 (refine JW (by kernel_rfl) (fun K hK=>?_);go_simp;first | (refine hK _ ?_;clear hK K) | (apply Exists.intro;refine⟨fun _=>?_,hK _ ?_⟩;exact Qq (G.out _);clear hK K))
    by_cases e2:y2=0
    ·subst e2;have HN:=Ja (show QS (-1) (JK L)=false by rw[HDD.out,HAH.out];simp[])
     repeat first | (refine QR (by exact rfl) ?_;simp only[Act.put,Jq,Jo,Jp]) | (refine JW (by kernel_rfl) (fun K hK=>?_);go_simp;first | (refine hK _ ?_;clear hK K) | (apply Exists.intro;refine⟨fun _=>?_,hK _ ?_⟩;exact Qq (G.out _);clear hK K))
     refine Xh ?_;intro _ hw2;obtain⟨p,hw3⟩:=hw2;subst hw3;have kw:=Jg kw p.h;go_wp2;go_ret;exact⟨by rw[HR16.out,HN.out]<;>rfl,kw⟩
    have d2:¬ ((y2:Nat):Int)=0:=by omega
    have d2b:(((y2:Nat):Int) == 0)=false:=by simpa using e2
    iterate 5 (refine JW (by kernel_rfl) (fun K hK=>?_);go_simp;first | (refine hK _ ?_;clear hK K) | (apply Exists.intro;refine⟨fun _=>?_,hK _ ?_⟩;exact Qq (G.out _);clear hK K))
    cases S
    ·skip;have HN:=Ja (show QS (-1) (JK L)=false by rw[HDD.out,HAH.out];simp[])
     repeat first | (refine QR (by exact rfl) ?_;simp only[Act.put,Jq,Jo,Jp]) | (refine JW (by kernel_rfl) (fun K hK=>?_);go_simp;first | (refine hK _ ?_;clear hK K) | (apply Exists.intro;refine⟨fun _=>?_,hK _ ?_⟩;exact Qq (G.out _);clear hK K))
     refine Xh ?_;intro _ hw2;obtain⟨p,hw3⟩:=hw2;subst hw3;have kw:=Jg kw p.h;go_wp2;go_ret;exact⟨by rw[HR16.out,HN.out]<;>rfl,kw⟩
    iterate 6 (refine JW (by kernel_rfl) (fun K hK=>?_);go_simp;first | (refine hK _ ?_;clear hK K) | (apply Exists.intro;refine⟨fun _=>?_,hK _ ?_⟩;exact Qq (G.out _);clear hK K))
    by_cases e4:y4=0;rotate_left
    ·have e4b:(y4 != 0)=true:=by simpa using e4
     have HN:=Ja (show QS (-1) (JK L)=false by rw[HDD.out,HAH.out];simp[e4])
     repeat first | (refine QR (by exact rfl) ?_;simp only[Act.put,Jq,Jo,Jp]) | (refine JW (by kernel_rfl) (fun K hK=>?_);go_simp;first | (refine hK _ ?_;clear hK K) | (apply Exists.intro;refine⟨fun _=>?_,hK _ ?_⟩;exact Qq (G.out _);clear hK K))
     refine Xh ?_;intro _ hw2;obtain⟨p,hw3⟩:=hw2;subst hw3;have kw:=Jg kw p.h;go_wp2;go_ret;exact⟨by rw[HR16.out,HN.out]<;>rfl,kw⟩
    subst e4
    iterate 5 (refine JW (by kernel_rfl) (fun K hK=>?_);go_simp;first | (refine hK _ ?_;clear hK K) | (apply Exists.intro;refine⟨fun _=>?_,hK _ ?_⟩;exact Qq (G.out _);clear hK K))
    by_cases e5:y5=0;rotate_left
    ·have e5b:(y5 != 0)=true:=by simpa using e5
     have HN:=Ja (show QS (-1) (JK L)=false by rw[HDD.out,HAH.out];simp[e5])
     repeat first | (refine QR (by exact rfl) ?_;simp only[Act.put,Jq,Jo,Jp]) | (refine JW (by kernel_rfl) (fun K hK=>?_);go_simp;first | (refine hK _ ?_;clear hK K) | (apply Exists.intro;refine⟨fun _=>?_,hK _ ?_⟩;exact Qq (G.out _);clear hK K))
     refine Xh ?_;intro _ hw2;obtain⟨p,hw3⟩:=hw2;subst hw3;have kw:=Jg kw p.h;go_wp2;go_ret;exact⟨by rw[HR16.out,HN.out]<;>rfl,kw⟩
    subst e5
    iterate 4 (refine JW (by kernel_rfl) (fun K hK=>?_);go_simp;first | (refine hK _ ?_;clear hK K) | (apply Exists.intro;refine⟨fun _=>?_,hK _ ?_⟩;exact Qq (G.out _);clear hK K))
    cases y6;rotate_left
    ·skip;have HN:=Ja (show QS (-1) (JK L)=false by rw[HDD.out,HAH.out];simp[])
     repeat first | (refine QR (by exact rfl) ?_;simp only[Act.put,Jq,Jo,Jp]) | (refine JW (by kernel_rfl) (fun K hK=>?_);go_simp;first | (refine hK _ ?_;clear hK K) | (apply Exists.intro;refine⟨fun _=>?_,hK _ ?_⟩;exact Qq (G.out _);clear hK K))
     refine Xh ?_;intro _ hw2;obtain⟨p,hw3⟩:=hw2;subst hw3;have kw:=Jg kw p.h;go_wp2;go_ret;exact⟨by rw[HR16.out,HN.out]<;>rfl,kw⟩
    iterate 4 (refine JW (by kernel_rfl) (fun K hK=>?_);go_simp;first | (refine hK _ ?_;clear hK K) | (apply Exists.intro;refine⟨fun _=>?_,hK _ ?_⟩;exact Qq (G.out _);clear hK K))
    cases y7;rotate_left
    ·skip;have HN:=Ja (show QS (-1) (JK L)=false by rw[HDD.out,HAH.out];simp[])
     repeat first | (refine QR (by exact rfl) ?_;simp only[Act.put,Jq,Jo,Jp]) | (refine JW (by kernel_rfl) (fun K hK=>?_);go_simp;first | (refine hK _ ?_;clear hK K) | (apply Exists.intro;refine⟨fun _=>?_,hK _ ?_⟩;exact Qq (G.out _);clear hK K))
     refine Xh ?_;intro _ hw2;obtain⟨p,hw3⟩:=hw2;subst hw3;have kw:=Jg kw p.h;go_wp2;go_ret;exact⟨by rw[HR16.out,HN.out]<;>rfl,kw⟩
    iterate 4 (refine JW (by kernel_rfl) (fun K hK=>?_);go_simp;first | (refine hK _ ?_;clear hK K) | (apply Exists.intro;refine⟨fun _=>?_,hK _ ?_⟩;exact Qq (G.out _);clear hK K))
    cases y8;rotate_left
    ·skip;have HN:=Ja (show QS (-1) (JK L)=false by rw[HDD.out,HAH.out];simp[])
     iterate 2 (refine JW (by kernel_rfl) (fun K hK=>?_);go_simp;first | (refine hK _ ?_;clear hK K) | (apply Exists.intro;refine⟨fun _=>?_,hK _ ?_⟩;exact Qq (G.out _);clear hK K))
     refine Xh ?_;intro _ hw2;obtain⟨p,hw3⟩:=hw2;subst hw3;have kw:=Jg kw p.h;go_wp2;go_ret;exact⟨by rw[HR16.out,HN.out]<;>rfl,kw⟩
    have HN:=Ja (show QS (-1) (JK L)=QS y0 ((JK L).drop (j+1)) by rw[HDD.out,HAH.out];simp[e0p,e1,e2])
    iterate 2 (refine JW (by kernel_rfl) (fun K hK=>?_);go_simp;first | (refine hK _ ?_;clear hK K) | (apply Exists.intro;refine⟨fun _=>?_,hK _ ?_⟩;exact Qq (G.out _);clear hK K))
    refine Xh ?_;intro _ hw2;obtain⟨p,hw3⟩:=hw2;subst hw3;have kw:=Jg kw p.h;go_wp2;go_roundw
    case rel=>exact⟨j+1,by omega,by go_num,kw,by show _<=_;rw[HNX.out];omega,by show _=_;rw[HN.out,HNX.out]⟩
    case measure=>simp[intOf];omega
   ·obtain⟨i,hji⟩:∃i,j=i+1:=⟨j - 1,by omega⟩;have hil:i < L.length:=by have:=HJL.out;omega
    have HAH:=Ja (show YA (JK L) j=L[i].2.from_ by subst hji;rw[JbM (JK L) i (by rw[JX];exact hil),KY L i hil]);have xp:=fun p:Bw W1=>(HP.out p.W p.h i hil).1;generalize L[i].2.from_=pv at xp HAH;have dj:decide (0 < j)=true:=by simp;omega
    have e9:((j:Int) - 1)=(i:Int):=by omega
    have e8:IntKind.i64.wrap (i:Int)=(i:Int):=EJ _ (by omega);have hi4:(0:Int)<=(i:Int)/\(i:Int) < (n:Int):=by omega
    clear hji hj0 hil
    iterate 10 (refine JW (by kernel_rfl) (fun K hK=>?_);go_simp;first | (refine hK _ ?_;clear hK K) | (apply Exists.intro;refine⟨fun _=>?_,hK _ ?_⟩;exact Qq (G.out _);clear hK K))
    by_cases e3:pv < y0;rotate_left
    ·have d3:decide (pv ≥ y0)=true:=by simp;omega
     have HN:=Ja (show QS (-1) (JK L)=false by rw[HDD.out,HAH.out];simp[e3])
     repeat first | (refine QR (by exact rfl) ?_;simp only[Act.put,Jq,Jo,Jp]) | (refine JW (by kernel_rfl) (fun K hK=>?_);go_simp;first | (refine hK _ ?_;clear hK K) | (apply Exists.intro;refine⟨fun _=>?_,hK _ ?_⟩;exact Qq (G.out _);clear hK K))
     refine Xh ?_;intro _ hw2;obtain⟨p,hw3⟩:=hw2;subst hw3;have kw:=Jg kw p.h;go_wp2;go_ret;exact⟨by rw[HR16.out,HN.out]<;>rfl,kw⟩
    have d3:decide (pv ≥ y0)=false:=by simp;omega
    iterate 7 (refine JW (by kernel_rfl) (fun K hK=>?_);go_simp;first | (refine hK _ ?_;clear hK K) | (apply Exists.intro;refine⟨fun _=>?_,hK _ ?_⟩;exact Qq (G.out _);clear hK K))
    by_cases e2:y2=0
    ·subst e2;have HN:=Ja (show QS (-1) (JK L)=false by rw[HDD.out,HAH.out];simp[])
     repeat first | (refine QR (by exact rfl) ?_;simp only[Act.put,Jq,Jo,Jp]) | (refine JW (by kernel_rfl) (fun K hK=>?_);go_simp;first | (refine hK _ ?_;clear hK K) | (apply Exists.intro;refine⟨fun _=>?_,hK _ ?_⟩;exact Qq (G.out _);clear hK K))
     refine Xh ?_;intro _ hw2;obtain⟨p,hw3⟩:=hw2;subst hw3;have kw:=Jg kw p.h;go_wp2;go_ret;exact⟨by rw[HR16.out,HN.out]<;>rfl,kw⟩
    have d2:¬ ((y2:Nat):Int)=0:=by omega
    have d2b:(((y2:Nat):Int) == 0)=false:=by simpa using e2
    iterate 5 (refine JW (by kernel_rfl) (fun K hK=>?_);go_simp;first | (refine hK _ ?_;clear hK K) | (apply Exists.intro;refine⟨fun _=>?_,hK _ ?_⟩;exact Qq (G.out _);clear hK K))
    cases S
    ·skip;have HN:=Ja (show QS (-1) (JK L)=false by rw[HDD.out,HAH.out];simp[])
     repeat first | (refine QR (by exact rfl) ?_;simp only[Act.put,Jq,Jo,Jp]) | (refine JW (by kernel_rfl) (fun K hK=>?_);go_simp;first | (refine hK _ ?_;clear hK K) | (apply Exists.intro;refine⟨fun _=>?_,hK _ ?_⟩;exact Qq (G.out _);clear hK K))
     refine Xh ?_;intro _ hw2;obtain⟨p,hw3⟩:=hw2;subst hw3;have kw:=Jg kw p.h;go_wp2;go_ret;exact⟨by rw[HR16.out,HN.out]<;>rfl,kw⟩
    iterate 6 (refine JW (by kernel_rfl) (fun K hK=>?_);go_simp;first | (refine hK _ ?_;clear hK K) | (apply Exists.intro;refine⟨fun _=>?_,hK _ ?_⟩;exact Qq (G.out _);clear hK K))
    by_cases e4:y4=0;rotate_left
    ·have e4b:(y4 != 0)=true:=by simpa using e4
     have HN:=Ja (show QS (-1) (JK L)=false by rw[HDD.out,HAH.out];simp[e4])
     repeat first | (refine QR (by exact rfl) ?_;simp only[Act.put,Jq,Jo,Jp]) | (refine JW (by kernel_rfl) (fun K hK=>?_);go_simp;first | (refine hK _ ?_;clear hK K) | (apply Exists.intro;refine⟨fun _=>?_,hK _ ?_⟩;exact Qq (G.out _);clear hK K))
     refine Xh ?_;intro _ hw2;obtain⟨p,hw3⟩:=hw2;subst hw3;have kw:=Jg kw p.h;go_wp2;go_ret;exact⟨by rw[HR16.out,HN.out]<;>rfl,kw⟩
    subst e4
    iterate 5 (refine JW (by kernel_rfl) (fun K hK=>?_);go_simp;first | (refine hK _ ?_;clear hK K) | (apply Exists.intro;refine⟨fun _=>?_,hK _ ?_⟩;exact Qq (G.out _);clear hK K))
    by_cases e5:y5=0;rotate_left
    ·have e5b:(y5 != 0)=true:=by simpa using e5
     have HN:=Ja (show QS (-1) (JK L)=false by rw[HDD.out,HAH.out];simp[e5])
     repeat first | (refine QR (by exact rfl) ?_;simp only[Act.put,Jq,Jo,Jp]) | (refine JW (by kernel_rfl) (fun K hK=>?_);go_simp;first | (refine hK _ ?_;clear hK K) | (apply Exists.intro;refine⟨fun _=>?_,hK _ ?_⟩;exact Qq (G.out _);clear hK K))
     refine Xh ?_;intro _ hw2;obtain⟨p,hw3⟩:=hw2;subst hw3;have kw:=Jg kw p.h;go_wp2;go_ret;exact⟨by rw[HR16.out,HN.out]<;>rfl,kw⟩
    subst e5
    iterate 4 (refine JW (by kernel_rfl) (fun K hK=>?_);go_simp;first | (refine hK _ ?_;clear hK K) | (apply Exists.intro;refine⟨fun _=>?_,hK _ ?_⟩;exact Qq (G.out _);clear hK K))
    cases y6;rotate_left
    ·skip;have HN:=Ja (show QS (-1) (JK L)=false by rw[HDD.out,HAH.out];simp[])
     repeat first | (refine QR (by exact rfl) ?_;simp only[Act.put,Jq,Jo,Jp]) | (refine JW (by kernel_rfl) (fun K hK=>?_);go_simp;first | (refine hK _ ?_;clear hK K) | (apply Exists.intro;refine⟨fun _=>?_,hK _ ?_⟩;exact Qq (G.out _);clear hK K))
     refine Xh ?_;intro _ hw2;obtain⟨p,hw3⟩:=hw2;subst hw3;have kw:=Jg kw p.h;go_wp2;go_ret;exact⟨by rw[HR16.out,HN.out]<;>rfl,kw⟩
    iterate 4 (refine JW (by kernel_rfl) (fun K hK=>?_);go_simp;first | (refine hK _ ?_;clear hK K) | (apply Exists.intro;refine⟨fun _=>?_,hK _ ?_⟩;exact Qq (G.out _);clear hK K))
    cases y7;rotate_left
    ·skip;have HN:=Ja (show QS (-1) (JK L)=false by rw[HDD.out,HAH.out];simp[])
     repeat first | (refine QR (by exact rfl) ?_;simp only[Act.put,Jq,Jo,Jp]) | (refine JW (by kernel_rfl) (fun K hK=>?_);go_simp;first | (refine hK _ ?_;clear hK K) | (apply Exists.intro;refine⟨fun _=>?_,hK _ ?_⟩;exact Qq (G.out _);clear hK K))
     refine Xh ?_;intro _ hw2;obtain⟨p,hw3⟩:=hw2;subst hw3;have kw:=Jg kw p.h;go_wp2;go_ret;exact⟨by rw[HR16.out,HN.out]<;>rfl,kw⟩
    iterate 4 (refine JW (by kernel_rfl) (fun K hK=>?_);go_simp;first | (refine hK _ ?_;clear hK K) | (apply Exists.intro;refine⟨fun _=>?_,hK _ ?_⟩;exact Qq (G.out _);clear hK K))
    cases y8;rotate_left
    ·skip;have HN:=Ja (show QS (-1) (JK L)=false by rw[HDD.out,HAH.out];simp[])
     iterate 2 (refine JW (by kernel_rfl) (fun K hK=>?_);go_simp;first | (refine hK _ ?_;clear hK K) | (apply Exists.intro;refine⟨fun _=>?_,hK _ ?_⟩;exact Qq (G.out _);clear hK K))
     refine Xh ?_;intro _ hw2;obtain⟨p,hw3⟩:=hw2;subst hw3;have kw:=Jg kw p.h;go_wp2;go_ret;exact⟨by rw[HR16.out,HN.out]<;>rfl,kw⟩
    have HN:=Ja (show QS (-1) (JK L)=QS y0 ((JK L).drop (j+1)) by rw[HDD.out,HAH.out];simp[e3,e1,e2])
    iterate 2 (refine JW (by kernel_rfl) (fun K hK=>?_);go_simp;first | (refine hK _ ?_;clear hK K) | (apply Exists.intro;refine⟨fun _=>?_,hK _ ?_⟩;exact Qq (G.out _);clear hK K))
    refine Xh ?_;intro _ hw2;obtain⟨p,hw3⟩:=hw2;subst hw3;have kw:=Jg kw p.h;go_wp2;go_roundw
    case rel=>exact⟨j+1,by omega,by go_num,kw,by show _<=_;rw[HNX.out];omega,by show _=_;rw[HN.out,HNX.out]⟩
    case measure=>simp[intOf];omega
  ·obtain rfl:n=j:=by omega
   have HN:=Ja (show QS (-1) (JK L)=true by rw[hr.out,Ed (by rw[HLE.out];exact Ek _)];rfl);clear hr;go_wp2;go_ret;exact⟨by rw[HR16.out,HN.out]<;>rfl,k⟩
end Go.Proofs.YtmbeahbgafkjfaaGreatDoor
