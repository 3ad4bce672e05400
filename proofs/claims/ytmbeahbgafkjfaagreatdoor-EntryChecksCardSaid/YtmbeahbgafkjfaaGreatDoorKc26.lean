/- Lemmas for the claim, layer 26. -/
import Derived.Test.YtmbeahbgafkjfaaGreatDoorKc25
set_option maxRecDepth 100000
set_option maxHeartbeats 16000000
namespace Go.Proofs.YtmbeahbgafkjfaaGreatDoor
open Go.RowKit
def aheadS (l:List Sb) (k:Nat):Int:=if h:0 < k/\k - 1 < l.length then (l[k - 1]'h.2).from_ else -1
theorem aheadS_zero (l:List Sb):aheadS l 0=-1:=by unfold aheadS;rw[dif_neg (by simp)]
theorem aheadS_next (l:List Sb) (k:Nat) (h:k < l.length):aheadS l (k+1)=l[k].from_:=by
 unfold aheadS;rw[dif_pos ⟨by omega,by simpa using h⟩];simp
theorem sbF_parts (last:Int) (s:Sb):sbF last s=((decide (last < s.from_) && decide (s.from_<=63)) && ((!decide (s.int.length=0) && Sn.fmS (-2) s.int) && ((decide (s.ses=0) && decide (s.seq=0)) && (!s.live && (!s.heard && !s.idle))))):=by
 unfold sbF sbZ;congr 2;rw[show s.int.isEmpty=decide (s.int.length=0) by cases s.int<;>simp]
theorem entRest_any (A:Option Addr) (n c:Nat) (L:List (SV×Sb)) (w:World) (hR:RdSb w w.heap.size A n c L):
  Calls Tryz.prog 42 #[.slice A n c] w fun e w'=>e=.returned (.bool (restF (sbs L)))/\Below w.heap.size w w':=by
 have hmax:=hR.max;have HL:=Hz_ hR.len;have HB1:=Hz_ fun (W:World) (hb:Below w.heap.size w W) k (hk:k < L.length)=>(hR.below hb).sub hk;have HG:=Hz_ fun (W:World) (hb:Below w.heap.size w W) p (hp:p∈L)=>formedS_any p.1.A p.2.int.length p.1.c p.2.int W rfl ((hR.each p hp).go hb);have HD:=Hz_ fun last k h=>rstF_drop last (sbs L) k h;have HLE:=Hz_ (show (sbs L).length=n by rw[sbs_len];exact hR.len);have HRF:=Hz_ (show restF (sbs L)=(rstF (-1) (sbs L) && decide ((sbs L).length<=16)) from rfl);clear hR;go_enter Tryz.func42,Tryz.ntmps42;go_wp2;go_loopw [3,8] (fun a i wr=>∃(j:Nat) (last:Int),j<=n/\i=.int .i64 j/\a=.int .i64 last/\Below w.heap.size w wr/\Hid (rstF (-1) (sbs L)=rstF last ((sbs L).drop j))) (fun _ i _=>n - (intOf i).toNat)
 case atStart=>exact⟨0,-1,by omega,rfl,rfl,Below.refl _ _,rfl⟩
 case round=>
  obtain⟨j,last,hj,rfl,rfl,k,hr⟩:=hrel;by_cases hlt:j < n
  ·skip;have hjl:j < L.length:=by rw[HL.out];exact hlt
   obtain⟨b,o,rfl,hbb,q0,q1,q2,q3,q4,q5,q6⟩:=HB1.out wr k j hjl;have hjs:j < (sbs L).length:=by rw[sbs_len];exact hjl
   have hd:=hr.out.trans (HD.out last j hjs);rw[sbs_at L j hjl,sbF_parts] at hd;have G:=fun (W:World) (hb:Below w.heap.size w W)=>HG.out W hb L[j] (List.getElem_mem hjl);generalize Sn.fmS (-2) L[j].2.int=S at G hd;generalize L[j].2.from_=y0 at q0 hd;generalize L[j].1.A=y1 at q1 G;generalize L[j].2.int.length=y2 at q1 G hd;generalize L[j].1.c=y3 at q1 G;generalize L[j].2.ses=y4 at q2 hd;generalize L[j].2.seq=y5 at q3 hd;generalize L[j].2.live=y6 at q4 hd;generalize L[j].2.heard=y7 at q5 hd;generalize L[j].2.idle=y8 at q6 hd;have G:=Hz_ G;have HDD:=Hz_ hd;have HKR:=Hz_ k;have hal:Below wr.heap.size wr (wr.alloc (.cells #[.int .i64 y0,.slice y1 y2 y3,.int .i64 y4,.int .i64 y5,.bool y6,.bool y7,.bool y8] 65)):=Zr.alloc Zl _;have kw:=btn k hal;have HX:=Hz_ (Blk.new wr 65 #[.int .i64 y0,.slice y1 y2 y3,.int .i64 y4,.int .i64 y5,.bool y6,.bool y7,.bool y8]);clear hr hd hbb hjs hjl k hal;by_cases e0:last < y0;rotate_left
   ·have d0:decide (y0<=last)=true:=by simp;omega
    have HN:=Hz_ (show restF (sbs L)=false by rw[HRF.out,HDD.out];simp[e0]);go_wp2_with (go_at_call 41;go_must (refine(G.out _ kw).mono ?_);rintro e w' ⟨rfl,hb'⟩;have kw:=btn kw hb';obtain⟨x0,x1,x2,x3,x4,x5,x6⟩:=(HX.out.go hb').seven;clear hb');go_ret;exact⟨by rw[HN.out]<;>rfl,kw⟩
   have d0:decide (y0<=last)=false:=by simp;omega
   by_cases e1:y0<=63;rotate_left
   ·have d1:decide (y0 ≥ 64)=true:=by simp;omega
    have HN:=Hz_ (show restF (sbs L)=false by rw[HRF.out,HDD.out];simp[e1]);go_wp2_with (go_at_call 41;go_must (refine(G.out _ kw).mono ?_);rintro e w' ⟨rfl,hb'⟩;have kw:=btn kw hb';obtain⟨x0,x1,x2,x3,x4,x5,x6⟩:=(HX.out.go hb').seven;clear hb');go_ret;exact⟨by rw[HN.out]<;>rfl,kw⟩
   have d1:decide (y0 ≥ 64)=false:=by simp;omega
   by_cases e2:y2=0
   ·subst e2;have HN:=Hz_ (show restF (sbs L)=false by rw[HRF.out,HDD.out];simp[]);go_wp2_with (go_at_call 41;go_must (refine(G.out _ kw).mono ?_);rintro e w' ⟨rfl,hb'⟩;have kw:=btn kw hb';obtain⟨x0,x1,x2,x3,x4,x5,x6⟩:=(HX.out.go hb').seven;clear hb');go_ret;exact⟨by rw[HN.out]<;>rfl,kw⟩
   have d2:¬ ((y2:Nat):Int)=0:=by omega
   cases S
   ·skip;have HN:=Hz_ (show restF (sbs L)=false by rw[HRF.out,HDD.out];simp[]);go_wp2_with (go_at_call 41;go_must (refine(G.out _ kw).mono ?_);rintro e w' ⟨rfl,hb'⟩;have kw:=btn kw hb';obtain⟨x0,x1,x2,x3,x4,x5,x6⟩:=(HX.out.go hb').seven;clear hb');go_ret;exact⟨by rw[HN.out]<;>rfl,kw⟩
   by_cases e4:y4=0;rotate_left
   ·skip;have HN:=Hz_ (show restF (sbs L)=false by rw[HRF.out,HDD.out];simp[e4]);go_wp2_with (go_at_call 41;go_must (refine(G.out _ kw).mono ?_);rintro e w' ⟨rfl,hb'⟩;have kw:=btn kw hb';obtain⟨x0,x1,x2,x3,x4,x5,x6⟩:=(HX.out.go hb').seven;clear hb');go_ret;exact⟨by rw[HN.out]<;>rfl,kw⟩
   subst e4;by_cases e5:y5=0;rotate_left
   ·skip;have HN:=Hz_ (show restF (sbs L)=false by rw[HRF.out,HDD.out];simp[e5]);go_wp2_with (go_at_call 41;go_must (refine(G.out _ kw).mono ?_);rintro e w' ⟨rfl,hb'⟩;have kw:=btn kw hb';obtain⟨x0,x1,x2,x3,x4,x5,x6⟩:=(HX.out.go hb').seven;clear hb');go_ret;exact⟨by rw[HN.out]<;>rfl,kw⟩
   subst e5;cases y6;rotate_left
   ·skip;have HN:=Hz_ (show restF (sbs L)=false by rw[HRF.out,HDD.out];simp[]);go_wp2_with (go_at_call 41;go_must (refine(G.out _ kw).mono ?_);rintro e w' ⟨rfl,hb'⟩;have kw:=btn kw hb';obtain⟨x0,x1,x2,x3,x4,x5,x6⟩:=(HX.out.go hb').seven;clear hb');go_ret;exact⟨by rw[HN.out]<;>rfl,kw⟩
   cases y7;rotate_left
   ·skip;have HN:=Hz_ (show restF (sbs L)=false by rw[HRF.out,HDD.out];simp[]);go_wp2_with (go_at_call 41;go_must (refine(G.out _ kw).mono ?_);rintro e w' ⟨rfl,hb'⟩;have kw:=btn kw hb';obtain⟨x0,x1,x2,x3,x4,x5,x6⟩:=(HX.out.go hb').seven;clear hb');go_ret;exact⟨by rw[HN.out]<;>rfl,kw⟩
   cases y8;rotate_left
   ·skip;have HN:=Hz_ (show restF (sbs L)=false by rw[HRF.out,HDD.out];simp[]);go_wp2_with (go_at_call 41;go_must (refine(G.out _ kw).mono ?_);rintro e w' ⟨rfl,hb'⟩;have kw:=btn kw hb';obtain⟨x0,x1,x2,x3,x4,x5,x6⟩:=(HX.out.go hb').seven;clear hb');go_ret;exact⟨by rw[HN.out]<;>rfl,kw⟩
   have HN:=Hz_ (show rstF (-1) (sbs L)=rstF y0 ((sbs L).drop (j+1)) by rw[HDD.out];simp[e0,e1,e2]);go_wp2_with (go_at_call 41;go_must (refine(G.out _ kw).mono ?_);rintro e w' ⟨rfl,hb'⟩;have kw:=btn kw hb';obtain⟨x0,x1,x2,x3,x4,x5,x6⟩:=(HX.out.go hb').seven;clear hb');go_roundw
   case rel=>exact⟨j+1,y0,by omega,by go_num,rfl,kw,HN⟩
   case measure=>simp[intOf];omega
  ·obtain rfl:n=j:=by omega
   have HN:=Hz_ (show restF (sbs L)=decide (n<=16) by rw[HRF.out,hr.out,List.drop_of_length_le (by rw[HLE.out];exact Nat.le_refl _),HLE.out];rfl);clear hr;by_cases h16:n<=16
   ·have d:decide ((n:Int)<=16)=true:=by simp;omega
    go_wp2;go_ret;exact⟨by rw[HN.out,decide_eq_true h16]<;>rfl,k⟩
   ·have d:decide ((n:Int)<=16)=false:=by simp;omega
    go_wp2;go_ret;exact⟨by rw[HN.out,decide_eq_false h16]<;>rfl,k⟩
theorem ref14Rest_any (A:Option Addr) (n c:Nat) (L:List (SV×Sb)) (w:World) (hR:RdSb w w.heap.size A n c L):
  Calls Tryz.prog 25 #[.slice A n c] w fun e w'=>e=.returned (.bool (restF (sbs L)))/\Below w.heap.size w w':=by
 have hmax:=hR.max;have HL:=Hz_ hR.len;have HB1:=Hz_ fun (W:World) (hb:Below w.heap.size w W) k (hk:k < L.length)=>(hR.below hb).sub hk;have HG:=Hz_ fun (W:World) (hb:Below w.heap.size w W) p (hp:p∈L)=>refFormedS_any p.1.A p.2.int.length p.1.c p.2.int W rfl ((hR.each p hp).go hb);have HD:=Hz_ fun last k h=>rstF_drop last (sbs L) k h;have HLE:=Hz_ (show (sbs L).length=n by rw[sbs_len];exact hR.len);have HRF:=Hz_ (show restF (sbs L)=(rstF (-1) (sbs L) && decide ((sbs L).length<=16)) from rfl);clear hR;by_cases h16:n<=16;rotate_left
 ·have HN:=Hz_ (show restF (sbs L)=false by rw[HRF.out,HLE.out,decide_eq_false h16,Bool.and_false]);have d:decide ((n:Int) > 16)=true:=by simp;omega
  go_enter Tryz.func25,Tryz.ntmps25;go_wp2;go_ret;exact⟨by rw[HN.out]<;>rfl,Below.refl _ _⟩
 have HR16:=Hz_ (show restF (sbs L)=rstF (-1) (sbs L) by rw[HRF.out,HLE.out,decide_eq_true h16,Bool.and_true]);have d:decide ((n:Int) > 16)=false:=by simp;omega
 go_enter Tryz.func25,Tryz.ntmps25;go_wp2;clear d;go_loopw [3] (fun i wr=>∃(j:Nat),j<=n/\i=.int .i64 j/\Below w.heap.size w wr/\Hid (-1<=aheadS (sbs L) j)/\Hid (rstF (-1) (sbs L)=rstF (aheadS (sbs L) j) ((sbs L).drop j))) (fun i _=>n - (intOf i).toNat)
 case atStart=>exact⟨0,by omega,rfl,Below.refl _ _,(by rw[aheadS_zero];exact Int.le_refl _),(by rw[aheadS_zero];rfl)⟩
 case round=>
  obtain⟨j,hj,rfl,k,hl1,hr⟩:=hrel;by_cases hlt:j < n
  ·skip;have hjl:j < L.length:=by rw[HL.out];exact hlt
   obtain⟨b,o,rfl,hbb,q0,q1,q2,q3,q4,q5,q6⟩:=HB1.out wr k j hjl;have hjs:j < (sbs L).length:=by rw[sbs_len];exact hjl
   have hd:=hr.out.trans (HD.out _ j hjs);have hnx:=aheadS_next (sbs L) j hjs;rw[sbs_at L j hjl,sbF_parts] at hd;rw[sbs_at L j hjl] at hnx;have G:=fun (W:World) (hb:Below w.heap.size w W)=>HG.out W hb L[j] (List.getElem_mem hjl);generalize Sn.fmS (-2) L[j].2.int=S at G hd;generalize L[j].2.from_=y0 at q0 hd hnx;generalize L[j].1.A=y1 at q1 G;generalize L[j].2.int.length=y2 at q1 G hd;generalize L[j].1.c=y3 at q1 G;generalize L[j].2.ses=y4 at q2 hd;generalize L[j].2.seq=y5 at q3 hd;generalize L[j].2.live=y6 at q4 hd;generalize L[j].2.heard=y7 at q5 hd;generalize L[j].2.idle=y8 at q6 hd;have G:=Hz_ G;have HDD:=Hz_ hd;have HNX:=Hz_ hnx;have HKR:=Hz_ k;have hal:Below wr.heap.size wr (wr.alloc (.cells #[.int .i64 y0,.slice y1 y2 y3,.int .i64 y4,.int .i64 y5,.bool y6,.bool y7,.bool y8] 65)):=Zr.alloc Zl _;have hX:=Blk.new wr 65 #[.int .i64 y0,.slice y1 y2 y3,.int .i64 y4,.int .i64 y5,.bool y6,.bool y7,.bool y8];obtain⟨W1,hW1⟩:∃W1,W1=wr.alloc (.cells #[.int .i64 y0,.slice y1 y2 y3,.int .i64 y4,.int .i64 y5,.bool y6,.bool y7,.bool y8] 65):=⟨_,rfl⟩;rw[<-hW1] at hal hX;have HW1:=Hz_ hW1.symm;have HX:=Hz_ fun (W:World) (hb:Below W1.heap.size W1 W)=>(hX.go hb).seven;have kw:Below w.heap.size w W1:=btn k hal;have HAL:=Hz_ hal;have HP:=Hz_ fun (W:World) (hb:Below W1.heap.size W1 W) i (hi:i < L.length)=>held_at (HB1.out W (btn kw hb) i hi);have HJL:=Hz_ hjl;clear hr hd hnx hbb hjs hjl k hal hX hW1;have x0:=fun p:Bw W1=>(HX.out p.W p.h).1;have x1:=fun p:Bw W1=>(HX.out p.W p.h).2.1;have x2:=fun p:Bw W1=>(HX.out p.W p.h).2.2.1;have x3:=fun p:Bw W1=>(HX.out p.W p.h).2.2.2.1;have x4:=fun p:Bw W1=>(HX.out p.W p.h).2.2.2.2.1;have x5:=fun p:Bw W1=>(HX.out p.W p.h).2.2.2.2.2.1;have x6:=fun p:Bw W1=>(HX.out p.W p.h).2.2.2.2.2.2;have G:=Hz_ fun p:Bw W1=>G.out p.W (btn kw p.h);have z0:=(HX.out W1 Zr).1;go_wp2;rw[HW1.out];clear z0;refine wp_region_bw (by kernel_rfl) (by kernel_rfl) ?_
   iterate 2 (refine bw_run (by kernel_rfl) (fun K hK=>?_);go_simp;first | (refine hK _ ?_;clear hK K) | (apply Exists.intro;refine⟨fun _=>?_,hK _ ?_⟩;exact bw_of (G.out _);clear hK K))
   by_cases e0:y0 < 0
   ·have d0:decide (y0 < 0)=true:=by simpa using e0
    have HAH:=Hz_ (show aheadS (sbs L) j=aheadS (sbs L) j from rfl);have hll:=hl1.out;have e0q:¬ aheadS (sbs L) j < y0:=by omega
    have HE0:=Hz_ e0q;clear hll e0q;have HN:=Hz_ (show rstF (-1) (sbs L)=false by rw[HDD.out,HAH.out];simp[HE0.out])
    repeat first | (refine bw_skip (by exact rfl) ?_;simp only[Act.put,List.setIfInBounds_toArray,List.set_cons_zero,List.set_cons_succ]) | (refine bw_run (by kernel_rfl) (fun K hK=>?_);go_simp;first | (refine hK _ ?_;clear hK K) | (apply Exists.intro;refine⟨fun _=>?_,hK _ ?_⟩;exact bw_of (G.out _);clear hK K))
    refine bw_nil ?_;intro _ hw2;obtain⟨p,hw3⟩:=hw2;subst hw3;have kw:=btn kw p.h;go_wp2;go_ret;exact⟨by rw[HR16.out,HN.out]<;>rfl,kw⟩
   have d0:decide (y0 < 0)=false:=by simpa using e0
   have e0p:(-1:Int) < y0:=by omega
   iterate 4 (refine bw_run (by kernel_rfl) (fun K hK=>?_);go_simp;first | (refine hK _ ?_;clear hK K) | (apply Exists.intro;refine⟨fun _=>?_,hK _ ?_⟩;exact bw_of (G.out _);clear hK K))
   by_cases e1:y0<=63;rotate_left
   ·have d1:decide (y0 > 63)=true:=by simp;omega
    have HAH:=Hz_ (show aheadS (sbs L) j=aheadS (sbs L) j from rfl);have HN:=Hz_ (show rstF (-1) (sbs L)=false by rw[HDD.out,HAH.out];simp[e1])
    repeat first | (refine bw_skip (by exact rfl) ?_;simp only[Act.put,List.setIfInBounds_toArray,List.set_cons_zero,List.set_cons_succ]) | (refine bw_run (by kernel_rfl) (fun K hK=>?_);go_simp;first | (refine hK _ ?_;clear hK K) | (apply Exists.intro;refine⟨fun _=>?_,hK _ ?_⟩;exact bw_of (G.out _);clear hK K))
    refine bw_nil ?_;intro _ hw2;obtain⟨p,hw3⟩:=hw2;subst hw3;have kw:=btn kw p.h;go_wp2;go_ret;exact⟨by rw[HR16.out,HN.out]<;>rfl,kw⟩
   have d1:decide (y0 > 63)=false:=by simp;omega
   iterate 4 (refine bw_run (by kernel_rfl) (fun K hK=>?_);go_simp;first | (refine hK _ ?_;clear hK K) | (apply Exists.intro;refine⟨fun _=>?_,hK _ ?_⟩;exact bw_of (G.out _);clear hK K))
   by_cases hj0:j=0
   ·have HAH:=Hz_ (show aheadS (sbs L) j=-1 by rw[hj0];exact aheadS_zero _);have dj:decide (0 < j)=false:=by simp;omega
    clear hj0
    iterate 2 (refine bw_run (by kernel_rfl) (fun K hK=>?_);go_simp;first | (refine hK _ ?_;clear hK K) | (apply Exists.intro;refine⟨fun _=>?_,hK _ ?_⟩;exact bw_of (G.out _);clear hK K))
    iterate 9 (refine bw_skip (by kernel_rfl) ?_;simp only[Act.put,List.setIfInBounds_toArray,List.set_cons_zero,List.set_cons_succ])
    iterate 6 (refine bw_run (by kernel_rfl) (fun K hK=>?_);go_simp;first | (refine hK _ ?_;clear hK K) | (apply Exists.intro;refine⟨fun _=>?_,hK _ ?_⟩;exact bw_of (G.out _);clear hK K))
    by_cases e2:y2=0
    ·subst e2;have HN:=Hz_ (show rstF (-1) (sbs L)=false by rw[HDD.out,HAH.out];simp[])
     repeat first | (refine bw_skip (by exact rfl) ?_;simp only[Act.put,List.setIfInBounds_toArray,List.set_cons_zero,List.set_cons_succ]) | (refine bw_run (by kernel_rfl) (fun K hK=>?_);go_simp;first | (refine hK _ ?_;clear hK K) | (apply Exists.intro;refine⟨fun _=>?_,hK _ ?_⟩;exact bw_of (G.out _);clear hK K))
     refine bw_nil ?_;intro _ hw2;obtain⟨p,hw3⟩:=hw2;subst hw3;have kw:=btn kw p.h;go_wp2;go_ret;exact⟨by rw[HR16.out,HN.out]<;>rfl,kw⟩
    have d2:¬ ((y2:Nat):Int)=0:=by omega
    have d2b:(((y2:Nat):Int) == 0)=false:=by simpa using e2
    iterate 5 (refine bw_run (by kernel_rfl) (fun K hK=>?_);go_simp;first | (refine hK _ ?_;clear hK K) | (apply Exists.intro;refine⟨fun _=>?_,hK _ ?_⟩;exact bw_of (G.out _);clear hK K))
    cases S
    ·skip;have HN:=Hz_ (show rstF (-1) (sbs L)=false by rw[HDD.out,HAH.out];simp[])
     repeat first | (refine bw_skip (by exact rfl) ?_;simp only[Act.put,List.setIfInBounds_toArray,List.set_cons_zero,List.set_cons_succ]) | (refine bw_run (by kernel_rfl) (fun K hK=>?_);go_simp;first | (refine hK _ ?_;clear hK K) | (apply Exists.intro;refine⟨fun _=>?_,hK _ ?_⟩;exact bw_of (G.out _);clear hK K))
     refine bw_nil ?_;intro _ hw2;obtain⟨p,hw3⟩:=hw2;subst hw3;have kw:=btn kw p.h;go_wp2;go_ret;exact⟨by rw[HR16.out,HN.out]<;>rfl,kw⟩
    iterate 6 (refine bw_run (by kernel_rfl) (fun K hK=>?_);go_simp;first | (refine hK _ ?_;clear hK K) | (apply Exists.intro;refine⟨fun _=>?_,hK _ ?_⟩;exact bw_of (G.out _);clear hK K))
    by_cases e4:y4=0;rotate_left
    ·have e4b:(y4 != 0)=true:=by simpa using e4
     have HN:=Hz_ (show rstF (-1) (sbs L)=false by rw[HDD.out,HAH.out];simp[e4])
     repeat first | (refine bw_skip (by exact rfl) ?_;simp only[Act.put,List.setIfInBounds_toArray,List.set_cons_zero,List.set_cons_succ]) | (refine bw_run (by kernel_rfl) (fun K hK=>?_);go_simp;first | (refine hK _ ?_;clear hK K) | (apply Exists.intro;refine⟨fun _=>?_,hK _ ?_⟩;exact bw_of (G.out _);clear hK K))
     refine bw_nil ?_;intro _ hw2;obtain⟨p,hw3⟩:=hw2;subst hw3;have kw:=btn kw p.h;go_wp2;go_ret;exact⟨by rw[HR16.out,HN.out]<;>rfl,kw⟩
    subst e4
    iterate 5 (refine bw_run (by kernel_rfl) (fun K hK=>?_);go_simp;first | (refine hK _ ?_;clear hK K) | (apply Exists.intro;refine⟨fun _=>?_,hK _ ?_⟩;exact bw_of (G.out _);clear hK K))
    by_cases e5:y5=0;rotate_left
    ·have e5b:(y5 != 0)=true:=by simpa using e5
     have HN:=Hz_ (show rstF (-1) (sbs L)=false by rw[HDD.out,HAH.out];simp[e5])
     repeat first | (refine bw_skip (by exact rfl) ?_;simp only[Act.put,List.setIfInBounds_toArray,List.set_cons_zero,List.set_cons_succ]) | (refine bw_run (by kernel_rfl) (fun K hK=>?_);go_simp;first | (refine hK _ ?_;clear hK K) | (apply Exists.intro;refine⟨fun _=>?_,hK _ ?_⟩;exact bw_of (G.out _);clear hK K))
     refine bw_nil ?_;intro _ hw2;obtain⟨p,hw3⟩:=hw2;subst hw3;have kw:=btn kw p.h;go_wp2;go_ret;exact⟨by rw[HR16.out,HN.out]<;>rfl,kw⟩
    subst e5
    iterate 4 (refine bw_run (by kernel_rfl) (fun K hK=>?_);go_simp;first | (refine hK _ ?_;clear hK K) | (apply Exists.intro;refine⟨fun _=>?_,hK _ ?_⟩;exact bw_of (G.out _);clear hK K))
    cases y6;rotate_left
    ·skip;have HN:=Hz_ (show rstF (-1) (sbs L)=false by rw[HDD.out,HAH.out];simp[])
     repeat first | (refine bw_skip (by exact rfl) ?_;simp only[Act.put,List.setIfInBounds_toArray,List.set_cons_zero,List.set_cons_succ]) | (refine bw_run (by kernel_rfl) (fun K hK=>?_);go_simp;first | (refine hK _ ?_;clear hK K) | (apply Exists.intro;refine⟨fun _=>?_,hK _ ?_⟩;exact bw_of (G.out _);clear hK K))
     refine bw_nil ?_;intro _ hw2;obtain⟨p,hw3⟩:=hw2;subst hw3;have kw:=btn kw p.h;go_wp2;go_ret;exact⟨by rw[HR16.out,HN.out]<;>rfl,kw⟩
    iterate 4 (refine bw_run (by kernel_rfl) (fun K hK=>?_);go_simp;first | (refine hK _ ?_;clear hK K) | (apply Exists.intro;refine⟨fun _=>?_,hK _ ?_⟩;exact bw_of (G.out _);clear hK K))
    cases y7;rotate_left
    ·skip;have HN:=Hz_ (show rstF (-1) (sbs L)=false by rw[HDD.out,HAH.out];simp[])
     repeat first | (refine bw_skip (by exact rfl) ?_;simp only[Act.put,List.setIfInBounds_toArray,List.set_cons_zero,List.set_cons_succ]) | (refine bw_run (by kernel_rfl) (fun K hK=>?_);go_simp;first | (refine hK _ ?_;clear hK K) | (apply Exists.intro;refine⟨fun _=>?_,hK _ ?_⟩;exact bw_of (G.out _);clear hK K))
     refine bw_nil ?_;intro _ hw2;obtain⟨p,hw3⟩:=hw2;subst hw3;have kw:=btn kw p.h;go_wp2;go_ret;exact⟨by rw[HR16.out,HN.out]<;>rfl,kw⟩
    iterate 4 (refine bw_run (by kernel_rfl) (fun K hK=>?_);go_simp;first | (refine hK _ ?_;clear hK K) | (apply Exists.intro;refine⟨fun _=>?_,hK _ ?_⟩;exact bw_of (G.out _);clear hK K))
    cases y8;rotate_left
    ·skip;have HN:=Hz_ (show rstF (-1) (sbs L)=false by rw[HDD.out,HAH.out];simp[])
     iterate 2 (refine bw_run (by kernel_rfl) (fun K hK=>?_);go_simp;first | (refine hK _ ?_;clear hK K) | (apply Exists.intro;refine⟨fun _=>?_,hK _ ?_⟩;exact bw_of (G.out _);clear hK K))
     refine bw_nil ?_;intro _ hw2;obtain⟨p,hw3⟩:=hw2;subst hw3;have kw:=btn kw p.h;go_wp2;go_ret;exact⟨by rw[HR16.out,HN.out]<;>rfl,kw⟩
    have HN:=Hz_ (show rstF (-1) (sbs L)=rstF y0 ((sbs L).drop (j+1)) by rw[HDD.out,HAH.out];simp[e0p,e1,e2])
    iterate 2 (refine bw_run (by kernel_rfl) (fun K hK=>?_);go_simp;first | (refine hK _ ?_;clear hK K) | (apply Exists.intro;refine⟨fun _=>?_,hK _ ?_⟩;exact bw_of (G.out _);clear hK K))
    refine bw_nil ?_;intro _ hw2;obtain⟨p,hw3⟩:=hw2;subst hw3;have kw:=btn kw p.h;go_wp2;go_roundw
    case rel=>exact⟨j+1,by omega,by go_num,kw,by show _<=_;rw[HNX.out];omega,by show _=_;rw[HN.out,HNX.out]⟩
    case measure=>simp[intOf];omega
   ·obtain⟨i,hji⟩:∃i,j=i+1:=⟨j - 1,by omega⟩;have hil:i < L.length:=by have:=HJL.out;omega
    have HAH:=Hz_ (show aheadS (sbs L) j=L[i].2.from_ by subst hji;rw[aheadS_next (sbs L) i (by rw[sbs_len];exact hil),sbs_at L i hil]);have xp:=fun p:Bw W1=>(HP.out p.W p.h i hil).1;generalize L[i].2.from_=pv at xp HAH;have dj:decide (0 < j)=true:=by simp;omega
    have e9:((j:Int) - 1)=(i:Int):=by omega
    have e8:IntKind.i64.wrap (i:Int)=(i:Int):=IntWalk.i64_in _ (by omega);have hi4:(0:Int)<=(i:Int)/\(i:Int) < (n:Int):=by omega
    clear hji hj0 hil
    iterate 10 (refine bw_run (by kernel_rfl) (fun K hK=>?_);go_simp;first | (refine hK _ ?_;clear hK K) | (apply Exists.intro;refine⟨fun _=>?_,hK _ ?_⟩;exact bw_of (G.out _);clear hK K))
    by_cases e3:pv < y0;rotate_left
    ·have d3:decide (pv ≥ y0)=true:=by simp;omega
     have HN:=Hz_ (show rstF (-1) (sbs L)=false by rw[HDD.out,HAH.out];simp[e3])
     repeat first | (refine bw_skip (by exact rfl) ?_;simp only[Act.put,List.setIfInBounds_toArray,List.set_cons_zero,List.set_cons_succ]) | (refine bw_run (by kernel_rfl) (fun K hK=>?_);go_simp;first | (refine hK _ ?_;clear hK K) | (apply Exists.intro;refine⟨fun _=>?_,hK _ ?_⟩;exact bw_of (G.out _);clear hK K))
     refine bw_nil ?_;intro _ hw2;obtain⟨p,hw3⟩:=hw2;subst hw3;have kw:=btn kw p.h;go_wp2;go_ret;exact⟨by rw[HR16.out,HN.out]<;>rfl,kw⟩
    have d3:decide (pv ≥ y0)=false:=by simp;omega
    iterate 7 (refine bw_run (by kernel_rfl) (fun K hK=>?_);go_simp;first | (refine hK _ ?_;clear hK K) | (apply Exists.intro;refine⟨fun _=>?_,hK _ ?_⟩;exact bw_of (G.out _);clear hK K))
    by_cases e2:y2=0
    ·subst e2;have HN:=Hz_ (show rstF (-1) (sbs L)=false by rw[HDD.out,HAH.out];simp[])
     repeat first | (refine bw_skip (by exact rfl) ?_;simp only[Act.put,List.setIfInBounds_toArray,List.set_cons_zero,List.set_cons_succ]) | (refine bw_run (by kernel_rfl) (fun K hK=>?_);go_simp;first | (refine hK _ ?_;clear hK K) | (apply Exists.intro;refine⟨fun _=>?_,hK _ ?_⟩;exact bw_of (G.out _);clear hK K))
     refine bw_nil ?_;intro _ hw2;obtain⟨p,hw3⟩:=hw2;subst hw3;have kw:=btn kw p.h;go_wp2;go_ret;exact⟨by rw[HR16.out,HN.out]<;>rfl,kw⟩
    have d2:¬ ((y2:Nat):Int)=0:=by omega
    have d2b:(((y2:Nat):Int) == 0)=false:=by simpa using e2
    iterate 5 (refine bw_run (by kernel_rfl) (fun K hK=>?_);go_simp;first | (refine hK _ ?_;clear hK K) | (apply Exists.intro;refine⟨fun _=>?_,hK _ ?_⟩;exact bw_of (G.out _);clear hK K))
    cases S
    ·skip;have HN:=Hz_ (show rstF (-1) (sbs L)=false by rw[HDD.out,HAH.out];simp[])
     repeat first | (refine bw_skip (by exact rfl) ?_;simp only[Act.put,List.setIfInBounds_toArray,List.set_cons_zero,List.set_cons_succ]) | (refine bw_run (by kernel_rfl) (fun K hK=>?_);go_simp;first | (refine hK _ ?_;clear hK K) | (apply Exists.intro;refine⟨fun _=>?_,hK _ ?_⟩;exact bw_of (G.out _);clear hK K))
     refine bw_nil ?_;intro _ hw2;obtain⟨p,hw3⟩:=hw2;subst hw3;have kw:=btn kw p.h;go_wp2;go_ret;exact⟨by rw[HR16.out,HN.out]<;>rfl,kw⟩
    iterate 6 (refine bw_run (by kernel_rfl) (fun K hK=>?_);go_simp;first | (refine hK _ ?_;clear hK K) | (apply Exists.intro;refine⟨fun _=>?_,hK _ ?_⟩;exact bw_of (G.out _);clear hK K))
    by_cases e4:y4=0;rotate_left
    ·have e4b:(y4 != 0)=true:=by simpa using e4
     have HN:=Hz_ (show rstF (-1) (sbs L)=false by rw[HDD.out,HAH.out];simp[e4])
     repeat first | (refine bw_skip (by exact rfl) ?_;simp only[Act.put,List.setIfInBounds_toArray,List.set_cons_zero,List.set_cons_succ]) | (refine bw_run (by kernel_rfl) (fun K hK=>?_);go_simp;first | (refine hK _ ?_;clear hK K) | (apply Exists.intro;refine⟨fun _=>?_,hK _ ?_⟩;exact bw_of (G.out _);clear hK K))
     refine bw_nil ?_;intro _ hw2;obtain⟨p,hw3⟩:=hw2;subst hw3;have kw:=btn kw p.h;go_wp2;go_ret;exact⟨by rw[HR16.out,HN.out]<;>rfl,kw⟩
    subst e4
    iterate 5 (refine bw_run (by kernel_rfl) (fun K hK=>?_);go_simp;first | (refine hK _ ?_;clear hK K) | (apply Exists.intro;refine⟨fun _=>?_,hK _ ?_⟩;exact bw_of (G.out _);clear hK K))
    by_cases e5:y5=0;rotate_left
    ·have e5b:(y5 != 0)=true:=by simpa using e5
     have HN:=Hz_ (show rstF (-1) (sbs L)=false by rw[HDD.out,HAH.out];simp[e5])
     repeat first | (refine bw_skip (by exact rfl) ?_;simp only[Act.put,List.setIfInBounds_toArray,List.set_cons_zero,List.set_cons_succ]) | (refine bw_run (by kernel_rfl) (fun K hK=>?_);go_simp;first | (refine hK _ ?_;clear hK K) | (apply Exists.intro;refine⟨fun _=>?_,hK _ ?_⟩;exact bw_of (G.out _);clear hK K))
     refine bw_nil ?_;intro _ hw2;obtain⟨p,hw3⟩:=hw2;subst hw3;have kw:=btn kw p.h;go_wp2;go_ret;exact⟨by rw[HR16.out,HN.out]<;>rfl,kw⟩
    subst e5
    iterate 4 (refine bw_run (by kernel_rfl) (fun K hK=>?_);go_simp;first | (refine hK _ ?_;clear hK K) | (apply Exists.intro;refine⟨fun _=>?_,hK _ ?_⟩;exact bw_of (G.out _);clear hK K))
    cases y6;rotate_left
    ·skip;have HN:=Hz_ (show rstF (-1) (sbs L)=false by rw[HDD.out,HAH.out];simp[])
     repeat first | (refine bw_skip (by exact rfl) ?_;simp only[Act.put,List.setIfInBounds_toArray,List.set_cons_zero,List.set_cons_succ]) | (refine bw_run (by kernel_rfl) (fun K hK=>?_);go_simp;first | (refine hK _ ?_;clear hK K) | (apply Exists.intro;refine⟨fun _=>?_,hK _ ?_⟩;exact bw_of (G.out _);clear hK K))
     refine bw_nil ?_;intro _ hw2;obtain⟨p,hw3⟩:=hw2;subst hw3;have kw:=btn kw p.h;go_wp2;go_ret;exact⟨by rw[HR16.out,HN.out]<;>rfl,kw⟩
    iterate 4 (refine bw_run (by kernel_rfl) (fun K hK=>?_);go_simp;first | (refine hK _ ?_;clear hK K) | (apply Exists.intro;refine⟨fun _=>?_,hK _ ?_⟩;exact bw_of (G.out _);clear hK K))
    cases y7;rotate_left
    ·skip;have HN:=Hz_ (show rstF (-1) (sbs L)=false by rw[HDD.out,HAH.out];simp[])
     repeat first | (refine bw_skip (by exact rfl) ?_;simp only[Act.put,List.setIfInBounds_toArray,List.set_cons_zero,List.set_cons_succ]) | (refine bw_run (by kernel_rfl) (fun K hK=>?_);go_simp;first | (refine hK _ ?_;clear hK K) | (apply Exists.intro;refine⟨fun _=>?_,hK _ ?_⟩;exact bw_of (G.out _);clear hK K))
     refine bw_nil ?_;intro _ hw2;obtain⟨p,hw3⟩:=hw2;subst hw3;have kw:=btn kw p.h;go_wp2;go_ret;exact⟨by rw[HR16.out,HN.out]<;>rfl,kw⟩
    iterate 4 (refine bw_run (by kernel_rfl) (fun K hK=>?_);go_simp;first | (refine hK _ ?_;clear hK K) | (apply Exists.intro;refine⟨fun _=>?_,hK _ ?_⟩;exact bw_of (G.out _);clear hK K))
    cases y8;rotate_left
    ·skip;have HN:=Hz_ (show rstF (-1) (sbs L)=false by rw[HDD.out,HAH.out];simp[])
     iterate 2 (refine bw_run (by kernel_rfl) (fun K hK=>?_);go_simp;first | (refine hK _ ?_;clear hK K) | (apply Exists.intro;refine⟨fun _=>?_,hK _ ?_⟩;exact bw_of (G.out _);clear hK K))
     refine bw_nil ?_;intro _ hw2;obtain⟨p,hw3⟩:=hw2;subst hw3;have kw:=btn kw p.h;go_wp2;go_ret;exact⟨by rw[HR16.out,HN.out]<;>rfl,kw⟩
    have HN:=Hz_ (show rstF (-1) (sbs L)=rstF y0 ((sbs L).drop (j+1)) by rw[HDD.out,HAH.out];simp[e3,e1,e2])
    iterate 2 (refine bw_run (by kernel_rfl) (fun K hK=>?_);go_simp;first | (refine hK _ ?_;clear hK K) | (apply Exists.intro;refine⟨fun _=>?_,hK _ ?_⟩;exact bw_of (G.out _);clear hK K))
    refine bw_nil ?_;intro _ hw2;obtain⟨p,hw3⟩:=hw2;subst hw3;have kw:=btn kw p.h;go_wp2;go_roundw
    case rel=>exact⟨j+1,by omega,by go_num,kw,by show _<=_;rw[HNX.out];omega,by show _=_;rw[HN.out,HNX.out]⟩
    case measure=>simp[intOf];omega
  ·obtain rfl:n=j:=by omega
   have HN:=Hz_ (show rstF (-1) (sbs L)=true by rw[hr.out,List.drop_of_length_le (by rw[HLE.out];exact Nat.le_refl _)];rfl);clear hr;go_wp2;go_ret;exact⟨by rw[HR16.out,HN.out]<;>rfl,k⟩
end Go.Proofs.YtmbeahbgafkjfaaGreatDoor
