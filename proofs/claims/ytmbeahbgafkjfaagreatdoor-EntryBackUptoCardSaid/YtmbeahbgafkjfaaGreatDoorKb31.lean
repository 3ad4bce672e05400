/- Lemmas for the claim, layer 31. -/
import Derived.Test.YtmbeahbgafkjfaaGreatDoorKb30
set_option maxRecDepth 100000
set_option maxHeartbeats 16000000
namespace Go.Proofs.YtmbeahbgafkjfaaGreatDoor
open Go.RowKit
theorem sbF_parts (last:Int) (s:Sb):sbF last s=((decide (last < s.from_) && decide (s.from_≤63)) && ((!decide (s.int.length=0) && Sn.fmS (-2) s.int) && ((decide (s.ses=0) && decide (s.seq=0)) && (!s.live && (!s.heard && !s.idle))))):=by
 unfold sbF sbZ
 congr 2
 rw[show s.int.isEmpty=decide (s.int.length=0) by cases s.int<;>simp]
theorem entRest_any (A:Option Addr) (n c:Nat) (L:List (SV×Sb)) (w:World) (hR:RdSb w w.heap.size A n c L):
  Calls Tryz.prog 42 #[.slice A n c] w fun e w'=>e=.returned (.bool (restF (sbs L)))∧Below w.heap.size w w':=by
 have hmax:=hR.max
 have HL:=Hz_ hR.len
 have HB1:=Hz_ fun (W:World) (hb:Below w.heap.size w W) k (hk:k < L.length)=>(hR.below hb).sub hk
 have HG:=Hz_ fun (W:World) (hb:Below w.heap.size w W) p (hp:p∈L)=>formedS_any p.1.A p.2.int.length p.1.c p.2.int W rfl ((hR.each p hp).go hb)
 have HD:=Hz_ fun last k h=>rstF_drop last (sbs L) k h
 have HLE:=Hz_ (show (sbs L).length=n by rw[sbs_len];exact hR.len)
 have HRF:=Hz_ (show restF (sbs L)=(rstF (-1) (sbs L) && decide ((sbs L).length≤16)) from rfl)
 clear hR
 go_enter Tryz.func42,Tryz.ntmps42
 go_wp2
 go_loopw [3,8] (fun a i wr=>∃(j:Nat) (last:Int),j≤n∧i=.int .i64 j∧a=.int .i64 last∧Below w.heap.size w wr∧Hid (rstF (-1) (sbs L)=rstF last ((sbs L).drop j))) (fun _ i _=>n - (intOf i).toNat)
 case atStart=>exact⟨0,-1,by omega,rfl,rfl,Below.refl _ _,rfl⟩
 case round=>
  obtain⟨j,last,hj,rfl,rfl,k,hr⟩:=hrel
  by_cases hlt:j < n
  ·skip
   have hjl:j < L.length:=by rw[HL.out];exact hlt
   obtain⟨b,o,rfl,hbb,q0,q1,q2,q3,q4,q5,q6⟩:=HB1.out wr k j hjl
   have hjs:j < (sbs L).length:=by rw[sbs_len];exact hjl
   have hd:=hr.out.trans (HD.out last j hjs)
   rw[sbs_at L j hjl,sbF_parts] at hd
   have G:=fun (W:World) (hb:Below w.heap.size w W)=>HG.out W hb L[j] (List.getElem_mem hjl)
   generalize Sn.fmS (-2) L[j].2.int=S at G hd
   generalize L[j].2.from_=y0 at q0 hd
   generalize L[j].1.A=y1 at q1 G
   generalize L[j].2.int.length=y2 at q1 G hd
   generalize L[j].1.c=y3 at q1 G
   generalize L[j].2.ses=y4 at q2 hd
   generalize L[j].2.seq=y5 at q3 hd
   generalize L[j].2.live=y6 at q4 hd
   generalize L[j].2.heard=y7 at q5 hd
   generalize L[j].2.idle=y8 at q6 hd
   have G:=Hz_ G
   have HDD:=Hz_ hd
   have HKR:=Hz_ k
   have hal:Below wr.heap.size wr (wr.alloc (.cells #[.int .i64 y0,.slice y1 y2 y3,.int .i64 y4,.int .i64 y5,.bool y6,.bool y7,.bool y8] 65)):=(Below.refl _ _).alloc (Nat.le_refl _) _
   have kw:=btn k hal
   have HX:=Hz_ (Blk.new wr 65 #[.int .i64 y0,.slice y1 y2 y3,.int .i64 y4,.int .i64 y5,.bool y6,.bool y7,.bool y8])
   clear hr hd hbb hjs hjl k hal
   by_cases e0:last < y0
   rotate_left
   ·have d0:decide (y0≤last)=true:=by simp;omega
    have HN:=Hz_ (show restF (sbs L)=false by rw[HRF.out,HDD.out];simp[e0])
    go_wp2_with (go_at_call 41;go_must (refine(G.out _ kw).mono ?_);rintro e w' ⟨rfl,hb'⟩;have kw:=btn kw hb';obtain⟨x0,x1,x2,x3,x4,x5,x6⟩:=(HX.out.go hb').seven;clear hb')
    go_ret
    exact⟨by rw[HN.out]<;>rfl,kw⟩
   have d0:decide (y0≤last)=false:=by simp;omega
   by_cases e1:y0≤63
   rotate_left
   ·have d1:decide (y0 ≥ 64)=true:=by simp;omega
    have HN:=Hz_ (show restF (sbs L)=false by rw[HRF.out,HDD.out];simp[e1])
    go_wp2_with (go_at_call 41;go_must (refine(G.out _ kw).mono ?_);rintro e w' ⟨rfl,hb'⟩;have kw:=btn kw hb';obtain⟨x0,x1,x2,x3,x4,x5,x6⟩:=(HX.out.go hb').seven;clear hb')
    go_ret
    exact⟨by rw[HN.out]<;>rfl,kw⟩
   have d1:decide (y0 ≥ 64)=false:=by simp;omega
   by_cases e2:y2=0
   ·subst e2
    have HN:=Hz_ (show restF (sbs L)=false by rw[HRF.out,HDD.out];simp[])
    go_wp2_with (go_at_call 41;go_must (refine(G.out _ kw).mono ?_);rintro e w' ⟨rfl,hb'⟩;have kw:=btn kw hb';obtain⟨x0,x1,x2,x3,x4,x5,x6⟩:=(HX.out.go hb').seven;clear hb')
    go_ret
    exact⟨by rw[HN.out]<;>rfl,kw⟩
   have d2:¬ ((y2:Nat):Int)=0:=by omega
   cases S
   ·skip
    have HN:=Hz_ (show restF (sbs L)=false by rw[HRF.out,HDD.out];simp[])
    go_wp2_with (go_at_call 41;go_must (refine(G.out _ kw).mono ?_);rintro e w' ⟨rfl,hb'⟩;have kw:=btn kw hb';obtain⟨x0,x1,x2,x3,x4,x5,x6⟩:=(HX.out.go hb').seven;clear hb')
    go_ret
    exact⟨by rw[HN.out]<;>rfl,kw⟩
   by_cases e4:y4=0
   rotate_left
   ·skip
    have HN:=Hz_ (show restF (sbs L)=false by rw[HRF.out,HDD.out];simp[e4])
    go_wp2_with (go_at_call 41;go_must (refine(G.out _ kw).mono ?_);rintro e w' ⟨rfl,hb'⟩;have kw:=btn kw hb';obtain⟨x0,x1,x2,x3,x4,x5,x6⟩:=(HX.out.go hb').seven;clear hb')
    go_ret
    exact⟨by rw[HN.out]<;>rfl,kw⟩
   subst e4
   by_cases e5:y5=0
   rotate_left
   ·skip
    have HN:=Hz_ (show restF (sbs L)=false by rw[HRF.out,HDD.out];simp[e5])
    go_wp2_with (go_at_call 41;go_must (refine(G.out _ kw).mono ?_);rintro e w' ⟨rfl,hb'⟩;have kw:=btn kw hb';obtain⟨x0,x1,x2,x3,x4,x5,x6⟩:=(HX.out.go hb').seven;clear hb')
    go_ret
    exact⟨by rw[HN.out]<;>rfl,kw⟩
   subst e5
   cases y6
   rotate_left
   ·skip
    have HN:=Hz_ (show restF (sbs L)=false by rw[HRF.out,HDD.out];simp[])
    go_wp2_with (go_at_call 41;go_must (refine(G.out _ kw).mono ?_);rintro e w' ⟨rfl,hb'⟩;have kw:=btn kw hb';obtain⟨x0,x1,x2,x3,x4,x5,x6⟩:=(HX.out.go hb').seven;clear hb')
    go_ret
    exact⟨by rw[HN.out]<;>rfl,kw⟩
   cases y7
   rotate_left
   ·skip
    have HN:=Hz_ (show restF (sbs L)=false by rw[HRF.out,HDD.out];simp[])
    go_wp2_with (go_at_call 41;go_must (refine(G.out _ kw).mono ?_);rintro e w' ⟨rfl,hb'⟩;have kw:=btn kw hb';obtain⟨x0,x1,x2,x3,x4,x5,x6⟩:=(HX.out.go hb').seven;clear hb')
    go_ret
    exact⟨by rw[HN.out]<;>rfl,kw⟩
   cases y8
   rotate_left
   ·skip
    have HN:=Hz_ (show restF (sbs L)=false by rw[HRF.out,HDD.out];simp[])
    go_wp2_with (go_at_call 41;go_must (refine(G.out _ kw).mono ?_);rintro e w' ⟨rfl,hb'⟩;have kw:=btn kw hb';obtain⟨x0,x1,x2,x3,x4,x5,x6⟩:=(HX.out.go hb').seven;clear hb')
    go_ret
    exact⟨by rw[HN.out]<;>rfl,kw⟩
   have HN:=Hz_ (show rstF (-1) (sbs L)=rstF y0 ((sbs L).drop (j+1)) by rw[HDD.out];simp[e0,e1,e2])
   go_wp2_with (go_at_call 41;go_must (refine(G.out _ kw).mono ?_);rintro e w' ⟨rfl,hb'⟩;have kw:=btn kw hb';obtain⟨x0,x1,x2,x3,x4,x5,x6⟩:=(HX.out.go hb').seven;clear hb')
   go_roundw
   case rel=>exact⟨j+1,y0,by omega,by go_num,rfl,kw,HN⟩
   case measure=>simp[intOf];omega
  ·obtain rfl:n=j:=by omega
   have HN:=Hz_ (show restF (sbs L)=decide (n≤16) by rw[HRF.out,hr.out,List.drop_of_length_le (by rw[HLE.out];exact Nat.le_refl _),HLE.out];rfl)
   clear hr
   by_cases h16:n≤16
   ·have d:decide ((n:Int)≤16)=true:=by simp;omega
    go_wp2
    go_ret
    exact⟨by rw[HN.out,decide_eq_true h16]<;>rfl,k⟩
   ·have d:decide ((n:Int)≤16)=false:=by simp;omega
    go_wp2
    go_ret
    exact⟨by rw[HN.out,decide_eq_false h16]<;>rfl,k⟩
end Go.Proofs.YtmbeahbgafkjfaaGreatDoor
