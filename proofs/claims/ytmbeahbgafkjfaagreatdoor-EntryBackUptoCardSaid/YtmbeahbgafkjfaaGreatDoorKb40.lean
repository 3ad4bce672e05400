/- Lemmas for the claim, layer 40. -/
import Derived.Test.YtmbeahbgafkjfaaGreatDoorKb39
namespace Go.Proofs.YtmbeahbgafkjfaaGreatDoor.Wq
theorem pEnt_enc {x:Ent} (h:entF x=true) (hc:EntC x) (t:List UInt8):pEnt (lEnt x++t)=some (x,t):=by
 have hh:=h
 obtain⟨kind,note,body,from_,int,view,subs⟩:=x
 unfold entF at hh
 simp only at hh
 unfold pEnt lEnt
 rw[List.append_assoc]
 by_cases k1:kind=1
 ·subst k1
  simp only[if_true,Bool.and_eq_true] at hh
  obtain⟨a,b,c,d⟩:=hh
  have e1:=bareB_is b
  obtain⟨e2,e3⟩:=noSub_is c
  obtain⟨e4,e5⟩:=noChk_is d
  simp only at e1 e2 e3 e4 e5
  subst e1 e2 e3 e4 e5
  rw[pI_lay (x:=1) (show Wq.u63 1 from ⟨by decide,by decide⟩)]
  simp only[if_true]
  rw[pNt_lay a hc.n t]
 ·by_cases k2:kind=2
  ·subst k2
   simp only[if_true,if_neg k1,Bool.and_eq_true] at hh
   obtain⟨a,b,c,d⟩:=hh
   have e1:=emptyN_is a
   obtain⟨e2,e3⟩:=noSub_is c
   obtain⟨e4,e5⟩:=noChk_is d
   simp only at e1 e2 e3 e4 e5
   subst e1 e2 e3 e4 e5
   rw[pI_lay (x:=2) (show Wq.u63 2 from ⟨by decide,by decide⟩)]
   simp only[if_true,if_neg k1]
   rw[pB_lay b hc.b t]
  ·by_cases k3:kind=3
   ·subst k3
    simp only[if_true,if_neg k1,if_neg k2,Bool.and_eq_true] at hh
    obtain⟨⟨c,d⟩,f⟩:=hh
    obtain⟨e2,e3⟩:=noSub_is c
    obtain⟨e4,e5⟩:=noChk_is d
    simp only at e2 e3 e4 e5
    subst e2 e3 e4 e5
    rw[pI_lay (x:=3) (show Wq.u63 3 from ⟨by decide,by decide⟩)]
    simp only[if_true,if_neg k1,if_neg k2]
    rcases hw:note.w with _ | ⟨w,r⟩
    ·rw[hw] at f;cases f
    ·rw[hw] at f
     rcases r with _ | ⟨w2,r⟩
     ·simp only[Bool.and_eq_true] at f
      obtain⟨a,b⟩:=f
      unfold ofWr at b
      simp only
      by_cases hg:w.2.2=true
      ·rw[if_pos hg] at b
       have e1:=bareB_is b
       subst e1
       rw[if_pos hg,List.append_nil,pNt_lay a hc.n t]
       simp only
       rw[hw]
       simp only
       rw[if_pos hg]
      ·rw[if_neg hg] at b
       simp only[Bool.and_eq_true,decide_eq_true_eq] at b
       rw[if_neg hg,List.append_assoc,pNt_lay a hc.n]
       simp only
       rw[hw]
       simp only
       rw[if_neg hg,pB_lay b.1 hc.b t]
     ·cases f
   ·by_cases k4:kind=4
    ·subst k4
     simp only[if_true,if_neg k1,if_neg k2,if_neg k3,Bool.and_eq_true,decide_eq_true_eq] at hh
     obtain⟨⟨a,b,c⟩,⟨d1,d2⟩,d3⟩:=hh
     have e1:=emptyN_is a
     have e2:=bareB_is b
     obtain⟨e4,e5⟩:=noChk_is c
     simp only at e1 e2 e4 e5
     subst e1 e2 e4 e5
     rw[pI_lay (x:=4) (show Wq.u63 4 from ⟨by decide,by decide⟩)]
     simp only[if_true,if_neg k1,if_neg k2,if_neg k3]
     rw[pTwo_lay (p:=pI) (q:=pS) (r:=t) (pI_lay (x:=from_) ⟨d1,by omega⟩ _) (pS_lay d3 t)]
    ·by_cases k5:kind=5
     ·subst k5
      simp only[if_true,if_neg k1,if_neg k2,if_neg k3,if_neg k4,Bool.and_eq_true] at hh
      obtain⟨⟨a,b,c⟩,d,e⟩:=hh
      have e1:=emptyN_is a
      have e2:=bareB_is b
      obtain⟨e4,e5⟩:=noSub_is c
      simp only at e1 e2 e4 e5
      subst e1 e2 e4 e5
      unfold restF at e
      simp only[Bool.and_eq_true,decide_eq_true_eq] at e
      rw[pI_lay (x:=5) (show Wq.u63 5 from ⟨by decide,by decide⟩)]
      simp only[if_true,if_neg k1,if_neg k2,if_neg k3,if_neg k4]
      have hq:=pTwo_lay (p:=pVw) (q:=pLst pSb) (r:=t) (pVw_lay (vwC_of d hc) _) (pLst_lay (p:=pSb) (lay:=lSb) (v:=subs) t (by omega) fun s hs r=>by
       obtain⟨f1,f2,f3⟩:=rstF_all e.1 (by omega) s hs
       exact pSb_lay f1 f2 f3 r)
      dsimp only at hq
      rw[hq]
     ·simp only[if_neg k1,if_neg k2,if_neg k3,if_neg k4,if_neg k5] at hh
      cases hh
theorem decE_plus {x:Ent} (h:entF x=true) (hc:EntC x) {t:List UInt8} (ht:t≠[]):decE (lEnt x++t)=none:=by
 unfold decE
 rw[pEnt_enc h hc t]
 cases t with
 | nil=>exact absurd rfl ht
 | cons a r=>rfl
theorem decE_pEnt {l:List UInt8} {x:Ent} (h:decE l=some x):pEnt l=some (x,[]):=by
 unfold decE at h
 split at h
 ·rename_i y hy
  split at h
  ·injection h with h
   subst h
   exact hy
  ·cases h
 ·cases h
theorem ntC_ntz:ntC ntz:=⟨fun _ h=>(by cases h),fun _ h=>(by cases h),fun _ h=>(by cases h)⟩
theorem EntC.mk0 {k:Int} {n:Nt} {b:Bd} {f:Int} {i:List Sn.Sp} (hn:ntC n) (hb:b.s.1 < 9223372036854775808):EntC ⟨k,n,b,f,i,vw0,[]⟩:=⟨hn,hb,(fun _ h=>by cases h),(fun _ h=>by cases h),(fun _ h=>by cases h),(fun _ h=>by cases h)⟩
theorem decE_cts {l:List UInt8} {x:Ent} (h:decE l=some x):EntC x:=by
 have hy:=decE_pEnt h
 clear h
 unfold pEnt at hy
 split at hy
 ·cases hy
 ·rename_i k r hk
  split at hy
  ·split at hy
   ·cases hy
   ·rename_i n q hn
    injection hy with hy
    injection hy with h1 h2
    subst h1
    exact EntC.mk0 (pNt_back hn).2.2 (by decide)
  ·split at hy
   ·split at hy
    ·cases hy
    ·rename_i n q hn
     injection hy with hy
     injection hy with h1 h2
     subst h1
     exact EntC.mk0 ntC_ntz (pB_back hn).2.2
   ·split at hy
    ·split at hy
     ·cases hy
     ·rename_i n q hn
      split at hy
      ·injection hy with hy
       injection hy with h1 h2
       subst h1
       exact EntC.mk0 (pNt_back hn).2.2 (by decide)
      ·split at hy
       ·injection hy with hy
        injection hy with h1 h2
        subst h1
        exact EntC.mk0 (pNt_back hn).2.2 (by decide)
       ·split at hy
        ·cases hy
        ·rename_i b s hb
         injection hy with hy
         injection hy with h1 h2
         subst h1
         exact EntC.mk0 (pNt_back hn).2.2 (pB_back hb).2.2
    ·split at hy
     ·split at hy
      ·cases hy
      ·rename_i f i q hn
       injection hy with hy
       injection hy with h1 h2
       subst h1
       exact EntC.mk0 ntC_ntz (by decide)
     ·split at hy
      ·split at hy
       ·cases hy
       ·rename_i v s q hn
        injection hy with hy
        injection hy with h1 h2
        subst h1
        obtain⟨t,a1,a2⟩:=pTwo_back hn
        obtain⟨_,c1,c2,c3,c4,c5⟩:=pVw_back a1
        exact⟨ntC_ntz,(show (0:Int) < 9223372036854775808 by decide),c1.2,fun y hy=>(c2.2 y hy).2.2,fun w hw=>(c3.2 w hw).2.2.2,fun y hy=>(c4.2 y hy).2⟩
      ·injection hy with hy
       injection hy with h1 h2
       subst h1
       exact EntC.mk0 ntC_ntz (by decide)
theorem decE_al:decE [4,2,1,1,3]=some ⟨4,ntz,bdz,2,[(1,3)],vw0,[]⟩:=by
 have h:=decE_enc (x:=⟨4,ntz,bdz,2,[(1,3)],vw0,[]⟩) (by decide +kernel) (EntC.mk0 ntC_ntz (by decide))
 rw[show lEnt ⟨4,ntz,bdz,2,[(1,3)],vw0,[]⟩=[4,2,1,1,3] by decide +kernel] at h
 exact h
theorem lEnt_len {x:Ent} (h:entF x=true) (hc:EntC x):(lEnt x).length≤2000000:=by
 have hk:(layAll [x.kind]).length≤9:=by
  have hkk:=entF_kinds h
  unfold layAll
  simp only[List.flatMap_cons,List.flatMap_nil,List.append_nil]
  exact Pk.lay_len9 (by omega)
 rcases entF_kinds h with k | k | k | k | k
 ·have a:=lNt_small (entF_p1 h k) hc.n
  rw[lE1 k,List.length_append];omega
 ·have a:=lB_len (entF_p2 h k) hc.b
  rw[lE2 k,List.length_append];omega
 ·obtain⟨hn,q,hq,hbd⟩:=entF_p3 h k
  have a:=lNt_small hn hc.n
  rw[lE3 k hq,List.length_append,List.length_append]
  by_cases hg:q.2.2=true
  ·rw[if_pos hg,List.length_nil];omega
  ·rw[if_neg hg]
   have b:=lB_len (hbd (by simpa using hg)) hc.b
   omega
 ·obtain⟨hf,hi⟩:=entF_p4 h k
  have a:=lS_len hi
  have b:(layAll [x.from_]).length≤9:=by
   unfold layAll
   simp only[List.flatMap_cons,List.flatMap_nil,List.append_nil]
   exact Pk.lay_len9 (by omega)
  rw[lE4 k,List.length_append,List.length_append];omega
 ·obtain⟨hv,hs⟩:=entF_p5 h k
  have a:=lVw_len (vwC_of hv hc) (vw_lens hv)
  unfold restF at hs
  rw[Bool.and_eq_true,decide_eq_true_eq] at hs
  have hl:=hs.2
  have b:(layAll [(x.subs.length:Int)]).length≤9:=by
   unfold layAll
   simp only[List.flatMap_cons,List.flatMap_nil,List.append_nil]
   exact Pk.lay_len9 (by omega)
  have c:=flat_len_le lSb 2000 x.subs fun s hs'=>by
   obtain⟨f1,f2,f3⟩:=rstF_all hs.1 (by omega) s hs'
   have d:=lS_len f2
   have e:=u63_len f1
   unfold lSb lI
   rw[List.length_append]
   omega
  rw[lE5 k,List.length_append,List.length_append,List.length_append]
  omega
end Go.Proofs.YtmbeahbgafkjfaaGreatDoor.Wq
