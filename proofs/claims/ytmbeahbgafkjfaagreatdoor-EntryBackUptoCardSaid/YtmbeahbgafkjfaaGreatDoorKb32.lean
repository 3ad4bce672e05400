/- Lemmas for the claim, layer 32. -/
import Derived.Test.YtmbeahbgafkjfaaGreatDoorKb15
set_option maxRecDepth 100000
set_option maxHeartbeats 16000000
namespace Go.Proofs.YtmbeahbgafkjfaaGreatDoor
open Go.RowKit
theorem numV_vl (s:Option (List UInt8)):numV s=Wq.vl Wq.pN 0 s:=by
 rcases s with _ | l
 ·rfl
 ·rcases h:Wq.pN l with _ | ⟨_,_⟩<;>simp only[numV,Wq.vl,h]
theorem numS_st (s:Option (List UInt8)):numS s=Wq.st Wq.pN s:=by
 rcases s with _ | l
 ·rfl
 ·rcases h:Wq.pN l with _ | ⟨_,_⟩<;>simp only[numS,Wq.st,h]
theorem Blk.four {W:World} {g:Nat} {t:TypeId} {a b c d:Value} (h:Blk W g t #[a,b,c,d]):W.cell? ⟨g,0,none⟩=some a∧W.cell? ⟨g,1,none⟩=some b∧W.cell? ⟨g,2,none⟩=some c∧W.cell? ⟨g,3,none⟩=some d:=
 ⟨h.cell 0,h.cell 1,h.cell 2,h.cell 3⟩
theorem wireBody_any (A:Option Addr) (n c:Nat) (l:List UInt8) (w:World) (hl:l.length=n) (hR:Rd w w.heap.size 1 A n c (bv l)) (hn:n≤140737488355328):
  Calls Tryz.prog 52 #[.slice A n c] w fun e w'=>∃A' c',e=.returned (.tuple #[.agg (bval (gV Wq.pB Wq.bd0 l) A' c'),.int .i64 (gK Wq.pB l),.int .i64 (gE Wq.pB l)]) ∧
   w'.ownsRow w.heap.size 5 1 (.slice A' (gV Wq.pB Wq.bd0 l).v.length c') (gV Wq.pB Wq.bd0 l).v.length (bv (gV Wq.pB Wq.bd0 l).v)∧Below w.heap.size w w':=by
 have hb0:Below w.heap.size w ((w.alloc (.cells #[.int .i64 0,.int .i64 0,.int .i64 0,.slice none 0 0] 31)).alloc (.cells #[.slice A n c,.int .i64 0,.bool false] 156)):=((Below.refl _ _).alloc (Nat.le_refl _) _).alloc (by simp) _
 have hR0:=(Blk.new w 31 #[.int .i64 0,.int .i64 0,.int .i64 0,.slice none 0 0]).alloc (.cells #[.slice A n c,.int .i64 0,.bool false] 156)
 have hG0:=Blk.new (w.alloc (.cells #[.int .i64 0,.int .i64 0,.int .i64 0,.slice none 0 0] 31)) 156 #[.slice A n c,.int .i64 0,.bool false]
 rw[World.size_alloc] at hG0
 obtain⟨W0,hW0⟩:∃W0,W0=(w.alloc (.cells #[.int .i64 0,.int .i64 0,.int .i64 0,.slice none 0 0] 31)).alloc (.cells #[.slice A n c,.int .i64 0,.bool false] 156):=⟨_,rfl⟩
 have hs0:W0.heap.size=w.heap.size+1+1:=by rw[hW0];simp
 rw[←hW0] at hb0 hR0 hG0
 have hP0:PR W0 (w.heap.size+1) n (some l):=by
  refine⟨A,n,c,?_,(hR.below hb0).more (by omega),hl,by omega,by have:=hR.cap;have:=hR.max;omega⟩
  rw[hl,Nat.sub_self]
  exact hG0
 have HW:=Hz_ hW0.symm
 have HL:=Hz_ hl
 have HB0:=Hz_ hb0
 have HPA:=Hz_ (Wq.pB_all l)
 have G1:=Hz_ fun (W:World) (s:Option (List UInt8)) (h:PR W (w.heap.size+1) n s)=>rdNum_any (w.heap.size+1) n s W h
 have G2:=Hz_ fun (W:World) (s:Option (List UInt8)) (h:PR W (w.heap.size+1) n s)=>rdStamp_any (w.heap.size+1) n s W h
 have G3:=Hz_ fun (W:World) (s:Option (List UInt8)) (h:PR W (w.heap.size+1) n s)=>partRow_any (w.heap.size+1) n s W h hn
 clear hl hR hG0 hW0 hb0
 go_enter Tryz.func52,Tryz.ntmps52
 go_wp2_with fail
 rw[HW.out]
 refine(G1.out _ _ hP0).mono ?_
 rintro e w1 ⟨rfl,hP1,hu1⟩
 have hs1:=hu1.size
 have hR1:=hR0.but hu1 (by omega)
 have hb1:=below_but HB0.out hu1 (by omega) (by omega)
 obtain⟨o,ho⟩:∃o,o=numV (some l):=⟨_,rfl⟩
 obtain⟨s1,hs1e⟩:∃s,s=numS (some l):=⟨_,rfl⟩
 rw[←hs1e] at hP1
 rw[←ho]
 have HO:=Hz_ ho
 have HS1:=Hz_ hs1e
 have hbX:Below w1.heap.size w1 (w1.alloc (.cells #[.int .i64 o,.int .i64 0,.int .i64 0,.slice none 0 0] 31)):=(Below.refl _ _).alloc (Nat.le_refl _) _
 have hX:=Blk.new w1 31 #[.int .i64 o,.int .i64 0,.int .i64 0,.slice none 0 0]
 obtain⟨W2,hW2⟩:∃W2,W2=w1.alloc (.cells #[.int .i64 o,.int .i64 0,.int .i64 0,.slice none 0 0] 31):=⟨_,rfl⟩
 have hs2:W2.heap.size=w1.heap.size+1:=by rw[hW2];simp
 rw[←hW2] at hbX hX
 have HW2:=Hz_ hW2.symm
 have hP2:=hP1.go hbX
 have hR2:=hR1.go hbX
 have hb2:=below_then hb1 (by omega) hbX
 clear hP0 hu1 hR0 hP1 hR1 hb1 ho hs1e hW2 hbX
 go_wp2_with fail
 rw[HW2.out]
 refine(G2.out _ _ hP2).mono ?_
 rintro e w3 ⟨rfl,hP3,hu3⟩
 have hs3:=hu3.size
 obtain⟨nd,hnd⟩:∃x,x=numV s1:=⟨_,rfl⟩
 obtain⟨s2,hs2e⟩:∃s,s=numS s1:=⟨_,rfl⟩
 rw[←hs2e] at hP3
 rw[←hs2e,←hnd]
 obtain⟨ct,hct⟩:∃x,x=numV s2:=⟨_,rfl⟩
 obtain⟨s3,hs3e⟩:∃s,s=numS s2:=⟨_,rfl⟩
 rw[←hs3e] at hP3
 rw[←hct]
 have HND:=Hz_ hnd
 have HS2:=Hz_ hs2e
 have HCT:=Hz_ hct
 have HS3:=Hz_ hs3e
 have hX3:=hX.but hu3 (by omega)
 have hR3:=hR2.but hu3 (by omega)
 have hb3:=below_but hb2 hu3 (by omega) (by omega)
 have fX1:=hX3.frozen 1
 have fX2:=hX3.frozen 2
 have cX1:=hX3.cell 1
 have cX2:=hX3.cell 2
 clear hP2 hu3 hX hR2 hb2 hnd hs2e hct hs3e
 go_wp2_with fail
 have hX4:=(hX3.set_ 1 (.int .i64 ct)).set_ 2 (.int .i64 nd)
 have hu4:But w1.heap.size w3 ((w3.setCell ⟨w1.heap.size,1,none⟩ (.int .i64 ct)).setCell ⟨w1.heap.size,2,none⟩ (.int .i64 nd)):=(But.set_ (g:=w1.heap.size) w3 (p:=⟨w1.heap.size,1,none⟩) rfl _).trans (But.set_ (g:=w1.heap.size) _ (p:=⟨w1.heap.size,2,none⟩) rfl _)
 obtain⟨W4,hW4⟩:∃W4,W4=(w3.setCell ⟨w1.heap.size,1,none⟩ (.int .i64 ct)).setCell ⟨w1.heap.size,2,none⟩ (.int .i64 nd):=⟨_,rfl⟩
 have hs4:W4.heap.size=w3.heap.size:=by rw[hW4];simp
 rw[←hW4] at hX4 hu4
 have HW4:=Hz_ hW4.symm
 have hX4:Blk W4 w1.heap.size 31 #[.int .i64 o,.int .i64 ct,.int .i64 nd,.slice none 0 0]:=hX4
 have hP4:=hP3.but hu4 (by omega)
 have hR4:=hR3.but hu4 (by omega)
 have hb4:=below_but hb3 hu4 (by omega) (by omega)
 clear hP3 hX3 hR3 hb3 hu4 hW4 fX1 fX2 cX1 cX2
 rw[HW4.out]
 refine(G3.out _ _ hP4).mono ?_
 rintro e w5 ⟨Av,cv,rfl,ho5,hP5,hu5⟩
 have hs5:=hu5.size
 obtain⟨v,hv⟩:∃v,v=Wq.vl (Wq.pR 256) [] s3:=⟨_,rfl⟩
 obtain⟨s4,hs4e⟩:∃s,s=Wq.st (Wq.pR 256) s3:=⟨_,rfl⟩
 rw[←hs4e] at hP5
 rw[←hv] at ho5
 rw[←hv]
 have HV:=Hz_ hv
 have HS4:=Hz_ hs4e
 have hX5:=hX4.but hu5 (by omega)
 have hR5:=hR4.but hu5 (by omega)
 have hb5:=below_but hb4 hu5 (by omega) (by omega)
 have fX3:=hX5.frozen 3
 have cX3:=hX5.cell 3
 have hX6:=hX5.set_ 3 (.slice Av v.length cv)
 have hu6:But w1.heap.size w5 (w5.setCell ⟨w1.heap.size,3,none⟩ (.slice Av v.length cv)):=But.set_ (g:=w1.heap.size) w5 (p:=⟨w1.heap.size,3,none⟩) rfl _
 obtain⟨x,hx⟩:∃x:Wq.Bd,x=⟨(o:Int),((ct:Int),(nd:Int)),v⟩:=⟨_,rfl⟩
 have hX6:Blk (w5.setCell ⟨w1.heap.size,3,none⟩ (.slice Av v.length cv)) w1.heap.size 31 #[.int .i64 o,.int .i64 ct,.int .i64 nd,.slice Av v.length cv]:=hX6
 have hP6:=hP5.but hu6 (by omega)
 have hR6:=hR5.but hu6 (by omega)
 have hb6:=below_but hb5 hu6 (by omega) (by omega)
 have ho6:=own_but ho5 hu6 (by omega)
 have HX:=Hz_ hx
 clear hP4 hX4 hR4 hb4 hP5 hX5 hR5 hb5 hu5 ho5 hu6 hv hs4e G1 G2 G3 hx
 have HR1:=Hz_ fun (W:World)=>(show Calls Tryz.prog 104 #[.agg #[.int .i64 o,.int .i64 ct,.int .i64 nd,.slice Av v.length cv]] W fun e w'=>e=.returned (.bool (Wq.bdF x))∧Below W.heap.size W w' from by rw[HX.out];exact bodyRight_any ⟨(o:Int),((ct:Int),(nd:Int)),v⟩ Av cv W)
 go_wp2_with fail
 clear fX3 cX3 hX4
 obtain⟨W6,hW6⟩:∃W6,W6=w5.setCell ⟨w1.heap.size,3,none⟩ (.slice Av v.length cv):=⟨_,rfl⟩
 have hs6:W6.heap.size=w5.heap.size:=by rw[hW6];simp
 rw[←hW6] at hX6 hP6 hR6 hb6 ho6 ⊢
 clear hW6
 obtain⟨q0,q1,q2,q3⟩:W6.drew.cell? ⟨w1.heap.size,0,none⟩=some (.int .i64 (o:Int))∧W6.drew.cell? ⟨w1.heap.size,1,none⟩=some (.int .i64 (ct:Int))∧W6.drew.cell? ⟨w1.heap.size,2,none⟩=some (.int .i64 (nd:Int))∧W6.drew.cell? ⟨w1.heap.size,3,none⟩=some (.slice Av v.length cv):=hX6.four
 have HX6:=Hz_ (show Blk W6.drew w1.heap.size 31 #[.int .i64 o,.int .i64 ct,.int .i64 nd,.slice Av v.length cv] from hX6)
 have HR6:=Hz_ (show Blk W6.drew w.heap.size 31 #[.int .i64 0,.int .i64 0,.int .i64 0,.slice none 0 0] from hR6)
 have hP6:PR W6.drew (w.heap.size+1) n s4:=hP6.go (Below.refl _ _).drew
 have HB6:=Hz_ hb6.drew
 have HO6:=Hz_ (show W6.drew.ownsRow W4.heap.size 5 1 (.slice Av v.length cv) v.length (bv v) from ho6)
 have hlX:=hX6.lt
 clear hX6 hR6 hb6 ho6
 refine region_nrm fun K hK=>?_
 by_cases hgood:(∃r,s4=some r)∧Wq.bdF x=true
 ·obtain⟨⟨r,hr⟩,hbd⟩:=hgood
  rw[hr] at hP6
  rw[hbd] at HR1
  have HP6:=Hz_ hP6
  have HP:=Hz_ (show Wq.pB l=some (x,r) by
   have h:=HPA.out
   rw[←numS_st,←numS_st,←numS_st,←numV_vl,←numV_vl,←numV_vl,←HO.out,←HS1.out,←HND.out,←HS2.out,←HCT.out,←HS3.out,←HV.out,←HS4.out,hr] at h
   simp only at h
   rw[←HX.out,if_pos hbd] at h
   exact h)
  have HE:=Hz_ fun (W:World) (h:PR W (w.heap.size+1) n (some r))=>endB_ok (w.heap.size+1) n o ct nd Av v.length cv r W h
  clear hP6
  go_region_held3 (fun w'=>w'.cell? ⟨w1.heap.size,0,none⟩=some (.int .i64 (o:Int))∧w'.cell? ⟨w1.heap.size,1,none⟩=some (.int .i64 (ct:Int))∧w'.cell? ⟨w1.heap.size,2,none⟩=some (.int .i64 (nd:Int))∧w'.cell? ⟨w1.heap.size,3,none⟩=some (.slice Av v.length cv)) (first | exact⟨u0,u1,u2,u3⟩ | exact⟨t0,t1,t2,t3⟩ | exact⟨r0,r1,r2,r3⟩ | exact⟨q0,q1,q2,q3⟩ | go_keep) (first
   | (go_at_call 104;go_must (refine(HR1.out _).mono ?_);rintro e w7 ⟨rfl,hb7⟩;obtain⟨r0,r1,r2,r3⟩:=(HX6.out.go hb7).four)
   | (go_at_call 130;go_must (refine(HE.out _ (HP6.out.go hb7)).mono ?_);rintro e w8 ⟨rfl,hb8⟩;have hX8:=(HX6.out.go hb7).go hb8;obtain⟨t0,t1,t2,t3⟩:=hX8.four;obtain⟨u0,u1,u2,u3⟩:=((((hX8.far (p:=⟨w.heap.size,0,none⟩) (by show _≠w.heap.size;omega) (.int .i64 o)).far (p:=⟨w.heap.size,1,none⟩) (by show _≠w.heap.size;omega) (.int .i64 ct)).far (p:=⟨w.heap.size,2,none⟩) (by show _≠w.heap.size;omega) (.int .i64 nd)).far (p:=⟨w.heap.size,3,none⟩) (by show _≠w.heap.size;omega) (.slice Av v.length cv)).four;have hR8:=(HR6.out.go hb7).go hb8;obtain⟨z0,z1,z2,z3⟩:=hR8.four;have y0:=hR8.frozen 0;have y1:=hR8.frozen 1;have y2:=hR8.frozen 2;have y3:=hR8.frozen 3))
  refine Nrm.out (hK _ _ ?_)
  go_wp2
  have hF:=(((hR8.set_ 0 (.int .i64 o)).set_ 1 (.int .i64 ct)).set_ 2 (.int .i64 nd)).set_ 3 (.slice Av v.length cv)
  have hbw:=below_then (btn HB6.out hb7) (Nat.le_refl _) hb8
  obtain⟨e1,e2,e3⟩:=g_yes (d:=Wq.bd0) HP.out
  rw[e1,e2,e3]
  have hxx:=HX.out
  subst hxx
  refine bodyPost_ret (res_ctt rfl _ _ w.heap.size 31 _ _ _ rfl hF Tryz.underlying31 rfl (by kernel_rfl)) rfl ⟨Av,cv,by rw[HL.out]<;>rfl,?_,(((hbw.setCell (p:=⟨w.heap.size,0,none⟩) (Nat.le_refl _) _).setCell (p:=⟨w.heap.size,1,none⟩) (Nat.le_refl _) _).setCell (p:=⟨w.heap.size,2,none⟩) (Nat.le_refl _) _).setCell (p:=⟨w.heap.size,3,none⟩) (Nat.le_refl _) _⟩
  have hu:But w.heap.size w8 ((((w8.setCell ⟨w.heap.size,0,none⟩ (.int .i64 o)).setCell ⟨w.heap.size,1,none⟩ (.int .i64 ct)).setCell ⟨w.heap.size,2,none⟩ (.int .i64 nd)).setCell ⟨w.heap.size,3,none⟩ (.slice Av v.length cv)):=
   (((But.set_ (g:=w.heap.size) _ (p:=⟨w.heap.size,0,none⟩) rfl _).trans (But.set_ (g:=w.heap.size) _ (p:=⟨w.heap.size,1,none⟩) rfl _)).trans (But.set_ (g:=w.heap.size) _ (p:=⟨w.heap.size,2,none⟩) rfl _)).trans (But.set_ (g:=w.heap.size) _ (p:=⟨w.heap.size,3,none⟩) rfl _)
  exact own_less (own_but (own_below (own_below HO6.out hb7 (Nat.le_refl _)) hb8 (Nat.le_refl _)) hu (by omega)) (by omega)
 ·have hs:s4=none∨Wq.bdF x=false:=by
   rcases s4 with _ | r
   ·exact .inl rfl
   ·refine .inr ?_
    rcases hz:Wq.bdF x with _ | _
    ·rfl
    ·exact absurd ⟨⟨r,rfl⟩,hz⟩ hgood
  have HP6:=Hz_ hP6
  have HP:=Hz_ (show Wq.pB l=none by
   have h:=HPA.out
   rw[←numS_st,←numS_st,←numS_st,←numV_vl,←numV_vl,←numV_vl,←HO.out,←HS1.out,←HND.out,←HS2.out,←HCT.out,←HS3.out,←HV.out,←HS4.out] at h
   rw[h]
   rcases hs with hs | hs
   ·rw[hs]
   ·rcases s4 with _ | r
    ·rfl
    ·simp only
     rw[←HX.out,hs];rfl)
  generalize Wq.bdF x=z at HR1 hs
  have HE:=Hz_ fun (W:World) (h:PR W (w.heap.size+1) n s4)=>endB_bad (w.heap.size+1) n o ct nd Av v.length cv z s4 W h hs
  clear hP6 hgood hs
  go_region_held3 (fun w'=>w'.cell? ⟨w1.heap.size,0,none⟩=some (.int .i64 (o:Int))∧w'.cell? ⟨w1.heap.size,1,none⟩=some (.int .i64 (ct:Int))∧w'.cell? ⟨w1.heap.size,2,none⟩=some (.int .i64 (nd:Int))∧w'.cell? ⟨w1.heap.size,3,none⟩=some (.slice Av v.length cv)) (first | exact⟨u0,u1,u2,u3⟩ | exact⟨t0,t1,t2,t3⟩ | exact⟨r0,r1,r2,r3⟩ | exact⟨q0,q1,q2,q3⟩ | go_keep) (first
   | (go_at_call 104;go_must (refine(HR1.out _).mono ?_);rintro e w7 ⟨rfl,hb7⟩;obtain⟨r0,r1,r2,r3⟩:=(HX6.out.go hb7).four)
   | (go_at_call 130;go_must (refine(HE.out _ (HP6.out.go hb7)).mono ?_);rintro e w8 ⟨rfl,hu8⟩;have hX8:=(HX6.out.go hb7).but hu8 (by omega);obtain⟨t0,t1,t2,t3⟩:=hX8.four;obtain⟨u0,u1,u2,u3⟩:=((((hX8.far (p:=⟨w.heap.size,0,none⟩) (by show _≠w.heap.size;omega) (.int .i64 0)).far (p:=⟨w.heap.size,1,none⟩) (by show _≠w.heap.size;omega) (.int .i64 0)).far (p:=⟨w.heap.size,2,none⟩) (by show _≠w.heap.size;omega) (.int .i64 0)).far (p:=⟨w.heap.size,3,none⟩) (by show _≠w.heap.size;omega) (.slice none 0 0)).four;have hR8:=(HR6.out.go hb7).but hu8 (by omega);obtain⟨z0,z1,z2,z3⟩:=hR8.four;have y0:=hR8.frozen 0;have y1:=hR8.frozen 1;have y2:=hR8.frozen 2;have y3:=hR8.frozen 3))
  refine Nrm.out (hK _ _ ?_)
  go_wp2
  have hF:=(((hR8.set_ 0 (.int .i64 0)).set_ 1 (.int .i64 0)).set_ 2 (.int .i64 0)).set_ 3 (.slice none 0 0)
  have hbw:=below_but (btn HB6.out hb7) hu8 (by have:=hb7.size;simp at this;omega) (by omega)
  obtain⟨e1,e2,e3⟩:=g_no (d:=Wq.bd0) HP.out
  rw[e1,e2,e3]
  refine bodyPost_ret (res_ctt rfl _ _ w.heap.size 31 _ _ _ rfl hF Tryz.underlying31 rfl (by kernel_rfl)) rfl ⟨none,0,rfl,World.ownsRow_nil _ _ _ _,(((hbw.setCell (p:=⟨w.heap.size,0,none⟩) (Nat.le_refl _) _).setCell (p:=⟨w.heap.size,1,none⟩) (Nat.le_refl _) _).setCell (p:=⟨w.heap.size,2,none⟩) (Nat.le_refl _) _).setCell (p:=⟨w.heap.size,3,none⟩) (Nat.le_refl _) _⟩
def iv (l:List Int):List Value:=l.map fun x=>.int .i64 x
theorem iv_at (l:List Int) (k:Nat) (h:k < l.length):(iv l)[k]?=some (.int .i64 l[k]):=by simp[iv,List.getElem?_map,List.getElem?_eq_getElem h]
def layAll (xs:List Int):List UInt8:=xs.flatMap fun x=>Pk.lay x.toNat
theorem layAll_take (xs:List Int) (k:Nat) (h:k < xs.length):layAll (xs.take (k+1))=layAll (xs.take k)++Pk.lay (xs[k]).toNat:=by
 unfold layAll
 rw[List.take_succ_eq_append_getElem h,List.flatMap_append];simp
theorem layAll_cons (x:Int) (xs:List Int):layAll (x :: xs)=Pk.lay x.toNat++layAll xs:=by simp[layAll]
theorem u63_len {x:Int} (h:Wq.u63 x):(Pk.lay x.toNat).length≤9:=Pk.lay_len9 (by have:=h.1;have:=h.2;omega)
theorem layAll_len:∀(xs:List Int),(∀x∈xs,Wq.u63 x)→(layAll xs).length≤9 * xs.length
 | [],_=>by simp[layAll]
 | x :: r,h=>by
  have:=layAll_len r fun y hy=>h y (by simp[hy])
  have:=u63_len (h x (by simp))
  rw[layAll_cons,List.length_append,List.length_cons];omega
def BytesAre (base:Nat) (w:World) (bs:List UInt8) (v:Value) (w':World):Prop:=
 ∃A' c',v=.slice A' bs.length c'∧w'.ownsRow base 5 1 (.slice A' bs.length c') bs.length (bv bs)∧Below base w w'
theorem lay_any (A A2:Option Addr) (n c m c2:Nat) (l:List UInt8) (xs:List Int) (w:World) (hl:l.length=n) (hR:Rd w w.heap.size 1 A n c (bv l)) (hx:xs.length=m) (hR2:Rd w w.heap.size 1 A2 m c2 (iv xs))
  (hu:∀x∈xs,Wq.u63 x) (h0:0 < m) (hn:n+9 * m≤140737488355328):
  Calls Tryz.prog 103 #[.slice A n c,.slice A2 m c2] w fun e w'=>∃v,e=.returned v∧BytesAre w.heap.size w (l++layAll xs) v w':=by
 have hmax:m≤9223372036854775807:=by have h1:=hR2.cap;have h2:=hR2.max;unfold maxLen at h2;omega
 have HLA:=Hz_ (layAll_len)
 have HL:=Hz_ hl
 have HX:=Hz_ hx
 have HU:=Hz_ hu
 have HR:=Hz_ hR
 clear hl hu hR
 go_enter Tryz.func103,Tryz.ntmps103
 go_wp2
 go_loopw [0,6,9] (fun v0 _ v9 wr=>∃(k N c':Nat) (A':Option Addr),v9=.int .i64 k∧v0=.slice A' N c'∧k≤m∧N≤n+9 * k∧Rd wr wr.heap.size 1 A' N c' (bv (l++layAll (xs.take k)))∧Below w.heap.size w wr ∧
  Hid ((l++layAll (xs.take k)).length=N∧(0 < k→wr.ownsRow w.heap.size 5 1 (.slice A' N c') N (bv (l++layAll (xs.take k)))))) (fun _ _ v9 _=>m - (intOf v9).toNat)
 case atStart=>exact⟨0,n,c,A,rfl,rfl,by omega,by omega,by simpa[layAll] using HR.out,Below.refl _ _,by simp[layAll,HL.out],fun h=>absurd h (by omega)⟩
 case round=>
  obtain⟨k,N,c',A',rfl,rfl,hk,hN,hR1,hb,hq⟩:=hrel
  have hbs:=hb.size
  by_cases hlt:k < m
  ·have hkx:k < xs.length:=by rw[HX.out];exact hlt
   obtain⟨ad,u,rfl,hab,hu1,hc1⟩:=hR2.at_ hlt
   rw[iv_at xs k hkx] at hu1
   obtain⟨y,hy⟩:∃y:Nat,xs[k]=(y:Int):=⟨xs[k].toNat,by have:=(HU.out _ (List.getElem_mem hkx)).1;omega⟩
   have hylt:y < 9223372036854775808:=by have:=(HU.out _ (List.getElem_mem hkx)).2;omega
   have hy9:=Pk.lay_len9 hylt
   have ht:=layAll_take xs k hkx
   rw[hy,Int.toNat_natCast] at ht
   have HT:=Hz_ ht
   rw[hy] at hu1
   simp only[Option.some.injEq] at hu1
   subst hu1
   have q1:=(hb.cell (p:=ad.add k) (by rw[block_of_add];exact hab)).trans hc1
   have G:=Hz_ (appendNumber_any A' N c' y (l++layAll (xs.take k)) wr hq.out.1 hR1 (by omega) hy9)
   have HY9:=Hz_ hy9
   obtain⟨ly,hly⟩:∃ly,ly=(Pk.lay y).length:=⟨_,rfl⟩
   rw[←hly] at G hy9
   have HLY:=Hz_ hly
   clear hR1 ht hy hkx hylt hly hc1 hR2
   go_wp2_with fail
   refine G.out.mono ?_
   rintro e w2 ⟨A2,c3,rfl,ho2,hb2⟩
   go_wp2
   go_roundw
   case rel=>
    have e1:l++layAll (xs.take (k+1))=l++layAll (xs.take k)++Pk.lay y:=by rw[HT.out,List.append_assoc]
    refine⟨k+1,N+ly,c3,A2,by go_num,rfl,by omega,by omega,by rw[e1];exact Rd.of_own ho2,btn hb hb2,?_,fun _=>?_⟩
    ·rw[e1,List.length_append,hq.out.1,HLY.out]
    ·rw[e1];exact own_less ho2 hbs
   case measure=>simp[intOf];omega
  ·obtain rfl:k=m:=by omega
   clear hR1 hR2
   go_wp2
   go_ret
   have e0:xs.take k=xs:=List.take_of_length_le (by rw[HX.out];exact Nat.le_refl _)
   obtain⟨q1,q2⟩:=hq.out
   have q3:=q2 h0
   rw[e0] at q1 q3
   exact⟨_,rfl,A',c',by rw[q1];rfl,by rw[q1];exact q3,hb⟩
theorem lS_take (sp:List Sn.Sp) (k:Nat) (h:k < sp.length):Wq.lP (sp.take (k+1))=Wq.lP (sp.take k)++layAll [sp[k].1,sp[k].2]:=by
 unfold Wq.lP
 rw[List.take_succ_eq_append_getElem h,List.flatMap_append];simp[layAll]
theorem appendSet_any (A D:Option Addr) (n c m d:Nat) (l:List UInt8) (sp:List Sn.Sp) (w:World) (hl:l.length=n) (hR:Rd w w.heap.size 1 A n c (bv l)) (hl2:sp.length=m) (hR2:Rd w w.heap.size 2 D m d (sv sp)) (hf:Sn.fmS (-2) sp=true) (hn:n+2400≤140737488355328):
  Calls Tryz.prog 30 #[.slice A n c,.slice D m d] w fun e w'=>∃v,e=.returned (.tuple #[v,.int .i64 0])∧BytesAre w.heap.size w (l++Wq.lS sp) v w':=by
 have H1:=formedS_any D m d sp w hl2 hR2
 rw[hf] at H1
 have G1:=Hz_ H1
 have hm:=Sn.fmS_128 hf
 rw[hl2] at hm
 have HU:=Hz_ (Wq.fmS_u63 hf)
 have HL2:=Hz_ hl2
 have HR:=Hz_ hR
 have HL:=Hz_ hl
 have hum:Wq.u63 (m:Int):=⟨by omega,by omega⟩
 have h1max:1≤maxLen:=by unfold maxLen;omega
 have h2max:2≤maxLen:=by unfold maxLen;omega
 clear H1 hl2 hR hl hf
 go_enter Tryz.func30,Tryz.ntmps30
 go_wp2_with fail
 refine G1.out.mono ?_
 rintro e w1 ⟨rfl,hb1⟩
 have hs1:=hb1.size
 have hbA:Below w.heap.size w (w1.alloc (.cells #[.int .i64 m] 3)):=hb1.alloc hs1 _
 have hRn:=Rd.new w1 3 1 1 #[.int .i64 m] rfl h1max
 have hRb:=HR.out.go hbA
 have G2:=Hz_ (lay_any A (some ⟨w1.heap.size,0,none⟩) n c 1 1 l [(m:Int)] (w1.alloc (.cells #[.int .i64 m] 3)) HL.out hRb rfl (by rw[World.size_alloc];exact hRn) (by simpa using hum) (by omega) (by omega))
 clear G1 hRn hRb hb1
 go_wp2_with fail
 refine G2.out.mono ?_
 rintro e w2 ⟨v2,rfl,A2,c2,rfl,ho2,hb2⟩
 have hbw2:=btn hbA hb2
 have HHL:=Hz_ (show (l++layAll [(m:Int)]).length≤n+9 by
  rw[List.length_append,HL.out]
  have:=layAll_len [(m:Int)] (by simpa using hum)
  simp at this;omega)
 obtain⟨l2,hl2⟩:∃l2,l2=l++layAll [(m:Int)]:=⟨_,rfl⟩
 rw[←hl2] at ho2 HHL
 obtain⟨n2,hn2⟩:∃n2,n2=l2.length:=⟨_,rfl⟩
 rw[←hn2] at ho2 HHL
 have hn2le:=HHL.out
 have HL22:=Hz_ hl2
 have HN2:=Hz_ hn2
 rw[←hl2,←hn2]
 clear G2 hb2 hbA hl2 hn2
 go_wp2_with fail
 go_loopw [6,8,19] (fun v6 _ v19 wr=>∃(k N c':Nat) (A':Option Addr),v19=.int .i64 k∧v6=.slice A' N c'∧k≤m∧N≤n2+18 * k∧wr.ownsRow w.heap.size 5 1 (.slice A' N c') N (bv (l2++Wq.lP (sp.take k)))∧Below w.heap.size w wr ∧
  Hid ((l2++Wq.lP (sp.take k)).length=N)) (fun _ _ v19 _=>m - (intOf v19).toNat)
 case atStart=>exact⟨0,n2,c2,A2,rfl,rfl,by omega,by omega,by simpa[Wq.lP] using own_less ho2 (by simp;omega),hbw2,by show _=_;simp[Wq.lP,HN2.out]⟩
 case round=>
  obtain⟨k,N,c',A',rfl,rfl,hk,hN,ho,hb,hq⟩:=hrel
  have hbs:=hb.size
  have HO:=Hz_ ho
  by_cases hlt:k < m
  ·have hks:k < sp.length:=by rw[HL2.out];exact hlt
   obtain⟨b,o,rfl,hab,g0,g1⟩:=hR2.stamp HL2.out hlt
   have h0:=(hb.cell (p:=⟨b,o+k * 2,none⟩) hab).trans g0
   have h1:=(hb.cell (p:=⟨b,o+k * 2+1,none⟩) hab).trans g1
   have HT:=Hz_ (lS_take sp k hks)
   have HUk:=Hz_ (HU.out _ (List.getElem_mem hks))
   generalize hlo:(sp[k]'hks).1=lo at h0 g0 HT HUk
   generalize hhi:(sp[k]'hks).2=hi at h1 g1 HT HUk
   have hbA:Below w.heap.size w ((wr.alloc (.cells #[.int .i64 lo,.int .i64 hi] 63)).alloc (.cells #[.int .i64 lo,.int .i64 hi] 3)):=(hb.alloc hbs _).alloc (by simp;omega) _
   have hRn:=Rd.new (wr.alloc (.cells #[.int .i64 lo,.int .i64 hi] 63)) 3 1 2 #[.int .i64 lo,.int .i64 hi] rfl h2max
   have hRb:=((Rd.of_own ho).alloc (Nat.le_refl _) (.cells #[.int .i64 lo,.int .i64 hi] 63)).alloc (by simp) (.cells #[.int .i64 lo,.int .i64 hi] 3)
   have hu2:∀x∈[lo,hi],Wq.u63 x:=by
    intro x hx
    simp only[List.mem_cons,List.not_mem_nil,or_false] at hx
    rcases hx with rfl | rfl
    ·exact HUk.out.1
    ·exact HUk.out.2
   have G3:=Hz_ (lay_any A' (some ⟨wr.heap.size+1,0,none⟩) N c' 2 2 (l2++Wq.lP (sp.take k)) [lo,hi] _ hq.out (hRb.more (by simp;omega)) rfl (by rw[World.size_alloc] at hRn;rw[World.size_alloc,World.size_alloc];exact hRn) hu2 (by omega) (by omega))
   have HE:=Hz_ (layAll_len [lo,hi] hu2)
   have HBA:=Hz_ hbA
   clear hlo hhi ho hRn hRb hu2 hks hb hbA g0 g1 hR2 HUk
   go_wp2_with fail
   refine G3.out.mono ?_
   rintro e w3 ⟨v3,rfl,A3,c3,rfl,ho3,hb3⟩
   have hb4:=btn HBA.out hb3
   have e1:l2++Wq.lP (sp.take k)++layAll [lo,hi]=l2++Wq.lP (sp.take (k+1)):=by rw[HT.out,List.append_assoc]
   have hlen:(l2++Wq.lP (sp.take k)++layAll [lo,hi]).length≤N+18:=by
    have:=HE.out
    rw[List.length_append,hq.out];simp at this;omega
   obtain⟨N3,hN3⟩:∃N3,N3=(l2++Wq.lP (sp.take k)++layAll [lo,hi]).length:=⟨_,rfl⟩
   rw[←hN3] at ho3 hlen ⊢
   rw[e1] at hN3 ho3
   have HN3:=Hz_ hN3
   clear G3 hb3 e1 hN3
   go_wp2
   go_roundw
   case rel=>
    exact⟨k+1,N3,c3,A3,by go_num,rfl,by omega,by omega,own_less ho3 (by simp;omega),hb4,HN3.out.symm⟩
   case measure=>simp[intOf];omega
  ·obtain rfl:k=m:=by omega
   clear hR2 ho
   go_wp2
   go_ret2
   have e0:sp.take k=sp:=List.take_of_length_le (by rw[HL2.out];exact Nat.le_refl _)
   have q1:=hq.out
   have q3:=HO.out
   rw[e0,HL22.out] at q1 q3
   have e2:l++layAll [(k:Int)]++Wq.lP sp=l++Wq.lS sp:=by
    unfold Wq.lS;rw[HL2.out];simp[layAll]
   rw[e2] at q1 q3
   exact⟨_,rfl,A',c',by rw[q1];rfl,by rw[q1];exact q3,hb⟩
end Go.Proofs.YtmbeahbgafkjfaaGreatDoor
