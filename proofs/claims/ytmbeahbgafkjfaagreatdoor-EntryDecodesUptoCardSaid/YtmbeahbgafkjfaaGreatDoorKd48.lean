/- Lemmas for the claim, layer 48. -/
import Derived.Test.YtmbeahbgafkjfaaGreatDoorKd47
set_option maxRecDepth 100000
set_option linter.unusedSimpArgs false
set_option maxHeartbeats 16000000
namespace Go.Proofs.YtmbeahbgafkjfaaGreatDoor
open Go.RowKit
theorem EC.rd {W:World} {X base:Nat} {u:EV} {x:Ent} {L:List (ZV×Zn)} {M:List (BV×Wq.Bd)} {S:List (SV×Sb)} (h:EC W X base u x L M S) (hb:EntBd x):EntRd W W.heap.size u x L M S:=
 ⟨h.nt.rd,Rd.of_own h.bd,Rd.of_own h.it,h.vw.rd (fun p hp=>hb.o p.2 (by rw[←h.vw.nb];exact List.mem_map_of_mem hp)),h.sb.rd,h.ns⟩
theorem wpList_row_sub {ops:Array Oper} {rest:List Oper} {o:Oper} {a:Act} {w:World} {Q:Exit→Act→World→Prop} (hgd:Region.wanted o (yielded ops a.tmps)=true) (x:Operand) (ho:o.op=.buildSlice 36 1 #[(0,x)]) (f:Int) (A:Option Addr) (n c:Nat)
  (hx:a.eval x=.agg #[.int .i64 f,.slice A n c,.int .i64 0,.int .i64 0,.bool false,.bool false,.bool false])
  (h:wpList Tryz.prog ops Q rest (a.put o.dst (.slice (some ⟨w.heap.size,0,none⟩) 1 1)) (w.alloc (.cells #[.int .i64 f,.slice A n c,.int .i64 0,.int .i64 0,.bool false,.bool false,.bool false] 65))):wpList Tryz.prog ops Q (o :: rest) a w:=
 wpList_step fun K hK=>by
  rw[if_pos hgd]
  exact wp_op_sub ho hx (hK _ _ h)
theorem refEntDecode_any (A:Option Addr) (n c:Nat) (l:List UInt8) (w:World) (hl:l.length=n) (hR:Rd w w.heap.size 1 A n c (bv l)) (hn:n≤4294967296):
  Calls Tryz.prog 16 #[.slice A n c] w (DecE l w):=by
 obtain⟨is0,hsi0,hsz0,hsz1,hsz2⟩:=info_parts sub_info
 have h1max:1≤maxLen:=by unfold maxLen;omega
 have hb0:Below w.heap.size w ((w.alloc (.cells #[.int .i64 0,.slice none 0 0,.slice none 0 0,.slice none 0 0,.slice none 0 0,.int .i64 0,.int .i64 0,.int .i64 0,.slice none 0 0,.int .i64 0,.slice none 0 0,.slice none 0 0,.slice none 0 0,.slice none 0 0,.slice none 0 0,.int .i64 0,.slice none 0 0] 38)).alloc (.cells #[.slice A n c,.int .i64 0,.bool false] 97)):=((Below.refl _ _).alloc (Nat.le_refl _) _).alloc (by simp) _
 have hR0:=(Blk.new w 38 #[.int .i64 0,.slice none 0 0,.slice none 0 0,.slice none 0 0,.slice none 0 0,.int .i64 0,.int .i64 0,.int .i64 0,.slice none 0 0,.int .i64 0,.slice none 0 0,.slice none 0 0,.slice none 0 0,.slice none 0 0,.slice none 0 0,.int .i64 0,.slice none 0 0]).alloc (.cells #[.slice A n c,.int .i64 0,.bool false] 97)
 have hG0:=Blk.new (w.alloc (.cells #[.int .i64 0,.slice none 0 0,.slice none 0 0,.slice none 0 0,.slice none 0 0,.int .i64 0,.int .i64 0,.int .i64 0,.slice none 0 0,.int .i64 0,.slice none 0 0,.slice none 0 0,.slice none 0 0,.slice none 0 0,.slice none 0 0,.int .i64 0,.slice none 0 0] 38)) 97 #[.slice A n c,.int .i64 0,.bool false]
 rw[World.size_alloc] at hG0
 obtain⟨W0,hW0⟩:∃W0,W0=(w.alloc (.cells #[.int .i64 0,.slice none 0 0,.slice none 0 0,.slice none 0 0,.slice none 0 0,.int .i64 0,.int .i64 0,.int .i64 0,.slice none 0 0,.int .i64 0,.slice none 0 0,.slice none 0 0,.slice none 0 0,.slice none 0 0,.slice none 0 0,.int .i64 0,.slice none 0 0] 38)).alloc (.cells #[.slice A n c,.int .i64 0,.bool false] 97):=⟨_,rfl⟩
 have hs0:W0.heap.size=w.heap.size+1+1:=by rw[hW0];simp
 rw[←hW0] at hb0 hR0 hG0
 have hP0:RR W0 (w.heap.size+1) l (some l):=⟨A,n,c,by rw[Nat.sub_self];exact hG0,(hR.below hb0).more (by omega),hl,by rw[Nat.sub_self];rfl,Nat.le_refl _⟩
 obtain⟨g,hge⟩:∃g,g=w.heap.size+1:=⟨_,rfl⟩
 rw[←hge] at hP0
 have HGE:=Hz_ hge
 have HR0:=Hz_ (show Blk W0 w.heap.size 38 entZ from hR0)
 have HB0:=Hz_ hb0
 have hL:l.length≤4294967296:=by omega
 have G1:=Hz_ fun (W:World) (s:Option (List UInt8)) (h:RR W g l s)=>refRdNum_any g l s W h
 have G4:=Hz_ fun (W:World) (s:Option (List UInt8)) (h:RR W g l s)=>(refRdSet_any g l s W h hL).mono fun e W' h'=>(show ∃v A' c',e=.returned (.slice A' v.length c')∧W'.ownsRow W.heap.size 63 2 (.slice A' v.length c') v.length (sv v)∧RR W' g l (Wq.st Wq.pS s)∧But g W W'∧(∀q,Wq.st Wq.pS s=some q→v=Wq.vl Wq.pS [] s) from by rw[←setS_st,←setVS_vl];exact h')
 have G5:=Hz_ fun (W:World) (s:Option (List UInt8)) (h:RR W g l s)=>refRdNote_any g l s W h hL
 have G6:=Hz_ fun (W:World) (s:Option (List UInt8)) (h:RR W g l s)=>refRdBody_any g l s W h (by omega)
 have G7:=Hz_ fun (W:World) (s:Option (List UInt8)) (h:RR W g l s)=>refReadView_any g l s W h hL
 have HW:=Hz_ hW0.symm
 have HL:=Hz_ hl
 have HLL:=Hz_ hL
 have HKD:=Hz_ (Wq.pEnt_kind l)
 clear hl hR hG0 hW0 hR0 hb0 hL
 go_enter Tryz.func16,Tryz.ntmps16
 go_wp2_with fail
 rw[HW.out,←HGE.out]
 clear hge
 refine(G1.out _ _ hP0).mono ?_
 rintro e w1 ⟨rfl,hP1,hu1⟩
 have hs1:=hu1.size
 have hkd:=HKD.out
 obtain⟨k,hk⟩:∃x,x=numV (some l):=⟨_,rfl⟩
 obtain⟨t1,ht1⟩:∃t,t=numS (some l):=⟨_,rfl⟩
 rw[←hk] at hkd ⊢
 rw[←ht1] at hP1 hkd
 have HF:=Hz_ hkd
 have hbX:Below w1.heap.size w1 (w1.alloc (.cells #[.int .i64 k,.slice none 0 0,.slice none 0 0,.slice none 0 0,.slice none 0 0,.int .i64 0,.int .i64 0,.int .i64 0,.slice none 0 0,.int .i64 0,.slice none 0 0,.slice none 0 0,.slice none 0 0,.slice none 0 0,.slice none 0 0,.int .i64 0,.slice none 0 0] 38)):=(Below.refl _ _).alloc (Nat.le_refl _) _
 have hX:=Blk.new w1 38 #[.int .i64 k,.slice none 0 0,.slice none 0 0,.slice none 0 0,.slice none 0 0,.int .i64 0,.int .i64 0,.int .i64 0,.slice none 0 0,.int .i64 0,.slice none 0 0,.slice none 0 0,.slice none 0 0,.slice none 0 0,.slice none 0 0,.int .i64 0,.slice none 0 0]
 obtain⟨w2,hw2⟩:∃W,W=w1.alloc (.cells #[.int .i64 k,.slice none 0 0,.slice none 0 0,.slice none 0 0,.slice none 0 0,.int .i64 0,.int .i64 0,.int .i64 0,.slice none 0 0,.int .i64 0,.slice none 0 0,.slice none 0 0,.slice none 0 0,.slice none 0 0,.slice none 0 0,.int .i64 0,.slice none 0 0] 38):=⟨_,rfl⟩
 rw[←hw2] at hbX hX
 have hg0:=HGE.out
 have k2:DE W0 w2 g w1.heap.size W0.heap.size l t1 u0E ⟨k,Wq.ntz,Wq.bdz,0,[],Wq.vw0,[]⟩ [] [] []:=
  ⟨⟨hX,NtOwn.nil _ _,World.ownsRow_nil _ _ _ _,World.ownsRow_nil _ _ _ _,VwOwn.nil _ _,OwnSb.nil _ _,rfl⟩,hP1.go hbX,hu1.below (hbX.mono hs1),by omega,by omega,by omega,hs1,Nat.le_refl _⟩
 obtain⟨X,hXe⟩:∃X,X=w1.heap.size:=⟨_,rfl⟩
 rw[←hXe] at k2
 have HX:=Hz_ hXe
 have HW2:=Hz_ hw2.symm
 have KD:=Hz_ k2
 clear HKD hkd hk ht1 hP0 hP1 hu1 hbX hX hw2 k2 hXe hs1 hg0
 go_upto_region 3 with fail
 rw[HW2.out,←HX.out]
 have b0:w2.cell? ⟨X,0,none⟩=some (.int .i64 k):=KD.out.blk.cell 0
 go_upto_block 0 with fail
 go_cut [6,7] from 16 to 85 (fun _ _ wx=>∃(t:Option (List UInt8)) (u:EV) (x:Ent) (L:List (ZV×Zn)) (M:List (BV×Wq.Bd)) (S:List (SV×Sb)),Hid (DE W0 wx g X W0.heap.size l t u x L M S)∧Hid (Wq.pEnt l=Wq.fin x t))
 case first=>
  clear b0
  by_cases k1:k=1
  ·as_aux_lemma=>
   subst k1
   go_wp2_with fail
   refine(G5.out w2 t1 KD.out.rr).mono ?_
   rintro e w3 ⟨v,rfl,nt,hno,hr,hu,hv⟩
   have HN:=Hz_ (hno.less KD.out.le)
   have KD:=Hz_ (KD.out.call hu hr)
   have HF:=Hz_ (Wq.ent_1 HF.out hv)
   clear hno hr hu hv
   obtain⟨A1,n1,c1,A2,n2,c2,A3,n3,c3,A4,n4,c4⟩:=v
   rw[show NV.val ⟨A1,n1,c1,A2,n2,c2,A3,n3,c3,A4,n4,c4⟩=#[.slice A1 n1 c1,.slice A2 n2 c2,.slice A3 n3 c3,.slice A4 n4 c4] from rfl]
   have b1:w3.cell? ⟨X,1,none⟩=some (.slice none 0 0):=KD.out.blk.cell 1
   have f1:=KD.out.blk.frozen 1
   have b2:w3.cell? ⟨X,2,none⟩=some (.slice none 0 0):=KD.out.blk.cell 2
   have f2:=KD.out.blk.frozen 2
   have b3:w3.cell? ⟨X,3,none⟩=some (.slice none 0 0):=KD.out.blk.cell 3
   have f3:=KD.out.blk.frozen 3
   have b4:w3.cell? ⟨X,4,none⟩=some (.slice none 0 0):=KD.out.blk.cell 4
   have f4:=KD.out.blk.frozen 4
   go_wp2_with fail
   have hk:=KD.out.put (KD.out.note_ (v:=⟨A1,n1,c1,A2,n2,c2,A3,n3,c3,A4,n4,c4⟩) (n:=nt) HN.out)
   dsimp only at hk
   go_meet
   exact⟨_,_,_,[],[],[],Hz_ hk,HF⟩
  by_cases k2:k=2
  ·as_aux_lemma=>
   subst k2
   go_wp2_with fail
   refine(G6.out _ _ KD.out.rr).mono ?_
   rintro e w3 ⟨⟨o_,⟨a_,b_⟩,xv⟩,xA,xc,rfl,hno,hr,hu,hv⟩
   have HV:=Hz_ (own_less hno KD.out.le)
   have KD:=Hz_ (KD.out.call hu hr)
   have HF:=Hz_ (Wq.ent_2 HF.out hv)
   clear hno hr hu hv
   rw[show bval ⟨o_,(a_,b_),xv⟩ xA xc=#[.int .i64 o_,.int .i64 a_,.int .i64 b_,.slice xA xv.length xc] from rfl]
   have b5:w3.cell? ⟨X,5,none⟩=some (.int .i64 0):=KD.out.blk.cell 5
   have f5:=KD.out.blk.frozen 5
   have b6:w3.cell? ⟨X,6,none⟩=some (.int .i64 0):=KD.out.blk.cell 6
   have f6:=KD.out.blk.frozen 6
   have b7:w3.cell? ⟨X,7,none⟩=some (.int .i64 0):=KD.out.blk.cell 7
   have f7:=KD.out.blk.frozen 7
   have b8:w3.cell? ⟨X,8,none⟩=some (.slice none 0 0):=KD.out.blk.cell 8
   have f8:=KD.out.blk.frozen 8
   go_wp2_with fail
   go_meet
   exact⟨_,_,_,[],[],[],Hz_ (KD.out.put (KD.out.body_ (b:=⟨o_,(a_,b_),xv⟩) HV.out)),HF⟩
  by_cases k3:k=3
  ·as_aux_lemma=>
   subst k3
   go_wp2_with fail
   refine(G5.out w2 t1 KD.out.rr).mono ?_
   rintro e w3 ⟨v,rfl,nt,hno,hr,hu,hv⟩
   have HN:=Hz_ (hno.less KD.out.le)
   have KD:=Hz_ (KD.out.call hu hr)
   have HF:=Hz_ (Wq.ent_3 HF.out hv)
   clear hno hr hu hv
   obtain⟨A1,n1,c1,A2,n2,c2,A3,n3,c3,A4,n4,c4⟩:=v
   rw[show NV.val ⟨A1,n1,c1,A2,n2,c2,A3,n3,c3,A4,n4,c4⟩=#[.slice A1 n1 c1,.slice A2 n2 c2,.slice A3 n3 c3,.slice A4 n4 c4] from rfl]
   have b1:w3.cell? ⟨X,1,none⟩=some (.slice none 0 0):=KD.out.blk.cell 1
   have f1:=KD.out.blk.frozen 1
   have b2:w3.cell? ⟨X,2,none⟩=some (.slice none 0 0):=KD.out.blk.cell 2
   have f2:=KD.out.blk.frozen 2
   have b3:w3.cell? ⟨X,3,none⟩=some (.slice none 0 0):=KD.out.blk.cell 3
   have f3:=KD.out.blk.frozen 3
   have b4:w3.cell? ⟨X,4,none⟩=some (.slice none 0 0):=KD.out.blk.cell 4
   have f4:=KD.out.blk.frozen 4
   go_upto_region 10 with fail
   have hk:=KD.out.put (KD.out.note_ (v:=⟨A1,n1,c1,A2,n2,c2,A3,n3,c3,A4,n4,c4⟩) (n:=nt) HN.out)
   dsimp only at hk
   clear b1 f1 b2 f2 b3 f3 b4 f4 KD
   generalize (((w3.setCell ⟨X,1,none⟩ (.slice A1 n1 c1)).setCell ⟨X,2,none⟩ (.slice A2 n2 c2)).setCell ⟨X,3,none⟩ (.slice A3 n3 c3)).setCell ⟨X,4,none⟩ (.slice A4 n4 c4)=w4 at hk ⊢
   have KD:=Hz_ hk
   have b4:w4.cell? ⟨X,4,none⟩=some (.slice A4 n4 c4):=hk.blk.cell 4
   have hl4:nt.w.length=n4:=HN.out.l4
   have hr4:=hk.nt.rd.r4
   clear hk
   rcases hw:nt.w with _ | ⟨qw,t⟩
   ·obtain rfl:n4=0:=by rw[←hl4,hw];rfl
    have HF:=Hz_ (Wq.ent_3e HF.out hw)
    clear hw hl4 hr4
    go_wp2_with fail
    go_meet
    exact⟨_,_,_,[],[],[],KD,HF⟩
   ·have hm0:0 < n4:=by rw[←hl4,hw,List.length_cons];omega
    have hmd:decide (0 < n4)=true:=decide_eq_true hm0
    have hmz:¬ n4=0:=by omega
    obtain⟨b,o,rfl,hbb,g0,g1,g2,g3⟩:=hr4.write (k:=0) hl4 (by rw[hl4];exact hm0)
    have hq0:nt.w[0]'(by rw[hl4];exact hm0)=qw:=by simp[hw]
    dsimp only at g3
    rw[hq0,Nat.zero_mul,Nat.add_zero] at g3
    have HW:=Hz_ hw
    clear hw hl4 hr4 g0 g1 g2 hbb hq0
    obtain⟨qs,qo,qg⟩:=qw
    dsimp only at g3
    cases qg
    rotate_left
    ·have HF:=Hz_ (Wq.ent_3g HF.out HW.out rfl)
     go_wp2_with fail
     go_meet
     exact⟨_,_,_,[],[],[],KD,HF⟩
    go_wp2_with fail
    refine(G6.out _ _ KD.out.rr).mono ?_
    rintro e w5 ⟨⟨o_,⟨a_,b_⟩,xv⟩,xA,xc,rfl,hno,hr,hu,hv⟩
    have HV:=Hz_ (own_less hno KD.out.le)
    have KD:=Hz_ (KD.out.call hu hr)
    have HF:=Hz_ (Wq.ent_3b HF.out HW.out rfl hv)
    clear hno hr hu hv b4 g3
    rw[show bval ⟨o_,(a_,b_),xv⟩ xA xc=#[.int .i64 o_,.int .i64 a_,.int .i64 b_,.slice xA xv.length xc] from rfl]
    have b5:w5.cell? ⟨X,5,none⟩=some (.int .i64 0):=KD.out.blk.cell 5
    have f5:=KD.out.blk.frozen 5
    have b6:w5.cell? ⟨X,6,none⟩=some (.int .i64 0):=KD.out.blk.cell 6
    have f6:=KD.out.blk.frozen 6
    have b7:w5.cell? ⟨X,7,none⟩=some (.int .i64 0):=KD.out.blk.cell 7
    have f7:=KD.out.blk.frozen 7
    have b8:w5.cell? ⟨X,8,none⟩=some (.slice none 0 0):=KD.out.blk.cell 8
    have f8:=KD.out.blk.frozen 8
    go_wp2_with fail
    have hk:=KD.out.put (KD.out.body_ (b:=⟨o_,(a_,b_),xv⟩) HV.out)
    dsimp only at hk
    go_meet
    exact⟨_,_,_,[],[],[],Hz_ hk,HF⟩
  by_cases k4:k=4
  ·as_aux_lemma=>
   subst k4
   go_wp2_with fail
   refine(G1.out _ _ KD.out.rr).mono ?_
   rintro e w3 ⟨rfl,hr,hu⟩
   have KD:=Hz_ (KD.out.call hu hr)
   have hf:=fun (i:List Sn.Sp) (hi:∀q,Wq.st Wq.pS (numS t1)=some q→i=Wq.vl Wq.pS [] (numS t1))=>Wq.ent_4 HF.out hi
   obtain⟨f,hfe⟩:∃f,f=numV t1:=⟨_,rfl⟩
   rw[←hfe] at hf ⊢
   have HF:=Hz_ hf
   clear hr hu hf hfe
   have b9:w3.cell? ⟨X,9,none⟩=some (.int .i64 0):=KD.out.blk.cell 9
   have f9:=KD.out.blk.frozen 9
   go_upto_region 14 with fail
   have ks:=KD.out.put (KD.out.frm_ f)
   clear b9 f9 KD
   generalize w3.setCell ⟨X,9,none⟩ (.int .i64 f)=w4 at ks ⊢
   have KD:=Hz_ ks
   clear ks
   go_wp2_with fail
   refine(G4.out _ _ KD.out.rr).mono ?_
   rintro e w5 ⟨it,iA,ic,rfl,hno,hr,hu,hv⟩
   have HV:=Hz_ (own_less hno KD.out.le)
   have KD:=Hz_ (KD.out.call hu hr)
   have HF:=Hz_ (HF.out _ hv)
   clear hno hr hu hv
   have b10:w5.cell? ⟨X,10,none⟩=some (.slice none 0 0):=KD.out.blk.cell 10
   have f10:=KD.out.blk.frozen 10
   go_wp2_with fail
   go_meet
   exact⟨_,_,_,[],[],[],Hz_ (KD.out.put (KD.out.int_ HV.out)),HF⟩
  by_cases k5:k=5
  ·as_aux_lemma=>
   subst k5
   go_wp2_with fail
   refine(G7.out _ _ KD.out.rr).mono ?_
   rintro e w3 ⟨_,rfl,⟨kA,kc,zA,zc,hA,hc,bA,bc⟩,⟨kn,zs,hs,bs,m⟩,L,M,rfl,hno,hr,hu,hv⟩
   have HV:=Hz_ (hno.less KD.out.le)
   have hf:=Wq.ent_5 HF.out hv
   obtain⟨t2,ht2⟩:∃t,t=Wq.st Wq.pVw t1:=⟨_,rfl⟩
   rw[←ht2] at hf hr
   have KD:=Hz_ (KD.out.call hu hr)
   have HF:=Hz_ hf
   clear hno hr hu hv hf ht2
   rw[show vval ⟨kn,zs,hs,bs,m⟩ ⟨kA,kc,zA,zc,hA,hc,bA,bc⟩=#[.slice kA kn.length kc,.slice zA zs.length zc,.slice hA hs.length hc,.slice bA bs.length bc,.int .i64 m] from rfl]
   have b11:w3.cell? ⟨X,11,none⟩=some (.slice none 0 0):=KD.out.blk.cell 11
   have f11:=KD.out.blk.frozen 11
   have b12:w3.cell? ⟨X,12,none⟩=some (.slice none 0 0):=KD.out.blk.cell 12
   have f12:=KD.out.blk.frozen 12
   have b13:w3.cell? ⟨X,13,none⟩=some (.slice none 0 0):=KD.out.blk.cell 13
   have f13:=KD.out.blk.frozen 13
   have b14:w3.cell? ⟨X,14,none⟩=some (.slice none 0 0):=KD.out.blk.cell 14
   have f14:=KD.out.blk.frozen 14
   have b15:w3.cell? ⟨X,15,none⟩=some (.int .i64 0):=KD.out.blk.cell 15
   have f15:=KD.out.blk.frozen 15
   go_upto_region 17 with fail
   have hk:=KD.out.put (KD.out.view_ (z:=⟨kA,kc,zA,zc,hA,hc,bA,bc⟩) (v:=⟨kn,zs,hs,bs,m⟩) HV.out)
   dsimp only at hk
   clear b11 f11 b12 f12 b13 f13 b14 f14 b15 f15 KD
   generalize ((((w3.setCell ⟨X,11,none⟩ (.slice kA kn.length kc)).setCell ⟨X,12,none⟩ (.slice zA zs.length zc)).setCell ⟨X,13,none⟩ (.slice hA hs.length hc)).setCell ⟨X,14,none⟩ (.slice bA bs.length bc)).setCell ⟨X,15,none⟩ (.int .i64 m)=w4 at hk ⊢
   have KD:=Hz_ hk
   clear hk
   go_wp2_with fail
   refine(G1.out _ _ KD.out.rr).mono ?_
   rintro e w5 ⟨rfl,hr,hu⟩
   have hn63:=numV_lt t2
   obtain⟨c0,hc0⟩:∃f,f=numV t2:=⟨_,rfl⟩
   obtain⟨t3,ht3⟩:∃f,f=numS t2:=⟨_,rfl⟩
   have hf:=HF.out
   rw[←hc0] at hf hn63 ⊢
   rw[←ht3] at hf hr
   have hcap:Cap2 0 t3 l.length:=by
    cases t3 with
    | none=>show 0≤l.length+1;omega
    | some q=>obtain⟨_,_,_,_,_,_,_,hle⟩:=hr;show 0+q.length≤l.length;omega
   have KD:=Hz_ (KD.out.call hu hr)
   have HF:=Hz_ hf
   have HC:=Hz_ hcap
   clear hr hu hf hc0 ht3 hcap
   go_wp2_with fail
   go_loopw [6,7] (fun v6 _ wr=>∃(c:Nat) (t:Option (List UInt8)) (ss:List Sb) (S:List (SV×Sb)) (sA:Option Addr) (sc:Nat),v6=.int .i64 c∧c < 9223372036854775808∧Hid (DE W0 wr g X W0.heap.size l t ⟨u0E.nv,none,0,none,0,⟨kA,kc,zA,zc,hA,hc,bA,bc⟩,sA,sc⟩ ⟨5,Wq.ntz,Wq.bdz,0,[],⟨kn,zs,hs,bs,m⟩,ss⟩ L M S)∧Hid (Wq.pEnt l=Wq.onS (fun q=>Wq.repK Wq.pSb (fun (s:List Sb) (q:List UInt8)=>some ((⟨5,Wq.ntz,Wq.bdz,0,[],⟨kn,zs,hs,bs,m⟩,s⟩:Ent),q)) c q ss) t)∧Hid (Cap2 ss.length t l.length)) (fun v6 _ _=>(intOf v6).toNat)
   case atStart=>exact⟨c0,t3,[],[],none,0,rfl,hn63,KD,HF,HC⟩
   case round=>
    clear KD HF hn63 HC
    obtain⟨c,t,ss,S,sA,sc,rfl,hc63,KD,HF,HC⟩:=hrel
    rcases c with _ | c
    ·go_wp2_with fail
     go_meet
     exact⟨t,_,_,L,M,S,KD,Hz_ (Wq.ent_5e HF.out)⟩
    have hpos:decide (((c+1:Nat):Int) > 0)=true:=decide_eq_true (by omega)
    obtain⟨b2,_⟩:=KD.out.rr.bad
    rcases t with _ | cur
    ·have b2:_=some (Value.bool true):=b2
     go_wp2_with fail
     go_meet
     exact⟨none,_,_,L,M,S,KD,Hz_ (show Wq.pEnt l=Wq.fin (⟨5,Wq.ntz,Wq.bdz,0,[],⟨kn,zs,hs,bs,m⟩,ss⟩:Ent) none from HF.out)⟩
    have b2:_=some (Value.bool false):=b2
    have hnx:=fun (i:List Sn.Sp) (hi:∀q,Wq.st Wq.pS (numS (some cur))=some q→i=Wq.vl Wq.pS [] (numS (some cur)))=>Wq.ent_5s HF.out hi
    have hcx:Cap2 (ss.length+1) (Wq.st Wq.pS (numS (some cur))) l.length:=Wq.st_cap (fun _ _ _ h=>Wq.pS_le h) (numS_cap1 HC.out)
    have hzn:ss.length≤4294967297:=by have:=Cap2.le HC.out;have:=HLL.out;omega
    obtain⟨f,hf⟩:∃x,x=numV (some cur):=⟨_,rfl⟩
    obtain⟨u1,hu1⟩:∃x,x=numS (some cur):=⟨_,rfl⟩
    have c1:=G1.out wr (some cur) KD.out.rr
    rw[←hu1] at hnx hcx c1
    rw[←hf] at hnx c1
    have C1:=Hz_ c1
    have HNX:=Hz_ hnx
    have HCX:=Hz_ hcx
    have hgw:=KD.out.rr.lt
    clear hnx hcx hf hu1 c1 HC HF
    go_wp2_with fail
    refine C1.out.mono ?_
    rintro e w6 ⟨rfl,hP,hu⟩
    have hs_:=hu.size
    clear b2
    have hbZ:Below w6.heap.size w6 (w6.alloc (.cells #[.int .i64 f,.slice none 0 0,.int .i64 0,.int .i64 0,.bool false,.bool false,.bool false] 65)):=(Below.refl _ _).alloc (Nat.le_refl _) _
    have hZ:=Blk.new w6 65 #[.int .i64 f,.slice none 0 0,.int .i64 0,.int .i64 0,.bool false,.bool false,.bool false]
    obtain⟨W7,hW⟩:∃W,W=w6.alloc (.cells #[.int .i64 f,.slice none 0 0,.int .i64 0,.int .i64 0,.bool false,.bool false,.bool false] 65):=⟨_,rfl⟩
    rw[←hW] at hbZ hZ
    have hP:=hP.go hbZ
    have hb:But g wr W7:=hu.below (hbZ.mono hs_)
    obtain⟨Z,hZe⟩:∃Z,Z=w6.heap.size:=⟨_,rfl⟩
    rw[←hZe] at hZ
    have hZw:wr.heap.size≤Z:=by omega
    have HW:=Hz_ hW.symm
    have HZ:=Hz_ hZe
    clear hu hbZ hW hZe hs_
    go_wp2_with fail
    rw[HW.out,←HZ.out]
    refine(G4.out _ _ hP).mono ?_
    rintro e w8 ⟨it,iA,ic,rfl,ho,hP,hu,hi⟩
    have hZlt:=hZ.lt
    have hZ:=hZ.but hu (by omega)
    have zf:=hZ.frozen 1
    have zc_:=hZ.cell 1
    have hz:But Z w8 (w8.setCell ⟨Z,1,none⟩ (.slice iA it.length ic)):=But.set_ (g:=Z) w8 (p:=⟨Z,1,none⟩) rfl _
    have hZ:Blk (w8.setCell ⟨Z,1,none⟩ (.slice iA it.length ic)) Z 65 #[.int .i64 f,.slice iA it.length ic,.int .i64 0,.int .i64 0,.bool false,.bool false,.bool false]:=hZ.set_ 1 (.slice iA it.length ic)
    have hP:=hP.but hz (by omega)
    have hb:But g wr (w8.setCell ⟨Z,1,none⟩ (.slice iA it.length ic)):=(hb.trans hu).set2 hZw _
    have ho:=own_but ho hz (by omega)
    obtain⟨W9,hW⟩:∃W,W=w8.setCell ⟨Z,1,none⟩ (.slice iA it.length ic):=⟨_,rfl⟩
    rw[←hW] at hZ hP hb ho
    clear HW
    have HW:=Hz_ hW.symm
    clear hu hz hW
    go_upto_region 22 with fail
    rw[HW.out]
    clear zf zc_
    have hle:=KD.out.le
    have KD:=Hz_ (KD.out.call hb hP)
    have x1:World.cell? _ ⟨X,16,none⟩=some (.slice sA ss.length sc):=KD.out.blk.cell 16
    have HZB:=Hz_ hZ
    have hI7:(Tryz.prog.info? 65).map (·.size)=some 7:=by kernel_rfl
    have HI7:=Hz_ hI7
    clear hI7
    have hb':Below W9.heap.size W9 (W9.alloc (.cells #[.int .i64 f,.slice iA it.length ic,.int .i64 0,.int .i64 0,.bool false,.bool false,.bool false] 65)):=(Below.refl _ _).alloc (Nat.le_refl _) _
    have C:=Hz_ (rd_new hb' (size:=7) (n:=1) rfl h1max)
    have HB:=Hz_ hb'
    have HV:=Hz_ (own_below (own_less ho (show W0.heap.size≤_ by omega)) hb' (Nat.le_refl _))
    have HNX:=Hz_ (HNX.out _ hi)
    clear ho hZ hP hb hb' hi
    go_wp2_with (first | (refine wpList_load_rowg (by kernel_rfl) 65 _ rfl Z rfl 65 _ _ HZB.out Tryz.underlying65 rfl HI7.out ?_) | (refine wpList_row_sub (by kernel_rfl) _ rfl (f:Int) iA it.length ic rfl ?_) | (at_builtin;go_must (refine wpList_append_rd _ rfl (.tmp 81) (.tmp 83) _ rfl W0.heap.size 65 is0 _ 7 56 Tryz.underlying36 hsi0 hsz0 hsz1 hsz2 rfl (by decide) (.slice sA ss.length sc) ss.length (sbv S) rfl (KD.out.sb.row.alloc _) _ (some ⟨W9.heap.size,0,none⟩) 1 1 [.int .i64 f,.slice iA it.length ic,.int .i64 0,.int .i64 0,.bool false,.bool false,.bool false] rfl C.out (by simp[Value.oneCell']) (by unfold maxLen;omega) (by omega) (by have:=KD.out.le;simp;omega) ?_);intro A10 c10 w10 ho10 hg10 hat10;have hB:=blk_grow (KD.out.grow HB.out).blk (KD.out.sb.row.alloc _) hg10 (by decide);have xf:=hB.frozen 16;have xc:=hB.cell 16))
    have KZ:=(KD.out.grow HB.out).sub_ (p:=(⟨iA,ic⟩,(⟨f,it,0,0,false,false,false⟩:Sb))) HV.out hg10 ho10
    go_roundw
    case rel=>exact⟨c,Wq.st Wq.pS u1,ss++[⟨f,it,0,0,false,false,false⟩],S++[(⟨iA,ic⟩,⟨f,it,0,0,false,false,false⟩)],A10,c10,by go_num,by omega,Hz_ KZ,HNX,by rw[List.length_append];exact HCX⟩
    case measure=>first | (simp[intOf];done) | (simp[intOf];omega)
  ·have HF:=Hz_ (Wq.ent_o HF.out (by omega) (by omega) (by omega) (by omega) (by omega))
   have e1:((k:Int) == 1)=false:=by simp;omega
   have e2:((k:Int) == 2)=false:=by simp;omega
   have e3:((k:Int) == 3)=false:=by simp;omega
   have e4:((k:Int) == 4)=false:=by simp;omega
   have e5:((k:Int) == 5)=false:=by simp;omega
   go_wp2_with fail
   go_meet
   exact⟨t1,_,_,[],[],[],KD,HF⟩
 obtain⟨t,u,x,L,M,S,KD,HP⟩:=hcut
 have hi:(Tryz.prog.info? 38).map (·.size)=some entZ.size:=by kernel_rfl
 have HI:=Hz_ hi
 have HRB:=Hz_ (HR0.out.but KD.out.but (by have:=HGE.out;omega))
 have HLW:=Hz_ (show w.heap.size < wc.heap.size by have:=KD.out.but.size;omega)
 have HOUT:=Hz_ (show Below w.heap.size w wc from below_but HB0.out KD.out.but (by omega) (by have:=HGE.out;omega))
 clear hi b0
 have hzb:=KD.out.rr
 rcases t with _ | ⟨_ | ⟨ch,r⟩⟩
 ·have HD:=Hz_ (Wq.decE_no (show Wq.pEnt l=none from HP.out))
  obtain⟨b2,_⟩:=hzb.bad
  have b2:_=some (Value.bool true):=b2
  clear hzb
  go_wp2_with (refine wpList_store_blk rfl 38 _ _ rfl w.heap.size 38 _ entZ rfl rfl HRB.out HI.out rfl (by simp[entZ,Value.oneCell']) ?_;intro Wd hblk hgd)
  refine bodyPost_ret (res_ct rfl _ _ w.heap.size 38 _ _ _ rfl hblk Tryz.underlying38 rfl HI.out) rfl (.inl ⟨HD.out,rfl,HOUT.out.trans (grown_below hgd (Nat.le_of_lt HLW.out) (fun j hj=>by cases hj;exact Nat.le_refl _))⟩)
 rotate_left
 ·have HD:=Hz_ (Wq.decE_more (show Wq.pEnt l=some (x,ch :: r) from HP.out) (by simp))
  obtain⟨Ag,ng,cg,hBg,_,_,_,hle⟩:=hzb
  obtain⟨y,hy⟩:∃y:Int,y=((l.length - (ch :: r).length:Nat):Int):=⟨_,rfl⟩
  have hne:(y != (n:Int))=true:=by rw[hy,←HL.out];simp only[List.length_cons] at hle ⊢;simp;omega
  rw[←hy] at hBg
  have gc1:=hBg.cell 1
  have gc2:=hBg.cell 2
  clear hy hle hBg
  go_wp2_with (refine wpList_store_blk rfl 38 _ _ rfl w.heap.size 38 _ entZ rfl rfl HRB.out HI.out rfl (by simp[entZ,Value.oneCell']) ?_;intro Wd hblk hgd)
  refine bodyPost_ret (res_ct rfl _ _ w.heap.size 38 _ _ _ rfl hblk Tryz.underlying38 rfl HI.out) rfl (.inl ⟨HD.out,rfl,HOUT.out.trans (grown_below hgd (Nat.le_of_lt HLW.out) (fun j hj=>by cases hj;exact Nat.le_refl _))⟩)
 have hpe:Wq.pEnt l=some (x,[]):=HP.out
 have hbd:=pEnt_bd hpe HLL.out
 obtain⟨Ag,ng,cg,hBg,_⟩:=hzb
 have hat:(((l.length - ([]:List UInt8).length:Nat)):Int)=(n:Int):=by rw[HL.out];simp
 rw[hat] at hBg
 have gc1:=hBg.cell 1
 have gc2:=hBg.cell 2
 clear hBg hat
 have G:=refEntFormed_any u x L M S wc (KD.out.toEC.rd hbd)
 have HBD:=Hz_ hbd
 have hfd:entF x=false→Wq.decE l=none:=fun h=>Wq.decE_bad hpe h
 have hfg:entF x=true→Wq.decE l=some x:=fun h=>Wq.decE_good hpe h
 have HFD:=Hz_ hfd
 have HFG:=Hz_ hfg
 clear hfd hfg hbd hpe
 obtain⟨E,hEq⟩:∃E,E=eval x u:=⟨_,rfl⟩
 have HK:=Hz_ fun (W:World) (hb:Below wc.heap.size wc W)=>(show Blk W X 38 E from by rw[hEq];exact(KD.out.grow hb).blk)
 have HIL:=Hz_ (show (Tryz.prog.info? 38).map (·.size)=some E.size from by rw[hEq];kernel_rfl)
 have HO:=Hz_ (show E.all (·.oneCell')=true from by rw[hEq];simp[eval,Value.oneCell'])
 have HSZ:=Hz_ (Option.some.inj (HI.out.symm.trans HIL.out))
 rw[←hEq] at G
 have HEQ:=Hz_ hEq
 clear hEq
 generalize hz:entF x=z at G HFD HFG
 have G:=Hz_ G
 clear hz
 have HKB:=Hz_ (HK.out wc (Below.refl _ _))
 cases z
 ·go_wp2_with (first | (go_at_call 13;go_must (refine G.out.mono ?_);rintro e w9 ⟨rfl,hb9⟩;have HR9:=Hz_ (HRB.out.go hb9)) | (refine wpList_load_rowg (by kernel_rfl) 38 _ rfl X rfl 38 _ _ HKB.out Tryz.underlying38 rfl HIL.out ?_) | (refine wpList_store_blk rfl 38 _ _ rfl w.heap.size 38 _ entZ rfl rfl HR9.out HI.out rfl (by simp[entZ,Value.oneCell']) ?_;intro Wd hblk hgd))
  refine bodyPost_ret (res_ct rfl _ _ w.heap.size 38 _ _ _ rfl hblk Tryz.underlying38 rfl HI.out) rfl (.inl ⟨HFD.out (by first | rfl | trivial),rfl,(btn HOUT.out hb9).trans (grown_below hgd (by have:=HLW.out;have:=hb9.size;omega) (fun j hj=>by cases hj;exact Nat.le_refl _))⟩)
 ·go_wp2_with (first | (go_at_call 13;go_must (refine G.out.mono ?_);rintro e w9 ⟨rfl,hb9⟩;have HR9:=Hz_ (HRB.out.go hb9);have HKB:=Hz_ (HK.out w9 hb9)) | (refine wpList_load_rowg (by kernel_rfl) 38 _ rfl X rfl 38 _ _ HKB.out Tryz.underlying38 rfl HIL.out ?_) | (refine wpList_load_row rfl 38 _ rfl X rfl 38 _ _ _ HKB.out Tryz.underlying38 rfl HIL.out ?_) | (refine wpList_store_blk rfl 38 _ _ rfl w.heap.size 38 _ E rfl rfl HR9.out HIL.out HSZ.out HO.out ?_;intro Wd hblk hgd))
  have hbut:But w.heap.size w9 Wd:=But.grown hgd
  refine bodyPost_ret (res_ct rfl _ _ w.heap.size 38 _ _ _ rfl hblk Tryz.underlying38 rfl HIL.out) rfl (.inr ⟨x,u,HFG.out (by first | rfl | trivial),by rw[←HEQ.out];rfl,⟨L,M,S,?_⟩,(btn HOUT.out hb9).trans (grown_below hgd (by have:=HLW.out;have:=hb9.size;omega) (fun j hj=>by cases hj;exact Nat.le_refl _))⟩)
  exact(((KD.out.grow hb9).toEC.call hbut (by have:=KD.out.hw;omega) (by omega)).rd HBD.out)
end Go.Proofs.YtmbeahbgafkjfaaGreatDoor
