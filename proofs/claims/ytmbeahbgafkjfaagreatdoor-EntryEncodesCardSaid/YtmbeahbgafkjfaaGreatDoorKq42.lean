/- Lemmas for the claim, layer 42. -/
import Derived.Test.YtmbeahbgafkjfaaGreatDoorKq39
import Derived.Test.YtmbeahbgafkjfaaGreatDoorKq41
set_option maxRecDepth 100000
set_option linter.unusedSimpArgs false
set_option maxHeartbeats 16000000
namespace Go.Proofs.YtmbeahbgafkjfaaGreatDoor
open Go.RowKit
open Wq in
theorem entF_kinds {x:Ent} (h:entF x=true):x.kind=1∨x.kind=2∨x.kind=3∨x.kind=4∨x.kind=5:=by
 by_cases hk:x.kind=1∨x.kind=2∨x.kind=3∨x.kind=4∨x.kind=5
 ·exact hk
 ·rw[entF_no x hk] at h;cases h
theorem entF_p1 {x:Ent} (h:entF x=true) (k:x.kind=1):ntF x.note=true:=by
 rw[entF_1 x k,Bool.and_eq_true] at h;exact h.1
theorem entF_p2 {x:Ent} (h:entF x=true) (k:x.kind=2):Wq.bdF x.body=true:=by
 rw[entF_2 x k,Bool.and_eq_true] at h;exact h.1
theorem entF_p3 {x:Ent} (h:entF x=true) (k:x.kind=3):ntF x.note=true∧∃q,x.note.w=[q]∧(q.2.2=false→Wq.bdF x.body=true):=by
 rw[entF_3b x k,Bool.and_eq_true] at h
 by_cases h1:x.note.w.length=1
 ·obtain⟨q,hq,e⟩:=oneW_yes h1
  have h2:=h.2
  rw[e,Bool.and_eq_true] at h2
  refine⟨h2.1,q,hq,fun hg=>?_⟩
  have h3:=h2.2
  unfold ofWr at h3
  rw[if_neg (by rw[hg];decide),Bool.and_eq_true] at h3
  exact h3.1
 ·rw[oneW_no h1] at h;cases h.2
theorem entF_p4 {x:Ent} (h:entF x=true) (k:x.kind=4):(0≤x.from_∧x.from_≤63)∧Sn.fmS (-2) x.int=true:=by
 rw[entF_4 x k] at h
 simp only[Bool.and_eq_true,decide_eq_true_eq] at h
 exact h.1
theorem entF_p5 {x:Ent} (h:entF x=true) (k:x.kind=5):vwF x.view=true∧restF x.subs=true:=by
 rw[entF_5 x k,Bool.and_eq_true,Bool.and_eq_true] at h
 exact h.1
theorem lE1 {x:Ent} (k:x.kind=1):lEnt x=layAll [x.kind]++Wq.lNt x.note:=by
 unfold lEnt lI layAll;rw[if_pos k];simp
theorem lE2 {x:Ent} (k:x.kind=2):lEnt x=layAll [x.kind]++Wq.lB x.body:=by
 unfold lEnt lI layAll;rw[if_neg (by omega),if_pos k];simp
theorem lE3 {x:Ent} (k:x.kind=3) {q:Wr} (hq:x.note.w=[q]):lEnt x=layAll [x.kind]++Wq.lNt x.note++(if q.2.2=true then [] else Wq.lB x.body):=by
 unfold lEnt lI layAll;rw[if_neg (by omega),if_neg (by omega),if_pos k,hq];simp
theorem lE4 {x:Ent} (k:x.kind=4):lEnt x=layAll [x.kind]++layAll [x.from_]++Wq.lS x.int:=by
 unfold lEnt lI layAll;rw[if_neg (by omega),if_neg (by omega),if_neg (by omega),if_pos k];simp
theorem lE5 {x:Ent} (k:x.kind=5):lEnt x=layAll [x.kind]++lVw x.view++layAll [(x.subs.length:Int)]++x.subs.flatMap lSb:=by
 unfold lEnt lI layAll;rw[if_neg (by omega),if_neg (by omega),if_neg (by omega),if_neg (by omega)];simp
theorem vw_lens {v:Vw} (h:vwF v=true):v.zones.length≤256∧v.held.length≤256∧v.bods.length≤256:=by
 obtain⟨h1,h2,h3,h4⟩:=Wq.vwF_parts h
 unfold caF at h4
 simp only[Bool.and_eq_true,decide_eq_true_eq] at h4
 refine⟨zF_256 h2,?_,h4.1.2.2⟩
 rcases Wq.shF_len h3 (by omega) with a | e
 ·omega
 ·rw[e];simp
theorem flat_len_le {α:Type} (f:α→List UInt8) (m:Nat):∀(l:List α),(∀x∈l,(f x).length≤m)→(l.flatMap f).length≤m * l.length
 | [],_=>by simp
 | x :: r,h=>by
  have h1:=flat_len_le f m r fun y hy=>h y (List.mem_cons_of_mem _ hy)
  have h2:=h x (List.mem_cons_self ..)
  rw[List.flatMap_cons,List.length_append,List.length_cons,Nat.mul_add,Nat.mul_one];omega
theorem lVw_len {v:Vw} (hC:Wq.VwC v) (h:v.zones.length≤256∧v.held.length≤256∧v.bods.length≤256):(lVw v).length≤1000000:=by
 obtain⟨ck,cz,ch,cb,cr⟩:=hC
 have k1:=lV_len ck.1 ck.2
 have k2:=flat_len_le lZn 1200 v.zones fun x hx=>by
  obtain⟨⟨a,b⟩,c,d⟩:=cz.2 x hx
  have:=u63_len a;have:=u63_len b;have:=lV_len c d
  unfold lZn lI;simp only[List.length_append];omega
 have k3:=flat_len_le lHd 40 v.held fun x hx=>by
  obtain⟨a,b,c⟩:=ch.2 x hx
  have:=u63_len a;have:=u63_len b;have:=u63_len c;have:=u63_len (Wq.u63_g x.2.2)
  unfold lHd lI;simp only[List.length_append];omega
 have k4:=flat_len_le Wq.lB 300 v.bods fun x hx=>lB_len (cb.2 x hx).1 (cb.2 x hx).2
 have k5:=Pk.lay_len9 (n:=v.zones.length) (by omega)
 have k6:=Pk.lay_len9 (n:=v.held.length) (by omega)
 have k7:=Pk.lay_len9 (n:=v.bods.length) (by omega)
 have k8:=u63_len cr
 unfold lVw lI
 simp only[List.length_append]
 omega
theorem entEncode_no (u:EV) (x:Ent) (L:List (ZV×Zn)) (M:List (BV×Wq.Bd)) (S:List (SV×Sb)) (w:World) (hT:Tab w) (hE:EntRd w w.heap.size u x L M S) (hc:x.body.s.1 < 9223372036854775808)
  (hs1:u.nv.n1+u.nv.n2+u.nv.n3+u.nv.n4≤9223372036854775807) (hs2:x.view.known.length+x.view.zones.length+x.view.held.length+x.view.bods.length≤9223372036854775807) (hf:entF x=false):
  Calls Tryz.prog 9 #[.agg (eval x u)] w fun e w'=>e=.returned (.tuple #[.slice none 0 0,.int .i64 1])∧Below w.heap.size w w':=by
 have hb0:Below w.heap.size w (w.alloc (.cells (eval x u) 38)):=(Below.refl _ _).alloc (Nat.le_refl _) _
 have G1:=entFormed_any u x L M S _ (hT.below hb0) (hE.go hb0) hc hs1 hs2
 rw[hf] at G1
 have hX:=(Blk.new w 38 (eval x u))
 unfold eval at hX G1 hb0 ⊢
 obtain⟨p0,p1,p2,p3,p4,p5,p6,p7,p8,p9,p10,p11,p12,p13,p14,p15,p16⟩:=hX.c17
 have G1:=Hz_ G1
 have HB:=Hz_ hb0
 clear hf hb0 hT hE hX hs1 hs2 hc
 go_enter Tryz.func9,Tryz.ntmps9
 go_wp2_with (go_at_call 12;go_must (refine G1.out.mono ?_);rintro e w1 ⟨rfl,hb1⟩)
 go_ret2
 exact⟨rfl,btn HB.out hb1⟩
theorem entEncode_any (u:EV) (x:Ent) (L:List (ZV×Zn)) (M:List (BV×Wq.Bd)) (S:List (SV×Sb)) (w:World) (hT:Tab w) (hE:EntRd w w.heap.size u x L M S) (hc:Wq.EntC x)
  (hs1:u.nv.n1+u.nv.n2+u.nv.n3+u.nv.n4≤9223372036854775807) (hs2:x.view.known.length+x.view.zones.length+x.view.held.length+x.view.bods.length≤9223372036854775807) (hf:entF x=true):
  Calls Tryz.prog 9 #[.agg (eval x u)] w fun e w'=>∃v,e=.returned (.tuple #[v,.int .i64 0])∧BytesAre w.heap.size w (lEnt x) v w':=by
 have hb0:Below w.heap.size w (w.alloc (.cells (eval x u) 38)):=(Below.refl _ _).alloc (Nat.le_refl _) _
 have hT0:=hT.below hb0
 have hE0:=hE.go hb0
 have G1:=entFormed_any u x L M S _ hT0 hE0 hc.b hs1 hs2
 rw[hf] at G1
 have hX:=(Blk.new w 38 (eval x u))
 have hs0:(w.alloc (.cells (eval x u) 38)).heap.size=w.heap.size+1:=by simp
 generalize hW0:w.alloc (.cells (eval x u) 38)=W0 at hb0 hT0 hE0 G1 hX hs0
 have HX:=Hz_ fun (W:World) (hb:Below W0.heap.size W0 W)=>(hX.go hb).c17
 have hkk:=entF_kinds hf
 have GN:=Hz_ fun (W:World) (hb:Below W0.heap.size W0 W) (A:Option Addr) (c:Nat) (y:List UInt8) (hR:Rd W W.heap.size 1 A y.length c (bv y)) (hy:y.length≤100) (hn:ntF x.note=true)=>appendNote_any A y.length c y u.nv x.note W (hT0.below hb) rfl hR (hE0.nt.go hb) hn hc.n (by omega)
 have GB:=Hz_ fun (W:World) (hb:Below W0.heap.size W0 W) (A:Option Addr) (c:Nat) (y:List UInt8) (hR:Rd W W.heap.size 1 A y.length c (bv y)) (hy:y.length≤30000) (hbd:Wq.bdF x.body=true)=>appendBody_any A y.length c y x.body u.bA u.bc W rfl hR (hE0.bd.go hb) hbd hc.b (by omega)
 have GS:=Hz_ fun (W:World) (hb:Below W0.heap.size W0 W) (A:Option Addr) (c:Nat) (y:List UInt8) (hR:Rd W W.heap.size 1 A y.length c (bv y)) (hy:y.length≤100) (hi:Sn.fmS (-2) x.int=true)=>appendSet_any A u.iA y.length c x.int.length u.ic y x.int W rfl hR rfl (hE0.it.go hb) hi (by omega)
 have GV:=Hz_ fun (W:World) (hb:Below W0.heap.size W0 W) (A:Option Addr) (c:Nat) (y:List UInt8) (hR:Rd W W.heap.size 1 A y.length c (bv y)) (hy:y.length≤100) (hv:vwF x.view=true)=>entView_any A y.length c y u.vv x.view L M W rfl hR (hE0.vw.go hb) (Wq.vwC_of hv hc) (vw_lens hv).1 (vw_lens hv).2.1 (vw_lens hv).2.2 (by omega)
 have P1:=Hz_ (fun k=>entF_p1 hf k)
 have P2:=Hz_ (fun k=>entF_p2 hf k)
 have P3:=Hz_ (fun k=>entF_p3 hf k)
 have P4:=Hz_ (fun k=>entF_p4 hf k)
 have P5:=Hz_ (fun k=>entF_p5 hf k)
 have NL:=Hz_ (fun h=>lNt_small (x:=x.note) h hc.n)
 have VL:=Hz_ (fun h=>lVw_len (Wq.vwC_of (x:=x) h hc) (vw_lens h))
 have Q1:=Hz_ (fun k=>lE1 (x:=x) k)
 have Q2:=Hz_ (fun k=>lE2 (x:=x) k)
 have Q3:=Hz_ (fun k q hq=>lE3 (x:=x) k (q:=q) hq)
 have Q4:=Hz_ (fun k=>lE4 (x:=x) k)
 have Q5:=Hz_ (fun k=>lE5 (x:=x) k)
 have HL4:=Hz_ hE0.nt.l4
 have HWR:=Hz_ fun (W:World) (hb:Below W0.heap.size W0 W) (hk:0 < x.note.w.length)=>(hE0.nt.go hb).r4.write hE0.nt.l4 hk
 have HSR:=Hz_ fun (W:World) (hb:Below W0.heap.size W0 W) (j:Nat) (hj:j < S.length)=>(hE0.sb.go hb).sub hj
 have HSE:=Hz_ fun (W:World) (hb:Below W0.heap.size W0 W) (j:Nat) (hj:j < S.length)=>(hE0.sb.go hb).each _ (List.getElem_mem hj)
 have HNS:=Hz_ hE0.ns
 have HSL:S.length=x.subs.length:=hE0.sb.len
 clear hE hT hE0 hT0 hs1 hs2 hX hc hf
 generalize lEnt x=lE at Q1 Q2 Q3 Q4 Q5 ⊢
 obtain⟨k_,nt,⟨bo,⟨ba,bb⟩,bvx⟩,fr,it,⟨known,zones,held,bods,rm⟩,subs⟩:=x
 obtain⟨⟨A1,n1,c1,A2,n2,c2,A3,n3,c3,A4,n4,c4⟩,bA,bc,iA,ic,⟨kA,kc,zA,zc,hA,hc,vA,vc⟩,sA,sc⟩:=u
 unfold eval at G1 hW0 ⊢
 unfold bval at GB
 unfold vval at GV
 unfold NV.val at GN
 dsimp only at HX G1 hW0 hkk GN GB GS GV P1 P2 P3 P4 P5 NL VL Q1 Q2 Q3 Q4 Q5 HL4 HWR HSR HSE HNS HSL ⊢
 generalize bvx.length=nv at HX G1 hW0 GB ⊢
 generalize it.length=ni at HX G1 hW0 GS ⊢
 generalize known.length=nk at HX G1 hW0 GV ⊢
 generalize zones.length=nz at HX G1 hW0 GV ⊢
 generalize held.length=nh at HX G1 hW0 GV ⊢
 generalize bods.length=nb at HX G1 hW0 GV ⊢
 generalize hns:subs.length=ns at HX G1 hW0 HSL Q5 ⊢
 have HNL:=Hz_ hns
 have G1:=Hz_ G1
 have HB0:=Hz_ hb0
 have HW0:=Hz_ hW0
 have HSL:=Hz_ HSL
 have hk63:Wq.u63 k_:=by rcases hkk with h | h | h | h | h<;>rw[h]<;>exact⟨by decide,by decide⟩
 have G2:=fun (W:World) (D:Option Addr) (d:Nat) (h:Rd W W.heap.size 1 D 1 d (iv [k_]))=>entLay_any none D 0 0 1 d [] [k_] W rfl Rd.none_ rfl h (one63 hk63) (by omega) (by omega)
 rw[List.nil_append] at G2
 have h9:=layAll_len _ (one63 hk63)
 obtain⟨hd,hhd⟩:∃x,x=layAll [k_]:=⟨_,rfl⟩
 rw[←hhd] at G2 h9 Q1 Q2 Q3 Q4 Q5
 simp only[List.length_cons,List.length_nil] at h9
 have G2:=Hz_ G2
 have HKK:=Hz_ hkk
 clear hb0 hW0 hns hhd hk63 hkk
 obtain⟨p0,p1,p2,p3,p4,p5,p6,p7,p8,p9,p10,p11,p12,p13,p14,p15,p16⟩:=HX.out _ (Below.refl _ _)
 go_enter Tryz.func9,Tryz.ntmps9
 go_upto_region 1 with fail
 rw[HW0.out]
 go_wp2_with fail
 refine G1.out.mono ?_
 rintro e w1 ⟨rfl,kw1⟩
 clear p0 p1 p2 p3 p4 p5 p6 p7 p8 p9 p10 p11 p12 p13 p14 p15 p16
 obtain⟨p0,p1,p2,p3,p4,p5,p6,p7,p8,p9,p10,p11,p12,p13,p14,p15,p16⟩:=HX.out _ kw1
 have hb':=then_alloc kw1 (.cells #[.int .i64 k_] 3)
 have NW:=Hz_ (nIs1 hb')
 have kw2:=btn kw1 hb'
 clear hb' G1
 go_wp2_with fail
 refine(G2.out _ _ _ NW.out).mono ?_
 rintro e w2 ⟨_,rfl,D,d,rfl,ho,hb'⟩
 have E:=Hz_ (own_less ho kw2.size)
 have kw:=btn kw2 hb'
 clear ho hb' NW G2 kw2 kw1
 clear p0 p1 p2 p3 p4 p5 p6 p7 p8 p9 p10 p11 p12 p13 p14 p15 p16
 obtain⟨p0,p1,p2,p3,p4,p5,p6,p7,p8,p9,p10,p11,p12,p13,p14,p15,p16⟩:=HX.out _ kw
 go_upto_region 5 with fail
 rcases HKK.out with rfl | rfl | rfl | rfl | rfl
 ·-- kind 1
  have GN1:=fun (W:World) hb A c hR=>GN.out W hb A c hd hR (by omega) (P1.out (by first | rfl | trivial))
  obtain⟨h2,hh2⟩:∃x,x=hd++Wq.lNt nt:=⟨_,rfl⟩
  rw[←hh2] at GN1
  have GN1:=Hz_ GN1
  have HE:=Hz_ (show lE=h2 by rw[hh2];exact Q1.out (by first | rfl | trivial))
  clear hh2
  go_wp2_with fail
  refine(GN1.out _ kw _ _ (Rd.of_own E.out)).mono ?_
  rintro e w3 ⟨_,rfl,D2,d2,rfl,ho,hb'⟩
  have E:=Hz_ (own_less ho kw.size)
  have kw:=btn kw hb'
  clear ho hb'
  clear p0 p1 p2 p3 p4 p5 p6 p7 p8 p9 p10 p11 p12 p13 p14 p15 p16
  obtain⟨p0,p1,p2,p3,p4,p5,p6,p7,p8,p9,p10,p11,p12,p13,p14,p15,p16⟩:=HX.out _ kw
  go_wp2
  go_ret2
  refine⟨_,rfl,?_⟩
  unfold BytesAre
  rw[show lE=h2 from HE.out]
  exact⟨D2,d2,rfl,own_less E.out (by have:=HB0.out.size;omega),btn HB0.out kw⟩
 ·-- kind 2
  have GB1:=fun (W:World) hb A c hR=>GB.out W hb A c hd hR (by omega) (P2.out (by first | rfl | trivial))
  obtain⟨h2,hh2⟩:∃x,x=hd++Wq.lB ⟨bo,(ba,bb),bvx⟩:=⟨_,rfl⟩
  rw[←hh2] at GB1
  have GB1:=Hz_ GB1
  have HE:=Hz_ (show lE=h2 by rw[hh2];exact Q2.out (by first | rfl | trivial))
  clear hh2
  go_wp2_with fail
  refine(GB1.out _ kw _ _ (Rd.of_own E.out)).mono ?_
  rintro e w3 ⟨_,rfl,D2,d2,rfl,ho,hb'⟩
  have E:=Hz_ (own_less ho kw.size)
  have kw:=btn kw hb'
  clear ho hb'
  clear p0 p1 p2 p3 p4 p5 p6 p7 p8 p9 p10 p11 p12 p13 p14 p15 p16
  obtain⟨p0,p1,p2,p3,p4,p5,p6,p7,p8,p9,p10,p11,p12,p13,p14,p15,p16⟩:=HX.out _ kw
  go_wp2
  go_ret2
  refine⟨_,rfl,?_⟩
  unfold BytesAre
  rw[show lE=h2 from HE.out]
  exact⟨D2,d2,rfl,own_less E.out (by have:=HB0.out.size;omega),btn HB0.out kw⟩
 ·-- kind 3
  obtain⟨hn,q,hq,hbd⟩:=P3.out (by first | rfl | trivial)
  have n9:=NL.out hn
  have GN1:=fun (W:World) hb A c hR=>GN.out W hb A c hd hR (by omega) hn
  have q3:=Q3.out (by first | rfl | trivial) q hq
  obtain⟨h2,hh2⟩:∃x,x=hd++Wq.lNt nt:=⟨_,rfl⟩
  have h2l:h2.length≤30000:=by rw[hh2,List.length_append];omega
  rw[←hh2] at GN1 q3
  have GN1:=Hz_ GN1
  have h1:n4=1:=by have:=HL4.out;rw[hq] at this;exact this.symm
  subst h1
  have HQ:=hq
  obtain⟨b,o,rfl,hbb,-⟩:=HWR.out _ kw (by rw[HQ];exact Nat.one_pos)
  have HXW:=Hz_ fun (V:World) (hb:Below W0.heap.size W0 V)=>(show V.cell? ⟨b,o,none⟩=some (.int .i64 q.1.1)∧V.cell? ⟨b,o+1,none⟩=some (.int .i64 q.1.2)∧V.cell? ⟨b,o+2,none⟩=some (.int .i64 q.2.1)∧V.cell? ⟨b,o+3,none⟩=some (.bool q.2.2) from by
   have h:=held_at (HWR.out V hb (by rw[HQ];exact Nat.one_pos))
   simp only[HQ,List.getElem_cons_zero,Nat.zero_mul,Nat.add_zero] at h
   exact h)
  have GB1:=Hz_ fun (W:World) hb A c hR (hg:q.2.2=false)=>GB.out W hb A c h2 hR h2l (hbd hg)
  have Q3:=Hz_ q3
  clear HWR hq HQ hbb hh2 hn hbd q3 n9
  obtain⟨⟨qa,qb⟩,qo,qg⟩:=q
  dsimp only at HXW GB1 Q3
  go_wp2_with fail
  refine(GN1.out _ kw _ _ (Rd.of_own E.out)).mono ?_
  rintro e w3 ⟨_,rfl,D2,d2,rfl,ho,hb'⟩
  have E:=Hz_ (own_less ho kw.size)
  have kw:=btn kw hb'
  clear ho hb'
  clear p0 p1 p2 p3 p4 p5 p6 p7 p8 p9 p10 p11 p12 p13 p14 p15 p16
  obtain⟨p0,p1,p2,p3,p4,p5,p6,p7,p8,p9,p10,p11,p12,p13,p14,p15,p16⟩:=HX.out _ kw
  obtain⟨x0,x1,x2,x3⟩:=HXW.out _ kw
  cases qg
  rotate_left
  ·go_wp2
   go_ret2
   refine⟨_,rfl,?_⟩
   unfold BytesAre
   rw[show lE=h2 from by have h:=Q3.out;simpa using h]
   exact⟨D2,d2,rfl,own_less E.out (by have:=HB0.out.size;omega),btn HB0.out kw⟩
  have GB2:=fun (W:World) hb A c hR=>GB1.out W hb A c hR (by first | rfl | trivial)
  obtain⟨h3,hh3⟩:∃x,x=h2++Wq.lB ⟨bo,(ba,bb),bvx⟩:=⟨_,rfl⟩
  rw[←hh3] at GB2
  replace GB2:=Hz_ GB2
  have HE:=Hz_ (show lE=h3 by have h:=Q3.out;rw[hh3];simpa using h)
  clear hh3
  go_wp2_with fail
  refine(GB2.out _ kw _ _ (Rd.of_own E.out)).mono ?_
  rintro e w4 ⟨_,rfl,D3,d3,rfl,ho,hb'⟩
  have E:=Hz_ (own_less ho kw.size)
  have kw:=btn kw hb'
  clear ho hb'
  clear p0 p1 p2 p3 p4 p5 p6 p7 p8 p9 p10 p11 p12 p13 p14 p15 p16
  obtain⟨p0,p1,p2,p3,p4,p5,p6,p7,p8,p9,p10,p11,p12,p13,p14,p15,p16⟩:=HX.out _ kw
  go_wp2
  go_ret2
  refine⟨_,rfl,?_⟩
  unfold BytesAre
  rw[show lE=h3 from HE.out]
  exact⟨D3,d3,rfl,own_less E.out (by have:=HB0.out.size;omega),btn HB0.out kw⟩
 ·-- kind 4
  obtain⟨hf4,hi4⟩:=P4.out (by first | rfl | trivial)
  have u4:Wq.u63 fr:=⟨by omega,by omega⟩
  have GL:=fun (W:World) (A D:Option Addr) (c d:Nat) (h:Rd W W.heap.size 1 A hd.length c (bv hd)) (h2:Rd W W.heap.size 1 D 1 d (iv [fr]))=>entLay_any A D hd.length c 1 d hd [fr] W rfl h rfl h2 (one63 u4) (by omega) (by omega)
  have l4:=layAll_len _ (one63 u4)
  simp only[List.length_cons,List.length_nil] at l4
  have q4:=Q4.out (by first | rfl | trivial)
  obtain⟨h2,hh2⟩:∃x,x=hd++layAll [fr]:=⟨_,rfl⟩
  have h2l:h2.length≤100:=by rw[hh2,List.length_append];omega
  rw[←hh2] at GL q4
  have GS1:=fun (W:World) hb A c hR=>GS.out W hb A c h2 hR h2l hi4
  obtain⟨h3,hh3⟩:∃x,x=h2++Wq.lS it:=⟨_,rfl⟩
  rw[←hh3] at GS1 q4
  have GL:=Hz_ GL
  have GS1:=Hz_ GS1
  have HE:=Hz_ q4
  clear hh2 hh3 q4 l4 u4 hf4 hi4
  clear p0 p1 p2 p3 p4 p5 p6 p7 p8 p9 p10 p11 p12 p13 p14 p15 p16
  have HS:=Hz_ fun (W:World) (hb:Below W0.heap.size W0 W)=>(show W.cell? ⟨w.heap.size,9,none⟩=some (.int .i64 fr)∧W.cell? ⟨w.heap.size,10,none⟩=some (.slice iA ni ic) from by obtain⟨p0,p1,p2,p3,p4,p5,p6,p7,p8,p9,p10,p11,p12,p13,p14,p15,p16⟩:=HX.out W hb;exact⟨p9,p10⟩)
  go_upto_region 14 with fail
  have kw:=kw.drew
  have E:=Hz_ (show (w2.drew).ownsRow W0.heap.size 5 1 (.slice D hd.length d) hd.length (bv hd) from E.out)
  refine region_nrm fun KK hKK=>?_
  refine wp_region_held_drew (S:=(fun W=>W.cell? ⟨w.heap.size,9,none⟩=some (.int .i64 fr)∧W.cell? ⟨w.heap.size,10,none⟩=some (.slice iA ni ic))) (by kernel_rfl) (by first | exact HS.out _ kw) (fun hHeld=>?_)
  refine puA 0 60 (HS.out _ kw) ?_
  refine puA 1 61 (HS.out _ kw) ?_
  refine puA 2 62 (HS.out _ kw) ?_
  refine puA 5 65 (HS.out _ kw) ?_
  refine puA 6 66 (HS.out _ kw) ?_
  refine puR 3 fun K hK=>?_
  go_simp
  have hb':=then_alloc kw (.cells #[.int .i64 fr] 3)
  have NW:=Hz_ (nIs1 hb')
  have E:=Hz_ (own_below E.out hb' (Nat.le_refl _))
  have kw:=btn kw hb'
  clear hb'
  refine hK.out _ _ (HS.out _ kw) fun hHeld=>?_
  clear hK K
  refine puR 4 fun K hK=>?_
  go_simp
  refine(GL.out _ _ _ _ _ (Rd.of_own E.out) NW.out).mono ?_
  rintro e W1 ⟨_,rfl,D3,d3,rfl,ho1,hb'⟩
  have E:=Hz_ (own_less ho1 kw.size)
  have kw:=btn kw hb'
  clear ho1 hb' NW
  refine hK.out _ _ (HS.out _ kw) fun hHeld=>?_
  clear hK K
  refine puR 7 fun K hK=>?_
  go_simp
  refine(GS1.out _ kw _ _ (Rd.of_own E.out)).mono ?_
  rintro e W2 ⟨_,rfl,D4,d4,rfl,ho1,hb'⟩
  have E:=Hz_ (own_less ho1 kw.size)
  have kw:=btn kw hb'
  clear ho1 hb'
  refine hK.out _ _ (HS.out _ kw) fun hHeld=>?_
  clear hK K
  refine puA 8 59 (HS.out _ kw) ?_
  refine puA 9 68 (HS.out _ kw) ?_
  refine puA 10 69 (HS.out _ kw) ?_
  refine puA 11 4 (HS.out _ kw) ?_
  refine wpAnyH_done (by kernel_rfl) ?_ _
  refine Nrm.out (hKK _ _ ?_)
  clear hHeld
  go_wp2
  go_ret2
  refine⟨_,rfl,?_⟩
  unfold BytesAre
  rw[show lE=h3 from HE.out]
  exact⟨D4,d4,rfl,own_less E.out (by have:=HB0.out.size;omega),btn HB0.out kw⟩
 ·-- kind 5
  obtain⟨hv5,hr5⟩:=P5.out (by first | rfl | trivial)
  have v9:=VL.out hv5
  unfold restF at hr5
  rw[Bool.and_eq_true,decide_eq_true_eq] at hr5
  obtain⟨hr5,hn5⟩:=hr5
  have hns:ns≤16:=by rw[←HNL.out];exact hn5
  have CS:=Wq.rstF_all hr5 (by omega)
  have GV1:=fun (W:World) hb A c hR=>GV.out W hb A c hd hR (by omega) hv5
  have q5:=Q5.out (by first | rfl | trivial)
  obtain⟨h2,hh2⟩:∃x,x=hd++lVw ⟨known,zones,held,bods,rm⟩:=⟨_,rfl⟩
  have h2l:h2.length≤1000100:=by rw[hh2,List.length_append];omega
  rw[←hh2] at GV1 q5
  have un:Wq.u63 (ns:Int):=nat63 (by omega)
  have GL:=fun (W:World) (A D:Option Addr) (c d:Nat) (h:Rd W W.heap.size 1 A h2.length c (bv h2)) (h2':Rd W W.heap.size 1 D 1 d (iv [(ns:Int)]))=>entLay_any A D h2.length c 1 d h2 [(ns:Int)] W rfl h rfl h2' (one63 un) (by omega) (by omega)
  have l5:=layAll_len _ (one63 un)
  simp only[List.length_cons,List.length_nil] at l5
  obtain⟨pre,hpre⟩:∃x,x=h2++layAll [(ns:Int)]:=⟨_,rfl⟩
  have hpl:pre.length≤1000200:=by rw[hpre,List.length_append];omega
  rw[←hpre] at GL q5
  have GV1:=Hz_ GV1
  have GL:=Hz_ GL
  have HE:=Hz_ q5
  have CS:=Hz_ fun (j:Nat) (hj:j < S.length)=>(show Wq.u63 S[j].2.from_∧Sn.fmS (-2) S[j].2.int=true from by
   have h:=CS S[j].2 (by rw[←HNS.out];exact List.mem_map_of_mem (List.getElem_mem hj))
   exact⟨h.1,h.2.1⟩)
  have TS:=Hz_ fun (j:Nat) (hj:j < S.length)=>(show pre++((sbs S).take (j+1)).flatMap lSb=(pre++((sbs S).take j).flatMap lSb)++layAll [S[j].2.from_]++Wq.lS S[j].2.int by
   rw[flat_take _ _ j (by rw[sbs_len];exact hj),sbs_at S j hj];simp[lSb,lI,layAll])
  have AS:=Hz_ (show pre++((sbs S).take ns).flatMap lSb=lE by rw[List.take_of_length_le (by rw[sbs_len,HSL.out];exact Nat.le_refl _),HNS.out];exact HE.out.symm)
  clear hh2 hpre q5 l5 un hv5 hr5 hn5 v9
  clear p0 p1 p2 p3 p4 p5 p6 p7 p8 p9 p10 p11 p12 p13 p14 p15 p16
  have HS:=Hz_ fun (W:World) (hb:Below W0.heap.size W0 W)=>(show W.cell? ⟨w.heap.size,11,none⟩=some (.slice kA nk kc)∧W.cell? ⟨w.heap.size,12,none⟩=some (.slice zA nz zc)∧W.cell? ⟨w.heap.size,13,none⟩=some (.slice hA nh hc)∧W.cell? ⟨w.heap.size,14,none⟩=some (.slice vA nb vc)∧W.cell? ⟨w.heap.size,15,none⟩=some (.int .i64 rm)∧W.cell? ⟨w.heap.size,16,none⟩=some (.slice sA ns sc) from by obtain⟨p0,p1,p2,p3,p4,p5,p6,p7,p8,p9,p10,p11,p12,p13,p14,p15,p16⟩:=HX.out W hb;exact⟨p11,p12,p13,p14,p15,p16⟩)
  go_upto_region 16 with fail
  have kw:=kw.drew
  have E:=Hz_ (show (w2.drew).ownsRow W0.heap.size 5 1 (.slice D hd.length d) hd.length (bv hd) from E.out)
  refine region_nrm fun KK hKK=>?_
  refine wp_region_held_drew (S:=(fun W=>W.cell? ⟨w.heap.size,11,none⟩=some (.slice kA nk kc)∧W.cell? ⟨w.heap.size,12,none⟩=some (.slice zA nz zc)∧W.cell? ⟨w.heap.size,13,none⟩=some (.slice hA nh hc)∧W.cell? ⟨w.heap.size,14,none⟩=some (.slice vA nb vc)∧W.cell? ⟨w.heap.size,15,none⟩=some (.int .i64 rm)∧W.cell? ⟨w.heap.size,16,none⟩=some (.slice sA ns sc))) (by kernel_rfl) (by first | exact HS.out _ kw) (fun hHeld=>?_)
  refine puA 0 72 (HS.out _ kw) ?_
  refine puA 1 73 (HS.out _ kw) ?_
  refine puA 2 74 (HS.out _ kw) ?_
  refine puA 4 76 (HS.out _ kw) ?_
  refine puA 5 77 (HS.out _ kw) ?_
  refine puA 6 78 (HS.out _ kw) ?_
  refine wpAnyH_ready (rs:=[3,7]) (by kernel_rfl) (by simp) ?_
  refine AllReadyH.cons rfl (fun K hK=>?_) (AllReadyH.cons rfl (fun K hK=>?_) AllReadyH.nil)
  ·go_simp
   refine(GV1.out _ kw _ _ (Rd.of_own E.out)).mono ?_
   rintro e W1 ⟨_,rfl,D2,d2,rfl,ho1,hb'⟩
   have E:=Hz_ (own_less ho1 kw.size)
   have kw:=btn kw hb'
   try have NW:=Hz_ (NW.out.go hb')
   clear ho1 hb'
   refine hK.out _ _ (HS.out _ kw) fun hHeld=>?_
   clear hK K
   refine puR 7 fun K hK=>?_
   go_simp
   have hb':=then_alloc kw (.cells #[.int .i64 ns] 3)
   have NW:=Hz_ (nIs1 hb')
   have E:=Hz_ (own_below E.out hb' (Nat.le_refl _))
   have kw:=btn kw hb'
   clear hb'
   refine hK.out _ _ (HS.out _ kw) fun hHeld=>?_
   clear hK K
   refine puR 8 fun K hK=>?_
   go_simp
   refine(GL.out _ _ _ _ _ (Rd.of_own E.out) NW.out).mono ?_
   rintro e W2 ⟨_,rfl,D3,d3,rfl,ho1,hb'⟩
   have E:=Hz_ (own_less ho1 kw.size)
   have kw:=btn kw hb'
   clear ho1 hb' NW
   refine hK.out _ _ (HS.out _ kw) fun hHeld=>?_
   clear hK K
   refine puA 9 4 (HS.out _ kw) ?_
   refine wpAnyH_done (by kernel_rfl) ?_ _
   refine Nrm.out (hKK _ _ ?_)
   clear hHeld
   obtain⟨p0,p1,p2,p3,p4,p5,p6,p7,p8,p9,p10,p11,p12,p13,p14,p15,p16⟩:=HX.out _ kw
   have K2:=Hz_ kw
   clear kw
   go_wp2_with fail
   go_loopw [4,6,84] (fun v4 _ v84 wr=>∃(j N c':Nat) (A':Option Addr),v84=.int .i64 j∧v4=.slice A' N c'∧j≤ns∧N≤1000200+600 * j∧Hid (wr.ownsRow W0.heap.size 5 1 (.slice A' N c') N (bv (pre++((sbs S).take j).flatMap lSb)))∧Hid ((pre++((sbs S).take j).flatMap lSb).length=N)∧Below W0.heap.size W0 wr) (fun _ _ v84 _=>ns - (intOf v84).toNat)
   case atStart=>exact⟨0,pre.length,d3,D3,rfl,rfl,by omega,by omega,by show World.ownsRow _ _ _ _ _ _ _;simpa using E.out,by show _=_;simp,K2.out⟩
   case round=>
    obtain⟨j,N,c',A',rfl,rfl,hj,hN,ho,hq,hb⟩:=hrel
    have hbs:=hb.size
    clear p0 p1 p2 p3 p4 p5 p6 p7 p8 p9 p10 p11 p12 p13 p14 p15 p16
    by_cases hlt:j < ns
    ·have hjl:j < S.length:=by rw[HSL.out];exact hlt
     obtain⟨bb',oo,rfl,hbb,g0,g1,g2,g3,g4,g5,g6⟩:=HSR.out wr hb j hjl
     have ht:=TS.out j hjl
     obtain⟨lx,hlx⟩:∃x,x=pre++((sbs S).take j).flatMap lSb:=⟨_,rfl⟩
     have hlN:lx.length=N:=by rw[hlx];exact hq.out
     rw[←hlx] at ht
     have E0:=Hz_ (show wr.ownsRow W0.heap.size 5 1 (.slice A' N c') N (bv lx) by rw[hlx];exact ho.out)
     have cs:=CS.out j hjl
     have es:=fun W hb=>HSE.out W hb j hjl
     clear hlx
     obtain⟨⟨⟨aA,ac⟩,⟨sf,si,ses,seq,lv,hr,id⟩⟩,hpx⟩:∃p,p=S[j]:=⟨_,rfl⟩
     rw[←hpx] at g0 g1 g2 g3 g4 g5 g6 cs es ht
     clear hpx
     dsimp only at g0 g1 g2 g3 g4 g5 g6 cs es ht
     have hb9:Below wr.heap.size wr (wr.alloc (.cells #[.int .i64 sf,.slice aA si.length ac,.int .i64 ses,.int .i64 seq,.bool lv,.bool hr,.bool id] 65)):=(Below.refl _ _).alloc (Nat.le_refl _) _
     have hX9:=Blk.new wr 65 #[.int .i64 sf,.slice aA si.length ac,.int .i64 ses,.int .i64 seq,.bool lv,.bool hr,.bool id]
     have kw:=btn hb hb9
     have E:=Hz_ (own_below E0.out hb9 (Nat.le_refl _))
     clear hb9 ho
     generalize hV9:wr.alloc (.cells #[.int .i64 sf,.slice aA si.length ac,.int .i64 ses,.int .i64 seq,.bool lv,.bool hr,.bool id] 65)=V9 at hX9 kw E
     have es9:=es V9 kw
     have GY1:=fun (W:World) (A D:Option Addr) (c d:Nat) (h:Rd W W.heap.size 1 A lx.length c (bv lx)) (h2:Rd W W.heap.size 1 D 1 d (iv [sf]))=>entLay_any A D lx.length c 1 d lx [sf] W rfl h rfl h2 (one63 cs.1) (by omega) (by omega)
     obtain⟨ly,hly⟩:∃x,x=lx++layAll [sf]:=⟨_,rfl⟩
     have n9:ly.length≤N+9:=by have:=layAll_len _ (one63 cs.1);rw[hly,List.length_append];simp only[List.length_cons,List.length_nil] at this;omega
     rw[←hly] at GY1 ht
     have GY2:=fun (W:World) (hb:Below V9.heap.size V9 W) (A:Option Addr) (c:Nat) (h:Rd W W.heap.size 1 A ly.length c (bv ly))=>appendSet_any A aA ly.length c si.length ac ly si W rfl h rfl (es9.go hb) cs.2 (by omega)
     obtain⟨lz,hlz⟩:∃x,x=ly++Wq.lS si:=⟨_,rfl⟩
     have HZL:=Hz_ (show lz.length≤N+600 by have:=Wq.lS_len cs.2;rw[hlz,List.length_append];omega)
     rw[←hlz] at GY2 ht
     have HT:=Hz_ ht
     obtain⟨sn,hsn⟩:∃x,x=si.length:=⟨_,rfl⟩
     rw[←hsn] at GY2 g1 hX9 hV9
     have HV9:=Hz_ hV9
     rw[hlN] at GY1
     have GY1:=Hz_ GY1
     have GY2:=Hz_ GY2
     have HS2:=Hz_ fun (W:World) (hb:Below V9.heap.size V9 W)=>(show W.cell? ⟨wr.heap.size,0,none⟩=some (.int .i64 sf)∧W.cell? ⟨wr.heap.size,1,none⟩=some (.slice aA sn ac) from ⟨(hX9.go hb).cell 0,(hX9.go hb).cell 1⟩)
     have k9:Below V9.heap.size V9 V9:=Below.refl _ _
     clear hV9 es9 hX9 es cs ht hly hlz hlN hq hb hsn
     go_upto_region 20 with fail
     rw[HV9.out]
     clear g0 g1 g2 g3 g4 g5 g6
     have kw:=kw.drew
     have k9:=k9.drew
     have E:=Hz_ (show (V9.drew).ownsRow W0.heap.size 5 1 (.slice A' N c') N (bv lx) from E.out)
     refine region_nrm fun KK hKK=>?_
     refine wp_region_held_drew (S:=(fun W=>W.cell? ⟨wr.heap.size,0,none⟩=some (.int .i64 sf)∧W.cell? ⟨wr.heap.size,1,none⟩=some (.slice aA sn ac))) (by kernel_rfl) (by first | exact HS2.out _ k9) (fun hHeld=>?_)
     refine puA 0 89 (HS2.out _ k9) ?_
     refine puA 1 90 (HS2.out _ k9) ?_
     refine puA 2 91 (HS2.out _ k9) ?_
     refine puA 5 94 (HS2.out _ k9) ?_
     refine puA 6 95 (HS2.out _ k9) ?_
     refine puR 3 fun K hK=>?_
     go_simp
     have hb':=then_alloc kw (.cells #[.int .i64 sf] 3)
     have NW:=Hz_ (nIs1 hb')
     have E:=Hz_ (own_below E.out hb' (Nat.le_refl _))
     have kw:=btn kw hb'
     have k9:=btn k9 hb'
     clear hb'
     refine hK.out _ _ (HS2.out _ k9) fun hHeld=>?_
     clear hK K
     refine puR 4 fun K hK=>?_
     go_simp
     refine(GY1.out _ _ _ _ _ (Rd.of_own E.out) NW.out).mono ?_
     rintro e W1 ⟨_,rfl,D5,d5,rfl,ho1,hb'⟩
     have E:=Hz_ (own_less ho1 kw.size)
     have kw:=btn kw hb'
     have k9:=btn k9 hb'
     clear ho1 hb' NW
     refine hK.out _ _ (HS2.out _ k9) fun hHeld=>?_
     clear hK K
     refine puR 7 fun K hK=>?_
     go_simp
     refine(GY2.out _ k9 _ _ (Rd.of_own E.out)).mono ?_
     rintro e W2 ⟨_,rfl,D4,d4,rfl,ho1,hb'⟩
     have E:=Hz_ (own_less ho1 kw.size)
     have kw:=btn kw hb'
     have k9:=btn k9 hb'
     clear ho1 hb'
     refine hK.out _ _ (HS2.out _ k9) fun hHeld=>?_
     clear hK K
     refine puA 8 88 (HS2.out _ k9) ?_
     refine puA 9 97 (HS2.out _ k9) ?_
     refine puA 10 98 (HS2.out _ k9) ?_
     refine puA 11 4 (HS2.out _ k9) ?_
     refine wpAnyH_done (by kernel_rfl) ?_ _
     refine Nrm.out (hKK _ _ ?_)
     clear hHeld
     go_wp2_with fail
     go_roundw
     case rel=>
      refine⟨j+1,lz.length,d4,D4,by go_num,rfl,by omega,by have:=HZL.out;omega,?_,?_,kw⟩
      ·show World.ownsRow _ _ _ _ _ _ _
       rw[HT.out];exact E.out
      ·show _=_
       rw[HT.out]
     case measure=>simp[intOf];omega
    ·obtain rfl:ns=j:=by omega
     have q9:=hq.out
     have q3:=ho.out
     rw[AS.out] at q9 q3
     have kw:=hb
     have E:=Hz_ (show wr.ownsRow W0.heap.size 5 1 (.slice A' lE.length c') lE.length (bv lE) by rw[q9];exact q3)
     subst q9
     clear hq ho hbs hb q3
     go_wp2
     go_ret2
     refine⟨_,rfl,?_⟩
     unfold BytesAre
     exact⟨A',c',rfl,own_less E.out (by have:=HB0.out.size;omega),btn HB0.out kw⟩
  ·go_simp
   have hb':=then_alloc kw (.cells #[.int .i64 ns] 3)
   have NW:=Hz_ (nIs1 hb')
   have E:=Hz_ (own_below E.out hb' (Nat.le_refl _))
   have kw:=btn kw hb'
   clear hb'
   refine hK.out _ _ (HS.out _ kw) fun hHeld=>?_
   clear hK K
   refine puR 3 fun K hK=>?_
   go_simp
   refine(GV1.out _ kw _ _ (Rd.of_own E.out)).mono ?_
   rintro e W1 ⟨_,rfl,D2,d2,rfl,ho1,hb'⟩
   have E:=Hz_ (own_less ho1 kw.size)
   have kw:=btn kw hb'
   try have NW:=Hz_ (NW.out.go hb')
   clear ho1 hb'
   refine hK.out _ _ (HS.out _ kw) fun hHeld=>?_
   clear hK K
   refine puR 8 fun K hK=>?_
   go_simp
   refine(GL.out _ _ _ _ _ (Rd.of_own E.out) NW.out).mono ?_
   rintro e W2 ⟨_,rfl,D3,d3,rfl,ho1,hb'⟩
   have E:=Hz_ (own_less ho1 kw.size)
   have kw:=btn kw hb'
   clear ho1 hb' NW
   refine hK.out _ _ (HS.out _ kw) fun hHeld=>?_
   clear hK K
   refine puA 9 4 (HS.out _ kw) ?_
   refine wpAnyH_done (by kernel_rfl) ?_ _
   refine Nrm.out (hKK _ _ ?_)
   clear hHeld
   obtain⟨p0,p1,p2,p3,p4,p5,p6,p7,p8,p9,p10,p11,p12,p13,p14,p15,p16⟩:=HX.out _ kw
   have K2:=Hz_ kw
   clear kw
   go_wp2_with fail
   go_loopw [4,6,84] (fun v4 _ v84 wr=>∃(j N c':Nat) (A':Option Addr),v84=.int .i64 j∧v4=.slice A' N c'∧j≤ns∧N≤1000200+600 * j∧Hid (wr.ownsRow W0.heap.size 5 1 (.slice A' N c') N (bv (pre++((sbs S).take j).flatMap lSb)))∧Hid ((pre++((sbs S).take j).flatMap lSb).length=N)∧Below W0.heap.size W0 wr) (fun _ _ v84 _=>ns - (intOf v84).toNat)
   case atStart=>exact⟨0,pre.length,d3,D3,rfl,rfl,by omega,by omega,by show World.ownsRow _ _ _ _ _ _ _;simpa using E.out,by show _=_;simp,K2.out⟩
   case round=>
    obtain⟨j,N,c',A',rfl,rfl,hj,hN,ho,hq,hb⟩:=hrel
    have hbs:=hb.size
    clear p0 p1 p2 p3 p4 p5 p6 p7 p8 p9 p10 p11 p12 p13 p14 p15 p16
    by_cases hlt:j < ns
    ·have hjl:j < S.length:=by rw[HSL.out];exact hlt
     obtain⟨bb',oo,rfl,hbb,g0,g1,g2,g3,g4,g5,g6⟩:=HSR.out wr hb j hjl
     have ht:=TS.out j hjl
     obtain⟨lx,hlx⟩:∃x,x=pre++((sbs S).take j).flatMap lSb:=⟨_,rfl⟩
     have hlN:lx.length=N:=by rw[hlx];exact hq.out
     rw[←hlx] at ht
     have E0:=Hz_ (show wr.ownsRow W0.heap.size 5 1 (.slice A' N c') N (bv lx) by rw[hlx];exact ho.out)
     have cs:=CS.out j hjl
     have es:=fun W hb=>HSE.out W hb j hjl
     clear hlx
     obtain⟨⟨⟨aA,ac⟩,⟨sf,si,ses,seq,lv,hr,id⟩⟩,hpx⟩:∃p,p=S[j]:=⟨_,rfl⟩
     rw[←hpx] at g0 g1 g2 g3 g4 g5 g6 cs es ht
     clear hpx
     dsimp only at g0 g1 g2 g3 g4 g5 g6 cs es ht
     have hb9:Below wr.heap.size wr (wr.alloc (.cells #[.int .i64 sf,.slice aA si.length ac,.int .i64 ses,.int .i64 seq,.bool lv,.bool hr,.bool id] 65)):=(Below.refl _ _).alloc (Nat.le_refl _) _
     have hX9:=Blk.new wr 65 #[.int .i64 sf,.slice aA si.length ac,.int .i64 ses,.int .i64 seq,.bool lv,.bool hr,.bool id]
     have kw:=btn hb hb9
     have E:=Hz_ (own_below E0.out hb9 (Nat.le_refl _))
     clear hb9 ho
     generalize hV9:wr.alloc (.cells #[.int .i64 sf,.slice aA si.length ac,.int .i64 ses,.int .i64 seq,.bool lv,.bool hr,.bool id] 65)=V9 at hX9 kw E
     have es9:=es V9 kw
     have GY1:=fun (W:World) (A D:Option Addr) (c d:Nat) (h:Rd W W.heap.size 1 A lx.length c (bv lx)) (h2:Rd W W.heap.size 1 D 1 d (iv [sf]))=>entLay_any A D lx.length c 1 d lx [sf] W rfl h rfl h2 (one63 cs.1) (by omega) (by omega)
     obtain⟨ly,hly⟩:∃x,x=lx++layAll [sf]:=⟨_,rfl⟩
     have n9:ly.length≤N+9:=by have:=layAll_len _ (one63 cs.1);rw[hly,List.length_append];simp only[List.length_cons,List.length_nil] at this;omega
     rw[←hly] at GY1 ht
     have GY2:=fun (W:World) (hb:Below V9.heap.size V9 W) (A:Option Addr) (c:Nat) (h:Rd W W.heap.size 1 A ly.length c (bv ly))=>appendSet_any A aA ly.length c si.length ac ly si W rfl h rfl (es9.go hb) cs.2 (by omega)
     obtain⟨lz,hlz⟩:∃x,x=ly++Wq.lS si:=⟨_,rfl⟩
     have HZL:=Hz_ (show lz.length≤N+600 by have:=Wq.lS_len cs.2;rw[hlz,List.length_append];omega)
     rw[←hlz] at GY2 ht
     have HT:=Hz_ ht
     obtain⟨sn,hsn⟩:∃x,x=si.length:=⟨_,rfl⟩
     rw[←hsn] at GY2 g1 hX9 hV9
     have HV9:=Hz_ hV9
     rw[hlN] at GY1
     have GY1:=Hz_ GY1
     have GY2:=Hz_ GY2
     have HS2:=Hz_ fun (W:World) (hb:Below V9.heap.size V9 W)=>(show W.cell? ⟨wr.heap.size,0,none⟩=some (.int .i64 sf)∧W.cell? ⟨wr.heap.size,1,none⟩=some (.slice aA sn ac) from ⟨(hX9.go hb).cell 0,(hX9.go hb).cell 1⟩)
     have k9:Below V9.heap.size V9 V9:=Below.refl _ _
     clear hV9 es9 hX9 es cs ht hly hlz hlN hq hb hsn
     go_upto_region 20 with fail
     rw[HV9.out]
     clear g0 g1 g2 g3 g4 g5 g6
     have kw:=kw.drew
     have k9:=k9.drew
     have E:=Hz_ (show (V9.drew).ownsRow W0.heap.size 5 1 (.slice A' N c') N (bv lx) from E.out)
     refine region_nrm fun KK hKK=>?_
     refine wp_region_held_drew (S:=(fun W=>W.cell? ⟨wr.heap.size,0,none⟩=some (.int .i64 sf)∧W.cell? ⟨wr.heap.size,1,none⟩=some (.slice aA sn ac))) (by kernel_rfl) (by first | exact HS2.out _ k9) (fun hHeld=>?_)
     refine puA 0 89 (HS2.out _ k9) ?_
     refine puA 1 90 (HS2.out _ k9) ?_
     refine puA 2 91 (HS2.out _ k9) ?_
     refine puA 5 94 (HS2.out _ k9) ?_
     refine puA 6 95 (HS2.out _ k9) ?_
     refine puR 3 fun K hK=>?_
     go_simp
     have hb':=then_alloc kw (.cells #[.int .i64 sf] 3)
     have NW:=Hz_ (nIs1 hb')
     have E:=Hz_ (own_below E.out hb' (Nat.le_refl _))
     have kw:=btn kw hb'
     have k9:=btn k9 hb'
     clear hb'
     refine hK.out _ _ (HS2.out _ k9) fun hHeld=>?_
     clear hK K
     refine puR 4 fun K hK=>?_
     go_simp
     refine(GY1.out _ _ _ _ _ (Rd.of_own E.out) NW.out).mono ?_
     rintro e W1 ⟨_,rfl,D5,d5,rfl,ho1,hb'⟩
     have E:=Hz_ (own_less ho1 kw.size)
     have kw:=btn kw hb'
     have k9:=btn k9 hb'
     clear ho1 hb' NW
     refine hK.out _ _ (HS2.out _ k9) fun hHeld=>?_
     clear hK K
     refine puR 7 fun K hK=>?_
     go_simp
     refine(GY2.out _ k9 _ _ (Rd.of_own E.out)).mono ?_
     rintro e W2 ⟨_,rfl,D4,d4,rfl,ho1,hb'⟩
     have E:=Hz_ (own_less ho1 kw.size)
     have kw:=btn kw hb'
     have k9:=btn k9 hb'
     clear ho1 hb'
     refine hK.out _ _ (HS2.out _ k9) fun hHeld=>?_
     clear hK K
     refine puA 8 88 (HS2.out _ k9) ?_
     refine puA 9 97 (HS2.out _ k9) ?_
     refine puA 10 98 (HS2.out _ k9) ?_
     refine puA 11 4 (HS2.out _ k9) ?_
     refine wpAnyH_done (by kernel_rfl) ?_ _
     refine Nrm.out (hKK _ _ ?_)
     clear hHeld
     go_wp2_with fail
     go_roundw
     case rel=>
      refine⟨j+1,lz.length,d4,D4,by go_num,rfl,by omega,by have:=HZL.out;omega,?_,?_,kw⟩
      ·show World.ownsRow _ _ _ _ _ _ _
       rw[HT.out];exact E.out
      ·show _=_
       rw[HT.out]
     case measure=>simp[intOf];omega
    ·obtain rfl:ns=j:=by omega
     have q9:=hq.out
     have q3:=ho.out
     rw[AS.out] at q9 q3
     have kw:=hb
     have E:=Hz_ (show wr.ownsRow W0.heap.size 5 1 (.slice A' lE.length c') lE.length (bv lE) by rw[q9];exact q3)
     subst q9
     clear hq ho hbs hb q3
     go_wp2
     go_ret2
     refine⟨_,rfl,?_⟩
     unfold BytesAre
     exact⟨A',c',rfl,own_less E.out (by have:=HB0.out.size;omega),btn HB0.out kw⟩
end Go.Proofs.YtmbeahbgafkjfaaGreatDoor
