/- Lemmas for the claim, layer 44. -/
import Derived.Test.YtmbeahbgafkjfaaGreatDoorKq42
import Derived.Test.YtmbeahbgafkjfaaGreatDoorKq43
set_option maxRecDepth 100000
set_option linter.unusedSimpArgs false
set_option maxHeartbeats 16000000
namespace Go.Proofs.YtmbeahbgafkjfaaGreatDoor
open Go.RowKit
theorem wrap_u8 {x:Int} (h0:0≤x) (h1:x < 256):IntKind.u8.wrap x=x:=by
 simp only[IntKind.wrap,IntKind.signed,IntKind.bits]
 simp
 omega
theorem own_new1 (w:World) (t:TypeId) (x:Int):(w.alloc (.cells #[.int .u8 x] t)).ownsRow w.heap.size t 1 (.slice (some ⟨w.heap.size,0,none⟩) 1 1) 1 [.int .u8 x]:=
 ⟨rfl,.inr ⟨w.heap.size,1,#[.int .u8 x],rfl,Nat.le_refl _,heap_alloc_new w _,Nat.le_refl _,by unfold maxLen;omega,rfl,rfl⟩⟩
theorem own_new2 {B:Nat} {a W:World} (_:Below B a W) (t:TypeId) (x:Int):(W.alloc (.cells #[.int .u8 x] t)).ownsRow W.heap.size t 1 (.slice (some ⟨W.heap.size,0,none⟩) 1 1) 1 [.int .u8 x]:=own_new1 W t x
theorem rstF_63:∀{l:List Sb} {last:Int},rstF last l=true→∀s∈l,s.from_≤63
 | [],_,_,s,hs=>by cases hs
 | y :: r,last,h,s,hs=>by
  rw[rstF,Bool.and_eq_true] at h
  rcases List.mem_cons.1 hs with rfl | hs
  ·have h1:=h.1
   unfold sbF at h1
   simp only[Bool.and_eq_true,decide_eq_true_eq] at h1
   exact h1.1.2
  ·exact rstF_63 h.2 s hs
theorem rd_other {w w':World} {n c G o k:Nat} {ys:List Value} (h:Rd w w.heap.size 1 (some ⟨G,o,none⟩) n c ys) (hg:w.grownBy w' (some k)) (hne:G≠k):Rd w' w'.heap.size 1 (some ⟨G,o,none⟩) n c ys:=
 ⟨h.len,h.cap,h.max,h.nil,fun hn=>by
  obtain⟨ad,e,hb,hc⟩:=h.at0 hn
  injection e with e
  subst e
  have hs:=hg.size
  refine⟨_,rfl,by omega,fun j u hu=>?_⟩
  have e:=hg.block G hb (fun e=>hne (Option.some.inj e))
  have h2:=hc j u hu
  unfold World.cell? at h2 ⊢
  rw[block_of_add] at h2 ⊢
  rw[e];exact h2⟩
theorem bv_byte {x:Int} (h0:0≤x) (h1:x < 128):bv (layAll [x])=[.int .u8 x]:=by
 obtain⟨n,rfl⟩:∃n:Nat,x=(n:Int):=⟨x.toNat,by omega⟩
 unfold layAll
 simp only[List.flatMap_cons,List.flatMap_nil,List.append_nil,Int.toNat_natCast]
 rw[Pk.lay_small (by omega)]
 simp only[bv,List.map_cons,List.map_nil]
 congr 2
 show ((UInt8.ofNat n).toNat:Int)=n
 rw[UInt8.toNat_ofNat']
 omega
theorem lay_one {x:Int} (h0:0≤x) (h1:x < 128):(layAll [x]).length=1:=by
 have h:=congrArg List.length (bv_byte h0 h1)
 rw[bv_len] at h
 exact h
theorem refEncode_no (u:EV) (x:Ent) (L:List (ZV×Zn)) (M:List (BV×Wq.Bd)) (S:List (SV×Sb)) (w:World) (hE:EntRd w w.heap.size u x L M S) (hf:entF x=false):
  Calls Tryz.prog 10 #[.agg (eval x u)] w fun e w'=>e=.returned (.tuple #[.slice none 0 0,.int .i64 1])∧Below w.heap.size w w':=by
 have hb0:Below w.heap.size w (w.alloc (.cells (eval x u) 38)):=(Below.refl _ _).alloc (Nat.le_refl _) _
 have G1:=refEntFormed_any u x L M S _ (hE.go hb0)
 rw[hf] at G1
 have hX:=(Blk.new w 38 (eval x u))
 unfold eval at hX G1 hb0 ⊢
 obtain⟨p0,p1,p2,p3,p4,p5,p6,p7,p8,p9,p10,p11,p12,p13,p14,p15,p16⟩:=hX.c17
 have G1:=Hz_ G1
 have HB:=Hz_ hb0
 clear hf hb0 hE hX
 go_enter Tryz.func10,Tryz.ntmps10
 go_wp2_with (go_at_call 13;go_must (refine G1.out.mono ?_);rintro e w1 ⟨rfl,hb1⟩)
 go_ret2
 exact⟨rfl,btn HB.out hb1⟩
theorem refEncode_any (u:EV) (x:Ent) (L:List (ZV×Zn)) (M:List (BV×Wq.Bd)) (S:List (SV×Sb)) (w:World) (hE:EntRd w w.heap.size u x L M S) (hc:Wq.EntC x) (hf:entF x=true):
  Calls Tryz.prog 10 #[.agg (eval x u)] w fun e w'=>∃v,e=.returned (.tuple #[v,.int .i64 0])∧BytesAre w.heap.size w (lEnt x) v w':=by
 obtain⟨i0,hi0,hz0,hz1,hz2⟩:=info_parts u8_info
 have hb0:Below w.heap.size w (w.alloc (.cells (eval x u) 38)):=(Below.refl _ _).alloc (Nat.le_refl _) _
 have hE0:=hE.go hb0
 have G1:=refEntFormed_any u x L M S _ hE0
 rw[hf] at G1
 have hX:=(Blk.new w 38 (eval x u))
 have hs0:(w.alloc (.cells (eval x u) 38)).heap.size=w.heap.size+1:=by simp
 generalize hW0:w.alloc (.cells (eval x u) 38)=W0 at hb0 hE0 G1 hX hs0
 have HX:=Hz_ fun (W:World) (hb:Below W0.heap.size W0 W)=>(hX.go hb).c17
 have hkk:=entF_kinds hf
 have GN:=Hz_ fun (W:World) (hb:Below W0.heap.size W0 W) (hn:ntF x.note=true)=>refNoteBytes_any u.nv x.note W (hE0.nt.go hb) hn hc.n
 have GB:=Hz_ fun (W:World) (hb:Below W0.heap.size W0 W) (hbd:Wq.bdF x.body=true)=>refBodyBytes_any x.body u.bA u.bc W (hE0.bd.go hb) hbd hc.b
 have GS:=Hz_ fun (W:World) (hb:Below W0.heap.size W0 W) (hi:Sn.fmS (-2) x.int=true)=>refSetBytes_any u.iA x.int.length u.ic x.int W rfl (hE0.it.go hb) hi
 have GV:=Hz_ fun (W:World) (hb:Below W0.heap.size W0 W) (hv:vwF x.view=true)=>refEntView_any u.vv x.view L M W (hE0.vw.go hb) (Wq.vwC_of hv hc) (vw_lens hv).1 (vw_lens hv).2.1 (vw_lens hv).2.2
 have P1:=Hz_ (fun k=>entF_p1 hf k)
 have P2:=Hz_ (fun k=>entF_p2 hf k)
 have P3:=Hz_ (fun k=>entF_p3 hf k)
 have P4:=Hz_ (fun k=>entF_p4 hf k)
 have P5:=Hz_ (fun k=>entF_p5 hf k)
 have NL:=Hz_ (fun h=>lNt_small (x:=x.note) h hc.n)
 have BL:=Hz_ (fun h=>lB_len (x:=x.body) h hc.b)
 have VL:=Hz_ (fun h=>lVw_len (Wq.vwC_of (x:=x) h hc) (vw_lens h))
 have Q1:=Hz_ (fun k=>lE1 (x:=x) k)
 have Q2:=Hz_ (fun k=>lE2 (x:=x) k)
 have Q3:=Hz_ (fun k q hq=>lE3 (x:=x) k (q:=q) hq)
 have Q4:=Hz_ (fun k=>lE4 (x:=x) k)
 have Q5:=Hz_ (fun k=>lE5 (x:=x) k)
 have HL4:=Hz_ hE0.nt.l4
 have HWR:=Hz_ fun (W:World) (hb:Below W0.heap.size W0 W) (hk:0 < x.note.w.length)=>(hE0.nt.go hb).r4.write hE0.nt.l4 hk
 have HSR:=Hz_ fun (W:World) (hb:Below W0.heap.size W0 W) (j:Nat) (hj:j < S.length)=>(hE0.sb.go hb).sub hj
 have HSE:=Hz_ fun (W:World) (hb:Below W0.heap.size W0 W) (j:Nat) (hj:j < S.length)=>(hE0.sb.go hb).each _ (List.getElem_mem hj)
 have HNS:=Hz_ hE0.ns
 have HSL:S.length=x.subs.length:=hE0.sb.len
 clear hE hE0 hX hc hf
 generalize lEnt x=lE at Q1 Q2 Q3 Q4 Q5 ⊢
 obtain⟨k_,nt,⟨bo,⟨ba,bb⟩,bvx⟩,fr,it,⟨known,zones,held,bods,rm⟩,subs⟩:=x
 obtain⟨⟨A1,n1,c1,A2,n2,c2,A3,n3,c3,A4,n4,c4⟩,bA,bc,iA,ic,⟨kA,kc,zA,zc,hA,hc,vA,vc⟩,sA,sc⟩:=u
 unfold eval at G1 hW0 ⊢
 unfold bval at GB
 unfold vval at GV
 unfold NV.val at GN
 unfold BytesAre at GN GB GS GV
 dsimp only at HX G1 hW0 hkk GN GB GS GV P1 P2 P3 P4 P5 NL BL VL Q1 Q2 Q3 Q4 Q5 HL4 HWR HSR HSE HNS HSL ⊢
 generalize bvx.length=nv at HX G1 hW0 GB ⊢
 generalize it.length=ni at HX G1 hW0 GS ⊢
 generalize known.length=nk at HX G1 hW0 GV ⊢
 generalize zones.length=nz at HX G1 hW0 GV ⊢
 generalize held.length=nh at HX G1 hW0 GV ⊢
 generalize bods.length=nb at HX G1 hW0 GV ⊢
 generalize hns:subs.length=ns at HX G1 hW0 HSL Q5 ⊢
 have HNL:=Hz_ hns
 have G1:=Hz_ G1
 have HB0:=Hz_ hb0
 have HW0:=Hz_ hW0
 have HSL:=Hz_ HSL
 have hk5:1≤k_∧k_≤5:=by omega
 have HKK:=Hz_ hkk
 obtain⟨hd,hhd⟩:∃x,x=layAll [k_]:=⟨_,rfl⟩
 have hdv:=bv_byte (x:=k_) (by omega) (by omega)
 have hdl:=lay_one (x:=k_) (by omega) (by omega)
 rw[←hhd] at hdv hdl Q1 Q2 Q3 Q4 Q5
 have HDV:=Hz_ hdv
 have HDL:=Hz_ hdl
 have h1max:1≤maxLen:=by unfold maxLen;omega
 have hcv:=wrap_u8 (x:=k_) (by omega) (by omega)
 clear hb0 hW0 hns hhd hkk hdv hdl hk5
 obtain⟨p0,p1,p2,p3,p4,p5,p6,p7,p8,p9,p10,p11,p12,p13,p14,p15,p16⟩:=HX.out _ (Below.refl _ _)
 go_enter Tryz.func10,Tryz.ntmps10
 go_upto_region 1 with fail
 rw[HW0.out]
 go_wp2_with fail
 refine G1.out.mono ?_
 rintro e w1 ⟨rfl,kw1⟩
 clear p0 p1 p2 p3 p4 p5 p6 p7 p8 p9 p10 p11 p12 p13 p14 p15 p16
 obtain⟨p0,p1,p2,p3,p4,p5,p6,p7,p8,p9,p10,p11,p12,p13,p14,p15,p16⟩:=HX.out _ kw1
 clear G1
 go_upto_region 4 with fail
 have ho:=own_new1 w1 5 k_
 have E1:=Hz_ (show (w1.alloc (.cells #[.int .u8 k_] 5)).ownsRow W0.heap.size 5 1 (.slice (some ⟨w1.heap.size,0,none⟩) 1 1) 1 (bv hd) by rw[HDV.out];exact own_less ho kw1.size)
 have kw2:=kw1.alloc kw1.size (.cells #[.int .u8 k_] 5)
 obtain⟨w2,hw2⟩:∃W,W=w1.alloc (.cells #[.int .u8 k_] 5):=⟨_,rfl⟩
 have HW2:=Hz_ hw2.symm
 have E:=Hz_ (show w2.ownsRow W0.heap.size 5 1 (.slice (some ⟨w1.heap.size,0,none⟩) 1 1) 1 (bv hd) by rw[hw2];exact E1.out)
 have kw:Below W0.heap.size W0 w2:=by rw[hw2];exact kw2
 rw[HW2.out]
 clear ho hw2 hcv HW2 E1 kw1 kw2 HDV
 clear p0 p1 p2 p3 p4 p5 p6 p7 p8 p9 p10 p11 p12 p13 p14 p15 p16
 obtain⟨p0,p1,p2,p3,p4,p5,p6,p7,p8,p9,p10,p11,p12,p13,p14,p15,p16⟩:=HX.out _ kw
 go_upto_region 5 with fail
 rcases HKK.out with rfl | rfl | rfl | rfl | rfl
 ·-- kind 1
  have hp:=P1.out (by first | rfl | trivial)
  have GX:=fun (W:World) hb=>GN.out W hb hp
  have hl:=NL.out hp
  obtain⟨y,hy⟩:∃x,x=Wq.lNt nt:=⟨_,rfl⟩
  obtain⟨ly,hly⟩:∃x,x=y.length:=⟨_,rfl⟩
  have q:=Q1.out (by first | rfl | trivial)
  rw[←hy] at GX hl q
  rw[←hly] at GX hl
  have m1:1+ly≤maxLen:=by unfold maxLen;omega
  have GX:=Hz_ GX
  have HQ:=Hz_ q
  have HY:=Hz_ hly
  clear hy hly q hp
  go_wp2_with fail
  refine(GX.out _ kw).mono ?_
  rintro e w3 ⟨_,rfl,D2,d2,rfl,ho,hb'⟩
  have C:=Hz_ (Rd.of_own ho)
  have E:=Hz_ (own_below E.out hb' (Nat.le_refl _))
  have kw:=btn kw hb'
  clear ho hb'
  clear p0 p1 p2 p3 p4 p5 p6 p7 p8 p9 p10 p11 p12 p13 p14 p15 p16
  obtain⟨p0,p1,p2,p3,p4,p5,p6,p7,p8,p9,p10,p11,p12,p13,p14,p15,p16⟩:=HX.out _ kw
  go_wp2_with (at_builtin;go_must (refine wpList_append_rd _ rfl (.tmp 17) (.tmp 20) _ rfl W0.heap.size 5 i0 _ 1 1 Tryz.underlying29 hi0 hz0 hz1 hz2 rfl (by decide) _ 1 (bv hd) rfl E.out _ D2 ly d2 (bv y) rfl C.out (bv_oneCell _) m1 (by omega) kw.size ?_);intro A5 a5 w9 ho hg hat;have kw:=kw.trans (grown_below hg kw.size (fun g hg'=>(E.out.lt g hg').1));have E:=Hz_ ho;clear ho hg hat C;clear p0 p1 p2 p3 p4 p5 p6 p7 p8 p9 p10 p11 p12 p13 p14 p15 p16;obtain⟨p0,p1,p2,p3,p4,p5,p6,p7,p8,p9,p10,p11,p12,p13,p14,p15,p16⟩:=HX.out _ kw)
  go_ret2
  have e1:=HQ.out
  have e2:lE.length=1+ly:=by rw[e1];rw[List.length_append,HDL.out,HY.out]
  refine⟨_,rfl,A5,a5,by rw[e2];rfl,by rw[e2,e1];simp only[bv_app];exact own_less E.out (by have:=HB0.out.size;omega),btn HB0.out kw⟩
 ·-- kind 2
  have hp:=P2.out (by first | rfl | trivial)
  have GX:=fun (W:World) hb=>GB.out W hb hp
  have hl:=BL.out hp
  obtain⟨y,hy⟩:∃x,x=Wq.lB ⟨bo,(ba,bb),bvx⟩:=⟨_,rfl⟩
  obtain⟨ly,hly⟩:∃x,x=y.length:=⟨_,rfl⟩
  have q:=Q2.out (by first | rfl | trivial)
  rw[←hy] at GX hl q
  rw[←hly] at GX hl
  have m1:1+ly≤maxLen:=by unfold maxLen;omega
  have GX:=Hz_ GX
  have HQ:=Hz_ q
  have HY:=Hz_ hly
  clear hy hly q hp
  go_wp2_with fail
  refine(GX.out _ kw).mono ?_
  rintro e w3 ⟨_,rfl,D2,d2,rfl,ho,hb'⟩
  have C:=Hz_ (Rd.of_own ho)
  have E:=Hz_ (own_below E.out hb' (Nat.le_refl _))
  have kw:=btn kw hb'
  clear ho hb'
  clear p0 p1 p2 p3 p4 p5 p6 p7 p8 p9 p10 p11 p12 p13 p14 p15 p16
  obtain⟨p0,p1,p2,p3,p4,p5,p6,p7,p8,p9,p10,p11,p12,p13,p14,p15,p16⟩:=HX.out _ kw
  go_wp2_with (at_builtin;go_must (refine wpList_append_rd _ rfl (.tmp 24) (.tmp 27) _ rfl W0.heap.size 5 i0 _ 1 1 Tryz.underlying29 hi0 hz0 hz1 hz2 rfl (by decide) _ 1 (bv hd) rfl E.out _ D2 ly d2 (bv y) rfl C.out (bv_oneCell _) m1 (by omega) kw.size ?_);intro A5 a5 w9 ho hg hat;have kw:=kw.trans (grown_below hg kw.size (fun g hg'=>(E.out.lt g hg').1));have E:=Hz_ ho;clear ho hg hat C;clear p0 p1 p2 p3 p4 p5 p6 p7 p8 p9 p10 p11 p12 p13 p14 p15 p16;obtain⟨p0,p1,p2,p3,p4,p5,p6,p7,p8,p9,p10,p11,p12,p13,p14,p15,p16⟩:=HX.out _ kw)
  go_ret2
  have e1:=HQ.out
  have e2:lE.length=1+ly:=by rw[e1];rw[List.length_append,HDL.out,HY.out]
  refine⟨_,rfl,A5,a5,by rw[e2];rfl,by rw[e2,e1];simp only[bv_app];exact own_less E.out (by have:=HB0.out.size;omega),btn HB0.out kw⟩
 ·-- kind 3
  obtain⟨hn,q,hq,hbd⟩:=P3.out (by first | rfl | trivial)
  have hl:=NL.out hn
  have GX:=fun (W:World) hb=>GN.out W hb hn
  have q3:=Q3.out (by first | rfl | trivial) q hq
  obtain⟨y,hy⟩:∃x,x=Wq.lNt nt:=⟨_,rfl⟩
  obtain⟨ly,hly⟩:∃x,x=y.length:=⟨_,rfl⟩
  rw[←hy] at GX hl q3
  rw[←hly] at GX hl
  have m1:1+ly≤maxLen:=by unfold maxLen;omega
  have GX:=Hz_ GX
  have HY:=Hz_ hly
  have h1:n4=1:=by have:=HL4.out;rw[hq] at this;exact this.symm
  subst h1
  have HQ:=hq
  obtain⟨b,o,rfl,hbb,-⟩:=HWR.out _ kw (by rw[HQ];exact Nat.one_pos)
  have HXW:=Hz_ fun (V:World) (hb:Below W0.heap.size W0 V)=>(show V.cell? ⟨b,o,none⟩=some (.int .i64 q.1.1)∧V.cell? ⟨b,o+1,none⟩=some (.int .i64 q.1.2)∧V.cell? ⟨b,o+2,none⟩=some (.int .i64 q.2.1)∧V.cell? ⟨b,o+3,none⟩=some (.bool q.2.2) from by
   have h:=held_at (HWR.out V hb (by rw[HQ];exact Nat.one_pos))
   simp only[HQ,List.getElem_cons_zero,Nat.zero_mul,Nat.add_zero] at h
   exact h)
  have GB1:=Hz_ fun (W:World) hb (hg:q.2.2=false)=>GB.out W hb (hbd hg)
  have BL1:=Hz_ fun (hg:q.2.2=false)=>BL.out (hbd hg)
  have Q3:=Hz_ q3
  clear HWR hq HQ hbb hy hly hn hbd q3
  obtain⟨⟨qa,qb⟩,qo,qg⟩:=q
  dsimp only at HXW GB1 Q3 BL1
  obtain⟨x0,x1,x2,x3⟩:=HXW.out _ kw
  go_wp2_with fail
  refine(GX.out _ kw).mono ?_
  rintro e w3 ⟨_,rfl,D2,d2,rfl,ho,hb'⟩
  have C:=Hz_ (Rd.of_own ho)
  have E:=Hz_ (own_below E.out hb' (Nat.le_refl _))
  have kw:=btn kw hb'
  clear ho hb'
  clear p0 p1 p2 p3 p4 p5 p6 p7 p8 p9 p10 p11 p12 p13 p14 p15 p16
  obtain⟨p0,p1,p2,p3,p4,p5,p6,p7,p8,p9,p10,p11,p12,p13,p14,p15,p16⟩:=HX.out _ kw
  clear x0 x1 x2 x3
  obtain⟨x0,x1,x2,x3⟩:=HXW.out _ kw
  cases qg
  rotate_left
  ·have HXW:=HXW
   go_wp2_with (at_builtin;go_must (refine wpList_append_rd _ rfl (.tmp 31) (.tmp 34) _ rfl W0.heap.size 5 i0 _ 1 1 Tryz.underlying29 hi0 hz0 hz1 hz2 rfl (by decide) _ 1 (bv hd) rfl E.out _ D2 ly d2 (bv y) rfl C.out (bv_oneCell _) m1 (by omega) kw.size ?_);intro A5 a5 w9 ho hg hat;have kw:=kw.trans (grown_below hg kw.size (fun g hg'=>(E.out.lt g hg').1));have E:=Hz_ ho;clear ho hg hat C x0 x1 x2 x3;obtain⟨x0,x1,x2,x3⟩:=HXW.out _ kw;clear p0 p1 p2 p3 p4 p5 p6 p7 p8 p9 p10 p11 p12 p13 p14 p15 p16;obtain⟨p0,p1,p2,p3,p4,p5,p6,p7,p8,p9,p10,p11,p12,p13,p14,p15,p16⟩:=HX.out _ kw)
   go_ret2
   have e1:=(show lE=hd++y by have h:=Q3.out;simpa using h)
   have e2:lE.length=1+ly:=by rw[e1];rw[List.length_append,HDL.out,HY.out]
   refine⟨_,rfl,A5,a5,by rw[e2];rfl,by rw[e2,e1];simp only[bv_app];exact own_less E.out (by have:=HB0.out.size;omega),btn HB0.out kw⟩
  have GX2:=fun (W:World) hb=>GB1.out W hb (by first | rfl | trivial)
  have hl2:=BL1.out (by first | rfl | trivial)
  obtain⟨y2,hy2⟩:∃x,x=Wq.lB ⟨bo,(ba,bb),bvx⟩:=⟨_,rfl⟩
  obtain⟨ly2,hly2⟩:∃x,x=y2.length:=⟨_,rfl⟩
  have q3:=(show lE=hd++y++Wq.lB ⟨bo,(ba,bb),bvx⟩ by have h:=Q3.out;simpa using h)
  rw[←hy2] at GX2 hl2 q3
  rw[←hly2] at GX2 hl2
  have m2:1+ly+ly2≤maxLen:=by unfold maxLen;omega
  have GX2:=Hz_ GX2
  have HQ:=Hz_ q3
  have HY2:=Hz_ hly2
  clear hy2 hly2 q3
  go_wp2_with (at_builtin;go_must (refine wpList_append_rd _ rfl (.tmp 31) (.tmp 34) _ rfl W0.heap.size 5 i0 _ 1 1 Tryz.underlying29 hi0 hz0 hz1 hz2 rfl (by decide) _ 1 (bv hd) rfl E.out _ D2 ly d2 (bv y) rfl C.out (bv_oneCell _) m1 (by omega) kw.size ?_);intro A5 a5 w9 ho hg hat;have kw:=kw.trans (grown_below hg kw.size (fun g hg'=>(E.out.lt g hg').1));have E:=Hz_ ho;clear ho hg hat C x0 x1 x2 x3;obtain⟨x0,x1,x2,x3⟩:=HXW.out _ kw;clear p0 p1 p2 p3 p4 p5 p6 p7 p8 p9 p10 p11 p12 p13 p14 p15 p16;obtain⟨p0,p1,p2,p3,p4,p5,p6,p7,p8,p9,p10,p11,p12,p13,p14,p15,p16⟩:=HX.out _ kw)
  have E:=Hz_ (show World.ownsRow _ W0.heap.size 5 1 (.slice A5 (1+ly) a5) (1+ly) (bv (hd++y)) by rw[bv_app];exact E.out)
  refine(GX2.out _ kw).mono ?_
  rintro e w5 ⟨_,rfl,D3,d3,rfl,ho,hb'⟩
  have C:=Hz_ (Rd.of_own ho)
  have E:=Hz_ (own_below E.out hb' (Nat.le_refl _))
  have kw:=btn kw hb'
  clear ho hb'
  clear p0 p1 p2 p3 p4 p5 p6 p7 p8 p9 p10 p11 p12 p13 p14 p15 p16
  obtain⟨p0,p1,p2,p3,p4,p5,p6,p7,p8,p9,p10,p11,p12,p13,p14,p15,p16⟩:=HX.out _ kw
  go_wp2_with (at_builtin;go_must (refine wpList_append_rd _ rfl (.tmp 43) (.tmp 46) _ rfl W0.heap.size 5 i0 _ 1 1 Tryz.underlying29 hi0 hz0 hz1 hz2 rfl (by decide) _ (1+ly) (bv (hd++y)) rfl E.out _ D3 ly2 d3 (bv y2) rfl C.out (bv_oneCell _) m2 (by omega) kw.size ?_);intro A6 a6 w9 ho hg hat;have kw:=kw.trans (grown_below hg kw.size (fun g hg'=>(E.out.lt g hg').1));have E:=Hz_ ho;clear ho hg hat C;clear p0 p1 p2 p3 p4 p5 p6 p7 p8 p9 p10 p11 p12 p13 p14 p15 p16;obtain⟨p0,p1,p2,p3,p4,p5,p6,p7,p8,p9,p10,p11,p12,p13,p14,p15,p16⟩:=HX.out _ kw)
  go_ret2
  have e1:=HQ.out
  have e2:lE.length=1+ly+ly2:=by rw[e1];rw[List.length_append,List.length_append,HDL.out,HY.out,HY2.out]
  refine⟨_,rfl,A6,a6,by rw[e2];rfl,by rw[e2,e1];rw[bv_app];exact own_less E.out (by have:=HB0.out.size;omega),btn HB0.out kw⟩
 ·-- kind 4
  obtain⟨hf4,hi4⟩:=P4.out (by first | rfl | trivial)
  have GX:=fun (W:World) hb=>GS.out W hb hi4
  have hl:=Wq.lS_len hi4
  have q4:=Q4.out (by first | rfl | trivial)
  obtain⟨y,hy⟩:∃x,x=Wq.lS it:=⟨_,rfl⟩
  obtain⟨ly,hly⟩:∃x,x=y.length:=⟨_,rfl⟩
  rw[←hy] at GX hl q4
  rw[←hly] at GX hl
  have fdv:=bv_byte (x:=fr) (by omega) (by omega)
  have fdl:=lay_one (x:=fr) (by omega) (by omega)
  obtain⟨fd,hfd⟩:∃x,x=layAll [fr]:=⟨_,rfl⟩
  rw[←hfd] at fdv fdl q4
  have m1:1+1≤maxLen:=by unfold maxLen;omega
  have m2:2+ly≤maxLen:=by unfold maxLen;omega
  have hcv:=wrap_u8 (x:=fr) (by omega) (by omega)
  have FDV:=Hz_ fdv
  have FDL:=Hz_ fdl
  have GX:=Hz_ GX
  have HQ:=Hz_ q4
  have HY:=Hz_ hly
  clear hy hly q4 hf4 hi4 fdv fdl hfd
  clear p0 p1 p2 p3 p4 p5 p6 p7 p8 p9 p10 p11 p12 p13 p14 p15 p16
  have HS:=Hz_ fun (W:World) (hb:Below W0.heap.size W0 W)=>(show W.cell? ⟨w.heap.size,9,none⟩=some (.int .i64 fr)∧W.cell? ⟨w.heap.size,10,none⟩=some (.slice iA ni ic) from by obtain⟨p0,p1,p2,p3,p4,p5,p6,p7,p8,p9,p10,p11,p12,p13,p14,p15,p16⟩:=HX.out W hb;exact⟨p9,p10⟩)
  go_upto_region 14 with fail
  have kw:=kw.drew
  have E:=Hz_ (show (w2.drew).ownsRow W0.heap.size 5 1 (.slice (some ⟨w1.heap.size,0,none⟩) 1 1) 1 (bv hd) from E.out)
  refine region_nrm fun KK hKK=>?_
  refine wp_region_held_drew (S:=(fun W=>W.cell? ⟨w.heap.size,9,none⟩=some (.int .i64 fr)∧W.cell? ⟨w.heap.size,10,none⟩=some (.slice iA ni ic))) (by kernel_rfl) (by first | exact HS.out _ kw) (fun hHeld=>?_)
  refine puA 0 50 (HS.out _ kw) ?_
  refine puA 1 51 (HS.out _ kw) ?_
  refine puA 2 52 (HS.out _ kw) ?_
  refine puA 6 56 (HS.out _ kw) ?_
  refine puA 7 57 (HS.out _ kw) ?_
  refine puR 3 fun K hK=>?_
  go_simp
  refine hK.out _ _ (HS.out _ kw) fun hHeld=>?_
  clear hK K
  refine puR 4 fun K hK=>?_
  go_simp
  have ho:=own_new2 kw 5 fr
  have C:=Hz_ (Rd.of_own ho)
  have hb':=then_alloc kw (.cells #[.int .u8 fr] 5)
  have E:=Hz_ (own_below E.out hb' (Nat.le_refl _))
  have kw:=btn kw hb'
  clear ho hb'
  refine hK.out _ _ (HS.out _ kw) fun hHeld=>?_
  clear hK K
  refine puR 5 fun K hK=>?_
  rw[if_pos (by kernel_rfl)]
  refine wp_append_rd _ (.tmp 50) (.tmp 54) _ rfl W0.heap.size 5 i0 _ 1 1 Tryz.underlying29 hi0 hz0 hz1 hz2 rfl (by decide) _ 1 (bv hd) rfl E.out _ (some ⟨w2.drew.heap.size,0,none⟩) 1 1 ([Value.int .u8 fr]) rfl C.out (by simp[Value.oneCell']) m1 (by omega) kw.size ?_
  intro A54 c54 V54 ho hg hat
  have kw:=kw.trans (grown_below hg kw.size (fun g hg'=>(E.out.lt g hg').1))
  have E:=Hz_ ho
  clear ho hg hat C
  have E:=Hz_ (show World.ownsRow _ W0.heap.size 5 1 (.slice A54 2 c54) 2 (bv hd++[Value.int .u8 fr]) from E.out)
  refine hK.out _ _ (HS.out _ kw) fun hHeld=>?_
  clear hK K
  refine puR 8 fun K hK=>?_
  go_simp
  refine(GX.out _ kw).mono ?_
  rintro e W2 ⟨_,rfl,D2,d2,rfl,ho1,hb'⟩
  have C:=Hz_ (Rd.of_own ho1)
  have E:=Hz_ (own_below E.out hb' (Nat.le_refl _))
  have kw:=btn kw hb'
  clear ho1 hb'
  refine hK.out _ _ (HS.out _ kw) fun hHeld=>?_
  clear hK K
  refine puR 9 fun K hK=>?_
  rw[if_pos (by kernel_rfl)]
  refine wp_append_rd _ (.tmp 55) (.tmp 58) _ rfl W0.heap.size 5 i0 _ 1 1 Tryz.underlying29 hi0 hz0 hz1 hz2 rfl (by decide) _ 2 (bv hd++[Value.int .u8 fr]) rfl E.out _ D2 ly d2 (bv y) rfl C.out (bv_oneCell _) m2 (by omega) kw.size ?_
  intro A58 c58 V58 ho hg hat
  have kw:=kw.trans (grown_below hg kw.size (fun g hg'=>(E.out.lt g hg').1))
  have E:=Hz_ ho
  clear ho hg hat C
  refine hK.out _ _ (HS.out _ kw) fun hHeld=>?_
  clear hK K
  refine puA 10 4 (HS.out _ kw) ?_
  refine wpAnyH_done (by kernel_rfl) ?_ _
  refine Nrm.out (hKK _ _ ?_)
  clear hHeld
  go_wp2
  go_ret2
  have e1:=HQ.out
  have e2:lE.length=2+ly:=by rw[e1,List.length_append,List.length_append,HDL.out,FDL.out,HY.out]
  refine⟨_,rfl,A58,c58,by rw[e2];rfl,by rw[e2,e1];simp only[bv_app];rw[FDV.out];exact own_less E.out (by have:=HB0.out.size;omega),btn HB0.out kw⟩
 ·-- kind 5
  obtain⟨hv5,hr5⟩:=P5.out (by first | rfl | trivial)
  have v9:=VL.out hv5
  unfold restF at hr5
  rw[Bool.and_eq_true,decide_eq_true_eq] at hr5
  obtain⟨hr5,hn5⟩:=hr5
  have hns:ns≤16:=by rw[←HNL.out];exact hn5
  have CS:=Wq.rstF_all hr5 (by omega)
  have CF:=rstF_63 hr5
  have GX:=fun (W:World) hb=>GV.out W hb hv5
  have q5:=Q5.out (by first | rfl | trivial)
  obtain⟨y,hy⟩:∃x,x=lVw ⟨known,zones,held,bods,rm⟩:=⟨_,rfl⟩
  obtain⟨ly,hly⟩:∃x,x=y.length:=⟨_,rfl⟩
  rw[←hy] at GX v9 q5
  rw[←hly] at GX v9
  have fdv:=bv_byte (x:=(ns:Int)) (by omega) (by omega)
  have fdl:=lay_one (x:=(ns:Int)) (by omega) (by omega)
  obtain⟨fd,hfd⟩:∃x,x=layAll [(ns:Int)]:=⟨_,rfl⟩
  rw[←hfd] at fdv fdl q5
  have m1:1+ly≤maxLen:=by unfold maxLen;omega
  have m2:1+ly+1≤maxLen:=by unfold maxLen;omega
  have hcv:=wrap_u8 (x:=(ns:Int)) (by omega) (by omega)
  obtain⟨pre,hpre⟩:∃x,x=hd++y++fd:=⟨_,rfl⟩
  rw[←hpre] at q5
  have HPV:=Hz_ (show bv pre=bv hd++bv y++[.int .u8 (ns:Int)] by rw[hpre,bv_app,bv_app,fdv])
  have HPL:=Hz_ (show pre.length=1+ly+1 by rw[hpre,List.length_append,List.length_append,HDL.out,fdl,hly])
  have GX:=Hz_ GX
  have HE:=Hz_ q5
  have CS:=Hz_ fun (j:Nat) (hj:j < S.length)=>(show (0≤S[j].2.from_∧S[j].2.from_≤63)∧Sn.fmS (-2) S[j].2.int=true from by
   have h:=CS S[j].2 (by rw[←HNS.out];exact List.mem_map_of_mem (List.getElem_mem hj))
   have h2:=CF S[j].2 (by rw[←HNS.out];exact List.mem_map_of_mem (List.getElem_mem hj))
   exact⟨⟨h.1.1,h2⟩,h.2.1⟩)
  have TS:=Hz_ fun (j:Nat) (hj:j < S.length)=>(show pre++((sbs S).take (j+1)).flatMap lSb=(pre++((sbs S).take j).flatMap lSb)++layAll [S[j].2.from_]++Wq.lS S[j].2.int by
   rw[flat_take _ _ j (by rw[sbs_len];exact hj),sbs_at S j hj];simp[lSb,lI,layAll])
  have AS:=Hz_ (show pre++((sbs S).take ns).flatMap lSb=lE by rw[List.take_of_length_le (by rw[sbs_len,HSL.out];exact Nat.le_refl _),HNS.out];exact HE.out.symm)
  clear hy hly hpre q5 fdv fdl hfd hv5 hr5 hn5 CF
  clear p0 p1 p2 p3 p4 p5 p6 p7 p8 p9 p10 p11 p12 p13 p14 p15 p16
  have HS:=Hz_ fun (W:World) (hb:Below W0.heap.size W0 W)=>(show W.cell? ⟨w.heap.size,11,none⟩=some (.slice kA nk kc)∧W.cell? ⟨w.heap.size,12,none⟩=some (.slice zA nz zc)∧W.cell? ⟨w.heap.size,13,none⟩=some (.slice hA nh hc)∧W.cell? ⟨w.heap.size,14,none⟩=some (.slice vA nb vc)∧W.cell? ⟨w.heap.size,15,none⟩=some (.int .i64 rm)∧W.cell? ⟨w.heap.size,16,none⟩=some (.slice sA ns sc) from by obtain⟨p0,p1,p2,p3,p4,p5,p6,p7,p8,p9,p10,p11,p12,p13,p14,p15,p16⟩:=HX.out W hb;exact⟨p11,p12,p13,p14,p15,p16⟩)
  go_upto_region 16 with fail
  have kw:=kw.drew
  have E:=Hz_ (show (w2.drew).ownsRow W0.heap.size 5 1 (.slice (some ⟨w1.heap.size,0,none⟩) 1 1) 1 (bv hd) from E.out)
  refine region_nrm fun KK hKK=>?_
  refine wp_region_held_drew (S:=(fun W=>W.cell? ⟨w.heap.size,11,none⟩=some (.slice kA nk kc)∧W.cell? ⟨w.heap.size,12,none⟩=some (.slice zA nz zc)∧W.cell? ⟨w.heap.size,13,none⟩=some (.slice hA nh hc)∧W.cell? ⟨w.heap.size,14,none⟩=some (.slice vA nb vc)∧W.cell? ⟨w.heap.size,15,none⟩=some (.int .i64 rm)∧W.cell? ⟨w.heap.size,16,none⟩=some (.slice sA ns sc))) (by kernel_rfl) (by first | exact HS.out _ kw) (fun hHeld=>?_)
  refine puA 0 62 (HS.out _ kw) ?_
  refine puA 1 63 (HS.out _ kw) ?_
  refine puA 2 64 (HS.out _ kw) ?_
  refine puA 5 67 (HS.out _ kw) ?_
  refine puA 6 68 (HS.out _ kw) ?_
  refine puA 7 69 (HS.out _ kw) ?_
  refine wpAnyH_ready (rs:=[3,8]) (by kernel_rfl) (by simp) ?_
  refine AllReadyH.cons rfl (fun K hK=>?_) (AllReadyH.cons rfl (fun K hK=>?_) AllReadyH.nil)
  ·go_simp
   refine(GX.out _ kw).mono ?_
   rintro e W1 ⟨_,rfl,D1,d1,rfl,ho1,hb'⟩
   have C:=Hz_ (Rd.of_own ho1)
   have E:=Hz_ (own_below E.out hb' (Nat.le_refl _))
   try have C2:=Hz_ (C2.out.go hb')
   have kw:=btn kw hb'
   clear ho1 hb'
   refine hK.out _ _ (HS.out _ kw) fun hHeld=>?_
   clear hK K
   refine wpAnyH_ready (rs:=[4,8]) (by kernel_rfl) (by simp) ?_
   refine AllReadyH.cons rfl (fun K hK=>?_) (AllReadyH.cons rfl (fun K hK=>?_) AllReadyH.nil)
   ·rw[if_pos (by kernel_rfl)]
    refine wp_append_rd _ (.tmp 62) (.tmp 65) _ rfl W0.heap.size 5 i0 _ 1 1 Tryz.underlying29 hi0 hz0 hz1 hz2 rfl (by decide) _ 1 (bv hd) rfl E.out _ D1 ly d1 (bv y) rfl C.out (bv_oneCell _) m1 (by omega) kw.size ?_
    intro A65 c65 V65 ho hg hat
    try have C2:=Hz_ (rd_other C2.out hg (by have:=HG.out;simp only[World.size_drew] at this ⊢;omega))
    have kw:=kw.trans (grown_below hg kw.size (fun g hg'=>(E.out.lt g hg').1))
    have E:=Hz_ ho
    clear ho hg hat C
    refine hK.out _ _ (HS.out _ kw) fun hHeld=>?_
    clear hK K
    refine puR 8 fun K hK=>?_
    go_simp
    refine hK.out _ _ (HS.out _ kw) fun hHeld=>?_
    clear hK K
    refine puR 9 fun K hK=>?_
    go_simp
    have ho:=own_new2 kw 5 (ns:Int)
    have C2:=Hz_ (Rd.of_own ho)
    try have HG:=Hz_ (E.out.lt w1.heap.size rfl).2
    have hb':=then_alloc kw (.cells #[.int .u8 (ns:Int)] 5)
    have E:=Hz_ (own_below E.out hb' (Nat.le_refl _))
    try have C:=Hz_ (C.out.go hb')
    have kw:=btn kw hb'
    clear ho hb'
    refine hK.out _ _ (HS.out _ kw) fun hHeld=>?_
    clear hK K
    refine puR 10 fun K hK=>?_
    rw[if_pos (by kernel_rfl)]
    refine wp_append_rd _ (.tmp 66) (.tmp 71) _ rfl W0.heap.size 5 i0 _ 1 1 Tryz.underlying29 hi0 hz0 hz1 hz2 rfl (by decide) _ (1+ly) (bv hd++bv y) rfl E.out _ _ 1 1 ([.int .u8 (ns:Int)]) rfl C2.out (by simp[Value.oneCell']) m2 (by omega) kw.size ?_
    intro A71 c71 V71 ho hg hat
    have kw:=kw.trans (grown_below hg kw.size (fun g hg'=>(E.out.lt g hg').1))
    have E:=Hz_ ho
    clear ho hg hat C2
    refine hK.out _ _ (HS.out _ kw) fun hHeld=>?_
    clear hK K
    refine puA 11 4 (HS.out _ kw) ?_
    refine wpAnyH_done (by kernel_rfl) ?_ _
    refine Nrm.out (hKK _ _ ?_)
    clear hHeld
    obtain⟨m3,hm3⟩:∃m,m=1+ly+1:=⟨_,rfl⟩
    rw[←hm3] at E ⊢
    have hpl:pre.length=m3:=by rw[HPL.out,hm3]
    have m3l:m3≤1000100:=by omega
    have E:=Hz_ (show World.ownsRow _ W0.heap.size 5 1 (.slice A71 m3 c71) m3 (bv pre) from by rw[HPV.out];exact E.out)
    have HPM:=Hz_ hpl
    obtain⟨p0,p1,p2,p3,p4,p5,p6,p7,p8,p9,p10,p11,p12,p13,p14,p15,p16⟩:=HX.out _ kw
    have K2:=Hz_ kw
    clear kw hm3 hpl
    go_wp2_with fail
    go_loopw [4,5] (fun v4 v5 wr=>∃(j N c':Nat) (A':Option Addr),v5=.int .i64 j∧v4=.slice A' N c'∧j≤ns∧N≤1000200+600 * j∧Hid (wr.ownsRow W0.heap.size 5 1 (.slice A' N c') N (bv (pre++((sbs S).take j).flatMap lSb)))∧Hid ((pre++((sbs S).take j).flatMap lSb).length=N)∧Below W0.heap.size W0 wr) (fun _ v5 _=>ns - (intOf v5).toNat)
    case atStart=>exact⟨0,m3,c71,A71,rfl,rfl,by omega,by omega,by show World.ownsRow _ _ _ _ _ _ _;simpa using E.out,by show _=_;simp[HPM.out],K2.out⟩
    case round=>
     obtain⟨j,N,c',A',rfl,rfl,hj,hN,ho,hq,hb⟩:=hrel
     have hbs:=hb.size
     clear E
     clear p0 p1 p2 p3 p4 p5 p6 p7 p8 p9 p10 p11 p12 p13 p14 p15 p16
     obtain⟨p0,p1,p2,p3,p4,p5,p6,p7,p8,p9,p10,p11,p12,p13,p14,p15,p16⟩:=HX.out _ hb
     by_cases hlt:j < ns
     ·have hjl:j < S.length:=by rw[HSL.out];exact hlt
      obtain⟨bb',oo,rfl,hbb,g0,g1,g2,g3,g4,g5,g6⟩:=HSR.out wr hb j hjl
      have hsr:=fun W hb=>held_at (HSR.out W hb j hjl)
      have ht:=TS.out j hjl
      obtain⟨lx,hlx⟩:∃x,x=pre++((sbs S).take j).flatMap lSb:=⟨_,rfl⟩
      have hlN:lx.length=N:=by rw[hlx];exact hq.out
      have E:=Hz_ (show wr.drew.ownsRow W0.heap.size 5 1 (.slice A' N c') N (bv lx) by rw[hlx];exact ho.out)
      rw[←hlx] at ht
      have cs:=CS.out j hjl
      have es:=fun W hb=>HSE.out W hb j hjl
      clear hlx ho hq
      obtain⟨⟨⟨aA,ac⟩,⟨sf,si,ses,seq,lv,hr,id⟩⟩,hpx⟩:∃p,p=S[j]:=⟨_,rfl⟩
      rw[←hpx] at g0 g1 cs es ht hsr
      clear hpx g2 g3 g4 g5 g6
      dsimp only at g0 g1 cs es ht hsr
      have GY:=fun (W:World) (hb:Below W0.heap.size W0 W)=>refSetBytes_any aA si.length ac si W rfl (es W hb) cs.2
      have hl:=Wq.lS_len cs.2
      obtain⟨y,hy⟩:∃x,x=Wq.lS si:=⟨_,rfl⟩
      obtain⟨ly,hly⟩:∃x,x=y.length:=⟨_,rfl⟩
      unfold BytesAre at GY
      rw[←hy] at GY hl ht
      rw[←hly] at GY hl
      obtain⟨sn,hsn⟩:∃x,x=si.length:=⟨_,rfl⟩
      rw[←hsn] at GY g1 hsr
      have fdv:=bv_byte (x:=sf) cs.1.1 (by omega)
      have fdl:=lay_one (x:=sf) cs.1.1 (by omega)
      obtain⟨fd,hfd⟩:∃x,x=layAll [sf]:=⟨_,rfl⟩
      rw[←hfd] at fdv fdl ht
      have m1:N+1≤maxLen:=by unfold maxLen;omega
      have m2:N+1+ly≤maxLen:=by unfold maxLen;omega
      have hcv:=wrap_u8 (x:=sf) cs.1.1 (by omega)
      have FDV:=Hz_ fdv
      have FDL:=Hz_ fdl
      have GY:=Hz_ GY
      have HT:=Hz_ ht
      have HLN:=Hz_ (And.intro hlN hly)
      have HS2:=Hz_ fun (W:World) (hb:Below W0.heap.size W0 W)=>(show W.cell? ⟨w.heap.size,16,none⟩=some (.slice (some ⟨bb',oo,none⟩) ns sc)∧W.cell? ⟨bb',oo+j * 7,none⟩=some (.int .i64 sf)∧W.cell? ⟨bb',oo+j * 7+1,none⟩=some (.slice aA sn ac) from by
       obtain⟨p0,p1,p2,p3,p4,p5,p6,p7,p8,p9,p10,p11,p12,p13,p14,p15,p16⟩:=HX.out W hb
       exact⟨p16,(hsr W hb).1,(hsr W hb).2.1⟩)
      have kw:Below W0.heap.size W0 wr.drew:=hb.drew
      clear es cs ht hy hly hlN hsn hb fdv fdl hfd hsr
      go_upto_region 20 with fail
      clear g0 g1
      clear p0 p1 p2 p3 p4 p5 p6 p7 p8 p9 p10 p11 p12 p13 p14 p15 p16
      refine region_nrm fun KK hKK=>?_
      refine wp_region_held_drew (S:=(fun W=>W.cell? ⟨w.heap.size,16,none⟩=some (.slice (some ⟨bb',oo,none⟩) ns sc)∧W.cell? ⟨bb',oo+j * 7,none⟩=some (.int .i64 sf)∧W.cell? ⟨bb',oo+j * 7+1,none⟩=some (.slice aA sn ac))) (by kernel_rfl) (by first | exact HS2.out _ kw) (fun hHeld=>?_)
      refine puA 0 80 (HS2.out _ kw) ?_
      refine puA 1 81 (HS2.out _ kw) ?_
      refine puA 2 82 (HS2.out _ kw) ?_
      refine puA 3 83 (HS2.out _ kw) ?_
      refine puA 4 84 (HS2.out _ kw) ?_
      refine puA 5 85 (HS2.out _ kw) ?_
      refine puA 6 86 (HS2.out _ kw) ?_
      refine puA 10 90 (HS2.out _ kw) ?_
      refine puA 11 91 (HS2.out _ kw) ?_
      refine puA 12 92 (HS2.out _ kw) ?_
      refine puA 13 93 (HS2.out _ kw) ?_
      refine puA 14 94 (HS2.out _ kw) ?_
      refine puA 15 95 (HS2.out _ kw) ?_
      refine puR 7 fun K hK=>?_
      go_simp
      refine hK.out _ _ (HS2.out _ kw) fun hHeld=>?_
      clear hK K
      refine puR 8 fun K hK=>?_
      go_simp
      have ho:=own_new2 kw 5 sf
      have C:=Hz_ (Rd.of_own ho)
      have hb':=then_alloc kw (.cells #[.int .u8 sf] 5)
      have E:=Hz_ (own_below E.out hb' (Nat.le_refl _))
      have kw:=btn kw hb'
      clear ho hb'
      refine hK.out _ _ (HS2.out _ kw) fun hHeld=>?_
      clear hK K
      refine puR 9 fun K hK=>?_
      rw[if_pos (by kernel_rfl)]
      refine wp_append_rd _ (.tmp 80) (.tmp 88) _ rfl W0.heap.size 5 i0 _ 1 1 Tryz.underlying29 hi0 hz0 hz1 hz2 rfl (by decide) _ N (bv lx) rfl E.out _ (some ⟨wr.drew.heap.size,0,none⟩) 1 1 ([Value.int .u8 sf]) rfl C.out (by simp[Value.oneCell']) m1 (by omega) kw.size ?_
      intro A88 c88 V88 ho hg hat
      have kw:=kw.trans (grown_below hg kw.size (fun g hg'=>(E.out.lt g hg').1))
      have E:=Hz_ ho
      clear ho hg hat C
      refine hK.out _ _ (HS2.out _ kw) fun hHeld=>?_
      clear hK K
      refine puR 16 fun K hK=>?_
      go_simp
      refine(GY.out _ kw).mono ?_
      rintro e W2 ⟨_,rfl,D2,d2,rfl,ho1,hb'⟩
      have C:=Hz_ (Rd.of_own ho1)
      have E:=Hz_ (own_below E.out hb' (Nat.le_refl _))
      have kw:=btn kw hb'
      clear ho1 hb'
      refine hK.out _ _ (HS2.out _ kw) fun hHeld=>?_
      clear hK K
      refine puR 17 fun K hK=>?_
      rw[if_pos (by kernel_rfl)]
      refine wp_append_rd _ (.tmp 89) (.tmp 96) _ rfl W0.heap.size 5 i0 _ 1 1 Tryz.underlying29 hi0 hz0 hz1 hz2 rfl (by decide) _ (N+1) (bv lx++[Value.int .u8 sf]) rfl E.out _ D2 ly d2 (bv y) rfl C.out (bv_oneCell _) m2 (by omega) kw.size ?_
      intro A96 c96 V96 ho hg hat
      have kw:=kw.trans (grown_below hg kw.size (fun g hg'=>(E.out.lt g hg').1))
      have E:=Hz_ ho
      clear ho hg hat C
      refine hK.out _ _ (HS2.out _ kw) fun hHeld=>?_
      clear hK K
      refine puA 18 4 (HS2.out _ kw) ?_
      refine wpAnyH_done (by kernel_rfl) ?_ _
      refine Nrm.out (hKK _ _ ?_)
      clear hHeld
      go_wp2_with fail
      go_roundw
      case rel=>
       refine⟨j+1,N+1+ly,c96,A96,by go_num,rfl,by omega,by omega,?_,?_,kw⟩
       ·show World.ownsRow _ _ _ _ _ _ _
        rw[HT.out];simp only[bv_app];rw[FDV.out];exact E.out
       ·show _=_
        obtain⟨a1,a2⟩:=HLN.out
        rw[HT.out,List.length_append,List.length_append,a1,FDL.out,←a2]
      case measure=>simp[intOf];omega
     ·obtain rfl:ns=j:=by omega
      have q9:=hq.out
      have q3:=ho.out
      rw[AS.out] at q9 q3
      have kw:=hb
      clear hq ho hbs hb
      go_wp2
      go_ret2
      exact⟨_,rfl,A',c',by rw[q9];rfl,by rw[q9];exact own_less q3 (by have:=HB0.out.size;omega),btn HB0.out kw⟩
   ·go_simp
    refine hK.out _ _ (HS.out _ kw) fun hHeld=>?_
    clear hK K
    refine wpAnyH_ready (rs:=[4,9]) (by kernel_rfl) (by simp) ?_
    refine AllReadyH.cons rfl (fun K hK=>?_) (AllReadyH.cons rfl (fun K hK=>?_) AllReadyH.nil)
    ·rw[if_pos (by kernel_rfl)]
     refine wp_append_rd _ (.tmp 62) (.tmp 65) _ rfl W0.heap.size 5 i0 _ 1 1 Tryz.underlying29 hi0 hz0 hz1 hz2 rfl (by decide) _ 1 (bv hd) rfl E.out _ D1 ly d1 (bv y) rfl C.out (bv_oneCell _) m1 (by omega) kw.size ?_
     intro A65 c65 V65 ho hg hat
     try have C2:=Hz_ (rd_other C2.out hg (by have:=HG.out;simp only[World.size_drew] at this ⊢;omega))
     have kw:=kw.trans (grown_below hg kw.size (fun g hg'=>(E.out.lt g hg').1))
     have E:=Hz_ ho
     clear ho hg hat C
     refine hK.out _ _ (HS.out _ kw) fun hHeld=>?_
     clear hK K
     refine puR 9 fun K hK=>?_
     go_simp
     have ho:=own_new2 kw 5 (ns:Int)
     have C2:=Hz_ (Rd.of_own ho)
     try have HG:=Hz_ (E.out.lt w1.heap.size rfl).2
     have hb':=then_alloc kw (.cells #[.int .u8 (ns:Int)] 5)
     have E:=Hz_ (own_below E.out hb' (Nat.le_refl _))
     try have C:=Hz_ (C.out.go hb')
     have kw:=btn kw hb'
     clear ho hb'
     refine hK.out _ _ (HS.out _ kw) fun hHeld=>?_
     clear hK K
     refine puR 10 fun K hK=>?_
     rw[if_pos (by kernel_rfl)]
     refine wp_append_rd _ (.tmp 66) (.tmp 71) _ rfl W0.heap.size 5 i0 _ 1 1 Tryz.underlying29 hi0 hz0 hz1 hz2 rfl (by decide) _ (1+ly) (bv hd++bv y) rfl E.out _ _ 1 1 ([.int .u8 (ns:Int)]) rfl C2.out (by simp[Value.oneCell']) m2 (by omega) kw.size ?_
     intro A71 c71 V71 ho hg hat
     have kw:=kw.trans (grown_below hg kw.size (fun g hg'=>(E.out.lt g hg').1))
     have E:=Hz_ ho
     clear ho hg hat C2
     refine hK.out _ _ (HS.out _ kw) fun hHeld=>?_
     clear hK K
     refine puA 11 4 (HS.out _ kw) ?_
     refine wpAnyH_done (by kernel_rfl) ?_ _
     refine Nrm.out (hKK _ _ ?_)
     clear hHeld
     obtain⟨m3,hm3⟩:∃m,m=1+ly+1:=⟨_,rfl⟩
     rw[←hm3] at E ⊢
     have hpl:pre.length=m3:=by rw[HPL.out,hm3]
     have m3l:m3≤1000100:=by omega
     have E:=Hz_ (show World.ownsRow _ W0.heap.size 5 1 (.slice A71 m3 c71) m3 (bv pre) from by rw[HPV.out];exact E.out)
     have HPM:=Hz_ hpl
     obtain⟨p0,p1,p2,p3,p4,p5,p6,p7,p8,p9,p10,p11,p12,p13,p14,p15,p16⟩:=HX.out _ kw
     have K2:=Hz_ kw
     clear kw hm3 hpl
     go_wp2_with fail
     go_loopw [4,5] (fun v4 v5 wr=>∃(j N c':Nat) (A':Option Addr),v5=.int .i64 j∧v4=.slice A' N c'∧j≤ns∧N≤1000200+600 * j∧Hid (wr.ownsRow W0.heap.size 5 1 (.slice A' N c') N (bv (pre++((sbs S).take j).flatMap lSb)))∧Hid ((pre++((sbs S).take j).flatMap lSb).length=N)∧Below W0.heap.size W0 wr) (fun _ v5 _=>ns - (intOf v5).toNat)
     case atStart=>exact⟨0,m3,c71,A71,rfl,rfl,by omega,by omega,by show World.ownsRow _ _ _ _ _ _ _;simpa using E.out,by show _=_;simp[HPM.out],K2.out⟩
     case round=>
      obtain⟨j,N,c',A',rfl,rfl,hj,hN,ho,hq,hb⟩:=hrel
      have hbs:=hb.size
      clear E
      clear p0 p1 p2 p3 p4 p5 p6 p7 p8 p9 p10 p11 p12 p13 p14 p15 p16
      obtain⟨p0,p1,p2,p3,p4,p5,p6,p7,p8,p9,p10,p11,p12,p13,p14,p15,p16⟩:=HX.out _ hb
      by_cases hlt:j < ns
      ·have hjl:j < S.length:=by rw[HSL.out];exact hlt
       obtain⟨bb',oo,rfl,hbb,g0,g1,g2,g3,g4,g5,g6⟩:=HSR.out wr hb j hjl
       have hsr:=fun W hb=>held_at (HSR.out W hb j hjl)
       have ht:=TS.out j hjl
       obtain⟨lx,hlx⟩:∃x,x=pre++((sbs S).take j).flatMap lSb:=⟨_,rfl⟩
       have hlN:lx.length=N:=by rw[hlx];exact hq.out
       have E:=Hz_ (show wr.drew.ownsRow W0.heap.size 5 1 (.slice A' N c') N (bv lx) by rw[hlx];exact ho.out)
       rw[←hlx] at ht
       have cs:=CS.out j hjl
       have es:=fun W hb=>HSE.out W hb j hjl
       clear hlx ho hq
       obtain⟨⟨⟨aA,ac⟩,⟨sf,si,ses,seq,lv,hr,id⟩⟩,hpx⟩:∃p,p=S[j]:=⟨_,rfl⟩
       rw[←hpx] at g0 g1 cs es ht hsr
       clear hpx g2 g3 g4 g5 g6
       dsimp only at g0 g1 cs es ht hsr
       have GY:=fun (W:World) (hb:Below W0.heap.size W0 W)=>refSetBytes_any aA si.length ac si W rfl (es W hb) cs.2
       have hl:=Wq.lS_len cs.2
       obtain⟨y,hy⟩:∃x,x=Wq.lS si:=⟨_,rfl⟩
       obtain⟨ly,hly⟩:∃x,x=y.length:=⟨_,rfl⟩
       unfold BytesAre at GY
       rw[←hy] at GY hl ht
       rw[←hly] at GY hl
       obtain⟨sn,hsn⟩:∃x,x=si.length:=⟨_,rfl⟩
       rw[←hsn] at GY g1 hsr
       have fdv:=bv_byte (x:=sf) cs.1.1 (by omega)
       have fdl:=lay_one (x:=sf) cs.1.1 (by omega)
       obtain⟨fd,hfd⟩:∃x,x=layAll [sf]:=⟨_,rfl⟩
       rw[←hfd] at fdv fdl ht
       have m1:N+1≤maxLen:=by unfold maxLen;omega
       have m2:N+1+ly≤maxLen:=by unfold maxLen;omega
       have hcv:=wrap_u8 (x:=sf) cs.1.1 (by omega)
       have FDV:=Hz_ fdv
       have FDL:=Hz_ fdl
       have GY:=Hz_ GY
       have HT:=Hz_ ht
       have HLN:=Hz_ (And.intro hlN hly)
       have HS2:=Hz_ fun (W:World) (hb:Below W0.heap.size W0 W)=>(show W.cell? ⟨w.heap.size,16,none⟩=some (.slice (some ⟨bb',oo,none⟩) ns sc)∧W.cell? ⟨bb',oo+j * 7,none⟩=some (.int .i64 sf)∧W.cell? ⟨bb',oo+j * 7+1,none⟩=some (.slice aA sn ac) from by
        obtain⟨p0,p1,p2,p3,p4,p5,p6,p7,p8,p9,p10,p11,p12,p13,p14,p15,p16⟩:=HX.out W hb
        exact⟨p16,(hsr W hb).1,(hsr W hb).2.1⟩)
       have kw:Below W0.heap.size W0 wr.drew:=hb.drew
       clear es cs ht hy hly hlN hsn hb fdv fdl hfd hsr
       go_upto_region 20 with fail
       clear g0 g1
       clear p0 p1 p2 p3 p4 p5 p6 p7 p8 p9 p10 p11 p12 p13 p14 p15 p16
       refine region_nrm fun KK hKK=>?_
       refine wp_region_held_drew (S:=(fun W=>W.cell? ⟨w.heap.size,16,none⟩=some (.slice (some ⟨bb',oo,none⟩) ns sc)∧W.cell? ⟨bb',oo+j * 7,none⟩=some (.int .i64 sf)∧W.cell? ⟨bb',oo+j * 7+1,none⟩=some (.slice aA sn ac))) (by kernel_rfl) (by first | exact HS2.out _ kw) (fun hHeld=>?_)
       refine puA 0 80 (HS2.out _ kw) ?_
       refine puA 1 81 (HS2.out _ kw) ?_
       refine puA 2 82 (HS2.out _ kw) ?_
       refine puA 3 83 (HS2.out _ kw) ?_
       refine puA 4 84 (HS2.out _ kw) ?_
       refine puA 5 85 (HS2.out _ kw) ?_
       refine puA 6 86 (HS2.out _ kw) ?_
       refine puA 10 90 (HS2.out _ kw) ?_
       refine puA 11 91 (HS2.out _ kw) ?_
       refine puA 12 92 (HS2.out _ kw) ?_
       refine puA 13 93 (HS2.out _ kw) ?_
       refine puA 14 94 (HS2.out _ kw) ?_
       refine puA 15 95 (HS2.out _ kw) ?_
       refine puR 7 fun K hK=>?_
       go_simp
       refine hK.out _ _ (HS2.out _ kw) fun hHeld=>?_
       clear hK K
       refine puR 8 fun K hK=>?_
       go_simp
       have ho:=own_new2 kw 5 sf
       have C:=Hz_ (Rd.of_own ho)
       have hb':=then_alloc kw (.cells #[.int .u8 sf] 5)
       have E:=Hz_ (own_below E.out hb' (Nat.le_refl _))
       have kw:=btn kw hb'
       clear ho hb'
       refine hK.out _ _ (HS2.out _ kw) fun hHeld=>?_
       clear hK K
       refine puR 9 fun K hK=>?_
       rw[if_pos (by kernel_rfl)]
       refine wp_append_rd _ (.tmp 80) (.tmp 88) _ rfl W0.heap.size 5 i0 _ 1 1 Tryz.underlying29 hi0 hz0 hz1 hz2 rfl (by decide) _ N (bv lx) rfl E.out _ (some ⟨wr.drew.heap.size,0,none⟩) 1 1 ([Value.int .u8 sf]) rfl C.out (by simp[Value.oneCell']) m1 (by omega) kw.size ?_
       intro A88 c88 V88 ho hg hat
       have kw:=kw.trans (grown_below hg kw.size (fun g hg'=>(E.out.lt g hg').1))
       have E:=Hz_ ho
       clear ho hg hat C
       refine hK.out _ _ (HS2.out _ kw) fun hHeld=>?_
       clear hK K
       refine puR 16 fun K hK=>?_
       go_simp
       refine(GY.out _ kw).mono ?_
       rintro e W2 ⟨_,rfl,D2,d2,rfl,ho1,hb'⟩
       have C:=Hz_ (Rd.of_own ho1)
       have E:=Hz_ (own_below E.out hb' (Nat.le_refl _))
       have kw:=btn kw hb'
       clear ho1 hb'
       refine hK.out _ _ (HS2.out _ kw) fun hHeld=>?_
       clear hK K
       refine puR 17 fun K hK=>?_
       rw[if_pos (by kernel_rfl)]
       refine wp_append_rd _ (.tmp 89) (.tmp 96) _ rfl W0.heap.size 5 i0 _ 1 1 Tryz.underlying29 hi0 hz0 hz1 hz2 rfl (by decide) _ (N+1) (bv lx++[Value.int .u8 sf]) rfl E.out _ D2 ly d2 (bv y) rfl C.out (bv_oneCell _) m2 (by omega) kw.size ?_
       intro A96 c96 V96 ho hg hat
       have kw:=kw.trans (grown_below hg kw.size (fun g hg'=>(E.out.lt g hg').1))
       have E:=Hz_ ho
       clear ho hg hat C
       refine hK.out _ _ (HS2.out _ kw) fun hHeld=>?_
       clear hK K
       refine puA 18 4 (HS2.out _ kw) ?_
       refine wpAnyH_done (by kernel_rfl) ?_ _
       refine Nrm.out (hKK _ _ ?_)
       clear hHeld
       go_wp2_with fail
       go_roundw
       case rel=>
        refine⟨j+1,N+1+ly,c96,A96,by go_num,rfl,by omega,by omega,?_,?_,kw⟩
        ·show World.ownsRow _ _ _ _ _ _ _
         rw[HT.out];simp only[bv_app];rw[FDV.out];exact E.out
        ·show _=_
         obtain⟨a1,a2⟩:=HLN.out
         rw[HT.out,List.length_append,List.length_append,a1,FDL.out,←a2]
       case measure=>simp[intOf];omega
      ·obtain rfl:ns=j:=by omega
       have q9:=hq.out
       have q3:=ho.out
       rw[AS.out] at q9 q3
       have kw:=hb
       clear hq ho hbs hb
       go_wp2
       go_ret2
       exact⟨_,rfl,A',c',by rw[q9];rfl,by rw[q9];exact own_less q3 (by have:=HB0.out.size;omega),btn HB0.out kw⟩
    ·go_simp
     have ho:=own_new2 kw 5 (ns:Int)
     have C2:=Hz_ (Rd.of_own ho)
     try have HG:=Hz_ (E.out.lt w1.heap.size rfl).2
     have hb':=then_alloc kw (.cells #[.int .u8 (ns:Int)] 5)
     have E:=Hz_ (own_below E.out hb' (Nat.le_refl _))
     try have C:=Hz_ (C.out.go hb')
     have kw:=btn kw hb'
     clear ho hb'
     refine hK.out _ _ (HS.out _ kw) fun hHeld=>?_
     clear hK K
     refine puR 4 fun K hK=>?_
     rw[if_pos (by kernel_rfl)]
     refine wp_append_rd _ (.tmp 62) (.tmp 65) _ rfl W0.heap.size 5 i0 _ 1 1 Tryz.underlying29 hi0 hz0 hz1 hz2 rfl (by decide) _ 1 (bv hd) rfl E.out _ D1 ly d1 (bv y) rfl C.out (bv_oneCell _) m1 (by omega) kw.size ?_
     intro A65 c65 V65 ho hg hat
     try have C2:=Hz_ (rd_other C2.out hg (by have:=HG.out;simp only[World.size_drew] at this ⊢;omega))
     have kw:=kw.trans (grown_below hg kw.size (fun g hg'=>(E.out.lt g hg').1))
     have E:=Hz_ ho
     clear ho hg hat C
     refine hK.out _ _ (HS.out _ kw) fun hHeld=>?_
     clear hK K
     refine puR 10 fun K hK=>?_
     rw[if_pos (by kernel_rfl)]
     refine wp_append_rd _ (.tmp 66) (.tmp 71) _ rfl W0.heap.size 5 i0 _ 1 1 Tryz.underlying29 hi0 hz0 hz1 hz2 rfl (by decide) _ (1+ly) (bv hd++bv y) rfl E.out _ _ 1 1 ([.int .u8 (ns:Int)]) rfl C2.out (by simp[Value.oneCell']) m2 (by omega) kw.size ?_
     intro A71 c71 V71 ho hg hat
     have kw:=kw.trans (grown_below hg kw.size (fun g hg'=>(E.out.lt g hg').1))
     have E:=Hz_ ho
     clear ho hg hat C2
     refine hK.out _ _ (HS.out _ kw) fun hHeld=>?_
     clear hK K
     refine puA 11 4 (HS.out _ kw) ?_
     refine wpAnyH_done (by kernel_rfl) ?_ _
     refine Nrm.out (hKK _ _ ?_)
     clear hHeld
     obtain⟨m3,hm3⟩:∃m,m=1+ly+1:=⟨_,rfl⟩
     rw[←hm3] at E ⊢
     have hpl:pre.length=m3:=by rw[HPL.out,hm3]
     have m3l:m3≤1000100:=by omega
     have E:=Hz_ (show World.ownsRow _ W0.heap.size 5 1 (.slice A71 m3 c71) m3 (bv pre) from by rw[HPV.out];exact E.out)
     have HPM:=Hz_ hpl
     obtain⟨p0,p1,p2,p3,p4,p5,p6,p7,p8,p9,p10,p11,p12,p13,p14,p15,p16⟩:=HX.out _ kw
     have K2:=Hz_ kw
     clear kw hm3 hpl
     go_wp2_with fail
     go_loopw [4,5] (fun v4 v5 wr=>∃(j N c':Nat) (A':Option Addr),v5=.int .i64 j∧v4=.slice A' N c'∧j≤ns∧N≤1000200+600 * j∧Hid (wr.ownsRow W0.heap.size 5 1 (.slice A' N c') N (bv (pre++((sbs S).take j).flatMap lSb)))∧Hid ((pre++((sbs S).take j).flatMap lSb).length=N)∧Below W0.heap.size W0 wr) (fun _ v5 _=>ns - (intOf v5).toNat)
     case atStart=>exact⟨0,m3,c71,A71,rfl,rfl,by omega,by omega,by show World.ownsRow _ _ _ _ _ _ _;simpa using E.out,by show _=_;simp[HPM.out],K2.out⟩
     case round=>
      obtain⟨j,N,c',A',rfl,rfl,hj,hN,ho,hq,hb⟩:=hrel
      have hbs:=hb.size
      clear E
      clear p0 p1 p2 p3 p4 p5 p6 p7 p8 p9 p10 p11 p12 p13 p14 p15 p16
      obtain⟨p0,p1,p2,p3,p4,p5,p6,p7,p8,p9,p10,p11,p12,p13,p14,p15,p16⟩:=HX.out _ hb
      by_cases hlt:j < ns
      ·have hjl:j < S.length:=by rw[HSL.out];exact hlt
       obtain⟨bb',oo,rfl,hbb,g0,g1,g2,g3,g4,g5,g6⟩:=HSR.out wr hb j hjl
       have hsr:=fun W hb=>held_at (HSR.out W hb j hjl)
       have ht:=TS.out j hjl
       obtain⟨lx,hlx⟩:∃x,x=pre++((sbs S).take j).flatMap lSb:=⟨_,rfl⟩
       have hlN:lx.length=N:=by rw[hlx];exact hq.out
       have E:=Hz_ (show wr.drew.ownsRow W0.heap.size 5 1 (.slice A' N c') N (bv lx) by rw[hlx];exact ho.out)
       rw[←hlx] at ht
       have cs:=CS.out j hjl
       have es:=fun W hb=>HSE.out W hb j hjl
       clear hlx ho hq
       obtain⟨⟨⟨aA,ac⟩,⟨sf,si,ses,seq,lv,hr,id⟩⟩,hpx⟩:∃p,p=S[j]:=⟨_,rfl⟩
       rw[←hpx] at g0 g1 cs es ht hsr
       clear hpx g2 g3 g4 g5 g6
       dsimp only at g0 g1 cs es ht hsr
       have GY:=fun (W:World) (hb:Below W0.heap.size W0 W)=>refSetBytes_any aA si.length ac si W rfl (es W hb) cs.2
       have hl:=Wq.lS_len cs.2
       obtain⟨y,hy⟩:∃x,x=Wq.lS si:=⟨_,rfl⟩
       obtain⟨ly,hly⟩:∃x,x=y.length:=⟨_,rfl⟩
       unfold BytesAre at GY
       rw[←hy] at GY hl ht
       rw[←hly] at GY hl
       obtain⟨sn,hsn⟩:∃x,x=si.length:=⟨_,rfl⟩
       rw[←hsn] at GY g1 hsr
       have fdv:=bv_byte (x:=sf) cs.1.1 (by omega)
       have fdl:=lay_one (x:=sf) cs.1.1 (by omega)
       obtain⟨fd,hfd⟩:∃x,x=layAll [sf]:=⟨_,rfl⟩
       rw[←hfd] at fdv fdl ht
       have m1:N+1≤maxLen:=by unfold maxLen;omega
       have m2:N+1+ly≤maxLen:=by unfold maxLen;omega
       have hcv:=wrap_u8 (x:=sf) cs.1.1 (by omega)
       have FDV:=Hz_ fdv
       have FDL:=Hz_ fdl
       have GY:=Hz_ GY
       have HT:=Hz_ ht
       have HLN:=Hz_ (And.intro hlN hly)
       have HS2:=Hz_ fun (W:World) (hb:Below W0.heap.size W0 W)=>(show W.cell? ⟨w.heap.size,16,none⟩=some (.slice (some ⟨bb',oo,none⟩) ns sc)∧W.cell? ⟨bb',oo+j * 7,none⟩=some (.int .i64 sf)∧W.cell? ⟨bb',oo+j * 7+1,none⟩=some (.slice aA sn ac) from by
        obtain⟨p0,p1,p2,p3,p4,p5,p6,p7,p8,p9,p10,p11,p12,p13,p14,p15,p16⟩:=HX.out W hb
        exact⟨p16,(hsr W hb).1,(hsr W hb).2.1⟩)
       have kw:Below W0.heap.size W0 wr.drew:=hb.drew
       clear es cs ht hy hly hlN hsn hb fdv fdl hfd hsr
       go_upto_region 20 with fail
       clear g0 g1
       clear p0 p1 p2 p3 p4 p5 p6 p7 p8 p9 p10 p11 p12 p13 p14 p15 p16
       refine region_nrm fun KK hKK=>?_
       refine wp_region_held_drew (S:=(fun W=>W.cell? ⟨w.heap.size,16,none⟩=some (.slice (some ⟨bb',oo,none⟩) ns sc)∧W.cell? ⟨bb',oo+j * 7,none⟩=some (.int .i64 sf)∧W.cell? ⟨bb',oo+j * 7+1,none⟩=some (.slice aA sn ac))) (by kernel_rfl) (by first | exact HS2.out _ kw) (fun hHeld=>?_)
       refine puA 0 80 (HS2.out _ kw) ?_
       refine puA 1 81 (HS2.out _ kw) ?_
       refine puA 2 82 (HS2.out _ kw) ?_
       refine puA 3 83 (HS2.out _ kw) ?_
       refine puA 4 84 (HS2.out _ kw) ?_
       refine puA 5 85 (HS2.out _ kw) ?_
       refine puA 6 86 (HS2.out _ kw) ?_
       refine puA 10 90 (HS2.out _ kw) ?_
       refine puA 11 91 (HS2.out _ kw) ?_
       refine puA 12 92 (HS2.out _ kw) ?_
       refine puA 13 93 (HS2.out _ kw) ?_
       refine puA 14 94 (HS2.out _ kw) ?_
       refine puA 15 95 (HS2.out _ kw) ?_
       refine puR 7 fun K hK=>?_
       go_simp
       refine hK.out _ _ (HS2.out _ kw) fun hHeld=>?_
       clear hK K
       refine puR 8 fun K hK=>?_
       go_simp
       have ho:=own_new2 kw 5 sf
       have C:=Hz_ (Rd.of_own ho)
       have hb':=then_alloc kw (.cells #[.int .u8 sf] 5)
       have E:=Hz_ (own_below E.out hb' (Nat.le_refl _))
       have kw:=btn kw hb'
       clear ho hb'
       refine hK.out _ _ (HS2.out _ kw) fun hHeld=>?_
       clear hK K
       refine puR 9 fun K hK=>?_
       rw[if_pos (by kernel_rfl)]
       refine wp_append_rd _ (.tmp 80) (.tmp 88) _ rfl W0.heap.size 5 i0 _ 1 1 Tryz.underlying29 hi0 hz0 hz1 hz2 rfl (by decide) _ N (bv lx) rfl E.out _ (some ⟨wr.drew.heap.size,0,none⟩) 1 1 ([Value.int .u8 sf]) rfl C.out (by simp[Value.oneCell']) m1 (by omega) kw.size ?_
       intro A88 c88 V88 ho hg hat
       have kw:=kw.trans (grown_below hg kw.size (fun g hg'=>(E.out.lt g hg').1))
       have E:=Hz_ ho
       clear ho hg hat C
       refine hK.out _ _ (HS2.out _ kw) fun hHeld=>?_
       clear hK K
       refine puR 16 fun K hK=>?_
       go_simp
       refine(GY.out _ kw).mono ?_
       rintro e W2 ⟨_,rfl,D2,d2,rfl,ho1,hb'⟩
       have C:=Hz_ (Rd.of_own ho1)
       have E:=Hz_ (own_below E.out hb' (Nat.le_refl _))
       have kw:=btn kw hb'
       clear ho1 hb'
       refine hK.out _ _ (HS2.out _ kw) fun hHeld=>?_
       clear hK K
       refine puR 17 fun K hK=>?_
       rw[if_pos (by kernel_rfl)]
       refine wp_append_rd _ (.tmp 89) (.tmp 96) _ rfl W0.heap.size 5 i0 _ 1 1 Tryz.underlying29 hi0 hz0 hz1 hz2 rfl (by decide) _ (N+1) (bv lx++[Value.int .u8 sf]) rfl E.out _ D2 ly d2 (bv y) rfl C.out (bv_oneCell _) m2 (by omega) kw.size ?_
       intro A96 c96 V96 ho hg hat
       have kw:=kw.trans (grown_below hg kw.size (fun g hg'=>(E.out.lt g hg').1))
       have E:=Hz_ ho
       clear ho hg hat C
       refine hK.out _ _ (HS2.out _ kw) fun hHeld=>?_
       clear hK K
       refine puA 18 4 (HS2.out _ kw) ?_
       refine wpAnyH_done (by kernel_rfl) ?_ _
       refine Nrm.out (hKK _ _ ?_)
       clear hHeld
       go_wp2_with fail
       go_roundw
       case rel=>
        refine⟨j+1,N+1+ly,c96,A96,by go_num,rfl,by omega,by omega,?_,?_,kw⟩
        ·show World.ownsRow _ _ _ _ _ _ _
         rw[HT.out];simp only[bv_app];rw[FDV.out];exact E.out
        ·show _=_
         obtain⟨a1,a2⟩:=HLN.out
         rw[HT.out,List.length_append,List.length_append,a1,FDL.out,←a2]
       case measure=>simp[intOf];omega
      ·obtain rfl:ns=j:=by omega
       have q9:=hq.out
       have q3:=ho.out
       rw[AS.out] at q9 q3
       have kw:=hb
       clear hq ho hbs hb
       go_wp2
       go_ret2
       exact⟨_,rfl,A',c',by rw[q9];rfl,by rw[q9];exact own_less q3 (by have:=HB0.out.size;omega),btn HB0.out kw⟩
  ·go_simp
   refine hK.out _ _ (HS.out _ kw) fun hHeld=>?_
   clear hK K
   refine wpAnyH_ready (rs:=[3,9]) (by kernel_rfl) (by simp) ?_
   refine AllReadyH.cons rfl (fun K hK=>?_) (AllReadyH.cons rfl (fun K hK=>?_) AllReadyH.nil)
   ·go_simp
    refine(GX.out _ kw).mono ?_
    rintro e W1 ⟨_,rfl,D1,d1,rfl,ho1,hb'⟩
    have C:=Hz_ (Rd.of_own ho1)
    have E:=Hz_ (own_below E.out hb' (Nat.le_refl _))
    try have C2:=Hz_ (C2.out.go hb')
    have kw:=btn kw hb'
    clear ho1 hb'
    refine hK.out _ _ (HS.out _ kw) fun hHeld=>?_
    clear hK K
    refine wpAnyH_ready (rs:=[4,9]) (by kernel_rfl) (by simp) ?_
    refine AllReadyH.cons rfl (fun K hK=>?_) (AllReadyH.cons rfl (fun K hK=>?_) AllReadyH.nil)
    ·rw[if_pos (by kernel_rfl)]
     refine wp_append_rd _ (.tmp 62) (.tmp 65) _ rfl W0.heap.size 5 i0 _ 1 1 Tryz.underlying29 hi0 hz0 hz1 hz2 rfl (by decide) _ 1 (bv hd) rfl E.out _ D1 ly d1 (bv y) rfl C.out (bv_oneCell _) m1 (by omega) kw.size ?_
     intro A65 c65 V65 ho hg hat
     try have C2:=Hz_ (rd_other C2.out hg (by have:=HG.out;simp only[World.size_drew] at this ⊢;omega))
     have kw:=kw.trans (grown_below hg kw.size (fun g hg'=>(E.out.lt g hg').1))
     have E:=Hz_ ho
     clear ho hg hat C
     refine hK.out _ _ (HS.out _ kw) fun hHeld=>?_
     clear hK K
     refine puR 9 fun K hK=>?_
     go_simp
     have ho:=own_new2 kw 5 (ns:Int)
     have C2:=Hz_ (Rd.of_own ho)
     try have HG:=Hz_ (E.out.lt w1.heap.size rfl).2
     have hb':=then_alloc kw (.cells #[.int .u8 (ns:Int)] 5)
     have E:=Hz_ (own_below E.out hb' (Nat.le_refl _))
     try have C:=Hz_ (C.out.go hb')
     have kw:=btn kw hb'
     clear ho hb'
     refine hK.out _ _ (HS.out _ kw) fun hHeld=>?_
     clear hK K
     refine puR 10 fun K hK=>?_
     rw[if_pos (by kernel_rfl)]
     refine wp_append_rd _ (.tmp 66) (.tmp 71) _ rfl W0.heap.size 5 i0 _ 1 1 Tryz.underlying29 hi0 hz0 hz1 hz2 rfl (by decide) _ (1+ly) (bv hd++bv y) rfl E.out _ _ 1 1 ([.int .u8 (ns:Int)]) rfl C2.out (by simp[Value.oneCell']) m2 (by omega) kw.size ?_
     intro A71 c71 V71 ho hg hat
     have kw:=kw.trans (grown_below hg kw.size (fun g hg'=>(E.out.lt g hg').1))
     have E:=Hz_ ho
     clear ho hg hat C2
     refine hK.out _ _ (HS.out _ kw) fun hHeld=>?_
     clear hK K
     refine puA 11 4 (HS.out _ kw) ?_
     refine wpAnyH_done (by kernel_rfl) ?_ _
     refine Nrm.out (hKK _ _ ?_)
     clear hHeld
     obtain⟨m3,hm3⟩:∃m,m=1+ly+1:=⟨_,rfl⟩
     rw[←hm3] at E ⊢
     have hpl:pre.length=m3:=by rw[HPL.out,hm3]
     have m3l:m3≤1000100:=by omega
     have E:=Hz_ (show World.ownsRow _ W0.heap.size 5 1 (.slice A71 m3 c71) m3 (bv pre) from by rw[HPV.out];exact E.out)
     have HPM:=Hz_ hpl
     obtain⟨p0,p1,p2,p3,p4,p5,p6,p7,p8,p9,p10,p11,p12,p13,p14,p15,p16⟩:=HX.out _ kw
     have K2:=Hz_ kw
     clear kw hm3 hpl
     go_wp2_with fail
     go_loopw [4,5] (fun v4 v5 wr=>∃(j N c':Nat) (A':Option Addr),v5=.int .i64 j∧v4=.slice A' N c'∧j≤ns∧N≤1000200+600 * j∧Hid (wr.ownsRow W0.heap.size 5 1 (.slice A' N c') N (bv (pre++((sbs S).take j).flatMap lSb)))∧Hid ((pre++((sbs S).take j).flatMap lSb).length=N)∧Below W0.heap.size W0 wr) (fun _ v5 _=>ns - (intOf v5).toNat)
     case atStart=>exact⟨0,m3,c71,A71,rfl,rfl,by omega,by omega,by show World.ownsRow _ _ _ _ _ _ _;simpa using E.out,by show _=_;simp[HPM.out],K2.out⟩
     case round=>
      obtain⟨j,N,c',A',rfl,rfl,hj,hN,ho,hq,hb⟩:=hrel
      have hbs:=hb.size
      clear E
      clear p0 p1 p2 p3 p4 p5 p6 p7 p8 p9 p10 p11 p12 p13 p14 p15 p16
      obtain⟨p0,p1,p2,p3,p4,p5,p6,p7,p8,p9,p10,p11,p12,p13,p14,p15,p16⟩:=HX.out _ hb
      by_cases hlt:j < ns
      ·have hjl:j < S.length:=by rw[HSL.out];exact hlt
       obtain⟨bb',oo,rfl,hbb,g0,g1,g2,g3,g4,g5,g6⟩:=HSR.out wr hb j hjl
       have hsr:=fun W hb=>held_at (HSR.out W hb j hjl)
       have ht:=TS.out j hjl
       obtain⟨lx,hlx⟩:∃x,x=pre++((sbs S).take j).flatMap lSb:=⟨_,rfl⟩
       have hlN:lx.length=N:=by rw[hlx];exact hq.out
       have E:=Hz_ (show wr.drew.ownsRow W0.heap.size 5 1 (.slice A' N c') N (bv lx) by rw[hlx];exact ho.out)
       rw[←hlx] at ht
       have cs:=CS.out j hjl
       have es:=fun W hb=>HSE.out W hb j hjl
       clear hlx ho hq
       obtain⟨⟨⟨aA,ac⟩,⟨sf,si,ses,seq,lv,hr,id⟩⟩,hpx⟩:∃p,p=S[j]:=⟨_,rfl⟩
       rw[←hpx] at g0 g1 cs es ht hsr
       clear hpx g2 g3 g4 g5 g6
       dsimp only at g0 g1 cs es ht hsr
       have GY:=fun (W:World) (hb:Below W0.heap.size W0 W)=>refSetBytes_any aA si.length ac si W rfl (es W hb) cs.2
       have hl:=Wq.lS_len cs.2
       obtain⟨y,hy⟩:∃x,x=Wq.lS si:=⟨_,rfl⟩
       obtain⟨ly,hly⟩:∃x,x=y.length:=⟨_,rfl⟩
       unfold BytesAre at GY
       rw[←hy] at GY hl ht
       rw[←hly] at GY hl
       obtain⟨sn,hsn⟩:∃x,x=si.length:=⟨_,rfl⟩
       rw[←hsn] at GY g1 hsr
       have fdv:=bv_byte (x:=sf) cs.1.1 (by omega)
       have fdl:=lay_one (x:=sf) cs.1.1 (by omega)
       obtain⟨fd,hfd⟩:∃x,x=layAll [sf]:=⟨_,rfl⟩
       rw[←hfd] at fdv fdl ht
       have m1:N+1≤maxLen:=by unfold maxLen;omega
       have m2:N+1+ly≤maxLen:=by unfold maxLen;omega
       have hcv:=wrap_u8 (x:=sf) cs.1.1 (by omega)
       have FDV:=Hz_ fdv
       have FDL:=Hz_ fdl
       have GY:=Hz_ GY
       have HT:=Hz_ ht
       have HLN:=Hz_ (And.intro hlN hly)
       have HS2:=Hz_ fun (W:World) (hb:Below W0.heap.size W0 W)=>(show W.cell? ⟨w.heap.size,16,none⟩=some (.slice (some ⟨bb',oo,none⟩) ns sc)∧W.cell? ⟨bb',oo+j * 7,none⟩=some (.int .i64 sf)∧W.cell? ⟨bb',oo+j * 7+1,none⟩=some (.slice aA sn ac) from by
        obtain⟨p0,p1,p2,p3,p4,p5,p6,p7,p8,p9,p10,p11,p12,p13,p14,p15,p16⟩:=HX.out W hb
        exact⟨p16,(hsr W hb).1,(hsr W hb).2.1⟩)
       have kw:Below W0.heap.size W0 wr.drew:=hb.drew
       clear es cs ht hy hly hlN hsn hb fdv fdl hfd hsr
       go_upto_region 20 with fail
       clear g0 g1
       clear p0 p1 p2 p3 p4 p5 p6 p7 p8 p9 p10 p11 p12 p13 p14 p15 p16
       refine region_nrm fun KK hKK=>?_
       refine wp_region_held_drew (S:=(fun W=>W.cell? ⟨w.heap.size,16,none⟩=some (.slice (some ⟨bb',oo,none⟩) ns sc)∧W.cell? ⟨bb',oo+j * 7,none⟩=some (.int .i64 sf)∧W.cell? ⟨bb',oo+j * 7+1,none⟩=some (.slice aA sn ac))) (by kernel_rfl) (by first | exact HS2.out _ kw) (fun hHeld=>?_)
       refine puA 0 80 (HS2.out _ kw) ?_
       refine puA 1 81 (HS2.out _ kw) ?_
       refine puA 2 82 (HS2.out _ kw) ?_
       refine puA 3 83 (HS2.out _ kw) ?_
       refine puA 4 84 (HS2.out _ kw) ?_
       refine puA 5 85 (HS2.out _ kw) ?_
       refine puA 6 86 (HS2.out _ kw) ?_
       refine puA 10 90 (HS2.out _ kw) ?_
       refine puA 11 91 (HS2.out _ kw) ?_
       refine puA 12 92 (HS2.out _ kw) ?_
       refine puA 13 93 (HS2.out _ kw) ?_
       refine puA 14 94 (HS2.out _ kw) ?_
       refine puA 15 95 (HS2.out _ kw) ?_
       refine puR 7 fun K hK=>?_
       go_simp
       refine hK.out _ _ (HS2.out _ kw) fun hHeld=>?_
       clear hK K
       refine puR 8 fun K hK=>?_
       go_simp
       have ho:=own_new2 kw 5 sf
       have C:=Hz_ (Rd.of_own ho)
       have hb':=then_alloc kw (.cells #[.int .u8 sf] 5)
       have E:=Hz_ (own_below E.out hb' (Nat.le_refl _))
       have kw:=btn kw hb'
       clear ho hb'
       refine hK.out _ _ (HS2.out _ kw) fun hHeld=>?_
       clear hK K
       refine puR 9 fun K hK=>?_
       rw[if_pos (by kernel_rfl)]
       refine wp_append_rd _ (.tmp 80) (.tmp 88) _ rfl W0.heap.size 5 i0 _ 1 1 Tryz.underlying29 hi0 hz0 hz1 hz2 rfl (by decide) _ N (bv lx) rfl E.out _ (some ⟨wr.drew.heap.size,0,none⟩) 1 1 ([Value.int .u8 sf]) rfl C.out (by simp[Value.oneCell']) m1 (by omega) kw.size ?_
       intro A88 c88 V88 ho hg hat
       have kw:=kw.trans (grown_below hg kw.size (fun g hg'=>(E.out.lt g hg').1))
       have E:=Hz_ ho
       clear ho hg hat C
       refine hK.out _ _ (HS2.out _ kw) fun hHeld=>?_
       clear hK K
       refine puR 16 fun K hK=>?_
       go_simp
       refine(GY.out _ kw).mono ?_
       rintro e W2 ⟨_,rfl,D2,d2,rfl,ho1,hb'⟩
       have C:=Hz_ (Rd.of_own ho1)
       have E:=Hz_ (own_below E.out hb' (Nat.le_refl _))
       have kw:=btn kw hb'
       clear ho1 hb'
       refine hK.out _ _ (HS2.out _ kw) fun hHeld=>?_
       clear hK K
       refine puR 17 fun K hK=>?_
       rw[if_pos (by kernel_rfl)]
       refine wp_append_rd _ (.tmp 89) (.tmp 96) _ rfl W0.heap.size 5 i0 _ 1 1 Tryz.underlying29 hi0 hz0 hz1 hz2 rfl (by decide) _ (N+1) (bv lx++[Value.int .u8 sf]) rfl E.out _ D2 ly d2 (bv y) rfl C.out (bv_oneCell _) m2 (by omega) kw.size ?_
       intro A96 c96 V96 ho hg hat
       have kw:=kw.trans (grown_below hg kw.size (fun g hg'=>(E.out.lt g hg').1))
       have E:=Hz_ ho
       clear ho hg hat C
       refine hK.out _ _ (HS2.out _ kw) fun hHeld=>?_
       clear hK K
       refine puA 18 4 (HS2.out _ kw) ?_
       refine wpAnyH_done (by kernel_rfl) ?_ _
       refine Nrm.out (hKK _ _ ?_)
       clear hHeld
       go_wp2_with fail
       go_roundw
       case rel=>
        refine⟨j+1,N+1+ly,c96,A96,by go_num,rfl,by omega,by omega,?_,?_,kw⟩
        ·show World.ownsRow _ _ _ _ _ _ _
         rw[HT.out];simp only[bv_app];rw[FDV.out];exact E.out
        ·show _=_
         obtain⟨a1,a2⟩:=HLN.out
         rw[HT.out,List.length_append,List.length_append,a1,FDL.out,←a2]
       case measure=>simp[intOf];omega
      ·obtain rfl:ns=j:=by omega
       have q9:=hq.out
       have q3:=ho.out
       rw[AS.out] at q9 q3
       have kw:=hb
       clear hq ho hbs hb
       go_wp2
       go_ret2
       exact⟨_,rfl,A',c',by rw[q9];rfl,by rw[q9];exact own_less q3 (by have:=HB0.out.size;omega),btn HB0.out kw⟩
    ·go_simp
     have ho:=own_new2 kw 5 (ns:Int)
     have C2:=Hz_ (Rd.of_own ho)
     try have HG:=Hz_ (E.out.lt w1.heap.size rfl).2
     have hb':=then_alloc kw (.cells #[.int .u8 (ns:Int)] 5)
     have E:=Hz_ (own_below E.out hb' (Nat.le_refl _))
     try have C:=Hz_ (C.out.go hb')
     have kw:=btn kw hb'
     clear ho hb'
     refine hK.out _ _ (HS.out _ kw) fun hHeld=>?_
     clear hK K
     refine puR 4 fun K hK=>?_
     rw[if_pos (by kernel_rfl)]
     refine wp_append_rd _ (.tmp 62) (.tmp 65) _ rfl W0.heap.size 5 i0 _ 1 1 Tryz.underlying29 hi0 hz0 hz1 hz2 rfl (by decide) _ 1 (bv hd) rfl E.out _ D1 ly d1 (bv y) rfl C.out (bv_oneCell _) m1 (by omega) kw.size ?_
     intro A65 c65 V65 ho hg hat
     try have C2:=Hz_ (rd_other C2.out hg (by have:=HG.out;simp only[World.size_drew] at this ⊢;omega))
     have kw:=kw.trans (grown_below hg kw.size (fun g hg'=>(E.out.lt g hg').1))
     have E:=Hz_ ho
     clear ho hg hat C
     refine hK.out _ _ (HS.out _ kw) fun hHeld=>?_
     clear hK K
     refine puR 10 fun K hK=>?_
     rw[if_pos (by kernel_rfl)]
     refine wp_append_rd _ (.tmp 66) (.tmp 71) _ rfl W0.heap.size 5 i0 _ 1 1 Tryz.underlying29 hi0 hz0 hz1 hz2 rfl (by decide) _ (1+ly) (bv hd++bv y) rfl E.out _ _ 1 1 ([.int .u8 (ns:Int)]) rfl C2.out (by simp[Value.oneCell']) m2 (by omega) kw.size ?_
     intro A71 c71 V71 ho hg hat
     have kw:=kw.trans (grown_below hg kw.size (fun g hg'=>(E.out.lt g hg').1))
     have E:=Hz_ ho
     clear ho hg hat C2
     refine hK.out _ _ (HS.out _ kw) fun hHeld=>?_
     clear hK K
     refine puA 11 4 (HS.out _ kw) ?_
     refine wpAnyH_done (by kernel_rfl) ?_ _
     refine Nrm.out (hKK _ _ ?_)
     clear hHeld
     obtain⟨m3,hm3⟩:∃m,m=1+ly+1:=⟨_,rfl⟩
     rw[←hm3] at E ⊢
     have hpl:pre.length=m3:=by rw[HPL.out,hm3]
     have m3l:m3≤1000100:=by omega
     have E:=Hz_ (show World.ownsRow _ W0.heap.size 5 1 (.slice A71 m3 c71) m3 (bv pre) from by rw[HPV.out];exact E.out)
     have HPM:=Hz_ hpl
     obtain⟨p0,p1,p2,p3,p4,p5,p6,p7,p8,p9,p10,p11,p12,p13,p14,p15,p16⟩:=HX.out _ kw
     have K2:=Hz_ kw
     clear kw hm3 hpl
     go_wp2_with fail
     go_loopw [4,5] (fun v4 v5 wr=>∃(j N c':Nat) (A':Option Addr),v5=.int .i64 j∧v4=.slice A' N c'∧j≤ns∧N≤1000200+600 * j∧Hid (wr.ownsRow W0.heap.size 5 1 (.slice A' N c') N (bv (pre++((sbs S).take j).flatMap lSb)))∧Hid ((pre++((sbs S).take j).flatMap lSb).length=N)∧Below W0.heap.size W0 wr) (fun _ v5 _=>ns - (intOf v5).toNat)
     case atStart=>exact⟨0,m3,c71,A71,rfl,rfl,by omega,by omega,by show World.ownsRow _ _ _ _ _ _ _;simpa using E.out,by show _=_;simp[HPM.out],K2.out⟩
     case round=>
      obtain⟨j,N,c',A',rfl,rfl,hj,hN,ho,hq,hb⟩:=hrel
      have hbs:=hb.size
      clear E
      clear p0 p1 p2 p3 p4 p5 p6 p7 p8 p9 p10 p11 p12 p13 p14 p15 p16
      obtain⟨p0,p1,p2,p3,p4,p5,p6,p7,p8,p9,p10,p11,p12,p13,p14,p15,p16⟩:=HX.out _ hb
      by_cases hlt:j < ns
      ·have hjl:j < S.length:=by rw[HSL.out];exact hlt
       obtain⟨bb',oo,rfl,hbb,g0,g1,g2,g3,g4,g5,g6⟩:=HSR.out wr hb j hjl
       have hsr:=fun W hb=>held_at (HSR.out W hb j hjl)
       have ht:=TS.out j hjl
       obtain⟨lx,hlx⟩:∃x,x=pre++((sbs S).take j).flatMap lSb:=⟨_,rfl⟩
       have hlN:lx.length=N:=by rw[hlx];exact hq.out
       have E:=Hz_ (show wr.drew.ownsRow W0.heap.size 5 1 (.slice A' N c') N (bv lx) by rw[hlx];exact ho.out)
       rw[←hlx] at ht
       have cs:=CS.out j hjl
       have es:=fun W hb=>HSE.out W hb j hjl
       clear hlx ho hq
       obtain⟨⟨⟨aA,ac⟩,⟨sf,si,ses,seq,lv,hr,id⟩⟩,hpx⟩:∃p,p=S[j]:=⟨_,rfl⟩
       rw[←hpx] at g0 g1 cs es ht hsr
       clear hpx g2 g3 g4 g5 g6
       dsimp only at g0 g1 cs es ht hsr
       have GY:=fun (W:World) (hb:Below W0.heap.size W0 W)=>refSetBytes_any aA si.length ac si W rfl (es W hb) cs.2
       have hl:=Wq.lS_len cs.2
       obtain⟨y,hy⟩:∃x,x=Wq.lS si:=⟨_,rfl⟩
       obtain⟨ly,hly⟩:∃x,x=y.length:=⟨_,rfl⟩
       unfold BytesAre at GY
       rw[←hy] at GY hl ht
       rw[←hly] at GY hl
       obtain⟨sn,hsn⟩:∃x,x=si.length:=⟨_,rfl⟩
       rw[←hsn] at GY g1 hsr
       have fdv:=bv_byte (x:=sf) cs.1.1 (by omega)
       have fdl:=lay_one (x:=sf) cs.1.1 (by omega)
       obtain⟨fd,hfd⟩:∃x,x=layAll [sf]:=⟨_,rfl⟩
       rw[←hfd] at fdv fdl ht
       have m1:N+1≤maxLen:=by unfold maxLen;omega
       have m2:N+1+ly≤maxLen:=by unfold maxLen;omega
       have hcv:=wrap_u8 (x:=sf) cs.1.1 (by omega)
       have FDV:=Hz_ fdv
       have FDL:=Hz_ fdl
       have GY:=Hz_ GY
       have HT:=Hz_ ht
       have HLN:=Hz_ (And.intro hlN hly)
       have HS2:=Hz_ fun (W:World) (hb:Below W0.heap.size W0 W)=>(show W.cell? ⟨w.heap.size,16,none⟩=some (.slice (some ⟨bb',oo,none⟩) ns sc)∧W.cell? ⟨bb',oo+j * 7,none⟩=some (.int .i64 sf)∧W.cell? ⟨bb',oo+j * 7+1,none⟩=some (.slice aA sn ac) from by
        obtain⟨p0,p1,p2,p3,p4,p5,p6,p7,p8,p9,p10,p11,p12,p13,p14,p15,p16⟩:=HX.out W hb
        exact⟨p16,(hsr W hb).1,(hsr W hb).2.1⟩)
       have kw:Below W0.heap.size W0 wr.drew:=hb.drew
       clear es cs ht hy hly hlN hsn hb fdv fdl hfd hsr
       go_upto_region 20 with fail
       clear g0 g1
       clear p0 p1 p2 p3 p4 p5 p6 p7 p8 p9 p10 p11 p12 p13 p14 p15 p16
       refine region_nrm fun KK hKK=>?_
       refine wp_region_held_drew (S:=(fun W=>W.cell? ⟨w.heap.size,16,none⟩=some (.slice (some ⟨bb',oo,none⟩) ns sc)∧W.cell? ⟨bb',oo+j * 7,none⟩=some (.int .i64 sf)∧W.cell? ⟨bb',oo+j * 7+1,none⟩=some (.slice aA sn ac))) (by kernel_rfl) (by first | exact HS2.out _ kw) (fun hHeld=>?_)
       refine puA 0 80 (HS2.out _ kw) ?_
       refine puA 1 81 (HS2.out _ kw) ?_
       refine puA 2 82 (HS2.out _ kw) ?_
       refine puA 3 83 (HS2.out _ kw) ?_
       refine puA 4 84 (HS2.out _ kw) ?_
       refine puA 5 85 (HS2.out _ kw) ?_
       refine puA 6 86 (HS2.out _ kw) ?_
       refine puA 10 90 (HS2.out _ kw) ?_
       refine puA 11 91 (HS2.out _ kw) ?_
       refine puA 12 92 (HS2.out _ kw) ?_
       refine puA 13 93 (HS2.out _ kw) ?_
       refine puA 14 94 (HS2.out _ kw) ?_
       refine puA 15 95 (HS2.out _ kw) ?_
       refine puR 7 fun K hK=>?_
       go_simp
       refine hK.out _ _ (HS2.out _ kw) fun hHeld=>?_
       clear hK K
       refine puR 8 fun K hK=>?_
       go_simp
       have ho:=own_new2 kw 5 sf
       have C:=Hz_ (Rd.of_own ho)
       have hb':=then_alloc kw (.cells #[.int .u8 sf] 5)
       have E:=Hz_ (own_below E.out hb' (Nat.le_refl _))
       have kw:=btn kw hb'
       clear ho hb'
       refine hK.out _ _ (HS2.out _ kw) fun hHeld=>?_
       clear hK K
       refine puR 9 fun K hK=>?_
       rw[if_pos (by kernel_rfl)]
       refine wp_append_rd _ (.tmp 80) (.tmp 88) _ rfl W0.heap.size 5 i0 _ 1 1 Tryz.underlying29 hi0 hz0 hz1 hz2 rfl (by decide) _ N (bv lx) rfl E.out _ (some ⟨wr.drew.heap.size,0,none⟩) 1 1 ([Value.int .u8 sf]) rfl C.out (by simp[Value.oneCell']) m1 (by omega) kw.size ?_
       intro A88 c88 V88 ho hg hat
       have kw:=kw.trans (grown_below hg kw.size (fun g hg'=>(E.out.lt g hg').1))
       have E:=Hz_ ho
       clear ho hg hat C
       refine hK.out _ _ (HS2.out _ kw) fun hHeld=>?_
       clear hK K
       refine puR 16 fun K hK=>?_
       go_simp
       refine(GY.out _ kw).mono ?_
       rintro e W2 ⟨_,rfl,D2,d2,rfl,ho1,hb'⟩
       have C:=Hz_ (Rd.of_own ho1)
       have E:=Hz_ (own_below E.out hb' (Nat.le_refl _))
       have kw:=btn kw hb'
       clear ho1 hb'
       refine hK.out _ _ (HS2.out _ kw) fun hHeld=>?_
       clear hK K
       refine puR 17 fun K hK=>?_
       rw[if_pos (by kernel_rfl)]
       refine wp_append_rd _ (.tmp 89) (.tmp 96) _ rfl W0.heap.size 5 i0 _ 1 1 Tryz.underlying29 hi0 hz0 hz1 hz2 rfl (by decide) _ (N+1) (bv lx++[Value.int .u8 sf]) rfl E.out _ D2 ly d2 (bv y) rfl C.out (bv_oneCell _) m2 (by omega) kw.size ?_
       intro A96 c96 V96 ho hg hat
       have kw:=kw.trans (grown_below hg kw.size (fun g hg'=>(E.out.lt g hg').1))
       have E:=Hz_ ho
       clear ho hg hat C
       refine hK.out _ _ (HS2.out _ kw) fun hHeld=>?_
       clear hK K
       refine puA 18 4 (HS2.out _ kw) ?_
       refine wpAnyH_done (by kernel_rfl) ?_ _
       refine Nrm.out (hKK _ _ ?_)
       clear hHeld
       go_wp2_with fail
       go_roundw
       case rel=>
        refine⟨j+1,N+1+ly,c96,A96,by go_num,rfl,by omega,by omega,?_,?_,kw⟩
        ·show World.ownsRow _ _ _ _ _ _ _
         rw[HT.out];simp only[bv_app];rw[FDV.out];exact E.out
        ·show _=_
         obtain⟨a1,a2⟩:=HLN.out
         rw[HT.out,List.length_append,List.length_append,a1,FDL.out,←a2]
       case measure=>simp[intOf];omega
      ·obtain rfl:ns=j:=by omega
       have q9:=hq.out
       have q3:=ho.out
       rw[AS.out] at q9 q3
       have kw:=hb
       clear hq ho hbs hb
       go_wp2
       go_ret2
       exact⟨_,rfl,A',c',by rw[q9];rfl,by rw[q9];exact own_less q3 (by have:=HB0.out.size;omega),btn HB0.out kw⟩
   ·go_simp
    have ho:=own_new2 kw 5 (ns:Int)
    have C2:=Hz_ (Rd.of_own ho)
    try have HG:=Hz_ (E.out.lt w1.heap.size rfl).2
    have hb':=then_alloc kw (.cells #[.int .u8 (ns:Int)] 5)
    have E:=Hz_ (own_below E.out hb' (Nat.le_refl _))
    try have C:=Hz_ (C.out.go hb')
    have kw:=btn kw hb'
    clear ho hb'
    refine hK.out _ _ (HS.out _ kw) fun hHeld=>?_
    clear hK K
    refine puR 3 fun K hK=>?_
    go_simp
    refine(GX.out _ kw).mono ?_
    rintro e W1 ⟨_,rfl,D1,d1,rfl,ho1,hb'⟩
    have C:=Hz_ (Rd.of_own ho1)
    have E:=Hz_ (own_below E.out hb' (Nat.le_refl _))
    try have C2:=Hz_ (C2.out.go hb')
    have kw:=btn kw hb'
    clear ho1 hb'
    refine hK.out _ _ (HS.out _ kw) fun hHeld=>?_
    clear hK K
    refine puR 4 fun K hK=>?_
    rw[if_pos (by kernel_rfl)]
    refine wp_append_rd _ (.tmp 62) (.tmp 65) _ rfl W0.heap.size 5 i0 _ 1 1 Tryz.underlying29 hi0 hz0 hz1 hz2 rfl (by decide) _ 1 (bv hd) rfl E.out _ D1 ly d1 (bv y) rfl C.out (bv_oneCell _) m1 (by omega) kw.size ?_
    intro A65 c65 V65 ho hg hat
    try have C2:=Hz_ (rd_other C2.out hg (by have:=HG.out;simp only[World.size_drew] at this ⊢;omega))
    have kw:=kw.trans (grown_below hg kw.size (fun g hg'=>(E.out.lt g hg').1))
    have E:=Hz_ ho
    clear ho hg hat C
    refine hK.out _ _ (HS.out _ kw) fun hHeld=>?_
    clear hK K
    refine puR 10 fun K hK=>?_
    rw[if_pos (by kernel_rfl)]
    refine wp_append_rd _ (.tmp 66) (.tmp 71) _ rfl W0.heap.size 5 i0 _ 1 1 Tryz.underlying29 hi0 hz0 hz1 hz2 rfl (by decide) _ (1+ly) (bv hd++bv y) rfl E.out _ _ 1 1 ([.int .u8 (ns:Int)]) rfl C2.out (by simp[Value.oneCell']) m2 (by omega) kw.size ?_
    intro A71 c71 V71 ho hg hat
    have kw:=kw.trans (grown_below hg kw.size (fun g hg'=>(E.out.lt g hg').1))
    have E:=Hz_ ho
    clear ho hg hat C2
    refine hK.out _ _ (HS.out _ kw) fun hHeld=>?_
    clear hK K
    refine puA 11 4 (HS.out _ kw) ?_
    refine wpAnyH_done (by kernel_rfl) ?_ _
    refine Nrm.out (hKK _ _ ?_)
    clear hHeld
    obtain⟨m3,hm3⟩:∃m,m=1+ly+1:=⟨_,rfl⟩
    rw[←hm3] at E ⊢
    have hpl:pre.length=m3:=by rw[HPL.out,hm3]
    have m3l:m3≤1000100:=by omega
    have E:=Hz_ (show World.ownsRow _ W0.heap.size 5 1 (.slice A71 m3 c71) m3 (bv pre) from by rw[HPV.out];exact E.out)
    have HPM:=Hz_ hpl
    obtain⟨p0,p1,p2,p3,p4,p5,p6,p7,p8,p9,p10,p11,p12,p13,p14,p15,p16⟩:=HX.out _ kw
    have K2:=Hz_ kw
    clear kw hm3 hpl
    go_wp2_with fail
    go_loopw [4,5] (fun v4 v5 wr=>∃(j N c':Nat) (A':Option Addr),v5=.int .i64 j∧v4=.slice A' N c'∧j≤ns∧N≤1000200+600 * j∧Hid (wr.ownsRow W0.heap.size 5 1 (.slice A' N c') N (bv (pre++((sbs S).take j).flatMap lSb)))∧Hid ((pre++((sbs S).take j).flatMap lSb).length=N)∧Below W0.heap.size W0 wr) (fun _ v5 _=>ns - (intOf v5).toNat)
    case atStart=>exact⟨0,m3,c71,A71,rfl,rfl,by omega,by omega,by show World.ownsRow _ _ _ _ _ _ _;simpa using E.out,by show _=_;simp[HPM.out],K2.out⟩
    case round=>
     obtain⟨j,N,c',A',rfl,rfl,hj,hN,ho,hq,hb⟩:=hrel
     have hbs:=hb.size
     clear E
     clear p0 p1 p2 p3 p4 p5 p6 p7 p8 p9 p10 p11 p12 p13 p14 p15 p16
     obtain⟨p0,p1,p2,p3,p4,p5,p6,p7,p8,p9,p10,p11,p12,p13,p14,p15,p16⟩:=HX.out _ hb
     by_cases hlt:j < ns
     ·have hjl:j < S.length:=by rw[HSL.out];exact hlt
      obtain⟨bb',oo,rfl,hbb,g0,g1,g2,g3,g4,g5,g6⟩:=HSR.out wr hb j hjl
      have hsr:=fun W hb=>held_at (HSR.out W hb j hjl)
      have ht:=TS.out j hjl
      obtain⟨lx,hlx⟩:∃x,x=pre++((sbs S).take j).flatMap lSb:=⟨_,rfl⟩
      have hlN:lx.length=N:=by rw[hlx];exact hq.out
      have E:=Hz_ (show wr.drew.ownsRow W0.heap.size 5 1 (.slice A' N c') N (bv lx) by rw[hlx];exact ho.out)
      rw[←hlx] at ht
      have cs:=CS.out j hjl
      have es:=fun W hb=>HSE.out W hb j hjl
      clear hlx ho hq
      obtain⟨⟨⟨aA,ac⟩,⟨sf,si,ses,seq,lv,hr,id⟩⟩,hpx⟩:∃p,p=S[j]:=⟨_,rfl⟩
      rw[←hpx] at g0 g1 cs es ht hsr
      clear hpx g2 g3 g4 g5 g6
      dsimp only at g0 g1 cs es ht hsr
      have GY:=fun (W:World) (hb:Below W0.heap.size W0 W)=>refSetBytes_any aA si.length ac si W rfl (es W hb) cs.2
      have hl:=Wq.lS_len cs.2
      obtain⟨y,hy⟩:∃x,x=Wq.lS si:=⟨_,rfl⟩
      obtain⟨ly,hly⟩:∃x,x=y.length:=⟨_,rfl⟩
      unfold BytesAre at GY
      rw[←hy] at GY hl ht
      rw[←hly] at GY hl
      obtain⟨sn,hsn⟩:∃x,x=si.length:=⟨_,rfl⟩
      rw[←hsn] at GY g1 hsr
      have fdv:=bv_byte (x:=sf) cs.1.1 (by omega)
      have fdl:=lay_one (x:=sf) cs.1.1 (by omega)
      obtain⟨fd,hfd⟩:∃x,x=layAll [sf]:=⟨_,rfl⟩
      rw[←hfd] at fdv fdl ht
      have m1:N+1≤maxLen:=by unfold maxLen;omega
      have m2:N+1+ly≤maxLen:=by unfold maxLen;omega
      have hcv:=wrap_u8 (x:=sf) cs.1.1 (by omega)
      have FDV:=Hz_ fdv
      have FDL:=Hz_ fdl
      have GY:=Hz_ GY
      have HT:=Hz_ ht
      have HLN:=Hz_ (And.intro hlN hly)
      have HS2:=Hz_ fun (W:World) (hb:Below W0.heap.size W0 W)=>(show W.cell? ⟨w.heap.size,16,none⟩=some (.slice (some ⟨bb',oo,none⟩) ns sc)∧W.cell? ⟨bb',oo+j * 7,none⟩=some (.int .i64 sf)∧W.cell? ⟨bb',oo+j * 7+1,none⟩=some (.slice aA sn ac) from by
       obtain⟨p0,p1,p2,p3,p4,p5,p6,p7,p8,p9,p10,p11,p12,p13,p14,p15,p16⟩:=HX.out W hb
       exact⟨p16,(hsr W hb).1,(hsr W hb).2.1⟩)
      have kw:Below W0.heap.size W0 wr.drew:=hb.drew
      clear es cs ht hy hly hlN hsn hb fdv fdl hfd hsr
      go_upto_region 20 with fail
      clear g0 g1
      clear p0 p1 p2 p3 p4 p5 p6 p7 p8 p9 p10 p11 p12 p13 p14 p15 p16
      refine region_nrm fun KK hKK=>?_
      refine wp_region_held_drew (S:=(fun W=>W.cell? ⟨w.heap.size,16,none⟩=some (.slice (some ⟨bb',oo,none⟩) ns sc)∧W.cell? ⟨bb',oo+j * 7,none⟩=some (.int .i64 sf)∧W.cell? ⟨bb',oo+j * 7+1,none⟩=some (.slice aA sn ac))) (by kernel_rfl) (by first | exact HS2.out _ kw) (fun hHeld=>?_)
      refine puA 0 80 (HS2.out _ kw) ?_
      refine puA 1 81 (HS2.out _ kw) ?_
      refine puA 2 82 (HS2.out _ kw) ?_
      refine puA 3 83 (HS2.out _ kw) ?_
      refine puA 4 84 (HS2.out _ kw) ?_
      refine puA 5 85 (HS2.out _ kw) ?_
      refine puA 6 86 (HS2.out _ kw) ?_
      refine puA 10 90 (HS2.out _ kw) ?_
      refine puA 11 91 (HS2.out _ kw) ?_
      refine puA 12 92 (HS2.out _ kw) ?_
      refine puA 13 93 (HS2.out _ kw) ?_
      refine puA 14 94 (HS2.out _ kw) ?_
      refine puA 15 95 (HS2.out _ kw) ?_
      refine puR 7 fun K hK=>?_
      go_simp
      refine hK.out _ _ (HS2.out _ kw) fun hHeld=>?_
      clear hK K
      refine puR 8 fun K hK=>?_
      go_simp
      have ho:=own_new2 kw 5 sf
      have C:=Hz_ (Rd.of_own ho)
      have hb':=then_alloc kw (.cells #[.int .u8 sf] 5)
      have E:=Hz_ (own_below E.out hb' (Nat.le_refl _))
      have kw:=btn kw hb'
      clear ho hb'
      refine hK.out _ _ (HS2.out _ kw) fun hHeld=>?_
      clear hK K
      refine puR 9 fun K hK=>?_
      rw[if_pos (by kernel_rfl)]
      refine wp_append_rd _ (.tmp 80) (.tmp 88) _ rfl W0.heap.size 5 i0 _ 1 1 Tryz.underlying29 hi0 hz0 hz1 hz2 rfl (by decide) _ N (bv lx) rfl E.out _ (some ⟨wr.drew.heap.size,0,none⟩) 1 1 ([Value.int .u8 sf]) rfl C.out (by simp[Value.oneCell']) m1 (by omega) kw.size ?_
      intro A88 c88 V88 ho hg hat
      have kw:=kw.trans (grown_below hg kw.size (fun g hg'=>(E.out.lt g hg').1))
      have E:=Hz_ ho
      clear ho hg hat C
      refine hK.out _ _ (HS2.out _ kw) fun hHeld=>?_
      clear hK K
      refine puR 16 fun K hK=>?_
      go_simp
      refine(GY.out _ kw).mono ?_
      rintro e W2 ⟨_,rfl,D2,d2,rfl,ho1,hb'⟩
      have C:=Hz_ (Rd.of_own ho1)
      have E:=Hz_ (own_below E.out hb' (Nat.le_refl _))
      have kw:=btn kw hb'
      clear ho1 hb'
      refine hK.out _ _ (HS2.out _ kw) fun hHeld=>?_
      clear hK K
      refine puR 17 fun K hK=>?_
      rw[if_pos (by kernel_rfl)]
      refine wp_append_rd _ (.tmp 89) (.tmp 96) _ rfl W0.heap.size 5 i0 _ 1 1 Tryz.underlying29 hi0 hz0 hz1 hz2 rfl (by decide) _ (N+1) (bv lx++[Value.int .u8 sf]) rfl E.out _ D2 ly d2 (bv y) rfl C.out (bv_oneCell _) m2 (by omega) kw.size ?_
      intro A96 c96 V96 ho hg hat
      have kw:=kw.trans (grown_below hg kw.size (fun g hg'=>(E.out.lt g hg').1))
      have E:=Hz_ ho
      clear ho hg hat C
      refine hK.out _ _ (HS2.out _ kw) fun hHeld=>?_
      clear hK K
      refine puA 18 4 (HS2.out _ kw) ?_
      refine wpAnyH_done (by kernel_rfl) ?_ _
      refine Nrm.out (hKK _ _ ?_)
      clear hHeld
      go_wp2_with fail
      go_roundw
      case rel=>
       refine⟨j+1,N+1+ly,c96,A96,by go_num,rfl,by omega,by omega,?_,?_,kw⟩
       ·show World.ownsRow _ _ _ _ _ _ _
        rw[HT.out];simp only[bv_app];rw[FDV.out];exact E.out
       ·show _=_
        obtain⟨a1,a2⟩:=HLN.out
        rw[HT.out,List.length_append,List.length_append,a1,FDL.out,←a2]
      case measure=>simp[intOf];omega
     ·obtain rfl:ns=j:=by omega
      have q9:=hq.out
      have q3:=ho.out
      rw[AS.out] at q9 q3
      have kw:=hb
      clear hq ho hbs hb
      go_wp2
      go_ret2
      exact⟨_,rfl,A',c',by rw[q9];rfl,by rw[q9];exact own_less q3 (by have:=HB0.out.size;omega),btn HB0.out kw⟩
end Go.Proofs.YtmbeahbgafkjfaaGreatDoor
