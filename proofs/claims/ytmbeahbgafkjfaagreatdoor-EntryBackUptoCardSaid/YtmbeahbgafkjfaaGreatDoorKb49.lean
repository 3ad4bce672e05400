/- Lemmas for the claim, layer 49. -/
import Derived.Test.YtmbeahbgafkjfaaGreatDoorKb48
set_option maxRecDepth 100000
set_option linter.unusedSimpArgs false
set_option maxHeartbeats 16000000
namespace Go.Proofs.YtmbeahbgafkjfaaGreatDoor
open Go.RowKit
theorem decode_al (A:Option Addr) (n c:Nat) (l:List UInt8) (w:World) (hT:Tab w) (hl:l.length=n) (hR:Rd w w.heap.size 1 A n c (bv l)) (hn:n≤4294967296) (hal:l=[4,2,1,1,3]):
  Calls Tryz.prog 15 #[.slice A n c] w (DecE l w):=by
 have AL:=Hz_ hal
 subst hl
 have hmf:∀(fn:Fn) (first cap:Array Value) (w:World),(Instr.makeFunc fn first cap).run Tryz.prog w=.ok (.func fn first cap) w:=fun _ _ _ _=>rfl
 obtain⟨is0,hsi0,hsz0,hsz1,hsz2⟩:=info_parts sub_info
 have h1max:1≤maxLen:=by unfold maxLen;omega
 have h0:=dec_start w A c l hR hn
 obtain⟨X,hX⟩:∃X,X=w.heap.size:=⟨_,rfl⟩
 rw[←hX] at h0
 have hl32:l.length≤4294967296:=hn
 obtain⟨n,hn'⟩:∃n,n=l.length:=⟨_,rfl⟩
 rw[←hn'] at h0 ⊢
 unfold entZ at h0
 generalize hW0:((w.alloc (.cells _ 38)).alloc (.cells #[.int .i64 0] 40)).alloc (.cells #[.slice A n c] 86)=W0 at h0
 have HW0:=Hz_ hW0
 have HX:=Hz_ hX
 have KS:=Hz_ h0
 have HT:=Hz_ hT
 clear hal hT hR hn hW0 h0 hn' hX
 go_enter_defers Tryz.func15,Tryz.ntmps15
 go_upto_region 3 with fail
 rw[HW0.out,←HX.out]
 go_wp2_with fail
 refine(entNumber_any (X+2) l W0 KS.out.tr).mono ?_
 rintro e w1 (⟨hp,rfl,hb⟩ | ⟨k,r,hp,rfl,ht,hb⟩)
 ·exact absurd hp (by rw[AL.out];decide +kernel)
 have KS:=Hz_ (KS.out.call hb ht)
 have hkr:k=4∧r=[2,1,1,3]:=by
  rw[AL.out,show Wq.pI [4,2,1,1,3]=some (4,[2,1,1,3]) by decide +kernel] at hp
  injection hp with hp;injection hp with h1 h2;exact⟨h1.symm,h2.symm⟩
 obtain⟨rfl,hr⟩:=hkr
 have HR:=Hz_ hr
 clear hb ht hp hr
 have b0:w1.cell? ⟨X,0,none⟩=some (.int .i64 0):=KS.out.blk.cell 0
 have f0:=KS.out.blk.frozen 0
 go_upto_region 4 with fail
 have ks:=KS.out.put (KS.out.kind_ 4)
 clear b0 f0 KS
 generalize w1.setCell ⟨X,0,none⟩ (.int .i64 4)=w2 at ks ⊢
 have KS:=Hz_ (show ES w w2 X r u0E ⟨4,Wq.ntz,Wq.bdz,0,[],Wq.vw0,[]⟩ [] [] [] from ks)
 clear ks
 have b0:w2.cell? ⟨X,0,none⟩=some (.int .i64 4):=KS.out.blk.cell 0
 go_wp2_with fail
 refine(entNumber_any (X+2) r w2 KS.out.tr).mono ?_
 rintro e w3 (⟨hp,rfl,hb⟩ | ⟨f,q,hp,rfl,ht,hb⟩)
 ·exact absurd hp (by rw[HR.out];decide +kernel)
 have KS:=Hz_ (KS.out.call hb ht)
 have hfq:f=2∧q=[1,1,3]:=by
  rw[HR.out,show Wq.pI [2,1,1,3]=some (2,[1,1,3]) by decide +kernel] at hp
  injection hp with hp;injection hp with h1 h2;exact⟨h1.symm,h2.symm⟩
 obtain⟨rfl,hq⟩:=hfq
 have HQ:=Hz_ hq
 clear hb ht hp hq HR
 have b9:w3.cell? ⟨X,9,none⟩=some (.int .i64 0):=KS.out.blk.cell 9
 have f9:=KS.out.blk.frozen 9
 go_upto_region 15 with fail
 have ks:=KS.out.put (KS.out.frm_ 2)
 clear b9 f9 KS
 generalize w3.setCell ⟨X,9,none⟩ (.int .i64 2)=w4 at ks ⊢
 have KS:=Hz_ ks
 clear ks
 go_wp2_with fail
 refine(takeSet_any (X+2) q w4 KS.out.tr).mono ?_
 rintro e w5 (⟨hp,rfl,hb⟩ | ⟨it,q2,hp,⟨iA,ic,rfl,hn⟩,ht,hb⟩)
 ·exact absurd hp (by rw[HQ.out];decide +kernel)
 have hlt:=KS.out.tr.lt
 have KS:=Hz_ (KS.out.call hb ht)
 have HV:=Hz_ (own_less hn (show X+3≤w4.heap.size by omega))
 have hiq:it=[(1,3)]∧q2=[]:=by
  rw[HQ.out,show Wq.pS [1,1,3]=some ([(1,3)],[]) by decide +kernel] at hp
  injection hp with hp;injection hp with h1 h2;exact⟨h1.symm,h2.symm⟩
 obtain⟨rfl,rfl⟩:=hiq
 clear hb ht hp hn hlt HQ
 have b10:w5.cell? ⟨X,10,none⟩=some (.slice none 0 0):=KS.out.blk.cell 10
 have f10:=KS.out.blk.frozen 10
 go_upto_region 23 with fail
 have ks:=KS.out.put (KS.out.int_ HV.out)
 clear b10 f10 KS HV
 generalize w5.setCell ⟨X,10,none⟩ (.slice iA [(1,3)].length ic)=wc at ks ⊢
 obtain⟨u,x,hux⟩:∃(u:EV) (x:Ent),ES w wc X [] u x [] [] []∧x=xal:=⟨_,_,ks,rfl⟩
 obtain⟨ks,hxal⟩:=hux
 have KS:=Hz_ ks
 have HXA:=Hz_ hxal
 clear ks hxal
 have hbd:EntBd x:=by rw[HXA.out];exact⟨(show (0:Int) < 9223372036854775808 by decide),(show 0+0+0+0≤9223372036854775807 by decide),(show 0+0+0+0≤9223372036854775807 by decide),fun y hy=>by cases hy⟩
 obtain⟨⟨A',c',hrb,hrr⟩,-,-⟩:=KS.out.tr
 have c0:wc.cell? ⟨X+1+1,0,none⟩=some (.slice A' ([]:List UInt8).length c'):=hrb.cell 0
 clear hrb hrr
 have hi:(Tryz.prog.info? 38).map (·.size)=some entZ.size:=by kernel_rfl
 have HI:=Hz_ hi
 have hie:(Tryz.prog.info? 38).map (·.size)=some (eval x u).size:=by kernel_rfl
 have HIE:=Hz_ hie
 clear hi hie
 have HRD:=KS.out.rd hbd
 have hnt:=HRD.nt
 have G1:=entFormed_any u x [] [] [] wc (KS.out.tab HT.out) HRD hbd.c (by rw[←hnt.l1,←hnt.l2,←hnt.l3,←hnt.l4];exact hbd.n) hbd.v
 have HBD:=Hz_ hbd
 clear HRD hnt hbd
 have hc:=KS.out.blk.c17
 have HC:=Hz_ fun (W:World) (hb:Below wc.heap.size wc W)=>(KS.out.blk.go hb).c17
 obtain⟨p0,p1,p2,p3,p4,p5,p6,p7,p8,p9,p10,p11,p12,p13,p14,p15,p16⟩:=hc
 have HEV:=Hz_ (show eval x u=#[.int .i64 x.kind,.slice u.nv.A1 u.nv.n1 u.nv.c1,.slice u.nv.A2 u.nv.n2 u.nv.c2,.slice u.nv.A3 u.nv.n3 u.nv.c3,.slice u.nv.A4 u.nv.n4 u.nv.c4,.int .i64 x.body.o,.int .i64 x.body.s.1,.int .i64 x.body.s.2,.slice u.bA x.body.v.length u.bc,.int .i64 x.from_,.slice u.iA x.int.length u.ic,.slice u.vv.kA x.view.known.length u.vv.kc,.slice u.vv.zA x.view.zones.length u.vv.zc,.slice u.vv.hA x.view.held.length u.vv.hc,.slice u.vv.bA x.view.bods.length u.vv.bc,.int .i64 x.view.room,.slice u.sA x.subs.length u.sc] from rfl)
 rw[HEV.out] at G1
 rw[show entF x=true by rw[HXA.out];decide +kernel] at G1
 have G1:=Hz_ G1
 have HG:=Hz_ (fun (W:World) (hb:Below wc.heap.size wc W)=>(KS.out.grow hb))
 have HIL:=Hz_ (show (Tryz.prog.info? 38).map (·.size)=some (Array.size (#[.int .i64 x.kind,.slice u.nv.A1 u.nv.n1 u.nv.c1,.slice u.nv.A2 u.nv.n2 u.nv.c2,.slice u.nv.A3 u.nv.n3 u.nv.c3,.slice u.nv.A4 u.nv.n4 u.nv.c4,.int .i64 x.body.o,.int .i64 x.body.s.1,.int .i64 x.body.s.2,.slice u.bA x.body.v.length u.bc,.int .i64 x.from_,.slice u.iA x.int.length u.ic,.slice u.vv.kA x.view.known.length u.vv.kc,.slice u.vv.zA x.view.zones.length u.vv.zc,.slice u.vv.hA x.view.held.length u.vv.hc,.slice u.vv.bA x.view.bods.length u.vv.bc,.int .i64 x.view.room,.slice u.sA x.subs.length u.sc]:Array Value)) by kernel_rfl)
 go_wp2_with (first | (go_at_call 12;go_must (refine G1.out.mono ?_);rintro e w9 ⟨rfl,hb9⟩;have K9:=Hz_ (HG.out w9 hb9);clear p0 p1 p2 p3 p4 p5 p6 p7 p8 p9 p10 p11 p12 p13 p14 p15 p16;obtain⟨p0,p1,p2,p3,p4,p5,p6,p7,p8,p9,p10,p11,p12,p13,p14,p15,p16⟩:=HC.out w9 hb9) | (refine wpList_store_blk rfl 38 _ _ rfl X 38 _ #[.int .i64 x.kind,.slice u.nv.A1 u.nv.n1 u.nv.c1,.slice u.nv.A2 u.nv.n2 u.nv.c2,.slice u.nv.A3 u.nv.n3 u.nv.c3,.slice u.nv.A4 u.nv.n4 u.nv.c4,.int .i64 x.body.o,.int .i64 x.body.s.1,.int .i64 x.body.s.2,.slice u.bA x.body.v.length u.bc,.int .i64 x.from_,.slice u.iA x.int.length u.ic,.slice u.vv.kA x.view.known.length u.vv.kc,.slice u.vv.zA x.view.zones.length u.vv.zc,.slice u.vv.hA x.view.held.length u.vv.hc,.slice u.vv.bA x.view.bods.length u.vv.bc,.int .i64 x.view.room,.slice u.sA x.subs.length u.sc] rfl rfl K9.out.blk HIL.out rfl (by simp[Value.oneCell']) ?_;intro Wd hblk hg;have KD:=Hz_ (K9.out.same_ hg hblk);have c4:Wd.cell? ⟨X+1,0,none⟩=some (.int .i64 0):=KD.out.err.cell 0;have f4:=KD.out.err.frozen 0))
 have KE:=KD.out.err_
 exact dec_out KE.blk rfl KE.err (fun w' hb'=>.inr ⟨x,u,(by rw[HXA.out,AL.out];exact Wq.decE_al),rfl,⟨[],[],[],(KE.rd HBD.out).go hb'⟩,by
  rw[←KE.hX]
  exact KE.out.trans (hb'.mono (by have:=KE.blk.lt;omega))⟩) rfl rfl
theorem u8_five (W:World):Rd (W.alloc (.cells #[.int .u8 4,.int .u8 2,.int .u8 1,.int .u8 1,.int .u8 3] 5)) (W.alloc (.cells #[.int .u8 4,.int .u8 2,.int .u8 1,.int .u8 1,.int .u8 3] 5)).heap.size 1 (some ⟨W.heap.size,0,none⟩) 5 5 (bv [4,2,1,1,3]):=by
 rw[World.size_alloc];exact Rd.new W 5 1 5 #[.int .u8 4,.int .u8 2,.int .u8 1,.int .u8 1,.int .u8 3] rfl (by unfold maxLen;omega)
theorem aliveEn_any (w:World) (hT:Tab w):Calls Tryz.prog 8 #[] w fun e w'=>e=.returned (.bool true)∧Below w.heap.size w w':=by
 have G1:=fun (W:World) (hb:Below w.heap.size w W) (A:Option Addr) (c:Nat) (hR:Rd W W.heap.size 2 A 1 c (sv [(1,3)]))=>entEncode_any ⟨⟨none,0,0,none,0,0,none,0,0,none,0,0⟩,none,0,A,c,⟨none,0,none,0,none,0,none,0⟩,none,0⟩ xal [] [] [] W (hT.below hb)
  ⟨⟨rfl,Rd.none_,rfl,Rd.none_,rfl,Rd.none_,rfl,Rd.none_⟩,Rd.none_,hR,⟨Rd.none_,RdZ.none_ _ _,rfl,Rd.none_,RdBs.none_ _ _,rfl⟩,RdSb.none_ _ _,rfl⟩ (Wq.EntC.mk0 Wq.ntC_ntz (by decide)) (show 0+0+0+0≤9223372036854775807 by decide) (show 0+0+0+0≤9223372036854775807 by decide) (by decide +kernel)
 rw[show lEnt xal=[4,2,1,1,3] by decide +kernel] at G1
 unfold BytesAre at G1
 have G1:=Hz_ (show ∀(W:World),Below w.heap.size w W→∀(A:Option Addr) (c:Nat),Rd W W.heap.size 2 A 1 c (sv [(1,3)])→Calls Tryz.prog 9 #[.agg #[.int .i64 4,.slice none 0 0,.slice none 0 0,.slice none 0 0,.slice none 0 0,.int .i64 0,.int .i64 0,.int .i64 0,.slice none 0 0,.int .i64 2,.slice A 1 c,.slice none 0 0,.slice none 0 0,.slice none 0 0,.slice none 0 0,.int .i64 0,.slice none 0 0]] W
  fun e w'=>∃A' c',e=.returned (.tuple #[.slice A' 5 c',.int .i64 0])∧Rd w' w'.heap.size 1 A' 5 c' (bv [4,2,1,1,3])∧Below W.heap.size W w' from fun W hb A c hR=>(G1 W hb A c hR).mono fun e w' h=>by
   obtain⟨_,h1,A',c',rfl,h2,h3⟩:=h
   exact⟨A',c',h1,Rd.of_own h2,h3⟩)
 have G2:=Hz_ fun (W:World) (hb:Below w.heap.size w W) (A:Option Addr) (c:Nat) (hR:Rd W W.heap.size 1 A 5 c (bv [4,2,1,1,3]))=>(decode_al A 5 c [4,2,1,1,3] W (hT.below hb) rfl hR (by decide) rfl).mono fun e W' h=>DecE.some_ (show Wq.decE [4,2,1,1,3]=some xal from Wq.decE_al) h
 have G3:=Hz_ fun (W:World) (hb:Below w.heap.size w W) (u:EV) (hE:EntR W W.heap.size u xal)=>play_al u W (hT.below hb) hE
 have G7:=Hz_ fun (W:World) (A A2:Option Addr) (c c2:Nat) (h1:Rd W W.heap.size 1 A 5 c (bv [4,2,1,1,3])) (h2:Rd W W.heap.size 1 A2 5 c2 (bv [4,2,1,1,3]))=>(sameB_any A A2 5 c 5 c2 W.heap.size W.heap.size [4,2,1,1,3] [4,2,1,1,3] W h1 h2).mono fun e W' (h:e=.returned (.bool (([4,2,1,1,3]:List UInt8) == [4,2,1,1,3]))∧W=W')=>(show e=.returned (.bool true)∧W'=W from ⟨h.1,h.2.symm⟩)
 have H5:=Hz_ u8_five
 have h1max:1≤maxLen:=by unfold maxLen;omega
 have kA:Below w.heap.size w (w.alloc (.cells #[.int .i64 1,.int .i64 3] 63)):=(Below.refl _ _).alloc (Nat.le_refl _) _
 have hA:=rd_new (size:=2) (n:=1) (cs:=#[.int .i64 1,.int .i64 3]) (t:=63) ((Below.refl w.heap.size w).alloc (Nat.le_refl _) _) rfl h1max
 have HA:=Hz_ hA
 clear hT hA
 go_enter Tryz.func8,Tryz.ntmps8
 go_wp2_with fail
 refine(G1.out _ kA _ _ HA.out).mono ?_
 rintro e w1 ⟨A1,c1,rfl,hR1,hb1⟩
 have k1:=btn kA hb1
 have k2:Below w1.heap.size w1 (w1.alloc (.cells #[.int .u8 4,.int .u8 2,.int .u8 1,.int .u8 1,.int .u8 3] 5)):=(Below.refl _ _).alloc (Nat.le_refl _) _
 have hR1:=hR1.go k2
 have k1:=btn k1 k2
 clear hb1 k2 HA
 go_wp2_with fail
 refine(G2.out _ k1 _ _ (H5.out _)).mono ?_
 rintro e w3 ⟨u,rfl,hE,hb3⟩
 have hE:EntR w3 w3.heap.size u xal:=hE
 have hk4:Below w3.heap.size w3 (w3.alloc (.cells (eval xal u) 38)):=(Below.refl _ _).alloc (Nat.le_refl _) _
 have k3:=btn hb3 hk4
 have hR1:=hR1.go k3
 have k1:=btn k1 k3
 have hE:=hE.go hk4
 have G3:=Hz_ (G3.out _ k1 u hE)
 have hX:=Blk.new w3 38 (eval xal u)
 clear k3 hk4 hb3
 obtain⟨W4,hW4⟩:∃W,W=w3.alloc (.cells (eval xal u) 38):=⟨_,rfl⟩
 rw[←hW4] at hR1 k1 G3 hX
 have HW4:=Hz_ hW4.symm
 have HX:=Hz_ hX
 clear hW4 hX hE
 have hev:eval xal u=#[.int .i64 4,.slice u.nv.A1 u.nv.n1 u.nv.c1,.slice u.nv.A2 u.nv.n2 u.nv.c2,.slice u.nv.A3 u.nv.n3 u.nv.c3,.slice u.nv.A4 u.nv.n4 u.nv.c4,.int .i64 0,.int .i64 0,.int .i64 0,.slice u.bA 0 u.bc,.int .i64 2,.slice u.iA 1 u.ic,.slice u.vv.kA 0 u.vv.kc,.slice u.vv.zA 0 u.vv.zc,.slice u.vv.hA 0 u.vv.hc,.slice u.vv.bA 0 u.vv.bc,.int .i64 0,.slice u.sA 0 u.sc]:=rfl
 rw[hev] at HW4 HX G3 ⊢
 unfold vwZ PlyOut at G3
 obtain⟨p0,p1,p2,p3,p4,p5,p6,p7,p8,p9,p10,p11,p12,p13,p14,p15,p16⟩:=HX.out.c17
 clear hev
 go_upto_region 3 with fail
 rw[HW4.out]
 go_wp2_with fail
 refine G3.out.mono ?_
 rintro e w5 ⟨B1,m1,d1,B2,m2,d2,B3,m3,d3,B4,m4,d4,A5,c5,rfl,ys,hR5,hb5⟩
 obtain⟨b5,o5,rfl,hl5,hc5⟩:=hR5.plain (by decide) (by decide)
 have hx5:=hc5 0 _ rfl
 rw[Nat.add_zero] at hx5
 have k5:Below w5.heap.size w5 (w5.alloc (.cells #[.slice B1 m1 d1,.slice B2 m2 d2,.slice B3 m3 d3,.slice B4 m4 d4,.int .i64 0] 35)):=(Below.refl _ _).alloc (Nat.le_refl _) _
 have hx6:(w5.alloc (.cells #[.slice B1 m1 d1,.slice B2 m2 d2,.slice B3 m3 d3,.slice B4 m4 d4,.int .i64 0] 35)).cell? ⟨b5,o5,none⟩=some (.int .i64 2):=(k5.cell (p:=⟨b5,o5,none⟩) hl5).trans hx5
 have kz:=btn hb5 k5
 have hR1:=hR1.go kz
 have k1:=btn k1 kz
 obtain⟨W6,hW6⟩:∃W,W=w5.alloc (.cells #[.slice B1 m1 d1,.slice B2 m2 d2,.slice B3 m3 d3,.slice B4 m4 d4,.int .i64 0] 35):=⟨_,rfl⟩
 rw[←hW6] at hx6 hR1 k1
 have HW6:=Hz_ hW6.symm
 have hl6:b5 < W6.heap.size:=by rw[hW6];simp;omega
 clear hW6 kz k5 hx5 hc5 hR5 hb5 hl5 p0 p1 p2 p3 p4 p5 p6 p7 p8 p9 p10 p11 p12 p13 p14 p15 p16
 go_upto_region 4 with fail
 rw[HW6.out]
 have k7:Below W6.heap.size W6 (W6.alloc (.cells #[.int .u8 4,.int .u8 2,.int .u8 1,.int .u8 1,.int .u8 3] 5)):=(Below.refl _ _).alloc (Nat.le_refl _) _
 have hR7:=hR1.go k7
 have k8:=btn k1 k7
 have hx7:(W6.alloc (.cells #[.int .u8 4,.int .u8 2,.int .u8 1,.int .u8 1,.int .u8 3] 5)).cell? ⟨b5,o5,none⟩=some (.int .i64 2):=(k7.cell (p:=⟨b5,o5,none⟩) hl6).trans hx6
 go_wp2_with fail
 refine(G7.out _ _ _ _ _ hR7 (H5.out _)).mono ?_
 rintro e w9 ⟨rfl,rfl⟩
 go_wp2
 go_ret
 exact⟨rfl,k8⟩
end Go.Proofs.YtmbeahbgafkjfaaGreatDoor
