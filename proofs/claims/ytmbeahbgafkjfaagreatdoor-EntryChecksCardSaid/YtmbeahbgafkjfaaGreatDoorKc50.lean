/- Lemmas for the claim, layer 50. -/
import Derived.Test.YtmbeahbgafkjfaaGreatDoorKc47
import Derived.Test.YtmbeahbgafkjfaaGreatDoorKc48
import Derived.Test.YtmbeahbgafkjfaaGreatDoorKc49
set_option maxRecDepth 100000
set_option linter.unusedSimpArgs false
set_option maxHeartbeats 16000000
namespace Go.Proofs.YtmbeahbgafkjfaaGreatDoor
open Go.RowKit
theorem al_dec:Wq.decE [4,2,1,1,3]=some xal:=by
 have h:Wq.pEnt [4,2,1,1,3]=some (xal,[]):=by kernel_rfl
 unfold Wq.decE;rw[h];exact if_pos (by decide +kernel)
theorem u8_five_ (W:World):Rd (W.alloc (.cells #[.int .u8 4,.int .u8 2,.int .u8 1,.int .u8 1,.int .u8 3] 5)) (W.alloc (.cells #[.int .u8 4,.int .u8 2,.int .u8 1,.int .u8 1,.int .u8 3] 5)).heap.size 1 (some ⟨W.heap.size,0,none⟩) 5 5 (bv [4,2,1,1,3]):=by
 rw[World.size_alloc];exact Rd.new W 5 1 5 #[.int .u8 4,.int .u8 2,.int .u8 1,.int .u8 1,.int .u8 3] rfl (by unfold maxLen;omega)
theorem alive_ofE (w:World) (hT:Tab w) (hd:∀(W:World),Tab W->∀(A:Option Addr) (c:Nat),Rd W W.heap.size 1 A 5 c (bv [4,2,1,1,3])->Calls Tryz.prog 15 #[.slice A 5 c] W (DecE [4,2,1,1,3] W))
  (hp:∀(W:World) (u:EV),Tab W->EntR W W.heap.size u xal->Calls Tryz.prog 20 #[.agg vwZ,.slice none 0 0,.agg (eval xal u)] W (PlyOut W)):Calls Tryz.prog 8 #[] w fun e w'=>e=.returned (.bool true)/\Below w.heap.size w w':=by
 have G1:=fun (W:World) (hb:Below w.heap.size w W) (A:Option Addr) (c:Nat) (hR:Rd W W.heap.size 2 A 1 c (sv [(1,3)]))=>entEncode_45 ⟨⟨none,0,0,none,0,0,none,0,0,none,0,0⟩,none,0,A,c,⟨none,0,none,0,none,0,none,0⟩,none,0⟩ xal [] [] [] W (hT.below hb)
  ⟨⟨rfl,Rd.none_,rfl,Rd.none_,rfl,Rd.none_,rfl,Rd.none_⟩,Rd.none_,hR,⟨Rd.none_,RdZ.none_ _ _,rfl,Rd.none_,RdBs.none_ _ _,rfl⟩,RdSb.none_ _ _,rfl⟩ ⟨⟨fun _ h=>(by cases h),fun _ h=>(by cases h),fun _ h=>(by cases h)⟩,(by decide),fun _ h=>(by cases h),fun _ h=>(by cases h),fun _ h=>(by cases h),fun _ h=>(by cases h)⟩ (show 0+0+0+0<=9223372036854775807 by decide) (show 0+0+0+0<=9223372036854775807 by decide) (by decide +kernel) (.inl rfl)
 rw[show lEnt xal=[4,2,1,1,3] by decide +kernel] at G1;unfold BytesAre at G1;have G1:=Hz_ (show ∀(W:World),Below w.heap.size w W->∀(A:Option Addr) (c:Nat),Rd W W.heap.size 2 A 1 c (sv [(1,3)])->Calls Tryz.prog 9 #[.agg #[.int .i64 4,.slice none 0 0,.slice none 0 0,.slice none 0 0,.slice none 0 0,.int .i64 0,.int .i64 0,.int .i64 0,.slice none 0 0,.int .i64 2,.slice A 1 c,.slice none 0 0,.slice none 0 0,.slice none 0 0,.slice none 0 0,.int .i64 0,.slice none 0 0]] W
  fun e w'=>∃A' c',e=.returned (.tuple #[.slice A' 5 c',.int .i64 0])/\Rd w' w'.heap.size 1 A' 5 c' (bv [4,2,1,1,3])/\Below W.heap.size W w' from fun W hb A c hR=>(G1 W hb A c hR).mono fun e w' h=>by
   obtain⟨_,h1,A',c',rfl,h2,h3⟩:=h;exact⟨A',c',h1,Rd.of_own h2,h3⟩)
 have G2:=Hz_ fun (W:World) (hb:Below w.heap.size w W) (A:Option Addr) (c:Nat) (hR:Rd W W.heap.size 1 A 5 c (bv [4,2,1,1,3]))=>(hd W (hT.below hb) A c hR).mono fun e W' h=>DecE.some_ al_dec h;have G3:=Hz_ fun (W:World) (hb:Below w.heap.size w W) (u:EV) (hE:EntR W W.heap.size u xal)=>hp W u (hT.below hb) hE;have G7:=Hz_ fun (W:World) (A A2:Option Addr) (c c2:Nat) (h1:Rd W W.heap.size 1 A 5 c (bv [4,2,1,1,3])) (h2:Rd W W.heap.size 1 A2 5 c2 (bv [4,2,1,1,3]))=>(sameB_any A A2 5 c 5 c2 W.heap.size W.heap.size [4,2,1,1,3] [4,2,1,1,3] W h1 h2).mono fun e W' (h:e=.returned (.bool (([4,2,1,1,3]:List UInt8) == [4,2,1,1,3]))/\W=W')=>(show e=.returned (.bool true)/\W'=W from ⟨h.1,h.2.symm⟩);have H5:=Hz_ u8_five_;have h1max:1<=maxLen:=by unfold maxLen;omega
 have kA:Below w.heap.size w (w.alloc (.cells #[.int .i64 1,.int .i64 3] 63)):=Zr.alloc Zl _;have hA:=rd_new (size:=2) (n:=1) (cs:=#[.int .i64 1,.int .i64 3]) (t:=63) ((Below.refl w.heap.size w).alloc Zl _) rfl h1max;have HA:=Hz_ hA;clear hT hA hd hp;go_enter Tryz.func8,Tryz.ntmps8;go_wp2_with fail;refine(G1.out _ kA _ _ HA.out).mono ?_;rintro e w1 ⟨A1,c1,rfl,hR1,hb1⟩;have k1:=btn kA hb1;have k2:Below w1.heap.size w1 (w1.alloc (.cells #[.int .u8 4,.int .u8 2,.int .u8 1,.int .u8 1,.int .u8 3] 5)):=Zr.alloc Zl _;have hR1:=hR1.go k2;have k1:=btn k1 k2;clear hb1 k2 HA;go_wp2_with fail;refine(G2.out _ k1 _ _ (H5.out _)).mono ?_;rintro e w3 ⟨u,rfl,hE,hb3⟩;have hE:EntR w3 w3.heap.size u xal:=hE;have hk4:Below w3.heap.size w3 (w3.alloc (.cells (eval xal u) 38)):=Zr.alloc Zl _;have k3:=btn hb3 hk4;have hR1:=hR1.go k3;have k1:=btn k1 k3;have hE:=hE.go hk4;have G3:=Hz_ (G3.out _ k1 u hE);have hX:=Blk.new w3 38 (eval xal u);clear k3 hk4 hb3;obtain⟨W4,hW4⟩:∃W,W=w3.alloc (.cells (eval xal u) 38):=⟨_,rfl⟩;rw[<-hW4] at hR1 k1 G3 hX;have HW4:=Hz_ hW4.symm;have HX:=Hz_ hX;clear hW4 hX hE;have hev:eval xal u=#[.int .i64 4,.slice u.nv.A1 u.nv.n1 u.nv.c1,.slice u.nv.A2 u.nv.n2 u.nv.c2,.slice u.nv.A3 u.nv.n3 u.nv.c3,.slice u.nv.A4 u.nv.n4 u.nv.c4,.int .i64 0,.int .i64 0,.int .i64 0,.slice u.bA 0 u.bc,.int .i64 2,.slice u.iA 1 u.ic,.slice u.vv.kA 0 u.vv.kc,.slice u.vv.zA 0 u.vv.zc,.slice u.vv.hA 0 u.vv.hc,.slice u.vv.bA 0 u.vv.bc,.int .i64 0,.slice u.sA 0 u.sc]:=rfl;rw[hev] at HW4 HX G3 ⊢;unfold vwZ PlyOut at G3;obtain⟨p0,p1,p2,p3,p4,p5,p6,p7,p8,p9,p10,p11,p12,p13,p14,p15,p16⟩:=HX.out.c17;clear hev;go_upto_region 3 with fail;rw[HW4.out];go_wp2_with fail;refine G3.out.mono ?_;rintro e w5 ⟨B1,m1,d1,B2,m2,d2,B3,m3,d3,B4,m4,d4,A5,c5,rfl,ys,hR5,hb5⟩;obtain⟨b5,o5,rfl,hl5,hc5⟩:=hR5.plain (by decide) (by decide);have hx5:=hc5 0 _ rfl;rw[Nat.add_zero] at hx5;have k5:Below w5.heap.size w5 (w5.alloc (.cells #[.slice B1 m1 d1,.slice B2 m2 d2,.slice B3 m3 d3,.slice B4 m4 d4,.int .i64 0] 35)):=Zr.alloc Zl _;have hx6:(w5.alloc (.cells #[.slice B1 m1 d1,.slice B2 m2 d2,.slice B3 m3 d3,.slice B4 m4 d4,.int .i64 0] 35)).cell? ⟨b5,o5,none⟩=some (.int .i64 2):=(k5.cell (p:=⟨b5,o5,none⟩) hl5).trans hx5;have kz:=btn hb5 k5;have hR1:=hR1.go kz;have k1:=btn k1 kz;obtain⟨W6,hW6⟩:∃W,W=w5.alloc (.cells #[.slice B1 m1 d1,.slice B2 m2 d2,.slice B3 m3 d3,.slice B4 m4 d4,.int .i64 0] 35):=⟨_,rfl⟩;rw[<-hW6] at hx6 hR1 k1;have HW6:=Hz_ hW6.symm;have hl6:b5 < W6.heap.size:=by rw[hW6];simp;omega
 clear hW6 kz k5 hx5 hc5 hR5 hb5 hl5 p0 p1 p2 p3 p4 p5 p6 p7 p8 p9 p10 p11 p12 p13 p14 p15 p16;go_upto_region 4 with fail;rw[HW6.out];have k7:Below W6.heap.size W6 (W6.alloc (.cells #[.int .u8 4,.int .u8 2,.int .u8 1,.int .u8 1,.int .u8 3] 5)):=Zr.alloc Zl _;have hR7:=hR1.go k7;have k8:=btn k1 k7;have hx7:(W6.alloc (.cells #[.int .u8 4,.int .u8 2,.int .u8 1,.int .u8 1,.int .u8 3] 5)).cell? ⟨b5,o5,none⟩=some (.int .i64 2):=(k7.cell (p:=⟨b5,o5,none⟩) hl6).trans hx6;go_wp2_with fail;refine(G7.out _ _ _ _ _ hR7 (H5.out _)).mono ?_;rintro e w9 ⟨rfl,rfl⟩;go_wp2;go_ret;exact⟨rfl,k8⟩
theorem play_out (W:World) (u:EV) (hT:Tab W) (hE:EntR W W.heap.size u xal):Calls Tryz.prog 20 #[.agg vwZ,.slice none 0 0,.agg (eval xal u)] W (PlyOut W):=by
 have hz:PlySz u xal:=by
  obtain⟨L,M,S,h⟩:=hE;exact EntSz.to (x:=xal) ⟨by decide,by decide,by decide⟩ h
 have h:=play_any uv0 Wq.vw0 [] [] none 0 0 [] u xal W hT (vw0_rd _ _) (RdSb.none_ _ _) hE hz;have e1:playE Wq.vw0 (sbs []) xal=0:=by decide +kernel
 have e2:playV Wq.vw0 (sbs []) xal=Wq.vw0:=by unfold playV;rw[if_pos e1];rfl
 have e3:playS Wq.vw0 (sbs []) xal=[newSb 2 [(1,3)]]:=by unfold playS;rw[if_pos e1];rfl
 rw[e1,e2,e3] at h;refine h.mono ?_;rintro e w' ⟨u',A,c,rfl,_,⟨S,hS,hs⟩,hb⟩;refine⟨_,_,_,_,_,_,_,_,_,_,_,_,A,c,rfl,?_⟩;obtain⟨p,r,rfl⟩:∃p r,S=p :: r:=by
  rcases S with _ | ⟨p,r⟩
  ·cases hs
  ·exact⟨p,r,rfl⟩
 have hp:p.2.from_=2:=by
  have:=congrArg (fun l:List Sb=>(l.map Sb.from_).head?) hs;simpa[sbs,newSb] using this
 have h7:=hS.rd;refine⟨_,(show Rd w' w'.heap.size 7 A 1 c (.int .i64 2 :: ((sbl p).drop 1++sbv r)) from ?_),hb⟩;rw[<-hp];exact h7
theorem al_pI:∀k r,Wq.pI [4,2,1,1,3]=some (k,r)->k=4\/k=5:=fun k r h=>by
 rw[show Wq.pI [4,2,1,1,3]=some (4,[2,1,1,3]) by decide +kernel] at h;injection h with h;injection h with h;exact .inl h.symm
theorem alive_play (w:World) (hT:Tab w):Calls Tryz.prog 8 #[] w fun e w'=>e=.returned (.bool true)/\Below w.heap.size w w':=
 alive_ofE w hT (fun W hT A c hR=>decode_45 A 5 c [4,2,1,1,3] W hT rfl hR (by decide) al_pI) (fun W u hT hE=>play_out W u hT hE)
end Go.Proofs.YtmbeahbgafkjfaaGreatDoor
