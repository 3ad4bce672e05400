/- Lemmas for the claim, layer 51. -/
import Derived.Test.YtmbeahbgafkjfaaGreatDoorKq44
import Derived.Test.YtmbeahbgafkjfaaGreatDoorKq50
set_option maxRecDepth 100000
set_option linter.unusedSimpArgs false
set_option maxHeartbeats 16000000
namespace Go.Proofs.YtmbeahbgafkjfaaGreatDoor
open Go.RowKit
theorem results_cell_tmps {P:Program} {fn:Func} {p q r:Tmp} {ty:TypeId} (h:fn.results=#[.cell p ty,.tmp q,.tmp r]) (tmps:Array Value) (w:World) (g:Nat) (t:TypeId) (cs:Array Value) (fr:Nat×Nat) (d:TypeDesc)
  (hp:tmps.getD p undef=.pointer (some ⟨g,0,none⟩)) (hg:w.heap[g]?=some (.cells cs t fr))
  (hu:P.underlying ty=some d) (hd:(match d with | .struct _ | .array _ _=>true | _=>false)=true) (hi:(P.info? ty).map (·.size)=some cs.size):
  (results fn tmps).run P w=.ok (.tuple #[.agg cs,tmps.getD q undef,tmps.getD r undef]) w:=by
 have hp':tmps[p]?.getD undef=.pointer (some ⟨g,0,none⟩):=by simpa using hp
 simp[results,h,hp',asAddr,run_loadVar_row w g t ty cs fr d hg hu hd hi]
theorem cloneSb_nil (w:World):Calls Tryz.prog 137 #[.slice none 0 0] w fun e w'=>e=.returned (.slice none 0 0)∧Below w.heap.size w w':=by
 have ht:=fun W=>Lib.run_eql_slice_nil (P:=Tryz.prog) W 36 65 none 0 0 0 0 Tryz.underlying36
 go_enter Tryz.func137,Tryz.ntmps137
 go_wp2
 go_ret
 exact⟨rfl,Below.refl _ _⟩
theorem entOwn_nil (w:World):Calls Tryz.prog 67 #[.slice none 0 0] w fun e w'=>e=.returned (.slice none 0 0)∧Below w.heap.size w w':=by
 have G:=Hz_ cloneSb_nil
 go_enter Tryz.func67,Tryz.ntmps67
 go_wp2_with (go_at_call 137;go_must (refine(G.out _).mono ?_);rintro e w1 ⟨rfl,hb1⟩)
 go_loopw [4,9] (fun _ v9 wr=>v9=.int .i64 0∧Below w.heap.size w wr) (fun _ _ _=>0)
 case atStart=>exact⟨rfl,hb1⟩
 case round=>
  obtain⟨rfl,hb⟩:=hrel
  go_wp2
  go_ret
  exact⟨rfl,hb⟩
theorem subSearch_nil (o:Int) (fv:Value) (w:World):Calls Tryz.prog 71 #[.slice none 0 0,.int .i64 o,fv] w fun e w'=>e=.returned (.tuple #[.int .i64 0,.bool false])∧Below w.heap.size w w':=by
 go_enter Tryz.func71,Tryz.ntmps71
 go_wp2
 go_loopw [9,10,11] (fun v9 v10 _ wr=>v9=.int .i64 0∧v10=.int .i64 0∧Below w.heap.size w wr) (fun _ _ _ _=>0)
 case atStart=>exact⟨rfl,rfl,Below.refl _ _⟩
 case round=>
  obtain⟨rfl,rfl,hb⟩:=hrel
  go_wp2
  go_ret2
  exact⟨rfl,hb⟩
theorem subInsert_nil (A:Option Addr) (c:Nat) (ys:List Value) (w:World) (hR:Rd w w.heap.size 7 A 1 c ys) (h1:∀u∈ys,u.oneCell'=true):Calls Tryz.prog 75 #[.slice none 0 0,.int .i64 0,.slice A 1 c] w fun e w'=>∃A' c',e=.returned (.slice A' 1 c')∧w'.ownsRow w.heap.size 65 7 (.slice A' 1 c') 1 ys∧Below w.heap.size w w':=by
 obtain⟨is0,hsi0,hsz0,hsz1,hsz2⟩:=info_parts sub_info
 have h1max:0+1≤maxLen:=by unfold maxLen;omega
 have HR:=Hz_ hR
 have H1:=Hz_ h1
 clear hR h1
 go_enter Tryz.func75,Tryz.ntmps75
 go_wp2_with (at_builtin;go_must (refine wpList_append_rd _ rfl (.tmp 23) (.tmp 24) _ rfl w.heap.size 65 is0 _ 7 56 Tryz.underlying36 hsi0 hsz0 hsz1 hsz2 rfl (by decide) (.slice none 0 0) 0 [] rfl (World.ownsRow_nil _ _ _ _) w.heap.size A 1 c ys rfl HR.out H1.out h1max (by decide) (Nat.le_refl _) ?_);intro A' c' w1 hown hg hat)
 go_ret
 exact⟨A',c',rfl,by simpa using hown,(Below.refl _ _).trans (grown_below hg (Nat.le_refl _) (by simp[Value.ownBlock]))⟩
def PlyOut (w:World) (e:Ending) (w':World):Prop:=∃B1 m1 d1 B2 m2 d2 B3 m3 d3 B4 m4 d4 A c,e=.returned (.tuple #[.agg #[.slice B1 m1 d1,.slice B2 m2 d2,.slice B3 m3 d3,.slice B4 m4 d4,.int .i64 0],.slice A 1 c,.int .i64 0])∧∃ys,Rd w' w'.heap.size 7 A 1 c (.int .i64 2 :: ys)∧Below w.heap.size w w'
theorem play_al (u:EV) (w:World) (hT:Tab w) (hE:EntR w w.heap.size u xal):Calls Tryz.prog 20 #[.agg vwZ,.slice none 0 0,.agg (eval xal u)] w (PlyOut w):=by
 obtain⟨L,M,S,hE⟩:=hE
 have e1:=hE.nt.l1
 have e2:=hE.nt.l2
 have e3:=hE.nt.l3
 have e4:=hE.nt.l4
 have HI_:=Hz_ fun (W:World) (hb:Below w.heap.size w W)=>cloneSp_any u.iA 1 u.ic (sv [(1,3)]) W (hE.it.go hb) (fun v hv=>by simp[sv] at hv;rcases hv with rfl | rfl<;>rfl) (by decide)
 have G3:=fun (W:World) (hb:Below w.heap.size w W)=>entFormed_any u xal L M S W (hT.below hb) (hE.go hb) (by decide) (by rw[←e1,←e2,←e3,←e4];decide) (by decide)
 rw[show entF xal=true by decide +kernel] at G3
 obtain⟨⟨A1,n1,c1,A2,n2,c2,A3,n3,c3,A4,n4,c4⟩,bA,bc,iA,ic,⟨kA,kc,zA,zc,hA,hc,vA,vc⟩,sA,sc⟩:=u
 dsimp only at e1 e2 e3 e4 HI_
 obtain rfl:0=n1:=e1
 obtain rfl:0=n2:=e2
 obtain rfl:0=n3:=e3
 obtain rfl:0=n4:=e4
 have hev:eval xal ⟨⟨A1,0,c1,A2,0,c2,A3,0,c3,A4,0,c4⟩,bA,bc,iA,ic,⟨kA,kc,zA,zc,hA,hc,vA,vc⟩,sA,sc⟩=#[.int .i64 4,.slice A1 0 c1,.slice A2 0 c2,.slice A3 0 c3,.slice A4 0 c4,.int .i64 0,.int .i64 0,.int .i64 0,.slice bA 0 bc,.int .i64 2,.slice iA 1 ic,.slice kA 0 kc,.slice zA 0 zc,.slice hA 0 hc,.slice vA 0 vc,.int .i64 0,.slice sA 0 sc]:=rfl
 rw[hev] at G3 ⊢
 clear hev hE
 have h1max:1≤maxLen:=by unfold maxLen;omega
 have G1:=Hz_ (show ∀W,Below w.heap.size w W→Calls Tryz.prog 26 #[.agg vwZ] W fun e w'=>e=.returned (.bool true)∧Below W.heap.size W w' from fun W hb=>by
  have h:=viewFormed_any ⟨none,0,none,0,none,0,none,0⟩ Wq.vw0 [] [] W (hT.below hb) ⟨Rd.none_,RdZ.none_ _ _,rfl,Rd.none_,RdBs.none_ _ _,rfl⟩
  rw[show vwF Wq.vw0=true by decide +kernel] at h
  exact h)
 have G2:=Hz_ (show ∀W,Calls Tryz.prog 42 #[.slice none 0 0] W fun e w'=>e=.returned (.bool true)∧Below W.heap.size W w' from fun W=>entRest_any none 0 0 [] W (RdSb.none_ _ _))
 have G3:=Hz_ G3
 have G4:=Hz_ entOwn_nil
 have G5:=Hz_ fun (W:World) (hb:Below w.heap.size w W)=>ownView_0 W (hT.below hb)
 have G6:=Hz_ subSearch_nil
 have G7:=Hz_ subInsert_nil
 unfold vwZ at G1 G5 ⊢
 unfold VwO1 at G5
 obtain⟨W0,hW0⟩:∃W,W=((w.alloc (.cells #[.slice none 0 0,.slice none 0 0,.slice none 0 0,.slice none 0 0,.int .i64 0] 35)).alloc (.cells #[.int .i64 4,.slice A1 0 c1,.slice A2 0 c2,.slice A3 0 c3,.slice A4 0 c4,.int .i64 0,.int .i64 0,.int .i64 0,.slice bA 0 bc,.int .i64 2,.slice iA 1 ic,.slice kA 0 kc,.slice zA 0 zc,.slice hA 0 hc,.slice vA 0 vc,.int .i64 0,.slice sA 0 sc] 38)).alloc (.cells #[.slice none 0 0,.slice none 0 0,.slice none 0 0,.slice none 0 0,.int .i64 0] 35):=⟨_,rfl⟩
 have k0:Below w.heap.size w W0:=by rw[hW0];exact(((Below.refl _ _).alloc (Nat.le_refl _) _).alloc (by simp) _).alloc (by simp;omega) _
 have hs0:W0.heap.size=w.heap.size+1+1+1:=by rw[hW0];simp
 have b0:Blk W0 w.heap.size 35 #[.slice none 0 0,.slice none 0 0,.slice none 0 0,.slice none 0 0,.int .i64 0]:=by rw[hW0];exact((Blk.new w _ _).alloc _).alloc _
 have b1:Blk W0 (w.heap.size+1) 38 #[.int .i64 4,.slice A1 0 c1,.slice A2 0 c2,.slice A3 0 c3,.slice A4 0 c4,.int .i64 0,.int .i64 0,.int .i64 0,.slice bA 0 bc,.int .i64 2,.slice iA 1 ic,.slice kA 0 kc,.slice zA 0 zc,.slice hA 0 hc,.slice vA 0 vc,.int .i64 0,.slice sA 0 sc]:=by
  rw[hW0]
  have h:=(Blk.new (w.alloc (.cells #[.slice none 0 0,.slice none 0 0,.slice none 0 0,.slice none 0 0,.int .i64 0] 35)) 38 #[.int .i64 4,.slice A1 0 c1,.slice A2 0 c2,.slice A3 0 c3,.slice A4 0 c4,.int .i64 0,.int .i64 0,.int .i64 0,.slice bA 0 bc,.int .i64 2,.slice iA 1 ic,.slice kA 0 kc,.slice zA 0 zc,.slice hA 0 hc,.slice vA 0 vc,.int .i64 0,.slice sA 0 sc]).alloc (.cells #[.slice none 0 0,.slice none 0 0,.slice none 0 0,.slice none 0 0,.int .i64 0] 35)
  rw[World.size_alloc] at h;exact h
 have b2:Blk W0 (w.heap.size+1+1) 35 #[.slice none 0 0,.slice none 0 0,.slice none 0 0,.slice none 0 0,.int .i64 0]:=by
  rw[hW0]
  have h:=Blk.new ((w.alloc (.cells #[.slice none 0 0,.slice none 0 0,.slice none 0 0,.slice none 0 0,.int .i64 0] 35)).alloc (.cells #[.int .i64 4,.slice A1 0 c1,.slice A2 0 c2,.slice A3 0 c3,.slice A4 0 c4,.int .i64 0,.int .i64 0,.int .i64 0,.slice bA 0 bc,.int .i64 2,.slice iA 1 ic,.slice kA 0 kc,.slice zA 0 zc,.slice hA 0 hc,.slice vA 0 vc,.int .i64 0,.slice sA 0 sc] 38)) 35 #[.slice none 0 0,.slice none 0 0,.slice none 0 0,.slice none 0 0,.int .i64 0]
  rw[World.size_alloc,World.size_alloc] at h;exact h
 have HW0:=Hz_ hW0.symm
 have HB0:=Hz_ (fun (W:World) (hb:Below W0.heap.size W0 W)=>(b0.go hb).five)
 have HB1:=Hz_ (fun (W:World) (hb:Below W0.heap.size W0 W)=>(b1.go hb).c17)
 have HB2:=Hz_ (fun (W:World) (hb:Below W0.heap.size W0 W)=>b2.go hb)
 have K0:=Hz_ k0
 have HS:=Hz_ hs0
 have hi:(Tryz.prog.info? 35).map (·.size)=some 5:=by kernel_rfl
 have HI:=Hz_ hi
 clear k0 hs0 b0 b1 b2 hW0 hi hT
 go_enter Tryz.func20,Tryz.ntmps20
 go_upto_region 1 with fail
 rw[HW0.out]
 obtain⟨q0,q1,q2,q3,q4⟩:=HB0.out _ (Below.refl _ _)
 go_wp2_with fail
 refine(G1.out _ K0.out).mono ?_
 rintro e w1 ⟨rfl,hb1⟩
 have kw:=hb1
 have kk:=btn K0.out hb1
 clear q0 q1 q2 q3 q4
 clear hb1
 go_wp2_with fail
 refine(G2.out _).mono ?_
 rintro e w2 ⟨rfl,hb1⟩
 have kw:=btn kw hb1
 have kk:=btn kk hb1
 clear hb1
 obtain⟨p0,p1,p2,p3,p4,p5,p6,p7,p8,p9,p10,p11,p12,p13,p14,p15,p16⟩:=HB1.out _ kw
 go_wp2_with fail
 refine(G3.out _ kk).mono ?_
 rintro e w3 ⟨rfl,hb1⟩
 have kw:=btn kw hb1
 have kk:=btn kk hb1
 clear hb1
 clear p0 p1 p2 p3 p4 p5 p6 p7 p8 p9 p10 p11 p12 p13 p14 p15 p16
 go_wp2_with fail
 refine(G4.out _).mono ?_
 rintro e w4 ⟨rfl,hb1⟩
 have kw:=btn kw hb1
 have kk:=btn kk hb1
 clear hb1
 obtain⟨p0,p1,p2,p3,p4,p5,p6,p7,p8,p9,p10,p11,p12,p13,p14,p15,p16⟩:=HB1.out _ kw
 go_upto_region 4 with fail
 obtain⟨W4,hW4⟩:∃W,W=w4.alloc (.cells #[.slice none 0 0,.slice none 0 0,.slice none 0 0,.slice none 0 0,.int .i64 0] 35):=⟨_,rfl⟩
 have k4:Below w4.heap.size w4 W4:=by rw[hW4];exact(Below.refl _ _).alloc (Nat.le_refl _) _
 have z0:Blk W4 w4.heap.size 35 #[.slice none 0 0,.slice none 0 0,.slice none 0 0,.slice none 0 0,.int .i64 0]:=by rw[hW4];exact Blk.new w4 _ _
 have hg4:w.heap.size+1+1 < w4.heap.size:=by have:=kw.size;have:=HS.out;omega
 rw[←hW4]
 have HZ:=Hz_ (fun (W:World) (hb:Below W4.heap.size W4 W)=>z0.go hb)
 have kw:=btn kw k4
 have kk:=btn kk k4
 have HG4:=Hz_ (show w4.heap.size < W4.heap.size from z0.lt)
 generalize w4.heap.size=g4 at HZ hg4 HG4 ⊢
 clear z0 hW4 k4
 clear p0 p1 p2 p3 p4 p5 p6 p7 p8 p9 p10 p11 p12 p13 p14 p15 p16
 obtain⟨p0,p1,p2,p3,p4,p5,p6,p7,p8,p9,p10,p11,p12,p13,p14,p15,p16⟩:=HB1.out _ kw
 obtain⟨q0,q1,q2,q3,q4⟩:=HB0.out _ kw
 go_wp2_with fail
 refine(G5.out _ kk).mono ?_
 rintro e w5 ⟨B1,m1,d1,B2,m2,d2,B3,m3,d3,B4,m4,d4,rfl,hb5⟩
 have k5:=hb5
 have kw:=btn kw hb5
 have kk:=btn kk hb5
 have hZ:=HZ.out _ hb5
 clear hb5
 clear p0 p1 p2 p3 p4 p5 p6 p7 p8 p9 p10 p11 p12 p13 p14 p15 p16
 clear q0 q1 q2 q3 q4
 go_wp2_with (refine wpList_store_blk rfl 35 _ _ rfl g4 35 _ #[.slice B1 m1 d1,.slice B2 m2 d2,.slice B3 m3 d3,.slice B4 m4 d4,.int .i64 0] rfl rfl hZ HI.out rfl (by simp[Value.oneCell']) ?_;intro W6 hblk hg;have HBL:=Hz_ hblk;have kw:=kw.trans (grown_below hg kw.size (fun k hk=>by cases hk;have:=HS.out;omega));have kk:=kk.trans (grown_below hg kk.size (fun k hk=>by cases hk;have:=K0.out.size;have:=HS.out;omega));clear hblk hg;obtain⟨p0,p1,p2,p3,p4,p5,p6,p7,p8,p9,p10,p11,p12,p13,p14,p15,p16⟩:=HB1.out _ kw)
 refine(G6.out _ _ _).mono ?_
 rintro e w7 ⟨rfl,hb7⟩
 have kw:=btn kw hb7
 have kk:=btn kk hb7
 have HBL:=Hz_ (HBL.out.go hb7)
 clear hb7
 clear p0 p1 p2 p3 p4 p5 p6 p7 p8 p9 p10 p11 p12 p13 p14 p15 p16
 obtain⟨p0,p1,p2,p3,p4,p5,p6,p7,p8,p9,p10,p11,p12,p13,p14,p15,p16⟩:=HB1.out _ kw
 go_upto_region 19 with fail
 have HXX:=Hz_ (fun (W:World) (hb:Below W0.heap.size W0 W)=>(show W.cell? ⟨w.heap.size+1,9,none⟩=some (.int .i64 2)∧W.cell? ⟨w.heap.size+1,10,none⟩=some (.slice iA 1 ic) from by obtain⟨p0,p1,p2,p3,p4,p5,p6,p7,p8,p9,p10,p11,p12,p13,p14,p15,p16⟩:=HB1.out W hb;exact⟨p9,p10⟩))
 clear p0 p1 p2 p3 p4 p5 p6 p7 p8 p9 p10 p11 p12 p13 p14 p15 p16
 have kw:=kw.drew
 have kk:=kk.drew
 have HBL:=Hz_ (show Blk w7.drew g4 35 #[.slice B1 m1 d1,.slice B2 m2 d2,.slice B3 m3 d3,.slice B4 m4 d4,.int .i64 0] from HBL.out)
 refine region_nrm fun KK hKK=>?_
 refine wp_region_held_drew (S:=(fun W=>W.cell? ⟨w.heap.size+1,9,none⟩=some (.int .i64 2)∧W.cell? ⟨w.heap.size+1,10,none⟩=some (.slice iA 1 ic))) (by kernel_rfl) (by first | exact HXX.out _ kw) (fun hHeld=>?_)
 refine puA 0 99 (HXX.out _ kw) ?_
 refine puA 1 100 (HXX.out _ kw) ?_
 refine puA 2 101 (HXX.out _ kw) ?_
 refine puA 3 102 (HXX.out _ kw) ?_
 refine puA 4 103 (HXX.out _ kw) ?_
 refine puA 5 104 (HXX.out _ kw) ?_
 refine puR 6 fun K hK=>?_
 go_simp
 refine(HI_.out _ kk).mono ?_
 rintro e w8 ⟨A8,c8,rfl,ho8,hb8⟩
 have kw:=btn kw hb8
 have kk:=btn kk hb8
 have HBL:=Hz_ (HBL.out.go hb8)
 clear hb8
 refine hK.out _ _ (HXX.out _ kw) fun hHeld=>?_
 clear hK K
 refine puA 7 106 (HXX.out _ kw) ?_
 refine puR 8 fun K hK=>?_
 go_simp
 have HA:=Hz_ (rd_new (size:=7) (n:=1) (cs:=#[.int .i64 2,.slice A8 1 c8,.int .i64 0,.int .i64 0,.bool false,.bool false,.bool false]) (t:=65) ((Below.refl w8.heap.size w8).alloc (Nat.le_refl _) _) rfl h1max)
 have kw:=kw.alloc kw.size (.cells #[.int .i64 2,.slice A8 1 c8,.int .i64 0,.int .i64 0,.bool false,.bool false,.bool false] 65)
 have kk:=kk.alloc kk.size (.cells #[.int .i64 2,.slice A8 1 c8,.int .i64 0,.int .i64 0,.bool false,.bool false,.bool false] 65)
 have HBL:=Hz_ (HBL.out.alloc (.cells #[.int .i64 2,.slice A8 1 c8,.int .i64 0,.int .i64 0,.bool false,.bool false,.bool false] 65))
 refine hK.out _ _ (HXX.out _ kw) fun hHeld=>?_
 clear hK K
 refine puR 9 fun K hK=>?_
 go_simp
 have kw0:=kw
 refine(G7.out _ _ _ _ HA.out (by simp[Value.oneCell'])).mono ?_
 rintro e w9 ⟨A9,c9,rfl,ho9,hb9⟩
 have kw:=btn kw hb9
 have kk:=btn kk hb9
 have HBL:=Hz_ (HBL.out.go hb9)
 have HO:=Hz_ (own_less ho9 (show w.heap.size+1+1+1≤_ from by have:=kw0.size;have:=HS.out;omega))
 clear hb9 ho9
 refine hK.out _ _ (HXX.out _ kw) fun hHeld=>?_
 clear hK K
 refine puA 10 10 (HXX.out _ kw) ?_
 refine wpAnyH_done (by kernel_rfl) ?_ _
 refine Nrm.out (hKK _ _ ?_)
 clear hHeld
 obtain⟨p0,p1,p2,p3,p4⟩:=HBL.out.five
 have hZ:=HB2.out _ kw
 go_wp2_with (refine wpList_store_blk rfl 35 _ _ rfl (w.heap.size+1+1) 35 _ #[.slice B1 m1 d1,.slice B2 m2 d2,.slice B3 m3 d3,.slice B4 m4 d4,.int .i64 0] rfl rfl hZ HI.out rfl (by simp[Value.oneCell']) ?_;intro Wd hblk hg)
 refine bodyPost_ret (results_cell_tmps rfl _ _ (w.heap.size+1+1) 35 _ _ _ rfl hblk Tryz.underlying35 rfl HI.out) rfl ?_
 exact⟨_,_,_,_,_,_,_,_,_,_,_,_,A9,c9,rfl,_,Rd.of_own (own_but HO.out (But.grown hg) (by omega)),kk.trans (grown_below hg kk.size (fun k hk=>by cases hk;omega))⟩
def x0E:Ent:=⟨0,Wq.ntz,Wq.bdz,0,[],Wq.vw0,[]⟩
def u0E:EV:=⟨⟨none,0,0,none,0,0,none,0,0,none,0,0⟩,none,0,none,0,⟨none,0,none,0,none,0,none,0⟩,none,0⟩
theorem VwOwn.nil (w:World) (base:Nat):VwOwn w base ⟨none,0,none,0,none,0,none,0⟩ Wq.vw0 [] []:=⟨World.ownsRow_nil _ _ _ _,OwnZ.nil _ _,rfl,World.ownsRow_nil _ _ _ _,OwnBd.nil _ _,rfl⟩
theorem NtOwn.nil (w:World) (base:Nat):NtOwn w base ⟨none,0,0,none,0,0,none,0,0,none,0,0⟩ Wq.ntz:=⟨rfl,World.ownsRow_nil _ _ _ _,rfl,World.ownsRow_nil _ _ _ _,rfl,World.ownsRow_nil _ _ _ _,rfl,World.ownsRow_nil _ _ _ _⟩
theorem dec_start (w:World) (A:Option Addr) (c:Nat) (l:List UInt8) (hR:Rd w w.heap.size 1 A l.length c (bv l)) (hn:l.length≤4294967296):
  ES w (((w.alloc (.cells entZ 38)).alloc (.cells #[.int .i64 0] 40)).alloc (.cells #[.slice A l.length c] 86)) w.heap.size l u0E x0E [] [] []:=by
 have h1:Below w.heap.size w (w.alloc (.cells entZ 38)):=(Below.refl _ _).alloc (Nat.le_refl _) _
 have h2:Below w.heap.size w ((w.alloc (.cells entZ 38)).alloc (.cells #[.int .i64 0] 40)):=h1.alloc (by simp) _
 have h3:=h2.alloc (by simp;omega) (.cells #[.slice A l.length c] 86)
 have b1:=((Blk.new w 38 entZ).alloc (.cells #[.int .i64 0] 40)).alloc (.cells #[.slice A l.length c] 86)
 have b2:=(Blk.new (w.alloc (.cells entZ 38)) 40 #[.int .i64 0]).alloc (.cells #[.slice A l.length c] 86)
 have b3:=Blk.new ((w.alloc (.cells entZ 38)).alloc (.cells #[.int .i64 0] 40)) 86 #[.slice A l.length c]
 rw[World.size_alloc] at b2
 rw[World.size_alloc,World.size_alloc] at b3
 exact⟨⟨b1,NtOwn.nil _ _,World.ownsRow_nil _ _ _ _,World.ownsRow_nil _ _ _ _,VwOwn.nil _ _,OwnSb.nil _ _,rfl⟩,b2,⟨⟨A,c,b3,hR.below h3⟩,by omega,hn⟩,h3,rfl⟩
end Go.Proofs.YtmbeahbgafkjfaaGreatDoor
namespace Go.Proofs.YtmbeahbgafkjfaaGreatDoor.Wq
theorem ntC_ntz:ntC ntz:=⟨fun _ h=>(by cases h),fun _ h=>(by cases h),fun _ h=>(by cases h)⟩
theorem EntC.mk0 {k:Int} {n:Nt} {b:Bd} {f:Int} {i:List Sn.Sp} (hn:ntC n) (hb:b.s.1 < 9223372036854775808):EntC ⟨k,n,b,f,i,vw0,[]⟩:=⟨hn,hb,(fun _ h=>by cases h),(fun _ h=>by cases h),(fun _ h=>by cases h),(fun _ h=>by cases h)⟩
theorem decE_al:decE [4,2,1,1,3]=some ⟨4,ntz,bdz,2,[(1,3)],vw0,[]⟩:=by
 have h:=decE_enc (x:=⟨4,ntz,bdz,2,[(1,3)],vw0,[]⟩) (by decide +kernel) (EntC.mk0 ntC_ntz (by decide))
 rw[show lEnt ⟨4,ntz,bdz,2,[(1,3)],vw0,[]⟩=[4,2,1,1,3] by decide +kernel] at h
 exact h
end Go.Proofs.YtmbeahbgafkjfaaGreatDoor.Wq
namespace Go.Proofs.YtmbeahbgafkjfaaGreatDoor
open Go.RowKit
theorem decode_al (A:Option Addr) (n c:Nat) (l:List UInt8) (w:World) (hT:Tab w) (hl:l.length=n) (hR:Rd w w.heap.size 1 A n c (bv l)) (hn:n≤4294967296) (hal:l=[4,2,1,1,3]):
  Calls Tryz.prog 15 #[.slice A n c] w (DecE l w):=by
 have AL:=Hz_ hal
 subst hl
 have hmf:∀(fn:Fn) (first cap:Array Value) (w:World),(Instr.makeFunc fn first cap).run Tryz.prog w=.ok (.func fn first cap) w:=fun _ _ _ _=>rfl
 obtain⟨is0,hsi0,hsz0,hsz1,hsz2⟩:=info_parts sub_info
 have h1max:1≤maxLen:=by unfold maxLen;omega
 have h0:=dec_start w A c l hR hn
 obtain⟨X,hX⟩:∃X,X=w.heap.size:=⟨_,rfl⟩
 rw[←hX] at h0
 have hl32:l.length≤4294967296:=hn
 obtain⟨n,hn'⟩:∃n,n=l.length:=⟨_,rfl⟩
 rw[←hn'] at h0 ⊢
 unfold entZ at h0
 generalize hW0:((w.alloc (.cells _ 38)).alloc (.cells #[.int .i64 0] 40)).alloc (.cells #[.slice A n c] 86)=W0 at h0
 have HW0:=Hz_ hW0
 have HX:=Hz_ hX
 have KS:=Hz_ h0
 have HT:=Hz_ hT
 clear hal hT hR hn hW0 h0 hn' hX
 go_enter_defers Tryz.func15,Tryz.ntmps15
 go_upto_region 3 with fail
 rw[HW0.out,←HX.out]
 go_wp2_with fail
 refine(entNumber_any (X+2) l W0 KS.out.tr).mono ?_
 rintro e w1 (⟨hp,rfl,hb⟩ | ⟨k,r,hp,rfl,ht,hb⟩)
 ·exact absurd hp (by rw[AL.out];decide +kernel)
 have KS:=Hz_ (KS.out.call hb ht)
 have hkr:k=4∧r=[2,1,1,3]:=by
  rw[AL.out,show Wq.pI [4,2,1,1,3]=some (4,[2,1,1,3]) by decide +kernel] at hp
  injection hp with hp;injection hp with h1 h2;exact⟨h1.symm,h2.symm⟩
 obtain⟨rfl,hr⟩:=hkr
 have HR:=Hz_ hr
 clear hb ht hp hr
 have b0:w1.cell? ⟨X,0,none⟩=some (.int .i64 0):=KS.out.blk.cell 0
 have f0:=KS.out.blk.frozen 0
 go_upto_region 4 with fail
 have ks:=KS.out.put (KS.out.kind_ 4)
 clear b0 f0 KS
 generalize w1.setCell ⟨X,0,none⟩ (.int .i64 4)=w2 at ks ⊢
 have KS:=Hz_ (show ES w w2 X r u0E ⟨4,Wq.ntz,Wq.bdz,0,[],Wq.vw0,[]⟩ [] [] [] from ks)
 clear ks
 have b0:w2.cell? ⟨X,0,none⟩=some (.int .i64 4):=KS.out.blk.cell 0
 go_wp2_with fail
 refine(entNumber_any (X+2) r w2 KS.out.tr).mono ?_
 rintro e w3 (⟨hp,rfl,hb⟩ | ⟨f,q,hp,rfl,ht,hb⟩)
 ·exact absurd hp (by rw[HR.out];decide +kernel)
 have KS:=Hz_ (KS.out.call hb ht)
 have hfq:f=2∧q=[1,1,3]:=by
  rw[HR.out,show Wq.pI [2,1,1,3]=some (2,[1,1,3]) by decide +kernel] at hp
  injection hp with hp;injection hp with h1 h2;exact⟨h1.symm,h2.symm⟩
 obtain⟨rfl,hq⟩:=hfq
 have HQ:=Hz_ hq
 clear hb ht hp hq HR
 have b9:w3.cell? ⟨X,9,none⟩=some (.int .i64 0):=KS.out.blk.cell 9
 have f9:=KS.out.blk.frozen 9
 go_upto_region 15 with fail
 have ks:=KS.out.put (KS.out.frm_ 2)
 clear b9 f9 KS
 generalize w3.setCell ⟨X,9,none⟩ (.int .i64 2)=w4 at ks ⊢
 have KS:=Hz_ ks
 clear ks
 go_wp2_with fail
 refine(takeSet_any (X+2) q w4 KS.out.tr).mono ?_
 rintro e w5 (⟨hp,rfl,hb⟩ | ⟨it,q2,hp,⟨iA,ic,rfl,hn⟩,ht,hb⟩)
 ·exact absurd hp (by rw[HQ.out];decide +kernel)
 have hlt:=KS.out.tr.lt
 have KS:=Hz_ (KS.out.call hb ht)
 have HV:=Hz_ (own_less hn (show X+3≤w4.heap.size by omega))
 have hiq:it=[(1,3)]∧q2=[]:=by
  rw[HQ.out,show Wq.pS [1,1,3]=some ([(1,3)],[]) by decide +kernel] at hp
  injection hp with hp;injection hp with h1 h2;exact⟨h1.symm,h2.symm⟩
 obtain⟨rfl,rfl⟩:=hiq
 clear hb ht hp hn hlt HQ
 have b10:w5.cell? ⟨X,10,none⟩=some (.slice none 0 0):=KS.out.blk.cell 10
 have f10:=KS.out.blk.frozen 10
 go_upto_region 23 with fail
 have ks:=KS.out.put (KS.out.int_ HV.out)
 clear b10 f10 KS HV
 generalize w5.setCell ⟨X,10,none⟩ (.slice iA [(1,3)].length ic)=wc at ks ⊢
 obtain⟨u,x,hux⟩:∃(u:EV) (x:Ent),ES w wc X [] u x [] [] []∧x=xal:=⟨_,_,ks,rfl⟩
 obtain⟨ks,hxal⟩:=hux
 have KS:=Hz_ ks
 have HXA:=Hz_ hxal
 clear ks hxal
 have hbd:EntBd x:=by rw[HXA.out];exact⟨(show (0:Int) < 9223372036854775808 by decide),(show 0+0+0+0≤9223372036854775807 by decide),(show 0+0+0+0≤9223372036854775807 by decide),fun y hy=>by cases hy⟩
 obtain⟨⟨A',c',hrb,hrr⟩,-,-⟩:=KS.out.tr
 have c0:wc.cell? ⟨X+1+1,0,none⟩=some (.slice A' ([]:List UInt8).length c'):=hrb.cell 0
 clear hrb hrr
 have hi:(Tryz.prog.info? 38).map (·.size)=some entZ.size:=by kernel_rfl
 have HI:=Hz_ hi
 have hie:(Tryz.prog.info? 38).map (·.size)=some (eval x u).size:=by kernel_rfl
 have HIE:=Hz_ hie
 clear hi hie
 have HRD:=KS.out.rd hbd
 have hnt:=HRD.nt
 have G1:=entFormed_any u x [] [] [] wc (KS.out.tab HT.out) HRD hbd.c (by rw[←hnt.l1,←hnt.l2,←hnt.l3,←hnt.l4];exact hbd.n) hbd.v
 have HBD:=Hz_ hbd
 clear HRD hnt hbd
 have hc:=KS.out.blk.c17
 have HC:=Hz_ fun (W:World) (hb:Below wc.heap.size wc W)=>(KS.out.blk.go hb).c17
 obtain⟨p0,p1,p2,p3,p4,p5,p6,p7,p8,p9,p10,p11,p12,p13,p14,p15,p16⟩:=hc
 have HEV:=Hz_ (show eval x u=#[.int .i64 x.kind,.slice u.nv.A1 u.nv.n1 u.nv.c1,.slice u.nv.A2 u.nv.n2 u.nv.c2,.slice u.nv.A3 u.nv.n3 u.nv.c3,.slice u.nv.A4 u.nv.n4 u.nv.c4,.int .i64 x.body.o,.int .i64 x.body.s.1,.int .i64 x.body.s.2,.slice u.bA x.body.v.length u.bc,.int .i64 x.from_,.slice u.iA x.int.length u.ic,.slice u.vv.kA x.view.known.length u.vv.kc,.slice u.vv.zA x.view.zones.length u.vv.zc,.slice u.vv.hA x.view.held.length u.vv.hc,.slice u.vv.bA x.view.bods.length u.vv.bc,.int .i64 x.view.room,.slice u.sA x.subs.length u.sc] from rfl)
 rw[HEV.out] at G1
 rw[show entF x=true by rw[HXA.out];decide +kernel] at G1
 have G1:=Hz_ G1
 have HG:=Hz_ (fun (W:World) (hb:Below wc.heap.size wc W)=>(KS.out.grow hb))
 have HIL:=Hz_ (show (Tryz.prog.info? 38).map (·.size)=some (Array.size (#[.int .i64 x.kind,.slice u.nv.A1 u.nv.n1 u.nv.c1,.slice u.nv.A2 u.nv.n2 u.nv.c2,.slice u.nv.A3 u.nv.n3 u.nv.c3,.slice u.nv.A4 u.nv.n4 u.nv.c4,.int .i64 x.body.o,.int .i64 x.body.s.1,.int .i64 x.body.s.2,.slice u.bA x.body.v.length u.bc,.int .i64 x.from_,.slice u.iA x.int.length u.ic,.slice u.vv.kA x.view.known.length u.vv.kc,.slice u.vv.zA x.view.zones.length u.vv.zc,.slice u.vv.hA x.view.held.length u.vv.hc,.slice u.vv.bA x.view.bods.length u.vv.bc,.int .i64 x.view.room,.slice u.sA x.subs.length u.sc]:Array Value)) by kernel_rfl)
 go_wp2_with (first | (go_at_call 12;go_must (refine G1.out.mono ?_);rintro e w9 ⟨rfl,hb9⟩;have K9:=Hz_ (HG.out w9 hb9);clear p0 p1 p2 p3 p4 p5 p6 p7 p8 p9 p10 p11 p12 p13 p14 p15 p16;obtain⟨p0,p1,p2,p3,p4,p5,p6,p7,p8,p9,p10,p11,p12,p13,p14,p15,p16⟩:=HC.out w9 hb9) | (refine wpList_store_blk rfl 38 _ _ rfl X 38 _ #[.int .i64 x.kind,.slice u.nv.A1 u.nv.n1 u.nv.c1,.slice u.nv.A2 u.nv.n2 u.nv.c2,.slice u.nv.A3 u.nv.n3 u.nv.c3,.slice u.nv.A4 u.nv.n4 u.nv.c4,.int .i64 x.body.o,.int .i64 x.body.s.1,.int .i64 x.body.s.2,.slice u.bA x.body.v.length u.bc,.int .i64 x.from_,.slice u.iA x.int.length u.ic,.slice u.vv.kA x.view.known.length u.vv.kc,.slice u.vv.zA x.view.zones.length u.vv.zc,.slice u.vv.hA x.view.held.length u.vv.hc,.slice u.vv.bA x.view.bods.length u.vv.bc,.int .i64 x.view.room,.slice u.sA x.subs.length u.sc] rfl rfl K9.out.blk HIL.out rfl (by simp[Value.oneCell']) ?_;intro Wd hblk hg;have KD:=Hz_ (K9.out.same_ hg hblk);have c4:Wd.cell? ⟨X+1,0,none⟩=some (.int .i64 0):=KD.out.err.cell 0;have f4:=KD.out.err.frozen 0))
 have KE:=KD.out.err_
 exact dec_out KE.blk rfl KE.err (fun w' hb'=>.inr ⟨x,u,(by rw[HXA.out,AL.out];exact Wq.decE_al),rfl,⟨[],[],[],(KE.rd HBD.out).go hb'⟩,by
  rw[←KE.hX]
  exact KE.out.trans (hb'.mono (by have:=KE.blk.lt;omega))⟩) rfl rfl
theorem u8_five (W:World):Rd (W.alloc (.cells #[.int .u8 4,.int .u8 2,.int .u8 1,.int .u8 1,.int .u8 3] 5)) (W.alloc (.cells #[.int .u8 4,.int .u8 2,.int .u8 1,.int .u8 1,.int .u8 3] 5)).heap.size 1 (some ⟨W.heap.size,0,none⟩) 5 5 (bv [4,2,1,1,3]):=by
 rw[World.size_alloc];exact Rd.new W 5 1 5 #[.int .u8 4,.int .u8 2,.int .u8 1,.int .u8 1,.int .u8 3] rfl (by unfold maxLen;omega)
theorem aliveEn_any (w:World) (hT:Tab w):Calls Tryz.prog 8 #[] w fun e w'=>e=.returned (.bool true)∧Below w.heap.size w w':=by
 have G1:=fun (W:World) (hb:Below w.heap.size w W) (A:Option Addr) (c:Nat) (hR:Rd W W.heap.size 2 A 1 c (sv [(1,3)]))=>entEncode_any ⟨⟨none,0,0,none,0,0,none,0,0,none,0,0⟩,none,0,A,c,⟨none,0,none,0,none,0,none,0⟩,none,0⟩ xal [] [] [] W (hT.below hb)
  ⟨⟨rfl,Rd.none_,rfl,Rd.none_,rfl,Rd.none_,rfl,Rd.none_⟩,Rd.none_,hR,⟨Rd.none_,RdZ.none_ _ _,rfl,Rd.none_,RdBs.none_ _ _,rfl⟩,RdSb.none_ _ _,rfl⟩ (Wq.EntC.mk0 Wq.ntC_ntz (by decide)) (show 0+0+0+0≤9223372036854775807 by decide) (show 0+0+0+0≤9223372036854775807 by decide) (by decide +kernel)
 rw[show lEnt xal=[4,2,1,1,3] by decide +kernel] at G1
 unfold BytesAre at G1
 have G1:=Hz_ (show ∀(W:World),Below w.heap.size w W→∀(A:Option Addr) (c:Nat),Rd W W.heap.size 2 A 1 c (sv [(1,3)])→Calls Tryz.prog 9 #[.agg #[.int .i64 4,.slice none 0 0,.slice none 0 0,.slice none 0 0,.slice none 0 0,.int .i64 0,.int .i64 0,.int .i64 0,.slice none 0 0,.int .i64 2,.slice A 1 c,.slice none 0 0,.slice none 0 0,.slice none 0 0,.slice none 0 0,.int .i64 0,.slice none 0 0]] W
  fun e w'=>∃A' c',e=.returned (.tuple #[.slice A' 5 c',.int .i64 0])∧Rd w' w'.heap.size 1 A' 5 c' (bv [4,2,1,1,3])∧Below W.heap.size W w' from fun W hb A c hR=>(G1 W hb A c hR).mono fun e w' h=>by
   obtain⟨_,h1,A',c',rfl,h2,h3⟩:=h
   exact⟨A',c',h1,Rd.of_own h2,h3⟩)
 have G2:=Hz_ fun (W:World) (hb:Below w.heap.size w W) (A:Option Addr) (c:Nat) (hR:Rd W W.heap.size 1 A 5 c (bv [4,2,1,1,3]))=>(decode_al A 5 c [4,2,1,1,3] W (hT.below hb) rfl hR (by decide) rfl).mono fun e W' h=>DecE.some_ (show Wq.decE [4,2,1,1,3]=some xal from Wq.decE_al) h
 have G3:=Hz_ fun (W:World) (hb:Below w.heap.size w W) (u:EV) (hE:EntR W W.heap.size u xal)=>play_al u W (hT.below hb) hE
 have G7:=Hz_ fun (W:World) (A A2:Option Addr) (c c2:Nat) (h1:Rd W W.heap.size 1 A 5 c (bv [4,2,1,1,3])) (h2:Rd W W.heap.size 1 A2 5 c2 (bv [4,2,1,1,3]))=>(sameB_any A A2 5 c 5 c2 W.heap.size W.heap.size [4,2,1,1,3] [4,2,1,1,3] W h1 h2).mono fun e W' (h:e=.returned (.bool (([4,2,1,1,3]:List UInt8) == [4,2,1,1,3]))∧W=W')=>(show e=.returned (.bool true)∧W'=W from ⟨h.1,h.2.symm⟩)
 have H5:=Hz_ u8_five
 have h1max:1≤maxLen:=by unfold maxLen;omega
 have kA:Below w.heap.size w (w.alloc (.cells #[.int .i64 1,.int .i64 3] 63)):=(Below.refl _ _).alloc (Nat.le_refl _) _
 have hA:=rd_new (size:=2) (n:=1) (cs:=#[.int .i64 1,.int .i64 3]) (t:=63) ((Below.refl w.heap.size w).alloc (Nat.le_refl _) _) rfl h1max
 have HA:=Hz_ hA
 clear hT hA
 go_enter Tryz.func8,Tryz.ntmps8
 go_wp2_with fail
 refine(G1.out _ kA _ _ HA.out).mono ?_
 rintro e w1 ⟨A1,c1,rfl,hR1,hb1⟩
 have k1:=btn kA hb1
 have k2:Below w1.heap.size w1 (w1.alloc (.cells #[.int .u8 4,.int .u8 2,.int .u8 1,.int .u8 1,.int .u8 3] 5)):=(Below.refl _ _).alloc (Nat.le_refl _) _
 have hR1:=hR1.go k2
 have k1:=btn k1 k2
 clear hb1 k2 HA
 go_wp2_with fail
 refine(G2.out _ k1 _ _ (H5.out _)).mono ?_
 rintro e w3 ⟨u,rfl,hE,hb3⟩
 have hE:EntR w3 w3.heap.size u xal:=hE
 have hk4:Below w3.heap.size w3 (w3.alloc (.cells (eval xal u) 38)):=(Below.refl _ _).alloc (Nat.le_refl _) _
 have k3:=btn hb3 hk4
 have hR1:=hR1.go k3
 have k1:=btn k1 k3
 have hE:=hE.go hk4
 have G3:=Hz_ (G3.out _ k1 u hE)
 have hX:=Blk.new w3 38 (eval xal u)
 clear k3 hk4 hb3
 obtain⟨W4,hW4⟩:∃W,W=w3.alloc (.cells (eval xal u) 38):=⟨_,rfl⟩
 rw[←hW4] at hR1 k1 G3 hX
 have HW4:=Hz_ hW4.symm
 have HX:=Hz_ hX
 clear hW4 hX hE
 have hev:eval xal u=#[.int .i64 4,.slice u.nv.A1 u.nv.n1 u.nv.c1,.slice u.nv.A2 u.nv.n2 u.nv.c2,.slice u.nv.A3 u.nv.n3 u.nv.c3,.slice u.nv.A4 u.nv.n4 u.nv.c4,.int .i64 0,.int .i64 0,.int .i64 0,.slice u.bA 0 u.bc,.int .i64 2,.slice u.iA 1 u.ic,.slice u.vv.kA 0 u.vv.kc,.slice u.vv.zA 0 u.vv.zc,.slice u.vv.hA 0 u.vv.hc,.slice u.vv.bA 0 u.vv.bc,.int .i64 0,.slice u.sA 0 u.sc]:=rfl
 rw[hev] at HW4 HX G3 ⊢
 unfold vwZ PlyOut at G3
 obtain⟨p0,p1,p2,p3,p4,p5,p6,p7,p8,p9,p10,p11,p12,p13,p14,p15,p16⟩:=HX.out.c17
 clear hev
 go_upto_region 3 with fail
 rw[HW4.out]
 go_wp2_with fail
 refine G3.out.mono ?_
 rintro e w5 ⟨B1,m1,d1,B2,m2,d2,B3,m3,d3,B4,m4,d4,A5,c5,rfl,ys,hR5,hb5⟩
 obtain⟨b5,o5,rfl,hl5,hc5⟩:=hR5.plain (by decide) (by decide)
 have hx5:=hc5 0 _ rfl
 rw[Nat.add_zero] at hx5
 have k5:Below w5.heap.size w5 (w5.alloc (.cells #[.slice B1 m1 d1,.slice B2 m2 d2,.slice B3 m3 d3,.slice B4 m4 d4,.int .i64 0] 35)):=(Below.refl _ _).alloc (Nat.le_refl _) _
 have hx6:(w5.alloc (.cells #[.slice B1 m1 d1,.slice B2 m2 d2,.slice B3 m3 d3,.slice B4 m4 d4,.int .i64 0] 35)).cell? ⟨b5,o5,none⟩=some (.int .i64 2):=(k5.cell (p:=⟨b5,o5,none⟩) hl5).trans hx5
 have kz:=btn hb5 k5
 have hR1:=hR1.go kz
 have k1:=btn k1 kz
 obtain⟨W6,hW6⟩:∃W,W=w5.alloc (.cells #[.slice B1 m1 d1,.slice B2 m2 d2,.slice B3 m3 d3,.slice B4 m4 d4,.int .i64 0] 35):=⟨_,rfl⟩
 rw[←hW6] at hx6 hR1 k1
 have HW6:=Hz_ hW6.symm
 have hl6:b5 < W6.heap.size:=by rw[hW6];simp;omega
 clear hW6 kz k5 hx5 hc5 hR5 hb5 hl5 p0 p1 p2 p3 p4 p5 p6 p7 p8 p9 p10 p11 p12 p13 p14 p15 p16
 go_upto_region 4 with fail
 rw[HW6.out]
 have k7:Below W6.heap.size W6 (W6.alloc (.cells #[.int .u8 4,.int .u8 2,.int .u8 1,.int .u8 1,.int .u8 3] 5)):=(Below.refl _ _).alloc (Nat.le_refl _) _
 have hR7:=hR1.go k7
 have k8:=btn k1 k7
 have hx7:(W6.alloc (.cells #[.int .u8 4,.int .u8 2,.int .u8 1,.int .u8 1,.int .u8 3] 5)).cell? ⟨b5,o5,none⟩=some (.int .i64 2):=(k7.cell (p:=⟨b5,o5,none⟩) hl6).trans hx6
 go_wp2_with fail
 refine(G7.out _ _ _ _ _ hR7 (H5.out _)).mono ?_
 rintro e w9 ⟨rfl,rfl⟩
 go_wp2
 go_ret
 exact⟨rfl,k8⟩
theorem run_load_blk {P:Program} {o:Oper} {a:Act} {w:World} (ty:TypeId) (x:Operand) (ho:o.op=.load ty x) (g:Nat) (hx:a.eval x=.pointer (some ⟨g,0,none⟩)) (t:TypeId) (cs:Array Value) (d:TypeDesc)
  (hg:Blk w g t cs) (hu:P.underlying ty=some d) (hd:(match d with | .struct _ | .array _ _=>true | _=>false)=true) (hi:(P.info? ty).map (·.size)=some cs.size):
  (execOp a.eval o).run P w=.ok (.value (.agg cs)) w:=by
 unfold execOp
 simp only[ho,hx,Instr.loadAt,Instr.sureAddr,Sem.run_bind,Sem.run_pure,Result.andThen_ok,run_loadVar_row w g t ty cs (0,0) d hg hu hd hi]
theorem entryEncodes_no (x:Ent) (u:EV) (L:List (ZV×Zn)) (M:List (BV×Wq.Bd)) (S:List (SV×Sb)) (w:World) (hT:Tab w) (hE:EntRd w w.heap.size u x L M S) (hc:Wq.EntC x)
  (hs1:u.nv.n1+u.nv.n2+u.nv.n3+u.nv.n4≤9223372036854775807) (hs2:x.view.known.length+x.view.zones.length+x.view.held.length+x.view.bods.length≤9223372036854775807) (hf:entF x=false):
  Calls Tryz.prog 3 #[.agg (eval x u)] w fun e w'=>e=.returned (.bool true)∧Below w.heap.size w w':=by
 have GA:=Hz_ fun (W:World) (hb:Below w.heap.size w W)=>aliveEn_any W (hT.below hb)
 have GF:=fun (W:World) (hb:Below w.heap.size w W)=>entFormed_any u x L M S W (hT.below hb) (hE.go hb) hc.b hs1 hs2
 have GG:=fun (W:World) (hb:Below w.heap.size w W)=>refEntFormed_any u x L M S W (hE.go hb)
 have GE:=fun (W:World) (hb:Below w.heap.size w W)=>entEncode_no u x L M S W (hT.below hb) (hE.go hb) hc.b hs1 hs2 hf
 have GR:=fun (W:World) (hb:Below w.heap.size w W)=>refEncode_no u x L M S W (hE.go hb) hf
 have GS:=fun (W:World)=>(sameB_any none none 0 0 0 0 W.heap.size W.heap.size [] [] W Rd.none_ Rd.none_).mono fun e W' (h:e=.returned (.bool (([]:List UInt8) == []))∧W=W')=>(show e=.returned (.bool true)∧W=W' from ⟨by rw[h.1];rfl,h.2⟩)
 rw[hf] at GF GG
 obtain⟨k_,nt,⟨bo,⟨ba,bb⟩,bvx⟩,fr,it,⟨known,zones,held,bods,rm⟩,subs⟩:=x
 obtain⟨⟨A1,n1,c1,A2,n2,c2,A3,n3,c3,A4,n4,c4⟩,bA,bc,iA,ic,⟨kA,kc,zA,zc,hA,hc_,vA,vc⟩,sA,sc⟩:=u
 unfold eval at GE GR GF GG ⊢
 dsimp only at GE GR GF GG ⊢
 clear hf hT hE hc hs1 hs2
 generalize bvx.length=nv at GE GR GF GG ⊢
 generalize it.length=ni at GE GR GF GG ⊢
 generalize known.length=nk at GE GR GF GG ⊢
 generalize zones.length=nz at GE GR GF GG ⊢
 generalize held.length=nh at GE GR GF GG ⊢
 generalize bods.length=nb at GE GR GF GG ⊢
 generalize subs.length=ns at GE GR GF GG ⊢
 obtain⟨E,hEq⟩:∃E:Array Value,E=#[.int .i64 k_,.slice A1 n1 c1,.slice A2 n2 c2,.slice A3 n3 c3,.slice A4 n4 c4,.int .i64 bo,.int .i64 ba,.int .i64 bb,.slice bA nv bc,.int .i64 fr,.slice iA ni ic,.slice kA nk kc,.slice zA nz zc,.slice hA nh hc_,.slice vA nb vc,.int .i64 rm,.slice sA ns sc]:=⟨_,rfl⟩
 rw[←hEq] at GE GR GF GG ⊢
 have GE:=Hz_ GE
 have GR:=Hz_ GR
 have GF:=Hz_ GF
 have GG:=Hz_ GG
 have GS:=Hz_ GS
 have HQ:=Hz_ hEq.symm
 have HI:=Hz_ (show (Tryz.prog.info? 38).map (·.size)=some E.size from by rw[hEq];kernel_rfl)
 clear hEq
 have hb0:Below w.heap.size w (w.alloc (.cells E 38)):=(Below.refl _ _).alloc (Nat.le_refl _) _
 have HX0:=Blk.new w 38 E
 obtain⟨W0,hW0⟩:∃W0,W0=w.alloc (.cells E 38):=⟨_,rfl⟩
 rw[←hW0] at hb0 HX0
 have HW:=Hz_ hW0.symm
 have HB:=Hz_ hb0
 have HX:=Hz_ fun W (hb:Below W0.heap.size W0 W)=>HX0.go hb
 clear hb0 HX0 hW0
 go_enter Tryz.func3,Tryz.ntmps3
 go_wp2_with fail
 rw[HW.out]
 refine(GA.out _ HB.out).mono ?_
 rintro e w1 ⟨rfl,hb1⟩
 have hd1:=btn HB.out hb1
 have HK:=Hz_ (HX.out _ hb1)
 go_wp2_with (refine wpList_load_row rfl 38 _ rfl w.heap.size rfl 38 _ _ _ HK.out Tryz.underlying38 rfl HI.out ?_)
 refine(GE.out _ hd1).mono ?_
 rintro e w2 ⟨rfl,hb2⟩
 have hd2:=btn hd1 hb2
 have hz2:=btn hb1 hb2
 clear HK
 have HK:=Hz_ (HX.out _ hz2)
 go_wp2_with (refine wpList_load_row rfl 38 _ rfl w.heap.size rfl 38 _ _ _ HK.out Tryz.underlying38 rfl HI.out ?_)
 refine(GR.out _ hd2).mono ?_
 rintro e w3 ⟨rfl,hb3⟩
 have hd3:=btn hd2 hb3
 have hz3:=btn hz2 hb3
 clear HK
 go_wp2_with fail
 have kz:=hz3.drew
 have kw:=hd3.drew
 refine region_nrm fun KK hKK=>?_
 refine wp_region_held_drew (S:=(fun W=>Blk W w.heap.size 38 E)) (by kernel_rfl) (by first | exact HX.out _ kz) (fun hHeld=>?_)
 refine puA 0 19 (HX.out _ kz) ?_
 refine puA 1 20 (HX.out _ kz) ?_
 refine puR 2 fun K hK=>?_
 go_simp
 refine(GS.out _).mono ?_
 rintro e W1 ⟨rfl,rfl⟩
 refine hK.out _ _ (HX.out _ kz) fun hHeld=>?_
 clear hK K
 refine puB 3 22 ((.bool true)) (HX.out _ kz) ?_
 refine puA 4 23 (HX.out _ kz) ?_
 refine puA 5 24 (HX.out _ kz) ?_
 refine puA 6 25 (HX.out _ kz) ?_
 refine puB 7 26 ((.bool true)) (HX.out _ kz) ?_
 refine puB 8 27 ((.bool true)) (HX.out _ kz) ?_
 refine puB 9 28 (.agg E) (HX.out _ kz) ?_ (hy:=fun W hS=>run_load_blk 38 _ rfl w.heap.size rfl 38 _ _ hS Tryz.underlying38 rfl HI.out)
 refine puB 11 30 (.agg E) (HX.out _ kz) ?_ (hy:=fun W hS=>run_load_blk 38 _ rfl w.heap.size rfl 38 _ _ hS Tryz.underlying38 rfl HI.out)
 refine puR 10 fun K hK=>?_
 go_simp
 refine(GF.out _ kw).mono ?_
 rintro e W2 ⟨rfl,hb'⟩
 have kz:=btn kz hb'
 have kw:=btn kw hb'
 clear hb'
 refine hK.out _ _ (HX.out _ kz) fun hHeld=>?_
 clear hK K
 refine puR 12 fun K hK=>?_
 go_simp
 refine(GG.out _ kw).mono ?_
 rintro e W3 ⟨rfl,hb'⟩
 have kz:=btn kz hb'
 have kw:=btn kw hb'
 clear hb'
 refine hK.out _ _ (HX.out _ kz) fun hHeld=>?_
 clear hK K
 refine puA 13 32 (HX.out _ kz) ?_
 refine puA 14 33 (HX.out _ kz) ?_
 refine puA 15 2 (HX.out _ kz) ?_
 refine wpAnyH_done (by kernel_rfl) ?_ _
 refine Nrm.out (hKK _ _ ?_)
 go_wp2
 go_ret
 exact⟨rfl,kw⟩
theorem entryEncodes_yes (x:Ent) (u:EV) (L:List (ZV×Zn)) (M:List (BV×Wq.Bd)) (S:List (SV×Sb)) (w:World) (hT:Tab w) (hE:EntRd w w.heap.size u x L M S) (hc:Wq.EntC x)
  (hs1:u.nv.n1+u.nv.n2+u.nv.n3+u.nv.n4≤9223372036854775807) (hs2:x.view.known.length+x.view.zones.length+x.view.held.length+x.view.bods.length≤9223372036854775807) (hf:entF x=true):
  Calls Tryz.prog 3 #[.agg (eval x u)] w fun e w'=>e=.returned (.bool true)∧Below w.heap.size w w':=by
 have GA:=Hz_ fun (W:World) (hb:Below w.heap.size w W)=>aliveEn_any W (hT.below hb)
 have GF:=fun (W:World) (hb:Below w.heap.size w W)=>entFormed_any u x L M S W (hT.below hb) (hE.go hb) hc.b hs1 hs2
 have GG:=fun (W:World) (hb:Below w.heap.size w W)=>refEntFormed_any u x L M S W (hE.go hb)
 have GE:=fun (W:World) (hb:Below w.heap.size w W)=>entEncode_any u x L M S W (hT.below hb) (hE.go hb) hc hs1 hs2 hf
 have GR:=fun (W:World) (hb:Below w.heap.size w W)=>refEncode_any u x L M S W (hE.go hb) hc hf
 unfold BytesAre at GE GR
 obtain⟨bs,hbs⟩:∃y,y=lEnt x:=⟨_,rfl⟩
 rw[←hbs] at GE GR
 have GS:=fun (W:World) (A D:Option Addr) (a d:Nat) (h1:Rd W W.heap.size 1 A bs.length a (bv bs)) (h2:Rd W W.heap.size 1 D bs.length d (bv bs))=>(sameB_any A D bs.length a bs.length d W.heap.size W.heap.size bs bs W h1 h2).mono fun e W' (h:e=.returned (.bool (bs == bs))∧W=W')=>(show e=.returned (.bool true)∧W=W' from ⟨by rw[h.1,beq_self_eq_true],h.2⟩)
 clear hbs
 rw[hf] at GF GG
 obtain⟨k_,nt,⟨bo,⟨ba,bb⟩,bvx⟩,fr,it,⟨known,zones,held,bods,rm⟩,subs⟩:=x
 obtain⟨⟨A1,n1,c1,A2,n2,c2,A3,n3,c3,A4,n4,c4⟩,bA,bc,iA,ic,⟨kA,kc,zA,zc,hA,hc_,vA,vc⟩,sA,sc⟩:=u
 unfold eval at GE GR GF GG ⊢
 dsimp only at GE GR GF GG ⊢
 clear hf hT hE hc hs1 hs2
 generalize bvx.length=nv at GE GR GF GG ⊢
 generalize it.length=ni at GE GR GF GG ⊢
 generalize known.length=nk at GE GR GF GG ⊢
 generalize zones.length=nz at GE GR GF GG ⊢
 generalize held.length=nh at GE GR GF GG ⊢
 generalize bods.length=nb at GE GR GF GG ⊢
 generalize subs.length=ns at GE GR GF GG ⊢
 obtain⟨E,hEq⟩:∃E:Array Value,E=#[.int .i64 k_,.slice A1 n1 c1,.slice A2 n2 c2,.slice A3 n3 c3,.slice A4 n4 c4,.int .i64 bo,.int .i64 ba,.int .i64 bb,.slice bA nv bc,.int .i64 fr,.slice iA ni ic,.slice kA nk kc,.slice zA nz zc,.slice hA nh hc_,.slice vA nb vc,.int .i64 rm,.slice sA ns sc]:=⟨_,rfl⟩
 rw[←hEq] at GE GR GF GG ⊢
 have GE:=Hz_ GE
 have GR:=Hz_ GR
 have GF:=Hz_ GF
 have GG:=Hz_ GG
 have GS:=Hz_ GS
 have HQ:=Hz_ hEq.symm
 have HI:=Hz_ (show (Tryz.prog.info? 38).map (·.size)=some E.size from by rw[hEq];kernel_rfl)
 clear hEq
 have hb0:Below w.heap.size w (w.alloc (.cells E 38)):=(Below.refl _ _).alloc (Nat.le_refl _) _
 have HX0:=Blk.new w 38 E
 obtain⟨W0,hW0⟩:∃W0,W0=w.alloc (.cells E 38):=⟨_,rfl⟩
 rw[←hW0] at hb0 HX0
 have HW:=Hz_ hW0.symm
 have HB:=Hz_ hb0
 have HX:=Hz_ fun W (hb:Below W0.heap.size W0 W)=>HX0.go hb
 clear hb0 HX0 hW0
 go_enter Tryz.func3,Tryz.ntmps3
 go_wp2_with fail
 rw[HW.out]
 refine(GA.out _ HB.out).mono ?_
 rintro e w1 ⟨rfl,hb1⟩
 have hd1:=btn HB.out hb1
 have HK:=Hz_ (HX.out _ hb1)
 go_wp2_with (refine wpList_load_row rfl 38 _ rfl w.heap.size rfl 38 _ _ _ HK.out Tryz.underlying38 rfl HI.out ?_)
 refine(GE.out _ hd1).mono ?_
 rintro e w2 ⟨_,rfl,D2,d2,rfl,ho2,hb2⟩
 have hd2:=btn hd1 hb2
 have hz2:=btn hb1 hb2
 clear HK
 have HK:=Hz_ (HX.out _ hz2)
 go_wp2_with (refine wpList_load_row rfl 38 _ rfl w.heap.size rfl 38 _ _ _ HK.out Tryz.underlying38 rfl HI.out ?_)
 refine(GR.out _ hd2).mono ?_
 rintro e w3 ⟨_,rfl,D3,d3,rfl,ho3,hb3⟩
 have hd3:=btn hd2 hb3
 have hz3:=btn hz2 hb3
 clear HK
 go_wp2_with fail
 have h2:=(Rd.of_own ho2).go hb3
 have h3:=Rd.of_own ho3
 have GS1:=Hz_ (GS.out w3.drew D2 D3 d2 d3 h2.drew h3.drew)
 have kz:=hz3.drew
 have kw:=hd3.drew
 refine region_nrm fun KK hKK=>?_
 refine wp_region_held_drew (S:=(fun W=>Blk W w.heap.size 38 E)) (by kernel_rfl) (by first | exact HX.out _ kz) (fun hHeld=>?_)
 refine puA 0 19 (HX.out _ kz) ?_
 refine puA 1 20 (HX.out _ kz) ?_
 refine puR 2 fun K hK=>?_
 go_simp
 refine(GS1.out).mono ?_
 rintro e W1 ⟨rfl,rfl⟩
 refine hK.out _ _ (HX.out _ kz) fun hHeld=>?_
 clear hK K
 refine puB 3 22 ((.bool true)) (HX.out _ kz) ?_
 refine puA 4 23 (HX.out _ kz) ?_
 refine puA 5 24 (HX.out _ kz) ?_
 refine puA 6 25 (HX.out _ kz) ?_
 refine puB 7 26 ((.bool true)) (HX.out _ kz) ?_
 refine puB 8 27 ((.bool true)) (HX.out _ kz) ?_
 refine puB 9 28 (.agg E) (HX.out _ kz) ?_ (hy:=fun W hS=>run_load_blk 38 _ rfl w.heap.size rfl 38 _ _ hS Tryz.underlying38 rfl HI.out)
 refine puB 11 30 (.agg E) (HX.out _ kz) ?_ (hy:=fun W hS=>run_load_blk 38 _ rfl w.heap.size rfl 38 _ _ hS Tryz.underlying38 rfl HI.out)
 refine puR 10 fun K hK=>?_
 go_simp
 refine(GF.out _ kw).mono ?_
 rintro e W2 ⟨rfl,hb'⟩
 have kz:=btn kz hb'
 have kw:=btn kw hb'
 clear hb'
 refine hK.out _ _ (HX.out _ kz) fun hHeld=>?_
 clear hK K
 refine puR 12 fun K hK=>?_
 go_simp
 refine(GG.out _ kw).mono ?_
 rintro e W3 ⟨rfl,hb'⟩
 have kz:=btn kz hb'
 have kw:=btn kw hb'
 clear hb'
 refine hK.out _ _ (HX.out _ kz) fun hHeld=>?_
 clear hK K
 refine puA 13 32 (HX.out _ kz) ?_
 refine puA 14 33 (HX.out _ kz) ?_
 refine puA 15 2 (HX.out _ kz) ?_
 refine wpAnyH_done (by kernel_rfl) ?_ _
 refine Nrm.out (hKK _ _ ?_)
 go_wp2
 go_ret
 exact⟨rfl,kw⟩
theorem entryEncodes_walk (x:Ent) (u:EV) (L:List (ZV×Zn)) (M:List (BV×Wq.Bd)) (S:List (SV×Sb)) (w:World) (hT:Tab w) (hE:EntRd w w.heap.size u x L M S) (hc:Wq.EntC x)
  (hs1:u.nv.n1+u.nv.n2+u.nv.n3+u.nv.n4≤9223372036854775807) (hs2:x.view.known.length+x.view.zones.length+x.view.held.length+x.view.bods.length≤9223372036854775807):
  Calls Tryz.prog 3 #[.agg (eval x u)] w fun e w'=>e=.returned (.bool true)∧Below w.heap.size w w':=by
 rcases hf:entF x with _ | _
 ·exact entryEncodes_no x u L M S w hT hE hc hs1 hs2 hf
 ·exact entryEncodes_yes x u L M S w hT hE hc hs1 hs2 hf
theorem own:ownKnob Tryz.prog.godebug=none:=by kernel_rfl
theorem laidOut:laidOutB Tryz.prog=true:=by kernel_rfl
section
variable {H:Type}
end
end Go.Proofs.YtmbeahbgafkjfaaGreatDoor
