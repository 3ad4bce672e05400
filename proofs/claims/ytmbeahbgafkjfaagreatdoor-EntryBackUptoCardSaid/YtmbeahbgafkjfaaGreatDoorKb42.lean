/- Lemmas for the claim, layer 42. -/
import Derived.Deep.DeepCutAuto
import Derived.Test.YtmbeahbgafkjfaaGreatDoorKb41
set_option maxRecDepth 100000
set_option linter.unusedSimpArgs false
set_option maxHeartbeats 16000000
namespace Go.Proofs.YtmbeahbgafkjfaaGreatDoor
open Go.RowKit
theorem takeNote_any (g:Nat) {B:Nat} (l:List UInt8) (w:World) (hTb:Tab w) (h:TR w g B l):
  Calls Tryz.prog 49 #[.pointer (some ⟨g,0,none⟩),.func (.func 50) #[] #[]] w fun e w'=>TkP Wq.pNt w g B l (fun x e w'=>∃v:NV,e=.returned (.agg v.val)∧NtOwn w' w.heap.size v x) e w':=by
 obtain⟨⟨A,c,hB,hR⟩,hle,hl⟩:=h
 have hlt:=hB.lt
 have hb0:Below w.heap.size w (w.alloc (.cells #[.slice none 0 0,.slice none 0 0,.slice none 0 0,.slice none 0 0] 26)):=(Below.refl _ _).alloc (Nat.le_refl _) _
 have hR0:=Blk.new w 26 #[.slice none 0 0,.slice none 0 0,.slice none 0 0,.slice none 0 0]
 have hbg:=hb0.mono (show B≤w.heap.size by omega)
 obtain⟨W0,hW0⟩:∃W0,W0=w.alloc (.cells #[.slice none 0 0,.slice none 0 0,.slice none 0 0,.slice none 0 0] 26):=⟨_,rfl⟩
 have hs0:W0.heap.size=w.heap.size+1:=by rw[hW0];simp
 rw[←hW0] at hb0 hR0 hbg
 have H1:=wireNote_any A l.length c l W0 (hTb.below hb0) rfl ((hR.below hbg).more (by omega)) (by omega)
 have hB0:=hB.go hb0
 have c0:=hB0.cell 0
 have HW0:=Hz_ hW0.symm
 rcases hp:Wq.pNt l with _ | ⟨x,r⟩
 ·obtain⟨e1,e2,e3⟩:=g_no (d:=(⟨[],[],[],[]⟩:Nt)) hp
  rw[e1,e2,e3] at H1
  have G1:=Hz_ H1
  have HP:=Hz_ hp
  have HBB:=Hz_ hb0
  generalize l.length=n at *
  clear H1 hR hp hB hB0 e1 e2 e3 hR0 hb0 hW0 hbg
  go_enter Tryz.func49,Tryz.ntmps49
  go_upto_region 1 with fail
  rw[HW0.out]
  go_wp2_with fail
  refine G1.out.mono ?_
  rintro e w1 ⟨v,rfl,hno,hb1⟩
  obtain⟨A1,n1,c1,A2,n2,c2,A3,n3,c3,A4,n4,c4⟩:=v
  clear hno
  have hbX:Below w1.heap.size w1 (w1.alloc (.cells #[.slice A1 n1 c1,.slice A2 n2 c2,.slice A3 n3 c3,.slice A4 n4 c4] 26)):=(Below.refl _ _).alloc (Nat.le_refl _) _
  have HK:=Hz_ (below_then (btn HBB.out hb1) (Nat.le_refl _) hbX)
  clear hbX hb1
  go_wp2
  exact⟨rfl,.inl ⟨HP.out,rfl,But.of (HK.out.mono (by omega))⟩⟩
 ·obtain⟨e1,e2,e3⟩:=g_yes (d:=(⟨[],[],[],[]⟩:Nt)) hp
  obtain⟨d1,d2⟩:=drop_back (Wq.pNt_back hp).1
  rw[e1,e2,e3] at H1
  obtain⟨k,hk⟩:∃k,k=l.length - r.length:=⟨_,rfl⟩
  rw[←hk] at H1 d1
  have G1:=Hz_ H1
  have HP:=Hz_ hp
  have HB:=Hz_ hB0
  have hkl:k≤l.length:=by omega
  have hs:=fun W=>run_from (P:=Tryz.prog) W 29 5 1 Tryz.underlying29 size_u8 A l.length c .i64 k k rfl hkl
  have HR:=Hz_ (bv_from hR hkl)
  have HD:=Hz_ d1
  have HL:=Hz_ (show r.length=l.length - k by omega)
  obtain⟨n,hn⟩:∃n,n=l.length:=⟨_,rfl⟩
  rw[←hn] at hs HR HL HB G1 c0 hl
  have HR0:=Hz_ hR0
  have HBB:=Hz_ hb0
  generalize cutAt 1 A c k=A9 at hs HR
  generalize c - k=c9 at hs HR
  obtain⟨n9,hn9⟩:∃m,m=n - k:=⟨_,rfl⟩
  rw[←hn9] at hs HR HL
  have hr32:r.length≤4294967296:=by omega
  clear H1 hR hp hB hB0 e1 e2 e3 hR0 hb0 hW0 hbg d1 d2 hk hn hn9 hkl
  go_enter Tryz.func49,Tryz.ntmps49
  go_upto_region 1 with fail
  rw[HW0.out]
  go_wp2_with fail
  refine G1.out.mono ?_
  rintro e w1 ⟨v,rfl,hno,hb1⟩
  obtain⟨A1,n1,c1,A2,n2,c2,A3,n3,c3,A4,n4,c4⟩:=v
  have hs1:=hb1.size
  have hbX:Below w1.heap.size w1 (w1.alloc (.cells #[.slice A1 n1 c1,.slice A2 n2 c2,.slice A3 n3 c3,.slice A4 n4 c4] 26)):=(Below.refl _ _).alloc (Nat.le_refl _) _
  have hX:=Blk.new w1 26 #[.slice A1 n1 c1,.slice A2 n2 c2,.slice A3 n3 c3,.slice A4 n4 c4]
  have hB1:=(HB.out.go hb1).go hbX
  have hR1:=(HR0.out.go hb1).go hbX
  obtain⟨W2,hW2⟩:∃W2,W2=w1.alloc (.cells #[.slice A1 n1 c1,.slice A2 n2 c2,.slice A3 n3 c3,.slice A4 n4 c4] 26):=⟨_,rfl⟩
  have hs2:W2.heap.size=w1.heap.size+1:=by rw[hW2];simp
  have HW2:=Hz_ hW2.symm
  rw[←hW2] at hbX hX hB1 hR1
  have b0:=hB1.cell 0
  have f0:=hB1.frozen 0
  clear c0 hW2
  go_upto_region 2 with fail
  rw[HW2.out]
  go_upto_region 5 with fail
  obtain⟨W3,hW3⟩:∃W3,W3=W2.setCell ⟨g,0,none⟩ (.slice A9 n9 c9):=⟨_,rfl⟩
  have hu3:But g W2 W3:=by rw[hW3];exact But.set_ W2 (p:=⟨g,0,none⟩) rfl _
  have hs3:=hu3.size
  have hB3:Blk W3 g 86 #[.slice A9 n9 c9]:=by rw[hW3];exact hB1.set_ 0 _
  have HW3:=Hz_ hW3.symm
  have hX3:=hX.but hu3 (by omega)
  have hR3:=hR1.but hu3 (by omega)
  obtain⟨x0,x1,x2,x3⟩:=hX3.four
  obtain⟨z0,z1,z2,z3⟩:=hR3.four
  have y0:=hR3.frozen 0
  have y1:=hR3.frozen 1
  have y2:=hR3.frozen 2
  have y3:=hR3.frozen 3
  clear hX hR1 hB1 b0 f0 hW3
  rw[HW3.out]
  go_wp2
  have hF:=(((hR3.set_ 0 (.slice A1 n1 c1)).set_ 1 (.slice A2 n2 c2)).set_ 2 (.slice A3 n3 c3)).set_ 3 (.slice A4 n4 c4)
  have hu:But w.heap.size W3 ((((W3.setCell ⟨w.heap.size,0,none⟩ (.slice A1 n1 c1)).setCell ⟨w.heap.size,1,none⟩ (.slice A2 n2 c2)).setCell ⟨w.heap.size,2,none⟩ (.slice A3 n3 c3)).setCell ⟨w.heap.size,3,none⟩ (.slice A4 n4 c4)):=
   (((But.set_ (g:=w.heap.size) _ (p:=⟨w.heap.size,0,none⟩) rfl _).trans (But.set_ (g:=w.heap.size) _ (p:=⟨w.heap.size,1,none⟩) rfl _)).trans (But.set_ (g:=w.heap.size) _ (p:=⟨w.heap.size,2,none⟩) rfl _)).trans (But.set_ (g:=w.heap.size) _ (p:=⟨w.heap.size,3,none⟩) rfl _)
  have hbw:=below_then (below_then HBB.out (by omega) hb1) (by omega) hbX
  have hbut:But g w _:=((But.of (hbw.mono (by omega))).trans hu3).below ((((Below.refl w.heap.size W3).setCell (p:=⟨w.heap.size,0,none⟩) (Nat.le_refl _) (.slice A1 n1 c1)).setCell (p:=⟨w.heap.size,1,none⟩) (Nat.le_refl _) (.slice A2 n2 c2)).setCell (p:=⟨w.heap.size,2,none⟩) (Nat.le_refl _) (.slice A3 n3 c3) |>.setCell (p:=⟨w.heap.size,3,none⟩) (Nat.le_refl _) (.slice A4 n4 c4))
  have h2:=HR.out
  rw[HD.out] at h2
  have hl2:=HL.out
  have h3:=(((((h2.below (HBB.out.mono (by omega))).below (hb1.mono (by omega))).below (hbX.mono (by omega))).but hu3 (by omega) hle))
  rw[←hl2] at h3 hB3
  have hP3:TR W3 g B r:=⟨⟨_,_,hB3,h3⟩,hle,hr32⟩
  refine bodyPost_ret (results_cell_row rfl _ _ w.heap.size 26 _ _ _ rfl hF Tryz.underlying26 rfl (by kernel_rfl)) rfl (.inr ⟨x,r,HP.out,⟨⟨A1,n1,c1,A2,n2,c2,A3,n3,c3,A4,n4,c4⟩,rfl,(((hno.below hbX).but hu3 (by omega)).but hu (by omega)).less (by omega)⟩,hP3.but hu (by omega) (by omega),hbut⟩)
theorem takeBody_any (g:Nat) {B:Nat} (l:List UInt8) (w:World) (h:TR w g B l):
  Calls Tryz.prog 51 #[.pointer (some ⟨g,0,none⟩),.func (.func 52) #[] #[]] w fun e w'=>TkP Wq.pB w g B l (fun x e w'=>∃A' c',e=.returned (.agg (bval x A' c'))∧w'.ownsRow w.heap.size 5 1 (.slice A' x.v.length c') x.v.length (bv x.v)) e w':=by
 obtain⟨⟨A,c,hB,hR⟩,hle,hl⟩:=h
 have hlt:=hB.lt
 have hb0:Below w.heap.size w (w.alloc (.cells #[.int .i64 0,.int .i64 0,.int .i64 0,.slice none 0 0] 31)):=(Below.refl _ _).alloc (Nat.le_refl _) _
 have hR0:=Blk.new w 31 #[.int .i64 0,.int .i64 0,.int .i64 0,.slice none 0 0]
 have hbg:=hb0.mono (show B≤w.heap.size by omega)
 obtain⟨W0,hW0⟩:∃W0,W0=w.alloc (.cells #[.int .i64 0,.int .i64 0,.int .i64 0,.slice none 0 0] 31):=⟨_,rfl⟩
 have hs0:W0.heap.size=w.heap.size+1:=by rw[hW0];simp
 rw[←hW0] at hb0 hR0 hbg
 have H1:=wireBody_any A l.length c l W0 rfl ((hR.below hbg).more (by omega)) (by omega)
 have hB0:=hB.go hb0
 have c0:=hB0.cell 0
 have HW0:=Hz_ hW0.symm
 rcases hp:Wq.pB l with _ | ⟨x,r⟩
 ·obtain⟨e1,e2,e3⟩:=g_no (d:=Wq.bd0) hp
  rw[e1,e2,e3] at H1
  have G1:=Hz_ H1
  have HP:=Hz_ hp
  have HBB:=Hz_ hb0
  generalize l.length=n at *
  clear H1 hR hp hB hB0 e1 e2 e3 hR0 hb0 hW0 hbg
  go_enter Tryz.func51,Tryz.ntmps51
  go_upto_region 1 with fail
  rw[HW0.out]
  go_wp2_with fail
  refine G1.out.mono ?_
  rintro e w1 ⟨A4,c4,rfl,hno,hb1⟩
  unfold bval
  obtain⟨bo,hbo⟩:∃z:Int,z=Wq.bd0.o:=⟨_,rfl⟩
  obtain⟨ba,hba⟩:∃z:Int,z=Wq.bd0.s.1:=⟨_,rfl⟩
  obtain⟨bb,hbb⟩:∃z:Int,z=Wq.bd0.s.2:=⟨_,rfl⟩
  obtain⟨n4,hn4⟩:∃z:Nat,z=Wq.bd0.v.length:=⟨_,rfl⟩
  rw[←hbo,←hba,←hbb,←hn4]
  clear hbo hba hbb hn4
  clear hno
  have hbX:Below w1.heap.size w1 (w1.alloc (.cells #[.int .i64 bo,.int .i64 ba,.int .i64 bb,.slice A4 n4 c4] 31)):=(Below.refl _ _).alloc (Nat.le_refl _) _
  have HK:=Hz_ (below_then (btn HBB.out hb1) (Nat.le_refl _) hbX)
  clear hbX hb1
  go_wp2
  exact⟨rfl,.inl ⟨HP.out,rfl,But.of (HK.out.mono (by omega))⟩⟩
 ·obtain⟨e1,e2,e3⟩:=g_yes (d:=Wq.bd0) hp
  obtain⟨bo,⟨ba,bb⟩,bvx⟩:=x
  obtain⟨d1,d2⟩:=drop_back (Wq.pB_back hp).1
  rw[e1,e2,e3] at H1
  obtain⟨k,hk⟩:∃k,k=l.length - r.length:=⟨_,rfl⟩
  rw[←hk] at H1 d1
  have G1:=Hz_ H1
  have HP:=Hz_ hp
  have HB:=Hz_ hB0
  have hkl:k≤l.length:=by omega
  have hs:=fun W=>run_from (P:=Tryz.prog) W 29 5 1 Tryz.underlying29 size_u8 A l.length c .i64 k k rfl hkl
  have HR:=Hz_ (bv_from hR hkl)
  have HD:=Hz_ d1
  have HL:=Hz_ (show r.length=l.length - k by omega)
  obtain⟨n,hn⟩:∃n,n=l.length:=⟨_,rfl⟩
  rw[←hn] at hs HR HL HB G1 c0 hl
  have HR0:=Hz_ hR0
  have HBB:=Hz_ hb0
  generalize cutAt 1 A c k=A9 at hs HR
  generalize c - k=c9 at hs HR
  obtain⟨n9,hn9⟩:∃m,m=n - k:=⟨_,rfl⟩
  rw[←hn9] at hs HR HL
  have hr32:r.length≤4294967296:=by omega
  clear H1 hR hp hB hB0 e1 e2 e3 hR0 hb0 hW0 hbg d1 d2 hk hn hn9 hkl
  go_enter Tryz.func51,Tryz.ntmps51
  go_upto_region 1 with fail
  rw[HW0.out]
  go_wp2_with fail
  refine G1.out.mono ?_
  rintro e w1 ⟨A4,c4,rfl,hno,hb1⟩
  try dsimp only at hno
  unfold bval
  try dsimp only
  obtain⟨n4,hn4⟩:∃z:Nat,z=bvx.length:=⟨_,rfl⟩
  rw[←hn4] at hno ⊢
  have HN4:=Hz_ hn4
  clear hn4
  have hs1:=hb1.size
  have hbX:Below w1.heap.size w1 (w1.alloc (.cells #[.int .i64 bo,.int .i64 ba,.int .i64 bb,.slice A4 n4 c4] 31)):=(Below.refl _ _).alloc (Nat.le_refl _) _
  have hX:=Blk.new w1 31 #[.int .i64 bo,.int .i64 ba,.int .i64 bb,.slice A4 n4 c4]
  have hB1:=(HB.out.go hb1).go hbX
  have hR1:=(HR0.out.go hb1).go hbX
  obtain⟨W2,hW2⟩:∃W2,W2=w1.alloc (.cells #[.int .i64 bo,.int .i64 ba,.int .i64 bb,.slice A4 n4 c4] 31):=⟨_,rfl⟩
  have hs2:W2.heap.size=w1.heap.size+1:=by rw[hW2];simp
  have HW2:=Hz_ hW2.symm
  rw[←hW2] at hbX hX hB1 hR1
  have b0:=hB1.cell 0
  have f0:=hB1.frozen 0
  clear c0 hW2
  go_upto_region 2 with fail
  rw[HW2.out]
  go_upto_region 5 with fail
  obtain⟨W3,hW3⟩:∃W3,W3=W2.setCell ⟨g,0,none⟩ (.slice A9 n9 c9):=⟨_,rfl⟩
  have hu3:But g W2 W3:=by rw[hW3];exact But.set_ W2 (p:=⟨g,0,none⟩) rfl _
  have hs3:=hu3.size
  have hB3:Blk W3 g 86 #[.slice A9 n9 c9]:=by rw[hW3];exact hB1.set_ 0 _
  have HW3:=Hz_ hW3.symm
  have hX3:=hX.but hu3 (by omega)
  have hR3:=hR1.but hu3 (by omega)
  obtain⟨x0,x1,x2,x3⟩:=hX3.four
  obtain⟨z0,z1,z2,z3⟩:=hR3.four
  have y0:=hR3.frozen 0
  have y1:=hR3.frozen 1
  have y2:=hR3.frozen 2
  have y3:=hR3.frozen 3
  clear hX hR1 hB1 b0 f0 hW3
  rw[HW3.out]
  go_wp2
  have hF:=(((hR3.set_ 0 (.int .i64 bo)).set_ 1 (.int .i64 ba)).set_ 2 (.int .i64 bb)).set_ 3 (.slice A4 n4 c4)
  have hu:But w.heap.size W3 ((((W3.setCell ⟨w.heap.size,0,none⟩ (.int .i64 bo)).setCell ⟨w.heap.size,1,none⟩ (.int .i64 ba)).setCell ⟨w.heap.size,2,none⟩ (.int .i64 bb)).setCell ⟨w.heap.size,3,none⟩ (.slice A4 n4 c4)):=
   (((But.set_ (g:=w.heap.size) _ (p:=⟨w.heap.size,0,none⟩) rfl _).trans (But.set_ (g:=w.heap.size) _ (p:=⟨w.heap.size,1,none⟩) rfl _)).trans (But.set_ (g:=w.heap.size) _ (p:=⟨w.heap.size,2,none⟩) rfl _)).trans (But.set_ (g:=w.heap.size) _ (p:=⟨w.heap.size,3,none⟩) rfl _)
  have hbw:=below_then (below_then HBB.out (by omega) hb1) (by omega) hbX
  have hbut:But g w _:=((But.of (hbw.mono (by omega))).trans hu3).below ((((Below.refl w.heap.size W3).setCell (p:=⟨w.heap.size,0,none⟩) (Nat.le_refl _) (.int .i64 bo)).setCell (p:=⟨w.heap.size,1,none⟩) (Nat.le_refl _) (.int .i64 ba)).setCell (p:=⟨w.heap.size,2,none⟩) (Nat.le_refl _) (.int .i64 bb) |>.setCell (p:=⟨w.heap.size,3,none⟩) (Nat.le_refl _) (.slice A4 n4 c4))
  have h2:=HR.out
  rw[HD.out] at h2
  have hl2:=HL.out
  have h3:=(((((h2.below (HBB.out.mono (by omega))).below (hb1.mono (by omega))).below (hbX.mono (by omega))).but hu3 (by omega) hle))
  rw[←hl2] at h3 hB3
  have hP3:TR W3 g B r:=⟨⟨_,_,hB3,h3⟩,hle,hr32⟩
  refine bodyPost_ret (results_cell_row rfl _ _ w.heap.size 31 _ _ _ rfl hF Tryz.underlying31 rfl (by kernel_rfl)) rfl (.inr ⟨⟨bo,(ba,bb),bvx⟩,r,HP.out,⟨A4,c4,by unfold bval;dsimp only;rw[←HN4.out];rfl,by dsimp only;rw[←HN4.out];exact own_less (own_but (own_but (own_below hno hbX (Nat.le_refl _)) hu3 (by omega)) hu (by omega)) (by omega)⟩,hP3.but hu (by omega) (by omega),hbut⟩)
theorem takeSet_any (g:Nat) {B:Nat} (l:List UInt8) (w:World) (h:TR w g B l):
  Calls Tryz.prog 53 #[.pointer (some ⟨g,0,none⟩),.func (.func 54) #[] #[]] w fun e w'=>TkP Wq.pS w g B l (fun x e w'=>∃A' c',e=.returned (.slice A' x.length c')∧w'.ownsRow w.heap.size 63 2 (.slice A' x.length c') x.length (sv x)) e w':=by
 obtain⟨⟨A,c,hB,hR⟩,hle,hl⟩:=h
 have hlt:=hB.lt
 have H1:=wireSet_g A l.length c l w rfl (hR.more (by omega)) (by omega)
 have c0:=hB.cell 0
 have f0:=hB.frozen 0
 rcases hp:Wq.pS l with _ | ⟨x,r⟩
 ·obtain⟨e1,e2,e3⟩:=g_no (d:=[]) hp
  rw[e1,e2,e3] at H1
  have G1:=Hz_ H1
  have HP:=Hz_ hp
  generalize l.length=n at *
  clear H1 hR hp hB e1 e2 e3
  go_enter Tryz.func53,Tryz.ntmps53
  go_wp2_with fail
  refine G1.out.mono ?_
  rintro e w1 ⟨A4,c4,rfl,-,hb1⟩
  have HK:=Hz_ hb1
  clear hb1
  go_wp2
  exact⟨rfl,.inl ⟨HP.out,rfl,But.of HK.out⟩⟩
 ·obtain⟨e1,e2,e3⟩:=g_yes (d:=[]) hp
  obtain⟨d1,d2⟩:=drop_back (Wq.pS_back hp).1
  rw[e1,e2,e3] at H1
  obtain⟨k,hk⟩:∃k,k=l.length - r.length:=⟨_,rfl⟩
  rw[←hk] at H1 d1
  obtain⟨m4,hm4⟩:∃m,m=x.length:=⟨_,rfl⟩
  rw[←hm4] at H1
  have HM4:=Hz_ hm4
  have G1:=Hz_ H1
  have HP:=Hz_ hp
  have HB:=Hz_ hB
  have hkl:k≤l.length:=by omega
  have hs:=fun W=>run_from (P:=Tryz.prog) W 29 5 1 Tryz.underlying29 size_u8 A l.length c .i64 k k rfl hkl
  have HR:=Hz_ (bv_from hR hkl)
  have HD:=Hz_ d1
  have HL:=Hz_ (show r.length=l.length - k by omega)
  obtain⟨n,hn⟩:∃n,n=l.length:=⟨_,rfl⟩
  rw[←hn] at hs HR HL HB G1 c0 hl
  generalize cutAt 1 A c k=A9 at hs HR
  generalize c - k=c9 at hs HR
  obtain⟨n9,hn9⟩:∃m,m=n - k:=⟨_,rfl⟩
  rw[←hn9] at hs HR HL
  have hr32:r.length≤4294967296:=by omega
  clear H1 hR hp hB e1 e2 e3 d1 d2 hk hn hn9 hkl hm4 f0
  go_enter Tryz.func53,Tryz.ntmps53
  go_wp2_with fail
  refine G1.out.mono ?_
  rintro e w1 ⟨A4,c4,rfl,hno,hb1⟩
  have hB1:=HB.out.go hb1
  have HB1:=Hz_ hB1
  have b0:=hB1.cell 0
  have f0:=hB1.frozen 0
  have HNO:=Hz_ hno
  have HK:=Hz_ hb1
  clear c0 hB1 hno hb1
  go_wp2
  go_ret
  have hu:=But.set_ w1 (p:=⟨g,0,none⟩) (g:=g) rfl (.slice A9 n9 c9)
  have h2:=HR.out
  rw[HD.out] at h2
  have hl2:=HL.out
  have hB3:=HB1.out.set_ 0 (.slice A9 n9 c9)
  have h3:=(h2.below (HK.out.mono (by omega))).but hu (by have:=HB1.out.lt;omega) hle
  refine .inr ⟨x,r,HP.out,⟨A4,c4,by rw[←HM4.out];rfl,by rw[←HM4.out];exact own_but HNO.out hu hlt⟩,⟨⟨A9,c9,by rw[hl2];exact hB3,by rw[hl2];exact h3⟩,hle,hr32⟩,(But.of HK.out).trans hu⟩
theorem takeVec_any (g:Nat) {B:Nat} (l:List UInt8) (w:World) (h:TR w g B l):
  Calls Tryz.prog 132 #[.pointer (some ⟨g,0,none⟩),.func (.func 122) #[] #[]] w fun e w'=>TkP Wq.pV w g B l (fun x e w'=>∃A' c',e=.returned (.slice A' x.length c')∧w'.ownsRow w.heap.size 28 2 (.slice A' x.length c') x.length (sv x)) e w':=by
 obtain⟨⟨A,c,hB,hR⟩,hle,hl⟩:=h
 have hlt:=hB.lt
 have H1:=wireVec_any A l.length c l w rfl (hR.more (by omega)) (by omega)
 have c0:=hB.cell 0
 have f0:=hB.frozen 0
 rcases hp:Wq.pV l with _ | ⟨x,r⟩
 ·obtain⟨e1,e2,e3⟩:=g_no (d:=[]) hp
  rw[e1,e2,e3] at H1
  have G1:=Hz_ H1
  have HP:=Hz_ hp
  generalize l.length=n at *
  clear H1 hR hp hB e1 e2 e3
  go_enter Tryz.func132,Tryz.ntmps132
  go_wp2_with fail
  refine G1.out.mono ?_
  rintro e w1 ⟨A4,c4,rfl,-,hb1⟩
  have HK:=Hz_ hb1
  clear hb1
  go_wp2
  exact⟨rfl,.inl ⟨HP.out,rfl,But.of HK.out⟩⟩
 ·obtain⟨e1,e2,e3⟩:=g_yes (d:=[]) hp
  obtain⟨d1,d2⟩:=drop_back (Wq.pV_back hp).1
  rw[e1,e2,e3] at H1
  obtain⟨k,hk⟩:∃k,k=l.length - r.length:=⟨_,rfl⟩
  rw[←hk] at H1 d1
  obtain⟨m4,hm4⟩:∃m,m=x.length:=⟨_,rfl⟩
  rw[←hm4] at H1
  have HM4:=Hz_ hm4
  have G1:=Hz_ H1
  have HP:=Hz_ hp
  have HB:=Hz_ hB
  have hkl:k≤l.length:=by omega
  have hs:=fun W=>run_from (P:=Tryz.prog) W 29 5 1 Tryz.underlying29 size_u8 A l.length c .i64 k k rfl hkl
  have HR:=Hz_ (bv_from hR hkl)
  have HD:=Hz_ d1
  have HL:=Hz_ (show r.length=l.length - k by omega)
  obtain⟨n,hn⟩:∃n,n=l.length:=⟨_,rfl⟩
  rw[←hn] at hs HR HL HB G1 c0 hl
  generalize cutAt 1 A c k=A9 at hs HR
  generalize c - k=c9 at hs HR
  obtain⟨n9,hn9⟩:∃m,m=n - k:=⟨_,rfl⟩
  rw[←hn9] at hs HR HL
  have hr32:r.length≤4294967296:=by omega
  clear H1 hR hp hB e1 e2 e3 d1 d2 hk hn hn9 hkl hm4 f0
  go_enter Tryz.func132,Tryz.ntmps132
  go_wp2_with fail
  refine G1.out.mono ?_
  rintro e w1 ⟨A4,c4,rfl,hno,hb1⟩
  have hB1:=HB.out.go hb1
  have HB1:=Hz_ hB1
  have b0:=hB1.cell 0
  have f0:=hB1.frozen 0
  have HNO:=Hz_ hno
  have HK:=Hz_ hb1
  clear c0 hB1 hno hb1
  go_wp2
  go_ret
  have hu:=But.set_ w1 (p:=⟨g,0,none⟩) (g:=g) rfl (.slice A9 n9 c9)
  have h2:=HR.out
  rw[HD.out] at h2
  have hl2:=HL.out
  have hB3:=HB1.out.set_ 0 (.slice A9 n9 c9)
  have h3:=(h2.below (HK.out.mono (by omega))).but hu (by have:=HB1.out.lt;omega) hle
  refine .inr ⟨x,r,HP.out,⟨A4,c4,by rw[←HM4.out];rfl,by rw[←HM4.out];exact own_but HNO.out hu hlt⟩,⟨⟨A9,c9,by rw[hl2];exact hB3,by rw[hl2];exact h3⟩,hle,hr32⟩,(But.of HK.out).trans hu⟩
end Go.Proofs.YtmbeahbgafkjfaaGreatDoor
