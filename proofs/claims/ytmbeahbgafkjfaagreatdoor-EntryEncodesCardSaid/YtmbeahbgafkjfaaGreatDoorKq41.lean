/- Lemmas for the claim, layer 41. -/
import Derived.Test.YtmbeahbgafkjfaaGreatDoorKq14
import Derived.Test.YtmbeahbgafkjfaaGreatDoorKq40
set_option maxRecDepth 100000
set_option maxHeartbeats 16000000
namespace Go.Proofs.YtmbeahbgafkjfaaGreatDoor
open Go.RowKit
theorem blk_grow {w w':World} {base X size n:Nat} {e ty:TypeId} {v:Value} {xs:List Value} {cs:Array Value} (hB:Blk w X ty cs) (ho:w.ownsRow base e size v n xs) (hg:w.grownBy w' v.ownBlock) (hne:e≠ty):Blk w' X ty cs:=by
 refine(hg.block X hB.lt (fun e=>?_)).trans hB
 rcases own_blk ho hB hne with h1 | h1
 ·rw[h1] at e;cases e
 ·exact h1 e.symm
theorem layN_0:Pk.lay 0=[0]:=by rw[Pk.lay];rfl
theorem layN_1:Pk.lay 1=[1]:=by rw[Pk.lay];rfl
theorem refNoteBytes_gen (u:NV) (x:Nt) (w:World) (hN:NtRd w w.heap.size u x) (hf1:fm (-1) x.s=true) (hf2:fm (-1) x.e=true) (hf3:Sn.fmS (-2) x.b=true) (hc1:Wq.cts x.s) (hc2:Wq.cts x.e) (hw9:x.w.length≤256) (HU:Hid (∀w∈x.w,Wq.u63 w.2.1∧Wq.u63 w.1.2∧Wq.u63 w.1.1)):
  Calls Tryz.prog 32 #[.agg u.val] w fun e w'=>∃v,e=.returned v∧BytesAre w.heap.size w (Wq.lNt x) v w':=by
 obtain⟨i0,hi0,hz0,hz1,hz2⟩:=info_parts u8_info
 have hx9:=lV_len hf1 hc1
 have hy9:=lV_len hf2 hc2
 have hz9:=Wq.lS_len hf3
 obtain⟨A1,n1,c1,A2,n2,c2,A3,n3,c3,A4,n4,c4⟩:=u
 obtain⟨l1,r1,l2,r2,l3,r3,l4,r4⟩:=hN
 dsimp only at l1 r1 l2 r2 l3 r3 l4 r4
 obtain⟨s,e,b,ws⟩:=x
 dsimp only at *
 have G1:=fun (W:World) (hb:Below w.heap.size w W)=>refVecBytes_any A1 n1 c1 s W l1 (r1.go hb) hf1 hc1
 have G2:=fun (W:World) (hb:Below w.heap.size w W)=>refVecBytes_any A2 n2 c2 e W l2 (r2.go hb) hf2 hc2
 have G3:=fun (W:World) (hb:Below w.heap.size w W)=>refSetBytes_any A3 n3 c3 b W l3 (r3.go hb) hf3
 have G4:=fun (W:World)=>refBytes_any n4 W (by omega)
 have hn4:n4≤256:=by omega
 have hn9:(Pk.lay n4).length≤9:=Pk.lay_len9 (by omega)
 unfold BytesAre at G1 G2 G3
 obtain⟨p,hp⟩:∃p,p=Wq.lV s:=⟨_,rfl⟩
 obtain⟨q,hq⟩:∃q,q=Wq.lV e:=⟨_,rfl⟩
 obtain⟨r,hr⟩:∃r,r=Wq.lS b:=⟨_,rfl⟩
 rw[←hp] at G1 hx9
 rw[←hq] at G2 hy9
 rw[←hr] at G3 hz9
 obtain⟨lx,hlx⟩:∃lx,lx=p.length:=⟨_,rfl⟩
 obtain⟨ly,hly⟩:∃ly,ly=q.length:=⟨_,rfl⟩
 obtain⟨lz,hlz⟩:∃lz,lz=r.length:=⟨_,rfl⟩
 obtain⟨ln,hln⟩:∃ln,ln=(Pk.lay n4).length:=⟨_,rfl⟩
 rw[←hlx] at G1 hx9
 rw[←hly] at G2 hy9
 rw[←hlz] at G3 hz9
 rw[←hln] at G4 hn9
 have G1:=Hz_ G1
 have G2:=Hz_ G2
 have G3:=Hz_ G3
 have G4:=Hz_ G4
 have HLL:=Hz_ (And.intro hlx (And.intro hly (And.intro hlz (And.intro hln (And.intro hp (And.intro hq hr))))))
 have HL4:=Hz_ l4
 have HR4:=Hz_ r4
 have h63:lx+ly≤maxLen:=by unfold maxLen;omega
 have h63b:lx+ly+lz≤maxLen:=by unfold maxLen;omega
 have h63c:lx+ly+lz+ln≤maxLen:=by unfold maxLen;omega
 have hX:=Blk.new w 26 #[.slice A1 n1 c1,.slice A2 n2 c2,.slice A3 n3 c3,.slice A4 n4 c4]
 have hbX:Below w.heap.size w (w.alloc (.cells #[.slice A1 n1 c1,.slice A2 n2 c2,.slice A3 n3 c3,.slice A4 n4 c4] 26)):=(Below.refl _ _).alloc (Nat.le_refl _) _
 obtain⟨W0,hW0⟩:∃W0,W0=w.alloc (.cells #[.slice A1 n1 c1,.slice A2 n2 c2,.slice A3 n3 c3,.slice A4 n4 c4] 26):=⟨_,rfl⟩
 have hs0:W0.heap.size=w.heap.size+1:=by rw[hW0];simp
 rw[←hW0] at hX hbX
 have HW:=Hz_ hW0.symm
 have HX:=Hz_ hX
 have HB:=Hz_ hbX
 have HS:=Hz_ fun W (hb:Below W0.heap.size W0 W)=>(HX.out.go hb).four
 clear hf1 hf2 hf3 hc1 hc2 l1 r1 l2 r2 l3 r3 l4 r4 hp hq hr hlx hly hlz hln hX hbX hW0
 show Calls Tryz.prog 32 #[.agg #[.slice A1 n1 c1,.slice A2 n2 c2,.slice A3 n3 c3,.slice A4 n4 c4]] w _
 go_enter Tryz.func32,Tryz.ntmps32
 go_wp2_with fail
 rw[HW.out]
 have kw:Below W0.heap.size W0 W0.drew:=(Below.refl _ _).drew
 refine region_nrm fun KK hKK=>?_
 refine wp_region_held_drew (S:=(fun W=>W.cell? ⟨w.heap.size,0,none⟩=some (.slice A1 n1 c1)∧W.cell? ⟨w.heap.size,1,none⟩=some (.slice A2 n2 c2)∧W.cell? ⟨w.heap.size,2,none⟩=some (.slice A3 n3 c3)∧W.cell? ⟨w.heap.size,3,none⟩=some (.slice A4 n4 c4))) (by kernel_rfl) (by first | exact HS.out _ kw) (fun hHeld=>?_)
 refine puA 0 6 (HS.out _ kw) ?_
 refine puA 1 7 (HS.out _ kw) ?_
 refine puA 3 9 (HS.out _ kw) ?_
 refine puA 4 10 (HS.out _ kw) ?_
 refine puA 7 13 (HS.out _ kw) ?_
 refine puA 8 14 (HS.out _ kw) ?_
 refine puA 11 17 (HS.out _ kw) ?_
 refine puA 12 18 (HS.out _ kw) ?_
 refine puA 13 19 (HS.out _ kw) ?_
 refine puR 2 fun K hK=>?_
 go_simp
 refine(G1.out _ (btn HB.out kw)).mono ?_
 rintro e W1 ⟨_,rfl,D1,d1,rfl,ho1,hb'⟩
 have E:=Hz_ (own_less ho1 (show W0.heap.size≤_ from by simp))
 have kw:=btn kw hb'
 clear ho1 hb'
 refine hK.out _ _ (HS.out _ kw) fun hHeld=>?_
 clear hK K
 refine puR 5 fun K hK=>?_
 go_simp
 refine(G2.out _ (btn HB.out kw)).mono ?_
 rintro e W2 ⟨_,rfl,D2,d2,rfl,ho1,hb'⟩
 have C:=Hz_ ho1
 have E:=Hz_ (own_below E.out hb' (Nat.le_refl _))
 have kw:=btn kw hb'
 clear ho1 hb'
 refine hK.out _ _ (HS.out _ kw) fun hHeld=>?_
 clear hK K
 refine puR 6 fun K hK=>?_
 rw[if_pos (by kernel_rfl)]
 refine wp_append_rd _ (.tmp 8) (.tmp 11) _ rfl W0.heap.size 5 i0 _ 1 1 Tryz.underlying29 hi0 hz0 hz1 hz2 rfl (by decide) _ lx (bv p) rfl E.out _ D2 ly d2 (bv q) rfl (Rd.of_own C.out) (bv_oneCell _) h63 (by omega) kw.size ?_
 intro A11 c11 V11 ho hg hat
 have kw:=kw.trans (grown_below hg kw.size (fun g hg'=>(E.out.lt g hg').1))
 have E:=Hz_ ho
 clear ho hg hat C
 refine hK.out _ _ (HS.out _ kw) fun hHeld=>?_
 clear hK K
 refine puR 9 fun K hK=>?_
 go_simp
 refine(G3.out _ (btn HB.out kw)).mono ?_
 rintro e W3 ⟨_,rfl,D3,d3,rfl,ho1,hb'⟩
 have C:=Hz_ ho1
 have E:=Hz_ (own_below E.out hb' (Nat.le_refl _))
 have kw:=btn kw hb'
 clear ho1 hb'
 refine hK.out _ _ (HS.out _ kw) fun hHeld=>?_
 clear hK K
 refine puR 10 fun K hK=>?_
 rw[if_pos (by kernel_rfl)]
 refine wp_append_rd _ (.tmp 12) (.tmp 15) _ rfl W0.heap.size 5 i0 _ 1 1 Tryz.underlying29 hi0 hz0 hz1 hz2 rfl (by decide) _ (lx+ly) (bv p++bv q) rfl E.out _ D3 lz d3 (bv r) rfl (Rd.of_own C.out) (bv_oneCell _) h63b (by omega) kw.size ?_
 intro A15 c15 V15 ho hg hat
 have kw:=kw.trans (grown_below hg kw.size (fun g hg'=>(E.out.lt g hg').1))
 have E:=Hz_ ho
 clear ho hg hat C
 refine hK.out _ _ (HS.out _ kw) fun hHeld=>?_
 clear hK K
 refine puR 14 fun K hK=>?_
 go_simp
 refine(G4.out _).mono ?_
 rintro e W4 ⟨D4,d4,rfl,ho1,hb'⟩
 have C:=Hz_ ho1
 have E:=Hz_ (own_below E.out hb' (Nat.le_refl _))
 have kw:=btn kw hb'
 clear ho1 hb'
 refine hK.out _ _ (HS.out _ kw) fun hHeld=>?_
 clear hK K
 refine puR 15 fun K hK=>?_
 rw[if_pos (by kernel_rfl)]
 refine wp_append_rd _ (.tmp 16) (.tmp 20) _ rfl W0.heap.size 5 i0 _ 1 1 Tryz.underlying29 hi0 hz0 hz1 hz2 rfl (by decide) _ (lx+ly+lz) (bv p++bv q++bv r) rfl E.out _ D4 ln d4 (bv (Pk.lay n4)) rfl (Rd.of_own C.out) (bv_oneCell _) h63c (by omega) kw.size ?_
 intro A20 c20 V20 ho hg hat
 have kw:=kw.trans (grown_below hg kw.size (fun g hg'=>(E.out.lt g hg').1))
 have E:=Hz_ ho
 clear ho hg hat C
 refine hK.out _ _ (HS.out _ kw) fun hHeld=>?_
 clear hK K
 refine puA 16 3 (HS.out _ kw) ?_
 refine wpAnyH_done (by kernel_rfl) ?_ _
 refine Nrm.out (hKK _ _ ?_)
 have HPRE:=Hz_ (show (p++q++r++Pk.lay n4).length=lx+ly+lz+ln by obtain⟨e1,e2,e3,e4,_⟩:=HLL.out;simp only[List.length_append];rw[←e1,←e2,←e3,←e4])
 obtain⟨n0,hn0⟩:∃m,m=lx+ly+lz+ln:=⟨_,rfl⟩
 rw[←hn0] at E HPRE ⊢
 have HN0:=Hz_ hn0
 have hn0l:n0≤4000:=by omega
 obtain⟨pre,hpre⟩:∃l,l=p++q++r++Pk.lay n4:=⟨_,rfl⟩
 have E:=Hz_ (show World.ownsRow _ W0.heap.size 5 1 (.slice A20 n0 c20) n0 (bv pre) from by have:=E.out;rw[hpre,bv_app,bv_app,bv_app];exact this)
 rw[←hpre] at HPRE
 have HPR:=Hz_ hpre
 clear hn0 hpre G1 G2 G3 G4 hHeld
 go_wp2_with fail
 go_loopw [3,4,5] (fun v3 v4 _ wr=>∃(k N c':Nat) (A':Option Addr),v4=.int .i64 k∧v3=.slice A' N c'∧k≤n4∧N≤n0+36 * k∧Hid (wr.ownsRow W0.heap.size 5 1 (.slice A' N c') N (bv (pre++Wq.lW (ws.take k))))∧Below W0.heap.size W0 wr ∧
  Hid ((pre++Wq.lW (ws.take k)).length=N)) (fun _ v4 _ _=>n4 - (intOf v4).toNat)
 case atStart=>exact⟨0,n0,c20,A20,rfl,rfl,by omega,by omega,by show World.ownsRow _ _ _ _ _ _ _;simpa[Wq.lW] using E.out,kw,by show _=_;simp[Wq.lW,HPRE.out]⟩
 case round=>
  obtain⟨k,N,c',A',rfl,rfl,hk,hN,ho,hb,hq⟩:=hrel
  clear E kw
  obtain⟨x0,x1,x2,x3⟩:=HS.out _ hb
  have hbs:=hb.size
  by_cases hlt:k < n4
  ·have hks:k < ws.length:=by rw[HL4.out];exact hlt
   obtain⟨bb,o,rfl,hab,g0,g1,g2,g3⟩:=((HR4.out.below HB.out).below (hb.mono (by omega))).write HL4.out hks
   have HTK:=Hz_ (lW_take ws k hks)
   have HUK:=Hz_ (HU.out _ (List.getElem_mem hks))
   generalize ws[k]'hks=wk at g0 g1 g2 g3 HTK HUK
   obtain⟨⟨ct,nd⟩,ob,gb⟩:=wk
   dsimp only at g0 g1 g2 g3
   obtain⟨x,hx⟩:∃x:Nat,ob=(x:Int):=⟨ob.toNat,by have:=HUK.out.1.1;dsimp only at this;omega⟩
   obtain⟨y,hy⟩:∃y:Nat,nd=(y:Int):=⟨nd.toNat,by have:=HUK.out.2.1.1;dsimp only at this;omega⟩
   obtain⟨z,hz⟩:∃z:Nat,ct=(z:Int):=⟨ct.toNat,by have:=HUK.out.2.2.1;dsimp only at this;omega⟩
   subst hx hy hz
   have hx9:=u63_len HUK.out.1
   have hy9:=u63_len HUK.out.2.1
   have hz9:=u63_len HUK.out.2.2
   dsimp only at hx9 hy9 hz9
   rw[Int.toNat_natCast] at hx9 hy9 hz9
   have G2:=fun W=>refBytes_any x W (by have:=HUK.out.1.2;dsimp only at this;omega)
   have G3:=fun W=>refBytes_any y W (by have:=HUK.out.2.1.2;dsimp only at this;omega)
   have G4:=fun W=>refBytes_any z W (by have:=HUK.out.2.2.2;dsimp only at this;omega)
   obtain⟨lx',hlx⟩:∃lx',lx'=(Pk.lay x).length:=⟨_,rfl⟩
   obtain⟨ly',hly⟩:∃ly',ly'=(Pk.lay y).length:=⟨_,rfl⟩
   obtain⟨lz',hlz⟩:∃lz',lz'=(Pk.lay z).length:=⟨_,rfl⟩
   rw[←hlx] at G2 hx9
   rw[←hly] at G3 hy9
   rw[←hlz] at G4 hz9
   have G2:=Hz_ G2
   have G3:=Hz_ G3
   have G4:=Hz_ G4
   have HLX:=Hz_ (And.intro hlx (And.intro hly hlz))
   have hX1:=Blk.new wr 70 #[.int .i64 (z:Int),.int .i64 (y:Int),.int .i64 (x:Int),.bool gb]
   have hb1:Below W0.heap.size W0 (wr.alloc (.cells #[.int .i64 (z:Int),.int .i64 (y:Int),.int .i64 (x:Int),.bool gb] 70)):=hb.alloc hbs _
   have ho1:=ho.out.alloc (.cells #[.int .i64 (z:Int),.int .i64 (y:Int),.int .i64 (x:Int),.bool gb] 70)
   obtain⟨l2,hl2⟩:∃l2,l2=pre++Wq.lW (ws.take k):=⟨_,rfl⟩
   rw[←hl2] at ho1 hq
   have HL:=Hz_ hl2
   obtain⟨W1,hW1⟩:∃W1,W1=wr.alloc (.cells #[.int .i64 (z:Int),.int .i64 (y:Int),.int .i64 (x:Int),.bool gb] 70):=⟨_,rfl⟩
   rw[←hW1] at hX1 hb1 ho1
   have HW1:=Hz_ hW1.symm
   have E:=Hz_ (show W1.drew.ownsRow W0.heap.size 5 1 (.slice A' N c') N (bv l2) from ho1)
   have X:=Hz_ (show Blk W1.drew wr.heap.size 70 #[.int .i64 (z:Int),.int .i64 (y:Int),.int .i64 (x:Int),.bool gb] from hX1.go (Below.refl _ _).drew)
   have kw:Below W0.heap.size W0 W1.drew:=hb1.drew
   have h63:N+lx'≤maxLen:=by unfold maxLen;omega
   have h63b:N+lx'+ly'≤maxLen:=by unfold maxLen;omega
   have h63c:N+lx'+ly'+lz'≤maxLen:=by unfold maxLen;omega
   have h63d:N+lx'+ly'+lz'+1≤maxLen:=by unfold maxLen;omega
   have h1max:1≤maxLen:=by unfold maxLen;omega
   clear ho hb hlx hly hlz hks hl2 hX1 hb1 ho1 hW1
   go_wp2_with fail
   rw[HW1.out]
   refine region_nrm fun KK hKK=>?_
   refine wp_region_held_drew (S:=(fun W=>W.cell? ⟨wr.heap.size,0,none⟩=some (.int .i64 (z:Int))∧W.cell? ⟨wr.heap.size,1,none⟩=some (.int .i64 (y:Int))∧W.cell? ⟨wr.heap.size,2,none⟩=some (.int .i64 (x:Int))∧W.cell? ⟨wr.heap.size,3,none⟩=some (.bool gb))) (by kernel_rfl) (by first | exact X.out.four) (fun hHeld=>?_)
   refine puA 0 34 (X.out.four) ?_
   refine puA 1 35 (X.out.four) ?_
   refine puA 2 36 (X.out.four) ?_
   refine puA 5 39 (X.out.four) ?_
   refine puA 6 40 (X.out.four) ?_
   refine puA 7 41 (X.out.four) ?_
   refine puA 10 44 (X.out.four) ?_
   refine puA 11 45 (X.out.four) ?_
   refine puA 12 46 (X.out.four) ?_
   refine puR 3 fun K hK=>?_
   go_simp
   refine(G2.out _).mono ?_
   rintro e W1 ⟨D1,d1,rfl,ho1,hb'⟩
   have C:=Hz_ ho1
   have E:=Hz_ (own_below E.out hb' (Nat.le_refl _))
   have X:=Hz_ (X.out.go hb')
   have kw:=btn kw hb'
   clear ho1 hb'
   refine hK.out _ _ (X.out.four) fun hHeld=>?_
   clear hK K
   refine puR 4 fun K hK=>?_
   rw[if_pos (by kernel_rfl)]
   refine wp_append_rd _ (.tmp 34) (.tmp 37) _ rfl W0.heap.size 5 i0 _ 1 1 Tryz.underlying29 hi0 hz0 hz1 hz2 rfl (by decide) _ N (bv l2) rfl E.out _ D1 lx' d1 (bv (Pk.lay x)) rfl (Rd.of_own C.out) (bv_oneCell _) h63 (by omega) kw.size ?_
   intro A37 c37 V37 ho hg hat
   have X:=Hz_ (blk_grow X.out E.out hg (by decide))
   have kw:=kw.trans (grown_below hg kw.size (fun g hg'=>(E.out.lt g hg').1))
   have E:=Hz_ ho
   clear ho hg hat C
   refine hK.out _ _ (X.out.four) fun hHeld=>?_
   clear hK K
   refine puR 8 fun K hK=>?_
   go_simp
   refine(G3.out _).mono ?_
   rintro e W2 ⟨D2,d2,rfl,ho1,hb'⟩
   have C:=Hz_ ho1
   have E:=Hz_ (own_below E.out hb' (Nat.le_refl _))
   have X:=Hz_ (X.out.go hb')
   have kw:=btn kw hb'
   clear ho1 hb'
   refine hK.out _ _ (X.out.four) fun hHeld=>?_
   clear hK K
   refine puR 9 fun K hK=>?_
   rw[if_pos (by kernel_rfl)]
   refine wp_append_rd _ (.tmp 38) (.tmp 42) _ rfl W0.heap.size 5 i0 _ 1 1 Tryz.underlying29 hi0 hz0 hz1 hz2 rfl (by decide) _ (N+lx') (bv l2++bv (Pk.lay x)) rfl E.out _ D2 ly' d2 (bv (Pk.lay y)) rfl (Rd.of_own C.out) (bv_oneCell _) h63b (by omega) kw.size ?_
   intro A42 c42 V42 ho hg hat
   have X:=Hz_ (blk_grow X.out E.out hg (by decide))
   have kw:=kw.trans (grown_below hg kw.size (fun g hg'=>(E.out.lt g hg').1))
   have E:=Hz_ ho
   clear ho hg hat C
   refine hK.out _ _ (X.out.four) fun hHeld=>?_
   clear hK K
   refine puR 13 fun K hK=>?_
   go_simp
   refine(G4.out _).mono ?_
   rintro e W3 ⟨D3,d3,rfl,ho1,hb'⟩
   have C:=Hz_ ho1
   have E:=Hz_ (own_below E.out hb' (Nat.le_refl _))
   have X:=Hz_ (X.out.go hb')
   have kw:=btn kw hb'
   clear ho1 hb'
   refine hK.out _ _ (X.out.four) fun hHeld=>?_
   clear hK K
   refine puR 14 fun K hK=>?_
   rw[if_pos (by kernel_rfl)]
   refine wp_append_rd _ (.tmp 43) (.tmp 47) _ rfl W0.heap.size 5 i0 _ 1 1 Tryz.underlying29 hi0 hz0 hz1 hz2 rfl (by decide) _ (N+lx'+ly') (bv l2++bv (Pk.lay x)++bv (Pk.lay y)) rfl E.out _ D3 lz' d3 (bv (Pk.lay z)) rfl (Rd.of_own C.out) (bv_oneCell _) h63c (by omega) kw.size ?_
   intro A47 c47 V47 ho hg hat
   have X:=Hz_ (blk_grow X.out E.out hg (by decide))
   have kw:=kw.trans (grown_below hg kw.size (fun g hg'=>(E.out.lt g hg').1))
   have E:=Hz_ ho
   clear ho hg hat C
   refine hK.out _ _ (X.out.four) fun hHeld=>?_
   clear hK K
   refine puA 15 3 (X.out.four) ?_
   refine wpAnyH_done (by kernel_rfl) ?_ _
   refine Nrm.out (hKK _ _ ?_)
   obtain⟨l3,hl3⟩:∃m,m=l2++Pk.lay x++Pk.lay y++Pk.lay z:=⟨_,rfl⟩
   have E:=Hz_ (show World.ownsRow _ W0.heap.size 5 1 (.slice A47 (N+lx'+ly'+lz') c47) (N+lx'+ly'+lz') (bv l3) from by have:=E.out;rw[hl3,bv_app,bv_app,bv_app];exact this)
   have HL3:=Hz_ hl3
   obtain⟨x0,x1,x2,x3⟩:=X.out.four
   clear hl3 G2 G3 G4 hHeld
   rcases gb with _ | _
   ·go_wp2_with (at_builtin;go_must (refine wpList_append_rd _ rfl (.tmp 54) (.tmp 55) _ rfl W0.heap.size 5 i0 _ 1 1 Tryz.underlying29 hi0 hz0 hz1 hz2 rfl (by decide) _ (N+lx'+ly'+lz') (bv l3) rfl (E.out.alloc _) _ (some ⟨V47.heap.size,0,none⟩) 1 1 (bv [0]) rfl (by have:=Rd.new V47 5 1 1 #[.int .u8 0] rfl h1max;simpa[bv] using this) (bv_oneCell _) h63d (by omega) (by have:=kw.size;simp;omega) ?_);intro A9 c9 w9 ho9 hg9 hat9)
    have kw9:Below W0.heap.size W0 w9:=(kw.alloc kw.size _).trans (grown_below hg9 (by have:=kw.size;simp;omega) (fun g hg'=>(E.out.lt g hg').1))
    go_roundw
    case rel=>
     have e3:pre++Wq.lW (ws.take (k+1))=l3++[0]:=by rw[HTK.out,HL3.out,HL.out];simp[layAll,wNums,Wq.gn,layN_0]
     have e4:(N+lx'+ly'+lz')+1≤n0+36 * (k+1):=by omega
     refine⟨k+1,(N+lx'+ly'+lz')+1,c9,A9,by go_num,rfl,by omega,e4,?_,kw9,?_⟩
     ·show World.ownsRow _ _ _ _ _ _ _;rw[e3,bv_app];exact ho9
     ·show _=_
      obtain⟨a1,a2,a3⟩:=HLX.out
      rw[e3,HL3.out,List.length_append,List.length_append,List.length_append,List.length_append,hq.out,←a1,←a2,←a3];rfl
    case measure=>simp[intOf];omega
   ·go_wp2_with (at_builtin;go_must (refine wpList_append_rd _ rfl (.tmp 51) (.tmp 52) _ rfl W0.heap.size 5 i0 _ 1 1 Tryz.underlying29 hi0 hz0 hz1 hz2 rfl (by decide) _ (N+lx'+ly'+lz') (bv l3) rfl (E.out.alloc _) _ (some ⟨V47.heap.size,0,none⟩) 1 1 (bv [1]) rfl (by have:=Rd.new V47 5 1 1 #[.int .u8 1] rfl h1max;simpa[bv] using this) (bv_oneCell _) h63d (by omega) (by have:=kw.size;simp;omega) ?_);intro A9 c9 w9 ho9 hg9 hat9)
    have kw9:Below W0.heap.size W0 w9:=(kw.alloc kw.size _).trans (grown_below hg9 (by have:=kw.size;simp;omega) (fun g hg'=>(E.out.lt g hg').1))
    go_roundw
    case rel=>
     have e3:pre++Wq.lW (ws.take (k+1))=l3++[1]:=by rw[HTK.out,HL3.out,HL.out];simp[layAll,wNums,Wq.gn,layN_1]
     have e4:(N+lx'+ly'+lz')+1≤n0+36 * (k+1):=by omega
     refine⟨k+1,(N+lx'+ly'+lz')+1,c9,A9,by go_num,rfl,by omega,e4,?_,kw9,?_⟩
     ·show World.ownsRow _ _ _ _ _ _ _;rw[e3,bv_app];exact ho9
     ·show _=_
      obtain⟨a1,a2,a3⟩:=HLX.out
      rw[e3,HL3.out,List.length_append,List.length_append,List.length_append,List.length_append,hq.out,←a1,←a2,←a3];rfl
    case measure=>simp[intOf];omega
  ·obtain rfl:k=n4:=by omega
   have q1:=hq.out
   have q3:=ho.out
   clear ho
   go_wp2
   go_ret
   have e0:ws.take k=ws:=List.take_of_length_le (by rw[HL4.out];exact Nat.le_refl _)
   rw[e0] at q1 q3
   obtain⟨_,_,_,_,ep,eq,er⟩:=HLL.out
   have e2:pre++Wq.lW ws=Wq.lNt ⟨s,e,b,ws⟩:=by unfold Wq.lNt;rw[HPR.out,←ep,←eq,←er,HL4.out];simp
   rw[e2] at q1 q3
   exact⟨_,rfl,A',c',by rw[q1];rfl,by rw[q1];exact own_less q3 (by omega),btn HB.out hb⟩
theorem refNoteBytes_any (u:NV) (x:Nt) (w:World) (hN:NtRd w w.heap.size u x) (hf:ntF x=true) (hc:Wq.ntC x):
  Calls Tryz.prog 32 #[.agg u.val] w fun e w'=>∃v,e=.returned v∧BytesAre w.heap.size w (Wq.lNt x) v w':=by
 obtain⟨hf1,hf2,hf3,hf4⟩:=Wq.ntF_parts hf
 exact refNoteBytes_gen u x w hN hf1 hf2 hf3 hc.1 hc.2.1 (Wq.ntW_len hf4) (Hz_ (Wq.ntW_u hf hc))
theorem lNt_small {x:Nt} (h:ntF x=true) (hc:Wq.ntC x):(Wq.lNt x).length≤20000:=by
 obtain⟨h1,h2,h3,h4⟩:=Wq.ntF_parts h
 have e1:=lV_len h1 hc.1
 have e2:=lV_len h2 hc.2.1
 have e3:=Wq.lS_len h3
 have e4:=Wq.ntW_len h4
 have e5:(Pk.lay x.w.length).length≤9:=Pk.lay_len9 (by omega)
 have e6:∀u:List Wr,(∀t∈u,Wq.wU t)→(Wq.lW u).length≤36 * u.length:=by
  intro u
  induction u with
  | nil=>intro _;simp[Wq.lW]
  | cons t r ih=>
   intro hs
   have a:=hs t (by simp)
   have a1:=u63_len a.1
   have a2:=u63_len a.2.1
   have a3:=u63_len a.2.2
   have a4:(Pk.lay (Wq.gn t.2.2)).length≤9:=Pk.lay_len9 (by unfold Wq.gn;split<;>omega)
   have a5:=ih fun t ht=>hs t (by simp[ht])
   rw[Wq.lW_cons,List.length_append,List.length_cons]
   simp only[Wq.lW1,List.length_append]
   omega
 have e7:=e6 x.w (Wq.ntW_u h hc)
 simp only[Wq.lNt,List.length_append]
 omega
end Go.Proofs.YtmbeahbgafkjfaaGreatDoor
