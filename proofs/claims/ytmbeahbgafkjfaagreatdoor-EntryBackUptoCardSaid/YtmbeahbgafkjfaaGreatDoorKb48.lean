/- Lemmas for the claim, layer 48. -/
import Derived.Test.YtmbeahbgafkjfaaGreatDoorKb47
set_option maxRecDepth 100000
set_option linter.unusedSimpArgs false
set_option maxHeartbeats 16000000
namespace Go.Proofs.YtmbeahbgafkjfaaGreatDoor
open Go.RowKit
theorem cacheTwin_any (x:Wq.Bd) (A:Option Addr) (c:Nat) (w:World) (hR:Rd w w.heap.size 1 A x.v.length c (bv x.v)) (hz:x.v.length≤140737488355328):
  Calls Tryz.prog 194 #[.agg (bval x A c)] w fun e w'=>∃A' c',e=.returned (.agg (bval x A' c'))∧w'.ownsRow w.heap.size 5 1 (.slice A' x.v.length c') x.v.length (bv x.v)∧Below w.heap.size w w':=by
 obtain⟨o_,⟨a_,b_⟩,xv⟩:=x
 dsimp only at hR hz
 unfold bval
 dsimp only
 have h1:Below w.heap.size w (w.alloc (.cells #[.int .i64 o_,.int .i64 a_,.int .i64 b_,.slice A xv.length c] 31)):=(Below.refl _ _).alloc (Nat.le_refl _) _
 have h2:Below w.heap.size w ((w.alloc (.cells #[.int .i64 o_,.int .i64 a_,.int .i64 b_,.slice A xv.length c] 31)).alloc (.cells #[.int .i64 0,.int .i64 0,.int .i64 0,.slice none 0 0] 31)):=h1.alloc (by simp) _
 have b1:=(Blk.new w 31 #[.int .i64 o_,.int .i64 a_,.int .i64 b_,.slice A xv.length c]).alloc (.cells #[.int .i64 0,.int .i64 0,.int .i64 0,.slice none 0 0] 31)
 have b2:=Blk.new (w.alloc (.cells #[.int .i64 o_,.int .i64 a_,.int .i64 b_,.slice A xv.length c] 31)) 31 #[.int .i64 0,.int .i64 0,.int .i64 0,.slice none 0 0]
 rw[World.size_alloc] at b2
 obtain⟨P,hP⟩:∃P,P=w.heap.size:=⟨_,rfl⟩
 have G:=clone_any A xv.length c (bv xv) _ (hR.go h2) (bv_oneCell _) hz
 generalize hW0:(w.alloc (.cells #[.int .i64 o_,.int .i64 a_,.int .i64 b_,.slice A xv.length c] 31)).alloc (.cells #[.int .i64 0,.int .i64 0,.int .i64 0,.slice none 0 0] 31)=W0 at h2 b1 b2 G
 obtain⟨m,hm⟩:∃m,m=xv.length:=⟨_,rfl⟩
 rw[←hm] at G b1 hW0 ⊢
 rw[←hP] at b1 b2
 have HM:=Hz_ hm
 have HW0:=Hz_ hW0
 have HP:=Hz_ hP
 have G:=Hz_ G
 have KB:=Hz_ h2
 have B1:=Hz_ b1
 have B2:=Hz_ b2
 obtain⟨p0,p1,p2,p3⟩:=(show Blk W0 P 31 #[.int .i64 o_,.int .i64 a_,.int .i64 b_,.slice A m c] from b1).quad
 clear h1 h2 b1 b2 hW0 hR hm
 go_enter Tryz.func194,Tryz.ntmps194
 go_upto_region 1 with fail
 rw[HW0.out,←HP.out]
 clear hP
 go_wp2_with fail
 refine G.out.mono ?_
 rintro e w1 ⟨D,d,rfl,ho,hb⟩
 have B1:=Hz_ (B1.out.go hb)
 have B2:=Hz_ (B2.out.go hb)
 have HO:=Hz_ ho
 have KB:=Hz_ (btn KB.out hb)
 have HS:=Hz_ hb.size
 clear p0 p1 p2 p3 ho hb
 have c3:w1.cell? ⟨P,3,none⟩=some (.slice A m c):=B1.out.cell 3
 have f3:=B1.out.frozen 3
 go_upto_region 2 with fail
 have hu:But P w1 (w1.setCell ⟨P,3,none⟩ (.slice D m d)):=But.set_ w1 (p:=⟨P,3,none⟩) rfl _
 have hx:Blk (w1.setCell ⟨P,3,none⟩ (.slice D m d)) P 31 #[.int .i64 o_,.int .i64 a_,.int .i64 b_,.slice D m d]:=B1.out.set_ 3 _
 have hy:=B2.out.but hu (by omega)
 have hlP:=B1.out.lt
 have hl2:=B2.out.lt
 have hPw:w.heap.size≤P:=Nat.le_of_eq HP.out.symm
 have hs1:=World.size_alloc w
 have ko:=HO.out
 have kk:Below w.heap.size w (w1.setCell ⟨P,3,none⟩ (.slice D m d)):=KB.out.setCell (p:=⟨P,3,none⟩) hPw _
 have hPW:P+1 < W0.heap.size:=by
  have h:=HW0.out
  have e:W0.heap.size=w.heap.size+1+1:=by rw[←h];simp
  have:=HP.out
  omega
 have ko2:=own_but ko hu (by omega)
 generalize w1.setCell ⟨P,3,none⟩ (.slice D m d)=w2 at hu hx hy kk ko2 ⊢
 obtain⟨x0,x1,x2,x3⟩:=hx.quad
 obtain⟨z0,z1,z2,z3⟩:=hy.quad
 have y0:=hy.frozen 0
 have y1:=hy.frozen 1
 have y2:=hy.frozen 2
 have y3:=hy.frozen 3
 have HX:=Hz_ hx
 have HY:=Hz_ hy
 have KK:=Hz_ kk
 have KO:=Hz_ ko2
 clear hx hy kk ko2 ko hu c3 f3 hs1
 go_wp2
 have hF:=(((HY.out.set_ 0 (.int .i64 o_)).set_ 1 (.int .i64 a_)).set_ 2 (.int .i64 b_)).set_ 3 (.slice D m d)
 have hu4:But (P+1) w2 ((((w2.setCell ⟨P+1,0,none⟩ (.int .i64 o_)).setCell ⟨P+1,1,none⟩ (.int .i64 a_)).setCell ⟨P+1,2,none⟩ (.int .i64 b_)).setCell ⟨P+1,3,none⟩ (.slice D m d)):=
  (((But.set_ (g:=P+1) _ (p:=⟨P+1,0,none⟩) rfl _).trans (But.set_ (g:=P+1) _ (p:=⟨P+1,1,none⟩) rfl _)).trans (But.set_ (g:=P+1) _ (p:=⟨P+1,2,none⟩) rfl _)).trans (But.set_ (g:=P+1) _ (p:=⟨P+1,3,none⟩) rfl _)
 refine bodyPost_ret (results_cell_row rfl _ _ (P+1) 31 _ _ _ rfl hF Tryz.underlying31 rfl (by kernel_rfl)) rfl ⟨D,d,rfl,?_,below_but KK.out hu4 (by have:=KK.out.size;omega) (by omega)⟩
 exact own_less (own_but KO.out hu4 hPW) (by omega)
theorem cacheForget_any (A:Option Addr) (n c:Nat) (L:List (BV×Wq.Bd)) (ob:Int) (w:World) (hR:RdBs w w.heap.size A n c L) (hn:n≤256) (hv:∀p∈L,p.2.v.length≤140737488355328):
  Calls Tryz.prog 143 #[.slice A n c,.int .i64 ob] w fun e w'=>∃A' k c',e=.returned (.slice A' k c')∧(∃M,OwnBd w' w.heap.size A' k c' M∧bds M=(bds L).filter fun y=>!decide (y.o=ob))∧Below w.heap.size w w':=by
 obtain⟨ib0,hbi0,hbz0,hbz1,hbz2⟩:=info_parts body_info
 have h1max:1≤maxLen:=by unfold maxLen;omega
 have hln:=hR.len
 have HL:=Hz_ hln
 have HR:=Hz_ hR
 have HV:=Hz_ hv
 clear hR hln hv
 go_enter Tryz.func143,Tryz.ntmps143
 go_wp2
 go_loopw [5,7,10] (fun v5 _ v10 wr=>∃(j k c':Nat) (A':Option Addr),v10=.int .i64 j∧v5=.slice A' k c'∧j≤n∧k≤j∧Below w.heap.size w wr∧Hid (∃M,OwnBd wr w.heap.size A' k c' M∧bds M=((bds L).take j).filter fun y=>!decide (y.o=ob))) (fun _ _ v10 _=>n - (intOf v10).toNat)
 case atStart=>exact⟨0,0,0,none,rfl,rfl,by omega,by omega,Below.refl _ _,[],OwnBd.nil _ _,rfl⟩
 case round=>
  obtain⟨j,k,c',A',rfl,rfl,hj,hk,hb,hq⟩:=hrel
  by_cases hlt:j < n
  ·have hjL:j < L.length:=by rw[HL.out];exact hlt
   have hjB:j < (bds L).length:=by rw[bds_len];exact hjL
   obtain⟨M,hM,hMz⟩:=hq.out
   obtain⟨b,oo,rfl,hab,g0,g1,g2,g3⟩:=((HR.out.below hb)).body hjL
   have hRv:=(HR.out.go hb).each _ (List.getElem_mem hjL)
   have hvz:=HV.out _ (List.getElem_mem hjL)
   have hnx:=List.take_succ_eq_append_getElem hjB
   rw[bds_at L j hjL] at hnx
   generalize L[j]=q at g0 g1 g2 g3 hRv hvz hnx
   obtain⟨⟨xA,xc⟩,⟨o_,⟨a_,b_⟩,xv⟩⟩:=q
   dsimp only at g0 g1 g2 g3 hRv hvz hnx
   have hb9:Below wr.heap.size wr (wr.alloc (.cells #[.int .i64 o_,.int .i64 a_,.int .i64 b_,.slice xA xv.length xc] 31)):=(Below.refl _ _).alloc (Nat.le_refl _) _
   have hX9:=Blk.new wr 31 #[.int .i64 o_,.int .i64 a_,.int .i64 b_,.slice xA xv.length xc]
   have G:=cacheTwin_any ⟨o_,(a_,b_),xv⟩ xA xc _ (hRv.go hb9) hvz
   unfold bval at G
   dsimp only at G
   have hM9:=hM.below hb9
   have kw:=btn hb hb9
   have hbs:=hb.size
   generalize hV9:wr.alloc (.cells #[.int .i64 o_,.int .i64 a_,.int .i64 b_,.slice xA xv.length xc] 31)=V9 at hX9 G hM9 kw
   have HV9:=Hz_ hV9
   obtain⟨m,hm⟩:∃m,m=xv.length:=⟨_,rfl⟩
   rw[←hm] at G hX9 g3
   have HV9:=Hz_ (show wr.alloc (.cells #[.int .i64 o_,.int .i64 a_,.int .i64 b_,.slice xA m xc] 31)=V9 by rw[hm];exact HV9.out)
   have HM:=Hz_ hm
   have G:=Hz_ G
   have HNX:=Hz_ hnx
   have HMZ:=Hz_ hMz
   have KM:=Hz_ hM9
   obtain⟨r0,r1,r2,r3⟩:=hX9.quad
   clear hV9 hX9 hb9 hM9 hM hMz hnx hRv hvz hm hjB hjL hq hb hab
   go_upto_region 5 with fail
   rw[HV9.out]
   clear g0 g1 g2 g3
   by_cases ho:o_=ob
   ·subst ho
    go_wp2_with fail
    go_roundw
    case rel=>
     refine⟨j+1,k,c',A',by go_num,rfl,by omega,by omega,kw,?_⟩
     refine⟨M,KM.out,?_⟩
     rw[HNX.out,List.filter_append,←HMZ.out]
     simp
    case measure=>simp[intOf];omega
   ·have hne:(o_ != ob)=true:=by simpa using ho
    have HO:=Hz_ ho
    clear ho
    go_wp2_with fail
    refine G.out.mono ?_
    rintro e w1 ⟨D,d,rfl,hd,hb1⟩
    have KM:=Hz_ (KM.out.below hb1)
    have kw:=btn kw hb1
    have hsz:w.heap.size≤V9.heap.size:=by
     have h:=HV9.out
     have e:V9.heap.size=wr.heap.size+1:=by rw[←h];simp
     omega
    have HD:=Hz_ (own_less hd hsz)
    clear hsz
    have hb':Below w1.heap.size w1 (w1.alloc (.cells #[.int .i64 o_,.int .i64 a_,.int .i64 b_,.slice D m d] 31)):=(Below.refl _ _).alloc (Nat.le_refl _) _
    have C:=Hz_ (rd_new hb' (size:=4) (n:=1) rfl h1max)
    have KM:=Hz_ (KM.out.below hb')
    have HD:=Hz_ (own_below HD.out hb' (Nat.le_refl _))
    have kw:=btn kw hb'
    clear hd hb1 hb' r0 r1 r2 r3
    go_wp2_with (at_builtin;go_must (refine wpList_append_rd _ rfl (.tmp 18) (.tmp 21) _ rfl w.heap.size 31 ib0 _ 4 48 Tryz.underlying33 hbi0 hbz0 hbz1 hbz2 rfl (by decide) _ k (bvv M) rfl KM.out.row _ _ 1 1 [.int .i64 o_,.int .i64 a_,.int .i64 b_,.slice D m d] rfl C.out (by simp[Value.oneCell']) (by unfold maxLen;omega) (by omega) kw.size ?_);intro A9 c9 W9 ho hg hat)
    have KZ:=Hz_ (KM.out.push (p:=(⟨D,d⟩,⟨o_,(a_,b_),xv⟩)) (by dsimp only;rw[←HM.out];exact HD.out) hg (by unfold bvl;dsimp only;rw[←HM.out];exact ho))
    have kz:=kw.trans (grown_below hg kw.size (fun g hg'=>(KM.out.row.lt g hg').1))
    clear ho hg hat KM C HD
    go_roundw
    case rel=>
     refine⟨j+1,k+1,c9,A9,by go_num,rfl,by omega,by omega,kz,?_⟩
     refine⟨_,KZ.out,?_⟩
     rw[HNX.out,List.filter_append,←HMZ.out,bds_app]
     simp[HO.out,bds]
    case measure=>simp[intOf];omega
  ·obtain rfl:n=j:=by omega
   obtain⟨M,hM,hMz⟩:=hq.out
   have KM:=Hz_ hM
   have HMZ:=Hz_ (show bds M=(bds L).filter fun y=>!decide (y.o=ob) by rw[hMz,List.take_of_length_le (by rw[bds_len,HL.out];exact Nat.le_refl _)])
   clear hM hMz hq
   go_wp2
   go_ret
   exact⟨_,_,_,rfl,⟨M,KM.out,HMZ.out⟩,hb⟩
theorem clipWr_any (A:Option Addr) (n c:Nat) (w:World) (hc:n≤c) (_hm:c≤maxLen):
  Calls Tryz.prog 193 #[.slice A n c] w fun e w'=>e=.returned (.slice A n n)∧Below w.heap.size w w':=by
 go_enter Tryz.func193,Tryz.ntmps193
 go_wp2
 go_ret
 exact⟨rfl,Below.refl _ _⟩
theorem shelfPut_0 (w:World):Calls Tryz.prog 142 #[.slice none 0 0,.slice none 0 0] w fun e w'=>∃A c,e=.returned (.tuple #[.slice A 0 c,.int .i64 0])∧Below w.heap.size w w':=by
 have G1:=shelfFormed_any none 0 0 [] w rfl Rd.none_
 rw[show shF (-1) []=true from rfl] at G1
 have G2:=fun W=>cloneWr_any none 0 0 [] W Rd.none_ (by simp) (by omega)
 have G1:=Hz_ G1
 have G2:=Hz_ G2
 go_enter Tryz.func142,Tryz.ntmps142
 go_wp2_with (first | (go_at_call 93;go_must (refine G1.out.mono ?_);rintro e w1 ⟨rfl,hb1⟩) | (go_at_call 140;go_must (refine(G2.out _).mono ?_);rintro e w2 ⟨A,c,rfl,ho,hb2⟩))
 have hb:=btn hb1 hb2
 have hcm:c≤maxLen:=by
  rcases ho.2 with ⟨h,_⟩ | ⟨g,cap,cur,h,_,_,_,h5,_⟩
  ·injection h with h1 h2 h3;subst h3;exact Nat.zero_le _
  ·injection h with h1 h2 h3;subst h3;exact h5
 clear ho hb1 hb2
 go_loopw [8,9,10,6,18] (fun _ _ _ v6 v18 wr=>v6=.slice A 0 c∧v18=.int .i64 0∧Below w.heap.size w wr) (fun _ _ _ _ _ _=>0)
 case atStart=>exact⟨rfl,rfl,hb⟩
 case round=>
  obtain⟨rfl,rfl,hb⟩:=hrel
  go_wp2_with (go_at_call 193;go_must (refine(clipWr_any A 0 c _ (Nat.zero_le _) hcm).mono ?_);rintro e w3 ⟨rfl,hb3⟩)
  go_ret2
  exact⟨A,0,rfl,btn hb hb3⟩
def vwZ:Array Value:=#[.slice none 0 0,.slice none 0 0,.slice none 0 0,.slice none 0 0,.int .i64 0]
def ntZ:Array Value:=#[.slice none 0 0,.slice none 0 0,.slice none 0 0,.slice none 0 0]
theorem cloneWr_nil (w:World):Calls Tryz.prog 140 #[.slice none 0 0] w fun e w'=>e=.returned (.slice none 0 0)∧Below w.heap.size w w':=by
 have ht:=fun W=>Lib.run_eql_slice_nil (P:=Tryz.prog) W 24 70 none 0 0 0 0 Tryz.underlying24
 go_enter Tryz.func140,Tryz.ntmps140
 go_wp2
 go_ret
 exact⟨rfl,Below.refl _ _⟩
theorem deleteNilV (fv:Value) (w:World):Calls Tryz.prog 139 #[.slice none 0 0,fv] w fun e w'=>e=.returned (.slice none 0 0)∧w=w':=by
 have H1:=Hz_ fun (w:World)=>(show Calls Tryz.prog 189 #[.slice none 0 0,fv] w fun e w'=>e=.returned (.int .i64 (-1))∧w=w' from by
  go_enter Tryz.func189,Tryz.ntmps189
  go_wp2
  go_loopw [8] (fun i wr=>i=.int .i64 0∧w=wr) (fun _ _=>0)
  case atStart=>exact⟨rfl,rfl⟩
  case round=>
   obtain⟨rfl,rfl⟩:=hrel
   go_wp2
   go_ret
   exact⟨rfl,rfl⟩)
 go_enter Tryz.func139,Tryz.ntmps139
 go_wp2_with (go_at_call 189;go_must (refine(H1.out _).mono ?_);rintro e w1 ⟨rfl,rfl⟩)
 go_ret
 exact⟨rfl,rfl⟩
def VwOut (w:World) (e:Ending) (w':World):Prop:=∃A1 n1 c1 A2 n2 c2 A3 n3 c3 A4 n4 c4,e=.returned (.tuple #[.agg #[.slice A1 n1 c1,.slice A2 n2 c2,.slice A3 n3 c3,.slice A4 n4 c4,.int .i64 0],.int .i64 0])∧Below w.heap.size w w'
theorem viewTake_0 (w:World) (hT:Tab w):Calls Tryz.prog 68 #[.agg vwZ,.agg ntZ] w (VwOut w):=by
 obtain⟨W0,hW0⟩:∃W,W=((w.alloc (.cells vwZ 35)).alloc (.cells ntZ 26)).alloc (.cells vwZ 35):=⟨_,rfl⟩
 have k0:Below w.heap.size w W0:=by rw[hW0];exact(((Below.refl _ _).alloc (Nat.le_refl _) _).alloc (by simp) _).alloc (by simp;omega) _
 have hs0:W0.heap.size=w.heap.size+1+1+1:=by rw[hW0];simp
 have b0:Blk W0 w.heap.size 35 vwZ:=by rw[hW0];exact((Blk.new w _ _).alloc _).alloc _
 have b1:Blk W0 (w.heap.size+1) 26 ntZ:=by
  rw[hW0]
  have h:=(Blk.new (w.alloc (.cells vwZ 35)) 26 ntZ).alloc (.cells vwZ 35)
  rw[World.size_alloc] at h;exact h
 have b2:Blk W0 (w.heap.size+1+1) 35 vwZ:=by
  rw[hW0]
  have h:=Blk.new ((w.alloc (.cells vwZ 35)).alloc (.cells ntZ 26)) 35 vwZ
  rw[World.size_alloc,World.size_alloc] at h;exact h
 have G1:=Hz_ fun (W:World) (hb:Below w.heap.size w W)=>viewFormed_any ⟨none,0,none,0,none,0,none,0⟩ Wq.vw0 [] [] W (hT.below hb) ⟨Rd.none_,RdZ.none_ _ _,rfl,Rd.none_,RdBs.none_ _ _,rfl⟩
 have G2:=fun (W:World) (hb:Below w.heap.size w W)=>take_any none none 0 0 0 0 [] [] ⟨none,0,0,none,0,0,none,0,0,none,0,0⟩ Wq.ntz W (hT.below hb) (RdZ.none_ _ _) rfl Rd.none_ ⟨rfl,Rd.none_,rfl,Rd.none_,rfl,Rd.none_,rfl,Rd.none_⟩
 rw[show tkE (zns []) [] Wq.ntz=0 by decide +kernel] at G2
 have G1:=Hz_ (show ∀W,Below w.heap.size w W→Calls Tryz.prog 26 #[.agg vwZ] W fun e w'=>e=.returned (.bool true)∧Below W.heap.size W w' from fun W hb=>by
  have h:=G1.out W hb
  rw[show vwF Wq.vw0=true by decide +kernel] at h
  exact h)
 have G2:=Hz_ G2
 have G3:=Hz_ cloneWr_nil
 have G4:=Hz_ deleteNilV
 have G5:=Hz_ shelfPut_0
 have G6:=Hz_ fun (W:World)=>cacheForget_any none 0 0 [] (-1) W (RdBs.none_ _ _) (by decide) (by simp)
 have HW0:=Hz_ hW0.symm
 obtain⟨P,hP⟩:∃P,P=w.heap.size:=⟨_,rfl⟩
 have HB0:=Hz_ (fun (W:World) (hb:Below W0.heap.size W0 W)=>b0.go hb)
 have HB1:=Hz_ (fun (W:World) (hb:Below W0.heap.size W0 W)=>b1.go hb)
 have HB2:=Hz_ (fun (W:World) (hb:Below W0.heap.size W0 W)=>b2.go hb)
 have K0:=Hz_ k0
 have HS:=Hz_ hs0
 have hi:(Tryz.prog.info? 35).map (·.size)=some 5:=by kernel_rfl
 have HI:=Hz_ hi
 clear hP k0 hs0 b0 b1 b2 hW0 hi hT
 unfold vwZ at HW0 HB0 HB2 G1
 unfold ntZ at HW0 HB1
 unfold vwZ ntZ
 go_enter Tryz.func68,Tryz.ntmps68
 go_upto_region 1 with fail
 rw[HW0.out]
 obtain⟨p0,p1,p2,p3,p4⟩:=(HB0.out _ (Below.refl _ _)).five
 go_wp2_with fail
 refine(G1.out _ K0.out).mono ?_
 rintro e w1 ⟨rfl,hb1⟩
 have kw:=hb1
 have kk:=btn K0.out hb1
 clear p0 p1 p2 p3 p4 hb1
 obtain⟨p0,p1,p2,p3,p4⟩:=(HB0.out _ kw).five
 obtain⟨q0,q1,q2,q3⟩:=(HB1.out _ kw).quad
 go_wp2_with fail
 refine(G2.out _ kk).mono ?_
 rintro e w2 ⟨A',k',c',M,B',m',d',rfl,-,-,-,-,hb2⟩
 have kw:=btn kw hb2
 have kk:=btn kk hb2
 clear p0 p1 p2 p3 p4 q0 q1 q2 q3 hb2
 obtain⟨p0,p1,p2,p3,p4⟩:=(HB0.out _ kw).five
 obtain⟨q0,q1,q2,q3⟩:=(HB1.out _ kw).quad
 clear p0 p1 p2 p3 p4 q0 q1 q2 q3
 go_upto_region 6 with fail
 obtain⟨W3,hW3⟩:∃W,W=(w2.alloc (.cells #[.slice A' k' c'] 32)).alloc (.cells #[.slice B' m' d'] 22):=⟨_,rfl⟩
 have k3:Below w2.heap.size w2 W3:=by rw[hW3];exact((Below.refl _ _).alloc (Nat.le_refl _) _).alloc (by simp) _
 have z0:Blk W3 w2.heap.size 32 #[.slice A' k' c']:=by rw[hW3];exact(Blk.new w2 _ _).alloc _
 have z1:Blk W3 (w2.heap.size+1) 22 #[.slice B' m' d']:=by
  rw[hW3]
  have h:=Blk.new (w2.alloc (.cells #[.slice A' k' c'] 32)) 22 #[.slice B' m' d']
  rw[World.size_alloc] at h;exact h
 rw[←hW3]
 have kw:=btn kw k3
 have kk:=btn kk k3
 have HZ0:=Hz_ (fun (W:World) (hb:Below W3.heap.size W3 W)=>(z0.go hb).cell 0)
 have HZ1:=Hz_ (fun (W:World) (hb:Below W3.heap.size W3 W)=>(z1.go hb).cell 0)
 generalize w2.heap.size=g2 at HZ0 HZ1 ⊢
 clear z0 z1 hW3 k3
 obtain⟨q0,q1,q2,q3⟩:=(HB1.out _ kw).quad
 go_wp2_with fail
 refine(G3.out _).mono ?_
 rintro e w3 ⟨rfl,hb3⟩
 clear q0 q1 q2 q3
 go_wp2_with fail
 refine(G4.out _ _).mono ?_
 rintro e w4 ⟨rfl,rfl⟩
 have k4:=hb3
 have kw:=btn kw hb3
 have kk:=btn kk hb3
 clear hb3
 obtain⟨p0,p1,p2,p3,p4⟩:=(HB0.out _ kw).five
 go_wp2_with fail
 refine(G5.out _).mono ?_
 rintro e w5 ⟨A5,c5,rfl,hb5⟩
 have k4:=btn k4 hb5
 have kw:=btn kw hb5
 have kk:=btn kk hb5
 clear p0 p1 p2 p3 p4 hb5
 obtain⟨p0,p1,p2,p3,p4⟩:=(HB0.out _ kw).five
 go_wp2_with fail
 refine(G6.out _).mono ?_
 rintro e w6 ⟨A6,k6,c6,rfl,-,hb6⟩
 have k4:=btn k4 hb6
 have kw:=btn kw hb6
 have kk:=btn kk hb6
 clear p0 p1 p2 p3 p4 hb6
 have y0:w6.cell? ⟨g2,0,none⟩=some (.slice A' k' c'):=HZ0.out _ k4
 have y1:w6.cell? ⟨g2+1,0,none⟩=some (.slice B' m' d'):=HZ1.out _ k4
 have hB2:=HB2.out _ kw
 obtain⟨p0,p1,p2,p3,p4⟩:=(HB0.out _ kw).five
 go_wp2_with fail
 go_loopw [13,14,11,54] (fun _ _ v11 v54 wr=>v11=.slice A6 k6 c6∧v54=.int .i64 0∧wr=w6) (fun _ _ _ _ _=>0)
 case atStart=>exact⟨rfl,rfl,rfl⟩
 case round=>
  obtain⟨rfl,rfl,rfl⟩:=hrel
  go_wp2_with (refine wpList_store_blk rfl 35 _ _ rfl (w.heap.size+1+1) 35 _ #[.slice B' m' d',.slice A' k' c',.slice A5 0 c5,.slice A6 k6 c6,.int .i64 0] rfl rfl hB2 HI.out rfl (by simp[Value.oneCell']) ?_;intro Wd hblk hg)
  refine bodyPost_ret (results_cell_tmp rfl _ _ (w.heap.size+1+1) 35 _ _ _ rfl hblk Tryz.underlying35 rfl HI.out) rfl ?_
  exact⟨_,_,_,_,_,_,_,_,_,_,_,_,rfl,kk.trans (grown_below hg kk.size (fun k hk=>by cases hk;omega))⟩
def VwO1 (w:World) (e:Ending) (w':World):Prop:=∃A1 n1 c1 A2 n2 c2 A3 n3 c3 A4 n4 c4,e=.returned (.agg #[.slice A1 n1 c1,.slice A2 n2 c2,.slice A3 n3 c3,.slice A4 n4 c4,.int .i64 0])∧Below w.heap.size w w'
theorem ownView_0 (w:World) (hT:Tab w):Calls Tryz.prog 70 #[.agg vwZ] w (VwO1 w):=by
 obtain⟨W0,hW0⟩:∃W,W=(w.alloc (.cells vwZ 35)).alloc (.cells vwZ 35):=⟨_,rfl⟩
 have k0:Below w.heap.size w W0:=by rw[hW0];exact((Below.refl _ _).alloc (Nat.le_refl _) _).alloc (by simp) _
 have b0:Blk W0 w.heap.size 35 vwZ:=by rw[hW0];exact(Blk.new w _ _).alloc _
 have b1:Blk W0 (w.heap.size+1) 35 vwZ:=by
  rw[hW0]
  have h:=Blk.new (w.alloc (.cells vwZ 35)) 35 vwZ
  rw[World.size_alloc] at h;exact h
 have G1:=Hz_ fun (W:World) (hb:Below w.heap.size w W)=>viewTake_0 W (hT.below hb)
 have HW0:=Hz_ hW0.symm
 have K0:=Hz_ k0
 have HB1:=Hz_ (fun (W:World) (hb:Below W0.heap.size W0 W)=>b1.go hb)
 obtain⟨p0,p1,p2,p3,p4⟩:=(show Blk W0 w.heap.size 35 #[.slice none 0 0,.slice none 0 0,.slice none 0 0,.slice none 0 0,.int .i64 0] from b0).five
 have hi:(Tryz.prog.info? 35).map (·.size)=some 5:=by kernel_rfl
 have HI:=Hz_ hi
 unfold vwZ at G1 HW0 HB1 ⊢
 unfold ntZ VwOut at G1
 clear hT k0 b0 b1 hW0 hi
 go_enter Tryz.func70,Tryz.ntmps70
 go_upto_region 1 with fail
 rw[HW0.out]
 go_wp2_with fail
 refine(G1.out _ K0.out).mono ?_
 rintro e w1 ⟨A1,n1,c1,A2,n2,c2,A3,n3,c3,A4,n4,c4,rfl,hb1⟩
 have kk:=btn K0.out hb1
 have hB:=(HB1.out _ hb1).alloc (.cells #[.slice A1 n1 c1,.slice A2 n2 c2,.slice A3 n3 c3,.slice A4 n4 c4,.int .i64 0] 35)
 clear p0 p1 p2 p3 p4 hb1
 go_wp2_with (refine wpList_store_blk rfl 35 _ _ rfl (w.heap.size+1) 35 _ #[.slice A1 n1 c1,.slice A2 n2 c2,.slice A3 n3 c3,.slice A4 n4 c4,.int .i64 0] rfl rfl hB HI.out rfl (by simp[Value.oneCell']) ?_;intro Wd hblk hg)
 refine bodyPost_ret (results_cell_row rfl _ _ (w.heap.size+1) 35 _ _ _ rfl hblk Tryz.underlying35 rfl HI.out) rfl ?_
 have ka:Below w.heap.size w (w1.alloc (.cells #[.slice A1 n1 c1,.slice A2 n2 c2,.slice A3 n3 c3,.slice A4 n4 c4,.int .i64 0] 35)):=kk.alloc kk.size _
 exact⟨_,_,_,_,_,_,_,_,_,_,_,_,rfl,ka.trans (grown_below hg ka.size (fun k hk=>by cases hk;omega))⟩
theorem results_cell_tmps {P:Program} {fn:Func} {p q r:Tmp} {ty:TypeId} (h:fn.results=#[.cell p ty,.tmp q,.tmp r]) (tmps:Array Value) (w:World) (g:Nat) (t:TypeId) (cs:Array Value) (fr:Nat×Nat) (d:TypeDesc)
  (hp:tmps.getD p undef=.pointer (some ⟨g,0,none⟩)) (hg:w.heap[g]?=some (.cells cs t fr))
  (hu:P.underlying ty=some d) (hd:(match d with | .struct _ | .array _ _=>true | _=>false)=true) (hi:(P.info? ty).map (·.size)=some cs.size):
  (results fn tmps).run P w=.ok (.tuple #[.agg cs,tmps.getD q undef,tmps.getD r undef]) w:=by
 have hp':tmps[p]?.getD undef=.pointer (some ⟨g,0,none⟩):=by simpa using hp
 simp[results,h,hp',asAddr,run_loadVar_row w g t ty cs fr d hg hu hd hi]
theorem cloneSb_nil (w:World):Calls Tryz.prog 137 #[.slice none 0 0] w fun e w'=>e=.returned (.slice none 0 0)∧Below w.heap.size w w':=by
 have ht:=fun W=>Lib.run_eql_slice_nil (P:=Tryz.prog) W 36 65 none 0 0 0 0 Tryz.underlying36
 go_enter Tryz.func137,Tryz.ntmps137
 go_wp2
 go_ret
 exact⟨rfl,Below.refl _ _⟩
theorem entOwn_nil (w:World):Calls Tryz.prog 67 #[.slice none 0 0] w fun e w'=>e=.returned (.slice none 0 0)∧Below w.heap.size w w':=by
 have G:=Hz_ cloneSb_nil
 go_enter Tryz.func67,Tryz.ntmps67
 go_wp2_with (go_at_call 137;go_must (refine(G.out _).mono ?_);rintro e w1 ⟨rfl,hb1⟩)
 go_loopw [4,9] (fun _ v9 wr=>v9=.int .i64 0∧Below w.heap.size w wr) (fun _ _ _=>0)
 case atStart=>exact⟨rfl,hb1⟩
 case round=>
  obtain⟨rfl,hb⟩:=hrel
  go_wp2
  go_ret
  exact⟨rfl,hb⟩
theorem subSearch_nil (o:Int) (fv:Value) (w:World):Calls Tryz.prog 71 #[.slice none 0 0,.int .i64 o,fv] w fun e w'=>e=.returned (.tuple #[.int .i64 0,.bool false])∧Below w.heap.size w w':=by
 go_enter Tryz.func71,Tryz.ntmps71
 go_wp2
 go_loopw [9,10,11] (fun v9 v10 _ wr=>v9=.int .i64 0∧v10=.int .i64 0∧Below w.heap.size w wr) (fun _ _ _ _=>0)
 case atStart=>exact⟨rfl,rfl,Below.refl _ _⟩
 case round=>
  obtain⟨rfl,rfl,hb⟩:=hrel
  go_wp2
  go_ret2
  exact⟨rfl,hb⟩
theorem subInsert_nil (A:Option Addr) (c:Nat) (ys:List Value) (w:World) (hR:Rd w w.heap.size 7 A 1 c ys) (h1:∀u∈ys,u.oneCell'=true):Calls Tryz.prog 75 #[.slice none 0 0,.int .i64 0,.slice A 1 c] w fun e w'=>∃A' c',e=.returned (.slice A' 1 c')∧w'.ownsRow w.heap.size 65 7 (.slice A' 1 c') 1 ys∧Below w.heap.size w w':=by
 obtain⟨is0,hsi0,hsz0,hsz1,hsz2⟩:=info_parts sub_info
 have h1max:0+1≤maxLen:=by unfold maxLen;omega
 have HR:=Hz_ hR
 have H1:=Hz_ h1
 clear hR h1
 go_enter Tryz.func75,Tryz.ntmps75
 go_wp2_with (at_builtin;go_must (refine wpList_append_rd _ rfl (.tmp 23) (.tmp 24) _ rfl w.heap.size 65 is0 _ 7 56 Tryz.underlying36 hsi0 hsz0 hsz1 hsz2 rfl (by decide) (.slice none 0 0) 0 [] rfl (World.ownsRow_nil _ _ _ _) w.heap.size A 1 c ys rfl HR.out H1.out h1max (by decide) (Nat.le_refl _) ?_);intro A' c' w1 hown hg hat)
 go_ret
 exact⟨A',c',rfl,by simpa using hown,(Below.refl _ _).trans (grown_below hg (Nat.le_refl _) (by simp[Value.ownBlock]))⟩
def PlyOut (w:World) (e:Ending) (w':World):Prop:=∃B1 m1 d1 B2 m2 d2 B3 m3 d3 B4 m4 d4 A c,e=.returned (.tuple #[.agg #[.slice B1 m1 d1,.slice B2 m2 d2,.slice B3 m3 d3,.slice B4 m4 d4,.int .i64 0],.slice A 1 c,.int .i64 0])∧∃ys,Rd w' w'.heap.size 7 A 1 c (.int .i64 2 :: ys)∧Below w.heap.size w w'
theorem play_al (u:EV) (w:World) (hT:Tab w) (hE:EntR w w.heap.size u xal):Calls Tryz.prog 20 #[.agg vwZ,.slice none 0 0,.agg (eval xal u)] w (PlyOut w):=by
 obtain⟨L,M,S,hE⟩:=hE
 have e1:=hE.nt.l1
 have e2:=hE.nt.l2
 have e3:=hE.nt.l3
 have e4:=hE.nt.l4
 have HI_:=Hz_ fun (W:World) (hb:Below w.heap.size w W)=>cloneSp_any u.iA 1 u.ic (sv [(1,3)]) W (hE.it.go hb) (fun v hv=>by simp[sv] at hv;rcases hv with rfl | rfl<;>rfl) (by decide)
 have G3:=fun (W:World) (hb:Below w.heap.size w W)=>entFormed_any u xal L M S W (hT.below hb) (hE.go hb) (by decide) (by rw[←e1,←e2,←e3,←e4];decide) (by decide)
 rw[show entF xal=true by decide +kernel] at G3
 obtain⟨⟨A1,n1,c1,A2,n2,c2,A3,n3,c3,A4,n4,c4⟩,bA,bc,iA,ic,⟨kA,kc,zA,zc,hA,hc,vA,vc⟩,sA,sc⟩:=u
 dsimp only at e1 e2 e3 e4 HI_
 obtain rfl:0=n1:=e1
 obtain rfl:0=n2:=e2
 obtain rfl:0=n3:=e3
 obtain rfl:0=n4:=e4
 have hev:eval xal ⟨⟨A1,0,c1,A2,0,c2,A3,0,c3,A4,0,c4⟩,bA,bc,iA,ic,⟨kA,kc,zA,zc,hA,hc,vA,vc⟩,sA,sc⟩=#[.int .i64 4,.slice A1 0 c1,.slice A2 0 c2,.slice A3 0 c3,.slice A4 0 c4,.int .i64 0,.int .i64 0,.int .i64 0,.slice bA 0 bc,.int .i64 2,.slice iA 1 ic,.slice kA 0 kc,.slice zA 0 zc,.slice hA 0 hc,.slice vA 0 vc,.int .i64 0,.slice sA 0 sc]:=rfl
 rw[hev] at G3 ⊢
 clear hev hE
 have h1max:1≤maxLen:=by unfold maxLen;omega
 have G1:=Hz_ (show ∀W,Below w.heap.size w W→Calls Tryz.prog 26 #[.agg vwZ] W fun e w'=>e=.returned (.bool true)∧Below W.heap.size W w' from fun W hb=>by
  have h:=viewFormed_any ⟨none,0,none,0,none,0,none,0⟩ Wq.vw0 [] [] W (hT.below hb) ⟨Rd.none_,RdZ.none_ _ _,rfl,Rd.none_,RdBs.none_ _ _,rfl⟩
  rw[show vwF Wq.vw0=true by decide +kernel] at h
  exact h)
 have G2:=Hz_ (show ∀W,Calls Tryz.prog 42 #[.slice none 0 0] W fun e w'=>e=.returned (.bool true)∧Below W.heap.size W w' from fun W=>entRest_any none 0 0 [] W (RdSb.none_ _ _))
 have G3:=Hz_ G3
 have G4:=Hz_ entOwn_nil
 have G5:=Hz_ fun (W:World) (hb:Below w.heap.size w W)=>ownView_0 W (hT.below hb)
 have G6:=Hz_ subSearch_nil
 have G7:=Hz_ subInsert_nil
 unfold vwZ at G1 G5 ⊢
 unfold VwO1 at G5
 obtain⟨W0,hW0⟩:∃W,W=((w.alloc (.cells #[.slice none 0 0,.slice none 0 0,.slice none 0 0,.slice none 0 0,.int .i64 0] 35)).alloc (.cells #[.int .i64 4,.slice A1 0 c1,.slice A2 0 c2,.slice A3 0 c3,.slice A4 0 c4,.int .i64 0,.int .i64 0,.int .i64 0,.slice bA 0 bc,.int .i64 2,.slice iA 1 ic,.slice kA 0 kc,.slice zA 0 zc,.slice hA 0 hc,.slice vA 0 vc,.int .i64 0,.slice sA 0 sc] 38)).alloc (.cells #[.slice none 0 0,.slice none 0 0,.slice none 0 0,.slice none 0 0,.int .i64 0] 35):=⟨_,rfl⟩
 have k0:Below w.heap.size w W0:=by rw[hW0];exact(((Below.refl _ _).alloc (Nat.le_refl _) _).alloc (by simp) _).alloc (by simp;omega) _
 have hs0:W0.heap.size=w.heap.size+1+1+1:=by rw[hW0];simp
 have b0:Blk W0 w.heap.size 35 #[.slice none 0 0,.slice none 0 0,.slice none 0 0,.slice none 0 0,.int .i64 0]:=by rw[hW0];exact((Blk.new w _ _).alloc _).alloc _
 have b1:Blk W0 (w.heap.size+1) 38 #[.int .i64 4,.slice A1 0 c1,.slice A2 0 c2,.slice A3 0 c3,.slice A4 0 c4,.int .i64 0,.int .i64 0,.int .i64 0,.slice bA 0 bc,.int .i64 2,.slice iA 1 ic,.slice kA 0 kc,.slice zA 0 zc,.slice hA 0 hc,.slice vA 0 vc,.int .i64 0,.slice sA 0 sc]:=by
  rw[hW0]
  have h:=(Blk.new (w.alloc (.cells #[.slice none 0 0,.slice none 0 0,.slice none 0 0,.slice none 0 0,.int .i64 0] 35)) 38 #[.int .i64 4,.slice A1 0 c1,.slice A2 0 c2,.slice A3 0 c3,.slice A4 0 c4,.int .i64 0,.int .i64 0,.int .i64 0,.slice bA 0 bc,.int .i64 2,.slice iA 1 ic,.slice kA 0 kc,.slice zA 0 zc,.slice hA 0 hc,.slice vA 0 vc,.int .i64 0,.slice sA 0 sc]).alloc (.cells #[.slice none 0 0,.slice none 0 0,.slice none 0 0,.slice none 0 0,.int .i64 0] 35)
  rw[World.size_alloc] at h;exact h
 have b2:Blk W0 (w.heap.size+1+1) 35 #[.slice none 0 0,.slice none 0 0,.slice none 0 0,.slice none 0 0,.int .i64 0]:=by
  rw[hW0]
  have h:=Blk.new ((w.alloc (.cells #[.slice none 0 0,.slice none 0 0,.slice none 0 0,.slice none 0 0,.int .i64 0] 35)).alloc (.cells #[.int .i64 4,.slice A1 0 c1,.slice A2 0 c2,.slice A3 0 c3,.slice A4 0 c4,.int .i64 0,.int .i64 0,.int .i64 0,.slice bA 0 bc,.int .i64 2,.slice iA 1 ic,.slice kA 0 kc,.slice zA 0 zc,.slice hA 0 hc,.slice vA 0 vc,.int .i64 0,.slice sA 0 sc] 38)) 35 #[.slice none 0 0,.slice none 0 0,.slice none 0 0,.slice none 0 0,.int .i64 0]
  rw[World.size_alloc,World.size_alloc] at h;exact h
 have HW0:=Hz_ hW0.symm
 have HB0:=Hz_ (fun (W:World) (hb:Below W0.heap.size W0 W)=>(b0.go hb).five)
 have HB1:=Hz_ (fun (W:World) (hb:Below W0.heap.size W0 W)=>(b1.go hb).c17)
 have HB2:=Hz_ (fun (W:World) (hb:Below W0.heap.size W0 W)=>b2.go hb)
 have K0:=Hz_ k0
 have HS:=Hz_ hs0
 have hi:(Tryz.prog.info? 35).map (·.size)=some 5:=by kernel_rfl
 have HI:=Hz_ hi
 clear k0 hs0 b0 b1 b2 hW0 hi hT
 go_enter Tryz.func20,Tryz.ntmps20
 go_upto_region 1 with fail
 rw[HW0.out]
 obtain⟨q0,q1,q2,q3,q4⟩:=HB0.out _ (Below.refl _ _)
 go_wp2_with fail
 refine(G1.out _ K0.out).mono ?_
 rintro e w1 ⟨rfl,hb1⟩
 have kw:=hb1
 have kk:=btn K0.out hb1
 clear q0 q1 q2 q3 q4
 clear hb1
 go_wp2_with fail
 refine(G2.out _).mono ?_
 rintro e w2 ⟨rfl,hb1⟩
 have kw:=btn kw hb1
 have kk:=btn kk hb1
 clear hb1
 obtain⟨p0,p1,p2,p3,p4,p5,p6,p7,p8,p9,p10,p11,p12,p13,p14,p15,p16⟩:=HB1.out _ kw
 go_wp2_with fail
 refine(G3.out _ kk).mono ?_
 rintro e w3 ⟨rfl,hb1⟩
 have kw:=btn kw hb1
 have kk:=btn kk hb1
 clear hb1
 clear p0 p1 p2 p3 p4 p5 p6 p7 p8 p9 p10 p11 p12 p13 p14 p15 p16
 go_wp2_with fail
 refine(G4.out _).mono ?_
 rintro e w4 ⟨rfl,hb1⟩
 have kw:=btn kw hb1
 have kk:=btn kk hb1
 clear hb1
 obtain⟨p0,p1,p2,p3,p4,p5,p6,p7,p8,p9,p10,p11,p12,p13,p14,p15,p16⟩:=HB1.out _ kw
 go_upto_region 4 with fail
 obtain⟨W4,hW4⟩:∃W,W=w4.alloc (.cells #[.slice none 0 0,.slice none 0 0,.slice none 0 0,.slice none 0 0,.int .i64 0] 35):=⟨_,rfl⟩
 have k4:Below w4.heap.size w4 W4:=by rw[hW4];exact(Below.refl _ _).alloc (Nat.le_refl _) _
 have z0:Blk W4 w4.heap.size 35 #[.slice none 0 0,.slice none 0 0,.slice none 0 0,.slice none 0 0,.int .i64 0]:=by rw[hW4];exact Blk.new w4 _ _
 have hg4:w.heap.size+1+1 < w4.heap.size:=by have:=kw.size;have:=HS.out;omega
 rw[←hW4]
 have HZ:=Hz_ (fun (W:World) (hb:Below W4.heap.size W4 W)=>z0.go hb)
 have kw:=btn kw k4
 have kk:=btn kk k4
 have HG4:=Hz_ (show w4.heap.size < W4.heap.size from z0.lt)
 generalize w4.heap.size=g4 at HZ hg4 HG4 ⊢
 clear z0 hW4 k4
 clear p0 p1 p2 p3 p4 p5 p6 p7 p8 p9 p10 p11 p12 p13 p14 p15 p16
 obtain⟨p0,p1,p2,p3,p4,p5,p6,p7,p8,p9,p10,p11,p12,p13,p14,p15,p16⟩:=HB1.out _ kw
 obtain⟨q0,q1,q2,q3,q4⟩:=HB0.out _ kw
 go_wp2_with fail
 refine(G5.out _ kk).mono ?_
 rintro e w5 ⟨B1,m1,d1,B2,m2,d2,B3,m3,d3,B4,m4,d4,rfl,hb5⟩
 have k5:=hb5
 have kw:=btn kw hb5
 have kk:=btn kk hb5
 have hZ:=HZ.out _ hb5
 clear hb5
 clear p0 p1 p2 p3 p4 p5 p6 p7 p8 p9 p10 p11 p12 p13 p14 p15 p16
 clear q0 q1 q2 q3 q4
 go_wp2_with (refine wpList_store_blk rfl 35 _ _ rfl g4 35 _ #[.slice B1 m1 d1,.slice B2 m2 d2,.slice B3 m3 d3,.slice B4 m4 d4,.int .i64 0] rfl rfl hZ HI.out rfl (by simp[Value.oneCell']) ?_;intro W6 hblk hg;have HBL:=Hz_ hblk;have kw:=kw.trans (grown_below hg kw.size (fun k hk=>by cases hk;have:=HS.out;omega));have kk:=kk.trans (grown_below hg kk.size (fun k hk=>by cases hk;have:=K0.out.size;have:=HS.out;omega));clear hblk hg;obtain⟨p0,p1,p2,p3,p4,p5,p6,p7,p8,p9,p10,p11,p12,p13,p14,p15,p16⟩:=HB1.out _ kw)
 refine(G6.out _ _ _).mono ?_
 rintro e w7 ⟨rfl,hb7⟩
 have kw:=btn kw hb7
 have kk:=btn kk hb7
 have HBL:=Hz_ (HBL.out.go hb7)
 clear hb7
 clear p0 p1 p2 p3 p4 p5 p6 p7 p8 p9 p10 p11 p12 p13 p14 p15 p16
 obtain⟨p0,p1,p2,p3,p4,p5,p6,p7,p8,p9,p10,p11,p12,p13,p14,p15,p16⟩:=HB1.out _ kw
 go_upto_region 19 with fail
 have HXX:=Hz_ (fun (W:World) (hb:Below W0.heap.size W0 W)=>(show W.cell? ⟨w.heap.size+1,9,none⟩=some (.int .i64 2)∧W.cell? ⟨w.heap.size+1,10,none⟩=some (.slice iA 1 ic) from by obtain⟨p0,p1,p2,p3,p4,p5,p6,p7,p8,p9,p10,p11,p12,p13,p14,p15,p16⟩:=HB1.out W hb;exact⟨p9,p10⟩))
 clear p0 p1 p2 p3 p4 p5 p6 p7 p8 p9 p10 p11 p12 p13 p14 p15 p16
 have kw:=kw.drew
 have kk:=kk.drew
 have HBL:=Hz_ (show Blk w7.drew g4 35 #[.slice B1 m1 d1,.slice B2 m2 d2,.slice B3 m3 d3,.slice B4 m4 d4,.int .i64 0] from HBL.out)
 refine region_nrm fun KK hKK=>?_
 refine wp_region_held_drew (S:=(fun W=>W.cell? ⟨w.heap.size+1,9,none⟩=some (.int .i64 2)∧W.cell? ⟨w.heap.size+1,10,none⟩=some (.slice iA 1 ic))) (by kernel_rfl) (by first | exact HXX.out _ kw) (fun hHeld=>?_)
 refine puA 0 99 (HXX.out _ kw) ?_
 refine puA 1 100 (HXX.out _ kw) ?_
 refine puA 2 101 (HXX.out _ kw) ?_
 refine puA 3 102 (HXX.out _ kw) ?_
 refine puA 4 103 (HXX.out _ kw) ?_
 refine puA 5 104 (HXX.out _ kw) ?_
 refine puR 6 fun K hK=>?_
 go_simp
 refine(HI_.out _ kk).mono ?_
 rintro e w8 ⟨A8,c8,rfl,ho8,hb8⟩
 have kw:=btn kw hb8
 have kk:=btn kk hb8
 have HBL:=Hz_ (HBL.out.go hb8)
 clear hb8
 refine hK.out _ _ (HXX.out _ kw) fun hHeld=>?_
 clear hK K
 refine puA 7 106 (HXX.out _ kw) ?_
 refine puR 8 fun K hK=>?_
 go_simp
 have HA:=Hz_ (rd_new (size:=7) (n:=1) (cs:=#[.int .i64 2,.slice A8 1 c8,.int .i64 0,.int .i64 0,.bool false,.bool false,.bool false]) (t:=65) ((Below.refl w8.heap.size w8).alloc (Nat.le_refl _) _) rfl h1max)
 have kw:=kw.alloc kw.size (.cells #[.int .i64 2,.slice A8 1 c8,.int .i64 0,.int .i64 0,.bool false,.bool false,.bool false] 65)
 have kk:=kk.alloc kk.size (.cells #[.int .i64 2,.slice A8 1 c8,.int .i64 0,.int .i64 0,.bool false,.bool false,.bool false] 65)
 have HBL:=Hz_ (HBL.out.alloc (.cells #[.int .i64 2,.slice A8 1 c8,.int .i64 0,.int .i64 0,.bool false,.bool false,.bool false] 65))
 refine hK.out _ _ (HXX.out _ kw) fun hHeld=>?_
 clear hK K
 refine puR 9 fun K hK=>?_
 go_simp
 have kw0:=kw
 refine(G7.out _ _ _ _ HA.out (by simp[Value.oneCell'])).mono ?_
 rintro e w9 ⟨A9,c9,rfl,ho9,hb9⟩
 have kw:=btn kw hb9
 have kk:=btn kk hb9
 have HBL:=Hz_ (HBL.out.go hb9)
 have HO:=Hz_ (own_less ho9 (show w.heap.size+1+1+1≤_ from by have:=kw0.size;have:=HS.out;omega))
 clear hb9 ho9
 refine hK.out _ _ (HXX.out _ kw) fun hHeld=>?_
 clear hK K
 refine puA 10 10 (HXX.out _ kw) ?_
 refine wpAnyH_done (by kernel_rfl) ?_ _
 refine Nrm.out (hKK _ _ ?_)
 clear hHeld
 obtain⟨p0,p1,p2,p3,p4⟩:=HBL.out.five
 have hZ:=HB2.out _ kw
 go_wp2_with (refine wpList_store_blk rfl 35 _ _ rfl (w.heap.size+1+1) 35 _ #[.slice B1 m1 d1,.slice B2 m2 d2,.slice B3 m3 d3,.slice B4 m4 d4,.int .i64 0] rfl rfl hZ HI.out rfl (by simp[Value.oneCell']) ?_;intro Wd hblk hg)
 refine bodyPost_ret (results_cell_tmps rfl _ _ (w.heap.size+1+1) 35 _ _ _ rfl hblk Tryz.underlying35 rfl HI.out) rfl ?_
 exact⟨_,_,_,_,_,_,_,_,_,_,_,_,A9,c9,rfl,_,Rd.of_own (own_but HO.out (But.grown hg) (by omega)),kk.trans (grown_below hg kk.size (fun k hk=>by cases hk;omega))⟩
end Go.Proofs.YtmbeahbgafkjfaaGreatDoor
