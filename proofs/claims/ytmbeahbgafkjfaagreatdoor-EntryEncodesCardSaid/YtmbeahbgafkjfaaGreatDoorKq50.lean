/- Lemmas for the claim, layer 50. -/
import Derived.Test.YtmbeahbgafkjfaaGreatDoorKq31
import Derived.Test.YtmbeahbgafkjfaaGreatDoorKq45
import Derived.Test.YtmbeahbgafkjfaaGreatDoorKq49
set_option maxRecDepth 100000
set_option linter.unusedSimpArgs false
set_option maxHeartbeats 16000000
namespace Go.Proofs.YtmbeahbgafkjfaaGreatDoor
open Go.RowKit
theorem cacheForget_any (A:Option Addr) (n c:Nat) (L:List (BV×Wq.Bd)) (ob:Int) (w:World) (hR:RdBs w w.heap.size A n c L) (hn:n≤256) (hv:∀p∈L,p.2.v.length≤140737488355328):
  Calls Tryz.prog 143 #[.slice A n c,.int .i64 ob] w fun e w'=>∃A' k c',e=.returned (.slice A' k c')∧(∃M,OwnBd w' w.heap.size A' k c' M∧bds M=(bds L).filter fun y=>!decide (y.o=ob))∧Below w.heap.size w w':=by
 obtain⟨ib0,hbi0,hbz0,hbz1,hbz2⟩:=info_parts body_info
 have h1max:1≤maxLen:=by unfold maxLen;omega
 have hln:=hR.len
 have HL:=Hz_ hln
 have HR:=Hz_ hR
 have HV:=Hz_ hv
 clear hR hln hv
 go_enter Tryz.func143,Tryz.ntmps143
 go_wp2
 go_loopw [5,7,10] (fun v5 _ v10 wr=>∃(j k c':Nat) (A':Option Addr),v10=.int .i64 j∧v5=.slice A' k c'∧j≤n∧k≤j∧Below w.heap.size w wr∧Hid (∃M,OwnBd wr w.heap.size A' k c' M∧bds M=((bds L).take j).filter fun y=>!decide (y.o=ob))) (fun _ _ v10 _=>n - (intOf v10).toNat)
 case atStart=>exact⟨0,0,0,none,rfl,rfl,by omega,by omega,Below.refl _ _,[],OwnBd.nil _ _,rfl⟩
 case round=>
  obtain⟨j,k,c',A',rfl,rfl,hj,hk,hb,hq⟩:=hrel
  by_cases hlt:j < n
  ·have hjL:j < L.length:=by rw[HL.out];exact hlt
   have hjB:j < (bds L).length:=by rw[bds_len];exact hjL
   obtain⟨M,hM,hMz⟩:=hq.out
   obtain⟨b,oo,rfl,hab,g0,g1,g2,g3⟩:=((HR.out.below hb)).body hjL
   have hRv:=(HR.out.go hb).each _ (List.getElem_mem hjL)
   have hvz:=HV.out _ (List.getElem_mem hjL)
   have hnx:=List.take_succ_eq_append_getElem hjB
   rw[bds_at L j hjL] at hnx
   generalize L[j]=q at g0 g1 g2 g3 hRv hvz hnx
   obtain⟨⟨xA,xc⟩,⟨o_,⟨a_,b_⟩,xv⟩⟩:=q
   dsimp only at g0 g1 g2 g3 hRv hvz hnx
   have hb9:Below wr.heap.size wr (wr.alloc (.cells #[.int .i64 o_,.int .i64 a_,.int .i64 b_,.slice xA xv.length xc] 31)):=(Below.refl _ _).alloc (Nat.le_refl _) _
   have hX9:=Blk.new wr 31 #[.int .i64 o_,.int .i64 a_,.int .i64 b_,.slice xA xv.length xc]
   have G:=cacheTwin_any ⟨o_,(a_,b_),xv⟩ xA xc _ (hRv.go hb9) hvz
   unfold bval at G
   dsimp only at G
   have hM9:=hM.below hb9
   have kw:=btn hb hb9
   have hbs:=hb.size
   generalize hV9:wr.alloc (.cells #[.int .i64 o_,.int .i64 a_,.int .i64 b_,.slice xA xv.length xc] 31)=V9 at hX9 G hM9 kw
   have HV9:=Hz_ hV9
   obtain⟨m,hm⟩:∃m,m=xv.length:=⟨_,rfl⟩
   rw[←hm] at G hX9 g3
   have HV9:=Hz_ (show wr.alloc (.cells #[.int .i64 o_,.int .i64 a_,.int .i64 b_,.slice xA m xc] 31)=V9 by rw[hm];exact HV9.out)
   have HM:=Hz_ hm
   have G:=Hz_ G
   have HNX:=Hz_ hnx
   have HMZ:=Hz_ hMz
   have KM:=Hz_ hM9
   obtain⟨r0,r1,r2,r3⟩:=hX9.quad
   clear hV9 hX9 hb9 hM9 hM hMz hnx hRv hvz hm hjB hjL hq hb hab
   go_upto_region 5 with fail
   rw[HV9.out]
   clear g0 g1 g2 g3
   by_cases ho:o_=ob
   ·subst ho
    go_wp2_with fail
    go_roundw
    case rel=>
     refine⟨j+1,k,c',A',by go_num,rfl,by omega,by omega,kw,?_⟩
     refine⟨M,KM.out,?_⟩
     rw[HNX.out,List.filter_append,←HMZ.out]
     simp
    case measure=>simp[intOf];omega
   ·have hne:(o_ != ob)=true:=by simpa using ho
    have HO:=Hz_ ho
    clear ho
    go_wp2_with fail
    refine G.out.mono ?_
    rintro e w1 ⟨D,d,rfl,hd,hb1⟩
    have KM:=Hz_ (KM.out.below hb1)
    have kw:=btn kw hb1
    have hsz:w.heap.size≤V9.heap.size:=by
     have h:=HV9.out
     have e:V9.heap.size=wr.heap.size+1:=by rw[←h];simp
     omega
    have HD:=Hz_ (own_less hd hsz)
    clear hsz
    have hb':Below w1.heap.size w1 (w1.alloc (.cells #[.int .i64 o_,.int .i64 a_,.int .i64 b_,.slice D m d] 31)):=(Below.refl _ _).alloc (Nat.le_refl _) _
    have C:=Hz_ (rd_new hb' (size:=4) (n:=1) rfl h1max)
    have KM:=Hz_ (KM.out.below hb')
    have HD:=Hz_ (own_below HD.out hb' (Nat.le_refl _))
    have kw:=btn kw hb'
    clear hd hb1 hb' r0 r1 r2 r3
    go_wp2_with (at_builtin;go_must (refine wpList_append_rd _ rfl (.tmp 18) (.tmp 21) _ rfl w.heap.size 31 ib0 _ 4 48 Tryz.underlying33 hbi0 hbz0 hbz1 hbz2 rfl (by decide) _ k (bvv M) rfl KM.out.row _ _ 1 1 [.int .i64 o_,.int .i64 a_,.int .i64 b_,.slice D m d] rfl C.out (by simp[Value.oneCell']) (by unfold maxLen;omega) (by omega) kw.size ?_);intro A9 c9 W9 ho hg hat)
    have KZ:=Hz_ (KM.out.push (p:=(⟨D,d⟩,⟨o_,(a_,b_),xv⟩)) (by dsimp only;rw[←HM.out];exact HD.out) hg (by unfold bvl;dsimp only;rw[←HM.out];exact ho))
    have kz:=kw.trans (grown_below hg kw.size (fun g hg'=>(KM.out.row.lt g hg').1))
    clear ho hg hat KM C HD
    go_roundw
    case rel=>
     refine⟨j+1,k+1,c9,A9,by go_num,rfl,by omega,by omega,kz,?_⟩
     refine⟨_,KZ.out,?_⟩
     rw[HNX.out,List.filter_append,←HMZ.out,bds_app]
     simp[HO.out,bds]
    case measure=>simp[intOf];omega
  ·obtain rfl:n=j:=by omega
   obtain⟨M,hM,hMz⟩:=hq.out
   have KM:=Hz_ hM
   have HMZ:=Hz_ (show bds M=(bds L).filter fun y=>!decide (y.o=ob) by rw[hMz,List.take_of_length_le (by rw[bds_len,HL.out];exact Nat.le_refl _)])
   clear hM hMz hq
   go_wp2
   go_ret
   exact⟨_,_,_,rfl,⟨M,KM.out,HMZ.out⟩,hb⟩
theorem clipWr_any (A:Option Addr) (n c:Nat) (w:World) (hc:n≤c) (_hm:c≤maxLen):
  Calls Tryz.prog 193 #[.slice A n c] w fun e w'=>e=.returned (.slice A n n)∧Below w.heap.size w w':=by
 go_enter Tryz.func193,Tryz.ntmps193
 go_wp2
 go_ret
 exact⟨rfl,Below.refl _ _⟩
theorem shelfPut_0 (w:World):Calls Tryz.prog 142 #[.slice none 0 0,.slice none 0 0] w fun e w'=>∃A c,e=.returned (.tuple #[.slice A 0 c,.int .i64 0])∧Below w.heap.size w w':=by
 have G1:=shelfFormed_any none 0 0 [] w rfl Rd.none_
 rw[show shF (-1) []=true from rfl] at G1
 have G2:=fun W=>cloneWr_any none 0 0 [] W Rd.none_ (by simp) (by omega)
 have G1:=Hz_ G1
 have G2:=Hz_ G2
 go_enter Tryz.func142,Tryz.ntmps142
 go_wp2_with (first | (go_at_call 93;go_must (refine G1.out.mono ?_);rintro e w1 ⟨rfl,hb1⟩) | (go_at_call 140;go_must (refine(G2.out _).mono ?_);rintro e w2 ⟨A,c,rfl,ho,hb2⟩))
 have hb:=btn hb1 hb2
 have hcm:c≤maxLen:=by
  rcases ho.2 with ⟨h,_⟩ | ⟨g,cap,cur,h,_,_,_,h5,_⟩
  ·injection h with h1 h2 h3;subst h3;exact Nat.zero_le _
  ·injection h with h1 h2 h3;subst h3;exact h5
 clear ho hb1 hb2
 go_loopw [8,9,10,6,18] (fun _ _ _ v6 v18 wr=>v6=.slice A 0 c∧v18=.int .i64 0∧Below w.heap.size w wr) (fun _ _ _ _ _ _=>0)
 case atStart=>exact⟨rfl,rfl,hb⟩
 case round=>
  obtain⟨rfl,rfl,hb⟩:=hrel
  go_wp2_with (go_at_call 193;go_must (refine(clipWr_any A 0 c _ (Nat.zero_le _) hcm).mono ?_);rintro e w3 ⟨rfl,hb3⟩)
  go_ret2
  exact⟨A,0,rfl,btn hb hb3⟩
def vwZ:Array Value:=#[.slice none 0 0,.slice none 0 0,.slice none 0 0,.slice none 0 0,.int .i64 0]
def ntZ:Array Value:=#[.slice none 0 0,.slice none 0 0,.slice none 0 0,.slice none 0 0]
theorem cloneWr_nil (w:World):Calls Tryz.prog 140 #[.slice none 0 0] w fun e w'=>e=.returned (.slice none 0 0)∧Below w.heap.size w w':=by
 have ht:=fun W=>Lib.run_eql_slice_nil (P:=Tryz.prog) W 24 70 none 0 0 0 0 Tryz.underlying24
 go_enter Tryz.func140,Tryz.ntmps140
 go_wp2
 go_ret
 exact⟨rfl,Below.refl _ _⟩
theorem deleteNilV (fv:Value) (w:World):Calls Tryz.prog 139 #[.slice none 0 0,fv] w fun e w'=>e=.returned (.slice none 0 0)∧w=w':=by
 have H1:=Hz_ fun (w:World)=>(show Calls Tryz.prog 189 #[.slice none 0 0,fv] w fun e w'=>e=.returned (.int .i64 (-1))∧w=w' from by
  go_enter Tryz.func189,Tryz.ntmps189
  go_wp2
  go_loopw [8] (fun i wr=>i=.int .i64 0∧w=wr) (fun _ _=>0)
  case atStart=>exact⟨rfl,rfl⟩
  case round=>
   obtain⟨rfl,rfl⟩:=hrel
   go_wp2
   go_ret
   exact⟨rfl,rfl⟩)
 go_enter Tryz.func139,Tryz.ntmps139
 go_wp2_with (go_at_call 189;go_must (refine(H1.out _).mono ?_);rintro e w1 ⟨rfl,rfl⟩)
 go_ret
 exact⟨rfl,rfl⟩
def VwOut (w:World) (e:Ending) (w':World):Prop:=∃A1 n1 c1 A2 n2 c2 A3 n3 c3 A4 n4 c4,e=.returned (.tuple #[.agg #[.slice A1 n1 c1,.slice A2 n2 c2,.slice A3 n3 c3,.slice A4 n4 c4,.int .i64 0],.int .i64 0])∧Below w.heap.size w w'
theorem viewTake_0 (w:World) (hT:Tab w):Calls Tryz.prog 68 #[.agg vwZ,.agg ntZ] w (VwOut w):=by
 obtain⟨W0,hW0⟩:∃W,W=((w.alloc (.cells vwZ 35)).alloc (.cells ntZ 26)).alloc (.cells vwZ 35):=⟨_,rfl⟩
 have k0:Below w.heap.size w W0:=by rw[hW0];exact(((Below.refl _ _).alloc (Nat.le_refl _) _).alloc (by simp) _).alloc (by simp;omega) _
 have hs0:W0.heap.size=w.heap.size+1+1+1:=by rw[hW0];simp
 have b0:Blk W0 w.heap.size 35 vwZ:=by rw[hW0];exact((Blk.new w _ _).alloc _).alloc _
 have b1:Blk W0 (w.heap.size+1) 26 ntZ:=by
  rw[hW0]
  have h:=(Blk.new (w.alloc (.cells vwZ 35)) 26 ntZ).alloc (.cells vwZ 35)
  rw[World.size_alloc] at h;exact h
 have b2:Blk W0 (w.heap.size+1+1) 35 vwZ:=by
  rw[hW0]
  have h:=Blk.new ((w.alloc (.cells vwZ 35)).alloc (.cells ntZ 26)) 35 vwZ
  rw[World.size_alloc,World.size_alloc] at h;exact h
 have G1:=Hz_ fun (W:World) (hb:Below w.heap.size w W)=>viewFormed_any ⟨none,0,none,0,none,0,none,0⟩ Wq.vw0 [] [] W (hT.below hb) ⟨Rd.none_,RdZ.none_ _ _,rfl,Rd.none_,RdBs.none_ _ _,rfl⟩
 have G2:=fun (W:World) (hb:Below w.heap.size w W)=>take_any none none 0 0 0 0 [] [] ⟨none,0,0,none,0,0,none,0,0,none,0,0⟩ Wq.ntz W (hT.below hb) (RdZ.none_ _ _) rfl Rd.none_ ⟨rfl,Rd.none_,rfl,Rd.none_,rfl,Rd.none_,rfl,Rd.none_⟩
 rw[show tkE (zns []) [] Wq.ntz=0 by decide +kernel] at G2
 have G1:=Hz_ (show ∀W,Below w.heap.size w W→Calls Tryz.prog 26 #[.agg vwZ] W fun e w'=>e=.returned (.bool true)∧Below W.heap.size W w' from fun W hb=>by
  have h:=G1.out W hb
  rw[show vwF Wq.vw0=true by decide +kernel] at h
  exact h)
 have G2:=Hz_ G2
 have G3:=Hz_ cloneWr_nil
 have G4:=Hz_ deleteNilV
 have G5:=Hz_ shelfPut_0
 have G6:=Hz_ fun (W:World)=>cacheForget_any none 0 0 [] (-1) W (RdBs.none_ _ _) (by decide) (by simp)
 have HW0:=Hz_ hW0.symm
 obtain⟨P,hP⟩:∃P,P=w.heap.size:=⟨_,rfl⟩
 have HB0:=Hz_ (fun (W:World) (hb:Below W0.heap.size W0 W)=>b0.go hb)
 have HB1:=Hz_ (fun (W:World) (hb:Below W0.heap.size W0 W)=>b1.go hb)
 have HB2:=Hz_ (fun (W:World) (hb:Below W0.heap.size W0 W)=>b2.go hb)
 have K0:=Hz_ k0
 have HS:=Hz_ hs0
 have hi:(Tryz.prog.info? 35).map (·.size)=some 5:=by kernel_rfl
 have HI:=Hz_ hi
 clear hP k0 hs0 b0 b1 b2 hW0 hi hT
 unfold vwZ at HW0 HB0 HB2 G1
 unfold ntZ at HW0 HB1
 unfold vwZ ntZ
 go_enter Tryz.func68,Tryz.ntmps68
 go_upto_region 1 with fail
 rw[HW0.out]
 obtain⟨p0,p1,p2,p3,p4⟩:=(HB0.out _ (Below.refl _ _)).five
 go_wp2_with fail
 refine(G1.out _ K0.out).mono ?_
 rintro e w1 ⟨rfl,hb1⟩
 have kw:=hb1
 have kk:=btn K0.out hb1
 clear p0 p1 p2 p3 p4 hb1
 obtain⟨p0,p1,p2,p3,p4⟩:=(HB0.out _ kw).five
 obtain⟨q0,q1,q2,q3⟩:=(HB1.out _ kw).quad
 go_wp2_with fail
 refine(G2.out _ kk).mono ?_
 rintro e w2 ⟨A',k',c',M,B',m',d',rfl,-,-,-,-,hb2⟩
 have kw:=btn kw hb2
 have kk:=btn kk hb2
 clear p0 p1 p2 p3 p4 q0 q1 q2 q3 hb2
 obtain⟨p0,p1,p2,p3,p4⟩:=(HB0.out _ kw).five
 obtain⟨q0,q1,q2,q3⟩:=(HB1.out _ kw).quad
 clear p0 p1 p2 p3 p4 q0 q1 q2 q3
 go_upto_region 6 with fail
 obtain⟨W3,hW3⟩:∃W,W=(w2.alloc (.cells #[.slice A' k' c'] 32)).alloc (.cells #[.slice B' m' d'] 22):=⟨_,rfl⟩
 have k3:Below w2.heap.size w2 W3:=by rw[hW3];exact((Below.refl _ _).alloc (Nat.le_refl _) _).alloc (by simp) _
 have z0:Blk W3 w2.heap.size 32 #[.slice A' k' c']:=by rw[hW3];exact(Blk.new w2 _ _).alloc _
 have z1:Blk W3 (w2.heap.size+1) 22 #[.slice B' m' d']:=by
  rw[hW3]
  have h:=Blk.new (w2.alloc (.cells #[.slice A' k' c'] 32)) 22 #[.slice B' m' d']
  rw[World.size_alloc] at h;exact h
 rw[←hW3]
 have kw:=btn kw k3
 have kk:=btn kk k3
 have HZ0:=Hz_ (fun (W:World) (hb:Below W3.heap.size W3 W)=>(z0.go hb).cell 0)
 have HZ1:=Hz_ (fun (W:World) (hb:Below W3.heap.size W3 W)=>(z1.go hb).cell 0)
 generalize w2.heap.size=g2 at HZ0 HZ1 ⊢
 clear z0 z1 hW3 k3
 obtain⟨q0,q1,q2,q3⟩:=(HB1.out _ kw).quad
 go_wp2_with fail
 refine(G3.out _).mono ?_
 rintro e w3 ⟨rfl,hb3⟩
 clear q0 q1 q2 q3
 go_wp2_with fail
 refine(G4.out _ _).mono ?_
 rintro e w4 ⟨rfl,rfl⟩
 have k4:=hb3
 have kw:=btn kw hb3
 have kk:=btn kk hb3
 clear hb3
 obtain⟨p0,p1,p2,p3,p4⟩:=(HB0.out _ kw).five
 go_wp2_with fail
 refine(G5.out _).mono ?_
 rintro e w5 ⟨A5,c5,rfl,hb5⟩
 have k4:=btn k4 hb5
 have kw:=btn kw hb5
 have kk:=btn kk hb5
 clear p0 p1 p2 p3 p4 hb5
 obtain⟨p0,p1,p2,p3,p4⟩:=(HB0.out _ kw).five
 go_wp2_with fail
 refine(G6.out _).mono ?_
 rintro e w6 ⟨A6,k6,c6,rfl,-,hb6⟩
 have k4:=btn k4 hb6
 have kw:=btn kw hb6
 have kk:=btn kk hb6
 clear p0 p1 p2 p3 p4 hb6
 have y0:w6.cell? ⟨g2,0,none⟩=some (.slice A' k' c'):=HZ0.out _ k4
 have y1:w6.cell? ⟨g2+1,0,none⟩=some (.slice B' m' d'):=HZ1.out _ k4
 have hB2:=HB2.out _ kw
 obtain⟨p0,p1,p2,p3,p4⟩:=(HB0.out _ kw).five
 go_wp2_with fail
 go_loopw [13,14,11,54] (fun _ _ v11 v54 wr=>v11=.slice A6 k6 c6∧v54=.int .i64 0∧wr=w6) (fun _ _ _ _ _=>0)
 case atStart=>exact⟨rfl,rfl,rfl⟩
 case round=>
  obtain⟨rfl,rfl,rfl⟩:=hrel
  go_wp2_with (refine wpList_store_blk rfl 35 _ _ rfl (w.heap.size+1+1) 35 _ #[.slice B' m' d',.slice A' k' c',.slice A5 0 c5,.slice A6 k6 c6,.int .i64 0] rfl rfl hB2 HI.out rfl (by simp[Value.oneCell']) ?_;intro Wd hblk hg)
  refine bodyPost_ret (results_cell_tmp rfl _ _ (w.heap.size+1+1) 35 _ _ _ rfl hblk Tryz.underlying35 rfl HI.out) rfl ?_
  exact⟨_,_,_,_,_,_,_,_,_,_,_,_,rfl,kk.trans (grown_below hg kk.size (fun k hk=>by cases hk;omega))⟩
def VwO1 (w:World) (e:Ending) (w':World):Prop:=∃A1 n1 c1 A2 n2 c2 A3 n3 c3 A4 n4 c4,e=.returned (.agg #[.slice A1 n1 c1,.slice A2 n2 c2,.slice A3 n3 c3,.slice A4 n4 c4,.int .i64 0])∧Below w.heap.size w w'
theorem ownView_0 (w:World) (hT:Tab w):Calls Tryz.prog 70 #[.agg vwZ] w (VwO1 w):=by
 obtain⟨W0,hW0⟩:∃W,W=(w.alloc (.cells vwZ 35)).alloc (.cells vwZ 35):=⟨_,rfl⟩
 have k0:Below w.heap.size w W0:=by rw[hW0];exact((Below.refl _ _).alloc (Nat.le_refl _) _).alloc (by simp) _
 have b0:Blk W0 w.heap.size 35 vwZ:=by rw[hW0];exact(Blk.new w _ _).alloc _
 have b1:Blk W0 (w.heap.size+1) 35 vwZ:=by
  rw[hW0]
  have h:=Blk.new (w.alloc (.cells vwZ 35)) 35 vwZ
  rw[World.size_alloc] at h;exact h
 have G1:=Hz_ fun (W:World) (hb:Below w.heap.size w W)=>viewTake_0 W (hT.below hb)
 have HW0:=Hz_ hW0.symm
 have K0:=Hz_ k0
 have HB1:=Hz_ (fun (W:World) (hb:Below W0.heap.size W0 W)=>b1.go hb)
 obtain⟨p0,p1,p2,p3,p4⟩:=(show Blk W0 w.heap.size 35 #[.slice none 0 0,.slice none 0 0,.slice none 0 0,.slice none 0 0,.int .i64 0] from b0).five
 have hi:(Tryz.prog.info? 35).map (·.size)=some 5:=by kernel_rfl
 have HI:=Hz_ hi
 unfold vwZ at G1 HW0 HB1 ⊢
 unfold ntZ VwOut at G1
 clear hT k0 b0 b1 hW0 hi
 go_enter Tryz.func70,Tryz.ntmps70
 go_upto_region 1 with fail
 rw[HW0.out]
 go_wp2_with fail
 refine(G1.out _ K0.out).mono ?_
 rintro e w1 ⟨A1,n1,c1,A2,n2,c2,A3,n3,c3,A4,n4,c4,rfl,hb1⟩
 have kk:=btn K0.out hb1
 have hB:=(HB1.out _ hb1).alloc (.cells #[.slice A1 n1 c1,.slice A2 n2 c2,.slice A3 n3 c3,.slice A4 n4 c4,.int .i64 0] 35)
 clear p0 p1 p2 p3 p4 hb1
 go_wp2_with (refine wpList_store_blk rfl 35 _ _ rfl (w.heap.size+1) 35 _ #[.slice A1 n1 c1,.slice A2 n2 c2,.slice A3 n3 c3,.slice A4 n4 c4,.int .i64 0] rfl rfl hB HI.out rfl (by simp[Value.oneCell']) ?_;intro Wd hblk hg)
 refine bodyPost_ret (results_cell_row rfl _ _ (w.heap.size+1) 35 _ _ _ rfl hblk Tryz.underlying35 rfl HI.out) rfl ?_
 have ka:Below w.heap.size w (w1.alloc (.cells #[.slice A1 n1 c1,.slice A2 n2 c2,.slice A3 n3 c3,.slice A4 n4 c4,.int .i64 0] 35)):=kk.alloc kk.size _
 exact⟨_,_,_,_,_,_,_,_,_,_,_,_,rfl,ka.trans (grown_below hg ka.size (fun k hk=>by cases hk;omega))⟩
def entZ:Array Value:=#[.int .i64 0,.slice none 0 0,.slice none 0 0,.slice none 0 0,.slice none 0 0,.int .i64 0,.int .i64 0,.int .i64 0,.slice none 0 0,.int .i64 0,.slice none 0 0,.slice none 0 0,.slice none 0 0,.slice none 0 0,.slice none 0 0,.int .i64 0,.slice none 0 0]
theorem assert_no (w:World):(Instr.typeAssert .nilIface 20 82 true).run Tryz.prog w=.ok (.tuple #[.agg #[],.bool false]) w:=rfl
theorem catch_idle (p q:Addr) (w:World):
  CallsD Tryz.prog 47 #[.pointer (some p),.pointer (some q)] .returning w fun e u' w'=>e=.returned (.tuple #[])∧u'=.returning∧Below w.heap.size w w':=by
 refine callsD_of_wpS Tryz.func47 rfl fun c₀ cs hu=>?_
 apply wpS_seq
 apply wpS_region
 simp[wpOpsS,go_sem,recoverD,hu,Tryz.ntmps47,Exit.thenS,assert_no]
 apply wpS_seq
 apply wpS_region
 simp[wpOpsS,go_sem,Exit.thenS]
 refine wpS_cond (t:=false) (by simp[Act.eval,Array.replicate]) ?_
 simp only[Bool.false_eq_true,if_false]
 refine wpS_of_wp (wp_skip ?_)
 cases c₀
 simp_all [bodyPostS,results,Tryz.results47]
 exact(Below.refl _ _).alloc (Nat.le_refl _) _
theorem res_cc {P:Program} {fn:Func} {p q:Tmp} {ty ty2:TypeId} (h:fn.results=#[.cell p ty,.cell q ty2]) (tmps:Array Value) (w:World) (g g2:Nat) (t t2:TypeId) (cs:Array Value) (z:Value) (fr fr2:Nat×Nat) (d d2:TypeDesc)
  (hp:tmps.getD p undef=.pointer (some ⟨g,0,none⟩)) (hg:w.heap[g]?=some (.cells cs t fr))
  (hu:P.underlying ty=some d) (hd:(match d with | .struct _ | .array _ _=>true | _=>false)=true) (hi:(P.info? ty).map (·.size)=some cs.size)
  (hq:tmps.getD q undef=.pointer (some ⟨g2,0,none⟩)) (hg2:w.heap[g2]?=some (.cells #[z] t2 fr2))
  (hu2:P.underlying ty2=some d2) (hd2:(match d2 with | .struct _ | .array _ _=>true | _=>false)=false):
  (results fn tmps).run P w=.ok (.tuple #[.agg cs,z]) w:=by
 have hp':tmps[p]?.getD undef=.pointer (some ⟨g,0,none⟩):=by simpa using hp
 have hq':tmps[q]?.getD undef=.pointer (some ⟨g2,0,none⟩):=by simpa using hq
 have hc:w.cell? ⟨g2,0,none⟩=some z:=by rw[cell_of_row w g2 0 #[z] t2 fr2 hg2];rfl
 have hagg:(isAgg ty2).run P w=.ok false w:=by
  unfold isAgg
  rw[Sem.run_bind,run_underlying hu2 w]
  cases d2<;>simp_all
 have hl:(loadVar ty2 ⟨g2,0,none⟩).run P w=.ok z w:=by
  simp[loadVar,Sem.run_bind,hagg,go_sem,hc]
 simp[results,h,hp',hq',asAddr,run_loadVar_row w g t ty cs fr d hg hu hd hi,hl]
structure EC (W:World) (X base:Nat) (u:EV) (x:Ent) (L:List (ZV×Zn)) (M:List (BV×Wq.Bd)) (S:List (SV×Sb)):Prop where
 blk:Blk W X 38 (eval x u)
 nt:NtOwn W base u.nv x.note
 bd:W.ownsRow base 5 1 (.slice u.bA x.body.v.length u.bc) x.body.v.length (bv x.body.v)
 it:W.ownsRow base 63 2 (.slice u.iA x.int.length u.ic) x.int.length (sv x.int)
 vw:VwOwn W base u.vv x.view L M
 sb:OwnSb W base u.sA x.subs.length u.sc S
 ns:sbs S=x.subs
theorem NtOwn.kp {w w':World} {base:Nat} {t:TypeId} {v:NV} {n:Nt} (h:NtOwn w base v n) (k:Kp t w w') (h1:28≠t) (h2:63≠t) (h3:70≠t):NtOwn w' base v n:=
 ⟨h.l1,k _ _ _ _ _ _ h1 h.o1,h.l2,k _ _ _ _ _ _ h1 h.o2,h.l3,k _ _ _ _ _ _ h2 h.o3,h.l4,k _ _ _ _ _ _ h3 h.o4⟩
theorem OwnSb.kp {w w':World} {base k c:Nat} {t:TypeId} {A:Option Addr} {S:List (SV×Sb)} (h:OwnSb w base A k c S) (q:Kp t w w') (h1:65≠t) (h2:63≠t):OwnSb w' base A k c S:=
 ⟨q _ _ _ _ _ _ h1 h.row,fun p hp=>q _ _ _ _ _ _ h2 (h.el p hp)⟩
structure ES (w W:World) (X:Nat) (cur:List UInt8) (u:EV) (x:Ent) (L:List (ZV×Zn)) (M:List (BV×Wq.Bd)) (S:List (SV×Sb)):Prop extends EC W X (X+3) u x L M S where
 err:Blk W (X+1) 40 #[.int .i64 0]
 tr:TR W (X+2) X cur
 out:Below X w W
 hX:X=w.heap.size
theorem But.grown {g:Nat} {W W':World} (hg:W.grownBy W' (some g)):But g W W':=⟨hg.os,hg.tape,hg.output,hg.size,fun k hk hn=>hg.block k hk (fun e=>hn (Option.some.inj e))⟩
section
variable {W W':World} {X base g:Nat} {u:EV} {x:Ent} {L:List (ZV×Zn)} {M:List (BV×Wq.Bd)} {S:List (SV×Sb)}
theorem EC.call (h:EC W X base u x L M S) (hb:But g W W') (h1:X≠g) (h2:g < base):EC W' X base u x L M S:=
 ⟨h.blk.but hb h1,h.nt.but hb h2,own_but h.bd hb h2,own_but h.it hb h2,h.vw.but hb h2,h.sb.but hb h2,h.ns⟩
theorem EC.grow (h:EC W X base u x L M S) (hb:Below W.heap.size W W'):EC W' X base u x L M S:=
 ⟨h.blk.go hb,h.nt.below hb,own_below h.bd hb (Nat.le_refl _),own_below h.it hb (Nat.le_refl _),h.vw.below hb,h.sb.below hb,h.ns⟩
theorem EC.put {u':EV} {x':Ent} (h:EC W X base u x L M S) (hu:But X W W') (hblk:Blk W' X 38 (eval x' u'))
  (hn:NtOwn W base u'.nv x'.note) (hb:W.ownsRow base 5 1 (.slice u'.bA x'.body.v.length u'.bc) x'.body.v.length (bv x'.body.v)) (hi:W.ownsRow base 63 2 (.slice u'.iA x'.int.length u'.ic) x'.int.length (sv x'.int))
  {L':List (ZV×Zn)} {M':List (BV×Wq.Bd)} (hv:VwOwn W base u'.vv x'.view L' M') {S':List (SV×Sb)} (hs:OwnSb W base u'.sA x'.subs.length u'.sc S') (hns:sbs S'=x'.subs):But X W W'∧EC W' X base u' x' L' M' S':=
 have k:=Kp.blk h.blk hu
 ⟨hu,hblk,hn.kp k (by decide) (by decide) (by decide),k _ _ _ _ _ _ (by decide) hb,k _ _ _ _ _ _ (by decide) hi,hv.kp k (by decide) (by decide) (by decide) (by decide) (by decide),hs.kp k (by decide) (by decide),hns⟩
theorem EC.kind_ (h:EC W X base u x L M S) (k:Int):But X W (W.setCell ⟨X,0,none⟩ (.int .i64 k))∧EC (W.setCell ⟨X,0,none⟩ (.int .i64 k)) X base ⟨u.nv,u.bA,u.bc,u.iA,u.ic,u.vv,u.sA,u.sc⟩ ⟨k,x.note,x.body,x.from_,x.int,x.view,x.subs⟩ L M S:=
 h.put (u':=⟨u.nv,u.bA,u.bc,u.iA,u.ic,u.vv,u.sA,u.sc⟩) (x':=⟨k,x.note,x.body,x.from_,x.int,x.view,x.subs⟩) (But.set_ (g:=X) W (p:=⟨X,0,none⟩) rfl _) (h.blk.set_ 0 (.int .i64 k)) h.nt h.bd h.it h.vw h.sb h.ns
theorem EC.frm_ (h:EC W X base u x L M S) (f:Int):But X W (W.setCell ⟨X,9,none⟩ (.int .i64 f))∧EC (W.setCell ⟨X,9,none⟩ (.int .i64 f)) X base ⟨u.nv,u.bA,u.bc,u.iA,u.ic,u.vv,u.sA,u.sc⟩ ⟨x.kind,x.note,x.body,f,x.int,x.view,x.subs⟩ L M S:=
 h.put (u':=⟨u.nv,u.bA,u.bc,u.iA,u.ic,u.vv,u.sA,u.sc⟩) (x':=⟨x.kind,x.note,x.body,f,x.int,x.view,x.subs⟩) (But.set_ (g:=X) W (p:=⟨X,9,none⟩) rfl _) (h.blk.set_ 9 (.int .i64 f)) h.nt h.bd h.it h.vw h.sb h.ns
theorem EC.int_ (h:EC W X base u x L M S) {i:List Sn.Sp} {A:Option Addr} {c:Nat} (hi:W.ownsRow base 63 2 (.slice A i.length c) i.length (sv i)):But X W (W.setCell ⟨X,10,none⟩ (.slice A i.length c))∧EC (W.setCell ⟨X,10,none⟩ (.slice A i.length c)) X base ⟨u.nv,u.bA,u.bc,A,c,u.vv,u.sA,u.sc⟩ ⟨x.kind,x.note,x.body,x.from_,i,x.view,x.subs⟩ L M S:=
 h.put (u':=⟨u.nv,u.bA,u.bc,A,c,u.vv,u.sA,u.sc⟩) (x':=⟨x.kind,x.note,x.body,x.from_,i,x.view,x.subs⟩) (But.set_ (g:=X) W (p:=⟨X,10,none⟩) rfl _) (h.blk.set_ 10 (.slice A i.length c)) h.nt h.bd hi h.vw h.sb h.ns
end
section
variable {w W W':World} {X:Nat} {cur cur':List UInt8} {u u':EV} {x x':Ent} {L L':List (ZV×Zn)} {M M':List (BV×Wq.Bd)} {S S':List (SV×Sb)}
theorem ES.call (h:ES w W X cur u x L M S) (hb:But (X+2) W W') (ht:TR W' (X+2) X cur'):ES w W' X cur' u x L M S:=
 ⟨h.toEC.call hb (by omega) (by omega),h.err.but hb (by omega),ht,below_but h.out hb (by have:=h.blk.lt;omega) (by omega),h.hX⟩
theorem ES.grow (h:ES w W X cur u x L M S) (hb:Below W.heap.size W W'):ES w W' X cur u x L M S:=
 ⟨h.toEC.grow hb,h.err.go hb,h.tr.go hb,below_then h.out (Nat.le_of_eq h.hX) hb,h.hX⟩
theorem ES.err_ (h:ES w W X cur u x L M S):ES w (W.setCell ⟨X+1,0,none⟩ (.int .i64 0)) X cur u x L M S:=
 have hu:But (X+1) W (W.setCell ⟨X+1,0,none⟩ (.int .i64 0)):=But.set_ W (p:=⟨X+1,0,none⟩) rfl _
 ⟨h.toEC.call hu (by omega) (by omega),h.err.set_ 0 _,h.tr.but hu (by omega) (by omega),below_but h.out hu (by have:=h.blk.lt;omega) (by omega),h.hX⟩
theorem ES.put (h:ES w W X cur u x L M S) (k:But X W W'∧EC W' X (X+3) u' x' L' M' S'):ES w W' X cur u' x' L' M' S':=
 ⟨k.2,h.err.but k.1 (by omega),h.tr.but k.1 (Nat.le_refl _) (by omega),below_but h.out k.1 (by have:=h.blk.lt;omega) (Nat.le_refl _),h.hX⟩
theorem ES.same_ (h:ES w W X cur u x L M S) (hg:W.grownBy W' (some X)) (hb:Blk W' X 38 (eval x u)):ES w W' X cur u x L M S:=h.put (h.toEC.put (But.grown hg) hb h.nt h.bd h.it h.vw h.sb h.ns)
theorem ES.tab (h:ES w W X cur u x L M S) (hT:Tab w):Tab W:=hT.below (by rw[←h.hX];exact h.out)
end
def DecE (l:List UInt8) (w:World) (e:Ending) (w':World):Prop:=
 (Wq.decE l=none∧e=.returned (.tuple #[.agg entZ,.int .i64 4])∧Below w.heap.size w w') ∨
 ∃x u,Wq.decE l=some x∧e=.returned (.tuple #[.agg (eval x u),.int .i64 0])∧(∃L M S,EntRd w' w'.heap.size u x L M S)∧Below w.heap.size w w'
def decD (X:Nat):List Deferred:=[{ target:=.fn (.func 47) #[.pointer (some ⟨X,0,none⟩),.pointer (some ⟨X+1,0,none⟩)],args:=#[] }]
theorem dec_out {l:List UInt8} {w W:World} {X:Nat} {cs:Array Value} {z:Value} {tmps:Array Value} (hX:Blk W X 38 cs) (hs:cs.size=17) (hE:Blk W (X+1) 40 #[z])
  (hp:∀w',Below W.heap.size W w'→DecE l w (.returned (.tuple #[.agg cs,z])) w')
  (h2:tmps.getD 2 undef=.pointer (some ⟨X,0,none⟩)) (h3:tmps.getD 3 undef=.pointer (some ⟨X+1,0,none⟩)):
  bodyPostD Tryz.prog Tryz.f15 (DecE l w) .ret { tmps:=tmps,defers:=decD X } W:=by
 unfold decD
 refine leaves_cons (f:=47) (args:=#[.pointer (some ⟨X,0,none⟩),.pointer (some ⟨X+1,0,none⟩)]) (by simp) (by simp[go_sem]) ?_
 refine(catch_idle _ _ W).mono ?_
 rintro e u' w' ⟨rfl,rfl,hb⟩
 show ∃v,(results Tryz.f15 tmps).run Tryz.prog w'=.ok v w'∧DecE l w (.returned v) w'
 have hi:(Tryz.prog.info? 38).map (·.size)=some cs.size:=by rw[hs];kernel_rfl
 exact⟨_,res_cc rfl _ _ X (X+1) 38 40 cs _ _ _ _ _ h2 (hX.go hb) Tryz.underlying38 rfl hi h3 (hE.go hb) Tryz.underlying40 rfl,hp w' hb⟩
structure EntBd (x:Ent):Prop where
 c:x.body.s.1 < 9223372036854775808
 n:x.note.s.length+x.note.e.length+x.note.b.length+x.note.w.length≤9223372036854775807
 v:x.view.known.length+x.view.zones.length+x.view.held.length+x.view.bods.length≤9223372036854775807
 o:∀y∈x.view.bods,(Lit.int .i64 y.o).wf=true
theorem ES.rd {w W:World} {X:Nat} {cur:List UInt8} {u:EV} {x:Ent} {L:List (ZV×Zn)} {M:List (BV×Wq.Bd)} {S:List (SV×Sb)} (h:ES w W X cur u x L M S) (hb:EntBd x):EntRd W W.heap.size u x L M S:=
 ⟨h.nt.rd,Rd.of_own h.bd,Rd.of_own h.it,h.vw.rd (fun p hp=>hb.o p.2 (by rw[←h.vw.nb];exact List.mem_map_of_mem hp)),h.sb.rd,h.ns⟩
end Go.Proofs.YtmbeahbgafkjfaaGreatDoor
namespace Go.Proofs.YtmbeahbgafkjfaaGreatDoor
open Go.RowKit
theorem DecE.some_ {w w':World} {l:List UInt8} {e:Ending} {x:Ent} (hd:Wq.decE l=some x) (h:DecE l w e w'):∃u,e=.returned (.tuple #[.agg (eval x u),.int .i64 0])∧(∃L M S,EntRd w' w'.heap.size u x L M S)∧Below w.heap.size w w':=by
 rcases h with ⟨h1,_⟩ | ⟨y,u,h1,h2,h3,h4⟩
 ·rw[hd] at h1;cases h1
 ·rw[hd] at h1;cases h1;exact⟨u,h2,h3,h4⟩
def xal:Ent:=⟨4,Wq.ntz,Wq.bdz,2,[(1,3)],Wq.vw0,[]⟩
theorem EntRd.below {w w':World} {B:Nat} {u:EV} {x:Ent} {L:List (ZV×Zn)} {M:List (BV×Wq.Bd)} {S:List (SV×Sb)} (h:EntRd w B u x L M S) (hb:Below B w w'):EntRd w' B u x L M S:=⟨h.nt.below hb,h.bd.below hb,h.it.below hb,h.vw.below hb,h.sb.below hb,h.ns⟩
theorem EntRd.more {w:World} {B B':Nat} {u:EV} {x:Ent} {L:List (ZV×Zn)} {M:List (BV×Wq.Bd)} {S:List (SV×Sb)} (h:EntRd w B u x L M S) (hb:B≤B'):EntRd w B' u x L M S:=⟨h.nt.more hb,h.bd.more hb,h.it.more hb,h.vw.more hb,h.sb.more hb,h.ns⟩
def EntR (w:World) (B:Nat) (u:EV) (x:Ent):Prop:=∃L M S,EntRd w B u x L M S
theorem EntR.below {w w':World} {B:Nat} {u:EV} {x:Ent} (h:EntR w B u x) (hb:Below B w w'):EntR w' B u x:=by
 obtain⟨L,M,S,h⟩:=h;exact⟨L,M,S,h.below hb⟩
theorem EntR.more {w:World} {B B':Nat} {u:EV} {x:Ent} (h:EntR w B u x) (hb:B≤B'):EntR w B' u x:=by
 obtain⟨L,M,S,h⟩:=h;exact⟨L,M,S,h.more hb⟩
theorem EntR.go {w w':World} {u:EV} {x:Ent} (h:EntR w w.heap.size u x) (hb:Below w.heap.size w w'):EntR w' w'.heap.size u x:=(h.below hb).more hb.size
end Go.Proofs.YtmbeahbgafkjfaaGreatDoor
