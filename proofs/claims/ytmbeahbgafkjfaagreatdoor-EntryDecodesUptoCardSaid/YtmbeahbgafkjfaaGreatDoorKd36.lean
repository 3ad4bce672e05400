/- Lemmas for the claim, layer 36. -/
import Derived.Deep.CutBlock
import Derived.Test.YtmbeahbgafkjfaaGreatDoorKd35
set_option maxRecDepth 100000
set_option linter.unusedSimpArgs false
set_option maxHeartbeats 16000000
namespace Go.Proofs.YtmbeahbgafkjfaaGreatDoor
open Go.RowKit
def RvP (g:Nat) (l:List UInt8) (s:Option (List UInt8)) (w:World) (e:Ending) (w':World):Prop:=∃V:Array Value,e=.returned (.agg V)∧∃u v L M,V=vval v u∧VwOwn w' w.heap.size u v L M∧RR w' g l (Wq.st Wq.pVw s)∧But g w w'∧∀q,Wq.st Wq.pVw s=some q→v=Wq.vl Wq.pVw Wq.vw0 s
theorem refReadView_any (g:Nat) (l:List UInt8) (s:Option (List UInt8)) (w:World) (h:RR w g l s) (hl:l.length≤4294967296):
  Calls Tryz.prog 60 #[.pointer (some ⟨g,0,none⟩)] w (RvP g l s w):=by
 obtain⟨iz0,hzi0,hzz0,hzz1,hzz2⟩:=info_parts zone_info
 obtain⟨iw0,hwi0,hwz0,hwz1,hwz2⟩:=info_parts writes_info
 obtain⟨ib0,hbi0,hbz0,hbz1,hbz2⟩:=info_parts body_info
 have h1max:1≤maxLen:=by unfold maxLen;omega
 have hg:=h.lt
 obtain⟨N,hN⟩:∃N,N=l.length:=⟨_,rfl⟩
 have hN32:N≤4294967296:=by omega
 have HC0:=Hz_ (show ∀(W:World) (t:Option (List UInt8)),RR W g l t→Cap2 0 t N from fun W t hr=>by
  cases t with
  | none=>show 0≤N+1;omega
  | some q=>obtain⟨_,_,_,_,_,_,_,hle⟩:=hr;show 0+q.length≤N;omega)
 have hb0:Below w.heap.size w (w.alloc (.cells #[.slice none 0 0,.slice none 0 0,.slice none 0 0,.slice none 0 0,.int .i64 0] 35)):=(Below.refl _ _).alloc (Nat.le_refl _) _
 have hR0:=Blk.new w 35 #[.slice none 0 0,.slice none 0 0,.slice none 0 0,.slice none 0 0,.int .i64 0]
 obtain⟨W0,hW0⟩:∃W0,W0=w.alloc (.cells #[.slice none 0 0,.slice none 0 0,.slice none 0 0,.slice none 0 0,.int .i64 0] 35):=⟨_,rfl⟩
 have hs0:W0.heap.size=w.heap.size+1:=by rw[hW0];simp
 rw[←hW0] at hb0 hR0
 have hP0:=h.go hb0
 have HR0:=Hz_ hR0
 have HK0:=Hz_ ((But.refl g w).below hb0)
 have HW:=Hz_ hW0.symm
 have G1:=Hz_ fun (W:World) (s:Option (List UInt8)) (h:RR W g l s)=>refRdNum_any g l s W h
 have G3:=Hz_ fun (W:World) (s:Option (List UInt8)) (h:RR W g l s)=>refRdVec_any g l s W h hl
 have G6:=Hz_ fun (W:World) (s:Option (List UInt8)) (h:RR W g l s)=>refRdBody_any g l s W h (by omega)
 clear h hb0 hW0 hl hN hR0
 go_enter Tryz.func60,Tryz.ntmps60
 go_wp2_with fail
 rw[HW.out]
 -- what is known
 refine(G3.out _ _ hP0).mono ?_
 rintro e w1 ⟨kn,kA,kc,rfl,o1,hP1,hu1,hkn⟩
 have hs1:=hu1.size
 have hf:=Wq.onS_vw hkn
 obtain⟨t1,ht1⟩:∃t,t=Wq.st Wq.pV s:=⟨_,rfl⟩
 rw[←ht1] at hP1 hf
 have HF:=Hz_ hf
 have hbX:Below w1.heap.size w1 (w1.alloc (.cells #[.slice kA kn.length kc,.slice none 0 0,.slice none 0 0,.slice none 0 0,.int .i64 0] 35)):=(Below.refl _ _).alloc (Nat.le_refl _) _
 have hX:=Blk.new w1 35 #[.slice kA kn.length kc,.slice none 0 0,.slice none 0 0,.slice none 0 0,.int .i64 0]
 obtain⟨W2,hW2⟩:∃W2,W2=w1.alloc (.cells #[.slice kA kn.length kc,.slice none 0 0,.slice none 0 0,.slice none 0 0,.int .i64 0] 35):=⟨_,rfl⟩
 rw[←hW2] at hbX hX
 have k2:VC W0 W2 g w1.heap.size W0.heap.size ⟨kA,kc,none,0,none,0,none,0⟩ ⟨kn,[],[],[],0⟩ [] []:=
  ⟨hX,⟨own_below o1 hbX (Nat.le_refl _),OwnZ.nil _ _,rfl,World.ownsRow_nil _ _ _ _,OwnBd.nil _ _,rfl⟩,hu1.below (hbX.mono hs1),by omega,Nat.le_refl _,by omega,by omega,hs1⟩
 have hP2:=hP1.go hbX
 obtain⟨X,hXe⟩:∃X,X=w1.heap.size:=⟨_,rfl⟩
 rw[←hXe] at k2
 have HX:=Hz_ hXe
 have hgX:g < X:=by omega
 have HW2:=Hz_ hW2.symm
 have K2:=Hz_ k2
 clear hP0 hP1 hu1 o1 hkn hf ht1 hbX hX hW2 k2 hXe hs1
 go_wp2_with fail
 rw[HW2.out,←HX.out]
 refine(G1.out _ _ hP2).mono ?_
 rintro e w3 ⟨rfl,hP,hu⟩
 have KV:=Hz_ (K2.out.call hu)
 have hf:=HF.out.trans Wq.onS_lst
 have hn63:=numV_lt t1
 obtain⟨n3,hn⟩:∃n,n=numV t1:=⟨_,rfl⟩
 obtain⟨t3,ht⟩:∃t,t=numS t1:=⟨_,rfl⟩
 rw[←hn] at hf hn63 ⊢
 rw[←ht] at hf hP
 have HF:=Hz_ hf
 have KR:=Hz_ hP
 clear hf hn ht hP hu
 clear hP2 K2
 go_upto_block 0 with fail
 go_cut [4,5] from 15 to 42 (fun _ _ wx=>∃(zs:List Zn) (L:List (ZV×Zn)) (zA:Option Addr) (zc:Nat) (t:Option (List UInt8)),Hid (VC W0 wx g X W0.heap.size ⟨kA,kc,zA,zc,none,0,none,0⟩ ⟨kn,zs,[],[],0⟩ L [])∧Hid (RR wx g l t)∧Hid (Wq.onS Wq.pVw s=Wq.onS (Wq.vw2 kn zs) t))
 case first=>
  go_wp2_with fail
  go_loopw [4,5] (fun v4 _ wr=>∃(n:Nat) (zs:List Zn) (L:List (ZV×Zn)) (zA:Option Addr) (zc:Nat) (t:Option (List UInt8)),v4=.int .i64 n∧n < 9223372036854775808∧Hid (VC W0 wr g X W0.heap.size ⟨kA,kc,zA,zc,none,0,none,0⟩ ⟨kn,zs,[],[],0⟩ L [])∧Hid (RR wr g l t)∧Hid (Wq.onS Wq.pVw s=Wq.onS (fun q=>Wq.repK Wq.pZn (fun z q=>Wq.vw2 kn z q) n q zs) t)∧Hid (Cap2 zs.length t N)) (fun v4 _ _=>(intOf v4).toNat)
  case atStart=>exact⟨n3,[],[],none,0,t3,rfl,hn63,KV,KR,HF,Hz_ (HC0.out _ _ KR.out)⟩
  case round=>
   clear KV KR HF hn63
   obtain⟨n,zs,L,zA,zc,t,rfl,hn63,KV,KR,HF,HC⟩:=hrel
   rcases n with _ | n
   ·go_wp2_with fail
    go_meet
    exact⟨zs,L,zA,zc,t,KV,KR,Hz_ (HF.out.trans Wq.onS_zero)⟩
   have hpos:decide (((n+1:Nat):Int) > 0)=true:=decide_eq_true (by omega)
   obtain⟨b2,_⟩:=KR.out.bad
   rcases t with _ | cur
   ·have b2:_=some (Value.bool true):=b2
    go_wp2_with fail
    go_meet
    exact⟨zs,L,zA,zc,none,KV,KR,Hz_ HF.out⟩
   have b2:_=some (Value.bool false):=b2
   have hnx:=fun (v:List Vc.St) (hv:∀q,Wq.st Wq.pV (numS (numS (some cur)))=some q→v=Wq.vl Wq.pV [] (numS (numS (some cur))))=>HF.out.trans (Wq.onS_zn (K:=fun z q=>Wq.vw2 kn z q) (n:=n) (acc:=zs) hv)
   have hcx:Cap2 (zs.length+1) (Wq.st Wq.pV (numS (numS (some cur)))) N:=Wq.st_cap (fun _ _ _ h=>Wq.pV_le h) (numS_cap (numS_cap1 HC.out))
   have hzn:zs.length≤4294967297:=by have:=Cap2.le HC.out;omega
   obtain⟨a,ha⟩:∃x,x=numV (some cur):=⟨_,rfl⟩
   obtain⟨u1,hu1⟩:∃x,x=numS (some cur):=⟨_,rfl⟩
   obtain⟨b,hb⟩:∃x,x=numV u1:=⟨_,rfl⟩
   obtain⟨u2,hu2⟩:∃x,x=numS u1:=⟨_,rfl⟩
   have c1:=G1.out wr (some cur) KR.out
   have c2:=fun W (h:RR W g l u1)=>G1.out W u1 h
   rw[←hu1] at hnx hcx c1
   rw[←ha] at hnx c1
   rw[←hb,←hu2] at hnx c2
   rw[←hu2] at hcx
   have C1:=Hz_ c1
   have C2:=Hz_ c2
   have C3:=Hz_ fun W (h:RR W g l u2)=>G3.out W u2 h
   have HNX:=Hz_ hnx
   have HCX:=Hz_ hcx
   have hgw:=KR.out.lt
   clear hnx hcx ha hu1 hb hu2 c1 c2 HC HF
   go_wp2_with fail
   refine C1.out.mono ?_
   rintro e w4 ⟨rfl,hP,hu⟩
   have hs:=hu.size
   clear b2 KR
   have hbZ:Below w4.heap.size w4 (w4.alloc (.cells #[.int .i64 a,.int .i64 0,.slice none 0 0] 129)):=(Below.refl _ _).alloc (Nat.le_refl _) _
   have hZ:=Blk.new w4 129 #[.int .i64 a,.int .i64 0,.slice none 0 0]
   obtain⟨W5,hW⟩:∃W,W=w4.alloc (.cells #[.int .i64 a,.int .i64 0,.slice none 0 0] 129):=⟨_,rfl⟩
   rw[←hW] at hbZ hZ
   have hP:=hP.go hbZ
   have hb:But g wr W5:=hu.below (hbZ.mono hs)
   obtain⟨Z,hZe⟩:∃Z,Z=w4.heap.size:=⟨_,rfl⟩
   rw[←hZe] at hZ
   have hZw:wr.heap.size≤Z:=by omega
   have HW:=Hz_ hW.symm
   have HZ:=Hz_ hZe
   clear hu hbZ hW hZe hs
   go_wp2_with fail
   rw[HW.out,←HZ.out]
   refine(C2.out _ hP).mono ?_
   rintro e w6 ⟨rfl,hP,hu⟩
   have hZ:=hZ.but hu (by omega)
   have zf:=hZ.frozen 1
   have zc_:=hZ.cell 1
   have hz:But Z w6 (w6.setCell ⟨Z,1,none⟩ (.int .i64 b)):=But.set_ (g:=Z) w6 (p:=⟨Z,1,none⟩) rfl _
   have hZ:Blk (w6.setCell ⟨Z,1,none⟩ (.int .i64 b)) Z 129 #[.int .i64 a,.int .i64 b,.slice none 0 0]:=hZ.set_ 1 (.int .i64 b)
   have hP:=hP.but hz (by omega)
   have hb:But g wr (w6.setCell ⟨Z,1,none⟩ (.int .i64 b)):=(hb.trans hu).set2 hZw _
   obtain⟨W7,hW⟩:∃W,W=w6.setCell ⟨Z,1,none⟩ (.int .i64 b):=⟨_,rfl⟩
   rw[←hW] at hZ hP hb
   clear HW
   have HW:=Hz_ hW.symm
   clear hu hz hW
   go_wp2_with fail
   rw[HW.out]
   clear zf zc_
   refine(C3.out _ hP).mono ?_
   rintro e w8 ⟨v,aA,ac,rfl,ho,hP,hu,hv⟩
   have hZlt:=hZ.lt
   have hZ:=hZ.but hu (by omega)
   have zf:=hZ.frozen 2
   have zc_:=hZ.cell 2
   have hz:But Z w8 (w8.setCell ⟨Z,2,none⟩ (.slice aA v.length ac)):=But.set_ (g:=Z) w8 (p:=⟨Z,2,none⟩) rfl _
   have hZ:Blk (w8.setCell ⟨Z,2,none⟩ (.slice aA v.length ac)) Z 129 #[.int .i64 a,.int .i64 b,.slice aA v.length ac]:=hZ.set_ 2 (.slice aA v.length ac)
   have hP:=hP.but hz (by omega)
   have hb:But g wr (w8.setCell ⟨Z,2,none⟩ (.slice aA v.length ac)):=(hb.trans hu).set2 hZw _
   have ho:=own_but ho hz (by have:=hZlt;omega)
   obtain⟨W9,hW⟩:∃W,W=w8.setCell ⟨Z,2,none⟩ (.slice aA v.length ac):=⟨_,rfl⟩
   rw[←hW] at hZ hP hb ho
   clear HW
   have HW:=Hz_ hW.symm
   clear hu hz hW
   go_upto_region 8 with fail
   rw[HW.out]
   clear zf zc_
   have hle:W0.heap.size≤wr.heap.size:=by have:=KV.out.hX;have:=KV.out.blk.lt;omega
   have KV:=Hz_ (KV.out.call hb)
   have x1:World.cell? _ ⟨X,1,none⟩=some (.slice zA zs.length zc):=KV.out.blk.cell 1
   have y:=hZ.cell
   have y0:=y 0
   have y1:=y 1
   have y2:=y 2
   have hb':Below W9.heap.size W9 (W9.alloc (.cells #[.int .i64 a,.int .i64 b,.slice aA v.length ac] 129)):=(Below.refl _ _).alloc (Nat.le_refl _) _
   have C:=Hz_ (rd_new hb' (size:=3) (n:=1) rfl h1max)
   have HB:=Hz_ hb'
   have KP:=Hz_ hP
   have HV:=Hz_ (own_below (own_less ho (show W0.heap.size≤W7.heap.size by omega)) hb' (Nat.le_refl _))
   clear ho
   clear hZ hP hb hb' y
   go_wp2_with (at_builtin;go_must (refine wpList_append_rd _ rfl (.tmp 38) (.tmp 40) _ rfl W0.heap.size 129 iz0 _ 3 40 Tryz.underlying32 hzi0 hzz0 hzz1 hzz2 rfl (by decide) (.slice zA zs.length zc) zs.length (zvv L) rfl (KV.out.own.z.row.alloc _) _ (some ⟨W9.heap.size,0,none⟩) 1 1 [.int .i64 a,.int .i64 b,.slice aA v.length ac] rfl C.out (by simp[Value.oneCell']) (by unfold maxLen;omega) (by omega) (by have:=KV.out.blk.lt;have:=KV.out.hX;simp;omega) ?_);intro A10 c10 w10 ho10 hg10 hat10;have hB:=blk_grow (KV.out.grow HB.out).blk (KV.out.own.z.row.alloc _) hg10 (by decide);have xf:=hB.frozen 1;have xc:=hB.cell 1)
   have KZ:=(KV.out.grow HB.out).zone (p:=(⟨aA,v.length,ac⟩,((a,b),v))) ⟨rfl,HV.out⟩ hg10 ho10
   have KQ:=(KV.out.grow HB.out).rrg (KP.out.go HB.out) (KV.out.own.z.row.alloc _) hg10 1 (.slice A10 (zs.length+1) c10)
   go_roundw
   case rel=>exact⟨n,zs++[(((a:Int),(b:Int)),v)],L++[(⟨aA,v.length,ac⟩,(((a:Int),(b:Int)),v))],A10,c10,Wq.st Wq.pV u2,by go_num,by omega,Hz_ KZ,Hz_ KQ,Hz_ (HNX.out v hv),by rw[List.length_append];exact HCX⟩
   case measure=>first | (simp[intOf];done) | (simp[intOf];omega)
 obtain⟨zs,L,zA,zc,t5,KV,KR,HF⟩:=hcut
 go_wp2_with fail
 refine(G1.out _ _ KR.out).mono ?_
 rintro e w9 ⟨rfl,hP,hu⟩
 have KV:=Hz_ (KV.out.call hu)
 have hf:=HF.out.trans Wq.onS_lst
 have hn63:=numV_lt t5
 obtain⟨n9,hn⟩:∃n,n=numV t5:=⟨_,rfl⟩
 obtain⟨t9,ht⟩:∃t,t=numS t5:=⟨_,rfl⟩
 rw[←hn] at hf hn63 ⊢
 rw[←ht] at hf hP
 have HF:=Hz_ hf
 have KR:=Hz_ hP
 clear hf hn ht hP hu
 go_upto_block 2 with fail
 go_cut [6,7,8] from 45 to 88 (fun _ _ _ wx=>∃(hs:List Wr) (hA:Option Addr) (hc:Nat) (t:Option (List UInt8)),Hid (VC W0 wx g X W0.heap.size ⟨kA,kc,zA,zc,hA,hc,none,0⟩ ⟨kn,zs,hs,[],0⟩ L [])∧Hid (RR wx g l t)∧Hid (Wq.onS Wq.pVw s=Wq.onS (Wq.vw3 kn zs hs) t))
 case first=>
  go_wp2_with fail
  go_loopw [6,7,8] (fun v6 _ _ wr=>∃(n:Nat) (hs:List Wr) (hA:Option Addr) (hc:Nat) (t:Option (List UInt8)),v6=.int .i64 n∧n < 9223372036854775808∧Hid (VC W0 wr g X W0.heap.size ⟨kA,kc,zA,zc,hA,hc,none,0⟩ ⟨kn,zs,hs,[],0⟩ L [])∧Hid (RR wr g l t)∧Hid (Wq.onS Wq.pVw s=Wq.onS (fun q=>Wq.repK Wq.pHd (fun h q=>Wq.vw3 kn zs h q) n q hs) t)∧Hid (Cap2 hs.length t N)) (fun v6 _ _ _=>(intOf v6).toNat)
  case atStart=>exact⟨n9,[],none,0,t9,rfl,hn63,KV,KR,HF,Hz_ (HC0.out _ _ KR.out)⟩
  case round=>
   clear KV KR HF hn63
   obtain⟨n,hs,hA,hc,t,rfl,hn63,KV,KR,HF,HC⟩:=hrel
   rcases n with _ | n
   ·go_wp2_with fail
    go_meet
    exact⟨hs,hA,hc,t,KV,KR,Hz_ (HF.out.trans Wq.onS_zero)⟩
   have hpos:decide (((n+1:Nat):Int) > 0)=true:=decide_eq_true (by omega)
   obtain⟨b2,_⟩:=KR.out.bad
   rcases t with _ | cur
   ·have b2:_=some (Value.bool true):=b2
    go_wp2_with fail
    go_meet
    exact⟨hs,hA,hc,none,KV,KR,Hz_ HF.out⟩
   have b2:_=some (Value.bool false):=b2
   have hnx:=HF.out.trans (Wq.onS_hd (K:=fun h q=>Wq.vw3 kn zs h q) (n:=n) (acc:=hs) (s:=some cur))
   have hcx:Cap2 (hs.length+1) (Wq.stW (numS (numS (numS (numS (some cur))))) (numV (numS (numS (numS (some cur)))))) N:=cap_stW (numS_cap (numS_cap (numS_cap (numS_cap1 HC.out))))
   have hzn:hs.length≤4294967297:=by have:=Cap2.le HC.out;omega
   obtain⟨a,ha⟩:∃x,x=numV (some cur):=⟨_,rfl⟩
   obtain⟨u1,hu1⟩:∃x,x=numS (some cur):=⟨_,rfl⟩
   obtain⟨b,hb⟩:∃x,x=numV u1:=⟨_,rfl⟩
   obtain⟨u2,hu2⟩:∃x,x=numS u1:=⟨_,rfl⟩
   obtain⟨c,hc_⟩:∃x,x=numV u2:=⟨_,rfl⟩
   obtain⟨u3,hu3⟩:∃x,x=numS u2:=⟨_,rfl⟩
   obtain⟨q,hq⟩:∃x,x=numV u3:=⟨_,rfl⟩
   obtain⟨u4,hu4⟩:∃x,x=numS u3:=⟨_,rfl⟩
   have c1:=G1.out wr (some cur) KR.out
   have c2:=fun W (h:RR W g l u1)=>G1.out W u1 h
   have c3:=fun W (h:RR W g l u2)=>G1.out W u2 h
   have c4:=fun W (h:RR W g l u3)=>G1.out W u3 h
   rw[←hu1,←hu2,←hu3,←hu4,←hq] at hcx
   rw[←ha,←hu1] at c1
   rw[←hb,←hu2] at c2
   rw[←hc_,←hu3] at c3
   rw[←hq,←hu4] at c4
   rw[←ha,←hu1,←hb,←hu2,←hc_,←hu3,←hq,←hu4] at hnx
   have C1:=Hz_ c1
   have C2:=Hz_ c2
   have C3:=Hz_ c3
   have C4:=Hz_ c4
   have HNX:=Hz_ hnx
   have HCX:=Hz_ hcx
   have HQ:=Hz_ (show ((q:Int) == 1)=decide (q=1) by rw[Bool.eq_iff_iff];simp;omega)
   have hgw:=KR.out.lt
   clear hnx hcx ha hu1 hb hu2 hc_ hu3 hq hu4 c1 c2 c3 c4 HC HF
   go_wp2_with fail
   refine C1.out.mono ?_
   rintro e w4 ⟨rfl,hP,hu⟩
   have hs_:=hu.size
   clear b2 KR
   have hbZ:Below w4.heap.size w4 (w4.alloc (.cells #[.int .i64 0,.int .i64 0,.int .i64 a,.bool false] 70)):=(Below.refl _ _).alloc (Nat.le_refl _) _
   have hZ:=Blk.new w4 70 #[.int .i64 0,.int .i64 0,.int .i64 a,.bool false]
   obtain⟨W5,hW⟩:∃W,W=w4.alloc (.cells #[.int .i64 0,.int .i64 0,.int .i64 a,.bool false] 70):=⟨_,rfl⟩
   rw[←hW] at hbZ hZ
   have hP:=hP.go hbZ
   have hb:But g wr W5:=hu.below (hbZ.mono hs_)
   obtain⟨Z,hZe⟩:∃Z,Z=w4.heap.size:=⟨_,rfl⟩
   rw[←hZe] at hZ
   have hZw:wr.heap.size≤Z:=by omega
   have HW:=Hz_ hW.symm
   have HZ:=Hz_ hZe
   clear hu hbZ hW hZe hs_
   go_wp2_with fail
   rw[HW.out,←HZ.out]
   refine(C2.out _ hP).mono ?_
   rintro e w6 ⟨rfl,hP,hu⟩
   have hZ:=hZ.but hu (by omega)
   have zf:=hZ.frozen 1
   have zc_:=hZ.cell 1
   have hz:But Z w6 (w6.setCell ⟨Z,1,none⟩ (.int .i64 b)):=But.set_ (g:=Z) w6 (p:=⟨Z,1,none⟩) rfl _
   have hZ:Blk (w6.setCell ⟨Z,1,none⟩ (.int .i64 b)) Z 70 #[.int .i64 0,.int .i64 b,.int .i64 a,.bool false]:=hZ.set_ 1 (.int .i64 b)
   have hP:=hP.but hz (by omega)
   have hb:But g wr (w6.setCell ⟨Z,1,none⟩ (.int .i64 b)):=(hb.trans hu).set2 hZw _
   obtain⟨W7,hW⟩:∃W,W=w6.setCell ⟨Z,1,none⟩ (.int .i64 b):=⟨_,rfl⟩
   rw[←hW] at hZ hP hb
   clear HW
   have HW:=Hz_ hW.symm
   clear hu hz hW
   go_wp2_with fail
   rw[HW.out]
   clear zf zc_
   refine(C3.out _ hP).mono ?_
   rintro e w8 ⟨rfl,hP,hu⟩
   have hZ:=hZ.but hu (by omega)
   have zf:=hZ.frozen 0
   have zc_:=hZ.cell 0
   have hz:But Z w8 (w8.setCell ⟨Z,0,none⟩ (.int .i64 c)):=But.set_ (g:=Z) w8 (p:=⟨Z,0,none⟩) rfl _
   have hZ:Blk (w8.setCell ⟨Z,0,none⟩ (.int .i64 c)) Z 70 #[.int .i64 c,.int .i64 b,.int .i64 a,.bool false]:=hZ.set_ 0 (.int .i64 c)
   have hP:=hP.but hz (by omega)
   have hb:But g wr (w8.setCell ⟨Z,0,none⟩ (.int .i64 c)):=(hb.trans hu).set2 hZw _
   obtain⟨W9,hW⟩:∃W,W=w8.setCell ⟨Z,0,none⟩ (.int .i64 c):=⟨_,rfl⟩
   rw[←hW] at hZ hP hb
   clear HW
   have HW:=Hz_ hW.symm
   clear hu hz hW
   go_wp2_with fail
   rw[HW.out]
   clear zf zc_
   refine(C4.out _ hP).mono ?_
   rintro e w10 ⟨rfl,hP,hu⟩
   have hq1:((q:Int) == 1)=decide (q=1):=HQ.out
   have hZ:=hZ.but hu (by omega)
   have zf:=hZ.frozen 3
   have zc_:=hZ.cell 3
   have hz:But Z w10 (w10.setCell ⟨Z,3,none⟩ (.bool (decide (q=1)))):=But.set_ (g:=Z) w10 (p:=⟨Z,3,none⟩) rfl _
   have hZ:Blk (w10.setCell ⟨Z,3,none⟩ (.bool (decide (q=1)))) Z 70 #[.int .i64 c,.int .i64 b,.int .i64 a,.bool (decide (q=1))]:=hZ.set_ 3 (.bool (decide (q=1)))
   have hP:=hP.but hz (by omega)
   have hb:But g wr (w10.setCell ⟨Z,3,none⟩ (.bool (decide (q=1)))):=(hb.trans hu).set2 hZw _
   obtain⟨W11,hW⟩:∃W,W=w10.setCell ⟨Z,3,none⟩ (.bool (decide (q=1))):=⟨_,rfl⟩
   rw[←hW] at hZ hP hb
   clear HW
   have HW:=Hz_ hW.symm
   clear hu hz hW
   go_upto_region 17 with fail
   rw[HW.out]
   clear zf zc_
   clear hq1
   have HP:=Hz_ hP
   have HB:=Hz_ hb
   have HZ_:=Hz_ hZ
   have hZg:Z≠g:=by omega
   clear hP hb hZ
   go_cut [8] from 72 to 82 (fun _ wx=>Hid (RR wx g l (Wq.stW u4 q))∧Hid (But g wr wx)∧Hid (Blk wx Z 70 #[.int .i64 c,.int .i64 b,.int .i64 a,.bool (decide (q=1))]))
   case first=>
    obtain⟨gc2,gf2⟩:=HP.out.bad
    rcases u4 with _ | r4
    ·have gc2:_=some (Value.bool true):=gc2
     go_wp2_with fail
     go_meet
     exact⟨Hz_ (by rw[show Wq.stW none q=none by unfold Wq.stW;split<;>rfl];exact HP.out.spoil),Hz_ (HB.out.trans (But.set_ (g:=g) _ (p:=⟨g,2,none⟩) rfl _)),Hz_ (HZ_.out.but (But.set_ (g:=g) _ (p:=⟨g,2,none⟩) rfl _) hZg)⟩
    ·have gc2:_=some (Value.bool false):=gc2
     by_cases hq2:1 < q
     ·have hq3:decide ((1:Int) < (q:Int))=true:=by simp;omega
      go_wp2_with fail
      go_meet
      exact⟨Hz_ (by rw[show Wq.stW (some r4) q=none from if_pos hq2];exact HP.out.spoil),Hz_ (HB.out.trans (But.set_ (g:=g) _ (p:=⟨g,2,none⟩) rfl _)),Hz_ (HZ_.out.but (But.set_ (g:=g) _ (p:=⟨g,2,none⟩) rfl _) hZg)⟩
     ·have hq3:decide ((1:Int) < (q:Int))=false:=by simp;omega
      go_wp2_with fail
      go_meet
      exact⟨Hz_ (by rw[show Wq.stW (some r4) q=some r4 from if_neg hq2];exact HP.out.same),Hz_ (HB.out.trans (But.set_ (g:=g) _ (p:=⟨g,2,none⟩) rfl _)),Hz_ (HZ_.out.but (But.set_ (g:=g) _ (p:=⟨g,2,none⟩) rfl _) hZg)⟩
   clear HP HB HZ_ HW C1 C2 C3 C4
   obtain⟨HP,HB,HZ_⟩:=hcut
   have hP:=HP.out
   have hb:=HB.out
   have hZ:=HZ_.out
   generalize decide (q=1)=gn at hZ HNX ⊢
   obtain⟨W12,hW12⟩:∃W,W=wc:=⟨_,rfl⟩
   rw[←hW12] at hP hb hZ ⊢
   clear HP HB HZ_ hW12 HQ
   have hle:W0.heap.size≤wr.heap.size:=by have:=KV.out.hX;have:=KV.out.blk.lt;omega
   have KV:=Hz_ (KV.out.call hb)
   have x1:World.cell? _ ⟨X,2,none⟩=some (.slice hA hs.length hc):=KV.out.blk.cell 2
   have y:=hZ.cell
   have y0:=y 0
   have y1:=y 1
   have y2:=y 2
   have y3:=y 3
   have hb':Below W12.heap.size W12 (W12.alloc (.cells #[.int .i64 c,.int .i64 b,.int .i64 a,.bool gn] 70)):=(Below.refl _ _).alloc (Nat.le_refl _) _
   have C:=Hz_ (rd_new hb' (size:=4) (n:=1) rfl h1max)
   have HB:=Hz_ hb'
   have KP:=Hz_ hP
   skip
   clear hZ hP hb hb' y
   go_wp2_with (at_builtin;go_must (refine wpList_append_rd _ rfl (.tmp 84) (.tmp 86) _ rfl W0.heap.size 70 iw0 _ 4 32 Tryz.underlying24 hwi0 hwz0 hwz1 hwz2 rfl (by decide) (.slice hA hs.length hc) hs.length (wv hs) rfl (KV.out.own.h.alloc _) _ (some ⟨W12.heap.size,0,none⟩) 1 1 [.int .i64 c,.int .i64 b,.int .i64 a,.bool gn] rfl C.out (by simp[Value.oneCell']) (by unfold maxLen;omega) (by omega) (by have:=KV.out.blk.lt;have:=KV.out.hX;simp;omega) ?_);intro A10 c10 w10 ho10 hg10 hat10;have hB:=blk_grow (KV.out.grow HB.out).blk (KV.out.own.h.alloc _) hg10 (by decide);have xf:=hB.frozen 2;have xc:=hB.cell 2)
   have KZ:=(KV.out.grow HB.out).write (q:=((c,b),a,gn)) hg10 ho10
   have KQ:=(KV.out.grow HB.out).rrg (KP.out.go HB.out) (KV.out.own.h.alloc _) hg10 2 (.slice A10 (hs.length+1) c10)
   go_roundw
   case rel=>exact⟨n,hs++[(((c:Int),(b:Int)),(a:Int),gn)],A10,c10,Wq.stW u4 q,by go_num,by omega,Hz_ KZ,Hz_ KQ,HNX,by rw[List.length_append];exact HCX⟩
   case measure=>first | (simp[intOf];done) | (simp[intOf];omega)
 obtain⟨hs,hA,hc,t11,KV,KR,HF⟩:=hcut
 go_wp2_with fail
 refine(G1.out _ _ KR.out).mono ?_
 rintro e w13 ⟨rfl,hP,hu⟩
 have KV:=Hz_ (KV.out.call hu)
 have hf:=HF.out.trans Wq.onS_lst
 have hn63:=numV_lt t11
 obtain⟨n13,hn⟩:∃n,n=numV t11:=⟨_,rfl⟩
 obtain⟨t13,ht⟩:∃t,t=numS t11:=⟨_,rfl⟩
 rw[←hn] at hf hn63 ⊢
 rw[←ht] at hf hP
 have HF:=Hz_ hf
 have KR:=Hz_ hP
 clear hf hn ht hP hu
 go_upto_block 4 with fail
 go_cut [9] from 91 to 108 (fun _ wx=>∃(bs:List Wq.Bd) (M:List (BV×Wq.Bd)) (bA:Option Addr) (bc:Nat) (t:Option (List UInt8)),Hid (VC W0 wx g X W0.heap.size ⟨kA,kc,zA,zc,hA,hc,bA,bc⟩ ⟨kn,zs,hs,bs,0⟩ L M)∧Hid (RR wx g l t)∧Hid (Wq.onS Wq.pVw s=Wq.onS (Wq.vw4 kn zs hs bs) t))
 case first=>
  go_wp2_with fail
  go_loopw [9] (fun v9 wr=>∃(n:Nat) (bs:List Wq.Bd) (M:List (BV×Wq.Bd)) (bA:Option Addr) (bc:Nat) (t:Option (List UInt8)),v9=.int .i64 n∧n < 9223372036854775808∧Hid (VC W0 wr g X W0.heap.size ⟨kA,kc,zA,zc,hA,hc,bA,bc⟩ ⟨kn,zs,hs,bs,0⟩ L M)∧Hid (RR wr g l t)∧Hid (Wq.onS Wq.pVw s=Wq.onS (fun q=>Wq.repK Wq.pB (fun b q=>Wq.vw4 kn zs hs b q) n q bs) t)∧Hid (Cap2 bs.length t N)) (fun v9 _=>(intOf v9).toNat)
  case atStart=>exact⟨n13,[],[],none,0,t13,rfl,hn63,KV,KR,HF,Hz_ (HC0.out _ _ KR.out)⟩
  case round=>
   clear KV KR HF hn63
   obtain⟨n,bs,M,bA,bc,t,rfl,hn63,KV,KR,HF,HC⟩:=hrel
   rcases n with _ | n
   ·go_wp2_with fail
    go_meet
    exact⟨bs,M,bA,bc,t,KV,KR,Hz_ (HF.out.trans Wq.onS_zero)⟩
   have hpos:decide (((n+1:Nat):Int) > 0)=true:=decide_eq_true (by omega)
   obtain⟨b2,_⟩:=KR.out.bad
   rcases t with _ | cur
   ·have b2:_=some (Value.bool true):=b2
    go_wp2_with fail
    go_meet
    exact⟨bs,M,bA,bc,none,KV,KR,Hz_ HF.out⟩
   have b2:_=some (Value.bool false):=b2
   have HNX:=Hz_ fun (x:Wq.Bd) (hx:∀q,Wq.st Wq.pB (some cur)=some q→x=Wq.vl Wq.pB Wq.bd0 (some cur))=>HF.out.trans (Wq.onS_one (K:=fun b q=>Wq.vw4 kn zs hs b q) (n:=n) (acc:=bs) hx)
   have HCX:=Hz_ (show Cap2 (bs.length+1) (Wq.st Wq.pB (some cur)) N from Wq.st_cap1 (fun _ _ _ h=>Wq.pB_short h) HC.out)
   have hzn:bs.length≤4294967297:=by have:=Cap2.le HC.out;omega
   clear HC HF
   go_upto_region 22 with fail
   have KV:=Hz_ (KV.out.grow (Below.refl _ wr).drew)
   have KR:=Hz_ (KR.out.go (Below.refl _ wr).drew)
   clear b2
   refine region_nrm fun KK hKK=>?_
   refine wp_region_held_drew (S:=(fun _=>True)) (by kernel_rfl) (by first | trivial) (fun hHeld=>?_)
   refine puA 0 102 trivial ?_
   refine puA 2 104 trivial ?_
   refine wpAnyH_ready (rs:=[1,3]) (by kernel_rfl) (by simp) ?_
   refine AllReadyH.cons rfl (fun K hK=>?_) (AllReadyH.cons rfl (fun K hK=>?_) AllReadyH.nil)
   ·have b1:World.cell? _ ⟨X,3,none⟩=some (Value.slice bA bs.length bc):=KV.out.blk.cell 3
    go_simp
    clear b1
    refine hK.out _ _ trivial fun hHeld=>?_
    clear hK K
    refine puR 3 fun K hK=>?_
    go_simp
    refine(G6.out _ _ KR.out).mono ?_
    rintro e W6 ⟨⟨o_,⟨a_,b_⟩,xv⟩,xA,xc,rfl,ho,hP,hu,hx⟩
    rw[show bval ⟨o_,(a_,b_),xv⟩ xA xc=#[.int .i64 o_,.int .i64 a_,.int .i64 b_,.slice xA xv.length xc] from rfl]
    have HV:=Hz_ (own_less ho (show W0.heap.size≤_ from by have:=KV.out.hX;have:=KV.out.blk.lt;omega))
    have KV:=Hz_ (KV.out.call hu)
    have KR:=Hz_ hP
    have HX3:=Hz_ (HNX.out _ hx)
    clear ho hP hu hx
    refine hK.out _ _ trivial fun hHeld=>?_
    clear hK K
    refine puR 4 fun K hK=>?_
    go_simp
    have hb':Below _ _ _:=(Below.refl _ W6).alloc (Nat.le_refl _) (.cells #[.int .i64 o_,.int .i64 a_,.int .i64 b_,.slice xA xv.length xc] 31)
    have C:=Hz_ (rd_new hb' (size:=4) (n:=1) rfl h1max)
    have KV:=Hz_ (KV.out.grow hb')
    have KR:=Hz_ (KR.out.go hb')
    have HV:=Hz_ (own_below HV.out hb' (Nat.le_refl _))
    clear hb'
    refine hK.out _ _ trivial fun hHeld=>?_
    clear hK K
    refine puR 5 fun K hK=>?_
    rw[if_pos (by kernel_rfl)]
    refine wp_append_rd _ (.tmp 103) (.tmp 106) _ rfl W0.heap.size 31 ib0 _ 4 48 Tryz.underlying33 hbi0 hbz0 hbz1 hbz2 rfl (by decide) _ bs.length (bvv M) rfl KV.out.own.b.row _ _ 1 1 [.int .i64 o_,.int .i64 a_,.int .i64 b_,.slice xA xv.length xc] rfl C.out (by simp[Value.oneCell']) (by unfold maxLen;omega) (by omega) (by have:=KV.out.blk.lt;have:=KV.out.hX;omega) ?_
    intro A9 c9 W9 ho hg9 hat
    have KZ:=Hz_ (KV.out.body (p:=(⟨xA,xc⟩,⟨o_,(a_,b_),xv⟩)) HV.out hg9 ho)
    have KQ:=Hz_ (KV.out.rrg KR.out KV.out.own.b.row hg9 3 (.slice A9 (bs.length+1) c9))
    have hB:=blk_grow KV.out.blk KV.out.own.b.row hg9 (by decide)
    have b1:W9.cell? ⟨X,3,none⟩=some (Value.slice bA bs.length bc):=hB.cell 3
    have f1:=hB.frozen 3
    clear hB ho hg9 hat KV KR C HV
    refine hK.out _ _ trivial fun hHeld=>?_
    clear hK K
    refine puA 6 108 trivial ?_
    refine puR 7 fun K hK=>?_
    go_simp
    clear b1 f1
    refine hK.out _ _ trivial fun hHeld=>?_
    clear hK K
    refine wpAnyH_done (by kernel_rfl) ?_ _
    refine Nrm.out (hKK _ _ ?_)
    clear hHeld hKK
    go_wp2_with fail
    go_roundw
    case rel=>exact⟨n,bs++[⟨o_,(a_,b_),xv⟩],M++[(⟨xA,xc⟩,⟨o_,(a_,b_),xv⟩)],A9,c9,_,by go_num,by omega,KZ,KQ,HX3,by rw[List.length_append];exact HCX⟩
    case measure=>first | (simp[intOf];done) | (simp[intOf];omega)
   ·go_simp
    refine(G6.out _ _ KR.out).mono ?_
    rintro e W6 ⟨⟨o_,⟨a_,b_⟩,xv⟩,xA,xc,rfl,ho,hP,hu,hx⟩
    rw[show bval ⟨o_,(a_,b_),xv⟩ xA xc=#[.int .i64 o_,.int .i64 a_,.int .i64 b_,.slice xA xv.length xc] from rfl]
    have HV:=Hz_ (own_less ho (show W0.heap.size≤_ from by have:=KV.out.hX;have:=KV.out.blk.lt;omega))
    have KV:=Hz_ (KV.out.call hu)
    have KR:=Hz_ hP
    have HX3:=Hz_ (HNX.out _ hx)
    clear ho hP hu hx
    refine hK.out _ _ trivial fun hHeld=>?_
    clear hK K
    refine wpAnyH_ready (rs:=[1,4]) (by kernel_rfl) (by simp) ?_
    refine AllReadyH.cons rfl (fun K hK=>?_) (AllReadyH.cons rfl (fun K hK=>?_) AllReadyH.nil)
    ·have b1:World.cell? _ ⟨X,3,none⟩=some (Value.slice bA bs.length bc):=KV.out.blk.cell 3
     go_simp
     clear b1
     refine hK.out _ _ trivial fun hHeld=>?_
     clear hK K
     refine puR 4 fun K hK=>?_
     go_simp
     have hb':Below _ _ _:=(Below.refl _ W6).alloc (Nat.le_refl _) (.cells #[.int .i64 o_,.int .i64 a_,.int .i64 b_,.slice xA xv.length xc] 31)
     have C:=Hz_ (rd_new hb' (size:=4) (n:=1) rfl h1max)
     have KV:=Hz_ (KV.out.grow hb')
     have KR:=Hz_ (KR.out.go hb')
     have HV:=Hz_ (own_below HV.out hb' (Nat.le_refl _))
     clear hb'
     refine hK.out _ _ trivial fun hHeld=>?_
     clear hK K
     refine puR 5 fun K hK=>?_
     rw[if_pos (by kernel_rfl)]
     refine wp_append_rd _ (.tmp 103) (.tmp 106) _ rfl W0.heap.size 31 ib0 _ 4 48 Tryz.underlying33 hbi0 hbz0 hbz1 hbz2 rfl (by decide) _ bs.length (bvv M) rfl KV.out.own.b.row _ _ 1 1 [.int .i64 o_,.int .i64 a_,.int .i64 b_,.slice xA xv.length xc] rfl C.out (by simp[Value.oneCell']) (by unfold maxLen;omega) (by omega) (by have:=KV.out.blk.lt;have:=KV.out.hX;omega) ?_
     intro A9 c9 W9 ho hg9 hat
     have KZ:=Hz_ (KV.out.body (p:=(⟨xA,xc⟩,⟨o_,(a_,b_),xv⟩)) HV.out hg9 ho)
     have KQ:=Hz_ (KV.out.rrg KR.out KV.out.own.b.row hg9 3 (.slice A9 (bs.length+1) c9))
     have hB:=blk_grow KV.out.blk KV.out.own.b.row hg9 (by decide)
     have b1:W9.cell? ⟨X,3,none⟩=some (Value.slice bA bs.length bc):=hB.cell 3
     have f1:=hB.frozen 3
     clear hB ho hg9 hat KV KR C HV
     refine hK.out _ _ trivial fun hHeld=>?_
     clear hK K
     refine puA 6 108 trivial ?_
     refine puR 7 fun K hK=>?_
     go_simp
     clear b1 f1
     refine hK.out _ _ trivial fun hHeld=>?_
     clear hK K
     refine wpAnyH_done (by kernel_rfl) ?_ _
     refine Nrm.out (hKK _ _ ?_)
     clear hHeld hKK
     go_wp2_with fail
     go_roundw
     case rel=>exact⟨n,bs++[⟨o_,(a_,b_),xv⟩],M++[(⟨xA,xc⟩,⟨o_,(a_,b_),xv⟩)],A9,c9,_,by go_num,by omega,KZ,KQ,HX3,by rw[List.length_append];exact HCX⟩
     case measure=>first | (simp[intOf];done) | (simp[intOf];omega)
    ·go_simp
     have hb':Below _ _ _:=(Below.refl _ W6).alloc (Nat.le_refl _) (.cells #[.int .i64 o_,.int .i64 a_,.int .i64 b_,.slice xA xv.length xc] 31)
     have C:=Hz_ (rd_new hb' (size:=4) (n:=1) rfl h1max)
     have KV:=Hz_ (KV.out.grow hb')
     have KR:=Hz_ (KR.out.go hb')
     have HV:=Hz_ (own_below HV.out hb' (Nat.le_refl _))
     clear hb'
     refine hK.out _ _ trivial fun hHeld=>?_
     clear hK K
     refine puR 1 fun K hK=>?_
     have b1:World.cell? _ ⟨X,3,none⟩=some (Value.slice bA bs.length bc):=KV.out.blk.cell 3
     go_simp
     clear b1
     refine hK.out _ _ trivial fun hHeld=>?_
     clear hK K
     refine puR 5 fun K hK=>?_
     rw[if_pos (by kernel_rfl)]
     refine wp_append_rd _ (.tmp 103) (.tmp 106) _ rfl W0.heap.size 31 ib0 _ 4 48 Tryz.underlying33 hbi0 hbz0 hbz1 hbz2 rfl (by decide) _ bs.length (bvv M) rfl KV.out.own.b.row _ _ 1 1 [.int .i64 o_,.int .i64 a_,.int .i64 b_,.slice xA xv.length xc] rfl C.out (by simp[Value.oneCell']) (by unfold maxLen;omega) (by omega) (by have:=KV.out.blk.lt;have:=KV.out.hX;omega) ?_
     intro A9 c9 W9 ho hg9 hat
     have KZ:=Hz_ (KV.out.body (p:=(⟨xA,xc⟩,⟨o_,(a_,b_),xv⟩)) HV.out hg9 ho)
     have KQ:=Hz_ (KV.out.rrg KR.out KV.out.own.b.row hg9 3 (.slice A9 (bs.length+1) c9))
     have hB:=blk_grow KV.out.blk KV.out.own.b.row hg9 (by decide)
     have b1:W9.cell? ⟨X,3,none⟩=some (Value.slice bA bs.length bc):=hB.cell 3
     have f1:=hB.frozen 3
     clear hB ho hg9 hat KV KR C HV
     refine hK.out _ _ trivial fun hHeld=>?_
     clear hK K
     refine puA 6 108 trivial ?_
     refine puR 7 fun K hK=>?_
     go_simp
     clear b1 f1
     refine hK.out _ _ trivial fun hHeld=>?_
     clear hK K
     refine wpAnyH_done (by kernel_rfl) ?_ _
     refine Nrm.out (hKK _ _ ?_)
     clear hHeld hKK
     go_wp2_with fail
     go_roundw
     case rel=>exact⟨n,bs++[⟨o_,(a_,b_),xv⟩],M++[(⟨xA,xc⟩,⟨o_,(a_,b_),xv⟩)],A9,c9,_,by go_num,by omega,KZ,KQ,HX3,by rw[List.length_append];exact HCX⟩
     case measure=>first | (simp[intOf];done) | (simp[intOf];omega)
 obtain⟨bs,M,bA,bc,t15,KV,KR,HF⟩:=hcut
 go_wp2_with fail
 refine(G1.out _ _ KR.out).mono ?_
 rintro e w23 ⟨rfl,hP,hu⟩
 have HF:=Hz_ (Wq.onS_end (d:=Wq.vw0) (HF.out.trans Wq.onS_vw4))
 have kv:=KV.out.call hu
 clear hu KV KR
 obtain⟨m,hm⟩:∃m,m=numV t15:=⟨_,rfl⟩
 rw[←hm] at HF ⊢
 obtain⟨t16,ht⟩:∃t,t=numS t15:=⟨_,rfl⟩
 rw[←ht] at HF hP
 clear hm ht
 have b0:=kv.blk.cell 4
 have f0:=kv.blk.frozen 4
 go_upto_region 24 with fail
 have ks:=kv.room_ m
 have hP:=hP.but (But.set_ (g:=X) w23 (p:=⟨X,4,none⟩) rfl (.int .i64 m)) hgX
 clear b0 f0 kv
 generalize w23.setCell ⟨X,4,none⟩ (.int .i64 m)=w24 at ks hP ⊢
 have KS:=Hz_ ks
 have HP:=Hz_ hP
 have hI:(Tryz.prog.info? 35).map (·.size)=some 5:=by kernel_rfl
 have HI:=Hz_ hI
 obtain⟨x0,x1,x2,x3,x4⟩:=(show Blk w24 X 35 #[.slice kA kn.length kc,.slice zA zs.length zc,.slice hA hs.length hc,.slice bA bs.length bc,.int .i64 m] from ks.blk).five
 have hR:=HR0.out.but ks.but (by omega)
 clear ks hP hI
 go_wp2_with (refine wpList_store_blk rfl 35 _ _ rfl w.heap.size 35 _ #[.slice kA kn.length kc,.slice zA zs.length zc,.slice hA hs.length hc,.slice bA bs.length bc,.int .i64 m] rfl rfl hR HI.out rfl (by simp[Value.oneCell']) ?_;intro Wd hblk hg9)
 refine bodyPost_ret (results_cell_row rfl _ _ w.heap.size 35 _ _ _ rfl hblk Tryz.underlying35 rfl HI.out) rfl ?_
 have hbut:But w.heap.size w24 Wd:=But.grown hg9
 exact⟨_,rfl,⟨kA,kc,zA,zc,hA,hc,bA,bc⟩,⟨kn,zs,hs,bs,m⟩,L,M,rfl,(KS.out.own.but hbut (by omega)).less (by omega),by rw[HF.out.1];exact HP.out.but hbut hg,(HK0.out.trans KS.out.but).below (below_but (Below.refl _ _) hbut (HK0.out.trans KS.out.but).size (Nat.le_refl _)),HF.out.2⟩
end Go.Proofs.YtmbeahbgafkjfaaGreatDoor
