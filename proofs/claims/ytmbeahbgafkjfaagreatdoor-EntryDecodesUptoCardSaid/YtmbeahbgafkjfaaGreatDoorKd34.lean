/- Lemmas for the claim, layer 34. -/
import Derived.Test.YtmbeahbgafkjfaaGreatDoorKd11
import Derived.Test.YtmbeahbgafkjfaaGreatDoorKd16
import Derived.Test.YtmbeahbgafkjfaaGreatDoorKd30
set_option maxRecDepth 100000
set_option maxHeartbeats 16000000
namespace Go.Proofs.YtmbeahbgafkjfaaGreatDoor
open Go.RowKit
theorem setS_st (s:Option (List UInt8)):setS s=Wq.st Wq.pS s:=by
 rcases s with _ | l
 ·rfl
 ·rcases h:Wq.pS l with _ | ⟨_,_⟩<;>simp only[setS,Wq.st,h]
theorem setVS_vl (s:Option (List UInt8)):setVS s=Wq.vl Wq.pS [] s:=by
 rcases s with _ | l
 ·rfl
 ·rcases h:Wq.pS l with _ | ⟨_,_⟩<;>simp only[setVS,setV,Wq.vl,h]
theorem stNt_all (s t:Option (List UInt8)) (vs ve:List Vc.St) (vb:List Sn.Sp) (acc:List Wr) (k:Nat) (hs:∀q,Wq.st Wq.pV s=some q→vs=Wq.vl Wq.pV [] s) (he:∀q,Wq.st Wq.pV (Wq.st Wq.pV s)=some q→ve=Wq.vl Wq.pV [] (Wq.st Wq.pV s))
  (hb:∀q,Wq.st Wq.pS (Wq.st Wq.pV (Wq.st Wq.pV s))=some q→vb=Wq.vl Wq.pS [] (Wq.st Wq.pV (Wq.st Wq.pV s))) (hin:Wq.InvW k t acc (Wq.allW (Wq.st Wq.pS (Wq.st Wq.pV (Wq.st Wq.pV s))))) (hk:t≠none→k=0):
  (t=none→Wq.st Wq.pNt s=none)∧(∀r,t=some r→(ntF ⟨vs,ve,vb,acc⟩=true→Wq.st Wq.pNt s=some r∧(⟨vs,ve,vb,acc⟩:Nt)=Wq.vl Wq.pNt ⟨[],[],[],[]⟩ s)∧(ntF ⟨vs,ve,vb,acc⟩=false→Wq.st Wq.pNt s=none)):=by
 refine⟨fun ht=>?_,fun r ht=>?_⟩
 ·subst ht
  rcases s with _ | l
  ·rfl
  ·have h:=Wq.pNt_all l
   have hn:Wq.allW (Wq.st Wq.pS (Wq.st Wq.pV (Wq.st Wq.pV (some l))))=none:=hin
   rw[hn] at h
   exact st_no h
 ·subst ht
  obtain rfl:=hk (by simp)
  have hd:=hin.done
  obtain⟨q3,h3⟩:∃q,Wq.st Wq.pS (Wq.st Wq.pV (Wq.st Wq.pV s))=some q:=by
   rcases h:Wq.st Wq.pS (Wq.st Wq.pV (Wq.st Wq.pV s)) with _ | q
   ·rw[h] at hd;cases hd
   ·exact⟨q,rfl⟩
  obtain⟨q2,h2⟩:∃q,Wq.st Wq.pV (Wq.st Wq.pV s)=some q:=by
   rcases h:Wq.st Wq.pV (Wq.st Wq.pV s) with _ | q
   ·rw[h] at h3;cases h3
   ·exact⟨q,rfl⟩
  obtain⟨q1,h1⟩:∃q,Wq.st Wq.pV s=some q:=by
   rcases h:Wq.st Wq.pV s with _ | q
   ·rw[h] at h2;cases h2
   ·exact⟨q,rfl⟩
  rcases s with _ | l
  ·cases h1
  have h:=Wq.pNt_all l
  rw[hd,←hs q1 h1,←he q2 h2,←hb q3 h3] at h
  simp only at h
  refine⟨fun hf=>?_,fun hf=>?_⟩
  ·rw[if_pos hf] at h
   exact⟨(st_yes (d:=(⟨[],[],[],[]⟩:Nt)) h).1,(st_yes (d:=(⟨[],[],[],[]⟩:Nt)) h).2.symm⟩
  ·rw[if_neg (by rw[hf];simp)] at h
   exact st_no h
theorem refRdNote_any (g:Nat) (L:List UInt8) (s:Option (List UInt8)) (w:World) (h:RR w g L s) (hL:L.length≤4294967296):
  Calls Tryz.prog 57 #[.pointer (some ⟨g,0,none⟩)] w fun e w'=>∃v:NV,e=.returned (.agg v.val)∧∃x:Nt,
   NtOwn w' w.heap.size v x∧RR w' g L (Wq.st Wq.pNt s)∧But g w w'∧(∀q,Wq.st Wq.pNt s=some q→x=Wq.vl Wq.pNt ⟨[],[],[],[]⟩ s):=by
 obtain⟨i0,hi0,hz0,hz1,hz2⟩:=info_parts writes_info
 have hg:=h.lt
 have hC0:Cap2 0 s L.length:=by
  cases s with
  | none=>show 0≤_;omega
  | some l=>obtain⟨A,n,c,_,_,_,_,hle⟩:=h;show 0+l.length≤_;omega
 have hb0:Below w.heap.size w (w.alloc (.cells #[.slice none 0 0,.slice none 0 0,.slice none 0 0,.slice none 0 0] 26)):=(Below.refl _ _).alloc (Nat.le_refl _) _
 have hR0:=Blk.new w 26 #[.slice none 0 0,.slice none 0 0,.slice none 0 0,.slice none 0 0]
 obtain⟨W0,hW0⟩:∃W0,W0=w.alloc (.cells #[.slice none 0 0,.slice none 0 0,.slice none 0 0,.slice none 0 0] 26):=⟨_,rfl⟩
 have hs0:W0.heap.size=w.heap.size+1:=by rw[hW0];simp
 rw[←hW0] at hb0 hR0
 have hP0:=h.go hb0
 have k0:=(But.refl g w).below hb0
 have HW:=Hz_ hW0.symm
 have HCC:=Hz_ hC0
 obtain⟨n,hn⟩:∃n,n=L.length:=⟨_,rfl⟩
 have hn32:n≤4294967296:=by omega
 have HNN:=Hz_ hn
 have G1:=Hz_ fun (W:World) (s:Option (List UInt8)) (h:RR W g L s)=>refRdNum_any g L s W h
 have G3:=Hz_ fun (W:World) (s:Option (List UInt8)) (h:RR W g L s)=>refRdVec_any g L s W h hL
 have G4:=Hz_ fun (W:World) (s:Option (List UInt8)) (h:RR W g L s)=>(refRdSet_any g L s W h hL).mono fun e W' h'=>(show ∃v A' c',e=.returned (.slice A' v.length c') ∧
   W'.ownsRow W.heap.size 63 2 (.slice A' v.length c') v.length (sv v)∧RR W' g L (Wq.st Wq.pS s)∧But g W W'∧(∀q,Wq.st Wq.pS s=some q→v=Wq.vl Wq.pS [] s) from by rw[←setS_st,←setVS_vl];exact h')
 clear h hb0 hW0 hL hn hC0
 go_enter Tryz.func57,Tryz.ntmps57
 go_wp2_with fail
 rw[HW.out]
 -- the start
 refine(G3.out _ _ hP0).mono ?_
 rintro e w1 ⟨vs,A1,c1,rfl,o1,hP1,hu1,hvs⟩
 have hs1:=hu1.size
 have hR1:=hR0.but hu1 (by omega)
 have k1:=k0.trans hu1
 obtain⟨s1,hs1e⟩:∃t,t=Wq.st Wq.pV s:=⟨_,rfl⟩
 have HVS:=Hz_ hvs
 rw[←hs1e] at hP1
 have HS1:=Hz_ hs1e
 have hbX:Below w1.heap.size w1 (w1.alloc (.cells #[.slice A1 vs.length c1,.slice none 0 0,.slice none 0 0,.slice none 0 0] 26)):=(Below.refl _ _).alloc (Nat.le_refl _) _
 have hX:=Blk.new w1 26 #[.slice A1 vs.length c1,.slice none 0 0,.slice none 0 0,.slice none 0 0]
 obtain⟨W2,hW2⟩:∃W2,W2=w1.alloc (.cells #[.slice A1 vs.length c1,.slice none 0 0,.slice none 0 0,.slice none 0 0] 26):=⟨_,rfl⟩
 have hs2:W2.heap.size=w1.heap.size+1:=by rw[hW2];simp
 rw[←hW2] at hbX hX
 have HW2:=Hz_ hW2.symm
 have hP2:=hP1.go hbX
 have hR2:=hR1.go hbX
 have k2:=k1.below (hbX.mono (by omega))
 have hN2:NtX W2 W0.heap.size w1.heap.size ⟨A1,vs.length,c1,none,0,0,none,0,0,none,0,0⟩ ⟨vs,[],[],[]⟩:=⟨hX,⟨rfl,own_below o1 hbX (Nat.le_refl _),rfl,World.ownsRow_nil _ _ _ _,rfl,World.ownsRow_nil _ _ _ _,rfl,World.ownsRow_nil _ _ _ _⟩⟩
 clear hP0 hu1 hR0 hP1 hR1 k0 k1 hvs hs1e hW2 hbX hX o1
 go_wp2_with fail
 rw[HW2.out]
 -- the end
 refine(G3.out _ _ hP2).mono ?_
 rintro e w3 ⟨ve,A2,c2,rfl,o2,hP3,hu3,hve⟩
 have hs3:=hu3.size
 obtain⟨s2,hs2e⟩:∃t,t=Wq.st Wq.pV s1:=⟨_,rfl⟩
 rw[←hs2e] at hP3
 have HVE:=Hz_ hve
 have HS2:=Hz_ hs2e
 have hN3:=hN2.but hu3 (by omega) (by omega)
 have hR3:=hR2.but hu3 (by omega)
 have k3:=k2.trans hu3
 have fX1:=hN3.blk.frozen 1
 have cX1:=hN3.blk.cell 1
 have hN4:=hN3.set1 rfl (own_less o2 (by omega))
 have hu4:But w1.heap.size w3 (w3.setCell ⟨w1.heap.size,1,none⟩ (.slice A2 ve.length c2)):=But.set_ (g:=w1.heap.size) w3 (p:=⟨w1.heap.size,1,none⟩) rfl _
 have hP4:=hP3.but hu4 (by omega)
 have hR4:=hR3.but hu4 (by omega)
 have k4:But g w (w3.setCell ⟨w1.heap.size,1,none⟩ (.slice A2 ve.length c2)):=k3.below ((Below.refl _ _).setCell (by show w.heap.size≤w1.heap.size;omega) _)
 obtain⟨W4,hW4⟩:∃W4,W4=w3.setCell ⟨w1.heap.size,1,none⟩ (.slice A2 ve.length c2):=⟨_,rfl⟩
 have hs4:W4.heap.size=w3.heap.size:=by rw[hW4];simp
 rw[←hW4] at hN4 hP4 hR4 k4
 have HW4:=Hz_ hW4.symm
 dsimp only at hN4
 clear hP2 hu3 hN2 hR2 k2 hve hs2e hN3 hP3 hR3 k3 hu4 o2 hW4
 go_wp2_with fail
 rw[HW4.out]
 -- the blur
 refine(G4.out _ _ hP4).mono ?_
 rintro e w5 ⟨vb,A3,c3,rfl,o3,hP5,hu5,hvb⟩
 have hs5:=hu5.size
 obtain⟨s3,hs3e⟩:∃t,t=Wq.st Wq.pS s2:=⟨_,rfl⟩
 rw[←hs3e] at hP5
 have HVB:=Hz_ hvb
 have HS3:=Hz_ hs3e
 have hN5:=hN4.but hu5 (by omega) (by omega)
 have hR5:=hR4.but hu5 (by omega)
 have k5:=k4.trans hu5
 have fX2:=hN5.blk.frozen 2
 have cX2:=hN5.blk.cell 2
 have hN6:=hN5.set2 rfl (own_less o3 (by omega))
 have hu6:But w1.heap.size w5 (w5.setCell ⟨w1.heap.size,2,none⟩ (.slice A3 vb.length c3)):=But.set_ (g:=w1.heap.size) w5 (p:=⟨w1.heap.size,2,none⟩) rfl _
 have hP6:=hP5.but hu6 (by omega)
 have hR6:=hR5.but hu6 (by omega)
 have k6:But g w (w5.setCell ⟨w1.heap.size,2,none⟩ (.slice A3 vb.length c3)):=k5.below ((Below.refl _ _).setCell (by show w.heap.size≤w1.heap.size;omega) _)
 obtain⟨W6,hW6⟩:∃W6,W6=w5.setCell ⟨w1.heap.size,2,none⟩ (.slice A3 vb.length c3):=⟨_,rfl⟩
 have hs6:W6.heap.size=w5.heap.size:=by rw[hW6];simp
 rw[←hW6] at hN6 hP6 hR6 k6
 have HW6:=Hz_ hW6.symm
 dsimp only at hN6
 clear hN4 hP4 hR4 k4 hu5 hvb hs3e hN5 hP5 hR5 k5 hu6 o3 hW6 fX1 cX1
 go_wp2_with fail
 rw[HW6.out]
 -- how many writes
 have hC3:Cap2 0 s3 n:=by
  cases s3 with
  | none=>show 0≤n+1;omega
  | some l3=>obtain⟨_,_,_,_,_,_,_,hle⟩:=hP6;show 0+l3.length≤n;rw[HNN.out];omega
 refine(G1.out _ _ hP6).mono ?_
 rintro e w7 ⟨rfl,hP7,hu7⟩
 have hs7:=hu7.size
 have hN7:=hN6.but hu7 (by omega) (by omega)
 have hR7:=hR6.but hu7 (by omega)
 have k7:=k6.trans hu7
 have hk0:=numV_lt s3
 have hcap:Cap2 0 (numS s3) n:=numS_cap hC3
 have hinv:Wq.InvW (numV s3) (numS s3) [] (Wq.allW s3):=by rw[numV_vl,numS_st];exact Wq.InvW.start s3
 obtain⟨k0,hk0e⟩:∃k,k=numV s3:=⟨_,rfl⟩
 obtain⟨sk,hske⟩:∃s,s=numS s3:=⟨_,rfl⟩
 rw[←hk0e] at hk0 hinv
 rw[←hske] at hP7 hcap hinv
 rw[←hk0e]
 have HCAP:=Hz_ hcap
 have HINV:=Hz_ hinv
 clear hN6 hP6 hR6 k6 hu7 fX2 cX2 hk0e hske hcap hinv hC3
 go_wp2
 go_loopw [4,5,6] (fun v4 _ _ wr=>∃(k m c':Nat) (A':Option Addr) (s:Option (List UInt8)) (acc:List Wr),v4=.int .i64 k∧k≤k0∧RR wr g L s∧NtX wr W0.heap.size w1.heap.size ⟨A1,vs.length,c1,A2,ve.length,c2,A3,vb.length,c3,A',m,c'⟩ ⟨vs,ve,vb,acc⟩∧But g w wr ∧
  Blk wr w.heap.size 26 #[.slice none 0 0,.slice none 0 0,.slice none 0 0,.slice none 0 0]∧Hid (Cap2 m s n)∧Hid (Wq.InvW k s acc (Wq.allW s3))) (fun v4 _ _ _=>(intOf v4).toNat)
 case atStart=>exact⟨k0,0,0,none,sk,[],rfl,Nat.le_refl _,hP7,hN7,k7,hR7,HCAP.out,HINV.out⟩
 case round=>
  obtain⟨k,m,c',A',s',acc,rfl,hk,hP,hN,hb,hRr,hca,hin⟩:=hrel
  clear hP7 hN7 k7 hR7
  have hXl:=hN.blk.lt
  have hwb:=hb.size
  by_cases hgo:0 < k∧s'≠none
  ·obtain⟨hk1,hs⟩:=hgo
   obtain⟨l1,rfl⟩:∃l1,s'=some l1:=by
    cases s' with
    | none=>exact absurd rfl hs
    | some l1=>exact⟨l1,rfl⟩
   obtain⟨b2,_⟩:=hP.bad
   have b2:_=some (Value.bool false):=b2
   clear hs
   have hcap1:m+l1.length≤n:=hca.out
   have HNX:=Hz_ (show Wq.InvW (k - 1) (Wq.stW (numS (numS (numS (numS (some l1))))) (numV (numS (numS (numS (some l1)))))) (acc++[((((numV (numS (numS (some l1))):Nat):Int),((numV (numS (some l1)):Nat):Int)),((numV (some l1):Nat):Int),decide (numV (numS (numS (numS (some l1))))=1))]) (Wq.allW s3) by
    have h:=hin.out
    rw[show k=(k - 1)+1 by omega] at h
    simp only[numV_vl,numS_st]
    exact h.next)
   have HCX:=Hz_ (show Cap2 (m+1) (Wq.stW (numS (numS (numS (numS (some l1))))) (numV (numS (numS (numS (some l1)))))) n from cap_stW (numS_cap (numS_cap (numS_cap (numS_cap1 hca.out)))))
   obtain⟨o,ho⟩:∃x,x=numV (some l1):=⟨_,rfl⟩
   obtain⟨t1,ht1⟩:∃x,x=numS (some l1):=⟨_,rfl⟩
   obtain⟨a,ha⟩:∃x,x=numV t1:=⟨_,rfl⟩
   obtain⟨t2,ht2⟩:∃x,x=numS t1:=⟨_,rfl⟩
   obtain⟨b,hb'⟩:∃x,x=numV t2:=⟨_,rfl⟩
   obtain⟨t3,ht3⟩:∃x,x=numS t2:=⟨_,rfl⟩
   obtain⟨q,hq⟩:∃x,x=numV t3:=⟨_,rfl⟩
   obtain⟨t4,ht4⟩:∃x,x=numS t3:=⟨_,rfl⟩
   have hlq:q < 9223372036854775808:=by rw[hq];exact numV_lt _
   have C1:=G1.out wr (some l1) hP
   have C2:=fun W (h:RR W g L t1)=>G1.out W t1 h
   have C3:=fun W (h:RR W g L t2)=>G1.out W t2 h
   have C4:=fun W (h:RR W g L t3)=>G1.out W t3 h
   rw[←ho,←ht1] at C1
   rw[←ht2,←ha] at C2
   rw[←ht3,←hb'] at C3
   rw[←hq,←ht4] at C4
   rw[←ho,←ht1,←ht2,←ha,←hb',←ht3,←ht4,←hq] at HNX
   rw[←ht1,←ht2,←ht3,←ht4,←hq] at HCX
   have C1:=Hz_ C1
   have C2:=Hz_ C2
   have C3:=Hz_ C3
   have C4:=Hz_ C4
   have HN:=Hz_ hN
   have HR:=Hz_ hRr
   have HB:=Hz_ hb
   clear ho ht1 ha ht2 hb' ht3 hq ht4 hca hin hP hN hRr hb
   go_wp2_with fail
   refine C1.out.mono ?_
   rintro e w8 ⟨rfl,hP8,hu8⟩
   have hs8:=hu8.size
   have hY:=Blk.new w8 70 #[.int .i64 0,.int .i64 0,.int .i64 o,.bool false]
   have hbY:Below w8.heap.size w8 (w8.alloc (.cells #[.int .i64 0,.int .i64 0,.int .i64 o,.bool false] 70)):=(Below.refl _ _).alloc (Nat.le_refl _) _
   obtain⟨W9,hW9⟩:∃W9,W9=w8.alloc (.cells #[.int .i64 0,.int .i64 0,.int .i64 o,.bool false] 70):=⟨_,rfl⟩
   have hs9:W9.heap.size=w8.heap.size+1:=by rw[hW9];simp
   rw[←hW9] at hY hbY
   have HW9:=Hz_ hW9.symm
   have hP9:=hP8.go hbY
   have hN8:=HN.out.but hu8 (by omega) (by omega)
   have HLT:=Hz_ (NtOwn.lt hN8.own)
   have hN9:=hN8.go hbY
   have hR9:=(HR.out.but hu8 (by omega)).go hbY
   have hb9:=(HB.out.trans hu8).below (hbY.mono (by omega))
   clear b2 hu8 hP8 hbY hW9 HN HR HB hN8
   go_wp2_with fail
   rw[HW9.out]
   refine(C2.out _ hP9).mono ?_
   rintro e w10 ⟨rfl,hP10,hu10⟩
   have hs10:=hu10.size
   have hY10:=hY.but hu10 (by omega)
   have yf1:=hY10.frozen 1
   have yc1:=hY10.cell 1
   have hu11:But w8.heap.size w10 (w10.setCell ⟨w8.heap.size,1,none⟩ (.int .i64 a)):=But.set_ (g:=w8.heap.size) w10 (p:=⟨w8.heap.size,1,none⟩) rfl _
   have hY11:Blk (w10.setCell ⟨w8.heap.size,1,none⟩ (.int .i64 a)) w8.heap.size 70 #[.int .i64 0,.int .i64 a,.int .i64 o,.bool false]:=hY10.set_ 1 (.int .i64 a)
   have hP11:=hP10.but hu11 (by omega)
   have hN11:=(hN9.but hu10 (by omega) (by omega)).butN hu11 HLT.out (by omega)
   have hR11:=(hR9.but hu10 (by omega)).but hu11 (by omega)
   have hb11:But g w (w10.setCell ⟨w8.heap.size,1,none⟩ (.int .i64 a)):=(hb9.trans hu10).below ((Below.refl _ _).setCell (by show w.heap.size≤w8.heap.size;omega) _)
   obtain⟨W11,hW11⟩:∃W11,W11=w10.setCell ⟨w8.heap.size,1,none⟩ (.int .i64 a):=⟨_,rfl⟩
   have hs11:W11.heap.size=w10.heap.size:=by rw[hW11];simp
   rw[←hW11] at hP11 hN11 hR11 hb11 hY11
   have HW11:=Hz_ hW11.symm
   clear hP9 hN9 hR9 hb9 hu10 hP10 hY hY10 hu11 hW11
   go_wp2_with fail
   rw[HW11.out]
   refine(C3.out _ hP11).mono ?_
   rintro e w12 ⟨rfl,hP12,hu12⟩
   have hs12:=hu12.size
   have hY12:=hY11.but hu12 (by omega)
   have yf0:=hY12.frozen 0
   have yc0:=hY12.cell 0
   have hu13:But w8.heap.size w12 (w12.setCell ⟨w8.heap.size,0,none⟩ (.int .i64 b)):=But.set_ (g:=w8.heap.size) w12 (p:=⟨w8.heap.size,0,none⟩) rfl _
   have hY13:Blk (w12.setCell ⟨w8.heap.size,0,none⟩ (.int .i64 b)) w8.heap.size 70 #[.int .i64 b,.int .i64 a,.int .i64 o,.bool false]:=hY12.set_ 0 (.int .i64 b)
   have hP13:=hP12.but hu13 (by omega)
   have hN13:=(hN11.but hu12 (by omega) (by omega)).butN hu13 HLT.out (by omega)
   have hR13:=(hR11.but hu12 (by omega)).but hu13 (by omega)
   have hb13:But g w (w12.setCell ⟨w8.heap.size,0,none⟩ (.int .i64 b)):=(hb11.trans hu12).below ((Below.refl _ _).setCell (by show w.heap.size≤w8.heap.size;omega) _)
   obtain⟨W13,hW13⟩:∃W13,W13=w12.setCell ⟨w8.heap.size,0,none⟩ (.int .i64 b):=⟨_,rfl⟩
   have hs13:W13.heap.size=w12.heap.size:=by rw[hW13];simp
   rw[←hW13] at hP13 hN13 hR13 hb13 hY13
   have HW13:=Hz_ hW13.symm
   clear hP11 hN11 hR11 hb11 hu12 hP12 hY11 hY12 hu13 hW13
   go_wp2_with fail
   rw[HW13.out]
   refine(C4.out _ hP13).mono ?_
   rintro e w14 ⟨rfl,hP14,hu14⟩
   have hs14:=hu14.size
   have hY14:=hY13.but hu14 (by omega)
   have hN14:=hN13.but hu14 (by omega) (by omega)
   have hR14:=hR13.but hu14 (by omega)
   have hb14:=hb13.trans hu14
   have yf3:=hY14.frozen 3
   have yc3:=hY14.cell 3
   have hu15:But w8.heap.size w14 (w14.setCell ⟨w8.heap.size,3,none⟩ (.bool (decide (q=1)))):=But.set_ (g:=w8.heap.size) w14 (p:=⟨w8.heap.size,3,none⟩) rfl _
   have hY15:Blk (w14.setCell ⟨w8.heap.size,3,none⟩ (.bool (decide (q=1)))) w8.heap.size 70 #[.int .i64 b,.int .i64 a,.int .i64 o,.bool (decide (q=1))]:=hY14.set_ 3 (.bool (decide (q=1)))
   have hP15:=hP14.but hu15 (by omega)
   have hN15:=hN14.butN hu15 HLT.out (by omega)
   have hR15:=hR14.but hu15 (by omega)
   have hb15:But g w (w14.setCell ⟨w8.heap.size,3,none⟩ (.bool (decide (q=1)))):=hb14.below ((Below.refl _ _).setCell (by show w.heap.size≤w8.heap.size;omega) _)
   have HQ:=Hz_ (show ((q:Int) == 1)=decide (q=1) by rw[Bool.eq_iff_iff];simp;omega)
   have hs15:(w14.setCell ⟨w8.heap.size,3,none⟩ (.bool (decide (q=1)))).heap.size=w14.heap.size:=by simp
   clear hY13 hN13 hR13 hb13 hP13 hu14 hP14 hN14 hR14 hb14 hu15 hY14
   have hq1:((q:Int) == 1)=decide (q=1):=HQ.out
   obtain⟨gc2,gf2⟩:=hP15.bad
   rcases hA:t4 with _ | r4
   ·rw[hA] at hP15 HNX HCX
    rw[hA] at gc2
    have gc2:_=some (Value.bool true):=gc2
    rw[show Wq.stW none q=none by unfold Wq.stW;split<;>rfl] at HNX HCX
    have hu16:But g (w14.setCell ⟨w8.heap.size,3,none⟩ (.bool (decide (q=1)))) ((w14.setCell ⟨w8.heap.size,3,none⟩ (.bool (decide (q=1)))).setCell ⟨g,2,none⟩ (.bool true)):=But.set_ (g:=g) _ (p:=⟨g,2,none⟩) rfl _
    have hP16:RR ((w14.setCell ⟨w8.heap.size,3,none⟩ (.bool (decide (q=1)))).setCell ⟨g,2,none⟩ (.bool true)) g L _:=hP15.spoil
    have hY16:=hY15.but hu16 (by omega)
    have hN16:=hN15.but hu16 (by omega) (by omega)
    have hR16:=hR15.but hu16 (by omega)
    have hb16:=hb15.trans hu16
    obtain⟨y0,y1,y2,y3⟩:=hY16.four
    have xc3:=hN16.blk.cell 3
    obtain⟨W16,hW16⟩:∃W16,W16=(w14.setCell ⟨w8.heap.size,3,none⟩ (.bool (decide (q=1)))).setCell ⟨g,2,none⟩ (.bool true):=⟨_,rfl⟩
    have hs16:W16.heap.size=w14.heap.size:=by rw[hW16];simp
    have HW16:=Hz_ hW16.symm
    rw[←hW16] at hP16 hN16 hR16 hb16
    have hl4:=hN16.own.l4
    dsimp only at hl4
    have hmm:m≤4294967296:=by omega
    have h63:m+1≤maxLen:=by unfold maxLen;omega
    have h1max:1≤maxLen:=by unfold maxLen;omega
    have hoc:∀u∈[Value.int .i64 (b:Int),.int .i64 (a:Int),.int .i64 (o:Int),.bool (decide (q=1))],u.oneCell'=true:=by
     intro u hu
     simp only[List.mem_cons,List.not_mem_nil,or_false] at hu
     rcases hu with rfl | rfl | rfl | rfl<;>rfl
    have HRN:=Hz_ (show Rd (W16.alloc (.cells #[.int .i64 b,.int .i64 a,.int .i64 o,.bool (decide (q=1))] 70)) (w14.heap.size+1) 4 (some ⟨w14.heap.size,0,none⟩) 1 1 [.int .i64 b,.int .i64 a,.int .i64 o,.bool (decide (q=1))] from by have h:=Rd.new W16 70 4 1 #[.int .i64 b,.int .i64 a,.int .i64 o,.bool (decide (q=1))] rfl h1max;rw[hs16] at h;exact h)
    have HN16:=Hz_ hN16
    have HP16:=Hz_ hP16
    have HR16:=Hz_ hR16
    have HB16:=Hz_ hb16
    clear hu16 hY16 hN16 hR16 hb16 hP16 hY15 hN15 hR15 hb15 hP15 hW16 hA
    go_wp2_with (at_builtin;rw[HW16.out];go_must (refine wpList_append_rd _ rfl (.tmp 57) (.tmp 59) _ rfl W0.heap.size 70 i0 _ 4 32 Tryz.underlying24 hi0 hz0 hz1 hz2 rfl (by decide) (.slice A' m c') m _ rfl (HN16.out.own.o4.alloc _) (w14.heap.size+1) (some ⟨w14.heap.size,0,none⟩) 1 1 [.int .i64 b,.int .i64 a,.int .i64 o,.bool (decide (q=1))] rfl HRN.out hoc h63 (by omega) (by simp;omega) ?_);intro A18 c18 w18 ho18 hg18 hat18;have hN17:=HN16.out.go (w':=W16.alloc (.cells #[.int .i64 b,.int .i64 a,.int .i64 o,.bool (decide (q=1))] 70)) ((Below.refl _ _).alloc (Nat.le_refl _) _);have hB18:=(hN17.grow hg18).1;have xf3:=hB18.frozen 3;have xd3:=hB18.cell 3)
    have hbg:Below W0.heap.size W16 w18:=((Below.refl _ _).alloc (by omega) _).trans (grown_below hg18 (by simp;omega) (fun j hj=>own_lt HN16.out.own.o4 j hj))
    have hs18:=hbg.size
    have hl5:(acc++[(((b:Int),(a:Int)),(o:Int),decide (q=1))]).length=m+1:=by rw[List.length_append,hl4];rfl
    have hN19:=hN17.push hg18 hl5 (by rw[wv_app];exact ho18)
    have hu19:But w1.heap.size w18 (w18.setCell ⟨w1.heap.size,3,none⟩ (.slice A18 (m+1) c18)):=But.set_ (g:=w1.heap.size) w18 (p:=⟨w1.heap.size,3,none⟩) rfl _
    have hb19:But g w (w18.setCell ⟨w1.heap.size,3,none⟩ (.slice A18 (m+1) c18)):=(HB16.out.below (hbg.mono (by omega))).below ((Below.refl _ _).setCell (by show w.heap.size≤w1.heap.size;omega) _)
    go_roundw
    case rel=>
     exact⟨k - 1,m+1,c18,A18,_,acc++[(((b:Int),(a:Int)),(o:Int),decide (q=1))],by rw[show ((k:Int) - 1)=((k - 1:Nat):Int) by omega],by omega,(HP16.out.below hbg (by omega)).but hu19 (by omega),hN19,hb19,(HR16.out.below hbg (by omega)).but hu19 (by omega),HCX.out,HNX.out⟩
    case measure=>simp[intOf];omega
   ·rw[hA] at hP15 HNX HCX
    rw[hA] at gc2
    have gc2:_=some (Value.bool false):=gc2
    by_cases hq2:1 < q
    ·rw[show Wq.stW (some r4) q=none from if_pos hq2] at HNX HCX
     have hq3:decide ((1:Int) < (q:Int))=true:=by simp;omega
     have hu16:But g (w14.setCell ⟨w8.heap.size,3,none⟩ (.bool (decide (q=1)))) ((w14.setCell ⟨w8.heap.size,3,none⟩ (.bool (decide (q=1)))).setCell ⟨g,2,none⟩ (.bool true)):=But.set_ (g:=g) _ (p:=⟨g,2,none⟩) rfl _
     have hP16:RR ((w14.setCell ⟨w8.heap.size,3,none⟩ (.bool (decide (q=1)))).setCell ⟨g,2,none⟩ (.bool true)) g L _:=hP15.spoil
     have hY16:=hY15.but hu16 (by omega)
     have hN16:=hN15.but hu16 (by omega) (by omega)
     have hR16:=hR15.but hu16 (by omega)
     have hb16:=hb15.trans hu16
     obtain⟨y0,y1,y2,y3⟩:=hY16.four
     have xc3:=hN16.blk.cell 3
     obtain⟨W16,hW16⟩:∃W16,W16=(w14.setCell ⟨w8.heap.size,3,none⟩ (.bool (decide (q=1)))).setCell ⟨g,2,none⟩ (.bool true):=⟨_,rfl⟩
     have hs16:W16.heap.size=w14.heap.size:=by rw[hW16];simp
     have HW16:=Hz_ hW16.symm
     rw[←hW16] at hP16 hN16 hR16 hb16
     have hl4:=hN16.own.l4
     dsimp only at hl4
     have hmm:m≤4294967296:=by omega
     have h63:m+1≤maxLen:=by unfold maxLen;omega
     have h1max:1≤maxLen:=by unfold maxLen;omega
     have hoc:∀u∈[Value.int .i64 (b:Int),.int .i64 (a:Int),.int .i64 (o:Int),.bool (decide (q=1))],u.oneCell'=true:=by
      intro u hu
      simp only[List.mem_cons,List.not_mem_nil,or_false] at hu
      rcases hu with rfl | rfl | rfl | rfl<;>rfl
     have HRN:=Hz_ (show Rd (W16.alloc (.cells #[.int .i64 b,.int .i64 a,.int .i64 o,.bool (decide (q=1))] 70)) (w14.heap.size+1) 4 (some ⟨w14.heap.size,0,none⟩) 1 1 [.int .i64 b,.int .i64 a,.int .i64 o,.bool (decide (q=1))] from by have h:=Rd.new W16 70 4 1 #[.int .i64 b,.int .i64 a,.int .i64 o,.bool (decide (q=1))] rfl h1max;rw[hs16] at h;exact h)
     have HN16:=Hz_ hN16
     have HP16:=Hz_ hP16
     have HR16:=Hz_ hR16
     have HB16:=Hz_ hb16
     clear hu16 hY16 hN16 hR16 hb16 hP16 hY15 hN15 hR15 hb15 hP15 hW16 hA
     go_wp2_with (at_builtin;rw[HW16.out];go_must (refine wpList_append_rd _ rfl (.tmp 57) (.tmp 59) _ rfl W0.heap.size 70 i0 _ 4 32 Tryz.underlying24 hi0 hz0 hz1 hz2 rfl (by decide) (.slice A' m c') m _ rfl (HN16.out.own.o4.alloc _) (w14.heap.size+1) (some ⟨w14.heap.size,0,none⟩) 1 1 [.int .i64 b,.int .i64 a,.int .i64 o,.bool (decide (q=1))] rfl HRN.out hoc h63 (by omega) (by simp;omega) ?_);intro A18 c18 w18 ho18 hg18 hat18;have hN17:=HN16.out.go (w':=W16.alloc (.cells #[.int .i64 b,.int .i64 a,.int .i64 o,.bool (decide (q=1))] 70)) ((Below.refl _ _).alloc (Nat.le_refl _) _);have hB18:=(hN17.grow hg18).1;have xf3:=hB18.frozen 3;have xd3:=hB18.cell 3)
     have hbg:Below W0.heap.size W16 w18:=((Below.refl _ _).alloc (by omega) _).trans (grown_below hg18 (by simp;omega) (fun j hj=>own_lt HN16.out.own.o4 j hj))
     have hs18:=hbg.size
     have hl5:(acc++[(((b:Int),(a:Int)),(o:Int),decide (q=1))]).length=m+1:=by rw[List.length_append,hl4];rfl
     have hN19:=hN17.push hg18 hl5 (by rw[wv_app];exact ho18)
     have hu19:But w1.heap.size w18 (w18.setCell ⟨w1.heap.size,3,none⟩ (.slice A18 (m+1) c18)):=But.set_ (g:=w1.heap.size) w18 (p:=⟨w1.heap.size,3,none⟩) rfl _
     have hb19:But g w (w18.setCell ⟨w1.heap.size,3,none⟩ (.slice A18 (m+1) c18)):=(HB16.out.below (hbg.mono (by omega))).below ((Below.refl _ _).setCell (by show w.heap.size≤w1.heap.size;omega) _)
     go_roundw
     case rel=>
      exact⟨k - 1,m+1,c18,A18,_,acc++[(((b:Int),(a:Int)),(o:Int),decide (q=1))],by rw[show ((k:Int) - 1)=((k - 1:Nat):Int) by omega],by omega,(HP16.out.below hbg (by omega)).but hu19 (by omega),hN19,hb19,(HR16.out.below hbg (by omega)).but hu19 (by omega),HCX.out,HNX.out⟩
     case measure=>simp[intOf];omega
    ·rw[show Wq.stW (some r4) q=some r4 from if_neg hq2] at HNX HCX
     have hq3:decide ((1:Int) < (q:Int))=false:=by simp;omega
     have hu16:But g (w14.setCell ⟨w8.heap.size,3,none⟩ (.bool (decide (q=1)))) ((w14.setCell ⟨w8.heap.size,3,none⟩ (.bool (decide (q=1)))).setCell ⟨g,2,none⟩ (.bool false)):=But.set_ (g:=g) _ (p:=⟨g,2,none⟩) rfl _
     have hP16:RR ((w14.setCell ⟨w8.heap.size,3,none⟩ (.bool (decide (q=1)))).setCell ⟨g,2,none⟩ (.bool false)) g L _:=hP15.same
     have hY16:=hY15.but hu16 (by omega)
     have hN16:=hN15.but hu16 (by omega) (by omega)
     have hR16:=hR15.but hu16 (by omega)
     have hb16:=hb15.trans hu16
     obtain⟨y0,y1,y2,y3⟩:=hY16.four
     have xc3:=hN16.blk.cell 3
     obtain⟨W16,hW16⟩:∃W16,W16=(w14.setCell ⟨w8.heap.size,3,none⟩ (.bool (decide (q=1)))).setCell ⟨g,2,none⟩ (.bool false):=⟨_,rfl⟩
     have hs16:W16.heap.size=w14.heap.size:=by rw[hW16];simp
     have HW16:=Hz_ hW16.symm
     rw[←hW16] at hP16 hN16 hR16 hb16
     have hl4:=hN16.own.l4
     dsimp only at hl4
     have hmm:m≤4294967296:=by omega
     have h63:m+1≤maxLen:=by unfold maxLen;omega
     have h1max:1≤maxLen:=by unfold maxLen;omega
     have hoc:∀u∈[Value.int .i64 (b:Int),.int .i64 (a:Int),.int .i64 (o:Int),.bool (decide (q=1))],u.oneCell'=true:=by
      intro u hu
      simp only[List.mem_cons,List.not_mem_nil,or_false] at hu
      rcases hu with rfl | rfl | rfl | rfl<;>rfl
     have HRN:=Hz_ (show Rd (W16.alloc (.cells #[.int .i64 b,.int .i64 a,.int .i64 o,.bool (decide (q=1))] 70)) (w14.heap.size+1) 4 (some ⟨w14.heap.size,0,none⟩) 1 1 [.int .i64 b,.int .i64 a,.int .i64 o,.bool (decide (q=1))] from by have h:=Rd.new W16 70 4 1 #[.int .i64 b,.int .i64 a,.int .i64 o,.bool (decide (q=1))] rfl h1max;rw[hs16] at h;exact h)
     have HN16:=Hz_ hN16
     have HP16:=Hz_ hP16
     have HR16:=Hz_ hR16
     have HB16:=Hz_ hb16
     clear hu16 hY16 hN16 hR16 hb16 hP16 hY15 hN15 hR15 hb15 hP15 hW16 hA
     go_wp2_with (at_builtin;rw[HW16.out];go_must (refine wpList_append_rd _ rfl (.tmp 57) (.tmp 59) _ rfl W0.heap.size 70 i0 _ 4 32 Tryz.underlying24 hi0 hz0 hz1 hz2 rfl (by decide) (.slice A' m c') m _ rfl (HN16.out.own.o4.alloc _) (w14.heap.size+1) (some ⟨w14.heap.size,0,none⟩) 1 1 [.int .i64 b,.int .i64 a,.int .i64 o,.bool (decide (q=1))] rfl HRN.out hoc h63 (by omega) (by simp;omega) ?_);intro A18 c18 w18 ho18 hg18 hat18;have hN17:=HN16.out.go (w':=W16.alloc (.cells #[.int .i64 b,.int .i64 a,.int .i64 o,.bool (decide (q=1))] 70)) ((Below.refl _ _).alloc (Nat.le_refl _) _);have hB18:=(hN17.grow hg18).1;have xf3:=hB18.frozen 3;have xd3:=hB18.cell 3)
     have hbg:Below W0.heap.size W16 w18:=((Below.refl _ _).alloc (by omega) _).trans (grown_below hg18 (by simp;omega) (fun j hj=>own_lt HN16.out.own.o4 j hj))
     have hs18:=hbg.size
     have hl5:(acc++[(((b:Int),(a:Int)),(o:Int),decide (q=1))]).length=m+1:=by rw[List.length_append,hl4];rfl
     have hN19:=hN17.push hg18 hl5 (by rw[wv_app];exact ho18)
     have hu19:But w1.heap.size w18 (w18.setCell ⟨w1.heap.size,3,none⟩ (.slice A18 (m+1) c18)):=But.set_ (g:=w1.heap.size) w18 (p:=⟨w1.heap.size,3,none⟩) rfl _
     have hb19:But g w (w18.setCell ⟨w1.heap.size,3,none⟩ (.slice A18 (m+1) c18)):=(HB16.out.below (hbg.mono (by omega))).below ((Below.refl _ _).setCell (by show w.heap.size≤w1.heap.size;omega) _)
     go_roundw
     case rel=>
      exact⟨k - 1,m+1,c18,A18,_,acc++[(((b:Int),(a:Int)),(o:Int),decide (q=1))],by rw[show ((k:Int) - 1)=((k - 1:Nat):Int) by omega],by omega,(HP16.out.below hbg (by omega)).but hu19 (by omega),hN19,hb19,(HR16.out.below hbg (by omega)).but hu19 (by omega),HCX.out,HNX.out⟩
     case measure=>simp[intOf];omega
  ·have HN:=Hz_ hN
   have HR:=Hz_ hRr
   have HB:=Hz_ hb
   have HP:=Hz_ hP
   have HST:=stNt_all s s' vs ve vb acc k HVS.out (by rw[←HS1.out];exact HVE.out) (by rw[←HS1.out,←HS2.out];exact HVB.out) (by rw[←HS1.out,←HS2.out,←HS3.out];exact hin.out) (fun h=>by
    rcases Nat.eq_zero_or_pos k with h' | h'
    ·exact h'
    ·exact absurd ⟨h',h⟩ hgo)
   have HSTH:=Hz_ HST
   have HCK:=Hz_ (show s'≠none→k=0 from fun h=>by
    rcases Nat.eq_zero_or_pos k with h' | h'
    ·exact h'
    ·exact absurd ⟨h',h⟩ hgo)
   have HF:=Hz_ fun (W:World) (hN:NtRd W W.heap.size ⟨A1,vs.length,c1,A2,ve.length,c2,A3,vb.length,c3,A',m,c'⟩ ⟨vs,ve,vb,acc⟩)=>refNoteFormed_any ⟨A1,vs.length,c1,A2,ve.length,c2,A3,vb.length,c3,A',m,c'⟩ ⟨vs,ve,vb,acc⟩ W hN
   have FIN:∀(WB:World) (t:Option (List UInt8)),Blk WB w.heap.size 26 #[.slice none 0 0,.slice none 0 0,.slice none 0 0,.slice none 0 0]→But g w WB→RR WB g L t→NtX WB W0.heap.size w1.heap.size ⟨A1,vs.length,c1,A2,ve.length,c2,A3,vb.length,c3,A',m,c'⟩ ⟨vs,ve,vb,acc⟩ →
     Blk ((((WB.setCell ⟨w.heap.size,0,none⟩ (.slice A1 vs.length c1)).setCell ⟨w.heap.size,1,none⟩ (.slice A2 ve.length c2)).setCell ⟨w.heap.size,2,none⟩ (.slice A3 vb.length c3)).setCell ⟨w.heap.size,3,none⟩ (.slice A' m c')) w.heap.size 26 #[.slice A1 vs.length c1,.slice A2 ve.length c2,.slice A3 vb.length c3,.slice A' m c'] ∧
     NtOwn ((((WB.setCell ⟨w.heap.size,0,none⟩ (.slice A1 vs.length c1)).setCell ⟨w.heap.size,1,none⟩ (.slice A2 ve.length c2)).setCell ⟨w.heap.size,2,none⟩ (.slice A3 vb.length c3)).setCell ⟨w.heap.size,3,none⟩ (.slice A' m c')) w.heap.size ⟨A1,vs.length,c1,A2,ve.length,c2,A3,vb.length,c3,A',m,c'⟩ ⟨vs,ve,vb,acc⟩ ∧
     RR ((((WB.setCell ⟨w.heap.size,0,none⟩ (.slice A1 vs.length c1)).setCell ⟨w.heap.size,1,none⟩ (.slice A2 ve.length c2)).setCell ⟨w.heap.size,2,none⟩ (.slice A3 vb.length c3)).setCell ⟨w.heap.size,3,none⟩ (.slice A' m c')) g L t∧But g w ((((WB.setCell ⟨w.heap.size,0,none⟩ (.slice A1 vs.length c1)).setCell ⟨w.heap.size,1,none⟩ (.slice A2 ve.length c2)).setCell ⟨w.heap.size,2,none⟩ (.slice A3 vb.length c3)).setCell ⟨w.heap.size,3,none⟩ (.slice A' m c')):=by
    intro WB t hB hk hP hN
    have hu:But w.heap.size WB ((((WB.setCell ⟨w.heap.size,0,none⟩ (.slice A1 vs.length c1)).setCell ⟨w.heap.size,1,none⟩ (.slice A2 ve.length c2)).setCell ⟨w.heap.size,2,none⟩ (.slice A3 vb.length c3)).setCell ⟨w.heap.size,3,none⟩ (.slice A' m c')):=
     (((But.set_ (g:=w.heap.size) _ (p:=⟨w.heap.size,0,none⟩) rfl _).trans (But.set_ (g:=w.heap.size) _ (p:=⟨w.heap.size,1,none⟩) rfl _)).trans (But.set_ (g:=w.heap.size) _ (p:=⟨w.heap.size,2,none⟩) rfl _)).trans (But.set_ (g:=w.heap.size) _ (p:=⟨w.heap.size,3,none⟩) rfl _)
    exact⟨(((hB.set_ 0 (.slice A1 vs.length c1)).set_ 1 (.slice A2 ve.length c2)).set_ 2 (.slice A3 vb.length c3)).set_ 3 (.slice A' m c'),(hN.own.but hu (by omega)).less (by omega),hP.but hu hg,
     hk.below ((((((Below.refl _ _).setCell (p:=⟨w.heap.size,0,none⟩) (Nat.le_refl _) _).setCell (p:=⟨w.heap.size,1,none⟩) (Nat.le_refl _) _).setCell (p:=⟨w.heap.size,2,none⟩) (Nat.le_refl _) _).setCell (p:=⟨w.heap.size,3,none⟩) (Nat.le_refl _) _))⟩
   have HFIN:=Hz_ FIN
   have hg1:w1.heap.size≠g:=by omega
   have hg0:w.heap.size≠g:=by omega
   obtain⟨b2,f2⟩:=hP.bad
   obtain⟨q0,q1,q2,q3⟩:=hN.blk.four
   clear FIN HST hN hRr hb hP hca hin
   rcases s' with _ | r
   ·have b2:wr.cell? ⟨g,2,none⟩=some (.bool true):=b2
    have hR9:=HR.out.far (p:=⟨g,2,none⟩) hg0 (.bool true)
    have hN9:=HN.out.but (But.set_ (g:=g) wr (p:=⟨g,2,none⟩) rfl (.bool true)) (by omega) hg1
    obtain⟨x0,x1,x2,x3⟩:=hN9.blk.four
    obtain⟨z0,z1,z2,z3⟩:=hR9.four
    have y0:=hR9.frozen 0
    have y1:=hR9.frozen 1
    have y2:=hR9.frozen 2
    have y3:=hR9.frozen 3
    have k9:=HB.out.trans (But.set_ (g:=g) wr (p:=⟨g,2,none⟩) rfl (.bool true))
    have P9:=HP.out.spoil
    have F:=Hz_ (HFIN.out _ none hR9 k9 P9 hN9)
    have HNN:=Hz_ (HSTH.out.1 rfl)
    clear hR9 k9 P9 hN9 hgo
    by_cases hk0:0 < k
    ·go_wp2
     obtain⟨F1,F2,F3,F4⟩:=F.out
     refine bodyPost_ret (results_cell_row rfl _ _ w.heap.size 26 _ _ _ rfl F1 Tryz.underlying26 rfl (by kernel_rfl)) rfl ⟨⟨A1,vs.length,c1,A2,ve.length,c2,A3,vb.length,c3,A',m,c'⟩,rfl,⟨vs,ve,vb,acc⟩,F2,by rw[HNN.out];exact F3,F4,fun q hq=>by rw[HNN.out] at hq;cases hq⟩
    ·obtain rfl:k=0:=by omega
     go_wp2
     obtain⟨F1,F2,F3,F4⟩:=F.out
     refine bodyPost_ret (results_cell_row rfl _ _ w.heap.size 26 _ _ _ rfl F1 Tryz.underlying26 rfl (by kernel_rfl)) rfl ⟨⟨A1,vs.length,c1,A2,ve.length,c2,A3,vb.length,c3,A',m,c'⟩,rfl,⟨vs,ve,vb,acc⟩,F2,by rw[HNN.out];exact F3,F4,fun q hq=>by rw[HNN.out] at hq;cases hq⟩
   ·have b2:wr.cell? ⟨g,2,none⟩=some (.bool false):=b2
    obtain rfl:=HCK.out (by simp)
    rcases hz:ntF ⟨vs,ve,vb,acc⟩ with _ | _
    ·rw[hz] at HF
     have HNN:=Hz_ ((HSTH.out.2 r rfl).2 hz)
     clear hz hgo HSTH HCK
     go_wp2_with (first
      | (go_at_call 43;go_must (refine(HF.out _ HN.out.own.rd).mono ?_);rintro e w9 ⟨rfl,hb9⟩
         have hP9:=HP.out.go hb9
         obtain⟨b3,f3⟩:=hP9.bad
         have b3:w9.cell? ⟨g,2,none⟩=some (.bool false):=b3
         have hR9:=(HR.out.go hb9).far (p:=⟨g,2,none⟩) hg0 (.bool true)
         have hN9:=(HN.out.go hb9).but (But.set_ (g:=g) w9 (p:=⟨g,2,none⟩) rfl (.bool true)) (by omega) hg1
         obtain⟨x0,x1,x2,x3⟩:=hN9.blk.four
         obtain⟨z0,z1,z2,z3⟩:=hR9.four
         have y0:=hR9.frozen 0
         have y1:=hR9.frozen 1
         have y2:=hR9.frozen 2
         have y3:=hR9.frozen 3
         have k9:=(HB.out.below (hb9.mono hwb)).trans (But.set_ (g:=g) _ (p:=⟨g,2,none⟩) rfl (.bool true))
         have P9:=hP9.spoil
         have F:=Hz_ (HFIN.out _ none hR9 k9 P9 hN9)
         clear hR9 k9 P9 hN9 hP9)
      | fail)
     obtain⟨F1,F2,F3,F4⟩:=F.out
     refine bodyPost_ret (results_cell_row rfl _ _ w.heap.size 26 _ _ _ rfl F1 Tryz.underlying26 rfl (by kernel_rfl)) rfl ⟨⟨A1,vs.length,c1,A2,ve.length,c2,A3,vb.length,c3,A',m,c'⟩,rfl,⟨vs,ve,vb,acc⟩,F2,by rw[HNN.out];exact F3,F4,fun q hq=>by rw[HNN.out] at hq;cases hq⟩
    ·rw[hz] at HF
     have HNN:=Hz_ ((HSTH.out.2 r rfl).1 hz)
     clear hz hgo HSTH HCK
     go_wp2_with (first
      | (go_at_call 43;go_must (refine(HF.out _ HN.out.own.rd).mono ?_);rintro e w9 ⟨rfl,hb9⟩
         have hP9:=HP.out.go hb9
         obtain⟨b3,f3⟩:=hP9.bad
         have b3:w9.cell? ⟨g,2,none⟩=some (.bool false):=b3
         have hR9:=(HR.out.go hb9).far (p:=⟨g,2,none⟩) hg0 (.bool false)
         have hN9:=(HN.out.go hb9).but (But.set_ (g:=g) w9 (p:=⟨g,2,none⟩) rfl (.bool false)) (by omega) hg1
         obtain⟨x0,x1,x2,x3⟩:=hN9.blk.four
         obtain⟨z0,z1,z2,z3⟩:=hR9.four
         have y0:=hR9.frozen 0
         have y1:=hR9.frozen 1
         have y2:=hR9.frozen 2
         have y3:=hR9.frozen 3
         have k9:=(HB.out.below (hb9.mono hwb)).trans (But.set_ (g:=g) _ (p:=⟨g,2,none⟩) rfl (.bool false))
         have P9:=hP9.same
         have F:=Hz_ (HFIN.out _ (some r) hR9 k9 P9 hN9)
         clear hR9 k9 P9 hN9 hP9)
      | fail)
     obtain⟨F1,F2,F3,F4⟩:=F.out
     refine bodyPost_ret (results_cell_row rfl _ _ w.heap.size 26 _ _ _ rfl F1 Tryz.underlying26 rfl (by kernel_rfl)) rfl ⟨⟨A1,vs.length,c1,A2,ve.length,c2,A3,vb.length,c3,A',m,c'⟩,rfl,⟨vs,ve,vb,acc⟩,F2,by rw[HNN.out.1];exact F3,F4,fun q _=>HNN.out.2⟩
end Go.Proofs.YtmbeahbgafkjfaaGreatDoor
