/- Lemmas for the claim, layer 30. -/
import Derived.Test.YtmbeahbgafkjfaaGreatDoorKd10
import Derived.Test.YtmbeahbgafkjfaaGreatDoorKd29
set_option maxRecDepth 100000
set_option maxHeartbeats 16000000
namespace Go.Proofs.YtmbeahbgafkjfaaGreatDoor
open Go.RowKit
theorem appendBody_no (A:Option Addr) (n c:Nat) (x:Wq.Bd) (Av:Option Addr) (cv:Nat) (w:World) (hf:Wq.bdF x=false):
  Calls Tryz.prog 29 #[.slice A n c,.agg (bval x Av cv)] w fun e w'=>e=.returned (.tuple #[.slice none 0 0,.int .i64 1])∧Below w.heap.size w w':=by
 have hb0:Below w.heap.size w (w.alloc (.cells (bval x Av cv) 31)):=(Below.refl _ _).alloc (Nat.le_refl _) _
 have G1:=bodyRight_any x Av cv (w.alloc (.cells (bval x Av cv) 31))
 rw[hf] at G1
 unfold bval at G1 hb0 ⊢
 have G1:=Hz_ G1
 have HB:=Hz_ hb0
 clear hf hb0
 go_enter Tryz.func29,Tryz.ntmps29
 go_wp2_with (go_at_call 104;go_must (refine G1.out.mono ?_);rintro e w1 ⟨rfl,hb1⟩)
 go_ret2
 exact⟨rfl,btn HB.out hb1⟩
theorem appendBody_any (A:Option Addr) (n c:Nat) (l:List UInt8) (x:Wq.Bd) (Av:Option Addr) (cv:Nat) (w:World) (hl:l.length=n) (hR:Rd w w.heap.size 1 A n c (bv l)) (hR2:Rd w w.heap.size 1 Av x.v.length cv (bv x.v)) (hf:Wq.bdF x=true) (hc:x.s.1 < 9223372036854775808) (hn:n+2400≤140737488355328):
  Calls Tryz.prog 29 #[.slice A n c,.agg (bval x Av cv)] w fun e w'=>∃v,e=.returned (.tuple #[v,.int .i64 0])∧BytesAre w.heap.size w (l++Wq.lB x) v w':=by
 obtain⟨f1,f2,f3,f4,f5,f6⟩:=(Wq.bdF_iff x).1 hf
 have hb0:Below w.heap.size w (w.alloc (.cells (bval x Av cv) 31)):=(Below.refl _ _).alloc (Nat.le_refl _) _
 have hX:=Blk.new w 31 (bval x Av cv)
 have G1:=bodyRight_any x Av cv (w.alloc (.cells (bval x Av cv) 31))
 rw[hf] at G1
 have h3max:3≤maxLen:=by unfold maxLen;omega
 have hu3:∀z∈[x.o,x.s.2,x.s.1],Wq.u63 z:=by
  intro z hz
  simp only[List.mem_cons,List.not_mem_nil,or_false] at hz
  rcases hz with rfl | rfl | rfl
  ·exact⟨f1,by omega⟩
  ·exact⟨f4,by omega⟩
  ·exact⟨by omega,hc⟩
 have G2:=Hz_ fun (W:World) (D:Option Addr) (d:Nat) (h1:Rd W W.heap.size 1 A n c (bv l)) (h2:Rd W W.heap.size 1 D 3 d (iv [x.o,x.s.2,x.s.1]))=>lay_any A D n c 3 d l [x.o,x.s.2,x.s.1] W hl h1 rfl h2 hu3 (by omega) (by omega)
 have hE:=layAll_len [x.o,x.s.2,x.s.1] hu3
 have hl3:(l++layAll [x.o,x.s.2,x.s.1]).length≤n+27:=by rw[List.length_append,hl];simp at hE;omega
 have HL3:=Hz_ (show (l++layAll [x.o,x.s.2,x.s.1])++Pk.lay x.v.length++x.v=l++Wq.lB x by unfold Wq.lB Wq.lR;simp[layAll])
 obtain⟨l3,hl3e⟩:∃q,q=l++layAll [x.o,x.s.2,x.s.1]:=⟨_,rfl⟩
 rw[←hl3e] at G2 hl3 HL3
 have G3:=Hz_ fun (W:World) (D:Option Addr) (d:Nat) (h1:Rd W W.heap.size 1 D l3.length d (bv l3)) (h2:Rd W W.heap.size 1 Av x.v.length cv (bv x.v))=>appendRow_any D Av l3.length d x.v.length cv l3 x.v W rfl h1 h2 (by omega)
 obtain⟨o,⟨ct,nd⟩,v⟩:=x
 dsimp only at *
 unfold bval at G1 hb0 hX ⊢
 dsimp only at G1 hb0 hX ⊢
 have HR:=Hz_ (hR.go hb0)
 have HR2:=Hz_ (hR2.go hb0)
 have G1:=Hz_ G1
 have HB:=Hz_ hb0
 have HX:=Hz_ hX
 clear hl hR hR2 hf hc f1 f2 f3 f4 f5 f6 hu3 hE hl3e hb0 hX
 go_enter Tryz.func29,Tryz.ntmps29
 go_wp2_with (go_at_call 104;go_must (refine G1.out.mono ?_);rintro e w1 ⟨rfl,hb1⟩)
 obtain⟨q0,q1,q2,q3⟩:w1.drew.cell? ⟨w.heap.size,0,none⟩=some (.int .i64 o)∧w1.drew.cell? ⟨w.heap.size,1,none⟩=some (.int .i64 ct)∧w1.drew.cell? ⟨w.heap.size,2,none⟩=some (.int .i64 nd)∧w1.drew.cell? ⟨w.heap.size,3,none⟩=some (.slice Av v.length cv):=(HX.out.go hb1).four
 have HXX:=Hz_ (show Blk w1 w.heap.size 31 #[.int .i64 o,.int .i64 ct,.int .i64 nd,.slice Av v.length cv] from HX.out.go hb1)
 have HR1:=Hz_ (HR.out.go hb1)
 have HS1:=Hz_ (HR2.out.go hb1)
 have HB1:=Hz_ (btn HB.out hb1)
 have hs1:=HB1.out.size
 have HBD:=Hz_ (show Below w1.heap.size w1 (w1.alloc (.cells #[.int .i64 o,.int .i64 nd,.int .i64 ct] 3)).drew from ((Below.refl _ _).alloc (Nat.le_refl _) _).drew)
 have HRn:=Hz_ (show Rd (w1.alloc (.cells #[.int .i64 o,.int .i64 nd,.int .i64 ct] 3)).drew (w1.heap.size+1) 1 (some ⟨w1.heap.size,0,none⟩) 3 3 (iv [o,nd,ct]) from (Rd.new w1 3 1 3 #[.int .i64 o,.int .i64 nd,.int .i64 ct] rfl h3max).drew)
 refine region_nrm fun K hK=>?_
 go_region_held3 (fun w'=>w'.cell? ⟨w.heap.size,0,none⟩=some (.int .i64 o)∧w'.cell? ⟨w.heap.size,1,none⟩=some (.int .i64 ct)∧w'.cell? ⟨w.heap.size,2,none⟩=some (.int .i64 nd)∧w'.cell? ⟨w.heap.size,3,none⟩=some (.slice Av v.length cv)) (first | exact⟨u0,u1,u2,u3⟩ | exact⟨t0,t1,t2,t3⟩ | exact⟨q0,q1,q2,q3⟩ | exact(HXX.out.go HBD.out).four | go_keep) (first
  | (go_at_call 103;go_must (refine(G2.out _ _ _ (HR1.out.go HBD.out) (by have h:=HRn.out;exact h.more (by simp))).mono ?_);rintro e w2 ⟨v2,rfl,A2,c2,rfl,ho2,hb2⟩;obtain⟨t0,t1,t2,t3⟩:=((HXX.out.go HBD.out).go hb2).four)
  | (go_at_call 105;go_must (refine(G3.out _ _ _ (Rd.of_own ho2) ((HS1.out.go HBD.out).go hb2)).mono ?_);rintro e w3 ⟨A3,c3,rfl,ho3,hb3⟩;obtain⟨u0,u1,u2,u3⟩:=(((HXX.out.go HBD.out).go hb2).go hb3).four))
 refine Nrm.out (hK _ _ ?_)
 go_wp2
 go_ret2
 have hlen:(l++Wq.lB ⟨o,(ct,nd),v⟩).length=l3.length+(Pk.lay v.length).length+v.length:=by rw[←HL3.out,List.length_append,List.length_append]
 refine⟨_,rfl,A3,c3,by rw[hlen]<;>rfl,?_,below_then (below_then (btn HB1.out HBD.out) (Nat.le_refl _) hb2) (Nat.le_refl _) hb3⟩
 rw[hlen,←HL3.out]
 exact own_less ho3 (by have:=hb2.size;simp at this;omega)
def all2S:Option (List UInt8)→Option (List (Int×Int)×List UInt8)
 | none=>none
 | some l=>all2 l
theorem Inv2.startS (s:Option (List UInt8)):Inv2 (numV s) (numS s) [] (all2S s):=by
 cases s with
 | none=>exact rfl
 | some l=>exact Inv2.start l
def setS:Option (List UInt8)→Option (List UInt8)
 | none=>none
 | some l=>match Wq.pS l with | none=>none | some (_,r)=>some r
def setVS:Option (List UInt8)→List Sn.Sp
 | none=>[]
 | some l=>setV l
theorem setS_of {s:Option (List UInt8)}:setS s=match all2S s with | none=>none | some (v,q)=>if Sn.fmS (-2) v=true then some q else none:=by
 cases s with
 | none=>rfl
 | some l=>
  show (match Wq.pS l with | none=>none | some (_,r)=>some r)=_
  rw[pS_all]
  show _=match all2 l with | none=>none | some (v,q)=>if Sn.fmS (-2) v=true then some q else none
  rcases all2 l with _ | ⟨v,q⟩
  ·rfl
  ·simp only
   by_cases h:Sn.fmS (-2) v=true
   ·rw[if_pos h,if_pos h]
   ·rw[if_neg h,if_neg h]
theorem setVS_of {s:Option (List UInt8)} {v:List Sn.Sp} {q:List UInt8} (h:all2S s=some (v,q)) (hf:Sn.fmS (-2) v=true):setVS s=v:=by
 cases s with
 | none=>cases h
 | some l=>
  have h':all2 l=some (v,q):=h
  have:Wq.pS l=some (v,q):=by rw[pS_all,h'];simp only;rw[if_pos hf]
  exact(set_yes this).1
theorem refRdSet_any (g:Nat) (L:List UInt8) (s0:Option (List UInt8)) (w:World) (h:RR w g L s0) (hn:L.length≤4294967296):
  Calls Tryz.prog 59 #[.pointer (some ⟨g,0,none⟩)] w fun e w'=>∃v A' c',e=.returned (.slice A' v.length c') ∧
   w'.ownsRow w.heap.size 63 2 (.slice A' v.length c') v.length (sv v)∧RR w' g L (setS s0)∧But g w w'∧(∀q,setS s0=some q→v=setVS s0):=by
 obtain⟨i0,hi0,hz0,hz1,hz2⟩:=info_parts span_info
 have hlt0:=h.lt
 have HC0:Cap2 0 s0 L.length:=by
  cases s0 with
  | none=>show 0≤_;omega
  | some l=>obtain⟨A,n,c,_,_,_,_,hle⟩:=h;show 0+l.length≤_;omega
 have hcap:=Hz_ (numS_cap HC0)
 have hinv:=Hz_ (Inv2.startS s0)
 have hk0:=numV_lt s0
 obtain⟨k0,hk0e⟩:∃k0,k0=numV s0:=⟨_,rfl⟩
 have H1:=Hz_ fun (W:World) (s:Option (List UInt8)) (h:RR W g L s)=>refRdNum_any g L s W h
 have H10:=H1.out w s0 h
 rw[←hk0e] at H10 hk0 hinv
 have H0:=Hz_ H10
 obtain⟨N,hN⟩:∃N,N=L.length:=⟨_,rfl⟩
 rw[←hN] at hn hcap
 clear H10 hk0e h HC0 hN
 go_enter Tryz.func59,Tryz.ntmps59
 go_wp2_with fail
 refine H0.out.mono ?_
 rintro e w1 ⟨rfl,hP1,hu1⟩
 have hs1:=hu1.size
 clear H0
 go_wp2_with fail
 go_loopw [3,4,5] (fun v6 v7 _ wr=>∃(k m c':Nat) (A':Option Addr) (s:Option (List UInt8)) (acc:List (Int×Int)),v7=.int .i64 k∧v6=.slice A' m c'∧k≤k0∧RR wr g L s∧But g w wr ∧
  wr.ownsRow w.heap.size 63 2 (.slice A' m c') m (sv acc)∧Hid (acc.length=m)∧Hid (Cap2 m s N)∧Hid (Inv2 k s acc (all2S s0))) (fun _ v7 _ _=>(intOf v7).toNat)
 case atStart=>exact⟨k0,0,0,none,_,[],rfl,rfl,Nat.le_refl _,hP1,hu1,World.ownsRow_nil _ _ _ _,rfl,hcap,hinv⟩
 case round=>
  obtain⟨k,m,c',A',s,acc,rfl,rfl,hk,hP,hb,ho,hacc,hca,hin⟩:=hrel
  have hlt:=hP.lt
  have HP:=Hz_ hP
  have HO:=Hz_ ho
  have hbs:=hb.size
  clear hP ho
  by_cases hgo:0 < k∧s≠none
  ·obtain⟨hk1,hs⟩:=hgo
   obtain⟨l1,rfl⟩:∃l1,s=some l1:=by
    cases s with
    | none=>exact absurd rfl hs
    | some l1=>exact⟨l1,rfl⟩
   obtain⟨Ar,nr,cr,hBr,hqr⟩:=HP.out
   have c2:=hBr.cell 2
   clear hBr hs hqr
   obtain⟨lo,hlo⟩:∃lo,lo=numV (some l1):=⟨_,rfl⟩
   obtain⟨s1,hs1⟩:∃s1,s1=numS (some l1):=⟨_,rfl⟩
   obtain⟨hi,hhi⟩:∃hi,hi=numV s1:=⟨_,rfl⟩
   obtain⟨s2,hs2⟩:∃s2,s2=numS s1:=⟨_,rfl⟩
   have hcap1:m+l1.length≤N:=hca.out
   have HIN:=Hz_ (show Inv2 (k - 1) s2 (acc++[((lo:Int),(hi:Int))]) (all2S s0) by
    have h:=hin.out
    rw[show k=(k - 1)+1 by omega] at h
    rw[hs2,hlo,hhi,hs1]
    exact h.next)
   have HCA:=Hz_ (show Cap2 (m+1) s2 N by rw[hs2];exact numS_cap (by rw[hs1];exact numS_cap1 hca.out))
   have C1:=H1.out wr (some l1) HP.out
   rw[←hlo,←hs1] at C1
   have G1:=Hz_ C1
   have G2:=Hz_ fun (W:World) (h:RR W g L s1)=>H1.out W s1 h
   rw[←hhi,←hs2] at G2
   have h63:m+1≤maxLen:=by unfold maxLen;omega
   have h1max:1≤maxLen:=by unfold maxLen;omega
   have hm32:m≤4294967296:=by omega
   clear C1 hlo hs1 hhi hs2 hin hca hcap1
   go_wp2_with fail
   refine G1.out.mono ?_
   rintro e w2 ⟨rfl,hP2,hu2⟩
   have hs2:=hu2.size
   have hx2:=Blk.new w2 63 #[.int .i64 (lo:Int),.int .i64 0]
   have hb2:Below w2.heap.size w2 (w2.alloc (.cells #[.int .i64 (lo:Int),.int .i64 0] 63)):=(Below.refl _ _).alloc (Nat.le_refl _) _
   go_wp2_with fail
   refine(G2.out _ (hP2.go hb2)).mono ?_
   rintro e w3 ⟨rfl,hP3,hu3⟩
   have hs3:=hu3.size
   rw[World.size_alloc] at hs3
   have hne:(Value.slice A' m c').ownBlock≠some w2.heap.size:=fun e=>by have:=(HO.out.lt _ e).2;omega
   have hx3:=hx2.but hu3 (by omega)
   have ho3:=own_butN (own_but ((own_but HO.out hu2 (by omega)).alloc (.cells #[.int .i64 (lo:Int),.int .i64 0] 63)) hu3 (by omega)) (But.set_ (g:=w2.heap.size) w3 (p:=⟨w2.heap.size,1,none⟩) rfl (.int .i64 hi)) hne
   have hb3:But g w w3:=((hb.trans hu2).trans (But.of hb2)).trans hu3
   have hP4:RR (w3.setCell ⟨w2.heap.size,1,none⟩ (.int .i64 hi)) g L s2:=hP3.but (But.set_ (g:=w2.heap.size) w3 (p:=⟨w2.heap.size,1,none⟩) rfl (.int .i64 hi)) (by omega)
   have hb4:Below w.heap.size w3 (w3.setCell ⟨w2.heap.size,1,none⟩ (.int .i64 hi)):=(Below.refl _ _).setCell (p:=⟨w2.heap.size,1,none⟩) (by show _≤w2.heap.size;omega) _
   have d0:=hx3.cell 0
   have d1:=hx3.cell 1
   have d2:=hx3.frozen 1
   have HX3:=Hz_ hx3
   clear hx2 hb2 hu2 hu3 hP2 hP3 HO HP hb hx3 c2 G1 G2
   go_wp2_with (at_builtin;go_must (refine wpList_append_rd _ rfl (.tmp 25) (.tmp 27) _ rfl w.heap.size 63 i0 _ 2 16 Tryz.underlying23 hi0 hz0 hz1 hz2 rfl (by decide) (.slice A' m c') m _ rfl (ho3.alloc _) _ (some ⟨w3.heap.size,0,none⟩) 1 1 [.int .i64 (lo:Int),.int .i64 (hi:Int)] rfl (by have:=Rd.new (w3.setCell ⟨w2.heap.size,1,none⟩ (.int .i64 hi)) 63 2 1 #[.int .i64 (lo:Int),.int .i64 (hi:Int)] rfl h1max;simpa using this) (sv_oneCell [((lo:Int),(hi:Int))]) h63 (by omega) (by simp;omega) ?_);intro A3 c3 w4 ho4 hg4 hat4)
   have hbg:Below w.heap.size (w3.setCell ⟨w2.heap.size,1,none⟩ (.int .i64 hi)) w4:=((Below.refl _ _).alloc (by simp;omega) _).trans (grown_below hg4 (by simp;omega) (fun g hg=>own_lt ho3 g hg))
   go_roundw
   case rel=>
    exact⟨k - 1,m+1,c3,A3,s2,acc++[((lo:Int),(hi:Int))],by rw[show ((k:Int) - 1)=((k - 1:Nat):Int) by omega],rfl,by omega,hP4.below hbg (by omega),hb3.below (hb4.trans hbg),
     by rw[sv_app];exact ho4,by show _=_;rw[List.length_append,hacc.out];rfl,HCA,HIN⟩
   case measure=>simp[intOf];omega
  ·have HF:=Hz_ fun (W:World) (hR:Rd W W.heap.size 2 A' m c' (sv acc))=>refFormedS_any A' m c' acc W hacc.out hR
   have HA:=Hz_ hacc.out
   rcases s with _ | r
   ·have hpS:setS s0=none:=by
     have h:all2S s0=none:=hin.out
     rw[setS_of,h]
    have HE:=Hz_ hpS
    obtain⟨Ar,nr,cr,kr,hBr⟩:=HP.out
    have c2:=hBr.cell 2
    have f2:=hBr.frozen 2
    have HB:=Hz_ hBr
    clear hBr hpS hgo hinv hcap
    by_cases hk0:0 < k
    all_goals
     go_wp2
     go_ret
     have hu:=But.set_ (g:=g) wr (p:=⟨g,2,none⟩) rfl (.bool true)
     refine⟨acc,A',c',by rw[HA.out];rfl,by rw[HA.out];exact own_but HO.out hu (by omega),?_,hb.trans hu,fun q hq=>by rw[HE.out] at hq;cases hq⟩
     rw[HE.out]
     exact⟨Ar,nr,cr,kr,HB.out.set_ 2 (.bool true)⟩
   ·obtain rfl:k=0:=by
     rcases Nat.eq_zero_or_pos k with h | h
     ·exact h
     ·exact absurd ⟨h,by simp⟩ hgo
    have hF:=hin.out.done
    obtain⟨Ar,nr,cr,hBr,hqr⟩:=HP.out
    have HQ:=Hz_ hqr
    have c2:=hBr.cell 2
    by_cases hf:Sn.fmS (-2) acc=true
    ·have hpS:setS s0=some r:=by rw[setS_of,hF];simp only;rw[if_pos hf]
     have HE:=Hz_ hpS
     have HV:=Hz_ (setVS_of hF hf)
     rw[hf] at HF
     have HB:=Hz_ hBr
     clear hBr hqr hpS hgo hinv hcap hF hf
     go_wp2_with fail
     refine(HF.out wr (Rd.of_own HO.out)).mono ?_
     rintro e w5 ⟨rfl,hb5⟩
     have ho5:=own_below HO.out hb5 (Nat.le_refl _)
     have hB5:=HB.out.go hb5
     have f2:=hB5.frozen 2
     have d2:=hB5.cell 2
     have hP5:=HP.out.go hb5
     have hb6:=hb.below (hb5.mono hbs)
     have HB5:=Hz_ hB5
     clear HB c2 hB5
     go_wp2
     go_ret
     have hu:=But.set_ (g:=g) w5 (p:=⟨g,2,none⟩) rfl (.bool false)
     refine⟨acc,A',c',by rw[HA.out];rfl,by rw[HA.out];exact own_but ho5 hu (by omega),?_,hb6.trans hu,fun q hq=>HV.out.symm⟩
     rw[HE.out]
     obtain⟨q1,q2,q3,q4⟩:=HQ.out
     exact⟨Ar,nr,cr,HB5.out.set_ 2 (.bool false),(q1.below (hb5.mono (by omega))).but hu (by have:=hb5.size;omega) (Nat.le_refl _),q2,q3,q4⟩
    ·have hf':Sn.fmS (-2) acc=false:=by simpa using hf
     have hpS:setS s0=none:=by rw[setS_of,hF];simp only;rw[if_neg hf]
     have HE:=Hz_ hpS
     rw[hf'] at HF
     have HB:=Hz_ hBr
     clear hBr hqr hpS hgo hinv hcap hF hf hf'
     go_wp2_with fail
     refine(HF.out wr (Rd.of_own HO.out)).mono ?_
     rintro e w5 ⟨rfl,hb5⟩
     have ho5:=own_below HO.out hb5 (Nat.le_refl _)
     have hB5:=HB.out.go hb5
     have f2:=hB5.frozen 2
     have d2:=hB5.cell 2
     have hb6:=hb.below (hb5.mono hbs)
     have HB5:=Hz_ hB5
     clear HB c2 hB5
     go_wp2
     go_ret
     have hu:=But.set_ (g:=g) w5 (p:=⟨g,2,none⟩) rfl (.bool true)
     refine⟨acc,A',c',by rw[HA.out];rfl,by rw[HA.out];exact own_but ho5 hu (by omega),?_,hb6.trans hu,fun q hq=>by rw[HE.out] at hq;cases hq⟩
     rw[HE.out]
     exact⟨Ar,nr,cr,_,HB5.out.set_ 2 (.bool true)⟩
theorem vecS_of {s:Option (List UInt8)}:Wq.st Wq.pV s=match all2S s with | none=>none | some (v,q)=>if fm (-1) (v.map Wq.sw)=true then some q else none:=by
 cases s with
 | none=>rfl
 | some l=>
  have e:all2S (some l)=all2 l:=rfl
  rw[e]
  unfold Wq.st
  simp only
  rw[pV_all]
  rcases all2 l with _ | ⟨v,q⟩
  ·rfl
  ·simp only
   by_cases hf:fm (-1) (v.map Wq.sw)=true
   ·rw[if_pos hf,if_pos hf]
   ·rw[if_neg hf,if_neg hf]
theorem vecVS_of {s:Option (List UInt8)} {v:List (Int×Int)} {q:List UInt8} (h:all2S s=some (v,q)) (hf:fm (-1) (v.map Wq.sw)=true):Wq.vl Wq.pV [] s=v.map Wq.sw:=by
 cases s with
 | none=>cases h
 | some l=>
  have h':all2 l=some (v,q):=h
  show gV Wq.pV [] l=_
  unfold gV
  rw[pV_all,h']
  simp only
  rw[if_pos hf]
theorem refRdVec_any (g:Nat) (L:List UInt8) (s0:Option (List UInt8)) (w:World) (h:RR w g L s0) (hn:L.length≤4294967296):
  Calls Tryz.prog 134 #[.pointer (some ⟨g,0,none⟩)] w fun e w'=>∃v A' c',e=.returned (.slice A' v.length c') ∧
   w'.ownsRow w.heap.size 28 2 (.slice A' v.length c') v.length (sv v)∧RR w' g L (Wq.st Wq.pV s0)∧But g w w'∧(∀q,Wq.st Wq.pV s0=some q→v=Wq.vl Wq.pV [] s0):=by
 obtain⟨i0,hi0,hz0,hz1,hz2⟩:=info_parts stamp_info
 have hlt0:=h.lt
 have HC0:Cap2 0 s0 L.length:=by
  cases s0 with
  | none=>show 0≤_;omega
  | some l=>obtain⟨A,n,c,_,_,_,_,hle⟩:=h;show 0+l.length≤_;omega
 have hcap:=Hz_ (numS_cap HC0)
 have hinv:=Hz_ (Inv2.startS s0)
 have hk0:=numV_lt s0
 obtain⟨k0,hk0e⟩:∃k0,k0=numV s0:=⟨_,rfl⟩
 have H1:=Hz_ fun (W:World) (s:Option (List UInt8)) (h:RR W g L s)=>refRdNum_any g L s W h
 have H10:=H1.out w s0 h
 rw[←hk0e] at H10 hk0 hinv
 have H0:=Hz_ H10
 obtain⟨N,hN⟩:∃N,N=L.length:=⟨_,rfl⟩
 rw[←hN] at hn hcap
 clear H10 hk0e h HC0 hN
 go_enter Tryz.func134,Tryz.ntmps134
 go_wp2_with fail
 refine H0.out.mono ?_
 rintro e w1 ⟨rfl,hP1,hu1⟩
 have hs1:=hu1.size
 clear H0
 go_wp2_with fail
 go_loopw [3,4,5] (fun v6 v7 _ wr=>∃(k m c':Nat) (A':Option Addr) (s:Option (List UInt8)) (acc:List (Int×Int)),v7=.int .i64 k∧v6=.slice A' m c'∧k≤k0∧RR wr g L s∧But g w wr ∧
  wr.ownsRow w.heap.size 28 2 (.slice A' m c') m (sv (acc.map Wq.sw))∧Hid (acc.length=m)∧Hid (Cap2 m s N)∧Hid (Inv2 k s acc (all2S s0))) (fun _ v7 _ _=>(intOf v7).toNat)
 case atStart=>exact⟨k0,0,0,none,_,[],rfl,rfl,Nat.le_refl _,hP1,hu1,World.ownsRow_nil _ _ _ _,rfl,hcap,hinv⟩
 case round=>
  obtain⟨k,m,c',A',s,acc,rfl,rfl,hk,hP,hb,ho,hacc,hca,hin⟩:=hrel
  have hlt:=hP.lt
  have HP:=Hz_ hP
  have HO:=Hz_ ho
  have hbs:=hb.size
  clear hP ho
  by_cases hgo:0 < k∧s≠none
  ·obtain⟨hk1,hs⟩:=hgo
   obtain⟨l1,rfl⟩:∃l1,s=some l1:=by
    cases s with
    | none=>exact absurd rfl hs
    | some l1=>exact⟨l1,rfl⟩
   obtain⟨Ar,nr,cr,hBr,hqr⟩:=HP.out
   have c2:=hBr.cell 2
   clear hBr hs hqr
   obtain⟨lo,hlo⟩:∃lo,lo=numV (some l1):=⟨_,rfl⟩
   obtain⟨s1,hs1⟩:∃s1,s1=numS (some l1):=⟨_,rfl⟩
   obtain⟨hi,hhi⟩:∃hi,hi=numV s1:=⟨_,rfl⟩
   obtain⟨s2,hs2⟩:∃s2,s2=numS s1:=⟨_,rfl⟩
   have hcap1:m+l1.length≤N:=hca.out
   have HIN:=Hz_ (show Inv2 (k - 1) s2 (acc++[((lo:Int),(hi:Int))]) (all2S s0) by
    have h:=hin.out
    rw[show k=(k - 1)+1 by omega] at h
    rw[hs2,hlo,hhi,hs1]
    exact h.next)
   have HCA:=Hz_ (show Cap2 (m+1) s2 N by rw[hs2];exact numS_cap (by rw[hs1];exact numS_cap1 hca.out))
   have C1:=H1.out wr (some l1) HP.out
   rw[←hlo,←hs1] at C1
   have G1:=Hz_ C1
   have G2:=Hz_ fun (W:World) (h:RR W g L s1)=>H1.out W s1 h
   rw[←hhi,←hs2] at G2
   have h63:m+1≤maxLen:=by unfold maxLen;omega
   have h1max:1≤maxLen:=by unfold maxLen;omega
   have hm32:m≤4294967296:=by omega
   clear C1 hlo hs1 hhi hs2 hin hca hcap1
   go_wp2_with fail
   refine G1.out.mono ?_
   rintro e w2 ⟨rfl,hP2,hu2⟩
   have hs2:=hu2.size
   have hx2:=Blk.new w2 28 #[.int .i64 0,.int .i64 (lo:Int)]
   have hb2:Below w2.heap.size w2 (w2.alloc (.cells #[.int .i64 0,.int .i64 (lo:Int)] 28)):=(Below.refl _ _).alloc (Nat.le_refl _) _
   go_wp2_with fail
   refine(G2.out _ (hP2.go hb2)).mono ?_
   rintro e w3 ⟨rfl,hP3,hu3⟩
   have hs3:=hu3.size
   rw[World.size_alloc] at hs3
   have hne:(Value.slice A' m c').ownBlock≠some w2.heap.size:=fun e=>by have:=(HO.out.lt _ e).2;omega
   have hx3:=hx2.but hu3 (by omega)
   have ho3:=own_butN (own_but ((own_but HO.out hu2 (by omega)).alloc (.cells #[.int .i64 0,.int .i64 (lo:Int)] 28)) hu3 (by omega)) (But.set_ (g:=w2.heap.size) w3 (p:=⟨w2.heap.size,0,none⟩) rfl (.int .i64 hi)) hne
   have hb3:But g w w3:=((hb.trans hu2).trans (But.of hb2)).trans hu3
   have hP4:RR (w3.setCell ⟨w2.heap.size,0,none⟩ (.int .i64 hi)) g L s2:=hP3.but (But.set_ (g:=w2.heap.size) w3 (p:=⟨w2.heap.size,0,none⟩) rfl (.int .i64 hi)) (by omega)
   have hb4:Below w.heap.size w3 (w3.setCell ⟨w2.heap.size,0,none⟩ (.int .i64 hi)):=(Below.refl _ _).setCell (p:=⟨w2.heap.size,0,none⟩) (by show _≤w2.heap.size;omega) _
   have d0:=hx3.cell 0
   have d1:=hx3.cell 1
   have d2:=hx3.frozen 0
   have HX3:=Hz_ hx3
   clear hx2 hb2 hu2 hu3 hP2 hP3 HO HP hb hx3 c2 G1 G2
   go_wp2_with (at_builtin;go_must (refine wpList_append_rd _ rfl (.tmp 25) (.tmp 27) _ rfl w.heap.size 28 i0 _ 2 16 Tryz.underlying22 hi0 hz0 hz1 hz2 rfl (by decide) (.slice A' m c') m _ rfl (ho3.alloc _) _ (some ⟨w3.heap.size,0,none⟩) 1 1 [.int .i64 (hi:Int),.int .i64 (lo:Int)] rfl (by have:=Rd.new (w3.setCell ⟨w2.heap.size,0,none⟩ (.int .i64 hi)) 28 2 1 #[.int .i64 (hi:Int),.int .i64 (lo:Int)] rfl h1max;simpa using this) (sv_oneCell [((hi:Int),(lo:Int))]) h63 (by omega) (by simp;omega) ?_);intro A3 c3 w4 ho4 hg4 hat4)
   have hbg:Below w.heap.size (w3.setCell ⟨w2.heap.size,0,none⟩ (.int .i64 hi)) w4:=((Below.refl _ _).alloc (by simp;omega) _).trans (grown_below hg4 (by simp;omega) (fun g hg=>own_lt ho3 g hg))
   go_roundw
   case rel=>
    exact⟨k - 1,m+1,c3,A3,s2,acc++[((lo:Int),(hi:Int))],by rw[show ((k:Int) - 1)=((k - 1:Nat):Int) by omega],rfl,by omega,hP4.below hbg (by omega),hb3.below (hb4.trans hbg),
     by rw[List.map_append,sv_app];exact ho4,by show _=_;rw[List.length_append,hacc.out];rfl,HCA,HIN⟩
   case measure=>simp[intOf];omega
  ·have HF:=Hz_ fun (W:World) (hR:Rd W W.heap.size 2 A' m c' (sv (acc.map Wq.sw)))=>refFormed_any A' m c' (acc.map Wq.sw) W (by rw[List.length_map];exact hacc.out) hR
   have HA:=Hz_ (show (acc.map Wq.sw).length=m by rw[List.length_map];exact hacc.out)
   rcases s with _ | r
   ·have hpS:Wq.st Wq.pV s0=none:=by
     have h:all2S s0=none:=hin.out
     rw[vecS_of,h]
    have HE:=Hz_ hpS
    obtain⟨Ar,nr,cr,kr,hBr⟩:=HP.out
    have c2:=hBr.cell 2
    have f2:=hBr.frozen 2
    have HB:=Hz_ hBr
    clear hBr hpS hgo hinv hcap
    by_cases hk0:0 < k
    all_goals
     go_wp2
     go_ret
     have hu:=But.set_ (g:=g) wr (p:=⟨g,2,none⟩) rfl (.bool true)
     refine⟨acc.map Wq.sw,A',c',by rw[HA.out];rfl,by rw[HA.out];exact own_but HO.out hu (by omega),?_,hb.trans hu,fun q hq=>by rw[HE.out] at hq;cases hq⟩
     rw[HE.out]
     exact⟨Ar,nr,cr,kr,HB.out.set_ 2 (.bool true)⟩
   ·obtain rfl:k=0:=by
     rcases Nat.eq_zero_or_pos k with h | h
     ·exact h
     ·exact absurd ⟨h,by simp⟩ hgo
    have hF:=hin.out.done
    obtain⟨Ar,nr,cr,hBr,hqr⟩:=HP.out
    have HQ:=Hz_ hqr
    have c2:=hBr.cell 2
    by_cases hf:fm (-1) (acc.map Wq.sw)=true
    ·have hpS:Wq.st Wq.pV s0=some r:=by rw[vecS_of,hF];simp only;rw[if_pos hf]
     have HE:=Hz_ hpS
     have HV:=Hz_ (vecVS_of hF hf)
     rw[hf] at HF
     have HB:=Hz_ hBr
     clear hBr hqr hpS hgo hinv hcap hF hf
     go_wp2_with fail
     refine(HF.out wr (Rd.of_own HO.out)).mono ?_
     rintro e w5 ⟨rfl,hb5⟩
     have ho5:=own_below HO.out hb5 (Nat.le_refl _)
     have hB5:=HB.out.go hb5
     have f2:=hB5.frozen 2
     have d2:=hB5.cell 2
     have hP5:=HP.out.go hb5
     have hb6:=hb.below (hb5.mono hbs)
     have HB5:=Hz_ hB5
     clear HB c2 hB5
     go_wp2
     go_ret
     have hu:=But.set_ (g:=g) w5 (p:=⟨g,2,none⟩) rfl (.bool false)
     refine⟨acc.map Wq.sw,A',c',by rw[HA.out];rfl,by rw[HA.out];exact own_but ho5 hu (by omega),?_,hb6.trans hu,fun q hq=>HV.out.symm⟩
     rw[HE.out]
     obtain⟨q1,q2,q3,q4⟩:=HQ.out
     exact⟨Ar,nr,cr,HB5.out.set_ 2 (.bool false),(q1.below (hb5.mono (by omega))).but hu (by have:=hb5.size;omega) (Nat.le_refl _),q2,q3,q4⟩
    ·have hf':fm (-1) (acc.map Wq.sw)=false:=by simpa using hf
     have hpS:Wq.st Wq.pV s0=none:=by rw[vecS_of,hF];simp only;rw[if_neg hf]
     have HE:=Hz_ hpS
     rw[hf'] at HF
     have HB:=Hz_ hBr
     clear hBr hqr hpS hgo hinv hcap hF hf hf'
     go_wp2_with fail
     refine(HF.out wr (Rd.of_own HO.out)).mono ?_
     rintro e w5 ⟨rfl,hb5⟩
     have ho5:=own_below HO.out hb5 (Nat.le_refl _)
     have hB5:=HB.out.go hb5
     have f2:=hB5.frozen 2
     have d2:=hB5.cell 2
     have hb6:=hb.below (hb5.mono hbs)
     have HB5:=Hz_ hB5
     clear HB c2 hB5
     go_wp2
     go_ret
     have hu:=But.set_ (g:=g) w5 (p:=⟨g,2,none⟩) rfl (.bool true)
     refine⟨acc.map Wq.sw,A',c',by rw[HA.out];rfl,by rw[HA.out];exact own_but ho5 hu (by omega),?_,hb6.trans hu,fun q hq=>by rw[HE.out] at hq;cases hq⟩
     rw[HE.out]
     exact⟨Ar,nr,cr,_,HB5.out.set_ 2 (.bool true)⟩
theorem st_no {α:Type} {p:List UInt8→Option (α×List UInt8)} {l:List UInt8} (h:p l=none):Wq.st p (some l)=none:=by simp only[Wq.st,h]
theorem st_yes {α:Type} {p:List UInt8→Option (α×List UInt8)} {d:α} {l r:List UInt8} {v:α} (h:p l=some (v,r)):Wq.st p (some l)=some r∧Wq.vl p d (some l)=v:=⟨by simp only[Wq.st,h],by simp only[Wq.vl,h]⟩
theorem rowV_vl (s:Option (List UInt8)):rowV 256 s=Wq.vl (Wq.pR 256) [] s:=by
 rcases s with _ | l
 ·rfl
 ·rcases h:Wq.pR 256 l with _ | ⟨_,_⟩<;>simp only[rowV,Wq.vl,h]
theorem rowS_st (s:Option (List UInt8)):rowS 256 s=Wq.st (Wq.pR 256) s:=by
 rcases s with _ | l
 ·rfl
 ·rcases h:Wq.pR 256 l with _ | ⟨_,_⟩<;>simp only[rowS,Wq.st,h]
theorem stB_all (s:Option (List UInt8)) (x:Wq.Bd) (hx:x=⟨(numV s:Nat),((numV (numS (numS s)):Nat),(numV (numS s):Nat)),rowV 256 (numS (numS (numS s)))⟩):
  (rowS 256 (numS (numS (numS s)))=none→Wq.st Wq.pB s=none) ∧
  (∀r,rowS 256 (numS (numS (numS s)))=some r→(Wq.bdF x=true→Wq.st Wq.pB s=some r∧x=Wq.vl Wq.pB Wq.bd0 s)∧(Wq.bdF x=false→Wq.st Wq.pB s=none)):=by
 simp only[numV_vl,numS_st,rowV_vl,rowS_st] at hx ⊢
 rcases s with _ | l
 ·exact⟨fun _=>rfl,fun r h=>by simp[Wq.st] at h⟩
 ·have h:=Wq.pB_all l
  rw[←hx] at h
  refine⟨fun h4=>?_,fun r h4=>⟨fun hb=>?_,fun hb=>?_⟩⟩
  ·rw[h4] at h;exact st_no h
  ·rw[h4] at h;simp only[hb,if_true] at h;exact⟨(st_yes (d:=Wq.bd0) h).1,(st_yes (d:=Wq.bd0) h).2.symm⟩
  ·rw[h4] at h;simp only[hb] at h;exact st_no h
theorem RR.spoil {w:World} {g:Nat} {L:List UInt8} {s:Option (List UInt8)} (h:RR w g L s):RR (w.setCell ⟨g,2,none⟩ (.bool true)) g L none:=by
 cases s with
 | none=>obtain⟨A,n,c,k,h⟩:=h;exact⟨A,n,c,k,h.set_ 2 (.bool true)⟩
 | some l=>obtain⟨A,n,c,h,_⟩:=h;exact⟨A,n,c,_,h.set_ 2 (.bool true)⟩
theorem RR.same {w:World} {g:Nat} {L r:List UInt8} (h:RR w g L (some r)):RR (w.setCell ⟨g,2,none⟩ (.bool false)) g L (some r):=by
 obtain⟨A,n,c,h,hR,h2⟩:=h
 exact⟨A,n,c,h.set_ 2 (.bool false),hR.but (But.set_ (g:=g) w (p:=⟨g,2,none⟩) rfl _) (Nat.le_of_lt h.lt) (Nat.le_refl _),h2⟩
theorem RR.bad {w:World} {g:Nat} {L:List UInt8} {s:Option (List UInt8)} (h:RR w g L s):w.cell? ⟨g,2,none⟩=some (.bool s.isNone)∧w.frozen? ⟨g,2,none⟩=false:=by
 cases s with
 | none=>obtain⟨A,n,c,k,h⟩:=h;exact⟨h.cell 2,h.frozen 2⟩
 | some l=>obtain⟨A,n,c,h,_⟩:=h;exact⟨h.cell 2,h.frozen 2⟩
theorem refRdBody_any (g:Nat) (L:List UInt8) (s:Option (List UInt8)) (w:World) (h:RR w g L s) (hL:L.length≤140737488355328):
  Calls Tryz.prog 58 #[.pointer (some ⟨g,0,none⟩)] w fun e w'=>∃(x:Wq.Bd) (A':Option Addr) (c':Nat),e=.returned (.agg (bval x A' c')) ∧
   w'.ownsRow w.heap.size 5 1 (.slice A' x.v.length c') x.v.length (bv x.v)∧RR w' g L (Wq.st Wq.pB s)∧But g w w'∧(∀q,Wq.st Wq.pB s=some q→x=Wq.vl Wq.pB Wq.bd0 s):=by
 have hg:=h.lt
 have hb0:Below w.heap.size w (w.alloc (.cells #[.int .i64 0,.int .i64 0,.int .i64 0,.slice none 0 0] 31)):=(Below.refl _ _).alloc (Nat.le_refl _) _
 have hR0:=Blk.new w 31 #[.int .i64 0,.int .i64 0,.int .i64 0,.slice none 0 0]
 obtain⟨W0,hW0⟩:∃W0,W0=w.alloc (.cells #[.int .i64 0,.int .i64 0,.int .i64 0,.slice none 0 0] 31):=⟨_,rfl⟩
 have hs0:W0.heap.size=w.heap.size+1:=by rw[hW0];simp
 rw[←hW0] at hb0 hR0
 have hP0:=h.go hb0
 have k0:=(But.refl g w).below hb0
 have HW:=Hz_ hW0.symm
 have G1:=Hz_ fun (W:World) (s:Option (List UInt8)) (h:RR W g L s)=>refRdNum_any g L s W h
 have G3:=Hz_ fun (W:World) (s:Option (List UInt8)) (h:RR W g L s)=>refRdRow_any g 256 L s W h hL
 clear h hb0 hW0
 go_enter Tryz.func58,Tryz.ntmps58
 go_wp2_with fail
 rw[HW.out]
 refine(G1.out _ _ hP0).mono ?_
 rintro e w1 ⟨rfl,hP1,hu1⟩
 have hs1:=hu1.size
 have hR1:=hR0.but hu1 (by omega)
 have k1:=k0.trans hu1
 obtain⟨o,ho⟩:∃o,o=numV s:=⟨_,rfl⟩
 obtain⟨s1,hs1e⟩:∃t,t=numS s:=⟨_,rfl⟩
 rw[←hs1e] at hP1
 rw[←ho]
 have HO:=Hz_ ho
 have HS1:=Hz_ hs1e
 have hbX:Below w1.heap.size w1 (w1.alloc (.cells #[.int .i64 o,.int .i64 0,.int .i64 0,.slice none 0 0] 31)):=(Below.refl _ _).alloc (Nat.le_refl _) _
 have hX:=Blk.new w1 31 #[.int .i64 o,.int .i64 0,.int .i64 0,.slice none 0 0]
 obtain⟨W2,hW2⟩:∃W2,W2=w1.alloc (.cells #[.int .i64 o,.int .i64 0,.int .i64 0,.slice none 0 0] 31):=⟨_,rfl⟩
 have hs2:W2.heap.size=w1.heap.size+1:=by rw[hW2];simp
 rw[←hW2] at hbX hX
 have HW2:=Hz_ hW2.symm
 have hP2:=hP1.go hbX
 have hR2:=hR1.go hbX
 have k2:=k1.below (hbX.mono (by omega))
 clear hP0 hu1 hR0 hP1 hR1 k0 k1 ho hs1e hW2 hbX
 go_wp2_with fail
 rw[HW2.out]
 refine(G1.out _ _ hP2).mono ?_
 rintro e w3 ⟨rfl,hP3,hu3⟩
 have hs3:=hu3.size
 obtain⟨nd,hnd⟩:∃x,x=numV s1:=⟨_,rfl⟩
 obtain⟨s2,hs2e⟩:∃t,t=numS s1:=⟨_,rfl⟩
 rw[←hs2e] at hP3
 rw[←hnd]
 have HND:=Hz_ hnd
 have HS2:=Hz_ hs2e
 have hX3:=hX.but hu3 (by omega)
 have hR3:=hR2.but hu3 (by omega)
 have k3:=k2.trans hu3
 have fX2:=hX3.frozen 2
 have cX2:=hX3.cell 2
 have hu4:But w1.heap.size w3 (w3.setCell ⟨w1.heap.size,2,none⟩ (.int .i64 nd)):=But.set_ (g:=w1.heap.size) w3 (p:=⟨w1.heap.size,2,none⟩) rfl _
 have hX4:Blk (w3.setCell ⟨w1.heap.size,2,none⟩ (.int .i64 nd)) w1.heap.size 31 #[.int .i64 o,.int .i64 0,.int .i64 nd,.slice none 0 0]:=hX3.set_ 2 (.int .i64 nd)
 have hP4:=hP3.but hu4 (by omega)
 have hR4:=hR3.but hu4 (by omega)
 have k4:But g w (w3.setCell ⟨w1.heap.size,2,none⟩ (.int .i64 nd)):=k3.below ((Below.refl _ _).setCell (by show w.heap.size≤w1.heap.size;omega) _)
 obtain⟨W4,hW4⟩:∃W4,W4=w3.setCell ⟨w1.heap.size,2,none⟩ (.int .i64 nd):=⟨_,rfl⟩
 have hs4:W4.heap.size=w3.heap.size:=by rw[hW4];simp
 rw[←hW4] at hX4 hP4 hR4 k4
 have HW4:=Hz_ hW4.symm
 clear hP2 hu3 hX hR2 k2 hnd hs2e hP3 hX3 hR3 k3 hu4 hW4
 go_wp2_with fail
 rw[HW4.out]
 refine(G1.out _ _ hP4).mono ?_
 rintro e w5 ⟨rfl,hP5,hu5⟩
 have hs5:=hu5.size
 obtain⟨ct,hct⟩:∃x,x=numV s2:=⟨_,rfl⟩
 obtain⟨s3,hs3e⟩:∃t,t=numS s2:=⟨_,rfl⟩
 rw[←hs3e] at hP5
 rw[←hct]
 have HCT:=Hz_ hct
 have HS3:=Hz_ hs3e
 have hX5:=hX4.but hu5 (by omega)
 have hR5:=hR4.but hu5 (by omega)
 have k5:=k4.trans hu5
 have fX1:=hX5.frozen 1
 have cX1:=hX5.cell 1
 have hu6:But w1.heap.size w5 (w5.setCell ⟨w1.heap.size,1,none⟩ (.int .i64 ct)):=But.set_ (g:=w1.heap.size) w5 (p:=⟨w1.heap.size,1,none⟩) rfl _
 have hX6:Blk (w5.setCell ⟨w1.heap.size,1,none⟩ (.int .i64 ct)) w1.heap.size 31 #[.int .i64 o,.int .i64 ct,.int .i64 nd,.slice none 0 0]:=hX5.set_ 1 (.int .i64 ct)
 have hP6:=hP5.but hu6 (by omega)
 have hR6:=hR5.but hu6 (by omega)
 have k6:But g w (w5.setCell ⟨w1.heap.size,1,none⟩ (.int .i64 ct)):=k5.below ((Below.refl _ _).setCell (by show w.heap.size≤w1.heap.size;omega) _)
 obtain⟨W6,hW6⟩:∃W6,W6=w5.setCell ⟨w1.heap.size,1,none⟩ (.int .i64 ct):=⟨_,rfl⟩
 have hs6:W6.heap.size=w5.heap.size:=by rw[hW6];simp
 rw[←hW6] at hX6 hP6 hR6 k6
 have HW6:=Hz_ hW6.symm
 clear hP4 hu5 hX4 hR4 k4 hct hs3e hP5 hX5 hR5 k5 hu6 hW6 fX2 cX2
 go_wp2_with fail
 rw[HW6.out]
 refine(G3.out _ _ hP6).mono ?_
 rintro e w7 ⟨Av,cv,rfl,ho7,hP7,hu7⟩
 have hs7:=hu7.size
 obtain⟨v,hv⟩:∃v,v=rowV 256 s3:=⟨_,rfl⟩
 obtain⟨s4,hs4e⟩:∃t,t=rowS 256 s3:=⟨_,rfl⟩
 rw[←hs4e] at hP7
 rw[←hv] at ho7
 rw[←hv]
 have hX7:=hX6.but hu7 (by omega)
 have hR7:=hR6.but hu7 (by omega)
 have k7:=k6.trans hu7
 have fX3:=hX7.frozen 3
 have cX3:=hX7.cell 3
 have hu8:But w1.heap.size w7 (w7.setCell ⟨w1.heap.size,3,none⟩ (.slice Av v.length cv)):=But.set_ (g:=w1.heap.size) w7 (p:=⟨w1.heap.size,3,none⟩) rfl _
 have hX8:Blk (w7.setCell ⟨w1.heap.size,3,none⟩ (.slice Av v.length cv)) w1.heap.size 31 #[.int .i64 o,.int .i64 ct,.int .i64 nd,.slice Av v.length cv]:=hX7.set_ 3 (.slice Av v.length cv)
 have hP8:=hP7.but hu8 (by omega)
 have hR8:=hR7.but hu8 (by omega)
 have ho8:=own_less (own_but ho7 hu8 (by omega)) (show w1.heap.size+1≤_ by omega)
 have k8:But g w (w7.setCell ⟨w1.heap.size,3,none⟩ (.slice Av v.length cv)):=k7.below ((Below.refl _ _).setCell (by show w.heap.size≤w1.heap.size;omega) _)
 obtain⟨x,hx⟩:∃x:Wq.Bd,x=⟨(o:Int),((ct:Int),(nd:Int)),v⟩:=⟨_,rfl⟩
 have HST:=stB_all s x (by rw[hx,HO.out,hv,HCT.out,HND.out];simp only[HS1.out,HS2.out,HS3.out])
 rw[←HS1.out,←HS2.out,←HS3.out,←hs4e] at HST
 have FIN:∀(WB:World) (t:Option (List UInt8)),Blk WB w.heap.size 31 #[.int .i64 0,.int .i64 0,.int .i64 0,.slice none 0 0]→But g w WB→RR WB g L t→WB.ownsRow (w1.heap.size+1) 5 1 (.slice Av v.length cv) v.length (bv v) →
   Blk ((((WB.setCell ⟨w.heap.size,0,none⟩ (.int .i64 o)).setCell ⟨w.heap.size,1,none⟩ (.int .i64 ct)).setCell ⟨w.heap.size,2,none⟩ (.int .i64 nd)).setCell ⟨w.heap.size,3,none⟩ (.slice Av v.length cv)) w.heap.size 31 #[.int .i64 o,.int .i64 ct,.int .i64 nd,.slice Av v.length cv] ∧
   ((((WB.setCell ⟨w.heap.size,0,none⟩ (.int .i64 o)).setCell ⟨w.heap.size,1,none⟩ (.int .i64 ct)).setCell ⟨w.heap.size,2,none⟩ (.int .i64 nd)).setCell ⟨w.heap.size,3,none⟩ (.slice Av v.length cv)).ownsRow w.heap.size 5 1 (.slice Av v.length cv) v.length (bv v) ∧
   RR ((((WB.setCell ⟨w.heap.size,0,none⟩ (.int .i64 o)).setCell ⟨w.heap.size,1,none⟩ (.int .i64 ct)).setCell ⟨w.heap.size,2,none⟩ (.int .i64 nd)).setCell ⟨w.heap.size,3,none⟩ (.slice Av v.length cv)) g L t ∧
   But g w ((((WB.setCell ⟨w.heap.size,0,none⟩ (.int .i64 o)).setCell ⟨w.heap.size,1,none⟩ (.int .i64 ct)).setCell ⟨w.heap.size,2,none⟩ (.int .i64 nd)).setCell ⟨w.heap.size,3,none⟩ (.slice Av v.length cv)):=by
  intro WB t hB hk hP ho
  have hu:But w.heap.size WB ((((WB.setCell ⟨w.heap.size,0,none⟩ (.int .i64 o)).setCell ⟨w.heap.size,1,none⟩ (.int .i64 ct)).setCell ⟨w.heap.size,2,none⟩ (.int .i64 nd)).setCell ⟨w.heap.size,3,none⟩ (.slice Av v.length cv)):=
   (((But.set_ (g:=w.heap.size) _ (p:=⟨w.heap.size,0,none⟩) rfl _).trans (But.set_ (g:=w.heap.size) _ (p:=⟨w.heap.size,1,none⟩) rfl _)).trans (But.set_ (g:=w.heap.size) _ (p:=⟨w.heap.size,2,none⟩) rfl _)).trans (But.set_ (g:=w.heap.size) _ (p:=⟨w.heap.size,3,none⟩) rfl _)
  exact⟨(((hB.set_ 0 (.int .i64 o)).set_ 1 (.int .i64 ct)).set_ 2 (.int .i64 nd)).set_ 3 (.slice Av v.length cv),own_less (own_but ho hu (by omega)) (by omega),hP.but hu hg,
   hk.below ((((((Below.refl _ _).setCell (p:=⟨w.heap.size,0,none⟩) (Nat.le_refl _) _).setCell (p:=⟨w.heap.size,1,none⟩) (Nat.le_refl _) _).setCell (p:=⟨w.heap.size,2,none⟩) (Nat.le_refl _) _).setCell (p:=⟨w.heap.size,3,none⟩) (Nat.le_refl _) _))⟩
 have HFIN:=Hz_ FIN
 have HX:=Hz_ hx
 have HSTH:=Hz_ HST
 clear FIN HST hv hs4e hP6 hX6 hR6 k6 hu7 ho7 hP7 hX7 hR7 k7 hu8 G1 G3 hx fX1 cX1
 have hg1:w1.heap.size≠g:=by omega
 have hg0:w.heap.size≠g:=by omega
 rcases s4 with _ | r
 ·have hb2:=hP8.bad
  obtain⟨b2,f2⟩:=hb2
  have b2:(w7.setCell ⟨w1.heap.size,3,none⟩ (.slice Av v.length cv)).cell? ⟨g,2,none⟩=some (.bool true):=b2
  have hR9:=hR8.far (p:=⟨g,2,none⟩) hg0 (.bool true)
  obtain⟨x0,x1,x2,x3⟩:=(hX8.far (p:=⟨g,2,none⟩) hg1 (.bool true)).four
  obtain⟨z0,z1,z2,z3⟩:=hR9.four
  have y0:=hR9.frozen 0
  have y1:=hR9.frozen 1
  have y2:=hR9.frozen 2
  have y3:=hR9.frozen 3
  have k9:=k8.trans (But.set_ (g:=g) _ (p:=⟨g,2,none⟩) rfl (.bool true))
  have P9:=hP8.spoil
  have o9:=own_but ho8 (But.set_ (g:=g) _ (p:=⟨g,2,none⟩) rfl (.bool true)) (by omega)
  have F:=Hz_ (HFIN.out _ none hR9 k9 P9 o9)
  have HN:=Hz_ (HSTH.out.1 rfl)
  clear hR9 k9 P9 o9 hP8 hX8 hR8 ho8 k8
  go_wp2
  obtain⟨F1,F2,F3,F4⟩:=F.out
  refine bodyPost_ret (results_cell_row rfl _ _ w.heap.size 31 _ _ _ rfl F1 Tryz.underlying31 rfl (by kernel_rfl)) rfl ⟨x,Av,cv,by rw[HX.out];rfl,by rw[HX.out];exact F2,by rw[HN.out];exact F3,F4,fun q hq=>by rw[HN.out] at hq;cases hq⟩
 ·rcases hz:Wq.bdF x with _ | _
  ·have HR1:=fun (W:World)=>refBodyRight_any x Av cv W
   rw[hz] at HR1
   rw[HX.out] at HR1
   have HR1:=Hz_ fun (W:World)=>(show Calls Tryz.prog 44 #[.agg #[.int .i64 o,.int .i64 ct,.int .i64 nd,.slice Av v.length cv]] W fun e w'=>e=.returned (.bool false)∧Below W.heap.size W w' from HR1 W)
   have HN:=Hz_ ((HSTH.out.2 r rfl).2 hz)
   obtain⟨b2,f2⟩:=hP8.bad
   have b2:(w7.setCell ⟨w1.heap.size,3,none⟩ (.slice Av v.length cv)).cell? ⟨g,2,none⟩=some (.bool false):=b2
   obtain⟨q0,q1,q2,q3⟩:=hX8.four
   have HP8:=Hz_ hP8
   have HX8:=Hz_ hX8
   have HR8:=Hz_ hR8
   have HO8:=Hz_ ho8
   have HK8:=Hz_ k8
   clear hz hP8 hX8 hR8 ho8 k8
   go_wp2_with (first
    | (go_at_call 44;go_must (refine(HR1.out _).mono ?_);rintro e w9 ⟨rfl,hb9⟩
       have hP9:=HP8.out.go hb9
       obtain⟨b3,f3⟩:=hP9.bad
       have b3:w9.cell? ⟨g,2,none⟩=some (.bool false):=b3
       have hR9:=(HR8.out.go hb9).far (p:=⟨g,2,none⟩) hg0 (.bool true)
       obtain⟨x0,x1,x2,x3⟩:=((HX8.out.go hb9).far (p:=⟨g,2,none⟩) hg1 (.bool true)).four
       obtain⟨z0,z1,z2,z3⟩:=hR9.four
       have y0:=hR9.frozen 0
       have y1:=hR9.frozen 1
       have y2:=hR9.frozen 2
       have y3:=hR9.frozen 3
       have k9:=(HK8.out.below (hb9.mono (by simp;omega))).trans (But.set_ (g:=g) _ (p:=⟨g,2,none⟩) rfl (.bool true))
       have P9:=hP9.spoil
       have o9:=own_but (own_below HO8.out hb9 (Nat.le_refl _)) (But.set_ (g:=g) _ (p:=⟨g,2,none⟩) rfl (.bool true)) (by omega)
       have F:=Hz_ (HFIN.out _ none hR9 k9 P9 o9)
       clear hR9 k9 P9 o9 hP9))
   obtain⟨F1,F2,F3,F4⟩:=F.out
   refine bodyPost_ret (results_cell_row rfl _ _ w.heap.size 31 _ _ _ rfl F1 Tryz.underlying31 rfl (by kernel_rfl)) rfl ⟨x,Av,cv,by rw[HX.out];rfl,by rw[HX.out];exact F2,by rw[HN.out];exact F3,F4,fun q hq=>by rw[HN.out] at hq;cases hq⟩
  ·have HR1:=fun (W:World)=>refBodyRight_any x Av cv W
   rw[hz] at HR1
   rw[HX.out] at HR1
   have HR1:=Hz_ fun (W:World)=>(show Calls Tryz.prog 44 #[.agg #[.int .i64 o,.int .i64 ct,.int .i64 nd,.slice Av v.length cv]] W fun e w'=>e=.returned (.bool true)∧Below W.heap.size W w' from HR1 W)
   have HN:=Hz_ ((HSTH.out.2 r rfl).1 hz)
   obtain⟨b2,f2⟩:=hP8.bad
   have b2:(w7.setCell ⟨w1.heap.size,3,none⟩ (.slice Av v.length cv)).cell? ⟨g,2,none⟩=some (.bool false):=b2
   obtain⟨q0,q1,q2,q3⟩:=hX8.four
   have HP8:=Hz_ hP8
   have HX8:=Hz_ hX8
   have HR8:=Hz_ hR8
   have HO8:=Hz_ ho8
   have HK8:=Hz_ k8
   clear hz hP8 hX8 hR8 ho8 k8
   go_wp2_with (first
    | (go_at_call 44;go_must (refine(HR1.out _).mono ?_);rintro e w9 ⟨rfl,hb9⟩
       have hP9:=HP8.out.go hb9
       obtain⟨b3,f3⟩:=hP9.bad
       have b3:w9.cell? ⟨g,2,none⟩=some (.bool false):=b3
       have hR9:=(HR8.out.go hb9).far (p:=⟨g,2,none⟩) hg0 (.bool false)
       obtain⟨x0,x1,x2,x3⟩:=((HX8.out.go hb9).far (p:=⟨g,2,none⟩) hg1 (.bool false)).four
       obtain⟨z0,z1,z2,z3⟩:=hR9.four
       have y0:=hR9.frozen 0
       have y1:=hR9.frozen 1
       have y2:=hR9.frozen 2
       have y3:=hR9.frozen 3
       have k9:=(HK8.out.below (hb9.mono (by simp;omega))).trans (But.set_ (g:=g) _ (p:=⟨g,2,none⟩) rfl (.bool false))
       have P9:=hP9.same
       have o9:=own_but (own_below HO8.out hb9 (Nat.le_refl _)) (But.set_ (g:=g) _ (p:=⟨g,2,none⟩) rfl (.bool false)) (by omega)
       have F:=Hz_ (HFIN.out _ (some r) hR9 k9 P9 o9)
       clear hR9 k9 P9 o9 hP9))
   obtain⟨F1,F2,F3,F4⟩:=F.out
   refine bodyPost_ret (results_cell_row rfl _ _ w.heap.size 31 _ _ _ rfl F1 Tryz.underlying31 rfl (by kernel_rfl)) rfl ⟨x,Av,cv,by rw[HX.out];rfl,by rw[HX.out];exact F2,by rw[HN.out.1];exact F3,F4,fun q _=>HN.out.2⟩
end Go.Proofs.YtmbeahbgafkjfaaGreatDoor
