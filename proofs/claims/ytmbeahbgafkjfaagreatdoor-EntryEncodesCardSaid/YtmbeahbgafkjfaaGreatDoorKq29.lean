/- Lemmas for the claim, layer 29. -/
import Derived.Test.YtmbeahbgafkjfaaGreatDoorKq11
set_option maxRecDepth 100000
set_option maxHeartbeats 16000000
namespace Go.Proofs.YtmbeahbgafkjfaaGreatDoor
open Go.RowKit
theorem Blk.four {W:World} {g:Nat} {t:TypeId} {a b c d:Value} (h:Blk W g t #[a,b,c,d]):W.cell? ⟨g,0,none⟩=some a∧W.cell? ⟨g,1,none⟩=some b∧W.cell? ⟨g,2,none⟩=some c∧W.cell? ⟨g,3,none⟩=some d:=
 ⟨h.cell 0,h.cell 1,h.cell 2,h.cell 3⟩
def iv (l:List Int):List Value:=l.map fun x=>.int .i64 x
theorem iv_at (l:List Int) (k:Nat) (h:k < l.length):(iv l)[k]?=some (.int .i64 l[k]):=by simp[iv,List.getElem?_map,List.getElem?_eq_getElem h]
def layAll (xs:List Int):List UInt8:=xs.flatMap fun x=>Pk.lay x.toNat
theorem layAll_take (xs:List Int) (k:Nat) (h:k < xs.length):layAll (xs.take (k+1))=layAll (xs.take k)++Pk.lay (xs[k]).toNat:=by
 unfold layAll
 rw[List.take_succ_eq_append_getElem h,List.flatMap_append];simp
theorem layAll_cons (x:Int) (xs:List Int):layAll (x :: xs)=Pk.lay x.toNat++layAll xs:=by simp[layAll]
theorem u63_len {x:Int} (h:Wq.u63 x):(Pk.lay x.toNat).length≤9:=Pk.lay_len9 (by have:=h.1;have:=h.2;omega)
theorem layAll_len:∀(xs:List Int),(∀x∈xs,Wq.u63 x)→(layAll xs).length≤9 * xs.length
 | [],_=>by simp[layAll]
 | x :: r,h=>by
  have:=layAll_len r fun y hy=>h y (by simp[hy])
  have:=u63_len (h x (by simp))
  rw[layAll_cons,List.length_append,List.length_cons];omega
def BytesAre (base:Nat) (w:World) (bs:List UInt8) (v:Value) (w':World):Prop:=
 ∃A' c',v=.slice A' bs.length c'∧w'.ownsRow base 5 1 (.slice A' bs.length c') bs.length (bv bs)∧Below base w w'
theorem lay_any (A A2:Option Addr) (n c m c2:Nat) (l:List UInt8) (xs:List Int) (w:World) (hl:l.length=n) (hR:Rd w w.heap.size 1 A n c (bv l)) (hx:xs.length=m) (hR2:Rd w w.heap.size 1 A2 m c2 (iv xs))
  (hu:∀x∈xs,Wq.u63 x) (h0:0 < m) (hn:n+9 * m≤140737488355328):
  Calls Tryz.prog 103 #[.slice A n c,.slice A2 m c2] w fun e w'=>∃v,e=.returned v∧BytesAre w.heap.size w (l++layAll xs) v w':=by
 have hmax:m≤9223372036854775807:=by have h1:=hR2.cap;have h2:=hR2.max;unfold maxLen at h2;omega
 have HLA:=Hz_ (layAll_len)
 have HL:=Hz_ hl
 have HX:=Hz_ hx
 have HU:=Hz_ hu
 have HR:=Hz_ hR
 clear hl hu hR
 go_enter Tryz.func103,Tryz.ntmps103
 go_wp2
 go_loopw [0,6,9] (fun v0 _ v9 wr=>∃(k N c':Nat) (A':Option Addr),v9=.int .i64 k∧v0=.slice A' N c'∧k≤m∧N≤n+9 * k∧Rd wr wr.heap.size 1 A' N c' (bv (l++layAll (xs.take k)))∧Below w.heap.size w wr ∧
  Hid ((l++layAll (xs.take k)).length=N∧(0 < k→wr.ownsRow w.heap.size 5 1 (.slice A' N c') N (bv (l++layAll (xs.take k)))))) (fun _ _ v9 _=>m - (intOf v9).toNat)
 case atStart=>exact⟨0,n,c,A,rfl,rfl,by omega,by omega,by simpa[layAll] using HR.out,Below.refl _ _,by simp[layAll,HL.out],fun h=>absurd h (by omega)⟩
 case round=>
  obtain⟨k,N,c',A',rfl,rfl,hk,hN,hR1,hb,hq⟩:=hrel
  have hbs:=hb.size
  by_cases hlt:k < m
  ·have hkx:k < xs.length:=by rw[HX.out];exact hlt
   obtain⟨ad,u,rfl,hab,hu1,hc1⟩:=hR2.at_ hlt
   rw[iv_at xs k hkx] at hu1
   obtain⟨y,hy⟩:∃y:Nat,xs[k]=(y:Int):=⟨xs[k].toNat,by have:=(HU.out _ (List.getElem_mem hkx)).1;omega⟩
   have hylt:y < 9223372036854775808:=by have:=(HU.out _ (List.getElem_mem hkx)).2;omega
   have hy9:=Pk.lay_len9 hylt
   have ht:=layAll_take xs k hkx
   rw[hy,Int.toNat_natCast] at ht
   have HT:=Hz_ ht
   rw[hy] at hu1
   simp only[Option.some.injEq] at hu1
   subst hu1
   have q1:=(hb.cell (p:=ad.add k) (by rw[block_of_add];exact hab)).trans hc1
   have G:=Hz_ (appendNumber_any A' N c' y (l++layAll (xs.take k)) wr hq.out.1 hR1 (by omega) hy9)
   have HY9:=Hz_ hy9
   obtain⟨ly,hly⟩:∃ly,ly=(Pk.lay y).length:=⟨_,rfl⟩
   rw[←hly] at G hy9
   have HLY:=Hz_ hly
   clear hR1 ht hy hkx hylt hly hc1 hR2
   go_wp2_with fail
   refine G.out.mono ?_
   rintro e w2 ⟨A2,c3,rfl,ho2,hb2⟩
   go_wp2
   go_roundw
   case rel=>
    have e1:l++layAll (xs.take (k+1))=l++layAll (xs.take k)++Pk.lay y:=by rw[HT.out,List.append_assoc]
    refine⟨k+1,N+ly,c3,A2,by go_num,rfl,by omega,by omega,by rw[e1];exact Rd.of_own ho2,btn hb hb2,?_,fun _=>?_⟩
    ·rw[e1,List.length_append,hq.out.1,HLY.out]
    ·rw[e1];exact own_less ho2 hbs
   case measure=>simp[intOf];omega
  ·obtain rfl:k=m:=by omega
   clear hR1 hR2
   go_wp2
   go_ret
   have e0:xs.take k=xs:=List.take_of_length_le (by rw[HX.out];exact Nat.le_refl _)
   obtain⟨q1,q2⟩:=hq.out
   have q3:=q2 h0
   rw[e0] at q1 q3
   exact⟨_,rfl,A',c',by rw[q1];rfl,by rw[q1];exact q3,hb⟩
theorem lS_take (sp:List Sn.Sp) (k:Nat) (h:k < sp.length):Wq.lP (sp.take (k+1))=Wq.lP (sp.take k)++layAll [sp[k].1,sp[k].2]:=by
 unfold Wq.lP
 rw[List.take_succ_eq_append_getElem h,List.flatMap_append];simp[layAll]
theorem appendSet_any (A D:Option Addr) (n c m d:Nat) (l:List UInt8) (sp:List Sn.Sp) (w:World) (hl:l.length=n) (hR:Rd w w.heap.size 1 A n c (bv l)) (hl2:sp.length=m) (hR2:Rd w w.heap.size 2 D m d (sv sp)) (hf:Sn.fmS (-2) sp=true) (hn:n+2400≤140737488355328):
  Calls Tryz.prog 30 #[.slice A n c,.slice D m d] w fun e w'=>∃v,e=.returned (.tuple #[v,.int .i64 0])∧BytesAre w.heap.size w (l++Wq.lS sp) v w':=by
 have H1:=formedS_any D m d sp w hl2 hR2
 rw[hf] at H1
 have G1:=Hz_ H1
 have hm:=Sn.fmS_128 hf
 rw[hl2] at hm
 have HU:=Hz_ (Wq.fmS_u63 hf)
 have HL2:=Hz_ hl2
 have HR:=Hz_ hR
 have HL:=Hz_ hl
 have hum:Wq.u63 (m:Int):=⟨by omega,by omega⟩
 have h1max:1≤maxLen:=by unfold maxLen;omega
 have h2max:2≤maxLen:=by unfold maxLen;omega
 clear H1 hl2 hR hl hf
 go_enter Tryz.func30,Tryz.ntmps30
 go_wp2_with fail
 refine G1.out.mono ?_
 rintro e w1 ⟨rfl,hb1⟩
 have hs1:=hb1.size
 have hbA:Below w.heap.size w (w1.alloc (.cells #[.int .i64 m] 3)):=hb1.alloc hs1 _
 have hRn:=Rd.new w1 3 1 1 #[.int .i64 m] rfl h1max
 have hRb:=HR.out.go hbA
 have G2:=Hz_ (lay_any A (some ⟨w1.heap.size,0,none⟩) n c 1 1 l [(m:Int)] (w1.alloc (.cells #[.int .i64 m] 3)) HL.out hRb rfl (by rw[World.size_alloc];exact hRn) (by simpa using hum) (by omega) (by omega))
 clear G1 hRn hRb hb1
 go_wp2_with fail
 refine G2.out.mono ?_
 rintro e w2 ⟨v2,rfl,A2,c2,rfl,ho2,hb2⟩
 have hbw2:=btn hbA hb2
 have HHL:=Hz_ (show (l++layAll [(m:Int)]).length≤n+9 by
  rw[List.length_append,HL.out]
  have:=layAll_len [(m:Int)] (by simpa using hum)
  simp at this;omega)
 obtain⟨l2,hl2⟩:∃l2,l2=l++layAll [(m:Int)]:=⟨_,rfl⟩
 rw[←hl2] at ho2 HHL
 obtain⟨n2,hn2⟩:∃n2,n2=l2.length:=⟨_,rfl⟩
 rw[←hn2] at ho2 HHL
 have hn2le:=HHL.out
 have HL22:=Hz_ hl2
 have HN2:=Hz_ hn2
 rw[←hl2,←hn2]
 clear G2 hb2 hbA hl2 hn2
 go_wp2_with fail
 go_loopw [6,8,19] (fun v6 _ v19 wr=>∃(k N c':Nat) (A':Option Addr),v19=.int .i64 k∧v6=.slice A' N c'∧k≤m∧N≤n2+18 * k∧wr.ownsRow w.heap.size 5 1 (.slice A' N c') N (bv (l2++Wq.lP (sp.take k)))∧Below w.heap.size w wr ∧
  Hid ((l2++Wq.lP (sp.take k)).length=N)) (fun _ _ v19 _=>m - (intOf v19).toNat)
 case atStart=>exact⟨0,n2,c2,A2,rfl,rfl,by omega,by omega,by simpa[Wq.lP] using own_less ho2 (by simp;omega),hbw2,by show _=_;simp[Wq.lP,HN2.out]⟩
 case round=>
  obtain⟨k,N,c',A',rfl,rfl,hk,hN,ho,hb,hq⟩:=hrel
  have hbs:=hb.size
  have HO:=Hz_ ho
  by_cases hlt:k < m
  ·have hks:k < sp.length:=by rw[HL2.out];exact hlt
   obtain⟨b,o,rfl,hab,g0,g1⟩:=hR2.stamp HL2.out hlt
   have h0:=(hb.cell (p:=⟨b,o+k * 2,none⟩) hab).trans g0
   have h1:=(hb.cell (p:=⟨b,o+k * 2+1,none⟩) hab).trans g1
   have HT:=Hz_ (lS_take sp k hks)
   have HUk:=Hz_ (HU.out _ (List.getElem_mem hks))
   generalize hlo:(sp[k]'hks).1=lo at h0 g0 HT HUk
   generalize hhi:(sp[k]'hks).2=hi at h1 g1 HT HUk
   have hbA:Below w.heap.size w ((wr.alloc (.cells #[.int .i64 lo,.int .i64 hi] 63)).alloc (.cells #[.int .i64 lo,.int .i64 hi] 3)):=(hb.alloc hbs _).alloc (by simp;omega) _
   have hRn:=Rd.new (wr.alloc (.cells #[.int .i64 lo,.int .i64 hi] 63)) 3 1 2 #[.int .i64 lo,.int .i64 hi] rfl h2max
   have hRb:=((Rd.of_own ho).alloc (Nat.le_refl _) (.cells #[.int .i64 lo,.int .i64 hi] 63)).alloc (by simp) (.cells #[.int .i64 lo,.int .i64 hi] 3)
   have hu2:∀x∈[lo,hi],Wq.u63 x:=by
    intro x hx
    simp only[List.mem_cons,List.not_mem_nil,or_false] at hx
    rcases hx with rfl | rfl
    ·exact HUk.out.1
    ·exact HUk.out.2
   have G3:=Hz_ (lay_any A' (some ⟨wr.heap.size+1,0,none⟩) N c' 2 2 (l2++Wq.lP (sp.take k)) [lo,hi] _ hq.out (hRb.more (by simp;omega)) rfl (by rw[World.size_alloc] at hRn;rw[World.size_alloc,World.size_alloc];exact hRn) hu2 (by omega) (by omega))
   have HE:=Hz_ (layAll_len [lo,hi] hu2)
   have HBA:=Hz_ hbA
   clear hlo hhi ho hRn hRb hu2 hks hb hbA g0 g1 hR2 HUk
   go_wp2_with fail
   refine G3.out.mono ?_
   rintro e w3 ⟨v3,rfl,A3,c3,rfl,ho3,hb3⟩
   have hb4:=btn HBA.out hb3
   have e1:l2++Wq.lP (sp.take k)++layAll [lo,hi]=l2++Wq.lP (sp.take (k+1)):=by rw[HT.out,List.append_assoc]
   have hlen:(l2++Wq.lP (sp.take k)++layAll [lo,hi]).length≤N+18:=by
    have:=HE.out
    rw[List.length_append,hq.out];simp at this;omega
   obtain⟨N3,hN3⟩:∃N3,N3=(l2++Wq.lP (sp.take k)++layAll [lo,hi]).length:=⟨_,rfl⟩
   rw[←hN3] at ho3 hlen ⊢
   rw[e1] at hN3 ho3
   have HN3:=Hz_ hN3
   clear G3 hb3 e1 hN3
   go_wp2
   go_roundw
   case rel=>
    exact⟨k+1,N3,c3,A3,by go_num,rfl,by omega,by omega,own_less ho3 (by simp;omega),hb4,HN3.out.symm⟩
   case measure=>simp[intOf];omega
  ·obtain rfl:k=m:=by omega
   clear hR2 ho
   go_wp2
   go_ret2
   have e0:sp.take k=sp:=List.take_of_length_le (by rw[HL2.out];exact Nat.le_refl _)
   have q1:=hq.out
   have q3:=HO.out
   rw[e0,HL22.out] at q1 q3
   have e2:l++layAll [(k:Int)]++Wq.lP sp=l++Wq.lS sp:=by
    unfold Wq.lS;rw[HL2.out];simp[layAll]
   rw[e2] at q1 q3
   exact⟨_,rfl,A',c',by rw[q1];rfl,by rw[q1];exact q3,hb⟩
theorem appendBody_no (A:Option Addr) (n c:Nat) (x:Wq.Bd) (Av:Option Addr) (cv:Nat) (w:World) (hf:Wq.bdF x=false):
  Calls Tryz.prog 29 #[.slice A n c,.agg (bval x Av cv)] w fun e w'=>e=.returned (.tuple #[.slice none 0 0,.int .i64 1])∧Below w.heap.size w w':=by
 have hb0:Below w.heap.size w (w.alloc (.cells (bval x Av cv) 31)):=(Below.refl _ _).alloc (Nat.le_refl _) _
 have G1:=bodyRight_any x Av cv (w.alloc (.cells (bval x Av cv) 31))
 rw[hf] at G1
 unfold bval at G1 hb0 ⊢
 have G1:=Hz_ G1
 have HB:=Hz_ hb0
 clear hf hb0
 go_enter Tryz.func29,Tryz.ntmps29
 go_wp2_with (go_at_call 104;go_must (refine G1.out.mono ?_);rintro e w1 ⟨rfl,hb1⟩)
 go_ret2
 exact⟨rfl,btn HB.out hb1⟩
theorem appendBody_any (A:Option Addr) (n c:Nat) (l:List UInt8) (x:Wq.Bd) (Av:Option Addr) (cv:Nat) (w:World) (hl:l.length=n) (hR:Rd w w.heap.size 1 A n c (bv l)) (hR2:Rd w w.heap.size 1 Av x.v.length cv (bv x.v)) (hf:Wq.bdF x=true) (hc:x.s.1 < 9223372036854775808) (hn:n+2400≤140737488355328):
  Calls Tryz.prog 29 #[.slice A n c,.agg (bval x Av cv)] w fun e w'=>∃v,e=.returned (.tuple #[v,.int .i64 0])∧BytesAre w.heap.size w (l++Wq.lB x) v w':=by
 obtain⟨f1,f2,f3,f4,f5,f6⟩:=(Wq.bdF_iff x).1 hf
 have hb0:Below w.heap.size w (w.alloc (.cells (bval x Av cv) 31)):=(Below.refl _ _).alloc (Nat.le_refl _) _
 have hX:=Blk.new w 31 (bval x Av cv)
 have G1:=bodyRight_any x Av cv (w.alloc (.cells (bval x Av cv) 31))
 rw[hf] at G1
 have h3max:3≤maxLen:=by unfold maxLen;omega
 have hu3:∀z∈[x.o,x.s.2,x.s.1],Wq.u63 z:=by
  intro z hz
  simp only[List.mem_cons,List.not_mem_nil,or_false] at hz
  rcases hz with rfl | rfl | rfl
  ·exact⟨f1,by omega⟩
  ·exact⟨f4,by omega⟩
  ·exact⟨by omega,hc⟩
 have G2:=Hz_ fun (W:World) (D:Option Addr) (d:Nat) (h1:Rd W W.heap.size 1 A n c (bv l)) (h2:Rd W W.heap.size 1 D 3 d (iv [x.o,x.s.2,x.s.1]))=>lay_any A D n c 3 d l [x.o,x.s.2,x.s.1] W hl h1 rfl h2 hu3 (by omega) (by omega)
 have hE:=layAll_len [x.o,x.s.2,x.s.1] hu3
 have hl3:(l++layAll [x.o,x.s.2,x.s.1]).length≤n+27:=by rw[List.length_append,hl];simp at hE;omega
 have HL3:=Hz_ (show (l++layAll [x.o,x.s.2,x.s.1])++Pk.lay x.v.length++x.v=l++Wq.lB x by unfold Wq.lB Wq.lR;simp[layAll])
 obtain⟨l3,hl3e⟩:∃q,q=l++layAll [x.o,x.s.2,x.s.1]:=⟨_,rfl⟩
 rw[←hl3e] at G2 hl3 HL3
 have G3:=Hz_ fun (W:World) (D:Option Addr) (d:Nat) (h1:Rd W W.heap.size 1 D l3.length d (bv l3)) (h2:Rd W W.heap.size 1 Av x.v.length cv (bv x.v))=>appendRow_any D Av l3.length d x.v.length cv l3 x.v W rfl h1 h2 (by omega)
 obtain⟨o,⟨ct,nd⟩,v⟩:=x
 dsimp only at *
 unfold bval at G1 hb0 hX ⊢
 dsimp only at G1 hb0 hX ⊢
 have HR:=Hz_ (hR.go hb0)
 have HR2:=Hz_ (hR2.go hb0)
 have G1:=Hz_ G1
 have HB:=Hz_ hb0
 have HX:=Hz_ hX
 clear hl hR hR2 hf hc f1 f2 f3 f4 f5 f6 hu3 hE hl3e hb0 hX
 go_enter Tryz.func29,Tryz.ntmps29
 go_wp2_with (go_at_call 104;go_must (refine G1.out.mono ?_);rintro e w1 ⟨rfl,hb1⟩)
 obtain⟨q0,q1,q2,q3⟩:w1.drew.cell? ⟨w.heap.size,0,none⟩=some (.int .i64 o)∧w1.drew.cell? ⟨w.heap.size,1,none⟩=some (.int .i64 ct)∧w1.drew.cell? ⟨w.heap.size,2,none⟩=some (.int .i64 nd)∧w1.drew.cell? ⟨w.heap.size,3,none⟩=some (.slice Av v.length cv):=(HX.out.go hb1).four
 have HXX:=Hz_ (show Blk w1 w.heap.size 31 #[.int .i64 o,.int .i64 ct,.int .i64 nd,.slice Av v.length cv] from HX.out.go hb1)
 have HR1:=Hz_ (HR.out.go hb1)
 have HS1:=Hz_ (HR2.out.go hb1)
 have HB1:=Hz_ (btn HB.out hb1)
 have hs1:=HB1.out.size
 have HBD:=Hz_ (show Below w1.heap.size w1 (w1.alloc (.cells #[.int .i64 o,.int .i64 nd,.int .i64 ct] 3)).drew from ((Below.refl _ _).alloc (Nat.le_refl _) _).drew)
 have HRn:=Hz_ (show Rd (w1.alloc (.cells #[.int .i64 o,.int .i64 nd,.int .i64 ct] 3)).drew (w1.heap.size+1) 1 (some ⟨w1.heap.size,0,none⟩) 3 3 (iv [o,nd,ct]) from (Rd.new w1 3 1 3 #[.int .i64 o,.int .i64 nd,.int .i64 ct] rfl h3max).drew)
 refine region_nrm fun K hK=>?_
 go_region_held3 (fun w'=>w'.cell? ⟨w.heap.size,0,none⟩=some (.int .i64 o)∧w'.cell? ⟨w.heap.size,1,none⟩=some (.int .i64 ct)∧w'.cell? ⟨w.heap.size,2,none⟩=some (.int .i64 nd)∧w'.cell? ⟨w.heap.size,3,none⟩=some (.slice Av v.length cv)) (first | exact⟨u0,u1,u2,u3⟩ | exact⟨t0,t1,t2,t3⟩ | exact⟨q0,q1,q2,q3⟩ | exact(HXX.out.go HBD.out).four | go_keep) (first
  | (go_at_call 103;go_must (refine(G2.out _ _ _ (HR1.out.go HBD.out) (by have h:=HRn.out;exact h.more (by simp))).mono ?_);rintro e w2 ⟨v2,rfl,A2,c2,rfl,ho2,hb2⟩;obtain⟨t0,t1,t2,t3⟩:=((HXX.out.go HBD.out).go hb2).four)
  | (go_at_call 105;go_must (refine(G3.out _ _ _ (Rd.of_own ho2) ((HS1.out.go HBD.out).go hb2)).mono ?_);rintro e w3 ⟨A3,c3,rfl,ho3,hb3⟩;obtain⟨u0,u1,u2,u3⟩:=(((HXX.out.go HBD.out).go hb2).go hb3).four))
 refine Nrm.out (hK _ _ ?_)
 go_wp2
 go_ret2
 have hlen:(l++Wq.lB ⟨o,(ct,nd),v⟩).length=l3.length+(Pk.lay v.length).length+v.length:=by rw[←HL3.out,List.length_append,List.length_append]
 refine⟨_,rfl,A3,c3,by rw[hlen]<;>rfl,?_,below_then (below_then (btn HB1.out HBD.out) (Nat.le_refl _) hb2) (Nat.le_refl _) hb3⟩
 rw[hlen,←HL3.out]
 exact own_less ho3 (by have:=hb2.size;simp at this;omega)
theorem refSetBytes_any (D:Option Addr) (m d:Nat) (sp:List Sn.Sp) (w:World) (hl2:sp.length=m) (hR2:Rd w w.heap.size 2 D m d (sv sp)) (hf:Sn.fmS (-2) sp=true):
  Calls Tryz.prog 34 #[.slice D m d] w fun e w'=>∃v,e=.returned v∧BytesAre w.heap.size w (Wq.lS sp) v w':=by
 obtain⟨i0,hi0,hz0,hz1,hz2⟩:=info_parts u8_info
 have hm:=Sn.fmS_128 hf
 rw[hl2] at hm
 have HU:=Hz_ (Wq.fmS_u63 hf)
 have HL2:=Hz_ hl2
 have G1:=Hz_ (refBytes_any m w (by omega))
 obtain⟨n2,hn2⟩:∃n2,n2=(Pk.lay m).length:=⟨_,rfl⟩
 have hn9:n2≤9:=by rw[hn2];exact Pk.lay_len9 (by omega)
 rw[←hn2] at G1
 have HN2:=Hz_ hn2
 clear hl2 hf hn2
 go_enter Tryz.func34,Tryz.ntmps34
 go_wp2_with fail
 refine G1.out.mono ?_
 rintro e w1 ⟨A2,c2,rfl,ho2,hb1⟩
 clear G1
 go_wp2_with fail
 go_loopw [3,4] (fun v6 v19 wr=>∃(k N c':Nat) (A':Option Addr),v19=.int .i64 k∧v6=.slice A' N c'∧k≤m∧N≤n2+18 * k∧wr.ownsRow w.heap.size 5 1 (.slice A' N c') N (bv (Pk.lay m++Wq.lP (sp.take k)))∧Below w.heap.size w wr ∧
  Hid ((Pk.lay m++Wq.lP (sp.take k)).length=N)) (fun _ v19 _=>m - (intOf v19).toNat)
 case atStart=>exact⟨0,n2,c2,A2,rfl,rfl,by omega,by omega,by simpa[Wq.lP] using ho2,hb1,by show _=_;simp[Wq.lP,HN2.out]⟩
 case round=>
  obtain⟨k,N,c',A',rfl,rfl,hk,hN,ho,hb,hq⟩:=hrel
  by_cases hlt:k < m
  ·have hks:k < sp.length:=by rw[HL2.out];exact hlt
   obtain⟨b,o,rfl,hab,g0,g1⟩:=hR2.stamp HL2.out hlt
   have HT:=Hz_ (lS_take sp k hks)
   have HUk:=Hz_ (HU.out _ (List.getElem_mem hks))
   generalize (sp[k]'hks).1=lo at g0 HT HUk
   generalize (sp[k]'hks).2=hi at g1 HT HUk
   obtain⟨x,hx⟩:∃x:Nat,lo=(x:Int):=⟨lo.toNat,by have:=HUk.out.1.1;omega⟩
   obtain⟨y,hy⟩:∃y:Nat,hi=(y:Int):=⟨hi.toNat,by have:=HUk.out.2.1;omega⟩
   subst hx hy
   have hx9:=u63_len HUk.out.1
   have hy9:=u63_len HUk.out.2
   rw[Int.toNat_natCast] at hx9 hy9
   have G2:=Hz_ fun W=>refBytes_any x W (by have:=HUk.out.1.2;omega)
   have G3:=Hz_ fun W=>refBytes_any y W (by have:=HUk.out.2.2;omega)
   obtain⟨lx,hlx⟩:∃lx,lx=(Pk.lay x).length:=⟨_,rfl⟩
   obtain⟨ly,hly⟩:∃ly,ly=(Pk.lay y).length:=⟨_,rfl⟩
   rw[←hlx] at G2 hx9
   rw[←hly] at G3 hy9
   have HLX:=Hz_ hlx
   have HLY:=Hz_ hly
   have HS:=Hz_ fun W (hb:Below w.heap.size w W)=>(show (W.cell? ⟨b,o+k * 2,none⟩=some (.int .i64 (x:Int))∧W.cell? ⟨b,o+k * 2+1,none⟩=some (.int .i64 (y:Int))) from
    ⟨(hb.cell (p:=⟨b,o+k * 2,none⟩) hab).trans g0,(hb.cell (p:=⟨b,o+k * 2+1,none⟩) hab).trans g1⟩)
   obtain⟨l2,hl2⟩:∃l2,l2=Pk.lay m++Wq.lP (sp.take k):=⟨_,rfl⟩
   rw[←hl2] at ho hq
   have HL:=Hz_ hl2
   have E:=Hz_ (show wr.drew.ownsRow w.heap.size 5 1 (.slice A' N c') N (bv l2) from ho)
   have kw:Below w.heap.size w wr.drew:=hb.drew
   have h63:N+lx≤maxLen:=by unfold maxLen;omega
   have h63b:N+lx+ly≤maxLen:=by unfold maxLen;omega
   clear ho hb hlx hly hks g0 g1 hl2 hR2
   go_wp2_with fail
   refine region_nrm fun KK hKK=>?_
   refine wp_region_held_drew (S:=(fun W=>W.cell? ⟨b,o+k * 2,none⟩=some (.int .i64 (x:Int))∧W.cell? ⟨b,o+k * 2+1,none⟩=some (.int .i64 (y:Int)))) (by kernel_rfl) (by first | exact HS.out _ kw) (fun hHeld=>?_)
   refine puA 0 14 (HS.out _ kw) ?_
   refine puA 1 15 (HS.out _ kw) ?_
   refine puA 2 16 (HS.out _ kw) ?_
   refine puA 3 17 (HS.out _ kw) ?_
   refine puA 4 18 (HS.out _ kw) ?_
   refine puA 5 19 (HS.out _ kw) ?_
   refine puA 8 22 (HS.out _ kw) ?_
   refine puA 9 23 (HS.out _ kw) ?_
   refine puA 10 24 (HS.out _ kw) ?_
   refine puA 11 25 (HS.out _ kw) ?_
   refine puA 12 26 (HS.out _ kw) ?_
   refine puR 6 fun K hK=>?_
   go_simp
   refine(G2.out _).mono ?_
   rintro e W1 ⟨D1,d1,rfl,ho1,hb'⟩
   have C:=Hz_ ho1
   have E:=Hz_ (own_below E.out hb' (Nat.le_refl _))
   have kw:=btn kw hb'
   clear ho1 hb'
   refine hK.out _ _ (HS.out _ kw) fun hHeld=>?_
   clear hK K
   refine puR 7 fun K hK=>?_
   rw[if_pos (by kernel_rfl)]
   refine wp_append_rd _ (.tmp 14) (.tmp 20) _ rfl w.heap.size 5 i0 _ 1 1 Tryz.underlying29 hi0 hz0 hz1 hz2 rfl (by decide) _ N (bv l2) rfl E.out _ D1 lx d1 (bv (Pk.lay x)) rfl (Rd.of_own C.out) (bv_oneCell _) h63 (by omega) kw.size ?_
   intro A14 c14 V14 ho hg hat
   have kw:=kw.trans (grown_below hg kw.size (fun g hg'=>(E.out.lt g hg').1))
   have E:=Hz_ ho
   clear ho hg hat C
   refine hK.out _ _ (HS.out _ kw) fun hHeld=>?_
   clear hK K
   refine puR 13 fun K hK=>?_
   go_simp
   refine(G3.out _).mono ?_
   rintro e W2 ⟨D2,d2,rfl,ho1,hb'⟩
   have C:=Hz_ ho1
   have E:=Hz_ (own_below E.out hb' (Nat.le_refl _))
   have kw:=btn kw hb'
   clear ho1 hb'
   refine hK.out _ _ (HS.out _ kw) fun hHeld=>?_
   clear hK K
   refine puR 14 fun K hK=>?_
   rw[if_pos (by kernel_rfl)]
   refine wp_append_rd _ (.tmp 21) (.tmp 27) _ rfl w.heap.size 5 i0 _ 1 1 Tryz.underlying29 hi0 hz0 hz1 hz2 rfl (by decide) _ (N+lx) (bv l2++bv (Pk.lay x)) rfl E.out _ D2 ly d2 (bv (Pk.lay y)) rfl (Rd.of_own C.out) (bv_oneCell _) h63b (by omega) kw.size ?_
   intro A21 c21 V21 ho hg hat
   have kw:=kw.trans (grown_below hg kw.size (fun g hg'=>(E.out.lt g hg').1))
   have E:=Hz_ ho
   clear ho hg hat C
   refine hK.out _ _ (HS.out _ kw) fun hHeld=>?_
   clear hK K
   refine puA 15 3 (HS.out _ kw) ?_
   refine wpAnyH_done (by kernel_rfl) ?_ _
   refine Nrm.out (hKK _ _ ?_)
   go_wp2
   go_roundw
   case rel=>
    have e3:Pk.lay m++Wq.lP (sp.take (k+1))=l2++Pk.lay x++Pk.lay y:=by rw[HT.out,HL.out];simp[layAll]
    refine⟨k+1,N+lx+ly,c21,A21,by go_num,rfl,by omega,by omega,?_,kw,?_⟩
    ·rw[e3,bv_app,bv_app];exact E.out
    ·show _=_
     rw[e3,List.length_append,List.length_append,hq.out,HLX.out,HLY.out]
   case measure=>simp[intOf];omega
  ·obtain rfl:k=m:=by omega
   have HO:=Hz_ ho
   clear hR2 ho
   go_wp2
   go_ret
   have e0:sp.take k=sp:=List.take_of_length_le (by rw[HL2.out];exact Nat.le_refl _)
   have q1:=hq.out
   have q3:=HO.out
   rw[e0] at q1 q3
   have e2:Pk.lay k++Wq.lP sp=Wq.lS sp:=by unfold Wq.lS;rw[HL2.out]
   rw[e2] at q1 q3
   exact⟨_,rfl,A',c',by rw[q1];rfl,by rw[q1];exact q3,hb⟩
theorem lV_take (sp:List Vc.St) (k:Nat) (h:k < sp.length):Wq.lP ((sp.take (k+1)).map Wq.sw)=Wq.lP ((sp.take k).map Wq.sw)++layAll [sp[k].2,sp[k].1]:=by
 unfold Wq.lP
 rw[List.take_succ_eq_append_getElem h,List.map_append,List.flatMap_append];simp[layAll,Wq.sw]
theorem fm_u63s {sp:List Vc.St} (hf:fm (-1) sp=true) (hc:Wq.cts sp):∀s∈sp,Wq.u63 s.2∧Wq.u63 s.1:=fun s hs=>Wq.fm_sw hf hc (Wq.sw s) (List.mem_map_of_mem hs)
theorem appendVec_any (A D:Option Addr) (n c m d:Nat) (l:List UInt8) (sp:List Vc.St) (w:World) (hl:l.length=n) (hR:Rd w w.heap.size 1 A n c (bv l)) (hl2:sp.length=m) (hR2:Rd w w.heap.size 2 D m d (sv sp)) (hf:fm (-1) sp=true) (hc:Wq.cts sp) (hn:n+2400≤140737488355328):
  Calls Tryz.prog 102 #[.slice A n c,.slice D m d] w fun e w'=>∃v,e=.returned (.tuple #[v,.int .i64 0])∧BytesAre w.heap.size w (l++Wq.lV sp) v w':=by
 have H1:=formed_any D m d sp w hl2 hR2
 rw[hf] at H1
 have G1:=Hz_ H1
 have hm:=Wq.fm_len hf
 rw[hl2] at hm
 have HU:=Hz_ (fm_u63s hf hc)
 have HL2:=Hz_ hl2
 have HR:=Hz_ hR
 have HL:=Hz_ hl
 have hum:Wq.u63 (m:Int):=⟨by omega,by omega⟩
 have h1max:1≤maxLen:=by unfold maxLen;omega
 have h2max:2≤maxLen:=by unfold maxLen;omega
 clear H1 hl2 hR hl hf
 go_enter Tryz.func102,Tryz.ntmps102
 go_wp2_with fail
 refine G1.out.mono ?_
 rintro e w1 ⟨rfl,hb1⟩
 have hs1:=hb1.size
 have hbA:Below w.heap.size w (w1.alloc (.cells #[.int .i64 m] 3)):=hb1.alloc hs1 _
 have hRn:=Rd.new w1 3 1 1 #[.int .i64 m] rfl h1max
 have hRb:=HR.out.go hbA
 have G2:=Hz_ (lay_any A (some ⟨w1.heap.size,0,none⟩) n c 1 1 l [(m:Int)] (w1.alloc (.cells #[.int .i64 m] 3)) HL.out hRb rfl (by rw[World.size_alloc];exact hRn) (by simpa using hum) (by omega) (by omega))
 clear G1 hRn hRb hb1
 go_wp2_with fail
 refine G2.out.mono ?_
 rintro e w2 ⟨v2,rfl,A2,c2,rfl,ho2,hb2⟩
 have hbw2:=btn hbA hb2
 have HHL:=Hz_ (show (l++layAll [(m:Int)]).length≤n+9 by
  rw[List.length_append,HL.out]
  have:=layAll_len [(m:Int)] (by simpa using hum)
  simp at this;omega)
 obtain⟨l2,hl2⟩:∃l2,l2=l++layAll [(m:Int)]:=⟨_,rfl⟩
 rw[←hl2] at ho2 HHL
 obtain⟨n2,hn2⟩:∃n2,n2=l2.length:=⟨_,rfl⟩
 rw[←hn2] at ho2 HHL
 have hn2le:=HHL.out
 have HL22:=Hz_ hl2
 have HN2:=Hz_ hn2
 rw[←hl2,←hn2]
 clear G2 hb2 hbA hl2 hn2
 go_wp2_with fail
 go_loopw [6,8,19] (fun v6 _ v19 wr=>∃(k N c':Nat) (A':Option Addr),v19=.int .i64 k∧v6=.slice A' N c'∧k≤m∧N≤n2+18 * k∧wr.ownsRow w.heap.size 5 1 (.slice A' N c') N (bv (l2++Wq.lP ((sp.take k).map Wq.sw)))∧Below w.heap.size w wr ∧
  Hid ((l2++Wq.lP ((sp.take k).map Wq.sw)).length=N)) (fun _ _ v19 _=>m - (intOf v19).toNat)
 case atStart=>exact⟨0,n2,c2,A2,rfl,rfl,by omega,by omega,by simpa[Wq.lP] using own_less ho2 (by simp;omega),hbw2,by show _=_;simp[Wq.lP,HN2.out]⟩
 case round=>
  obtain⟨k,N,c',A',rfl,rfl,hk,hN,ho,hb,hq⟩:=hrel
  have hbs:=hb.size
  have HO:=Hz_ ho
  by_cases hlt:k < m
  ·have hks:k < sp.length:=by rw[HL2.out];exact hlt
   obtain⟨b,o,rfl,hab,g0,g1⟩:=hR2.stamp HL2.out hlt
   have h0:=(hb.cell (p:=⟨b,o+k * 2,none⟩) hab).trans g0
   have h1:=(hb.cell (p:=⟨b,o+k * 2+1,none⟩) hab).trans g1
   have HT:=Hz_ (lV_take sp k hks)
   have HUk:=Hz_ (HU.out _ (List.getElem_mem hks))
   generalize hlo:(sp[k]'hks).1=hi at h0 g0 HT HUk
   generalize hhi:(sp[k]'hks).2=lo at h1 g1 HT HUk
   have hbA:Below w.heap.size w ((wr.alloc (.cells #[.int .i64 hi,.int .i64 lo] 28)).alloc (.cells #[.int .i64 lo,.int .i64 hi] 3)):=(hb.alloc hbs _).alloc (by simp;omega) _
   have hRn:=Rd.new (wr.alloc (.cells #[.int .i64 hi,.int .i64 lo] 28)) 3 1 2 #[.int .i64 lo,.int .i64 hi] rfl h2max
   have hRb:=((Rd.of_own ho).alloc (Nat.le_refl _) (.cells #[.int .i64 hi,.int .i64 lo] 28)).alloc (by simp) (.cells #[.int .i64 lo,.int .i64 hi] 3)
   have hu2:∀x∈[lo,hi],Wq.u63 x:=by
    intro x hx
    simp only[List.mem_cons,List.not_mem_nil,or_false] at hx
    rcases hx with rfl | rfl
    ·exact HUk.out.1
    ·exact HUk.out.2
   have G3:=Hz_ (lay_any A' (some ⟨wr.heap.size+1,0,none⟩) N c' 2 2 (l2++Wq.lP ((sp.take k).map Wq.sw)) [lo,hi] _ hq.out (hRb.more (by simp;omega)) rfl (by rw[World.size_alloc] at hRn;rw[World.size_alloc,World.size_alloc];exact hRn) hu2 (by omega) (by omega))
   have HE:=Hz_ (layAll_len [lo,hi] hu2)
   have HBA:=Hz_ hbA
   clear hlo hhi ho hRn hRb hu2 hks hb hbA g0 g1 hR2 HUk
   go_wp2_with fail
   refine G3.out.mono ?_
   rintro e w3 ⟨v3,rfl,A3,c3,rfl,ho3,hb3⟩
   have hb4:=btn HBA.out hb3
   have e1:l2++Wq.lP ((sp.take k).map Wq.sw)++layAll [lo,hi]=l2++Wq.lP ((sp.take (k+1)).map Wq.sw):=by rw[HT.out,List.append_assoc]
   have hlen:(l2++Wq.lP ((sp.take k).map Wq.sw)++layAll [lo,hi]).length≤N+18:=by
    have:=HE.out
    rw[List.length_append,hq.out];simp at this;omega
   obtain⟨N3,hN3⟩:∃N3,N3=(l2++Wq.lP ((sp.take k).map Wq.sw)++layAll [lo,hi]).length:=⟨_,rfl⟩
   rw[←hN3] at ho3 hlen ⊢
   rw[e1] at hN3 ho3
   have HN3:=Hz_ hN3
   clear G3 hb3 e1 hN3
   go_wp2
   go_roundw
   case rel=>
    exact⟨k+1,N3,c3,A3,by go_num,rfl,by omega,by omega,own_less ho3 (by simp;omega),hb4,HN3.out.symm⟩
   case measure=>simp[intOf];omega
  ·obtain rfl:k=m:=by omega
   clear hR2 ho
   go_wp2
   go_ret2
   have e0:sp.take k=sp:=List.take_of_length_le (by rw[HL2.out];exact Nat.le_refl _)
   have q1:=hq.out
   have q3:=HO.out
   rw[e0,HL22.out] at q1 q3
   have e2:l++layAll [(k:Int)]++Wq.lP (sp.map Wq.sw)=l++Wq.lV sp:=by
    unfold Wq.lV;rw[HL2.out];simp[layAll]
   rw[e2] at q1 q3
   exact⟨_,rfl,A',c',by rw[q1];rfl,by rw[q1];exact q3,hb⟩
theorem refVecBytes_any (D:Option Addr) (m d:Nat) (sp:List Vc.St) (w:World) (hl2:sp.length=m) (hR2:Rd w w.heap.size 2 D m d (sv sp)) (hf:fm (-1) sp=true) (hc:Wq.cts sp):
  Calls Tryz.prog 106 #[.slice D m d] w fun e w'=>∃v,e=.returned v∧BytesAre w.heap.size w (Wq.lV sp) v w':=by
 obtain⟨i0,hi0,hz0,hz1,hz2⟩:=info_parts u8_info
 have hm:=Wq.fm_len hf
 rw[hl2] at hm
 have HU:=Hz_ (fm_u63s hf hc)
 have HL2:=Hz_ hl2
 have G1:=Hz_ (refBytes_any m w (by omega))
 obtain⟨n2,hn2⟩:∃n2,n2=(Pk.lay m).length:=⟨_,rfl⟩
 have hn9:n2≤9:=by rw[hn2];exact Pk.lay_len9 (by omega)
 rw[←hn2] at G1
 have HN2:=Hz_ hn2
 clear hl2 hf hn2
 go_enter Tryz.func106,Tryz.ntmps106
 go_wp2_with fail
 refine G1.out.mono ?_
 rintro e w1 ⟨A2,c2,rfl,ho2,hb1⟩
 clear G1
 go_wp2_with fail
 go_loopw [3,4] (fun v6 v19 wr=>∃(k N c':Nat) (A':Option Addr),v19=.int .i64 k∧v6=.slice A' N c'∧k≤m∧N≤n2+18 * k∧wr.ownsRow w.heap.size 5 1 (.slice A' N c') N (bv (Pk.lay m++Wq.lP ((sp.take k).map Wq.sw)))∧Below w.heap.size w wr ∧
  Hid ((Pk.lay m++Wq.lP ((sp.take k).map Wq.sw)).length=N)) (fun _ v19 _=>m - (intOf v19).toNat)
 case atStart=>exact⟨0,n2,c2,A2,rfl,rfl,by omega,by omega,by simpa[Wq.lP] using ho2,hb1,by show _=_;simp[Wq.lP,HN2.out]⟩
 case round=>
  obtain⟨k,N,c',A',rfl,rfl,hk,hN,ho,hb,hq⟩:=hrel
  by_cases hlt:k < m
  ·have hks:k < sp.length:=by rw[HL2.out];exact hlt
   obtain⟨b,o,rfl,hab,g0,g1⟩:=hR2.stamp HL2.out hlt
   have HT:=Hz_ (lV_take sp k hks)
   have HUk:=Hz_ (HU.out _ (List.getElem_mem hks))
   generalize (sp[k]'hks).1=hi at g0 HT HUk
   generalize (sp[k]'hks).2=lo at g1 HT HUk
   obtain⟨x,hx⟩:∃x:Nat,lo=(x:Int):=⟨lo.toNat,by have:=HUk.out.1.1;omega⟩
   obtain⟨y,hy⟩:∃y:Nat,hi=(y:Int):=⟨hi.toNat,by have:=HUk.out.2.1;omega⟩
   subst hx hy
   have hx9:=u63_len HUk.out.1
   have hy9:=u63_len HUk.out.2
   rw[Int.toNat_natCast] at hx9 hy9
   have G2:=Hz_ fun W=>refBytes_any x W (by have:=HUk.out.1.2;omega)
   have G3:=Hz_ fun W=>refBytes_any y W (by have:=HUk.out.2.2;omega)
   obtain⟨lx,hlx⟩:∃lx,lx=(Pk.lay x).length:=⟨_,rfl⟩
   obtain⟨ly,hly⟩:∃ly,ly=(Pk.lay y).length:=⟨_,rfl⟩
   rw[←hlx] at G2 hx9
   rw[←hly] at G3 hy9
   have HLX:=Hz_ hlx
   have HLY:=Hz_ hly
   have HS:=Hz_ fun W (hb:Below w.heap.size w W)=>(show (W.cell? ⟨b,o+k * 2,none⟩=some (.int .i64 (y:Int))∧W.cell? ⟨b,o+k * 2+1,none⟩=some (.int .i64 (x:Int))) from
    ⟨(hb.cell (p:=⟨b,o+k * 2,none⟩) hab).trans g0,(hb.cell (p:=⟨b,o+k * 2+1,none⟩) hab).trans g1⟩)
   obtain⟨l2,hl2⟩:∃l2,l2=Pk.lay m++Wq.lP ((sp.take k).map Wq.sw):=⟨_,rfl⟩
   rw[←hl2] at ho hq
   have HL:=Hz_ hl2
   have E:=Hz_ (show wr.drew.ownsRow w.heap.size 5 1 (.slice A' N c') N (bv l2) from ho)
   have kw:Below w.heap.size w wr.drew:=hb.drew
   have h63:N+lx≤maxLen:=by unfold maxLen;omega
   have h63b:N+lx+ly≤maxLen:=by unfold maxLen;omega
   clear ho hb hlx hly hks g0 g1 hl2 hR2
   go_wp2_with fail
   refine region_nrm fun KK hKK=>?_
   refine wp_region_held_drew (S:=(fun W=>W.cell? ⟨b,o+k * 2,none⟩=some (.int .i64 (y:Int))∧W.cell? ⟨b,o+k * 2+1,none⟩=some (.int .i64 (x:Int)))) (by kernel_rfl) (by first | exact HS.out _ kw) (fun hHeld=>?_)
   refine puA 0 14 (HS.out _ kw) ?_
   refine puA 1 15 (HS.out _ kw) ?_
   refine puA 2 16 (HS.out _ kw) ?_
   refine puA 3 17 (HS.out _ kw) ?_
   refine puA 4 18 (HS.out _ kw) ?_
   refine puA 5 19 (HS.out _ kw) ?_
   refine puA 8 22 (HS.out _ kw) ?_
   refine puA 9 23 (HS.out _ kw) ?_
   refine puA 10 24 (HS.out _ kw) ?_
   refine puA 11 25 (HS.out _ kw) ?_
   refine puA 12 26 (HS.out _ kw) ?_
   refine puR 6 fun K hK=>?_
   go_simp
   refine(G2.out _).mono ?_
   rintro e W1 ⟨D1,d1,rfl,ho1,hb'⟩
   have C:=Hz_ ho1
   have E:=Hz_ (own_below E.out hb' (Nat.le_refl _))
   have kw:=btn kw hb'
   clear ho1 hb'
   refine hK.out _ _ (HS.out _ kw) fun hHeld=>?_
   clear hK K
   refine puR 7 fun K hK=>?_
   rw[if_pos (by kernel_rfl)]
   refine wp_append_rd _ (.tmp 14) (.tmp 20) _ rfl w.heap.size 5 i0 _ 1 1 Tryz.underlying29 hi0 hz0 hz1 hz2 rfl (by decide) _ N (bv l2) rfl E.out _ D1 lx d1 (bv (Pk.lay x)) rfl (Rd.of_own C.out) (bv_oneCell _) h63 (by omega) kw.size ?_
   intro A14 c14 V14 ho hg hat
   have kw:=kw.trans (grown_below hg kw.size (fun g hg'=>(E.out.lt g hg').1))
   have E:=Hz_ ho
   clear ho hg hat C
   refine hK.out _ _ (HS.out _ kw) fun hHeld=>?_
   clear hK K
   refine puR 13 fun K hK=>?_
   go_simp
   refine(G3.out _).mono ?_
   rintro e W2 ⟨D2,d2,rfl,ho1,hb'⟩
   have C:=Hz_ ho1
   have E:=Hz_ (own_below E.out hb' (Nat.le_refl _))
   have kw:=btn kw hb'
   clear ho1 hb'
   refine hK.out _ _ (HS.out _ kw) fun hHeld=>?_
   clear hK K
   refine puR 14 fun K hK=>?_
   rw[if_pos (by kernel_rfl)]
   refine wp_append_rd _ (.tmp 21) (.tmp 27) _ rfl w.heap.size 5 i0 _ 1 1 Tryz.underlying29 hi0 hz0 hz1 hz2 rfl (by decide) _ (N+lx) (bv l2++bv (Pk.lay x)) rfl E.out _ D2 ly d2 (bv (Pk.lay y)) rfl (Rd.of_own C.out) (bv_oneCell _) h63b (by omega) kw.size ?_
   intro A21 c21 V21 ho hg hat
   have kw:=kw.trans (grown_below hg kw.size (fun g hg'=>(E.out.lt g hg').1))
   have E:=Hz_ ho
   clear ho hg hat C
   refine hK.out _ _ (HS.out _ kw) fun hHeld=>?_
   clear hK K
   refine puA 15 3 (HS.out _ kw) ?_
   refine wpAnyH_done (by kernel_rfl) ?_ _
   refine Nrm.out (hKK _ _ ?_)
   go_wp2
   go_roundw
   case rel=>
    have e3:Pk.lay m++Wq.lP ((sp.take (k+1)).map Wq.sw)=l2++Pk.lay x++Pk.lay y:=by rw[HT.out,HL.out];simp[layAll]
    refine⟨k+1,N+lx+ly,c21,A21,by go_num,rfl,by omega,by omega,?_,kw,?_⟩
    ·rw[e3,bv_app,bv_app];exact E.out
    ·show _=_
     rw[e3,List.length_append,List.length_append,hq.out,HLX.out,HLY.out]
   case measure=>simp[intOf];omega
  ·obtain rfl:k=m:=by omega
   have HO:=Hz_ ho
   clear hR2 ho
   go_wp2
   go_ret
   have e0:sp.take k=sp:=List.take_of_length_le (by rw[HL2.out];exact Nat.le_refl _)
   have q1:=hq.out
   have q3:=HO.out
   rw[e0] at q1 q3
   have e2:Pk.lay k++Wq.lP (sp.map Wq.sw)=Wq.lV sp:=by unfold Wq.lV;rw[HL2.out]
   rw[e2] at q1 q3
   exact⟨_,rfl,A',c',by rw[q1];rfl,by rw[q1];exact q3,hb⟩
theorem lV_len {v:List Vc.St} (h:fm (-1) v=true) (hc:Wq.cts v):(Wq.lV v).length≤1161:=by
 have h1:=Wq.fm_len h
 have h3:(Pk.lay v.length).length≤9:=Pk.lay_len9 (by omega)
 have h2:∀u:List (Int×Int),(∀s∈u,Wq.u63 s.1∧Wq.u63 s.2)→(Wq.lP u).length≤18 * u.length:=by
  intro u
  induction u with
  | nil=>intro _;simp[Wq.lP]
  | cons s r ih=>
   intro hs
   have a:=hs s (by simp)
   have a1:=u63_len a.1
   have a2:=u63_len a.2
   have a3:=ih fun t ht=>hs t (by simp[ht])
   rw[Wq.lP_cons,List.length_append,List.length_append,List.length_cons];omega
 have h4:=h2 (v.map Wq.sw) (Wq.fm_sw h hc)
 rw[List.length_map] at h4
 unfold Wq.lV
 rw[List.length_append];omega
def wNums (w:Wr):List Int:=[w.2.1,w.1.2,w.1.1,(Wq.gn w.2.2:Nat)]
theorem lW1_nums (w:Wr):Wq.lW1 w=layAll (wNums w):=by unfold Wq.lW1 layAll wNums;simp
theorem lW_take (l:List Wr) (k:Nat) (h:k < l.length):Wq.lW (l.take (k+1))=Wq.lW (l.take k)++layAll (wNums l[k]):=by
 unfold Wq.lW
 rw[List.take_succ_eq_append_getElem h,List.flatMap_append,←lW1_nums];simp
theorem wNums_u63 {w:Wr} (h:Wq.wU w):∀z∈wNums w,Wq.u63 z:=by
 intro z hz
 simp only[wNums,List.mem_cons,List.not_mem_nil,or_false] at hz
 rcases hz with rfl | rfl | rfl | rfl
 ·exact h.1
 ·exact h.2.1
 ·exact h.2.2
 ·unfold Wq.gn;split<;>exact⟨by decide,by decide⟩
theorem appendNote_any (A:Option Addr) (n c:Nat) (l:List UInt8) (v:NV) (x:Nt) (w:World) (hT:Tab w) (hl:l.length=n) (hR:Rd w w.heap.size 1 A n c (bv l)) (hN:NtRd w w.heap.size v x) (hf:ntF x=true) (hc:Wq.ntC x) (hn:n+20000≤140737488355328):
  Calls Tryz.prog 28 #[.slice A n c,.agg v.val] w fun e w'=>∃u,e=.returned (.tuple #[u,.int .i64 0])∧BytesAre w.heap.size w (l++Wq.lNt x) u w':=by
 obtain⟨f1,f2,f3,f4⟩:=Wq.ntF_parts hf
 have hwl:=Wq.ntW_len f4
 have HWU:=Hz_ (Wq.ntW_u hf hc)
 have hb0:Below w.heap.size w (w.alloc (.cells v.val 26)):=(Below.refl _ _).alloc (Nat.le_refl _) _
 have G1:=noteFormed_any v x _ (hT.below hb0) (hN.go hb0)
 rw[hf] at G1
 have hX:=Blk.new w 26 v.val
 have HN:=Hz_ (hN.go hb0)
 obtain⟨A1,n1,c1,A2,n2,c2,A3,n3,c3,A4,n4,c4⟩:=v
 obtain⟨xs,xe,xb,xw⟩:=x
 dsimp only at *
 have z1:=lV_len f1 hc.1
 have z2:=lV_len f2 hc.2.1
 have z3:=Wq.lS_len f3
 have hm4:=hN.l4
 dsimp only at hm4
 obtain⟨W0,hW0⟩:∃W0,W0=w.alloc (.cells (NV.val ⟨A1,n1,c1,A2,n2,c2,A3,n3,c3,A4,n4,c4⟩) 26):=⟨_,rfl⟩
 have hs0:W0.heap.size=w.heap.size+1:=by rw[hW0];simp
 rw[←hW0] at hb0 hX HN G1
 have HW0:=Hz_ hW0.symm
 have HR:=Hz_ (hR.go hb0)
 have G1:=Hz_ G1
 have HB:=Hz_ hb0
 have HX:=Hz_ hX
 have HL:=Hz_ hl
 have h1max:1≤maxLen:=by unfold maxLen;omega
 have h4max:4≤maxLen:=by unfold maxLen;omega
 have HF:=Hz_ (show fm (-1) xs=true∧fm (-1) xe=true∧Sn.fmS (-2) xb=true∧Wq.cts xs∧Wq.cts xe from ⟨f1,f2,f3,hc.1,hc.2.1⟩)
 clear hT hl hR hN hf hc f1 f2 f3 f4 hb0 hX hW0
 go_enter Tryz.func28,Tryz.ntmps28
 go_wp2_with fail
 rw[HW0.out]
 refine G1.out.mono ?_
 rintro e w1 ⟨rfl,hb1⟩
 have hbw1:=below_then HB.out (by omega) hb1
 obtain⟨q0,q1,q2,q3⟩:=(HX.out.go hb1).four
 have hN1:=HN.out.go hb1
 have G2:=Hz_ (appendVec_any A A1 n c n1 c1 l xs w1 HL.out (HR.out.go hb1) hN1.l1 hN1.r1 HF.out.1 HF.out.2.2.2.1 (by omega))
 clear G1
 go_wp2_with fail
 refine G2.out.mono ?_
 rintro e w2 ⟨u2,rfl,D2,d2,rfl,ho2,hb2⟩
 have hbw2:=btn hbw1 hb2
 have hN2:=hN1.go hb2
 obtain⟨l2,hl2⟩:∃q,q=l++Wq.lV xs:=⟨_,rfl⟩
 have z4:l2.length≤n+1161:=by rw[hl2,List.length_append,HL.out];omega
 rw[←hl2] at ho2 ⊢
 have HL2:=Hz_ hl2
 have G3:=Hz_ (appendVec_any D2 A2 l2.length d2 n2 c2 l2 xe w2 rfl (Rd.of_own ho2) hN2.l2 hN2.r2 HF.out.2.1 HF.out.2.2.2.2 (by omega))
 have q1:=(hb2.cell (p:=⟨w.heap.size,1,none⟩) (World.block_lt_of_cell? _ _ q1)).trans q1
 have q2:=(hb2.cell (p:=⟨w.heap.size,2,none⟩) (World.block_lt_of_cell? _ _ q2)).trans q2
 have q3:=(hb2.cell (p:=⟨w.heap.size,3,none⟩) (World.block_lt_of_cell? _ _ q3)).trans q3
 clear G2 hl2 hN1 ho2 q0
 go_wp2_with fail
 refine G3.out.mono ?_
 rintro e w3 ⟨u3,rfl,D3,d3,rfl,ho3,hb3⟩
 have hbw3:=btn hbw2 hb3
 have hN3:=hN2.go hb3
 obtain⟨l3,hl3⟩:∃q,q=l2++Wq.lV xe:=⟨_,rfl⟩
 have z5:l3.length≤n+2322:=by rw[hl3,List.length_append];omega
 rw[←hl3] at ho3 ⊢
 have HL3:=Hz_ hl3
 have G4:=Hz_ (appendSet_any D3 A3 l3.length d3 n3 c3 l3 xb w3 rfl (Rd.of_own ho3) hN3.l3 hN3.r3 HF.out.2.2.1 (by omega))
 have q2:=(hb3.cell (p:=⟨w.heap.size,2,none⟩) (World.block_lt_of_cell? _ _ q2)).trans q2
 have q3:=(hb3.cell (p:=⟨w.heap.size,3,none⟩) (World.block_lt_of_cell? _ _ q3)).trans q3
 clear G3 hl3 hN2 ho3 q1
 go_wp2_with fail
 refine G4.out.mono ?_
 rintro e w4 ⟨u4,rfl,D4,d4,rfl,ho4,hb4⟩
 have hbw4:=btn hbw3 hb4
 have hN4:=hN3.go hb4
 obtain⟨l4,hl4⟩:∃q,q=l3++Wq.lS xb:=⟨_,rfl⟩
 have z6:l4.length≤n+2836:=by rw[hl4,List.length_append];omega
 rw[←hl4] at ho4 ⊢
 have HL4:=Hz_ hl4
 have q3:=(hb4.cell (p:=⟨w.heap.size,3,none⟩) (World.block_lt_of_cell? _ _ q3)).trans q3
 have hum:∀z∈[(n4:Int)],Wq.u63 z:=by
  intro z hz
  rw[List.mem_singleton] at hz
  subst hz
  exact⟨by omega,by omega⟩
 have hbA:Below w4.heap.size w4 (w4.alloc (.cells #[.int .i64 n4] 3)):=(Below.refl _ _).alloc (Nat.le_refl _) _
 have hRn:=Rd.new w4 3 1 1 #[.int .i64 n4] rfl h1max
 have G5:=Hz_ (lay_any D4 (some ⟨w4.heap.size,0,none⟩) l4.length d4 1 1 l4 [(n4:Int)] (w4.alloc (.cells #[.int .i64 n4] 3)) rfl ((Rd.of_own ho4).go hbA) rfl (by rw[World.size_alloc];exact hRn) hum (by omega) (by omega))
 have hE5:=layAll_len [(n4:Int)] hum
 have HBA:=Hz_ hbA
 clear G4 hl4 hN3 ho4 hRn hbA hum
 go_wp2_with fail
 refine G5.out.mono ?_
 rintro e w5 ⟨u5,rfl,D5,d5,rfl,ho5,hb5⟩
 have hbwA:=btn hbw4 HBA.out
 have hbw5:=btn hbwA hb5
 have hN5:=(hN4.go HBA.out).go hb5
 obtain⟨l5,hl5⟩:∃q,q=l4++layAll [(n4:Int)]:=⟨_,rfl⟩
 have z7:l5.length≤n+2845:=by rw[hl5,List.length_append];simp at hE5;omega
 rw[←hl5] at ho5 ⊢
 have HL5:=Hz_ hl5
 have q3:=((HBA.out.trans (hb5.mono (by simp))).cell (p:=⟨w.heap.size,3,none⟩) (World.block_lt_of_cell? _ _ q3)).trans q3
 have HN5:=Hz_ hN5
 have HO5:=Hz_ ho5
 have HM4:=Hz_ hm4
 clear G5 hl5 hN4 ho5 hN5 hE5 hb1 hb2 hb3 hb4 hbw1 hbw2 hbw3 hbw4
 go_wp2_with fail
 have hw4s:w.heap.size≤(w4.alloc (.cells #[.int .i64 n4] 3)).heap.size:=hbwA.size
 go_loopw [6,9,10,44] (fun v6 _ _ v44 wr=>∃(k N c':Nat) (A':Option Addr),v44=.int .i64 k∧v6=.slice A' N c'∧k≤n4∧N≤l5.length+36 * k∧Hid (wr.ownsRow w.heap.size 5 1 (.slice A' N c') N (bv (l5++Wq.lW (xw.take k))))∧Hid ((l5++Wq.lW (xw.take k)).length=N)∧Below w5.heap.size w5 wr) (fun _ _ _ v44 _=>n4 - (intOf v44).toNat)
 case atStart=>exact⟨0,l5.length,d5,D5,rfl,rfl,by omega,by omega,by show World.ownsRow _ _ _ _ _ _ _;simpa[Wq.lW] using own_less HO5.out hw4s,by show _=_;simp[Wq.lW],Below.refl _ _⟩
 case round=>
  obtain⟨k,N,c',A',rfl,rfl,hk,hN,ho,hq,hb⟩:=hrel
  have hbs:=hb.size
  by_cases hlt:k < n4
  ·have hks:k < xw.length:=by rw[HM4.out];exact hlt
   obtain⟨bb,o,hA4,hab,g0,g1,g2,g3⟩:=(HN5.out.r4.below hb).write HN5.out.l4 hks
   dsimp only at hA4
   subst hA4
   have HTK:=Hz_ (lW_take xw k hks)
   have HUK:=Hz_ (wNums_u63 (HWU.out _ (List.getElem_mem hks)))
   generalize xw[k]'hks=wk at g0 g1 g2 g3 HTK HUK
   obtain⟨⟨ct,nd⟩,ob,gb⟩:=wk
   dsimp only at g0 g1 g2 g3
   have hbX:Below wr.heap.size wr ((wr.alloc (.cells #[.int .i64 ct,.int .i64 nd,.int .i64 ob,.bool gb] 70)).alloc (.cells #[.int .i64 ob,.int .i64 nd,.int .i64 ct,.int .i64 (Wq.gn gb:Nat)] 3)):=((Below.refl _ _).alloc (Nat.le_refl _) _).alloc (by simp) _
   have hRn:=Rd.new (wr.alloc (.cells #[.int .i64 ct,.int .i64 nd,.int .i64 ob,.bool gb] 70)) 3 1 4 #[.int .i64 ob,.int .i64 nd,.int .i64 ct,.int .i64 (Wq.gn gb:Nat)] rfl h4max
   have G6:=lay_any A' (some ⟨wr.heap.size+1,0,none⟩) N c' 4 4 (l5++Wq.lW (xw.take k)) (wNums ((ct,nd),ob,gb)) _ hq.out ((Rd.of_own ho.out).go hbX) rfl (by rw[World.size_alloc] at hRn;rw[World.size_alloc,World.size_alloc];exact hRn) HUK.out (by omega) (by omega)
   have hE6:=layAll_len (wNums ((ct,nd),ob,gb)) HUK.out
   have e1:(l5++Wq.lW (xw.take k))++layAll (wNums ((ct,nd),ob,gb))=l5++Wq.lW (xw.take (k+1)):=by rw[HTK.out,List.append_assoc]
   have hlen:((l5++Wq.lW (xw.take k))++layAll (wNums ((ct,nd),ob,gb))).length≤N+36:=by
    rw[List.length_append,hq.out];simp[wNums] at hE6;simp[wNums];omega
   rw[e1] at G6 hlen
   obtain⟨N6,hN6⟩:∃q,q=(l5++Wq.lW (xw.take (k+1))).length:=⟨_,rfl⟩
   unfold BytesAre at G6
   rw[←hN6] at G6 hlen
   have HN6:=Hz_ hN6.symm
   have G6:=Hz_ G6
   have HBX:=Hz_ hbX
   clear hRn hbX hE6 e1 ho hks hN6
   rcases gb with _ | _
   all_goals
    go_wp2_with (go_at_call 103;go_must (refine G6.out.mono ?_);rintro e w6 ⟨u6,rfl,D6,d6,rfl,ho6,hb6⟩)
    go_roundw
    case rel=>exact⟨k+1,N6,d6,D6,by go_num,rfl,by omega,by omega,own_less ho6 (by have:=hbw5.size;simp;omega),HN6.out,hb.trans ((HBX.out.trans (hb6.mono (by simp;omega))).mono hbs)⟩
    case measure=>simp[intOf];omega
  ·obtain rfl:k=n4:=by omega
   have e0:xw.take k=xw:=List.take_of_length_le (by rw[HM4.out];exact Nat.le_refl _)
   have q1:=hq.out
   have q3:=ho.out
   rw[e0] at q1 q3
   have e2:l5++Wq.lW xw=l++Wq.lNt ⟨xs,xe,xb,xw⟩:=by
    rw[HL5.out,HL4.out,HL3.out,HL2.out]
    unfold Wq.lNt
    rw[HM4.out]
    simp[layAll]
   rw[e2] at q1 q3
   clear ho hq
   go_wp2
   go_ret2
   exact⟨_,rfl,A',c',by rw[q1]<;>rfl,by rw[q1];exact q3,hbw5.trans (hb.mono hbw5.size)⟩
theorem refBodyBytes_any (x:Wq.Bd) (Av:Option Addr) (cv:Nat) (w:World) (hR:Rd w w.heap.size 1 Av x.v.length cv (bv x.v)) (hf:Wq.bdF x=true) (hc:x.s.1 < 9223372036854775808):
  Calls Tryz.prog 33 #[.agg (bval x Av cv)] w fun e w'=>∃v,e=.returned v∧BytesAre w.heap.size w (Wq.lB x) v w':=by
 obtain⟨i0,hi0,hz0,hz1,hz2⟩:=info_parts u8_info
 obtain⟨ho0,ho1,ha0,hb0,hb1,hv⟩:=(Wq.bdF_iff x).1 hf
 obtain⟨o,⟨a,b⟩,v⟩:=x
 dsimp only at *
 obtain⟨p,rfl⟩:∃p:Nat,o=(p:Int):=⟨o.toNat,by omega⟩
 obtain⟨q,rfl⟩:∃q:Nat,a=(q:Int):=⟨a.toNat,by omega⟩
 obtain⟨r,rfl⟩:∃r:Nat,b=(r:Int):=⟨b.toNat,by omega⟩
 have hx9:(Pk.lay p).length≤9:=Pk.lay_len9 (by omega)
 have hy9:(Pk.lay r).length≤9:=Pk.lay_len9 (by omega)
 have hz9:(Pk.lay q).length≤9:=Pk.lay_len9 (by omega)
 have hn9:(Pk.lay v.length).length≤9:=Pk.lay_len9 (by omega)
 have G1:=fun W=>refBytes_any p W (by omega)
 have G2:=fun W=>refBytes_any r W (by omega)
 have G3:=fun W=>refBytes_any q W (by omega)
 obtain⟨lx,hlx⟩:∃lx,lx=(Pk.lay p).length:=⟨_,rfl⟩
 obtain⟨ly,hly⟩:∃ly,ly=(Pk.lay r).length:=⟨_,rfl⟩
 obtain⟨lz,hlz⟩:∃lz,lz=(Pk.lay q).length:=⟨_,rfl⟩
 obtain⟨ln,hln⟩:∃ln,ln=(Pk.lay v.length).length:=⟨_,rfl⟩
 obtain⟨m,hm⟩:∃m,m=v.length:=⟨_,rfl⟩
 have GL:=fun W (hb:Below w.heap.size w W)=>refLaid_any Av m cv v W (by rw[hm];exact hR.go hb) (by omega)
 rw[←hm] at hln
 rw[←hln] at GL
 rw[←hlx] at G1 hx9
 rw[←hly] at G2 hy9
 rw[←hlz] at G3 hz9
 rw[←hm,←hln] at hn9
 rw[←hm] at hv
 unfold bval
 dsimp only
 rw[←hm]
 have G1:=Hz_ G1
 have G2:=Hz_ G2
 have G3:=Hz_ G3
 have GL:=Hz_ GL
 have HLL:=Hz_ (And.intro hlx (And.intro hly (And.intro hlz (And.intro hln hm))))
 have h63:lx+ly≤maxLen:=by unfold maxLen;omega
 have h63b:lx+ly+lz≤maxLen:=by unfold maxLen;omega
 have h63c:lx+ly+lz+(ln+m)≤maxLen:=by unfold maxLen;omega
 have hX:=Blk.new w 31 #[.int .i64 (p:Int),.int .i64 (q:Int),.int .i64 (r:Int),.slice Av m cv]
 have hbX:Below w.heap.size w (w.alloc (.cells #[.int .i64 (p:Int),.int .i64 (q:Int),.int .i64 (r:Int),.slice Av m cv] 31)):=(Below.refl _ _).alloc (Nat.le_refl _) _
 obtain⟨W0,hW0⟩:∃W0,W0=w.alloc (.cells #[.int .i64 (p:Int),.int .i64 (q:Int),.int .i64 (r:Int),.slice Av m cv] 31):=⟨_,rfl⟩
 have hs0:W0.heap.size=w.heap.size+1:=by rw[hW0];simp
 rw[←hW0] at hX hbX
 have HW:=Hz_ hW0.symm
 have HX:=Hz_ hX
 have HB:=Hz_ hbX
 have HS:=Hz_ fun W (hb:Below W0.heap.size W0 W)=>(HX.out.go hb).four
 clear hR hf hc hlx hly hlz hln hm hX hbX hW0 ho0 ho1 ha0 hb0 hb1
 go_enter Tryz.func33,Tryz.ntmps33
 go_wp2_with fail
 rw[HW.out]
 have kw:Below W0.heap.size W0 W0.drew:=(Below.refl _ _).drew
 refine region_nrm fun KK hKK=>?_
 refine wp_region_held_drew (S:=(fun W=>W.cell? ⟨w.heap.size,0,none⟩=some (.int .i64 (p:Int))∧W.cell? ⟨w.heap.size,1,none⟩=some (.int .i64 (q:Int))∧W.cell? ⟨w.heap.size,2,none⟩=some (.int .i64 (r:Int))∧W.cell? ⟨w.heap.size,3,none⟩=some (.slice Av m cv))) (by kernel_rfl) (by first | exact HS.out _ kw) (fun hHeld=>?_)
 refine puA 0 4 (HS.out _ kw) ?_
 refine puA 1 5 (HS.out _ kw) ?_
 refine puA 3 7 (HS.out _ kw) ?_
 refine puA 4 8 (HS.out _ kw) ?_
 refine puA 5 9 (HS.out _ kw) ?_
 refine puA 8 12 (HS.out _ kw) ?_
 refine puA 9 13 (HS.out _ kw) ?_
 refine puA 10 14 (HS.out _ kw) ?_
 refine puR 2 fun K hK=>?_
 go_simp
 refine(G1.out _).mono ?_
 rintro e W1 ⟨D1,d1,rfl,ho1,hb'⟩
 have E:=Hz_ (own_less ho1 (show W0.heap.size≤_ from by simp))
 have kw:=btn kw hb'
 clear ho1 hb'
 refine hK.out _ _ (HS.out _ kw) fun hHeld=>?_
 clear hK K
 refine puR 6 fun K hK=>?_
 go_simp
 refine(G2.out _).mono ?_
 rintro e W2 ⟨D2,d2,rfl,ho1,hb'⟩
 have C:=Hz_ ho1
 have E:=Hz_ (own_below E.out hb' (Nat.le_refl _))
 have kw:=btn kw hb'
 clear ho1 hb'
 refine hK.out _ _ (HS.out _ kw) fun hHeld=>?_
 clear hK K
 refine puR 7 fun K hK=>?_
 rw[if_pos (by kernel_rfl)]
 refine wp_append_rd _ (.tmp 6) (.tmp 10) _ rfl W0.heap.size 5 i0 _ 1 1 Tryz.underlying29 hi0 hz0 hz1 hz2 rfl (by decide) _ lx (bv (Pk.lay p)) rfl E.out _ D2 ly d2 (bv (Pk.lay r)) rfl (Rd.of_own C.out) (bv_oneCell _) h63 (by omega) kw.size ?_
 intro A6 c6 V6 ho hg hat
 have kw:=kw.trans (grown_below hg kw.size (fun g hg'=>(E.out.lt g hg').1))
 have E:=Hz_ ho
 clear ho hg hat C
 refine hK.out _ _ (HS.out _ kw) fun hHeld=>?_
 clear hK K
 refine puR 11 fun K hK=>?_
 go_simp
 refine(G3.out _).mono ?_
 rintro e W3 ⟨D3,d3,rfl,ho1,hb'⟩
 have C:=Hz_ ho1
 have E:=Hz_ (own_below E.out hb' (Nat.le_refl _))
 have kw:=btn kw hb'
 clear ho1 hb'
 refine hK.out _ _ (HS.out _ kw) fun hHeld=>?_
 clear hK K
 refine puR 12 fun K hK=>?_
 rw[if_pos (by kernel_rfl)]
 refine wp_append_rd _ (.tmp 11) (.tmp 15) _ rfl W0.heap.size 5 i0 _ 1 1 Tryz.underlying29 hi0 hz0 hz1 hz2 rfl (by decide) _ (lx+ly) (bv (Pk.lay p)++bv (Pk.lay r)) rfl E.out _ D3 lz d3 (bv (Pk.lay q)) rfl (Rd.of_own C.out) (bv_oneCell _) h63b (by omega) kw.size ?_
 intro A11 c11 V11 ho hg hat
 have kw:=kw.trans (grown_below hg kw.size (fun g hg'=>(E.out.lt g hg').1))
 have E:=Hz_ ho
 clear ho hg hat C
 refine hK.out _ _ (HS.out _ kw) fun hHeld=>?_
 clear hK K
 refine puA 13 3 (HS.out _ kw) ?_
 refine wpAnyH_done (by kernel_rfl) ?_ _
 refine Nrm.out (hKK _ _ ?_)
 obtain⟨q0,q1,q2,q3⟩:=HS.out _ kw
 have GLL:=GL.out _ (btn HB.out kw)
 go_wp2_with (first
  | (go_at_call 108;go_must (refine GLL.mono ?_);rintro e w4 ⟨A4,c4,rfl,ho4,hb4⟩;have E4:=own_below E.out hb4 (Nat.le_refl _);have kw4:=btn kw hb4)
  | (at_builtin;go_must (refine wpList_append_rd _ rfl (.tmp 17) (.tmp 20) _ rfl W0.heap.size 5 i0 _ 1 1 Tryz.underlying29 hi0 hz0 hz1 hz2 rfl (by decide) _ (lx+ly+lz) (bv (Pk.lay p)++bv (Pk.lay r)++bv (Pk.lay q)) rfl E4 _ A4 (ln+m) c4 (bv (Pk.lay m++v)) rfl (Rd.of_own ho4) (bv_oneCell _) h63c (by omega) kw4.size ?_);intro A5 c5 w5 ho5 hg5 hat5;have kw5:=kw4.trans (grown_below hg5 kw4.size (fun g hg'=>(E4.lt g hg').1)))
  | fail)
 go_ret
 obtain⟨ex,ey,ez,en,em⟩:=HLL.out
 have e5:Wq.lB ⟨(p:Int),((q:Int),(r:Int)),v⟩=Pk.lay p++Pk.lay r++Pk.lay q++(Pk.lay m++v):=by simp[Wq.lB,Wq.lR,em]
 have e6:(Wq.lB ⟨(p:Int),((q:Int),(r:Int)),v⟩).length=lx+ly+lz+(ln+m):=by rw[e5];simp only[List.length_append];rw[←ex,←ey,←ez,←en,←em]
 exact⟨.slice A5 (lx+ly+lz+(ln+m)) c5,rfl,A5,c5,by rw[e6],by rw[e6,e5,bv_app,bv_app,bv_app];exact own_less ho5 (by omega),btn HB.out kw5⟩
end Go.Proofs.YtmbeahbgafkjfaaGreatDoor
