/- Lemmas for the claim, layer 28. -/
import Derived.Test.YtmbeahbgafkjfaaGreatDoorKc09
import Derived.Test.YtmbeahbgafkjfaaGreatDoorKc27
set_option maxRecDepth 100000
set_option maxHeartbeats 16000000
namespace Go.Proofs.YtmbeahbgafkjfaaGreatDoor
open Go.RowKit
theorem appendBody_no (A:Option Addr) (n c:Nat) (x:Wq.Bd) (Av:Option Addr) (cv:Nat) (w:World) (hf:Wq.bdF x=false):
  Calls Tryz.prog 29 #[.slice A n c,.agg (bval x Av cv)] w fun e w'=>e=.returned (.tuple #[.slice none 0 0,.int .i64 1])/\Below w.heap.size w w':=by
 have hb0:Below w.heap.size w (w.alloc (.cells (bval x Av cv) 31)):=Zr.alloc Zl _;have G1:=bodyRight_any x Av cv (w.alloc (.cells (bval x Av cv) 31));rw[hf] at G1;unfold bval at G1 hb0 ⊢;have G1:=Hz_ G1;have HB:=Hz_ hb0;clear hf hb0;go_enter Tryz.func29,Tryz.ntmps29;go_wp2_with (go_at_call 104;go_must (refine G1.out.mono ?_);rintro e w1 ⟨rfl,hb1⟩);go_ret2;exact⟨rfl,btn HB.out hb1⟩
theorem appendBody_any (A:Option Addr) (n c:Nat) (l:List UInt8) (x:Wq.Bd) (Av:Option Addr) (cv:Nat) (w:World) (hl:l.length=n) (hR:Rd w w.heap.size 1 A n c (bv l)) (hR2:Rd w w.heap.size 1 Av x.v.length cv (bv x.v)) (hf:Wq.bdF x=true) (hc:x.s.1 < 9223372036854775808) (hn:n+2400<=140737488355328):
  Calls Tryz.prog 29 #[.slice A n c,.agg (bval x Av cv)] w fun e w'=>∃v,e=.returned (.tuple #[v,.int .i64 0])/\BytesAre w.heap.size w (l++Wq.lB x) v w':=by
 obtain⟨f1,f2,f3,f4,f5,f6⟩:=(Wq.bdF_iff x).1 hf;have hb0:Below w.heap.size w (w.alloc (.cells (bval x Av cv) 31)):=Zr.alloc Zl _;have hX:=Blk.new w 31 (bval x Av cv);have G1:=bodyRight_any x Av cv (w.alloc (.cells (bval x Av cv) 31));rw[hf] at G1;have h3max:3<=maxLen:=by unfold maxLen;omega
 have hu3:∀z∈[x.o,x.s.2,x.s.1],Wq.u63 z:=by
  intro z hz;simp only[List.mem_cons,List.not_mem_nil,or_false] at hz;rcases hz with rfl | rfl | rfl
  ·exact⟨f1,by omega⟩
  ·exact⟨f4,by omega⟩
  ·exact⟨by omega,hc⟩
 have G2:=Hz_ fun (W:World) (D:Option Addr) (d:Nat) (h1:Rd W W.heap.size 1 A n c (bv l)) (h2:Rd W W.heap.size 1 D 3 d (iv [x.o,x.s.2,x.s.1]))=>lay_any A D n c 3 d l [x.o,x.s.2,x.s.1] W hl h1 rfl h2 hu3 (by omega) (by omega);have hE:=layAll_len [x.o,x.s.2,x.s.1] hu3;have hl3:(l++layAll [x.o,x.s.2,x.s.1]).length<=n+27:=by rw[List.length_append,hl];simp at hE;omega
 have HL3:=Hz_ (show (l++layAll [x.o,x.s.2,x.s.1])++Pk.lay x.v.length++x.v=l++Wq.lB x by unfold Wq.lB Wq.lR;simp[layAll]);obtain⟨l3,hl3e⟩:∃q,q=l++layAll [x.o,x.s.2,x.s.1]:=⟨_,rfl⟩;rw[<-hl3e] at G2 hl3 HL3;have G3:=Hz_ fun (W:World) (D:Option Addr) (d:Nat) (h1:Rd W W.heap.size 1 D l3.length d (bv l3)) (h2:Rd W W.heap.size 1 Av x.v.length cv (bv x.v))=>appendRow_any D Av l3.length d x.v.length cv l3 x.v W rfl h1 h2 (by omega);obtain⟨o,⟨ct,nd⟩,v⟩:=x;dsimp only at *;unfold bval at G1 hb0 hX ⊢;dsimp only at G1 hb0 hX ⊢;have HR:=Hz_ (hR.go hb0);have HR2:=Hz_ (hR2.go hb0);have G1:=Hz_ G1;have HB:=Hz_ hb0;have HX:=Hz_ hX;clear hl hR hR2 hf hc f1 f2 f3 f4 f5 f6 hu3 hE hl3e hb0 hX;go_enter Tryz.func29,Tryz.ntmps29;go_wp2_with (go_at_call 104;go_must (refine G1.out.mono ?_);rintro e w1 ⟨rfl,hb1⟩);obtain⟨q0,q1,q2,q3⟩:w1.drew.cell? ⟨w.heap.size,0,none⟩=some (.int .i64 o)/\w1.drew.cell? ⟨w.heap.size,1,none⟩=some (.int .i64 ct)/\w1.drew.cell? ⟨w.heap.size,2,none⟩=some (.int .i64 nd)/\w1.drew.cell? ⟨w.heap.size,3,none⟩=some (.slice Av v.length cv):=(HX.out.go hb1).four;have HXX:=Hz_ (show Blk w1 w.heap.size 31 #[.int .i64 o,.int .i64 ct,.int .i64 nd,.slice Av v.length cv] from HX.out.go hb1);have HR1:=Hz_ (HR.out.go hb1);have HS1:=Hz_ (HR2.out.go hb1);have HB1:=Hz_ (btn HB.out hb1);have hs1:=HB1.out.size;have HBD:=Hz_ (show Below w1.heap.size w1 (w1.alloc (.cells #[.int .i64 o,.int .i64 nd,.int .i64 ct] 3)).drew from (Zr.alloc Zl _).drew);have HRn:=Hz_ (show Rd (w1.alloc (.cells #[.int .i64 o,.int .i64 nd,.int .i64 ct] 3)).drew (w1.heap.size+1) 1 (some ⟨w1.heap.size,0,none⟩) 3 3 (iv [o,nd,ct]) from (Rd.new w1 3 1 3 #[.int .i64 o,.int .i64 nd,.int .i64 ct] rfl h3max).drew);refine region_nrm fun K hK=>?_;go_region_held3 (fun w'=>w'.cell? ⟨w.heap.size,0,none⟩=some (.int .i64 o)/\w'.cell? ⟨w.heap.size,1,none⟩=some (.int .i64 ct)/\w'.cell? ⟨w.heap.size,2,none⟩=some (.int .i64 nd)/\w'.cell? ⟨w.heap.size,3,none⟩=some (.slice Av v.length cv)) (first | exact⟨u0,u1,u2,u3⟩ | exact⟨t0,t1,t2,t3⟩ | exact⟨q0,q1,q2,q3⟩ | exact(HXX.out.go HBD.out).four | go_keep) (first
  | (go_at_call 103;go_must (refine(G2.out _ _ _ (HR1.out.go HBD.out) (by have h:=HRn.out;exact h.more (by simp))).mono ?_);rintro e w2 ⟨v2,rfl,A2,c2,rfl,ho2,hb2⟩;obtain⟨t0,t1,t2,t3⟩:=((HXX.out.go HBD.out).go hb2).four)
  | (go_at_call 105;go_must (refine(G3.out _ _ _ (Rd.of_own ho2) ((HS1.out.go HBD.out).go hb2)).mono ?_);rintro e w3 ⟨A3,c3,rfl,ho3,hb3⟩;obtain⟨u0,u1,u2,u3⟩:=(((HXX.out.go HBD.out).go hb2).go hb3).four))
 refine Nrm.out (hK _ _ ?_);go_wp2;go_ret2;have hlen:(l++Wq.lB ⟨o,(ct,nd),v⟩).length=l3.length+(Pk.lay v.length).length+v.length:=by rw[<-HL3.out,List.length_append,List.length_append]
 refine⟨_,rfl,A3,c3,by rw[hlen]<;>rfl,?_,below_then (below_then (btn HB1.out HBD.out) Zl hb2) Zl hb3⟩;rw[hlen,<-HL3.out];exact own_less ho3 (by have:=hb2.size;simp at this;omega)
theorem lV_take (sp:List Vc.St) (k:Nat) (h:k < sp.length):Wq.lP ((sp.take (k+1)).map Wq.sw)=Wq.lP ((sp.take k).map Wq.sw)++layAll [sp[k].2,sp[k].1]:=by
 unfold Wq.lP;rw[List.take_succ_eq_append_getElem h,List.map_append,List.flatMap_append];simp[layAll,Wq.sw]
theorem fm_u63s {sp:List Vc.St} (hf:fm (-1) sp=true) (hc:Wq.cts sp):∀s∈sp,Wq.u63 s.2/\Wq.u63 s.1:=fun s hs=>Wq.fm_sw hf hc (Wq.sw s) (List.mem_map_of_mem hs)
theorem appendVec_any (A D:Option Addr) (n c m d:Nat) (l:List UInt8) (sp:List Vc.St) (w:World) (hl:l.length=n) (hR:Rd w w.heap.size 1 A n c (bv l)) (hl2:sp.length=m) (hR2:Rd w w.heap.size 2 D m d (sv sp)) (hf:fm (-1) sp=true) (hc:Wq.cts sp) (hn:n+2400<=140737488355328):
  Calls Tryz.prog 102 #[.slice A n c,.slice D m d] w fun e w'=>∃v,e=.returned (.tuple #[v,.int .i64 0])/\BytesAre w.heap.size w (l++Wq.lV sp) v w':=by
 have H1:=formed_any D m d sp w hl2 hR2;rw[hf] at H1;have G1:=Hz_ H1;have hm:=Wq.fm_len hf;rw[hl2] at hm;have HU:=Hz_ (fm_u63s hf hc);have HL2:=Hz_ hl2;have HR:=Hz_ hR;have HL:=Hz_ hl;have hum:Wq.u63 (m:Int):=⟨by omega,by omega⟩;have h1max:1<=maxLen:=by unfold maxLen;omega
 have h2max:2<=maxLen:=by unfold maxLen;omega
 clear H1 hl2 hR hl hf;go_enter Tryz.func102,Tryz.ntmps102;go_wp2_with fail;refine G1.out.mono ?_;rintro e w1 ⟨rfl,hb1⟩;have hs1:=hb1.size;have hbA:Below w.heap.size w (w1.alloc (.cells #[.int .i64 m] 3)):=hb1.alloc hs1 _;have hRn:=Rd.new w1 3 1 1 #[.int .i64 m] rfl h1max;have hRb:=HR.out.go hbA;have G2:=Hz_ (lay_any A (some ⟨w1.heap.size,0,none⟩) n c 1 1 l [(m:Int)] (w1.alloc (.cells #[.int .i64 m] 3)) HL.out hRb rfl (by rw[World.size_alloc];exact hRn) (by simpa using hum) (by omega) (by omega));clear G1 hRn hRb hb1;go_wp2_with fail;refine G2.out.mono ?_;rintro e w2 ⟨v2,rfl,A2,c2,rfl,ho2,hb2⟩;have hbw2:=btn hbA hb2;have HHL:=Hz_ (show (l++layAll [(m:Int)]).length<=n+9 by
  rw[List.length_append,HL.out];have:=layAll_len [(m:Int)] (by simpa using hum);simp at this;omega)
 obtain⟨l2,hl2⟩:∃l2,l2=l++layAll [(m:Int)]:=⟨_,rfl⟩;rw[<-hl2] at ho2 HHL;obtain⟨n2,hn2⟩:∃n2,n2=l2.length:=⟨_,rfl⟩;rw[<-hn2] at ho2 HHL;have hn2le:=HHL.out;have HL22:=Hz_ hl2;have HN2:=Hz_ hn2;rw[<-hl2,<-hn2];clear G2 hb2 hbA hl2 hn2;go_wp2_with fail;go_loopw [6,8,19] (fun v6 _ v19 wr=>∃(k N c':Nat) (A':Option Addr),v19=.int .i64 k/\v6=.slice A' N c'/\k<=m/\N<=n2+18 * k/\wr.ownsRow w.heap.size 5 1 (.slice A' N c') N (bv (l2++Wq.lP ((sp.take k).map Wq.sw)))/\Below w.heap.size w wr /\
  Hid ((l2++Wq.lP ((sp.take k).map Wq.sw)).length=N)) (fun _ _ v19 _=>m - (intOf v19).toNat)
 case atStart=>exact⟨0,n2,c2,A2,rfl,rfl,by omega,by omega,by simpa[Wq.lP] using own_less ho2 (by simp;omega),hbw2,by show _=_;simp[Wq.lP,HN2.out]⟩
 case round=>
  obtain⟨k,N,c',A',rfl,rfl,hk,hN,ho,hb,hq⟩:=hrel;have hbs:=hb.size;have HO:=Hz_ ho;by_cases hlt:k < m
  ·have hks:k < sp.length:=by rw[HL2.out];exact hlt
   obtain⟨b,o,rfl,hab,g0,g1⟩:=hR2.stamp HL2.out hlt;have h0:=(hb.cell (p:=⟨b,o+k * 2,none⟩) hab).trans g0;have h1:=(hb.cell (p:=⟨b,o+k * 2+1,none⟩) hab).trans g1;have HT:=Hz_ (lV_take sp k hks);have HUk:=Hz_ (HU.out _ (List.getElem_mem hks));generalize hlo:(sp[k]'hks).1=hi at h0 g0 HT HUk;generalize hhi:(sp[k]'hks).2=lo at h1 g1 HT HUk;have hbA:Below w.heap.size w ((wr.alloc (.cells #[.int .i64 hi,.int .i64 lo] 28)).alloc (.cells #[.int .i64 lo,.int .i64 hi] 3)):=(hb.alloc hbs _).alloc (by simp;omega) _;have hRn:=Rd.new (wr.alloc (.cells #[.int .i64 hi,.int .i64 lo] 28)) 3 1 2 #[.int .i64 lo,.int .i64 hi] rfl h2max;have hRb:=((Rd.of_own ho).alloc Zl (.cells #[.int .i64 hi,.int .i64 lo] 28)).alloc (by simp) (.cells #[.int .i64 lo,.int .i64 hi] 3);have hu2:∀x∈[lo,hi],Wq.u63 x:=by
    intro x hx;simp only[List.mem_cons,List.not_mem_nil,or_false] at hx;rcases hx with rfl | rfl
    ·exact HUk.out.1
    ·exact HUk.out.2
   have G3:=Hz_ (lay_any A' (some ⟨wr.heap.size+1,0,none⟩) N c' 2 2 (l2++Wq.lP ((sp.take k).map Wq.sw)) [lo,hi] _ hq.out (hRb.more (by simp;omega)) rfl (by rw[World.size_alloc] at hRn;rw[World.size_alloc,World.size_alloc];exact hRn) hu2 (by omega) (by omega));have HE:=Hz_ (layAll_len [lo,hi] hu2);have HBA:=Hz_ hbA;clear hlo hhi ho hRn hRb hu2 hks hb hbA g0 g1 hR2 HUk;go_wp2_with fail;refine G3.out.mono ?_;rintro e w3 ⟨v3,rfl,A3,c3,rfl,ho3,hb3⟩;have hb4:=btn HBA.out hb3;have e1:l2++Wq.lP ((sp.take k).map Wq.sw)++layAll [lo,hi]=l2++Wq.lP ((sp.take (k+1)).map Wq.sw):=by rw[HT.out,List.append_assoc]
   have hlen:(l2++Wq.lP ((sp.take k).map Wq.sw)++layAll [lo,hi]).length<=N+18:=by
    have:=HE.out;rw[List.length_append,hq.out];simp at this;omega
   obtain⟨N3,hN3⟩:∃N3,N3=(l2++Wq.lP ((sp.take k).map Wq.sw)++layAll [lo,hi]).length:=⟨_,rfl⟩;rw[<-hN3] at ho3 hlen ⊢;rw[e1] at hN3 ho3;have HN3:=Hz_ hN3;clear G3 hb3 e1 hN3;go_wp2;go_roundw
   case rel=>
    exact⟨k+1,N3,c3,A3,by go_num,rfl,by omega,by omega,own_less ho3 (by simp;omega),hb4,HN3.out.symm⟩
   case measure=>simp[intOf];omega
  ·obtain rfl:k=m:=by omega
   clear hR2 ho;go_wp2;go_ret2;have e0:sp.take k=sp:=List.take_of_length_le (by rw[HL2.out];exact Nat.le_refl _);have q1:=hq.out;have q3:=HO.out;rw[e0,HL22.out] at q1 q3;have e2:l++layAll [(k:Int)]++Wq.lP (sp.map Wq.sw)=l++Wq.lV sp:=by
    unfold Wq.lV;rw[HL2.out];simp[layAll]
   rw[e2] at q1 q3;exact⟨_,rfl,A',c',by rw[q1];rfl,by rw[q1];exact q3,hb⟩
theorem lV_len {v:List Vc.St} (h:fm (-1) v=true) (hc:Wq.cts v):(Wq.lV v).length<=1161:=by
 have h1:=Wq.fm_len h;have h3:(Pk.lay v.length).length<=9:=Pk.lay_len9 (by omega);have h2:∀u:List (Int×Int),(∀s∈u,Wq.u63 s.1/\Wq.u63 s.2)->(Wq.lP u).length<=18 * u.length:=by
  intro u
  induction u with
  | nil=>intro _;simp[Wq.lP]
  | cons s r ih=>
   intro hs;have a:=hs s (by simp);have a1:=u63_len a.1;have a2:=u63_len a.2;have a3:=ih fun t ht=>hs t (by simp[ht]);rw[Wq.lP_cons,List.length_append,List.length_append,List.length_cons];omega
 have h4:=h2 (v.map Wq.sw) (Wq.fm_sw h hc);rw[List.length_map] at h4;unfold Wq.lV;rw[List.length_append];omega
end Go.Proofs.YtmbeahbgafkjfaaGreatDoor
