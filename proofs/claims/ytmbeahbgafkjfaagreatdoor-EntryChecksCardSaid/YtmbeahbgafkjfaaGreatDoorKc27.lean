/- Lemmas for the claim, layer 27. -/
import Derived.Test.YtmbeahbgafkjfaaGreatDoorKc06
set_option maxRecDepth 100000
set_option maxHeartbeats 16000000
namespace Go.Proofs.YtmbeahbgafkjfaaGreatDoor
open Go.RowKit
def iv (l:List Int):List Value:=l.map fun x=>.int .i64 x
theorem iv_at (l:List Int) (k:Nat) (h:k < l.length):(iv l)[k]?=some (.int .i64 l[k]):=by simp[iv,List.getElem?_map,List.getElem?_eq_getElem h]
def layAll (xs:List Int):List UInt8:=xs.flatMap fun x=>Pk.lay x.toNat
theorem layAll_take (xs:List Int) (k:Nat) (h:k < xs.length):layAll (xs.take (k+1))=layAll (xs.take k)++Pk.lay (xs[k]).toNat:=by
 unfold layAll;rw[List.take_succ_eq_append_getElem h,List.flatMap_append];simp
theorem layAll_cons (x:Int) (xs:List Int):layAll (x :: xs)=Pk.lay x.toNat++layAll xs:=by simp[layAll]
theorem u63_len {x:Int} (h:Wq.u63 x):(Pk.lay x.toNat).length<=9:=Pk.lay_len9 (by have:=h.1;have:=h.2;omega)
theorem layAll_len:∀(xs:List Int),(∀x∈xs,Wq.u63 x)->(layAll xs).length<=9 * xs.length
 | [],_=>by simp[layAll]
 | x :: r,h=>by
  have:=layAll_len r fun y hy=>h y (by simp[hy]);have:=u63_len (h x (by simp));rw[layAll_cons,List.length_append,List.length_cons];omega
def BytesAre (base:Nat) (w:World) (bs:List UInt8) (v:Value) (w':World):Prop:=
 ∃A' c',v=.slice A' bs.length c'/\w'.ownsRow base 5 1 (.slice A' bs.length c') bs.length (bv bs)/\Below base w w'
theorem lay_any (A A2:Option Addr) (n c m c2:Nat) (l:List UInt8) (xs:List Int) (w:World) (hl:l.length=n) (hR:Rd w w.heap.size 1 A n c (bv l)) (hx:xs.length=m) (hR2:Rd w w.heap.size 1 A2 m c2 (iv xs))
  (hu:∀x∈xs,Wq.u63 x) (h0:0 < m) (hn:n+9 * m<=140737488355328):
  Calls Tryz.prog 103 #[.slice A n c,.slice A2 m c2] w fun e w'=>∃v,e=.returned v/\BytesAre w.heap.size w (l++layAll xs) v w':=by
 have hmax:m<=9223372036854775807:=by have h1:=hR2.cap;have h2:=hR2.max;unfold maxLen at h2;omega
 have HLA:=Hz_ (layAll_len);have HL:=Hz_ hl;have HX:=Hz_ hx;have HU:=Hz_ hu;have HR:=Hz_ hR;clear hl hu hR;go_enter Tryz.func103,Tryz.ntmps103;go_wp2;go_loopw [0,6,9] (fun v0 _ v9 wr=>∃(k N c':Nat) (A':Option Addr),v9=.int .i64 k/\v0=.slice A' N c'/\k<=m/\N<=n+9 * k/\Rd wr wr.heap.size 1 A' N c' (bv (l++layAll (xs.take k)))/\Below w.heap.size w wr /\
  Hid ((l++layAll (xs.take k)).length=N/\(0 < k->wr.ownsRow w.heap.size 5 1 (.slice A' N c') N (bv (l++layAll (xs.take k)))))) (fun _ _ v9 _=>m - (intOf v9).toNat)
 case atStart=>exact⟨0,n,c,A,rfl,rfl,by omega,by omega,by simpa[layAll] using HR.out,Below.refl _ _,by simp[layAll,HL.out],fun h=>absurd h (by omega)⟩
 case round=>
  obtain⟨k,N,c',A',rfl,rfl,hk,hN,hR1,hb,hq⟩:=hrel;have hbs:=hb.size;by_cases hlt:k < m
  ·have hkx:k < xs.length:=by rw[HX.out];exact hlt
   obtain⟨ad,u,rfl,hab,hu1,hc1⟩:=hR2.at_ hlt;rw[iv_at xs k hkx] at hu1;obtain⟨y,hy⟩:∃y:Nat,xs[k]=(y:Int):=⟨xs[k].toNat,by have:=(HU.out _ (List.getElem_mem hkx)).1;omega⟩;have hylt:y < 9223372036854775808:=by have:=(HU.out _ (List.getElem_mem hkx)).2;omega
   have hy9:=Pk.lay_len9 hylt;have ht:=layAll_take xs k hkx;rw[hy,Int.toNat_natCast] at ht;have HT:=Hz_ ht;rw[hy] at hu1;simp only[Option.some.injEq] at hu1;subst hu1;have q1:=(hb.cell (p:=ad.add k) (by rw[block_of_add];exact hab)).trans hc1;have G:=Hz_ (appendNumber_any A' N c' y (l++layAll (xs.take k)) wr hq.out.1 hR1 (by omega) hy9);have HY9:=Hz_ hy9;obtain⟨ly,hly⟩:∃ly,ly=(Pk.lay y).length:=⟨_,rfl⟩;rw[<-hly] at G hy9;have HLY:=Hz_ hly;clear hR1 ht hy hkx hylt hly hc1 hR2;go_wp2_with fail;refine G.out.mono ?_;rintro e w2 ⟨A2,c3,rfl,ho2,hb2⟩;go_wp2;go_roundw
   case rel=>
    have e1:l++layAll (xs.take (k+1))=l++layAll (xs.take k)++Pk.lay y:=by rw[HT.out,List.append_assoc]
    refine⟨k+1,N+ly,c3,A2,by go_num,rfl,by omega,by omega,by rw[e1];exact Rd.of_own ho2,btn hb hb2,?_,fun _=>?_⟩
    ·rw[e1,List.length_append,hq.out.1,HLY.out]
    ·rw[e1];exact own_less ho2 hbs
   case measure=>simp[intOf];omega
  ·obtain rfl:k=m:=by omega
   clear hR1 hR2;go_wp2;go_ret;have e0:xs.take k=xs:=List.take_of_length_le (by rw[HX.out];exact Nat.le_refl _);obtain⟨q1,q2⟩:=hq.out;have q3:=q2 h0;rw[e0] at q1 q3;exact⟨_,rfl,A',c',by rw[q1];rfl,by rw[q1];exact q3,hb⟩
theorem lS_take (sp:List Sn.Sp) (k:Nat) (h:k < sp.length):Wq.lP (sp.take (k+1))=Wq.lP (sp.take k)++layAll [sp[k].1,sp[k].2]:=by
 unfold Wq.lP;rw[List.take_succ_eq_append_getElem h,List.flatMap_append];simp[layAll]
theorem appendSet_any (A D:Option Addr) (n c m d:Nat) (l:List UInt8) (sp:List Sn.Sp) (w:World) (hl:l.length=n) (hR:Rd w w.heap.size 1 A n c (bv l)) (hl2:sp.length=m) (hR2:Rd w w.heap.size 2 D m d (sv sp)) (hf:Sn.fmS (-2) sp=true) (hn:n+2400<=140737488355328):
  Calls Tryz.prog 30 #[.slice A n c,.slice D m d] w fun e w'=>∃v,e=.returned (.tuple #[v,.int .i64 0])/\BytesAre w.heap.size w (l++Wq.lS sp) v w':=by
 have H1:=formedS_any D m d sp w hl2 hR2;rw[hf] at H1;have G1:=Hz_ H1;have hm:=Sn.fmS_128 hf;rw[hl2] at hm;have HU:=Hz_ (Wq.fmS_u63 hf);have HL2:=Hz_ hl2;have HR:=Hz_ hR;have HL:=Hz_ hl;have hum:Wq.u63 (m:Int):=⟨by omega,by omega⟩;have h1max:1<=maxLen:=by unfold maxLen;omega
 have h2max:2<=maxLen:=by unfold maxLen;omega
 clear H1 hl2 hR hl hf;go_enter Tryz.func30,Tryz.ntmps30;go_wp2_with fail;refine G1.out.mono ?_;rintro e w1 ⟨rfl,hb1⟩;have hs1:=hb1.size;have hbA:Below w.heap.size w (w1.alloc (.cells #[.int .i64 m] 3)):=hb1.alloc hs1 _;have hRn:=Rd.new w1 3 1 1 #[.int .i64 m] rfl h1max;have hRb:=HR.out.go hbA;have G2:=Hz_ (lay_any A (some ⟨w1.heap.size,0,none⟩) n c 1 1 l [(m:Int)] (w1.alloc (.cells #[.int .i64 m] 3)) HL.out hRb rfl (by rw[World.size_alloc];exact hRn) (by simpa using hum) (by omega) (by omega));clear G1 hRn hRb hb1;go_wp2_with fail;refine G2.out.mono ?_;rintro e w2 ⟨v2,rfl,A2,c2,rfl,ho2,hb2⟩;have hbw2:=btn hbA hb2;have HHL:=Hz_ (show (l++layAll [(m:Int)]).length<=n+9 by
  rw[List.length_append,HL.out];have:=layAll_len [(m:Int)] (by simpa using hum);simp at this;omega)
 obtain⟨l2,hl2⟩:∃l2,l2=l++layAll [(m:Int)]:=⟨_,rfl⟩;rw[<-hl2] at ho2 HHL;obtain⟨n2,hn2⟩:∃n2,n2=l2.length:=⟨_,rfl⟩;rw[<-hn2] at ho2 HHL;have hn2le:=HHL.out;have HL22:=Hz_ hl2;have HN2:=Hz_ hn2;rw[<-hl2,<-hn2];clear G2 hb2 hbA hl2 hn2;go_wp2_with fail;go_loopw [6,8,19] (fun v6 _ v19 wr=>∃(k N c':Nat) (A':Option Addr),v19=.int .i64 k/\v6=.slice A' N c'/\k<=m/\N<=n2+18 * k/\wr.ownsRow w.heap.size 5 1 (.slice A' N c') N (bv (l2++Wq.lP (sp.take k)))/\Below w.heap.size w wr /\
  Hid ((l2++Wq.lP (sp.take k)).length=N)) (fun _ _ v19 _=>m - (intOf v19).toNat)
 case atStart=>exact⟨0,n2,c2,A2,rfl,rfl,by omega,by omega,by simpa[Wq.lP] using own_less ho2 (by simp;omega),hbw2,by show _=_;simp[Wq.lP,HN2.out]⟩
 case round=>
  obtain⟨k,N,c',A',rfl,rfl,hk,hN,ho,hb,hq⟩:=hrel;have hbs:=hb.size;have HO:=Hz_ ho;by_cases hlt:k < m
  ·have hks:k < sp.length:=by rw[HL2.out];exact hlt
   obtain⟨b,o,rfl,hab,g0,g1⟩:=hR2.stamp HL2.out hlt;have h0:=(hb.cell (p:=⟨b,o+k * 2,none⟩) hab).trans g0;have h1:=(hb.cell (p:=⟨b,o+k * 2+1,none⟩) hab).trans g1;have HT:=Hz_ (lS_take sp k hks);have HUk:=Hz_ (HU.out _ (List.getElem_mem hks));generalize hlo:(sp[k]'hks).1=lo at h0 g0 HT HUk;generalize hhi:(sp[k]'hks).2=hi at h1 g1 HT HUk;have hbA:Below w.heap.size w ((wr.alloc (.cells #[.int .i64 lo,.int .i64 hi] 63)).alloc (.cells #[.int .i64 lo,.int .i64 hi] 3)):=(hb.alloc hbs _).alloc (by simp;omega) _;have hRn:=Rd.new (wr.alloc (.cells #[.int .i64 lo,.int .i64 hi] 63)) 3 1 2 #[.int .i64 lo,.int .i64 hi] rfl h2max;have hRb:=((Rd.of_own ho).alloc Zl (.cells #[.int .i64 lo,.int .i64 hi] 63)).alloc (by simp) (.cells #[.int .i64 lo,.int .i64 hi] 3);have hu2:∀x∈[lo,hi],Wq.u63 x:=by
    intro x hx;simp only[List.mem_cons,List.not_mem_nil,or_false] at hx;rcases hx with rfl | rfl
    ·exact HUk.out.1
    ·exact HUk.out.2
   have G3:=Hz_ (lay_any A' (some ⟨wr.heap.size+1,0,none⟩) N c' 2 2 (l2++Wq.lP (sp.take k)) [lo,hi] _ hq.out (hRb.more (by simp;omega)) rfl (by rw[World.size_alloc] at hRn;rw[World.size_alloc,World.size_alloc];exact hRn) hu2 (by omega) (by omega));have HE:=Hz_ (layAll_len [lo,hi] hu2);have HBA:=Hz_ hbA;clear hlo hhi ho hRn hRb hu2 hks hb hbA g0 g1 hR2 HUk;go_wp2_with fail;refine G3.out.mono ?_;rintro e w3 ⟨v3,rfl,A3,c3,rfl,ho3,hb3⟩;have hb4:=btn HBA.out hb3;have e1:l2++Wq.lP (sp.take k)++layAll [lo,hi]=l2++Wq.lP (sp.take (k+1)):=by rw[HT.out,List.append_assoc]
   have hlen:(l2++Wq.lP (sp.take k)++layAll [lo,hi]).length<=N+18:=by
    have:=HE.out;rw[List.length_append,hq.out];simp at this;omega
   obtain⟨N3,hN3⟩:∃N3,N3=(l2++Wq.lP (sp.take k)++layAll [lo,hi]).length:=⟨_,rfl⟩;rw[<-hN3] at ho3 hlen ⊢;rw[e1] at hN3 ho3;have HN3:=Hz_ hN3;clear G3 hb3 e1 hN3;go_wp2;go_roundw
   case rel=>
    exact⟨k+1,N3,c3,A3,by go_num,rfl,by omega,by omega,own_less ho3 (by simp;omega),hb4,HN3.out.symm⟩
   case measure=>simp[intOf];omega
  ·obtain rfl:k=m:=by omega
   clear hR2 ho;go_wp2;go_ret2;have e0:sp.take k=sp:=List.take_of_length_le (by rw[HL2.out];exact Nat.le_refl _);have q1:=hq.out;have q3:=HO.out;rw[e0,HL22.out] at q1 q3;have e2:l++layAll [(k:Int)]++Wq.lP sp=l++Wq.lS sp:=by
    unfold Wq.lS;rw[HL2.out];simp[layAll]
   rw[e2] at q1 q3;exact⟨_,rfl,A',c',by rw[q1];rfl,by rw[q1];exact q3,hb⟩
end Go.Proofs.YtmbeahbgafkjfaaGreatDoor
