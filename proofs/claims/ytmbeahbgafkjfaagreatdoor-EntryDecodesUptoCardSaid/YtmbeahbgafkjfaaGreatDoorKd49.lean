/- Lemmas for the claim, layer 49. -/
import Derived.Test.YtmbeahbgafkjfaaGreatDoorKd47
set_option maxRecDepth 100000
set_option linter.unusedSimpArgs false
set_option maxHeartbeats 16000000
namespace Go.Proofs.YtmbeahbgafkjfaaGreatDoor
open Go.RowKit
theorem entLay_any (A A2:Option Addr) (n c m c2:Nat) (l:List UInt8) (xs:List Int) (w:World) (hl:l.length=n) (hR:Rd w w.heap.size 1 A n c (bv l)) (hx:xs.length=m) (hR2:Rd w w.heap.size 1 A2 m c2 (iv xs))
  (hu:∀x∈xs,Wq.u63 x) (h0:0 < m) (hn:n+9 * m≤140737488355328):
  Calls Tryz.prog 27 #[.slice A n c,.slice A2 m c2] w fun e w'=>∃v,e=.returned v∧BytesAre w.heap.size w (l++layAll xs) v w':=by
 have hmax:m≤9223372036854775807:=by have h1:=hR2.cap;have h2:=hR2.max;unfold maxLen at h2;omega
 have HLA:=Hz_ (layAll_len)
 have HL:=Hz_ hl
 have HX:=Hz_ hx
 have HU:=Hz_ hu
 have HR:=Hz_ hR
 clear hl hu hR
 go_enter Tryz.func27,Tryz.ntmps27
 go_wp2
 go_loopw [0,6,9] (fun v0 _ v9 wr=>∃(k N c':Nat) (A':Option Addr),v9=.int .i64 k∧v0=.slice A' N c'∧k≤m∧N≤n+9 * k∧Rd wr wr.heap.size 1 A' N c' (bv (l++layAll (xs.take k)))∧Below w.heap.size w wr ∧
  Hid ((l++layAll (xs.take k)).length=N∧(0 < k→wr.ownsRow w.heap.size 5 1 (.slice A' N c') N (bv (l++layAll (xs.take k)))))) (fun _ _ v9 _=>m - (intOf v9).toNat)
 case atStart=>exact⟨0,n,c,A,rfl,rfl,by omega,by omega,by simpa[layAll] using HR.out,Below.refl _ _,by simp[layAll,HL.out],fun h=>absurd h (by omega)⟩
 case round=>
  obtain⟨k,N,c',A',rfl,rfl,hk,hN,hR1,hb,hq⟩:=hrel
  have hbs:=hb.size
  by_cases hlt:k < m
  ·have hkx:k < xs.length:=by rw[HX.out];exact hlt
   obtain⟨ad,u,rfl,hab,hu1,hc1⟩:=hR2.at_ hlt
   rw[iv_at xs k hkx] at hu1
   obtain⟨y,hy⟩:∃y:Nat,xs[k]=(y:Int):=⟨xs[k].toNat,by have:=(HU.out _ (List.getElem_mem hkx)).1;omega⟩
   have hylt:y < 9223372036854775808:=by have:=(HU.out _ (List.getElem_mem hkx)).2;omega
   have hy9:=Pk.lay_len9 hylt
   have ht:=layAll_take xs k hkx
   rw[hy,Int.toNat_natCast] at ht
   have HT:=Hz_ ht
   rw[hy] at hu1
   simp only[Option.some.injEq] at hu1
   subst hu1
   have q1:=(hb.cell (p:=ad.add k) (by rw[block_of_add];exact hab)).trans hc1
   have G:=Hz_ (appendNumber_any A' N c' y (l++layAll (xs.take k)) wr hq.out.1 hR1 (by omega) hy9)
   have HY9:=Hz_ hy9
   obtain⟨ly,hly⟩:∃ly,ly=(Pk.lay y).length:=⟨_,rfl⟩
   rw[←hly] at G hy9
   have HLY:=Hz_ hly
   clear hR1 ht hy hkx hylt hly hc1 hR2
   go_wp2_with fail
   refine G.out.mono ?_
   rintro e w2 ⟨A2,c3,rfl,ho2,hb2⟩
   go_wp2
   go_roundw
   case rel=>
    have e1:l++layAll (xs.take (k+1))=l++layAll (xs.take k)++Pk.lay y:=by rw[HT.out,List.append_assoc]
    refine⟨k+1,N+ly,c3,A2,by go_num,rfl,by omega,by omega,by rw[e1];exact Rd.of_own ho2,btn hb hb2,?_,fun _=>?_⟩
    ·rw[e1,List.length_append,hq.out.1,HLY.out]
    ·rw[e1];exact own_less ho2 hbs
   case measure=>simp[intOf];omega
  ·obtain rfl:k=m:=by omega
   clear hR1 hR2
   go_wp2
   go_ret
   have e0:xs.take k=xs:=List.take_of_length_le (by rw[HX.out];exact Nat.le_refl _)
   obtain⟨q1,q2⟩:=hq.out
   have q3:=q2 h0
   rw[e0] at q1 q3
   exact⟨_,rfl,A',c',by rw[q1];rfl,by rw[q1];exact q3,hb⟩
theorem nIs {W:World} {xs:List Int} {m:Nat} (hm:xs.length=m) (h9:m≤9):Rd (W.alloc (.cells (iv xs).toArray 3)) (W.alloc (.cells (iv xs).toArray 3)).heap.size 1 (some ⟨W.heap.size,0,none⟩) m m (iv xs):=by
 rw[World.size_alloc]
 have:=Rd.new W 3 1 m (iv xs).toArray (by simp[iv,hm]) (by unfold maxLen;omega)
 simpa using this
theorem nIs1 {W:World} {x:Int} (_:Below W.heap.size W (W.alloc (.cells #[.int .i64 x] 3))):Rd (W.alloc (.cells #[.int .i64 x] 3)) (W.alloc (.cells #[.int .i64 x] 3)).heap.size 1 (some ⟨W.heap.size,0,none⟩) 1 1 (iv [x]):=nIs (xs:=[x]) rfl (by omega)
theorem one63 {x:Int} (h:Wq.u63 x):∀y∈[x],Wq.u63 y:=fun y hy=>by rw[List.mem_singleton] at hy;rw[hy];exact h
end Go.Proofs.YtmbeahbgafkjfaaGreatDoor
namespace Go.Proofs.YtmbeahbgafkjfaaGreatDoor.Wq
theorem ntC_ntz:ntC ntz:=⟨fun _ h=>(by cases h),fun _ h=>(by cases h),fun _ h=>(by cases h)⟩
theorem EntC.mk0 {k:Int} {n:Nt} {b:Bd} {f:Int} {i:List Sn.Sp} (hn:ntC n) (hb:b.s.1 < 9223372036854775808):EntC ⟨k,n,b,f,i,vw0,[]⟩:=⟨hn,hb,(fun _ h=>by cases h),(fun _ h=>by cases h),(fun _ h=>by cases h),(fun _ h=>by cases h)⟩
theorem decE_al:decE [4,2,1,1,3]=some ⟨4,ntz,bdz,2,[(1,3)],vw0,[]⟩:=by
 have h:=decE_enc (x:=⟨4,ntz,bdz,2,[(1,3)],vw0,[]⟩) (by decide +kernel) (EntC.mk0 ntC_ntz (by decide))
 rw[show lEnt ⟨4,ntz,bdz,2,[(1,3)],vw0,[]⟩=[4,2,1,1,3] by decide +kernel] at h
 exact h
end Go.Proofs.YtmbeahbgafkjfaaGreatDoor.Wq
namespace Go.Proofs.YtmbeahbgafkjfaaGreatDoor
open Go.RowKit
theorem DecE.some_ {w w':World} {l:List UInt8} {e:Ending} {x:Ent} (hd:Wq.decE l=some x) (h:DecE l w e w'):∃u,e=.returned (.tuple #[.agg (eval x u),.int .i64 0])∧(∃L M S,EntRd w' w'.heap.size u x L M S)∧Below w.heap.size w w':=by
 rcases h with ⟨h1,_⟩ | ⟨y,u,h1,h2,h3,h4⟩
 ·rw[hd] at h1;cases h1
 ·rw[hd] at h1;cases h1;exact⟨u,h2,h3,h4⟩
def xal:Ent:=⟨4,Wq.ntz,Wq.bdz,2,[(1,3)],Wq.vw0,[]⟩
def xz0:Ent:=⟨0,Wq.ntz,Wq.bdz,0,[],Wq.vw0,[]⟩
def uz0:EV:=⟨⟨none,0,0,none,0,0,none,0,0,none,0,0⟩,none,0,none,0,⟨none,0,none,0,none,0,none,0⟩,none,0⟩
theorem xz0_rd (w:World) (B:Nat):EntRd w B uz0 xz0 [] [] []:=⟨⟨rfl,Rd.none_,rfl,Rd.none_,rfl,Rd.none_,rfl,Rd.none_⟩,Rd.none_,Rd.none_,⟨Rd.none_,RdZ.none_ _ _,rfl,Rd.none_,RdBs.none_ _ _,rfl⟩,RdSb.none_ _ _,rfl⟩
theorem EntRd.below {w w':World} {B:Nat} {u:EV} {x:Ent} {L:List (ZV×Zn)} {M:List (BV×Wq.Bd)} {S:List (SV×Sb)} (h:EntRd w B u x L M S) (hb:Below B w w'):EntRd w' B u x L M S:=⟨h.nt.below hb,h.bd.below hb,h.it.below hb,h.vw.below hb,h.sb.below hb,h.ns⟩
theorem EntRd.more {w:World} {B B':Nat} {u:EV} {x:Ent} {L:List (ZV×Zn)} {M:List (BV×Wq.Bd)} {S:List (SV×Sb)} (h:EntRd w B u x L M S) (hb:B≤B'):EntRd w B' u x L M S:=⟨h.nt.more hb,h.bd.more hb,h.it.more hb,h.vw.more hb,h.sb.more hb,h.ns⟩
def EntR (w:World) (B:Nat) (u:EV) (x:Ent):Prop:=∃L M S,EntRd w B u x L M S
theorem EntR.below {w w':World} {B:Nat} {u:EV} {x:Ent} (h:EntR w B u x) (hb:Below B w w'):EntR w' B u x:=by
 obtain⟨L,M,S,h⟩:=h;exact⟨L,M,S,h.below hb⟩
theorem EntR.more {w:World} {B B':Nat} {u:EV} {x:Ent} (h:EntR w B u x) (hb:B≤B'):EntR w B' u x:=by
 obtain⟨L,M,S,h⟩:=h;exact⟨L,M,S,h.more hb⟩
theorem EntR.go {w w':World} {u:EV} {x:Ent} (h:EntR w w.heap.size u x) (hb:Below w.heap.size w w'):EntR w' w'.heap.size u x:=(h.below hb).more hb.size
end Go.Proofs.YtmbeahbgafkjfaaGreatDoor
