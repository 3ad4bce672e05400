/- Lemmas for the claim, layer 11. -/
import Derived.Test.YtmbeahbgafkjfaaGreatDoorKq10
set_option maxRecDepth 100000
set_option maxHeartbeats 16000000
namespace Go.Proofs.YtmbeahbgafkjfaaGreatDoor
open Go.RowKit
theorem results_cell_tmp {P:Program} {fn:Func} {p q:Tmp} {ty:TypeId} (h:fn.results=#[.cell p ty,.tmp q]) (tmps:Array Value) (w:World) (g:Nat) (t:TypeId) (cs:Array Value) (fr:Nat×Nat) (d:TypeDesc)
  (hp:tmps.getD p undef=.pointer (some ⟨g,0,none⟩)) (hg:w.heap[g]?=some (.cells cs t fr))
  (hu:P.underlying ty=some d) (hd:(match d with | .struct _ | .array _ _=>true | _=>false)=true) (hi:(P.info? ty).map (·.size)=some cs.size):
  (results fn tmps).run P w=.ok (.tuple #[.agg cs,tmps.getD q undef]) w:=by
 have hp':tmps[p]?.getD undef=.pointer (some ⟨g,0,none⟩):=by simpa using hp
 simp[results,h,hp',asAddr,run_loadVar_row w g t ty cs fr d hg hu hd hi]
structure NtOwn (w:World) (base:Nat) (v:NV) (x:Nt):Prop where
 l1:x.s.length=v.n1
 o1:w.ownsRow base 28 2 (.slice v.A1 v.n1 v.c1) v.n1 (sv x.s)
 l2:x.e.length=v.n2
 o2:w.ownsRow base 28 2 (.slice v.A2 v.n2 v.c2) v.n2 (sv x.e)
 l3:x.b.length=v.n3
 o3:w.ownsRow base 63 2 (.slice v.A3 v.n3 v.c3) v.n3 (sv x.b)
 l4:x.w.length=v.n4
 o4:w.ownsRow base 70 4 (.slice v.A4 v.n4 v.c4) v.n4 (wv x.w)
theorem NtOwn.rd {w:World} {base:Nat} {v:NV} {x:Nt} (h:NtOwn w base v x):NtRd w w.heap.size v x:=⟨h.l1,Rd.of_own h.o1,h.l2,Rd.of_own h.o2,h.l3,Rd.of_own h.o3,h.l4,Rd.of_own h.o4⟩
theorem NtOwn.below {w w':World} {base:Nat} {v:NV} {x:Nt} (h:NtOwn w base v x) (hb:Below w.heap.size w w'):NtOwn w' base v x:=
 ⟨h.l1,own_below h.o1 hb (Nat.le_refl _),h.l2,own_below h.o2 hb (Nat.le_refl _),h.l3,own_below h.o3 hb (Nat.le_refl _),h.l4,own_below h.o4 hb (Nat.le_refl _)⟩
theorem own_blk {w:World} {base g:Nat} {e t:TypeId} {size n:Nat} {v:Value} {xs:List Value} {cs:Array Value} (h:w.ownsRow base e size v n xs) (hg:Blk w g t cs) (he:e≠t):v.ownBlock=none∨v.ownBlock≠some g:=by
 rcases h.2 with ⟨rfl,_⟩ | ⟨g',cap,cur,rfl,_,hh,_⟩
 ·exact .inl rfl
 ·refine .inr fun e'=>?_
  obtain rfl:g'=g:=by simpa[Value.ownBlock] using e'
  unfold Blk at hg
  rw[hh] at hg
  injection hg with hg
  injection hg with _ h2
  exact he h2
def bval (x:Wq.Bd) (A:Option Addr) (c:Nat):Array Value:=#[.int .i64 x.o,.int .i64 x.s.1,.int .i64 x.s.2,.slice A x.v.length c]
theorem bodyRight_any (x:Wq.Bd) (A:Option Addr) (c:Nat) (w:World):
  Calls Tryz.prog 104 #[.agg (bval x A c)] w fun e w'=>e=.returned (.bool (Wq.bdF x))∧Below w.heap.size w w':=by
 obtain⟨o,⟨a,b⟩,v⟩:=x
 unfold bval Wq.bdF
 dsimp only
 generalize v.length=n
 have hX:=Blk.new w 31 #[.int .i64 o,.int .i64 a,.int .i64 b,.slice A n c]
 have hb0:Below w.heap.size w (w.alloc (.cells #[.int .i64 o,.int .i64 a,.int .i64 b,.slice A n c] 31)):=(Below.refl _ _).alloc (Nat.le_refl _) _
 have HX:=Hz_ hX
 have HB:=Hz_ hb0
 have HG:=Hz_ fun W=>right_any a b W
 have e2:decide (n≤256)=decide ((n:Int)≤256):=by rw[Bool.eq_iff_iff];simp;omega
 rw[e2]
 clear hX hb0 e2
 generalize Vc.right (a,b)=z at HG
 by_cases h0:0≤o
 ·by_cases h1:o < 256
  ·have e1:decide (o≤255)=true:=by simp;omega
   have h2:o≤255:=by omega
   rw[decide_eq_true h0,e1]
   simp only[Bool.true_and]
   rcases z with _ | _
   all_goals
    go_enter Tryz.func104,Tryz.ntmps104
    go_wp2_with (go_at_call 159;go_must (refine(HG.out _).mono ?_);rintro e w1 ⟨rfl,hb1⟩;have q2:=(HX.out.go hb1).cell 3)
    go_ret
    exact⟨rfl,btn HB.out hb1⟩
  ·have e1:decide (o≤255)=false:=by simp;omega
   have h2:¬ o≤255:=by omega
   rw[decide_eq_true h0,e1]
   simp only[Bool.true_and,Bool.false_and]
   go_enter Tryz.func104,Tryz.ntmps104
   go_wp2
   go_ret
   exact⟨rfl,HB.out⟩
 ·rw[decide_eq_false h0]
  simp only[Bool.false_and]
  go_enter Tryz.func104,Tryz.ntmps104
  go_wp2
  go_ret
  exact⟨rfl,HB.out⟩
theorem refBodyRight_any (x:Wq.Bd) (A:Option Addr) (c:Nat) (w:World):
  Calls Tryz.prog 44 #[.agg (bval x A c)] w fun e w'=>e=.returned (.bool (Wq.bdF x))∧Below w.heap.size w w':=by
 obtain⟨o,⟨a,b⟩,v⟩:=x
 unfold bval Wq.bdF
 dsimp only
 generalize v.length=n
 have hX:=Blk.new w 31 #[.int .i64 o,.int .i64 a,.int .i64 b,.slice A n c]
 have hb0:Below w.heap.size w (w.alloc (.cells #[.int .i64 o,.int .i64 a,.int .i64 b,.slice A n c] 31)):=(Below.refl _ _).alloc (Nat.le_refl _) _
 have HX:=Hz_ hX
 have HB:=Hz_ hb0
 have HG:=Hz_ fun W=>refRight_any a b W
 have e2:decide (n≤256)=decide ((n:Int)≤256):=by rw[Bool.eq_iff_iff];simp;omega
 rw[e2]
 clear hX hb0 e2
 generalize Vc.right (a,b)=z at HG
 by_cases h0:0≤o
 ·by_cases h1:o < 256
  ·have e1:decide (o≤255)=true:=by simp;omega
   have h2:o≤255:=by omega
   rw[decide_eq_true h0,e1]
   simp only[Bool.true_and]
   rcases z with _ | _
   all_goals
    go_enter Tryz.func44,Tryz.ntmps44
    go_wp2_with (go_at_call 116;go_must (refine(HG.out _).mono ?_);rintro e w1 ⟨rfl,hb1⟩;have q2:=(HX.out.go hb1).cell 3)
    go_ret
    exact⟨rfl,btn HB.out hb1⟩
  ·have e1:decide (o≤255)=false:=by simp;omega
   have h2:¬ o≤255:=by omega
   rw[decide_eq_true h0,e1]
   simp only[Bool.true_and,Bool.false_and]
   go_enter Tryz.func44,Tryz.ntmps44
   go_wp2
   go_ret
   exact⟨rfl,HB.out⟩
 ·rw[decide_eq_false h0]
  simp only[Bool.false_and]
  go_enter Tryz.func44,Tryz.ntmps44
  go_wp2
  go_ret
  exact⟨rfl,HB.out⟩
theorem grown_belowE {w w':World} (hb:Below w.heap.size w w') (row:Option Nat):w.grownBy w' row:=⟨hb.os,hb.tape,hb.output,hb.size,fun k hk _=>hb.block k hk⟩
structure BV where
 A:Option Addr
 c:Nat
def bvl (p:BV×Wq.Bd):List Value:=[.int .i64 p.2.o,.int .i64 p.2.s.1,.int .i64 p.2.s.2,.slice p.1.A p.2.v.length p.1.c]
def bvv (L:List (BV×Wq.Bd)):List Value:=L.flatMap bvl
def bds (L:List (BV×Wq.Bd)):List Wq.Bd:=L.map (·.2)
theorem bds_len (L:List (BV×Wq.Bd)):(bds L).length=L.length:=by simp[bds]
theorem bds_at (L:List (BV×Wq.Bd)) (k:Nat) (h:k < L.length):(bds L)[k]'(by rw[bds_len];exact h)=L[k].2:=by simp[bds]
theorem bds_app (L M:List (BV×Wq.Bd)):bds (L++M)=bds L++bds M:=by simp[bds]
theorem bvv_app (L M:List (BV×Wq.Bd)):bvv (L++M)=bvv L++bvv M:=by simp[bvv]
theorem bvv_at (L:List (BV×Wq.Bd)) (k:Nat) (h:k < L.length) (j:Nat) (hj:j < 4):(bvv L)[k * 4+j]?=(bvl L[k])[j]?:=flat_at bvl 4 (by decide) L (fun _ _=>rfl) k h j hj
theorem bvv_len (L:List (BV×Wq.Bd)):(bvv L).length=L.length * 4:=flat_len bvl 4 L (fun _ _=>rfl)
structure RdBs (w:World) (B:Nat) (A:Option Addr) (n c:Nat) (L:List (BV×Wq.Bd)):Prop where
 len:L.length=n
 rd:Rd w B 4 A n c (bvv L)
 each:∀p∈L,Rd w B 1 p.1.A p.2.v.length p.1.c (bv p.2.v)
 wf:∀p∈L,(Lit.int .i64 p.2.o).wf=true
theorem RdBs.go {w w':World} {A:Option Addr} {n c:Nat} {L:List (BV×Wq.Bd)} (h:RdBs w w.heap.size A n c L) (hb:Below w.heap.size w w'):RdBs w' w'.heap.size A n c L:=⟨h.len,h.rd.go hb,fun p hp=>(h.each p hp).go hb,h.wf⟩
theorem RdBs.below {w w':World} {B:Nat} {A:Option Addr} {n c:Nat} {L:List (BV×Wq.Bd)} (h:RdBs w B A n c L) (hb:Below B w w'):RdBs w' B A n c L:=⟨h.len,h.rd.below hb,fun p hp=>(h.each p hp).below hb,h.wf⟩
theorem RdBs.more {w:World} {B B':Nat} {A:Option Addr} {n c:Nat} {L:List (BV×Wq.Bd)} (h:RdBs w B A n c L) (hb:B≤B'):RdBs w B' A n c L:=⟨h.len,h.rd.more hb,fun p hp=>(h.each p hp).more hb,h.wf⟩
theorem RdBs.none_ (w:World) (B:Nat):RdBs w B none 0 0 []:=⟨rfl,Rd.none_,(fun p hp=>by cases hp),(fun p hp=>by cases hp)⟩
theorem RdBs.body {w:World} {B n c k:Nat} {A:Option Addr} {L:List (BV×Wq.Bd)} (h:RdBs w B A n c L) (hk:k < L.length):
  ∃b o,A=some ⟨b,o,none⟩∧b < B∧w.cell? ⟨b,o+k * 4,none⟩=some (.int .i64 L[k].2.o)∧w.cell? ⟨b,o+k * 4+1,none⟩=some (.int .i64 L[k].2.s.1) ∧
   w.cell? ⟨b,o+k * 4+2,none⟩=some (.int .i64 L[k].2.s.2)∧w.cell? ⟨b,o+k * 4+3,none⟩=some (.slice L[k].1.A L[k].2.v.length L[k].1.c):=by
 have hl:=h.len
 obtain⟨b,o,rfl,hb,hc⟩:=h.rd.plain (by omega) (by decide)
 have e:∀j,j < 4→∀u,(bvl L[k])[j]?=some u→w.cell? ⟨b,o+k * 4+j,none⟩=some u:=fun j hj u hu=>by
  rw[Nat.add_assoc]
  exact hc (k * 4+j) u (by rw[bvv_at L k hk j hj,hu])
 exact⟨b,o,rfl,hb,e 0 (by decide) _ rfl,e 1 (by decide) _ rfl,e 2 (by decide) _ rfl,e 3 (by decide) _ rfl⟩
theorem RdBs.max {w:World} {B n c:Nat} {A:Option Addr} {L:List (BV×Wq.Bd)} (h:RdBs w B A n c L):n≤9223372036854775807:=by
 have h1:=h.rd.cap;have h2:=h.rd.max;unfold maxLen at h2;omega
theorem usedB_take (l:List Wq.Bd) (k:Nat) (h:k < l.length):usedB (l.take (k+1))=usedB (l.take k)+l[k].v.length:=by
 rw[List.take_add_one,List.getElem?_eq_getElem h]
 exact usedB_snoc _ _
theorem usedB_le:∀(l:List Wq.Bd) (k:Nat),usedB (l.take k)≤usedB l
 | [],k=>by simp
 | x :: r,0=>by simp[usedB]
 | x :: r,k+1=>by rw[List.take_succ_cons,usedB,usedB];have:=usedB_le r k;omega
theorem newsB_used:∀(l:List Wq.Bd) (seen:List Int),newsB seen l=true→usedB l≤256 * l.length
 | [],_,_=>by simp[usedB]
 | x :: r,seen,h=>by
  rw[newsB,Bool.and_eq_true,Bool.and_eq_true] at h
  have h1:=newsB_used r _ h.2
  have h2:=((Wq.bdF_iff x).1 h.1.2).2.2.2.2.2
  rw[usedB,List.length_cons];omega
theorem cacheUsed_any (A:Option Addr) (n c:Nat) (L:List (BV×Wq.Bd)) (w:World) (hR:RdBs w w.heap.size A n c L) (hu:usedB (bds L)≤9223372036854775807):
  Calls Tryz.prog 163 #[.slice A n c] w fun e w'=>e=.returned (.int .i64 (usedB (bds L):Nat))∧Below w.heap.size w w':=by
 have hmax:=hR.max
 have HL:=Hz_ hR.len
 have HW:=Hz_ fun (W:World) (hb:Below w.heap.size w W) k (hk:k < L.length)=>(hR.below hb).body hk
 have HS:=Hz_ fun k (hk:k < (bds L).length)=>usedB_take (bds L) k hk
 have HE:=Hz_ fun k=>usedB_le (bds L) k
 clear hR
 go_enter Tryz.func163,Tryz.ntmps163
 go_wp2
 go_loopw [3,8] (fun a i wr=>∃(j:Nat),j≤n∧i=.int .i64 j∧a=.int .i64 (usedB ((bds L).take j):Nat)∧Below w.heap.size w wr) (fun _ i _=>n - (intOf i).toNat)
 case atStart=>exact⟨0,by omega,rfl,rfl,Below.refl _ _⟩
 case round=>
  obtain⟨j,hj,rfl,rfl,hb⟩:=hrel
  by_cases hlt:j < n
  ·have hjl:j < L.length:=by rw[HL.out];exact hlt
   obtain⟨b,o,rfl,hbb,g0,g1,g2,g3⟩:=HW.out wr hb j hjl
   have hs:=HS.out j (by rw[bds_len];exact hjl)
   have hle:=HE.out (j+1)
   rw[bds_at L j hjl] at hs
   have HN:=Hz_ hs
   have e1:((usedB ((bds L).take j):Nat):Int)+(L[j].2.v.length:Int)=((usedB ((bds L).take (j+1)):Nat):Int):=by rw[hs];omega
   have e2:IntKind.i64.wrap ((usedB ((bds L).take (j+1)):Nat):Int)=((usedB ((bds L).take (j+1)):Nat):Int):=IntWalk.i64_in _ (by omega)
   obtain⟨u2,hu2⟩:∃u2,u2=usedB ((bds L).take (j+1)):=⟨_,rfl⟩
   have HU:=Hz_ hu2
   rw[←hu2] at e1 e2 HN
   clear hu2
   generalize usedB ((bds L).take j)=u1 at e1 HN ⊢
   generalize L[j].2.o=x0 at g0
   generalize L[j].2.s.1=x1 at g1
   generalize L[j].2.s.2=x2 at g2
   generalize L[j].2.v.length=m at g3 e1 HN
   generalize L[j].1.A=x3 at g3
   generalize L[j].1.c=x4 at g3
   clear hs hle
   have HB:=Hz_ (hb.alloc hb.size (.cells #[.int .i64 x0,.int .i64 x1,.int .i64 x2,.slice x3 m x4] 31))
   go_wp2
   go_roundw
   case rel=>exact⟨j+1,by omega,by go_num,by rw[←HU.out],HB.out⟩
   case measure=>simp[intOf];omega
  ·obtain rfl:j=n:=by omega
   have HN:=Hz_ (show usedB ((bds L).take j)=usedB (bds L) by rw[List.take_of_length_le (by rw[bds_len,HL.out];exact Nat.le_refl _)])
   rw[HN.out]
   go_wp2
   go_ret
   exact⟨rfl,hb⟩
theorem ref12Used_any (A:Option Addr) (n c:Nat) (L:List (BV×Wq.Bd)) (w:World) (hR:RdBs w w.heap.size A n c L) (hu:usedB (bds L)≤9223372036854775807):
  Calls Tryz.prog 156 #[.slice A n c] w fun e w'=>e=.returned (.int .i64 (usedB (bds L):Nat))∧Below w.heap.size w w':=by
 have hmax:=hR.max
 have HL:=Hz_ hR.len
 have HW:=Hz_ fun (W:World) (hb:Below w.heap.size w W) k (hk:k < L.length)=>(hR.below hb).body hk
 have HS:=Hz_ fun k (hk:k < (bds L).length)=>usedB_take (bds L) k hk
 have HE:=Hz_ fun k=>usedB_le (bds L) k
 clear hR
 go_enter Tryz.func156,Tryz.ntmps156
 go_wp2
 go_loopw [3,4] (fun a i wr=>∃(j:Nat),j≤n∧i=.int .i64 j∧a=.int .i64 (usedB ((bds L).take j):Nat)∧Below w.heap.size w wr) (fun _ i _=>n - (intOf i).toNat)
 case atStart=>exact⟨0,by omega,rfl,rfl,Below.refl _ _⟩
 case round=>
  obtain⟨j,hj,rfl,rfl,hb⟩:=hrel
  by_cases hlt:j < n
  ·have hjl:j < L.length:=by rw[HL.out];exact hlt
   obtain⟨b,o,rfl,hbb,g0,g1,g2,g3⟩:=HW.out wr hb j hjl
   have hs:=HS.out j (by rw[bds_len];exact hjl)
   have hle:=HE.out (j+1)
   rw[bds_at L j hjl] at hs
   have HN:=Hz_ hs
   have e1:((usedB ((bds L).take j):Nat):Int)+(L[j].2.v.length:Int)=((usedB ((bds L).take (j+1)):Nat):Int):=by rw[hs];omega
   have e2:IntKind.i64.wrap ((usedB ((bds L).take (j+1)):Nat):Int)=((usedB ((bds L).take (j+1)):Nat):Int):=IntWalk.i64_in _ (by omega)
   obtain⟨u2,hu2⟩:∃u2,u2=usedB ((bds L).take (j+1)):=⟨_,rfl⟩
   have HU:=Hz_ hu2
   rw[←hu2] at e1 e2 HN
   clear hu2
   generalize usedB ((bds L).take j)=u1 at e1 HN ⊢
   generalize L[j].2.o=x0 at g0
   generalize L[j].2.s.1=x1 at g1
   generalize L[j].2.s.2=x2 at g2
   generalize L[j].2.v.length=m at g3 e1 HN
   generalize L[j].1.A=x3 at g3
   generalize L[j].1.c=x4 at g3
   clear hs hle
   have HB:=Hz_ hb
   go_wp2
   go_roundw
   case rel=>exact⟨j+1,by omega,by go_num,by rw[←HU.out],HB.out⟩
   case measure=>simp[intOf];omega
  ·obtain rfl:j=n:=by omega
   have HN:=Hz_ (show usedB ((bds L).take j)=usedB (bds L) by rw[List.take_of_length_le (by rw[bds_len,HL.out];exact Nat.le_refl _)])
   rw[HN.out]
   go_wp2
   go_ret
   exact⟨rfl,hb⟩
theorem cacheRight_any (x:Wq.Bd) (A:Option Addr) (c:Nat) (w:World):
  Calls Tryz.prog 162 #[.agg (bval x A c)] w fun e w'=>e=.returned (.bool (Wq.bdF x))∧Below w.heap.size w w':=by
 obtain⟨o,⟨a,b⟩,v⟩:=x
 unfold bval Wq.bdF
 dsimp only
 generalize v.length=n
 have hX:=Blk.new w 31 #[.int .i64 o,.int .i64 a,.int .i64 b,.slice A n c]
 have hb0:Below w.heap.size w (w.alloc (.cells #[.int .i64 o,.int .i64 a,.int .i64 b,.slice A n c] 31)):=(Below.refl _ _).alloc (Nat.le_refl _) _
 have HX:=Hz_ hX
 have HB:=Hz_ hb0
 have HG:=Hz_ fun W=>right_any a b W
 have e2:decide (n≤256)=decide ((n:Int)≤256):=by rw[Bool.eq_iff_iff];simp;omega
 rw[e2]
 clear hX hb0 e2
 generalize Vc.right (a,b)=z at HG
 by_cases h0:0≤o
 ·by_cases h1:o < 256
  ·have e1:decide (o≤255)=true:=by simp;omega
   have h2:o≤255:=by omega
   rw[decide_eq_true h0,e1]
   simp only[Bool.true_and]
   rcases z with _ | _
   all_goals
    go_enter Tryz.func162,Tryz.ntmps162
    go_wp2_with (go_at_call 159;go_must (refine(HG.out _).mono ?_);rintro e w1 ⟨rfl,hb1⟩;have q2:=(HX.out.go hb1).cell 3)
    go_ret
    exact⟨rfl,btn HB.out hb1⟩
  ·have e1:decide (o≤255)=false:=by simp;omega
   have h2:¬ o≤255:=by omega
   rw[decide_eq_true h0,e1]
   simp only[Bool.true_and,Bool.false_and]
   go_enter Tryz.func162,Tryz.ntmps162
   go_wp2
   go_ret
   exact⟨rfl,HB.out⟩
 ·rw[decide_eq_false h0]
  simp only[Bool.false_and]
  go_enter Tryz.func162,Tryz.ntmps162
  go_wp2
  go_ret
  exact⟨rfl,HB.out⟩
def seenL (s:List Int):DataW Unit:=Maps.setOf (.lit (.bool true)) (s.map (Lit.int .i64))
theorem seenL_put (s:List Int) (o:Int):seenL (s++[o])=(seenL s).put (.int .i64 o) (.lit (.bool true)):=by
 unfold seenL
 rw[List.map_append]
 exact Maps.setOf_snoc _ _ _
theorem seenL_map (s:List Int):Maps.IsMap (seenL s):=by
 refine Maps.Tidy.isMap (Maps.tidy_setOf _ _ fun x hx=>?_)
 obtain⟨y,_,rfl⟩:=List.mem_map.1 hx
 trivial
theorem seenL_at (s:List Int) (o:Int):(seenL s).atKey (.int .i64 o) (.lit (.bool false))=.lit (.bool (s.contains o)):=by
 obtain⟨r,rfl⟩:∃r,s=r.reverse:=⟨s.reverse,(List.reverse_reverse s).symm⟩
 induction r with
 | nil=>rfl
 | cons x r ih=>
  rw[List.reverse_cons,seenL_put]
  by_cases h:o=x
  ·subst h
   rw[Maps.atKey_put_same (seenL_map _) (show WideAt.IsKeyLit (.int .i64 o) from trivial)]
   simp
  ·rw[Maps.atKey_put_other (by intro h2;injection h2 with _ h2;exact h h2),ih]
   congr 2
   simp[h]
theorem zero_bool (w:World):(zeroValue 4).run Tryz.prog w=.ok (.bool false) w:=rfl
theorem caF_of (l:List Wq.Bd) (room:Int) (h1:0≤room) (h2:room≤16777216) (h3:l.length≤256):caF l room=(newsB [] l && decide ((usedB l:Int)≤room)):=by
 unfold caF;rw[decide_eq_true h1,decide_eq_true h2,decide_eq_true h3];rfl
theorem caF_no (l:List Wq.Bd) (room:Int) (h:¬ (0≤room∧room≤16777216∧l.length≤256)):caF l room=false:=by
 unfold caF
 by_cases h1:0≤room
 ·by_cases h2:room≤16777216
  ·rw[decide_eq_false (fun h3:l.length≤256=>h ⟨h1,h2,h3⟩)];simp
  ·rw[decide_eq_false h2];simp
 ·rw[decide_eq_false h1];simp
theorem cacheFormed_any (A:Option Addr) (n c:Nat) (L:List (BV×Wq.Bd)) (room:Int) (w:World) (hR:RdBs w w.heap.size A n c L):
  Calls Tryz.prog 94 #[.slice A n c,.int .i64 room] w fun e w'=>e=.returned (.bool (caF (bds L) room))∧Below w.heap.size w w':=by
 have hmax:=hR.max
 have hmm:=@run_makeMap Tryz.prog
 have HL:=Hz_ hR.len
 have HRR:=Hz_ hR
 by_cases r1:room < 0
 ·have HN:=Hz_ (caF_no (bds L) room (by omega))
  rw[HN.out]
  go_enter Tryz.func94,Tryz.ntmps94
  go_wp2
  go_ret
  exact⟨rfl,Below.refl _ _⟩
 by_cases r2:room > 16777216
 ·have HN:=Hz_ (caF_no (bds L) room (by omega))
  rw[HN.out]
  go_enter Tryz.func94,Tryz.ntmps94
  go_wp2
  go_ret
  exact⟨rfl,Below.refl _ _⟩
 by_cases r3:(n:Int) > 256
 ·have HN:=Hz_ (caF_no (bds L) room (by rw[bds_len,HL.out];omega))
  rw[HN.out]
  go_enter Tryz.func94,Tryz.ntmps94
  go_wp2
  go_ret
  exact⟨rfl,Below.refl _ _⟩
 have HC:=Hz_ (caF_of (bds L) room (by omega) (by omega) (by rw[bds_len,HL.out];omega))
 have HW:=Hz_ fun (W:World) (hb:Below w.heap.size w W) k (hk:k < L.length)=>(hR.below hb).body hk
 have HD:=Hz_ fun seen k h=>newsB_drop seen (bds L) k h
 rw[HC.out]
 clear hR
 go_enter Tryz.func94,Tryz.ntmps94
 go_wp2
 go_loopw [22] (fun i wr=>∃(j:Nat),j≤n∧i=.int .i64 j∧Below w.heap.size w wr∧wr.ownsMap Tryz.prog 3 (plainElem Tryz.prog 4) w.heap.size j (seenL (((bds L).take j).map (·.o)))∧Hid (newsB [] (bds L)=newsB (((bds L).take j).map (·.o)) ((bds L).drop j))) (fun i _=>n - (intOf i).toNat)
 case atStart=>exact⟨0,by omega,rfl,(Below.refl _ _).alloc (Nat.le_refl _) _,World.ownsMap_made _ _ _ _,Hz_ rfl⟩
 case round=>
  obtain⟨j,hj,rfl,hb,hown,hr⟩:=hrel
  by_cases hlt:j < n
  ·have hjl:j < L.length:=by rw[HL.out];exact hlt
   have hjb:j < (bds L).length:=by rw[bds_len];exact hjl
   obtain⟨b,o,rfl,hbb,g0,g1,g2,g3⟩:=HW.out wr hb j hjl
   have hwf:=HRR.out.wf _ (List.getElem_mem hjl)
   have hkey:keyOf Tryz.prog 3 (.int .i64 L[j].2.o)=some (.int .i64 L[j].2.o):=Maps.keyOf_int_mk Tryz.underlying3 hwf
   have hd:=hr.out.trans (HD.out _ j hjb)
   have htk:((bds L).take (j+1)).map (·.o)=((bds L).take j).map (·.o)++[L[j].2.o]:=by rw[List.take_add_one,List.getElem?_eq_getElem hjb,List.map_append,bds_at L j hjl];rfl
   rw[bds_at L j hjl] at hd
   have hat:=seenL_at (((bds L).take j).map (·.o)) L[j].2.o
   have hput:=seenL_put (((bds L).take j).map (·.o)) L[j].2.o
   have G0:=fun W=>cacheRight_any L[j].2 L[j].1.A L[j].1.c W
   unfold bval at G0
   generalize Wq.bdF L[j].2=z at G0 hd
   have G:=Hz_ G0
   have HDD:=Hz_ hd
   have HTK:=Hz_ htk
   have HPUT:=Hz_ hput
   generalize ((bds L).take j).map (·.o)=seen at hown hat HTK HPUT HDD
   generalize L[j].2.o=x0 at g0 hwf hkey hat G HDD HTK HPUT
   generalize L[j].2.s.1=x1 at g1 G
   generalize L[j].2.s.2=x2 at g2 G
   generalize L[j].2.v.length=m at g3 G
   generalize L[j].1.A=x3 at g3 G
   generalize L[j].1.c=x4 at g3 G
   have HB:=Hz_ (hb.alloc hb.size (.cells #[.int .i64 x0,.int .i64 x1,.int .i64 x2,.slice x3 m x4] 31))
   have HX:=Hz_ (Blk.new wr 31 #[.int .i64 x0,.int .i64 x1,.int .i64 x2,.slice x3 m x4])
   have HO1:=Hz_ (hown.alloc (.cells #[.int .i64 x0,.int .i64 x1,.int .i64 x2,.slice x3 m x4] 31))
   generalize seen.contains x0=c0 at hat HDD
   have HAT:=Hz_ hat
   have hbz:=hb.size
   clear hown hd htk hput hat G0 hr hb hbb
   cases c0
   ·cases z
    ·have HN:=Hz_ (show newsB [] (bds L)=false by rw[HDD.out];rfl)
     go_wp2_with (first
      | (at_lookup;refine wpList_lookup_own_bool _ rfl _ _ 193 rfl 3 4 (Maps.int_keyed Tryz.underlying3) Tryz.underlying193 Tryz.underlying4 (zero_bool _) w.heap.size j _ rfl HO1.out _ _ rfl hkey ?_;intro c hc;rw[HAT.out] at hc;injection hc with hc;injection hc with hc;subst hc)
      | (go_at_call 162;go_must (refine(G.out _).mono ?_);rintro e w1 ⟨rfl,hb1⟩;have HB1:=Hz_ (btn HB.out hb1);have HO2:=Hz_ (HO1.out.kept (grown_belowE hb1 none) (by simp));obtain⟨y0,y1,y2,y3⟩:=(HX.out.go hb1).quad;clear hb1)
      | go_in)
     go_ret
     exact⟨by rw[HN.out];rfl,HB1.out⟩
    ·have HN:=Hz_ (show newsB [] (bds L)=newsB (seen++[x0]) ((bds L).drop (j+1)) by rw[HDD.out];rfl)
     go_wp2_with (first
      | (at_lookup;refine wpList_lookup_own_bool _ rfl _ _ 193 rfl 3 4 (Maps.int_keyed Tryz.underlying3) Tryz.underlying193 Tryz.underlying4 (zero_bool _) w.heap.size j _ rfl HO1.out _ _ rfl hkey ?_;intro c hc;rw[HAT.out] at hc;injection hc with hc;injection hc with hc;subst hc)
      | (go_at_call 162;go_must (refine(G.out _).mono ?_);rintro e w1 ⟨rfl,hb1⟩;have HB1:=Hz_ (btn HB.out hb1);have HO2:=Hz_ (HO1.out.kept (grown_belowE hb1 none) (by simp));obtain⟨y0,y1,y2,y3⟩:=(HX.out.go hb1).quad;clear hb1)
      | (at_mapUpdate;refine wpList_mapUpdate_own _ rfl _ _ _ 193 rfl 3 4 (Maps.int_keyed Tryz.underlying3) Tryz.underlying193 (plainElem (H:=Unit) Tryz.prog 4) w.heap.size j _ rfl HO2.out (by unfold maxLen;omega) _ _ _ rfl rfl hkey _ [] (plainElem_bool Tryz.underlying4 true) ?_;intro w2 hown2 hgrow2;have HO3:=Hz_ hown2;have HB2:=Hz_ (HB1.out.grown hgrow2 HB1.out.size (fun j hj=>by cases hj;exact Nat.le_refl _));clear hown2 hgrow2)
      | go_in)
     go_roundw
     case rel=>exact⟨j+1,by omega,by go_num,HB2.out,by rw[HTK.out,HPUT.out];exact HO3.out,by rw[HTK.out];exact HN⟩
     case measure=>simp[intOf];omega
   ·have HN:=Hz_ (show newsB [] (bds L)=false by rw[HDD.out];rfl)
    go_wp2_with (first
     | (at_lookup;refine wpList_lookup_own_bool _ rfl _ _ 193 rfl 3 4 (Maps.int_keyed Tryz.underlying3) Tryz.underlying193 Tryz.underlying4 (zero_bool _) w.heap.size j _ rfl HO1.out _ _ rfl hkey ?_;intro c hc;rw[HAT.out] at hc;injection hc with hc;injection hc with hc;subst hc)
     | go_in)
    go_ret
    exact⟨by rw[HN.out];rfl,HB.out⟩
  ·obtain rfl:j=n:=by omega
   have HN:=Hz_ (show newsB [] (bds L)=true by rw[hr.out,List.drop_of_length_le (by rw[bds_len,HL.out];exact Nat.le_refl _)];rfl)
   have G:=Hz_ (cacheUsed_any A j c L wr ((HRR.out.below hb).more hb.size) (by have:=newsB_used _ _ HN.out;rw[bds_len,HL.out] at this;omega))
   clear hr
   go_wp2_with fail
   refine G.out.mono ?_
   rintro e w1 ⟨rfl,hb1⟩
   have HB:=Hz_ (btn hb hb1)
   clear hb1
   generalize hu:usedB (bds L)=u
   have HU:=Hz_ hu
   clear hu
   go_wp2
   go_ret
   exact⟨by rw[HN.out,HU.out];rfl,HB.out⟩
def seenP (s:List Int):Nat→Bool:=fun n=>s.contains (n:Int)
theorem seenP_put (s:List Int) (o:Nat) (n:Nat):updB (seenP s) o true n=seenP (s++[(o:Int)]) n:=by
 unfold updB seenP
 by_cases e:n=o
 ·subst e;simp
 ·rw[if_neg e]
  have:¬ ((n:Int)=(o:Int)):=by omega
  simp[this]
theorem ref12Formed_any (A:Option Addr) (n c:Nat) (L:List (BV×Wq.Bd)) (room:Int) (w:World) (hR:RdBs w w.heap.size A n c L):
  Calls Tryz.prog 87 #[.slice A n c,.int .i64 room] w fun e w'=>e=.returned (.bool (caF (bds L) room))∧Below w.heap.size w w':=by
 obtain⟨hz,hi⟩:=zero_of_info zero_marks
 have HI:=Hz_ hi
 clear hi
 have hmax:=hR.max
 have HL:=Hz_ hR.len
 have HRR:=Hz_ hR
 by_cases r1:room < 0
 ·have HN:=Hz_ (caF_no (bds L) room (by omega))
  rw[HN.out]
  go_enter Tryz.func87,Tryz.ntmps87
  go_wp2
  go_ret
  exact⟨rfl,Below.refl _ _⟩
 by_cases r2:room > 16777216
 ·have HN:=Hz_ (caF_no (bds L) room (by omega))
  rw[HN.out]
  go_enter Tryz.func87,Tryz.ntmps87
  go_wp2
  go_ret
  exact⟨rfl,Below.refl _ _⟩
 by_cases r3:(n:Int) > 256
 ·have HN:=Hz_ (caF_no (bds L) room (by rw[bds_len,HL.out];omega))
  rw[HN.out]
  go_enter Tryz.func87,Tryz.ntmps87
  go_wp2
  go_ret
  exact⟨rfl,Below.refl _ _⟩
 have HC:=Hz_ (caF_of (bds L) room (by omega) (by omega) (by rw[bds_len,HL.out];omega))
 have HW:=Hz_ fun (W:World) (hb:Below w.heap.size w W) k (hk:k < L.length)=>(hR.below hb).body hk
 have HD:=Hz_ fun seen k h=>newsB_drop seen (bds L) k h
 rw[HC.out]
 clear hR
 go_enter Tryz.func87,Tryz.ntmps87
 go_wp2
 go_loopw [6] (fun i wr=>∃(j:Nat),j≤n∧i=.int .i64 j∧Below w.heap.size w wr∧Blk wr w.heap.size 149 (b256 (seenP (((bds L).take j).map (·.o))))∧Hid (newsB [] (bds L)=newsB (((bds L).take j).map (·.o)) ((bds L).drop j))) (fun i _=>n - (intOf i).toNat)
 case atStart=>exact⟨0,by omega,rfl,(Below.refl _ _).alloc (Nat.le_refl _) _,Blk.new _ _ _,Hz_ rfl⟩
 case round=>
  obtain⟨j,hj,rfl,hb,hblk,hr⟩:=hrel
  by_cases hlt:j < n
  ·have hjl:j < L.length:=by rw[HL.out];exact hlt
   have hjb:j < (bds L).length:=by rw[bds_len];exact hjl
   obtain⟨b,o,rfl,hbb,g0,g1,g2,g3⟩:=HW.out wr hb j hjl
   have hd:=hr.out.trans (HD.out _ j hjb)
   have htk:((bds L).take (j+1)).map (·.o)=((bds L).take j).map (·.o)++[L[j].2.o]:=by rw[List.take_add_one,List.getElem?_eq_getElem hjb,List.map_append,bds_at L j hjl];rfl
   rw[bds_at L j hjl] at hd
   have G0:=fun W=>refBodyRight_any L[j].2 L[j].1.A L[j].1.c W
   have hpos:Wq.bdF L[j].2=true→0≤L[j].2.o∧L[j].2.o≤255:=fun h=>⟨((Wq.bdF_iff _).1 h).1,((Wq.bdF_iff _).1 h).2.1⟩
   unfold bval at G0
   generalize Wq.bdF L[j].2=z at G0 hd hpos
   have G:=Hz_ G0
   have HDD:=Hz_ hd
   have HTK:=Hz_ htk
   generalize ((bds L).take j).map (·.o)=seen at hblk HTK HDD
   generalize L[j].2.o=x0 at g0 G HDD HTK hpos
   generalize L[j].2.s.1=x1 at g1 G
   generalize L[j].2.s.2=x2 at g2 G
   generalize L[j].2.v.length=m at g3 G
   generalize L[j].1.A=x3 at g3 G
   generalize L[j].1.c=x4 at g3 G
   have HB:=Hz_ hb
   have HK:=Hz_ hblk
   have hw:w.heap.size < wr.heap.size:=hblk.lt
   have hlb:b < wr.heap.size:=by omega
   have HG0:=Hz_ g0
   clear hblk hd htk G0 hr hb
   cases z
   ·have HN:=Hz_ (show newsB [] (bds L)=false by rw[HDD.out];simp)
    clear hpos
    go_wp2_with (go_at_call 44;go_must (refine(G.out _).mono ?_);rintro e w1 ⟨rfl,hb1⟩;have HB1:=Hz_ (btn HB.out hb1);clear hb1)
    go_ret
    exact⟨by rw[HN.out];rfl,HB1.out⟩
   ·obtain⟨p1,p2⟩:=hpos rfl
    obtain⟨u,rfl⟩:∃u:Nat,x0=(u:Int):=⟨x0.toNat,by omega⟩
    have hu:u < 256:=by omega
    have HC0:Hid ((b256 (seenP seen))[u]?=some (.bool (seen.contains (u:Int)))):=Hz_ (b256_at _ _ hu)
    generalize hc0:seen.contains (u:Int)=c0 at HC0 HDD
    clear hpos p1 p2 hc0
    cases c0
    ·have HN:=Hz_ (show newsB [] (bds L)=newsB (seen++[(u:Int)]) ((bds L).drop (j+1)) by rw[HDD.out];rfl)
     go_wp2_with (go_at_call 44;go_must (refine(G.out _).mono ?_);rintro e w1 ⟨rfl,hb1⟩;have HB1:=Hz_ (btn HB.out hb1);have HK1:=Hz_ (HK.out.go hb1);have g0x:=(hb1.cell (p:=⟨b,o+j * 4,none⟩) hlb).trans HG0.out;have gu:=HK1.out.cell u;rw[HC0.out] at gu;have fu:=HK1.out.frozen u;clear hb1)
     go_roundw
     case rel=>
      refine⟨j+1,by omega,by go_num,HB1.out.setCell (p:=⟨w.heap.size,u,none⟩) (Nat.le_refl _) _,?_,by rw[HTK.out];exact HN⟩
      have h5:=HK1.out.set_ u (.bool true)
      rw[b256_set _ _ _ hu,b256_congr (fun n _=>seenP_put seen u n)] at h5
      rw[HTK.out]
      exact h5
     case measure=>simp[intOf];omega
    ·have HN:=Hz_ (show newsB [] (bds L)=false by rw[HDD.out];rfl)
     go_wp2_with (go_at_call 44;go_must (refine(G.out _).mono ?_);rintro e w1 ⟨rfl,hb1⟩;have HB1:=Hz_ (btn HB.out hb1);have HK1:=Hz_ (HK.out.go hb1);have g0x:=(hb1.cell (p:=⟨b,o+j * 4,none⟩) hlb).trans HG0.out;have gu:=HK1.out.cell u;rw[HC0.out] at gu;have fu:=HK1.out.frozen u;clear hb1)
     go_ret
     exact⟨by rw[HN.out];rfl,HB1.out⟩
  ·obtain rfl:j=n:=by omega
   have HN:=Hz_ (show newsB [] (bds L)=true by rw[hr.out,List.drop_of_length_le (by rw[bds_len,HL.out];exact Nat.le_refl _)];rfl)
   have G:=Hz_ (ref12Used_any A j c L wr ((HRR.out.below hb).more hb.size) (by have:=newsB_used _ _ HN.out;rw[bds_len,HL.out] at this;omega))
   clear hr
   go_wp2_with fail
   refine G.out.mono ?_
   rintro e w1 ⟨rfl,hb1⟩
   have HB:=Hz_ (btn hb hb1)
   clear hb1
   generalize hu:usedB (bds L)=u
   have HU:=Hz_ hu
   clear hu
   go_wp2
   go_ret
   exact⟨by rw[HN.out,HU.out];rfl,HB.out⟩
theorem Blk.two2 {w:World} {g:Nat} {t:TypeId} {a b:Value} (h:Blk w g t #[a,b]):w.cell? ⟨g,0,none⟩=some a∧w.cell? ⟨g,1,none⟩=some b:=⟨h.cell 0,h.cell 1⟩
theorem refZonesFormed_any (A:Option Addr) (n c:Nat) (L:List (ZV×Zn)) (w:World) (hR:RdZ w w.heap.size A n c L):
  Calls Tryz.prog 85 #[.slice A n c] w fun e w'=>e=.returned (.bool (zF (-1) none (zns L)))∧Below w.heap.size w w':=by
 have hmax:=hR.max
 have hln:=hR.len
 have HL:=Hz_ hln
 have HR:=Hz_ hR
 have HD:=Hz_ fun e p k h=>zF_drop e p (zns L) k h
 have HE:=Hz_ fun e p k h=>zF_end e p (zns L) k h
 clear hR hln
 go_enter Tryz.func85,Tryz.ntmps85
 go_wp2
 go_loopw [3] (fun v3 wr=>∃(k:Nat),k≤n∧v3=.int .i64 k∧(-1≤aheadE (zns L) k∧aheadE (zns L) k≤255)∧Below w.heap.size w wr∧Hid (zF (-1) none (zns L)=zF (aheadE (zns L) k) (aheadP (zns L) k) ((zns L).drop k))) (fun v3 _=>n - (intOf v3).toNat)
 case atStart=>exact⟨0,by omega,rfl,by rw[aheadE_zero];omega,Below.refl _ _,by rw[aheadE_zero,aheadP_zero];rfl⟩
 case round=>
  obtain⟨k,hk,rfl,hre,hb,hr⟩:=hrel
  have hbs:=hb.size
  by_cases hlt:k < n
  ·have hkL:k < L.length:=by rw[HL.out];exact hlt
   have hkZ:k < (zns L).length:=by rw[zns_len];exact hkL
   obtain⟨b,o,rfl,hab,g0,g1,g2⟩:=(HR.out.below hb).zone hkL
   obtain⟨hvl,hRv⟩:=HR.out.each _ (List.getElem_mem hkL)
   have hd:=hr.out.trans (HD.out _ _ k hkZ)
   have he1:=aheadE_next (zns L) k hkZ
   have hp1:=aheadP_next (zns L) k hkZ
   rw[zns_at L k hkL] at hd he1 hp1
   obtain⟨p,hp⟩:∃p,p=aheadP (zns L) k:=⟨_,rfl⟩
   have HP:=Hz_ hp
   rw[←hp] at hd
   obtain⟨e,he⟩:∃e,e=aheadE (zns L) k:=⟨_,rfl⟩
   have HEE:=Hz_ he
   rw[←he] at hd hre
   generalize hq:L[k]=q at g0 g1 g2 hvl hRv hd he1 hp1
   have HQ:=Hz_ hq
   obtain⟨⟨Av,nv,cv⟩,⟨lo,hi⟩,u⟩:=q
   dsimp only at g0 g1 g2 hvl hRv hd he1 hp1
   have hst:zStep e p ((lo,hi),u)=((decide (e < lo) && (decide (lo≤hi) && decide (hi≤255))) && (fm (-1) u && !(decide (p=some u) && decide (lo=e+1)))):=rfl
   have hb1:=hb.alloc hbs (.cells #[.int .i64 lo,.int .i64 hi] 63)
   have hX:=Blk.new wr 63 #[.int .i64 lo,.int .i64 hi]
   have F:=refFormed_any Av nv cv u _ hvl ((hRv.below hb1).more hb1.size)
   have g2':=World.cell?_alloc_lt wr (.cells #[.int .i64 lo,.int .i64 hi] 63) ⟨b,o+k * 3+2,none⟩ (World.block_lt_of_cell? _ _ g2)
   rw[g2] at g2'
   have HG2:=Hz_ fun (W:World) (hw:Below (wr.alloc (.cells #[.int .i64 lo,.int .i64 hi] 63)).heap.size (wr.alloc (.cells #[.int .i64 lo,.int .i64 hi] 63)) W)=>(hw.cell (p:=⟨b,o+k * 3+2,none⟩) (World.block_lt_of_cell? _ _ g2')).trans g2'
   have HB:=Hz_ hb1
   have HX:=Hz_ hX
   have HE1:=Hz_ he1
   have HP1:=Hz_ hp1
   have HVL:=Hz_ hvl
   have HRV:=Hz_ hRv
   have HST:=Hz_ hst
   have HDD:=Hz_ hd
   clear hd hst he1 hp1 hvl hRv hp he hq hX hr hb hab
   by_cases c1:lo < 0
   ·have HN:=Hz_ (show zF (-1) none (zns L)=false by rw[HDD.out,HST.out];simp[show ¬ e < lo by omega])
    go_wp2
    go_ret
    exact⟨by rw[HN.out];rfl,HB.out⟩
   ·by_cases c2:lo > hi
    ·have HN:=Hz_ (show zF (-1) none (zns L)=false by rw[HDD.out,HST.out];simp[show ¬ lo≤hi by omega])
     go_wp2
     go_ret
     exact⟨by rw[HN.out];rfl,HB.out⟩
    ·by_cases c3:hi > 255
     ·have HN:=Hz_ (show zF (-1) none (zns L)=false by rw[HDD.out,HST.out];simp[show ¬ hi≤255 by omega])
      go_wp2
      go_ret
      exact⟨by rw[HN.out];rfl,HB.out⟩
     ·rcases hf:fm (-1) u with _ | _
      ·have HN:=Hz_ (show zF (-1) none (zns L)=false by rw[HDD.out,HST.out,hf];simp)
       rw[hf] at F
       have F:=Hz_ F
       clear hf
       go_wp2_with fail
       refine F.out.mono ?_
       rintro e w1 ⟨rfl,hb1⟩
       have HB1:=Hz_ (btn HB.out hb1)
       clear hb1
       go_wp2
       go_ret
       exact⟨by rw[HN.out];rfl,HB1.out⟩
      ·rw[hf] at F
       have HSS:=Hz_ (show zStep e p ((lo,hi),u)=(decide (e < lo) && !(decide (p=some u) && decide (lo=e+1))) by rw[HST.out,hf,decide_eq_true (show lo≤hi by omega),decide_eq_true (show hi≤255 by omega)];simp)
       have F:=Hz_ F
       clear hf HST
       go_wp2_with fail
       refine F.out.mono ?_
       rintro e' w1 ⟨rfl,hb1⟩
       have HB1:=Hz_ (btn HB.out hb1)
       have HX1:=Hz_ (HX.out.go hb1)
       have g2:=HG2.out _ hb1
       obtain⟨x0,x1⟩:=HX1.out.two2
       clear hb1 HB HX F g0 g1 HG2 g2'
       by_cases hk0:k=0
       ·have hpn:p=none:=by rw[HP.out,hk0,aheadP_zero]
        have hen:e=-1:=by rw[HEE.out,hk0,aheadE_zero]
        have HN:=Hz_ (show zF (-1) none (zns L)=zF hi (some u) ((zns L).drop (k+1)) by rw[HDD.out,HSS.out,hpn,decide_eq_true (show e < lo by omega)];simp)
        have dk:decide (0 < k)=false:=by simp;omega
        clear hpn hk0 hen g2
        go_wp2
        go_quiet (fail)
        go_wp2
        go_roundw
        case rel=>exact⟨k+1,by omega,by go_num,by rw[HE1.out];omega,below_drewN HB1.out _,by show _=_;rw[HN.out,HE1.out,HP1.out]⟩
        case measure=>simp[intOf];omega
       ·obtain⟨i,rfl⟩:∃i,k=i+1:=⟨k - 1,by omega⟩
        have hiL:i < L.length:=by omega
        have dk:decide (0 < i+1)=true:=by simp
        have he2:=aheadE_next (zns L) i (by rw[zns_len];exact hiL)
        have hp2:=aheadP_next (zns L) i (by rw[zns_len];exact hiL)
        rw[zns_at L i hiL] at he2 hp2
        have hpe:=HP.out
        rw[hp2] at hpe
        have hee:=HEE.out
        rw[he2] at hee
        have hin:(0:Int)≤(i:Int)∧(i:Int) < (n:Int):=by omega
        have e8:IntKind.i64.wrap (i:Int)=(i:Int):=IntWalk.i64_in _ (by omega)
        have e9:(((i+1:Nat):Int) - 1)=(i:Int):=by omega
        have w1e:IntKind.i64.wrap (lo - 1)=lo - 1:=IntWalk.i64_in _ (by omega)
        obtain⟨b',o',e',hbb',p0,p1,p2⟩:=(HR.out.below HB1.out).zone hiL
        obtain⟨hvl2,hRv2⟩:=HR.out.each _ (List.getElem_mem hiL)
        obtain⟨rfl,rfl⟩:b=b'∧o=o':=by injection e' with e';injection e' with e1 e2;exact⟨e1,e2⟩
        generalize L[i]=q2 at p0 p1 p2 hvl2 hRv2 hpe hee
        obtain⟨⟨Ai,ni,ci⟩,⟨lo2,hi2⟩,u2⟩:=q2
        dsimp only at p0 p1 p2 hvl2 hRv2 hpe hee
        subst hee
        have HPE:=Hz_ hpe
        have G:=fun m=>same_q Ai Av ni ci nv cv u2 u (w1.drewN m) hvl2 HVL.out (((hRv2.below HB1.out).more HB1.out.size).drewN m) (((HRV.out.below HB1.out).more HB1.out.size).drewN m)
        clear hpe he2 hp2 p0 e' hbb' hvl2 hRv2
        by_cases c6:e ≥ lo
        ·have HN:=Hz_ (show zF (-1) none (zns L)=false by rw[HDD.out,HSS.out,decide_eq_false (show ¬ e < lo by omega)];rfl)
         have d6:decide (e ≥ lo)=true:=decide_eq_true c6
         clear G p2
         go_wp2
         go_quiet (fail)
         go_wp2
         go_ret
         exact⟨by rw[HN.out];rfl,below_drewN HB1.out _⟩
        ·have d6:decide (e ≥ lo)=false:=decide_eq_false c6
         have d7:decide (e < lo)=true:=decide_eq_true (by omega)
         by_cases c4:e=lo - 1
         ·obtain rfl:lo=e+1:=by omega
          have d4:(e == e+1 - 1)=true:=by simp
          have w1f:IntKind.i64.wrap (e+1 - 1)=e:=by rw[show e+1 - 1=e by omega];exact IntWalk.i64_in _ (by omega)
          have w1g:IntKind.i64.wrap e=e:=IntWalk.i64_in _ (by omega)
          clear c4 w1e
          by_cases c5:u2=u
          ·have HN:=Hz_ (show zF (-1) none (zns L)=false by rw[HDD.out,HSS.out,HPE.out,c5,d7];simp)
           simp only[decide_eq_true c5] at G
           have G:=Hz_ G
           clear c5 c6
           go_wp2
           go_quiet ((go_at_call 80;exact Calls.quiet_of (G.out _)))
           go_wp2
           go_ret
           exact⟨by rw[HN.out];rfl,below_drewN HB1.out _⟩
          ·have HN:=Hz_ (show zF (-1) none (zns L)=zF hi (some u) ((zns L).drop (i+1+1)) by rw[HDD.out,HSS.out,HPE.out,d7,decide_eq_false (show ¬ some u2=some u from fun h=>c5 (Option.some.inj h))];simp)
           simp only[decide_eq_false c5] at G
           have G:=Hz_ G
           clear c5 c6
           go_wp2
           go_quiet ((go_at_call 80;exact Calls.quiet_of (G.out _)))
           go_wp2
           go_roundw
           case rel=>exact⟨i+1+1,by omega,by go_num,by rw[HE1.out];omega,below_drewN HB1.out _,by show _=_;rw[HN.out,HE1.out,HP1.out]⟩
           case measure=>simp[intOf];omega
         ·have d4:(e == lo - 1)=false:=by simpa using c4
          have HN:=Hz_ (show zF (-1) none (zns L)=zF hi (some u) ((zns L).drop (i+1+1)) by rw[HDD.out,HSS.out,d7,decide_eq_false (show ¬ lo=e+1 by omega)];simp)
          clear G c6 c4 p2
          go_wp2
          go_quiet (fail)
          go_wp2
          go_roundw
          case rel=>exact⟨i+1+1,by omega,by go_num,by rw[HE1.out];omega,below_drewN HB1.out _,by show _=_;rw[HN.out,HE1.out,HP1.out]⟩
          case measure=>simp[intOf];omega
  ·obtain rfl:k=n:=by omega
   have HN:=Hz_ (show zF (-1) none (zns L)=true by rw[hr.out,HE.out _ _ _ (by rw[zns_len,HL.out];exact Nat.le_refl _)])
   clear hr
   go_wp2
   go_ret
   exact⟨by rw[HN.out];rfl,hb⟩
def AtZ (L:List (ZV×Zn)) (o:Int) (w:World) (e:Ending) (w':World):Prop:=
 w=w'∧((∃k,∃h:k < L.length,e=.returned (.int .i64 (k:Int))∧(zns L).find? (inZ o)=some L[k].2)∨(e=.returned (.int .i64 (-1))∧(zns L).find? (inZ o)=none))
theorem find_drop (o:Int) (z:List Zn) (k:Nat) (h:k < z.length):(z.drop k).find? (inZ o)=if inZ o z[k]=true then some z[k] else (z.drop (k+1)).find? (inZ o):=by
 rw[List.drop_eq_getElem_cons h,List.find?_cons]
 rcases inZ o z[k] with _ | _<;>rfl
theorem inZ_no1 {o lo hi:Int} {u:List Vc.St} (h:¬ lo≤o):inZ o ((lo,hi),u)=false:=by unfold inZ;simp;omega
theorem inZ_no2 {o lo hi:Int} {u:List Vc.St} (h:¬ o≤hi):inZ o ((lo,hi),u)=false:=by unfold inZ;simp;omega
theorem inZ_yes {o lo hi:Int} {u:List Vc.St} (h:lo≤o) (h2:o≤hi):inZ o ((lo,hi),u)=true:=by unfold inZ;simp;omega
theorem refAtZ_any (A:Option Addr) (n c:Nat) (L:List (ZV×Zn)) (o:Int) (w:World) (hR:RdZ w w.heap.size A n c L):
  Calls Tryz.prog 199 #[.slice A n c,.int .i64 o] w (AtZ L o w):=by
 have hmax:=hR.max
 have hln:=hR.len
 have HL:=Hz_ hln
 have HD:=Hz_ fun k h=>find_drop o (zns L) k h
 have HR:=Hz_ hR
 clear hln hR
 go_enter Tryz.func199,Tryz.ntmps199
 go_wp2
 go_loopw [5] (fun v5 wr=>∃(k:Nat),k≤n∧v5=.int .i64 k∧w=wr∧Hid ((zns L).find? (inZ o)=((zns L).drop k).find? (inZ o))) (fun v5 _=>n - (intOf v5).toNat)
 case atStart=>exact⟨0,by omega,rfl,rfl,rfl⟩
 case round=>
  obtain⟨k,hk,rfl,rfl,hr⟩:=hrel
  by_cases hlt:k < n
  ·have hkL:k < L.length:=by rw[HL.out];exact hlt
   have hkZ:k < (zns L).length:=by rw[zns_len];exact hkL
   obtain⟨b,oo,rfl,hab,g0,g1,g2⟩:=HR.out.zone hkL
   have hd:=hr.out.trans (HD.out k hkZ)
   rw[zns_at L k hkL] at hd
   have HK:=Hz_ hkL
   generalize hq:L[k]=q at g0 g1 g2 hd
   have HQ:=Hz_ hq
   obtain⟨⟨Av,nv,cv⟩,⟨lo,hi⟩,u⟩:=q
   dsimp only at g0 g1 g2 hd
   have HDD:=Hz_ hd
   clear hq hd hr hab g2
   by_cases c1:lo≤o
   ·by_cases c2:o≤hi
    ·have HN:=Hz_ (show (zns L).find? (inZ o)=some ((lo,hi),u) by rw[HDD.out,if_pos (inZ_yes c1 c2)])
     go_wp2
     go_ret
     exact⟨rfl,.inl ⟨k,HK.out,rfl,HN.out.trans (congrArg some (congrArg Prod.snd HQ.out).symm)⟩⟩
    ·have HN:=Hz_ (show (zns L).find? (inZ o)=((zns L).drop (k+1)).find? (inZ o) by rw[HDD.out,if_neg (by rw[inZ_no2 c2];simp)])
     go_wp2
     go_roundw
     case rel=>exact⟨k+1,by omega,by go_num,trivial,HN.out⟩
     case measure=>simp[intOf];omega
   ·have HN:=Hz_ (show (zns L).find? (inZ o)=((zns L).drop (k+1)).find? (inZ o) by rw[HDD.out,if_neg (by rw[inZ_no1 c1];simp)])
    go_wp2
    go_roundw
    case rel=>exact⟨k+1,by omega,by go_num,trivial,HN.out⟩
    case measure=>simp[intOf];omega
  ·obtain rfl:k=n:=by omega
   have HN:=Hz_ (show (zns L).find? (inZ o)=none by rw[hr.out,List.drop_of_length_le (by rw[zns_len,HL.out];exact Nat.le_refl _)];rfl)
   clear hr
   go_wp2
   go_ret
   exact⟨rfl,.inr ⟨rfl,HN.out⟩⟩
theorem dec_dropZ {L M:List Zn} {k:Nat} (h1:k < L.length) (h2:k < M.length) (he:L[k]=M[k]):decide (L.drop k=M.drop k)=decide (L.drop (k+1)=M.drop (k+1)):=by
 rw[List.drop_eq_getElem_cons h1,List.drop_eq_getElem_cons h2,he]
 exact decide_eq_decide.2 ⟨fun h=>(List.cons.inj h).2,fun h=>by rw[h]⟩
theorem refZonesSame_q (A D:Option Addr) (n c m d:Nat) (L M:List (ZV×Zn)) (w:World) (hR:RdZ w w.heap.size A n c L) (hR2:RdZ w w.heap.size D m d M):
  Calls Tryz.prog 81 #[.slice A n c,.slice D m d] w fun e w'=>e=.returned (.bool (decide (zns L=zns M)))∧∃q,w'=w.drewN q:=by
 have hmax:=hR.max
 have hln:=hR.len
 have hln2:=hR2.len
 have HL:=Hz_ hln
 have HL2:=Hz_ hln2
 have HR:=Hz_ hR
 have HR2:=Hz_ hR2
 clear hR hR2
 by_cases hnm:n=m
 ·subst hnm
  clear hln hln2
  go_enter Tryz.func81,Tryz.ntmps81
  go_wp2
  go_loopw [5] (fun i wr=>∃(k q:Nat),k≤n∧i=.int .i64 k∧Hid (decide (zns L=zns M)=decide ((zns L).drop k=(zns M).drop k))∧Hid (wr=w.drewN q)) (fun i _=>n - (intOf i).toNat)
  case atStart=>exact⟨0,0,by omega,rfl,Hz_ rfl,Hz_ rfl⟩
  case round=>
   obtain⟨k,q,hk,rfl,hdd,hq⟩:=hrel
   have hb:Below w.heap.size w wr:=by rw[hq.out];exact below_drewN (Below.refl _ _) q
   by_cases hlt:k < n
   ·have hk1:k < L.length:=by rw[HL.out];exact hlt
    have hk2:k < M.length:=by rw[HL2.out];exact hlt
    have hz1:k < (zns L).length:=by rw[zns_len];exact hk1
    have hz2:k < (zns M).length:=by rw[zns_len];exact hk2
    obtain⟨b,o,rfl,hab,g0,g1,g2⟩:=(HR.out.below hb).zone hk1
    obtain⟨b2,o2,rfl,hab2,h0,h1,h2⟩:=(HR2.out.below hb).zone hk2
    obtain⟨hvl,hRv⟩:=HR.out.each _ (List.getElem_mem hk1)
    obtain⟨hvl2,hRv2⟩:=HR2.out.each _ (List.getElem_mem hk2)
    have hN:=fun (h:L[k].2=M[k].2)=>hdd.out.trans (dec_dropZ hz1 hz2 (by rw[zns_at L k hk1,zns_at M k hk2,h]))
    have hO:=fun (h:¬ L[k].2=M[k].2)=>(show decide (zns L=zns M)=false by
     rw[decide_eq_false_iff_not];intro e;apply h
     have e1:=zns_at L k hk1
     have e2:=zns_at M k hk2
     rw[←e1,←e2]
     simp only[e])
    generalize L[k]=q1 at g0 g1 g2 hvl hRv hN hO
    generalize M[k]=q2 at h0 h1 h2 hvl2 hRv2 hN hO
    obtain⟨⟨Av,nv,cv⟩,⟨lo,hi⟩,u⟩:=q1
    obtain⟨⟨Au,nu,cu⟩,⟨lo2,hi2⟩,u2⟩:=q2
    dsimp only at g0 g1 g2 hvl hRv hN hO h0 h1 h2 hvl2 hRv2
    have HNN:=Hz_ hN
    have HOO:=Hz_ hO
    have G:=fun p=>same_q Av Au nv cv nu cu u u2 (wr.drewN p) hvl hvl2 (((hRv.below hb).more hb.size).drewN p) (((hRv2.below hb).more hb.size).drewN p)
    clear hN hO hvl hvl2 hRv hRv2 hdd hb hab hab2
    by_cases c1:lo=lo2
    ·subst c1
     by_cases c2:hi=hi2
     ·subst c2
      by_cases c3:u=u2
      ·subst c3
       have HN:=Hz_ (HNN.out rfl)
       simp only[decide_true] at G
       have G:=Hz_ G
       go_wp2
       go_quiet ((go_at_call 80;exact Calls.quiet_of (G.out _)))
       go_wp2
       go_roundw
       case rel=>exact⟨k+1,_,by omega,by go_num,HN,quiet_then hq _⟩
       case measure=>simp[intOf];omega
      ·have HN:=Hz_ (HOO.out (by simpa using c3))
       simp only[decide_eq_false c3] at G
       have G:=Hz_ G
       clear c3
       go_wp2
       go_quiet ((go_at_call 80;exact Calls.quiet_of (G.out _)))
       go_wp2
       go_ret
       exact⟨by rw[HN.out];rfl,_,(quiet_then hq _).out⟩
     ·have HN:=Hz_ (HOO.out (by intro h;injection h with h;injection h with h3 h4;exact c2 h4))
      clear G
      go_wp2
      go_quiet (fail)
      go_wp2
      go_ret
      exact⟨by rw[HN.out];rfl,_,(quiet_then hq _).out⟩
    ·have HN:=Hz_ (HOO.out (by intro h;injection h with h;injection h with h3 h4;exact c1 h3))
     clear G
     go_wp2
     go_quiet (fail)
     go_wp2
     go_ret
     exact⟨by rw[HN.out];rfl,_,(quiet_then hq _).out⟩
   ·obtain rfl:k=n:=by omega
    have HX:=Hz_ (show decide (zns L=zns M)=true by rw[hdd.out,List.drop_of_length_le (by rw[zns_len,HL.out];exact Nat.le_refl _),List.drop_of_length_le (by rw[zns_len,HL2.out];exact Nat.le_refl _)];simp)
    clear hdd
    go_wp2
    go_ret
    exact⟨by rw[HX.out];rfl,q,hq.out⟩
 ·have HN:=Hz_ (show decide (zns L=zns M)=false by
   rw[decide_eq_false_iff_not];intro h
   have:=congrArg List.length h
   rw[zns_len,zns_len] at this
   omega)
  have hne:¬ ((n:Int)=(m:Int)):=by omega
  clear hln hln2
  go_enter Tryz.func81,Tryz.ntmps81
  go_wp2
  go_ret
  exact⟨by rw[HN.out];rfl,0,rfl⟩
theorem zone_info:(Tryz.prog.info? 129).map (fun i=>(i.zero,i.size,i.bytes))=some (some (.agg #[.int .i64 0,.int .i64 0,.slice none 0 0]),3,40):=by kernel_rfl
structure OwnZ (w:World) (base:Nat) (A:Option Addr) (k c:Nat) (L:List (ZV×Zn)):Prop where
 row:w.ownsRow base 129 3 (.slice A k c) k (zvv L)
 el:∀p∈L,p.2.2.length=p.1.n∧w.ownsRow base 28 2 (.slice p.1.A p.1.n p.1.c) p.1.n (sv p.2.2)
theorem OwnZ.nil (w:World) (base:Nat):OwnZ w base none 0 0 []:=⟨World.ownsRow_nil _ _ _ _,by simp⟩
theorem OwnZ.below {w w':World} {base:Nat} {A:Option Addr} {k c:Nat} {L:List (ZV×Zn)} (h:OwnZ w base A k c L) (hb:Below w.heap.size w w'):OwnZ w' base A k c L:=
 ⟨own_below h.row hb (Nat.le_refl _),fun p hp=>⟨(h.el p hp).1,own_below (h.el p hp).2 hb (Nat.le_refl _)⟩⟩
theorem OwnZ.push {w w':World} {base:Nat} {A A':Option Addr} {k c c':Nat} {L:List (ZV×Zn)} {p:ZV×Zn} (h:OwnZ w base A k c L) (hp:p.2.2.length=p.1.n∧w.ownsRow base 28 2 (.slice p.1.A p.1.n p.1.c) p.1.n (sv p.2.2))
  (hg:w.grownBy w' (Value.slice A k c).ownBlock) (ho:w'.ownsRow base 129 3 (.slice A' (k+1) c') (k+1) (zvv L++zvl p)):OwnZ w' base A' (k+1) c' (L++[p]):=by
 refine⟨by rw[zvv_app];simpa[zvv] using ho,fun z hz=>?_⟩
 rcases List.mem_append.1 hz with hz | hz
 ·exact⟨(h.el z hz).1,(h.el z hz).2.kept hg (own_two (h.el z hz).2 h.row (by decide))⟩
 ·obtain rfl:z=p:=by simpa using hz
  exact⟨hp.1,hp.2.kept hg (own_two hp.2 h.row (by decide))⟩
theorem OwnZ.len {w:World} {base:Nat} {A:Option Addr} {k c:Nat} {L:List (ZV×Zn)} (h:OwnZ w base A k c L):L.length=k:=by
 have:=h.row.1
 rw[zvv_len] at this
 omega
theorem OwnZ.rd {w:World} {base:Nat} {A:Option Addr} {k c:Nat} {L:List (ZV×Zn)} (h:OwnZ w base A k c L):RdZ w w.heap.size A k c L:=
 ⟨h.len,Rd.of_own h.row,fun p hp=>⟨(h.el p hp).1,Rd.of_own (h.el p hp).2⟩⟩
structure ZnSz (n:Nat) (L:List (ZV×Zn)):Prop where
 n:n≤3518437208883
 each:∀p∈L,p.1.n≤8796093022208
end Go.Proofs.YtmbeahbgafkjfaaGreatDoor
