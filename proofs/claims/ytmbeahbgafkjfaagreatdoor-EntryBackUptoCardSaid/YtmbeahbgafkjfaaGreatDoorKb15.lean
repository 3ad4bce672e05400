/- Lemmas for the claim, layer 15. -/
import Derived.Test.YtmbeahbgafkjfaaGreatDoorKb11
import Derived.Test.YtmbeahbgafkjfaaGreatDoorKb14
set_option maxRecDepth 100000
set_option maxHeartbeats 16000000
namespace Go.Proofs.YtmbeahbgafkjfaaGreatDoor
open Go.RowKit
theorem results_cell_tmp {P:Program} {fn:Func} {p q:Tmp} {ty:TypeId} (h:fn.results=#[.cell p ty,.tmp q]) (tmps:Array Value) (w:World) (g:Nat) (t:TypeId) (cs:Array Value) (fr:Nat×Nat) (d:TypeDesc)
  (hp:tmps.getD p undef=.pointer (some ⟨g,0,none⟩)) (hg:w.heap[g]?=some (.cells cs t fr))
  (hu:P.underlying ty=some d) (hd:(match d with | .struct _ | .array _ _=>true | _=>false)=true) (hi:(P.info? ty).map (·.size)=some cs.size):
  (results fn tmps).run P w=.ok (.tuple #[.agg cs,tmps.getD q undef]) w:=by
 have hp':tmps[p]?.getD undef=.pointer (some ⟨g,0,none⟩):=by simpa using hp
 simp[results,h,hp',asAddr,run_loadVar_row w g t ty cs fr d hg hu hd hi]
structure NtOwn (w:World) (base:Nat) (v:NV) (x:Nt):Prop where
 l1:x.s.length=v.n1
 o1:w.ownsRow base 28 2 (.slice v.A1 v.n1 v.c1) v.n1 (sv x.s)
 l2:x.e.length=v.n2
 o2:w.ownsRow base 28 2 (.slice v.A2 v.n2 v.c2) v.n2 (sv x.e)
 l3:x.b.length=v.n3
 o3:w.ownsRow base 63 2 (.slice v.A3 v.n3 v.c3) v.n3 (sv x.b)
 l4:x.w.length=v.n4
 o4:w.ownsRow base 70 4 (.slice v.A4 v.n4 v.c4) v.n4 (wv x.w)
theorem NtOwn.rd {w:World} {base:Nat} {v:NV} {x:Nt} (h:NtOwn w base v x):NtRd w w.heap.size v x:=⟨h.l1,Rd.of_own h.o1,h.l2,Rd.of_own h.o2,h.l3,Rd.of_own h.o3,h.l4,Rd.of_own h.o4⟩
theorem NtOwn.below {w w':World} {base:Nat} {v:NV} {x:Nt} (h:NtOwn w base v x) (hb:Below w.heap.size w w'):NtOwn w' base v x:=
 ⟨h.l1,own_below h.o1 hb (Nat.le_refl _),h.l2,own_below h.o2 hb (Nat.le_refl _),h.l3,own_below h.o3 hb (Nat.le_refl _),h.l4,own_below h.o4 hb (Nat.le_refl _)⟩
theorem NtOwn.less {w:World} {base base':Nat} {v:NV} {x:Nt} (h:NtOwn w base v x) (hb:base'≤base):NtOwn w base' v x:=⟨h.l1,own_less h.o1 hb,h.l2,own_less h.o2 hb,h.l3,own_less h.o3 hb,h.l4,own_less h.o4 hb⟩
theorem NtOwn.row {w w':World} {base b size n:Nat} {e:TypeId} {u:Value} {xs:List Value} {v:NV} {x:Nt} (h:NtOwn w base v x) (ho:w.ownsRow b e size u n xs) (h1:28≠e) (h2:63≠e) (h3:70≠e) (hg:w.grownBy w' u.ownBlock):NtOwn w' base v x:=
 ⟨h.l1,h.o1.kept hg (own_two h.o1 ho h1),h.l2,h.o2.kept hg (own_two h.o2 ho h1),h.l3,h.o3.kept hg (own_two h.o3 ho h2),h.l4,h.o4.kept hg (own_two h.o4 ho h3)⟩
theorem own_blk {w:World} {base g:Nat} {e t:TypeId} {size n:Nat} {v:Value} {xs:List Value} {cs:Array Value} (h:w.ownsRow base e size v n xs) (hg:Blk w g t cs) (he:e≠t):v.ownBlock=none∨v.ownBlock≠some g:=by
 rcases h.2 with ⟨rfl,_⟩ | ⟨g',cap,cur,rfl,_,hh,_⟩
 ·exact .inl rfl
 ·refine .inr fun e'=>?_
  obtain rfl:g'=g:=by simpa[Value.ownBlock] using e'
  unfold Blk at hg
  rw[hh] at hg
  injection hg with hg
  injection hg with _ h2
  exact he h2
theorem NtOwn.blk {w w':World} {base g:Nat} {t:TypeId} {cs:Array Value} {v:NV} {x:Nt} (h:NtOwn w base v x) (ho:Blk w g t cs) (h1:28≠t) (h2:63≠t) (h3:70≠t) (hg:w.grownBy w' (some g)):NtOwn w' base v x:=
 ⟨h.l1,h.o1.kept hg (own_blk h.o1 ho h1),h.l2,h.o2.kept hg (own_blk h.o2 ho h1),h.l3,h.o3.kept hg (own_blk h.o3 ho h2),h.l4,h.o4.kept hg (own_blk h.o4 ho h3)⟩
def NV0:NV:=⟨none,0,0,none,0,0,none,0,0,none,0,0⟩
theorem res_ctt {P:Program} {fn:Func} {p q r:Tmp} {ty:TypeId} (h:fn.results=#[.cell p ty,.tmp q,.tmp r]) (tmps:Array Value) (w:World) (g:Nat) (t:TypeId) (cs:Array Value) (fr:Nat×Nat) (d:TypeDesc)
  (hp:tmps.getD p undef=.pointer (some ⟨g,0,none⟩)) (hg:w.heap[g]?=some (.cells cs t fr))
  (hu:P.underlying ty=some d) (hd:(match d with | .struct _ | .array _ _=>true | _=>false)=true) (hi:(P.info? ty).map (·.size)=some cs.size):
  (results fn tmps).run P w=.ok (.tuple #[.agg cs,tmps.getD q undef,tmps.getD r undef]) w:=by
 have hp':tmps[p]?.getD undef=.pointer (some ⟨g,0,none⟩):=by simpa using hp
 simp[results,h,hp',asAddr,run_loadVar_row w g t ty cs fr d hg hu hd hi]
theorem endN_ok (g T:Nat) (v:NV) (l:List UInt8) (w:World) (h:PR w g T (some l)):
  Calls Tryz.prog 126 #[.pointer (some ⟨g,0,none⟩),.agg v.val,.bool true] w fun e w'=>e=.returned (.tuple #[.agg v.val,.int .i64 ((T - l.length:Nat):Int),.int .i64 0])∧Below w.heap.size w w':=by
 obtain⟨A1,n1,c1,A2,n2,c2,A3,n3,c3,A4,n4,c4⟩:=v
 have hlt:=h.lt
 obtain⟨A,n,c,hB,hq⟩:=h
 generalize (T - l.length:Nat)=z at hB
 have HB:=Hz_ hB
 clear hB hq
 go_enter Tryz.func126,Tryz.ntmps126
 have d1:=HB.out.cell 1
 have d2:=HB.out.cell 2
 go_wp2
 have hX:=(Blk.new w 26 #[.slice A1 n1 c1,.slice A2 n2 c2,.slice A3 n3 c3,.slice A4 n4 c4]).alloc (.cells #[.slice none 0 0,.slice none 0 0,.slice none 0 0,.slice none 0 0] 26)
 have hY:=Blk.new (w.alloc (.cells #[.slice A1 n1 c1,.slice A2 n2 c2,.slice A3 n3 c3,.slice A4 n4 c4] 26)) 26 #[.slice none 0 0,.slice none 0 0,.slice none 0 0,.slice none 0 0]
 rw[World.size_alloc] at hY
 have hB1:=(HB.out.alloc (.cells #[.slice A1 n1 c1,.slice A2 n2 c2,.slice A3 n3 c3,.slice A4 n4 c4] 26)).alloc (.cells #[.slice none 0 0,.slice none 0 0,.slice none 0 0,.slice none 0 0] 26)
 have hb0:Below w.heap.size w ((w.alloc (.cells #[.slice A1 n1 c1,.slice A2 n2 c2,.slice A3 n3 c3,.slice A4 n4 c4] 26)).alloc (.cells #[.slice none 0 0,.slice none 0 0,.slice none 0 0,.slice none 0 0] 26)):=((Below.refl _ _).alloc (Nat.le_refl _) _).alloc (by simp) _
 obtain⟨W0,hW0⟩:∃W0,W0=(w.alloc (.cells #[.slice A1 n1 c1,.slice A2 n2 c2,.slice A3 n3 c3,.slice A4 n4 c4] 26)).alloc (.cells #[.slice none 0 0,.slice none 0 0,.slice none 0 0,.slice none 0 0] 26):=⟨_,rfl⟩
 rw[←hW0] at hX hY hB1 hb0 ⊢
 clear hW0 d1 d2
 have x0:=hX.cell 0
 have x1:=hX.cell 1
 have x2:=hX.cell 2
 have x3:=hX.cell 3
 have y0:=hY.cell 0
 have y1:=hY.cell 1
 have y2:=hY.cell 2
 have y3:=hY.cell 3
 have z0:=hY.frozen 0
 have z1:=hY.frozen 1
 have z2:=hY.frozen 2
 have z3:=hY.frozen 3
 have d1:=hB1.cell 1
 have HY:=Hz_ hY
 have HB0:=Hz_ hb0
 clear hX hY hB1 hb0
 go_region
 go_wp2
 have hY4:=(((HY.out.set_ 0 (.slice A1 n1 c1)).set_ 1 (.slice A2 n2 c2)).set_ 2 (.slice A3 n3 c3)).set_ 3 (.slice A4 n4 c4)
 refine bodyPost_ret (res_ctt rfl _ _ (w.heap.size+1) 26 _ _ _ rfl hY4 Tryz.underlying26 rfl (by kernel_rfl)) rfl ⟨rfl,?_⟩
 exact((((HB0.out.setCell (p:=⟨w.heap.size+1,0,none⟩) (Nat.le_succ _) _).setCell (p:=⟨w.heap.size+1,1,none⟩) (Nat.le_succ _) _).setCell (p:=⟨w.heap.size+1,2,none⟩) (Nat.le_succ _) _).setCell (p:=⟨w.heap.size+1,3,none⟩) (Nat.le_succ _) _).drew
theorem endN_bad (g T:Nat) (v:NV) (f:Bool) (s:Option (List UInt8)) (w:World) (h:PR w g T s) (hs:s=none∨f=false):
  Calls Tryz.prog 126 #[.pointer (some ⟨g,0,none⟩),.agg v.val,.bool f] w fun e w'=>e=.returned (.tuple #[.agg NV0.val,.int .i64 0,.int .i64 4])∧But g w w':=by
 obtain⟨A1,n1,c1,A2,n2,c2,A3,n3,c3,A4,n4,c4⟩:=v
 have hlt:=h.lt
 obtain⟨u0,u1,b,hB,hbf⟩:∃u0 u1 b,Blk w g 156 #[u0,u1,.bool b]∧(b=true∨f=false):=by
  rcases s with _ | l
  ·obtain⟨A,n,c,k,hB⟩:=h;exact⟨_,_,_,hB,.inl rfl⟩
  ·obtain⟨A,n,c,hB,_⟩:=h;exact⟨_,_,_,hB,.inr (hs.resolve_left (by simp))⟩
 have HB:=Hz_ hB
 clear hB h hs
 rcases b with _ | _
 ·obtain rfl:f=false:=hbf.resolve_left (by simp)
  clear hbf
  go_enter Tryz.func126,Tryz.ntmps126
  have d2:=HB.out.cell 2
  have f2:=HB.out.frozen 2
  go_wp2
  have hY:=(Blk.new ((w.setCell ⟨g,2,none⟩ (.bool true)).alloc (.cells (NV.val ⟨A1,n1,c1,A2,n2,c2,A3,n3,c3,A4,n4,c4⟩) 26)) 26 #[.slice none 0 0,.slice none 0 0,.slice none 0 0,.slice none 0 0]).alloc (.cells #[.slice none 0 0,.slice none 0 0,.slice none 0 0,.slice none 0 0] 26)
  rw[World.size_alloc,show (w.setCell ⟨g,2,none⟩ (.bool true)).heap.size=w.heap.size by simp] at hY
  refine bodyPost_ret (res_ctt rfl _ _ (w.heap.size+1) 26 _ _ _ rfl hY Tryz.underlying26 rfl (by kernel_rfl)) rfl ⟨rfl,?_⟩
  exact(But.set_ (g:=g) w (p:=⟨g,2,none⟩) rfl (.bool true)).trans (But.of ((((Below.refl _ _).alloc (Nat.le_refl _) _).alloc (by simp) _).alloc (by simp;omega) _))
 ·clear hbf
  go_enter Tryz.func126,Tryz.ntmps126
  have d2:=HB.out.cell 2
  have f2:=HB.out.frozen 2
  go_wp2
  have hY:=(Blk.new ((w.setCell ⟨g,2,none⟩ (.bool true)).alloc (.cells (NV.val ⟨A1,n1,c1,A2,n2,c2,A3,n3,c3,A4,n4,c4⟩) 26)) 26 #[.slice none 0 0,.slice none 0 0,.slice none 0 0,.slice none 0 0]).alloc (.cells #[.slice none 0 0,.slice none 0 0,.slice none 0 0,.slice none 0 0] 26)
  rw[World.size_alloc,show (w.setCell ⟨g,2,none⟩ (.bool true)).heap.size=w.heap.size by simp] at hY
  refine bodyPost_ret (res_ctt rfl _ _ (w.heap.size+1) 26 _ _ _ rfl hY Tryz.underlying26 rfl (by kernel_rfl)) rfl ⟨rfl,?_⟩
  exact(But.set_ (g:=g) w (p:=⟨g,2,none⟩) rfl (.bool true)).trans (But.of ((((Below.refl _ _).alloc (Nat.le_refl _) _).alloc (by simp) _).alloc (by simp;omega) _))
def bval (x:Wq.Bd) (A:Option Addr) (c:Nat):Array Value:=#[.int .i64 x.o,.int .i64 x.s.1,.int .i64 x.s.2,.slice A x.v.length c]
theorem endB_ok (g T:Nat) (o a b:Int) (A4:Option Addr) (n4 c4:Nat) (l:List UInt8) (w:World) (h:PR w g T (some l)):
  Calls Tryz.prog 130 #[.pointer (some ⟨g,0,none⟩),.agg #[.int .i64 o,.int .i64 a,.int .i64 b,.slice A4 n4 c4],.bool true] w fun e w'=>e=.returned (.tuple #[.agg #[.int .i64 o,.int .i64 a,.int .i64 b,.slice A4 n4 c4],.int .i64 ((T - l.length:Nat):Int),.int .i64 0])∧Below w.heap.size w w':=by
 have hlt:=h.lt
 obtain⟨A,n,c,hB,hq⟩:=h
 generalize (T - l.length:Nat)=z at hB
 have HB:=Hz_ hB
 clear hB hq
 go_enter Tryz.func130,Tryz.ntmps130
 have d1:=HB.out.cell 1
 have d2:=HB.out.cell 2
 go_wp2
 have hX:=(Blk.new w 31 #[.int .i64 o,.int .i64 a,.int .i64 b,.slice A4 n4 c4]).alloc (.cells #[.int .i64 0,.int .i64 0,.int .i64 0,.slice none 0 0] 31)
 have hY:=Blk.new (w.alloc (.cells #[.int .i64 o,.int .i64 a,.int .i64 b,.slice A4 n4 c4] 31)) 31 #[.int .i64 0,.int .i64 0,.int .i64 0,.slice none 0 0]
 rw[World.size_alloc] at hY
 have hB1:=(HB.out.alloc (.cells #[.int .i64 o,.int .i64 a,.int .i64 b,.slice A4 n4 c4] 31)).alloc (.cells #[.int .i64 0,.int .i64 0,.int .i64 0,.slice none 0 0] 31)
 have hb0:Below w.heap.size w ((w.alloc (.cells #[.int .i64 o,.int .i64 a,.int .i64 b,.slice A4 n4 c4] 31)).alloc (.cells #[.int .i64 0,.int .i64 0,.int .i64 0,.slice none 0 0] 31)):=((Below.refl _ _).alloc (Nat.le_refl _) _).alloc (by simp) _
 obtain⟨W0,hW0⟩:∃W0,W0=(w.alloc (.cells #[.int .i64 o,.int .i64 a,.int .i64 b,.slice A4 n4 c4] 31)).alloc (.cells #[.int .i64 0,.int .i64 0,.int .i64 0,.slice none 0 0] 31):=⟨_,rfl⟩
 rw[←hW0] at hX hY hB1 hb0 ⊢
 clear hW0 d1 d2
 have x0:=hX.cell 0
 have x1:=hX.cell 1
 have x2:=hX.cell 2
 have x3:=hX.cell 3
 have y0:=hY.cell 0
 have y1:=hY.cell 1
 have y2:=hY.cell 2
 have y3:=hY.cell 3
 have z0:=hY.frozen 0
 have z1:=hY.frozen 1
 have z2:=hY.frozen 2
 have z3:=hY.frozen 3
 have d1:=hB1.cell 1
 have HY:=Hz_ hY
 have HB0:=Hz_ hb0
 clear hX hY hB1 hb0
 go_region
 go_wp2
 have hY4:=(((HY.out.set_ 0 (.int .i64 o)).set_ 1 (.int .i64 a)).set_ 2 (.int .i64 b)).set_ 3 (.slice A4 n4 c4)
 refine bodyPost_ret (res_ctt rfl _ _ (w.heap.size+1) 31 _ _ _ rfl hY4 Tryz.underlying31 rfl (by kernel_rfl)) rfl ⟨rfl,?_⟩
 exact((((HB0.out.setCell (p:=⟨w.heap.size+1,0,none⟩) (Nat.le_succ _) _).setCell (p:=⟨w.heap.size+1,1,none⟩) (Nat.le_succ _) _).setCell (p:=⟨w.heap.size+1,2,none⟩) (Nat.le_succ _) _).setCell (p:=⟨w.heap.size+1,3,none⟩) (Nat.le_succ _) _).drew
theorem endB_bad (g T:Nat) (o a b:Int) (A4:Option Addr) (n4 c4:Nat) (f:Bool) (s:Option (List UInt8)) (w:World) (h:PR w g T s) (hs:s=none∨f=false):
  Calls Tryz.prog 130 #[.pointer (some ⟨g,0,none⟩),.agg #[.int .i64 o,.int .i64 a,.int .i64 b,.slice A4 n4 c4],.bool f] w fun e w'=>e=.returned (.tuple #[.agg #[.int .i64 0,.int .i64 0,.int .i64 0,.slice none 0 0],.int .i64 0,.int .i64 4])∧But g w w':=by
 have hlt:=h.lt
 obtain⟨u0,u1,q,hB,hbf⟩:∃u0 u1 q,Blk w g 156 #[u0,u1,.bool q]∧(q=true∨f=false):=by
  rcases s with _ | l
  ·obtain⟨A,n,c,k,hB⟩:=h;exact⟨_,_,_,hB,.inl rfl⟩
  ·obtain⟨A,n,c,hB,_⟩:=h;exact⟨_,_,_,hB,.inr (hs.resolve_left (by simp))⟩
 have HB:=Hz_ hB
 clear hB h hs
 rcases q with _ | _
 ·obtain rfl:f=false:=hbf.resolve_left (by simp)
  clear hbf
  go_enter Tryz.func130,Tryz.ntmps130
  have d2:=HB.out.cell 2
  have f2:=HB.out.frozen 2
  go_wp2
  have hY:=(Blk.new ((w.setCell ⟨g,2,none⟩ (.bool true)).alloc (.cells #[.int .i64 o,.int .i64 a,.int .i64 b,.slice A4 n4 c4] 31)) 31 #[.int .i64 0,.int .i64 0,.int .i64 0,.slice none 0 0]).alloc (.cells #[.int .i64 0,.int .i64 0,.int .i64 0,.slice none 0 0] 31)
  rw[World.size_alloc,show (w.setCell ⟨g,2,none⟩ (.bool true)).heap.size=w.heap.size by simp] at hY
  refine bodyPost_ret (res_ctt rfl _ _ (w.heap.size+1) 31 _ _ _ rfl hY Tryz.underlying31 rfl (by kernel_rfl)) rfl ⟨rfl,?_⟩
  exact(But.set_ (g:=g) w (p:=⟨g,2,none⟩) rfl (.bool true)).trans (But.of ((((Below.refl _ _).alloc (Nat.le_refl _) _).alloc (by simp) _).alloc (by simp;omega) _))
 ·clear hbf
  go_enter Tryz.func130,Tryz.ntmps130
  have d2:=HB.out.cell 2
  have f2:=HB.out.frozen 2
  go_wp2
  have hY:=(Blk.new ((w.setCell ⟨g,2,none⟩ (.bool true)).alloc (.cells #[.int .i64 o,.int .i64 a,.int .i64 b,.slice A4 n4 c4] 31)) 31 #[.int .i64 0,.int .i64 0,.int .i64 0,.slice none 0 0]).alloc (.cells #[.int .i64 0,.int .i64 0,.int .i64 0,.slice none 0 0] 31)
  rw[World.size_alloc,show (w.setCell ⟨g,2,none⟩ (.bool true)).heap.size=w.heap.size by simp] at hY
  refine bodyPost_ret (res_ctt rfl _ _ (w.heap.size+1) 31 _ _ _ rfl hY Tryz.underlying31 rfl (by kernel_rfl)) rfl ⟨rfl,?_⟩
  exact(But.set_ (g:=g) w (p:=⟨g,2,none⟩) rfl (.bool true)).trans (But.of ((((Below.refl _ _).alloc (Nat.le_refl _) _).alloc (by simp) _).alloc (by simp;omega) _))
theorem bodyRight_any (x:Wq.Bd) (A:Option Addr) (c:Nat) (w:World):
  Calls Tryz.prog 104 #[.agg (bval x A c)] w fun e w'=>e=.returned (.bool (Wq.bdF x))∧Below w.heap.size w w':=by
 obtain⟨o,⟨a,b⟩,v⟩:=x
 unfold bval Wq.bdF
 dsimp only
 generalize v.length=n
 have hX:=Blk.new w 31 #[.int .i64 o,.int .i64 a,.int .i64 b,.slice A n c]
 have hb0:Below w.heap.size w (w.alloc (.cells #[.int .i64 o,.int .i64 a,.int .i64 b,.slice A n c] 31)):=(Below.refl _ _).alloc (Nat.le_refl _) _
 have HX:=Hz_ hX
 have HB:=Hz_ hb0
 have HG:=Hz_ fun W=>right_any a b W
 have e2:decide (n≤256)=decide ((n:Int)≤256):=by rw[Bool.eq_iff_iff];simp;omega
 rw[e2]
 clear hX hb0 e2
 generalize Vc.right (a,b)=z at HG
 by_cases h0:0≤o
 ·by_cases h1:o < 256
  ·have e1:decide (o≤255)=true:=by simp;omega
   have h2:o≤255:=by omega
   rw[decide_eq_true h0,e1]
   simp only[Bool.true_and]
   rcases z with _ | _
   all_goals
    go_enter Tryz.func104,Tryz.ntmps104
    go_wp2_with (go_at_call 159;go_must (refine(HG.out _).mono ?_);rintro e w1 ⟨rfl,hb1⟩;have q2:=(HX.out.go hb1).cell 3)
    go_ret
    exact⟨rfl,btn HB.out hb1⟩
  ·have e1:decide (o≤255)=false:=by simp;omega
   have h2:¬ o≤255:=by omega
   rw[decide_eq_true h0,e1]
   simp only[Bool.true_and,Bool.false_and]
   go_enter Tryz.func104,Tryz.ntmps104
   go_wp2
   go_ret
   exact⟨rfl,HB.out⟩
 ·rw[decide_eq_false h0]
  simp only[Bool.false_and]
  go_enter Tryz.func104,Tryz.ntmps104
  go_wp2
  go_ret
  exact⟨rfl,HB.out⟩
theorem grown_belowE {w w':World} (hb:Below w.heap.size w w') (row:Option Nat):w.grownBy w' row:=⟨hb.os,hb.tape,hb.output,hb.size,fun k hk _=>hb.block k hk⟩
structure BV where
 A:Option Addr
 c:Nat
def bvl (p:BV×Wq.Bd):List Value:=[.int .i64 p.2.o,.int .i64 p.2.s.1,.int .i64 p.2.s.2,.slice p.1.A p.2.v.length p.1.c]
def bvv (L:List (BV×Wq.Bd)):List Value:=L.flatMap bvl
def bds (L:List (BV×Wq.Bd)):List Wq.Bd:=L.map (·.2)
theorem bds_len (L:List (BV×Wq.Bd)):(bds L).length=L.length:=by simp[bds]
theorem bds_at (L:List (BV×Wq.Bd)) (k:Nat) (h:k < L.length):(bds L)[k]'(by rw[bds_len];exact h)=L[k].2:=by simp[bds]
theorem bds_app (L M:List (BV×Wq.Bd)):bds (L++M)=bds L++bds M:=by simp[bds]
theorem bvv_app (L M:List (BV×Wq.Bd)):bvv (L++M)=bvv L++bvv M:=by simp[bvv]
theorem bvv_at (L:List (BV×Wq.Bd)) (k:Nat) (h:k < L.length) (j:Nat) (hj:j < 4):(bvv L)[k * 4+j]?=(bvl L[k])[j]?:=flat_at bvl 4 (by decide) L (fun _ _=>rfl) k h j hj
theorem bvv_len (L:List (BV×Wq.Bd)):(bvv L).length=L.length * 4:=flat_len bvl 4 L (fun _ _=>rfl)
structure RdBs (w:World) (B:Nat) (A:Option Addr) (n c:Nat) (L:List (BV×Wq.Bd)):Prop where
 len:L.length=n
 rd:Rd w B 4 A n c (bvv L)
 each:∀p∈L,Rd w B 1 p.1.A p.2.v.length p.1.c (bv p.2.v)
 wf:∀p∈L,(Lit.int .i64 p.2.o).wf=true
theorem RdBs.go {w w':World} {A:Option Addr} {n c:Nat} {L:List (BV×Wq.Bd)} (h:RdBs w w.heap.size A n c L) (hb:Below w.heap.size w w'):RdBs w' w'.heap.size A n c L:=⟨h.len,h.rd.go hb,fun p hp=>(h.each p hp).go hb,h.wf⟩
theorem RdBs.below {w w':World} {B:Nat} {A:Option Addr} {n c:Nat} {L:List (BV×Wq.Bd)} (h:RdBs w B A n c L) (hb:Below B w w'):RdBs w' B A n c L:=⟨h.len,h.rd.below hb,fun p hp=>(h.each p hp).below hb,h.wf⟩
theorem RdBs.more {w:World} {B B':Nat} {A:Option Addr} {n c:Nat} {L:List (BV×Wq.Bd)} (h:RdBs w B A n c L) (hb:B≤B'):RdBs w B' A n c L:=⟨h.len,h.rd.more hb,fun p hp=>(h.each p hp).more hb,h.wf⟩
theorem RdBs.none_ (w:World) (B:Nat):RdBs w B none 0 0 []:=⟨rfl,Rd.none_,(fun p hp=>by cases hp),(fun p hp=>by cases hp)⟩
theorem RdBs.body {w:World} {B n c k:Nat} {A:Option Addr} {L:List (BV×Wq.Bd)} (h:RdBs w B A n c L) (hk:k < L.length):
  ∃b o,A=some ⟨b,o,none⟩∧b < B∧w.cell? ⟨b,o+k * 4,none⟩=some (.int .i64 L[k].2.o)∧w.cell? ⟨b,o+k * 4+1,none⟩=some (.int .i64 L[k].2.s.1) ∧
   w.cell? ⟨b,o+k * 4+2,none⟩=some (.int .i64 L[k].2.s.2)∧w.cell? ⟨b,o+k * 4+3,none⟩=some (.slice L[k].1.A L[k].2.v.length L[k].1.c):=by
 have hl:=h.len
 obtain⟨b,o,rfl,hb,hc⟩:=h.rd.plain (by omega) (by decide)
 have e:∀j,j < 4→∀u,(bvl L[k])[j]?=some u→w.cell? ⟨b,o+k * 4+j,none⟩=some u:=fun j hj u hu=>by
  rw[Nat.add_assoc]
  exact hc (k * 4+j) u (by rw[bvv_at L k hk j hj,hu])
 exact⟨b,o,rfl,hb,e 0 (by decide) _ rfl,e 1 (by decide) _ rfl,e 2 (by decide) _ rfl,e 3 (by decide) _ rfl⟩
theorem RdBs.max {w:World} {B n c:Nat} {A:Option Addr} {L:List (BV×Wq.Bd)} (h:RdBs w B A n c L):n≤9223372036854775807:=by
 have h1:=h.rd.cap;have h2:=h.rd.max;unfold maxLen at h2;omega
theorem usedB_take (l:List Wq.Bd) (k:Nat) (h:k < l.length):usedB (l.take (k+1))=usedB (l.take k)+l[k].v.length:=by
 rw[List.take_add_one,List.getElem?_eq_getElem h]
 exact usedB_snoc _ _
theorem usedB_le:∀(l:List Wq.Bd) (k:Nat),usedB (l.take k)≤usedB l
 | [],k=>by simp
 | x :: r,0=>by simp[usedB]
 | x :: r,k+1=>by rw[List.take_succ_cons,usedB,usedB];have:=usedB_le r k;omega
theorem newsB_used:∀(l:List Wq.Bd) (seen:List Int),newsB seen l=true→usedB l≤256 * l.length
 | [],_,_=>by simp[usedB]
 | x :: r,seen,h=>by
  rw[newsB,Bool.and_eq_true,Bool.and_eq_true] at h
  have h1:=newsB_used r _ h.2
  have h2:=((Wq.bdF_iff x).1 h.1.2).2.2.2.2.2
  rw[usedB,List.length_cons];omega
theorem cacheUsed_any (A:Option Addr) (n c:Nat) (L:List (BV×Wq.Bd)) (w:World) (hR:RdBs w w.heap.size A n c L) (hu:usedB (bds L)≤9223372036854775807):
  Calls Tryz.prog 163 #[.slice A n c] w fun e w'=>e=.returned (.int .i64 (usedB (bds L):Nat))∧Below w.heap.size w w':=by
 have hmax:=hR.max
 have HL:=Hz_ hR.len
 have HW:=Hz_ fun (W:World) (hb:Below w.heap.size w W) k (hk:k < L.length)=>(hR.below hb).body hk
 have HS:=Hz_ fun k (hk:k < (bds L).length)=>usedB_take (bds L) k hk
 have HE:=Hz_ fun k=>usedB_le (bds L) k
 clear hR
 go_enter Tryz.func163,Tryz.ntmps163
 go_wp2
 go_loopw [3,8] (fun a i wr=>∃(j:Nat),j≤n∧i=.int .i64 j∧a=.int .i64 (usedB ((bds L).take j):Nat)∧Below w.heap.size w wr) (fun _ i _=>n - (intOf i).toNat)
 case atStart=>exact⟨0,by omega,rfl,rfl,Below.refl _ _⟩
 case round=>
  obtain⟨j,hj,rfl,rfl,hb⟩:=hrel
  by_cases hlt:j < n
  ·have hjl:j < L.length:=by rw[HL.out];exact hlt
   obtain⟨b,o,rfl,hbb,g0,g1,g2,g3⟩:=HW.out wr hb j hjl
   have hs:=HS.out j (by rw[bds_len];exact hjl)
   have hle:=HE.out (j+1)
   rw[bds_at L j hjl] at hs
   have HN:=Hz_ hs
   have e1:((usedB ((bds L).take j):Nat):Int)+(L[j].2.v.length:Int)=((usedB ((bds L).take (j+1)):Nat):Int):=by rw[hs];omega
   have e2:IntKind.i64.wrap ((usedB ((bds L).take (j+1)):Nat):Int)=((usedB ((bds L).take (j+1)):Nat):Int):=IntWalk.i64_in _ (by omega)
   obtain⟨u2,hu2⟩:∃u2,u2=usedB ((bds L).take (j+1)):=⟨_,rfl⟩
   have HU:=Hz_ hu2
   rw[←hu2] at e1 e2 HN
   clear hu2
   generalize usedB ((bds L).take j)=u1 at e1 HN ⊢
   generalize L[j].2.o=x0 at g0
   generalize L[j].2.s.1=x1 at g1
   generalize L[j].2.s.2=x2 at g2
   generalize L[j].2.v.length=m at g3 e1 HN
   generalize L[j].1.A=x3 at g3
   generalize L[j].1.c=x4 at g3
   clear hs hle
   have HB:=Hz_ (hb.alloc hb.size (.cells #[.int .i64 x0,.int .i64 x1,.int .i64 x2,.slice x3 m x4] 31))
   go_wp2
   go_roundw
   case rel=>exact⟨j+1,by omega,by go_num,by rw[←HU.out],HB.out⟩
   case measure=>simp[intOf];omega
  ·obtain rfl:j=n:=by omega
   have HN:=Hz_ (show usedB ((bds L).take j)=usedB (bds L) by rw[List.take_of_length_le (by rw[bds_len,HL.out];exact Nat.le_refl _)])
   rw[HN.out]
   go_wp2
   go_ret
   exact⟨rfl,hb⟩
theorem cacheRight_any (x:Wq.Bd) (A:Option Addr) (c:Nat) (w:World):
  Calls Tryz.prog 162 #[.agg (bval x A c)] w fun e w'=>e=.returned (.bool (Wq.bdF x))∧Below w.heap.size w w':=by
 obtain⟨o,⟨a,b⟩,v⟩:=x
 unfold bval Wq.bdF
 dsimp only
 generalize v.length=n
 have hX:=Blk.new w 31 #[.int .i64 o,.int .i64 a,.int .i64 b,.slice A n c]
 have hb0:Below w.heap.size w (w.alloc (.cells #[.int .i64 o,.int .i64 a,.int .i64 b,.slice A n c] 31)):=(Below.refl _ _).alloc (Nat.le_refl _) _
 have HX:=Hz_ hX
 have HB:=Hz_ hb0
 have HG:=Hz_ fun W=>right_any a b W
 have e2:decide (n≤256)=decide ((n:Int)≤256):=by rw[Bool.eq_iff_iff];simp;omega
 rw[e2]
 clear hX hb0 e2
 generalize Vc.right (a,b)=z at HG
 by_cases h0:0≤o
 ·by_cases h1:o < 256
  ·have e1:decide (o≤255)=true:=by simp;omega
   have h2:o≤255:=by omega
   rw[decide_eq_true h0,e1]
   simp only[Bool.true_and]
   rcases z with _ | _
   all_goals
    go_enter Tryz.func162,Tryz.ntmps162
    go_wp2_with (go_at_call 159;go_must (refine(HG.out _).mono ?_);rintro e w1 ⟨rfl,hb1⟩;have q2:=(HX.out.go hb1).cell 3)
    go_ret
    exact⟨rfl,btn HB.out hb1⟩
  ·have e1:decide (o≤255)=false:=by simp;omega
   have h2:¬ o≤255:=by omega
   rw[decide_eq_true h0,e1]
   simp only[Bool.true_and,Bool.false_and]
   go_enter Tryz.func162,Tryz.ntmps162
   go_wp2
   go_ret
   exact⟨rfl,HB.out⟩
 ·rw[decide_eq_false h0]
  simp only[Bool.false_and]
  go_enter Tryz.func162,Tryz.ntmps162
  go_wp2
  go_ret
  exact⟨rfl,HB.out⟩
def seenL (s:List Int):DataW Unit:=Maps.setOf (.lit (.bool true)) (s.map (Lit.int .i64))
theorem seenL_put (s:List Int) (o:Int):seenL (s++[o])=(seenL s).put (.int .i64 o) (.lit (.bool true)):=by
 unfold seenL
 rw[List.map_append]
 exact Maps.setOf_snoc _ _ _
theorem seenL_map (s:List Int):Maps.IsMap (seenL s):=by
 refine Maps.Tidy.isMap (Maps.tidy_setOf _ _ fun x hx=>?_)
 obtain⟨y,_,rfl⟩:=List.mem_map.1 hx
 trivial
theorem seenL_at (s:List Int) (o:Int):(seenL s).atKey (.int .i64 o) (.lit (.bool false))=.lit (.bool (s.contains o)):=by
 obtain⟨r,rfl⟩:∃r,s=r.reverse:=⟨s.reverse,(List.reverse_reverse s).symm⟩
 induction r with
 | nil=>rfl
 | cons x r ih=>
  rw[List.reverse_cons,seenL_put]
  by_cases h:o=x
  ·subst h
   rw[Maps.atKey_put_same (seenL_map _) (show WideAt.IsKeyLit (.int .i64 o) from trivial)]
   simp
  ·rw[Maps.atKey_put_other (by intro h2;injection h2 with _ h2;exact h h2),ih]
   congr 2
   simp[h]
theorem zero_bool (w:World):(zeroValue 4).run Tryz.prog w=.ok (.bool false) w:=rfl
theorem caF_of (l:List Wq.Bd) (room:Int) (h1:0≤room) (h2:room≤16777216) (h3:l.length≤256):caF l room=(newsB [] l && decide ((usedB l:Int)≤room)):=by
 unfold caF;rw[decide_eq_true h1,decide_eq_true h2,decide_eq_true h3];rfl
theorem caF_no (l:List Wq.Bd) (room:Int) (h:¬ (0≤room∧room≤16777216∧l.length≤256)):caF l room=false:=by
 unfold caF
 by_cases h1:0≤room
 ·by_cases h2:room≤16777216
  ·rw[decide_eq_false (fun h3:l.length≤256=>h ⟨h1,h2,h3⟩)];simp
  ·rw[decide_eq_false h2];simp
 ·rw[decide_eq_false h1];simp
theorem cacheFormed_any (A:Option Addr) (n c:Nat) (L:List (BV×Wq.Bd)) (room:Int) (w:World) (hR:RdBs w w.heap.size A n c L):
  Calls Tryz.prog 94 #[.slice A n c,.int .i64 room] w fun e w'=>e=.returned (.bool (caF (bds L) room))∧Below w.heap.size w w':=by
 have hmax:=hR.max
 have hmm:=@run_makeMap Tryz.prog
 have HL:=Hz_ hR.len
 have HRR:=Hz_ hR
 by_cases r1:room < 0
 ·have HN:=Hz_ (caF_no (bds L) room (by omega))
  rw[HN.out]
  go_enter Tryz.func94,Tryz.ntmps94
  go_wp2
  go_ret
  exact⟨rfl,Below.refl _ _⟩
 by_cases r2:room > 16777216
 ·have HN:=Hz_ (caF_no (bds L) room (by omega))
  rw[HN.out]
  go_enter Tryz.func94,Tryz.ntmps94
  go_wp2
  go_ret
  exact⟨rfl,Below.refl _ _⟩
 by_cases r3:(n:Int) > 256
 ·have HN:=Hz_ (caF_no (bds L) room (by rw[bds_len,HL.out];omega))
  rw[HN.out]
  go_enter Tryz.func94,Tryz.ntmps94
  go_wp2
  go_ret
  exact⟨rfl,Below.refl _ _⟩
 have HC:=Hz_ (caF_of (bds L) room (by omega) (by omega) (by rw[bds_len,HL.out];omega))
 have HW:=Hz_ fun (W:World) (hb:Below w.heap.size w W) k (hk:k < L.length)=>(hR.below hb).body hk
 have HD:=Hz_ fun seen k h=>newsB_drop seen (bds L) k h
 rw[HC.out]
 clear hR
 go_enter Tryz.func94,Tryz.ntmps94
 go_wp2
 go_loopw [22] (fun i wr=>∃(j:Nat),j≤n∧i=.int .i64 j∧Below w.heap.size w wr∧wr.ownsMap Tryz.prog 3 (plainElem Tryz.prog 4) w.heap.size j (seenL (((bds L).take j).map (·.o)))∧Hid (newsB [] (bds L)=newsB (((bds L).take j).map (·.o)) ((bds L).drop j))) (fun i _=>n - (intOf i).toNat)
 case atStart=>exact⟨0,by omega,rfl,(Below.refl _ _).alloc (Nat.le_refl _) _,World.ownsMap_made _ _ _ _,Hz_ rfl⟩
 case round=>
  obtain⟨j,hj,rfl,hb,hown,hr⟩:=hrel
  by_cases hlt:j < n
  ·have hjl:j < L.length:=by rw[HL.out];exact hlt
   have hjb:j < (bds L).length:=by rw[bds_len];exact hjl
   obtain⟨b,o,rfl,hbb,g0,g1,g2,g3⟩:=HW.out wr hb j hjl
   have hwf:=HRR.out.wf _ (List.getElem_mem hjl)
   have hkey:keyOf Tryz.prog 3 (.int .i64 L[j].2.o)=some (.int .i64 L[j].2.o):=Maps.keyOf_int_mk Tryz.underlying3 hwf
   have hd:=hr.out.trans (HD.out _ j hjb)
   have htk:((bds L).take (j+1)).map (·.o)=((bds L).take j).map (·.o)++[L[j].2.o]:=by rw[List.take_add_one,List.getElem?_eq_getElem hjb,List.map_append,bds_at L j hjl];rfl
   rw[bds_at L j hjl] at hd
   have hat:=seenL_at (((bds L).take j).map (·.o)) L[j].2.o
   have hput:=seenL_put (((bds L).take j).map (·.o)) L[j].2.o
   have G0:=fun W=>cacheRight_any L[j].2 L[j].1.A L[j].1.c W
   unfold bval at G0
   generalize Wq.bdF L[j].2=z at G0 hd
   have G:=Hz_ G0
   have HDD:=Hz_ hd
   have HTK:=Hz_ htk
   have HPUT:=Hz_ hput
   generalize ((bds L).take j).map (·.o)=seen at hown hat HTK HPUT HDD
   generalize L[j].2.o=x0 at g0 hwf hkey hat G HDD HTK HPUT
   generalize L[j].2.s.1=x1 at g1 G
   generalize L[j].2.s.2=x2 at g2 G
   generalize L[j].2.v.length=m at g3 G
   generalize L[j].1.A=x3 at g3 G
   generalize L[j].1.c=x4 at g3 G
   have HB:=Hz_ (hb.alloc hb.size (.cells #[.int .i64 x0,.int .i64 x1,.int .i64 x2,.slice x3 m x4] 31))
   have HX:=Hz_ (Blk.new wr 31 #[.int .i64 x0,.int .i64 x1,.int .i64 x2,.slice x3 m x4])
   have HO1:=Hz_ (hown.alloc (.cells #[.int .i64 x0,.int .i64 x1,.int .i64 x2,.slice x3 m x4] 31))
   generalize seen.contains x0=c0 at hat HDD
   have HAT:=Hz_ hat
   have hbz:=hb.size
   clear hown hd htk hput hat G0 hr hb hbb
   cases c0
   ·cases z
    ·have HN:=Hz_ (show newsB [] (bds L)=false by rw[HDD.out];rfl)
     go_wp2_with (first
      | (at_lookup;refine wpList_lookup_own_bool _ rfl _ _ 193 rfl 3 4 (Maps.int_keyed Tryz.underlying3) Tryz.underlying193 Tryz.underlying4 (zero_bool _) w.heap.size j _ rfl HO1.out _ _ rfl hkey ?_;intro c hc;rw[HAT.out] at hc;injection hc with hc;injection hc with hc;subst hc)
      | (go_at_call 162;go_must (refine(G.out _).mono ?_);rintro e w1 ⟨rfl,hb1⟩;have HB1:=Hz_ (btn HB.out hb1);have HO2:=Hz_ (HO1.out.kept (grown_belowE hb1 none) (by simp));obtain⟨y0,y1,y2,y3⟩:=(HX.out.go hb1).quad;clear hb1)
      | go_in)
     go_ret
     exact⟨by rw[HN.out];rfl,HB1.out⟩
    ·have HN:=Hz_ (show newsB [] (bds L)=newsB (seen++[x0]) ((bds L).drop (j+1)) by rw[HDD.out];rfl)
     go_wp2_with (first
      | (at_lookup;refine wpList_lookup_own_bool _ rfl _ _ 193 rfl 3 4 (Maps.int_keyed Tryz.underlying3) Tryz.underlying193 Tryz.underlying4 (zero_bool _) w.heap.size j _ rfl HO1.out _ _ rfl hkey ?_;intro c hc;rw[HAT.out] at hc;injection hc with hc;injection hc with hc;subst hc)
      | (go_at_call 162;go_must (refine(G.out _).mono ?_);rintro e w1 ⟨rfl,hb1⟩;have HB1:=Hz_ (btn HB.out hb1);have HO2:=Hz_ (HO1.out.kept (grown_belowE hb1 none) (by simp));obtain⟨y0,y1,y2,y3⟩:=(HX.out.go hb1).quad;clear hb1)
      | (at_mapUpdate;refine wpList_mapUpdate_own _ rfl _ _ _ 193 rfl 3 4 (Maps.int_keyed Tryz.underlying3) Tryz.underlying193 (plainElem (H:=Unit) Tryz.prog 4) w.heap.size j _ rfl HO2.out (by unfold maxLen;omega) _ _ _ rfl rfl hkey _ [] (plainElem_bool Tryz.underlying4 true) ?_;intro w2 hown2 hgrow2;have HO3:=Hz_ hown2;have HB2:=Hz_ (HB1.out.grown hgrow2 HB1.out.size (fun j hj=>by cases hj;exact Nat.le_refl _));clear hown2 hgrow2)
      | go_in)
     go_roundw
     case rel=>exact⟨j+1,by omega,by go_num,HB2.out,by rw[HTK.out,HPUT.out];exact HO3.out,by rw[HTK.out];exact HN⟩
     case measure=>simp[intOf];omega
   ·have HN:=Hz_ (show newsB [] (bds L)=false by rw[HDD.out];rfl)
    go_wp2_with (first
     | (at_lookup;refine wpList_lookup_own_bool _ rfl _ _ 193 rfl 3 4 (Maps.int_keyed Tryz.underlying3) Tryz.underlying193 Tryz.underlying4 (zero_bool _) w.heap.size j _ rfl HO1.out _ _ rfl hkey ?_;intro c hc;rw[HAT.out] at hc;injection hc with hc;injection hc with hc;subst hc)
     | go_in)
    go_ret
    exact⟨by rw[HN.out];rfl,HB.out⟩
  ·obtain rfl:j=n:=by omega
   have HN:=Hz_ (show newsB [] (bds L)=true by rw[hr.out,List.drop_of_length_le (by rw[bds_len,HL.out];exact Nat.le_refl _)];rfl)
   have G:=Hz_ (cacheUsed_any A j c L wr ((HRR.out.below hb).more hb.size) (by have:=newsB_used _ _ HN.out;rw[bds_len,HL.out] at this;omega))
   clear hr
   go_wp2_with fail
   refine G.out.mono ?_
   rintro e w1 ⟨rfl,hb1⟩
   have HB:=Hz_ (btn hb hb1)
   clear hb1
   generalize hu:usedB (bds L)=u
   have HU:=Hz_ hu
   clear hu
   go_wp2
   go_ret
   exact⟨by rw[HN.out,HU.out];rfl,HB.out⟩
end Go.Proofs.YtmbeahbgafkjfaaGreatDoor
