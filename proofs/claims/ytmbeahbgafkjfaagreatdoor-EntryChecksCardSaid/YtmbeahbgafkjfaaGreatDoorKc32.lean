/- Lemmas for the claim, layer 32. -/
import Derived.Test.YtmbeahbgafkjfaaGreatDoorKc31
set_option maxRecDepth 100000
set_option linter.unusedSimpArgs false
set_option maxHeartbeats 16000000
namespace Go.Proofs.YtmbeahbgafkjfaaGreatDoor
open Go.RowKit
structure VwOwn (w:World) (base:Nat) (u:VV) (v:Vw) (L:List (ZV×Zn)) (M:List (BV×Wq.Bd)):Prop where
 k:w.ownsRow base 28 2 (.slice u.kA v.known.length u.kc) v.known.length (sv v.known)
 z:OwnZ w base u.zA v.zones.length u.zc L
 nz:zns L=v.zones
 h:w.ownsRow base 70 4 (.slice u.hA v.held.length u.hc) v.held.length (wv v.held)
 b:OwnBd w base u.bA v.bods.length u.bc M
 nb:bds M=v.bods
theorem VwOwn.but {w w':World} {g base:Nat} {u:VV} {v:Vw} {L:List (ZV×Zn)} {M:List (BV×Wq.Bd)} (h:VwOwn w base u v L M) (hb:But g w w') (hg:g < base):VwOwn w' base u v L M:=
 ⟨own_but h.k hb hg,h.z.but hb hg,h.nz,own_but h.h hb hg,h.b.but hb hg,h.nb⟩
theorem VwOwn.below {w w':World} {base:Nat} {u:VV} {v:Vw} {L:List (ZV×Zn)} {M:List (BV×Wq.Bd)} (h:VwOwn w base u v L M) (hb:Below w.heap.size w w'):VwOwn w' base u v L M:=
 ⟨own_below h.k hb Zl,h.z.below hb,h.nz,own_below h.h hb Zl,h.b.below hb,h.nb⟩
theorem VwOwn.less {w:World} {base base':Nat} {u:VV} {v:Vw} {L:List (ZV×Zn)} {M:List (BV×Wq.Bd)} (h:VwOwn w base u v L M) (hb:base'<=base):VwOwn w base' u v L M:=
 ⟨own_less h.k hb,h.z.less hb,h.nz,own_less h.h hb,h.b.less hb,h.nb⟩
theorem VwOwn.rd {w:World} {base:Nat} {u:VV} {v:Vw} {L:List (ZV×Zn)} {M:List (BV×Wq.Bd)} (h:VwOwn w base u v L M) (hw:∀p∈M,(Lit.int .i64 p.2.o).wf=true):VwRd w w.heap.size u v L M:=
 ⟨Rd.of_own h.k,h.z.rd,h.nz,Rd.of_own h.h,h.b.rd hw,h.nb⟩
theorem But.set2 {g:Nat} {w W:World} (h:But g w W) {X i:Nat} (hX:w.heap.size<=X) (v:Value):But g w (W.setCell ⟨X,i,none⟩ v):=
 h.below ((Below.refl w.heap.size W).setCell (p:=⟨X,i,none⟩) hX v)
theorem TR.low {w w':World} {B N g:Nat} {l:List UInt8} (h:TR w g B l) (hb:Below N w w') (hg:g < N):TR w' g B l:=by
 obtain⟨⟨A,c,h1,h2⟩,h3,h4⟩:=h;exact⟨⟨A,c,h1.below hb hg,h2.below (hb.mono (by omega))⟩,h3,h4⟩
def Kp (t:TypeId) (w w':World):Prop:=∀(base:Nat) (e:TypeId) (size:Nat) (v:Value) (n:Nat) (xs:List Value),e≠t->w.ownsRow base e size v n xs->w'.ownsRow base e size v n xs
theorem Kp.blk {w w':World} {X:Nat} {t:TypeId} {cs:Array Value} (hB:Blk w X t cs) (k:But X w w'):Kp t w w':=fun _ _ _ _ _ _ he h=>
 own_butN h k fun hq=>by
  rcases own_blk h hB he with e | e
  ·rw[e] at hq;cases hq
  ·exact e hq
theorem VwOwn.kp {w w':World} {base:Nat} {t:TypeId} {u:VV} {v:Vw} {L:List (ZV×Zn)} {M:List (BV×Wq.Bd)} (h:VwOwn w base u v L M) (k:Kp t w w') (h1:28≠t) (h2:129≠t) (h3:70≠t) (h4:31≠t) (h5:5≠t):VwOwn w' base u v L M:=
 ⟨k _ _ _ _ _ _ h1 h.k,⟨k _ _ _ _ _ _ h2 h.z.row,fun p hp=>⟨(h.z.el p hp).1,k _ _ _ _ _ _ h1 (h.z.el p hp).2⟩⟩,h.nz,k _ _ _ _ _ _ h3 h.h,⟨k _ _ _ _ _ _ h4 h.b.row,fun p hp=>k _ _ _ _ _ _ h5 (h.b.el p hp)⟩,h.nb⟩
structure VC (w W:World) (g X base:Nat) (u:VV) (v:Vw) (L:List (ZV×Zn)) (M:List (BV×Wq.Bd)):Prop where
 blk:Blk W X 35 (vval v u)
 own:VwOwn W base u v L M
 but:But g w W
 hg:g < base
 hw:w.heap.size<=base
 hX:base<=X+1
 ne:X≠g
 hwX:w.heap.size<=X
section
variable {w W W':World} {g X base:Nat} {u:VV} {v:Vw} {L:List (ZV×Zn)} {M:List (BV×Wq.Bd)}
theorem VC.call (h:VC w W g X base u v L M) (hb:But g W W'):VC w W' g X base u v L M:=
 ⟨h.blk.but hb h.ne,h.own.but hb h.hg,h.but.trans hb,h.hg,h.hw,h.hX,h.ne,h.hwX⟩
theorem VC.grow (h:VC w W g X base u v L M) (hb:Below W.heap.size W W'):VC w W' g X base u v L M:=
 ⟨h.blk.go hb,h.own.below hb,h.but.trans (But.of hb),h.hg,h.hw,h.hX,h.ne,h.hwX⟩
theorem rd_new {W:World} {t:TypeId} {cs:Array Value} (_:Below W.heap.size W (W.alloc (.cells cs t))) {size n:Nat} (hn:cs.size=n * size) (hm:n<=maxLen):Rd (W.alloc (.cells cs t)) (W.alloc (.cells cs t)).heap.size size (some ⟨W.heap.size,0,none⟩) n n cs.toList:=by
 rw[World.size_alloc];exact Rd.new W t size n cs hn hm
theorem VC.put {u':VV} {v':Vw} (h:VC w W g X base u v L M) (i:Nat) (z:Value) (hB:Blk (W.setCell ⟨X,i,none⟩ z) X 35 (vval v' u')) (ho:VwOwn W base u' v' L M):VC w (W.setCell ⟨X,i,none⟩ z) g X base u' v' L M:=
 ⟨hB,ho.kp (Kp.blk h.blk (But.set_ (g:=X) W (p:=⟨X,i,none⟩) rfl _)) (by decide) (by decide) (by decide) (by decide) (by decide),h.but.set2 h.hwX _,h.hg,h.hw,h.hX,h.ne,h.hwX⟩
theorem VC.known_ (h:VC w W g X base u v L M) {A:Option Addr} {c:Nat} {kn:List Vc.St} (ho:W.ownsRow base 28 2 (.slice A kn.length c) kn.length (sv kn)):
  VC w (W.setCell ⟨X,0,none⟩ (.slice A kn.length c)) g X base ⟨A,c,u.zA,u.zc,u.hA,u.hc,u.bA,u.bc⟩ ⟨kn,v.zones,v.held,v.bods,v.room⟩ L M:=
 h.put 0 _ (u':=⟨A,c,u.zA,u.zc,u.hA,u.hc,u.bA,u.bc⟩) (v':=⟨kn,v.zones,v.held,v.bods,v.room⟩) (h.blk.set_ 0 _) ⟨ho,h.own.z,h.own.nz,h.own.h,h.own.b,h.own.nb⟩
theorem VC.room_ (h:VC w W g X base u v L M) (m:Int):
  VC w (W.setCell ⟨X,4,none⟩ (.int .i64 m)) g X base u ⟨v.known,v.zones,v.held,v.bods,m⟩ L M:=
 h.put 4 _ (u':=u) (v':=⟨v.known,v.zones,v.held,v.bods,m⟩) (h.blk.set_ 4 _) ⟨h.own.k,h.own.z,h.own.nz,h.own.h,h.own.b,h.own.nb⟩
theorem VC.grew {size n:Nat} {e:TypeId} {t:Value} {xs:List Value} {u':VV} {v':Vw} {L':List (ZV×Zn)} {M':List (BV×Wq.Bd)} (h:VC w W g X base u v L M) (hr:W.ownsRow base e size t n xs) (hgr:W.grownBy W' t.ownBlock) (he:e≠35) (i:Nat) (z:Value)
  (hB:Blk W' X 35 (vval v u)->Blk (W'.setCell ⟨X,i,none⟩ z) X 35 (vval v' u')) (ho:VwOwn W' base u' v' L' M'):VC w (W'.setCell ⟨X,i,none⟩ z) g X base u' v' L' M':=by
 have hb:=blk_grow h.blk hr hgr he;exact⟨hB hb,ho.kp (Kp.blk hb (But.set_ (g:=X) W' (p:=⟨X,i,none⟩) rfl _)) (by decide) (by decide) (by decide) (by decide) (by decide),(h.but.below ((grown_below hgr (Nat.le_trans h.hX h.blk.lt) (fun k hk=>(hr.lt k hk).1)).mono h.hw)).set2 h.hwX _,h.hg,h.hw,h.hX,h.ne,h.hwX⟩
theorem VC.zone (h:VC w W g X base u v L M) {p:ZV×Zn} (hp:p.2.2.length=p.1.n/\W.ownsRow base 28 2 (.slice p.1.A p.1.n p.1.c) p.1.n (sv p.2.2)) {A':Option Addr} {c':Nat}
  (hgr:W.grownBy W' (Value.slice u.zA v.zones.length u.zc).ownBlock) (ho:W'.ownsRow base 129 3 (.slice A' (v.zones.length+1) c') (v.zones.length+1) (zvv L++zvl p)):
  VC w (W'.setCell ⟨X,1,none⟩ (.slice A' (v.zones.length+1) c')) g X base ⟨u.kA,u.kc,A',c',u.hA,u.hc,u.bA,u.bc⟩ ⟨v.known,v.zones++[p.2],v.held,v.bods,v.room⟩ (L++[p]) M:=by
 have hl:(v.zones++[p.2]).length=v.zones.length+1:=by simp
 have hr:=h.own.z.row;refine h.grew hr hgr (by decide) 1 _ (fun hB=>?_) ⟨h.own.k.kept hgr (own_two h.own.k hr (by decide)),?_,?_,h.own.h.kept hgr (own_two h.own.h hr (by decide)),h.own.b.row_ hr (by decide) (by decide) hgr,h.own.nb⟩
 ·have:=hB.set_ 1 (.slice A' (v.zones.length+1) c');unfold vval;dsimp only;rw[hl];exact this
 ·dsimp only;rw[hl];exact h.own.z.push hp hgr ho
 ·show zns (L++[p])=v.zones++[p.2];rw[zns_app,h.own.nz];rfl
theorem VC.write (h:VC w W g X base u v L M) {q:Wr} {A':Option Addr} {c':Nat}
  (hgr:W.grownBy W' (Value.slice u.hA v.held.length u.hc).ownBlock) (ho:W'.ownsRow base 70 4 (.slice A' (v.held.length+1) c') (v.held.length+1) (wv v.held++wc q)):
  VC w (W'.setCell ⟨X,2,none⟩ (.slice A' (v.held.length+1) c')) g X base ⟨u.kA,u.kc,u.zA,u.zc,A',c',u.bA,u.bc⟩ ⟨v.known,v.zones,v.held++[q],v.bods,v.room⟩ L M:=by
 have hl:(v.held++[q]).length=v.held.length+1:=by simp
 have hr:=h.own.h;refine h.grew hr hgr (by decide) 2 _ (fun hB=>?_) ⟨h.own.k.kept hgr (own_two h.own.k hr (by decide)),h.own.z.row_ hr (by decide) (by decide) hgr,h.own.nz,?_,h.own.b.row_ hr (by decide) (by decide) hgr,h.own.nb⟩
 ·have:=hB.set_ 2 (.slice A' (v.held.length+1) c');unfold vval;dsimp only;rw[hl];exact this
 ·dsimp only;rw[hl];have e:wv (v.held++[q])=wv v.held++wc q:=by simp[wv]
  rw[e];exact ho
theorem VC.body (h:VC w W g X base u v L M) {p:BV×Wq.Bd} (hp:W.ownsRow base 5 1 (.slice p.1.A p.2.v.length p.1.c) p.2.v.length (bv p.2.v)) {A':Option Addr} {c':Nat}
  (hgr:W.grownBy W' (Value.slice u.bA v.bods.length u.bc).ownBlock) (ho:W'.ownsRow base 31 4 (.slice A' (v.bods.length+1) c') (v.bods.length+1) (bvv M++bvl p)):
  VC w (W'.setCell ⟨X,3,none⟩ (.slice A' (v.bods.length+1) c')) g X base ⟨u.kA,u.kc,u.zA,u.zc,u.hA,u.hc,A',c'⟩ ⟨v.known,v.zones,v.held,v.bods++[p.2],v.room⟩ L (M++[p]):=by
 have hl:(v.bods++[p.2]).length=v.bods.length+1:=by simp
 have hr:=h.own.b.row;refine h.grew hr hgr (by decide) 3 _ (fun hB=>?_) ⟨h.own.k.kept hgr (own_two h.own.k hr (by decide)),h.own.z.row_ hr (by decide) (by decide) hgr,h.own.nz,h.own.h.kept hgr (own_two h.own.h hr (by decide)),?_,?_⟩
 ·have:=hB.set_ 3 (.slice A' (v.bods.length+1) c');unfold vval;dsimp only;rw[hl];exact this
 ·dsimp only;rw[hl];exact h.own.b.push hp hgr ho
 ·show bds (M++[p])=v.bods++[p.2];rw[bds_app,h.own.nb];rfl
end
structure VS (w W:World) (g X B:Nat) (cur:List UInt8) (u:VV) (v:Vw) (L:List (ZV×Zn)) (M:List (BV×Wq.Bd)):Prop extends VC w W g X (X+1) u v L M where
 tr:TR W g B cur
section
variable {w W W':World} {g X B:Nat} {cur cur':List UInt8} {u:VV} {v:Vw} {L:List (ZV×Zn)} {M:List (BV×Wq.Bd)}
theorem VS.call (h:VS w W g X B cur u v L M) (hb:But g W W') (ht:TR W' g B cur'):VS w W' g X B cur' u v L M:=⟨h.toVC.call hb,ht⟩
theorem VS.grow (h:VS w W g X B cur u v L M) (hb:Below W.heap.size W W'):VS w W' g X B cur u v L M:=⟨h.toVC.grow hb,h.tr.go hb⟩
theorem VS.new (_:VS w W g X B cur u v L M) (o:Obj):Below W.heap.size W (W.alloc o):=Zr.alloc Zl _
theorem VS.trs (h:VS w W g X B cur u v L M) (i:Nat) (z:Value):TR (W.setCell ⟨X,i,none⟩ z) g B cur:=h.tr.but (But.set_ (g:=X) W (p:=⟨X,i,none⟩) rfl _) (by have:=h.tr.le;have:=h.hg;have:=h.ne;omega) (fun e=>h.ne e.symm)
theorem VS.trg (h:VS w W g X B cur u v L M) {size n:Nat} {e:TypeId} {z:Value} {xs:List Value} (ho:W.ownsRow (X+1) e size z n xs) (hgr:W.grownBy W' z.ownBlock) (i:Nat) (y:Value):TR (W'.setCell ⟨X,i,none⟩ y) g B cur:=
 (h.tr.low (grown_below hgr h.blk.lt (fun k hk=>(ho.lt k hk).1)) h.hg).but (But.set_ (g:=X) W' (p:=⟨X,i,none⟩) rfl _) (by have:=h.tr.le;have:=h.hg;have:=h.ne;omega) (fun e=>h.ne e.symm)
theorem VS.known_ (h:VS w W g X B cur u v L M) {A:Option Addr} {c:Nat} {kn:List Vc.St} (ho:W.ownsRow (X+1) 28 2 (.slice A kn.length c) kn.length (sv kn)):
  VS w (W.setCell ⟨X,0,none⟩ (.slice A kn.length c)) g X B cur ⟨A,c,u.zA,u.zc,u.hA,u.hc,u.bA,u.bc⟩ ⟨kn,v.zones,v.held,v.bods,v.room⟩ L M:=⟨h.toVC.known_ ho,h.trs _ _⟩
theorem VS.room_ (h:VS w W g X B cur u v L M) (m:Int):
  VS w (W.setCell ⟨X,4,none⟩ (.int .i64 m)) g X B cur u ⟨v.known,v.zones,v.held,v.bods,m⟩ L M:=⟨h.toVC.room_ m,h.trs _ _⟩
theorem VS.zone (h:VS w W g X B cur u v L M) {p:ZV×Zn} (hp:p.2.2.length=p.1.n/\W.ownsRow (X+1) 28 2 (.slice p.1.A p.1.n p.1.c) p.1.n (sv p.2.2)) {A':Option Addr} {c':Nat}
  (hgr:W.grownBy W' (Value.slice u.zA v.zones.length u.zc).ownBlock) (ho:W'.ownsRow (X+1) 129 3 (.slice A' (v.zones.length+1) c') (v.zones.length+1) (zvv L++zvl p)):
  VS w (W'.setCell ⟨X,1,none⟩ (.slice A' (v.zones.length+1) c')) g X B cur ⟨u.kA,u.kc,A',c',u.hA,u.hc,u.bA,u.bc⟩ ⟨v.known,v.zones++[p.2],v.held,v.bods,v.room⟩ (L++[p]) M:=
 ⟨h.toVC.zone hp hgr ho,h.trg h.own.z.row hgr _ _⟩
theorem VS.write (h:VS w W g X B cur u v L M) {q:Wr} {A':Option Addr} {c':Nat}
  (hgr:W.grownBy W' (Value.slice u.hA v.held.length u.hc).ownBlock) (ho:W'.ownsRow (X+1) 70 4 (.slice A' (v.held.length+1) c') (v.held.length+1) (wv v.held++wc q)):
  VS w (W'.setCell ⟨X,2,none⟩ (.slice A' (v.held.length+1) c')) g X B cur ⟨u.kA,u.kc,u.zA,u.zc,A',c',u.bA,u.bc⟩ ⟨v.known,v.zones,v.held++[q],v.bods,v.room⟩ L M:=
 ⟨h.toVC.write hgr ho,h.trg h.own.h hgr _ _⟩
theorem VS.body (h:VS w W g X B cur u v L M) {p:BV×Wq.Bd} (hp:W.ownsRow (X+1) 5 1 (.slice p.1.A p.2.v.length p.1.c) p.2.v.length (bv p.2.v)) {A':Option Addr} {c':Nat}
  (hgr:W.grownBy W' (Value.slice u.bA v.bods.length u.bc).ownBlock) (ho:W'.ownsRow (X+1) 31 4 (.slice A' (v.bods.length+1) c') (v.bods.length+1) (bvv M++bvl p)):
  VS w (W'.setCell ⟨X,3,none⟩ (.slice A' (v.bods.length+1) c')) g X B cur ⟨u.kA,u.kc,u.zA,u.zc,u.hA,u.hc,A',c'⟩ ⟨v.known,v.zones,v.held,v.bods++[p.2],v.room⟩ L (M++[p]):=
 ⟨h.toVC.body hp hgr ho,h.trg h.own.b.row hgr _ _⟩
end
namespace Wq
theorem pZn_1 {l:List UInt8} (h:pI l=none):pZn l=none:=by simp only[pZn,pTwo,h]
theorem pZn_2 {l r:List UInt8} {a:Int} (h:pI l=some (a,r)) (h2:pI r=none):pZn l=none:=by simp only[pZn,pTwo,h,h2]
theorem pZn_3 {l r r2:List UInt8} {a b:Int} (h:pI l=some (a,r)) (h2:pI r=some (b,r2)) (h3:pV r2=none):pZn l=none:=by simp only[pZn,pTwo,h,h2,h3]
theorem pZn_4 {l r r2 r3:List UInt8} {a b:Int} {v:List Vc.St} (h:pI l=some (a,r)) (h2:pI r=some (b,r2)) (h3:pV r2=some (v,r3)):pZn l=some (((a,b),v),r3):=by simp only[pZn,pTwo,h,h2,h3]
theorem pHd_1 {l:List UInt8} (h:pI l=none):pHd l=none:=by simp only[pHd,pTwo,h]
theorem pHd_2 {l r:List UInt8} {a:Int} (h:pI l=some (a,r)) (h2:pI r=none):pHd l=none:=by simp only[pHd,pTwo,h,h2]
theorem pHd_3 {l r r2:List UInt8} {a b:Int} (h:pI l=some (a,r)) (h2:pI r=some (b,r2)) (h3:pI r2=none):pHd l=none:=by simp only[pHd,pTwo,h,h2,h3]
theorem pHd_4 {l r r2 r3:List UInt8} {a b c:Int} (h:pI l=some (a,r)) (h2:pI r=some (b,r2)) (h3:pI r2=some (c,r3)) (h4:pI r3=none):pHd l=none:=by simp only[pHd,pTwo,h,h2,h3,h4]
theorem pHd_5 {l r r2 r3 r4:List UInt8} {a b c d:Int} (h:pI l=some (a,r)) (h2:pI r=some (b,r2)) (h3:pI r2=some (c,r3)) (h4:pI r3=some (d,r4)):pHd l=if d=0 then some (((c,b),a,false),r4) else if d=1 then some (((c,b),a,true),r4) else none:=by simp only[pHd,pTwo,h,h2,h3,h4]
theorem vw4_no {k:List Vc.St} {z:List Zn} {h:List Wr} {b:List Bd} {l:List UInt8} (hp:pI l=none):vw4 k z h b l=none:=by unfold vw4;rw[hp]
theorem vw4_yes {k:List Vc.St} {z:List Zn} {h:List Wr} {b:List Bd} {l r:List UInt8} {m:Int} (hp:pI l=some (m,r)):vw4 k z h b l=some (⟨k,z,h,b,m⟩,r):=by unfold vw4;rw[hp]
end Wq
theorem readView_any (g:Nat) {B:Nat} (l:List UInt8) (w:World) (h:TR w g B l):
  Calls Tryz.prog 55 #[.pointer (some ⟨g,0,none⟩)] w fun e w'=>TkP Wq.pVw w g B l (fun v e w'=>∃u,e=.returned (.agg (vval v u))/\∃L M,VwOwn w' w.heap.size u v L M) e w':=by
 obtain⟨iz0,hzi0,hzz0,hzz1,hzz2⟩:=info_parts zone_info;obtain⟨iw0,hwi0,hwz0,hwz1,hwz2⟩:=info_parts writes_info;obtain⟨ib0,hbi0,hbz0,hbz1,hbz2⟩:=info_parts body_info;have h1max:1<=maxLen:=by unfold maxLen;omega
 have hlt:=h.lt;have hl32:=h.len;obtain⟨X,hX⟩:∃X,X=w.heap.size:=⟨_,rfl⟩;have hgX:g < X:=by omega
 have hb0:Below w.heap.size w (w.alloc (.cells #[.slice none 0 0,.slice none 0 0,.slice none 0 0,.slice none 0 0,.int .i64 0] 35)):=Zr.alloc Zl _;have hB0:=Blk.new w 35 #[.slice none 0 0,.slice none 0 0,.slice none 0 0,.slice none 0 0,.int .i64 0];have hs0:(w.alloc (.cells #[.slice none 0 0,.slice none 0 0,.slice none 0 0,.slice none 0 0,.int .i64 0] 35)).heap.size=X+1:=by rw[hX];simp
 have hw0:VS w (w.alloc (.cells #[.slice none 0 0,.slice none 0 0,.slice none 0 0,.slice none 0 0,.int .i64 0] 35)) g X B l ⟨none,0,none,0,none,0,none,0⟩ Wq.vw0 [] []:=
  ⟨⟨by rw[hX];exact hB0,⟨World.ownsRow_nil _ _ _ _,OwnZ.nil _ _,rfl,World.ownsRow_nil _ _ _ _,OwnBd.nil _ _,rfl⟩,But.of hb0,by omega,by omega,Nat.le_refl _,by omega,by omega⟩,h.go hb0⟩
 generalize hW0:w.alloc (.cells #[.slice none 0 0,.slice none 0 0,.slice none 0 0,.slice none 0 0,.int .i64 0] 35)=W0 at hw0 hs0;have HXs:=Hz_ hs0;have HW0:=Hz_ hW0;have HX:=Hz_ hX;have hXw:w.heap.size<=X:=by omega
 have KS:=Hz_ hw0;clear h hb0 hB0 hs0 hW0 hw0;go_enter Tryz.func55,Tryz.ntmps55;go_upto_region 1 with fail;rw[HW0.out,<-HX.out];clear hX
 -- what is known
 go_wp2_with fail;refine(takeVec_any g l W0 KS.out.tr).mono ?_;rintro e w1 (⟨hp,rfl,hb⟩ | ⟨kn,r1,hp,⟨kA,kc,rfl,ho⟩,ht,hb⟩)
 ·have HP:=Hz_ hp;have KB:=Hz_ (KS.out.but.trans hb);clear hp hb;unfold GU;go_wp2;exact⟨rfl,.inl ⟨Wq.pVw_no HP.out,rfl,KB.out⟩⟩
 have KS:=Hz_ (KS.out.call hb ht);have HO:=Hz_ (show w1.ownsRow (X+1) 28 2 (.slice kA kn.length kc) kn.length (sv kn) from own_less ho (by have:=HXs.out;omega));have HF:=Hz_ (Wq.pVw_yes hp);clear hp ho ht hb;have b0:w1.cell? ⟨X,0,none⟩=some (.slice none 0 0):=KS.out.blk.cell 0;have f0:=KS.out.blk.frozen 0;go_upto_region 2 with fail;have ks:=KS.out.known_ HO.out;clear b0 f0 HO KS;generalize w1.setCell ⟨X,0,none⟩ (.slice kA kn.length kc)=w2 at ks ⊢;have KS:=Hz_ (show VS w w2 g X B r1 ⟨kA,kc,none,0,none,0,none,0⟩ ⟨kn,[],[],[],0⟩ [] [] from ks);clear ks
 -- zones
 go_wp2_with fail;refine(entNumber_any g r1 w2 KS.out.tr).mono ?_;rintro e w3 (⟨hp,rfl,hb⟩ | ⟨x,r2,hp,rfl,ht,hb⟩)
 ·have HP:=Hz_ (HF.out.trans (Wq.lstK_no hp));have KB:=Hz_ (KS.out.but.trans hb);clear hp hb;unfold GU;go_wp2;exact⟨rfl,.inl ⟨HP.out,rfl,KB.out⟩⟩
 have KS:=Hz_ (KS.out.call hb ht);obtain⟨n,rfl,hn63,hn⟩:=Wq.lstK_yes (p:=Wq.pZn) (K:=fun z q=>Wq.vw2 kn z q) hp;have HF:=Hz_ (HF.out.trans hn);have hr2:=KS.out.tr.len;clear hp ht hb hn;go_wp2_with fail;go_loopw [3,4,5] (fun v3 _ _ wr=>∃(n:Nat) (cur:List UInt8) (zs:List Zn) (L:List (ZV×Zn)) (zA:Option Addr) (zc:Nat),v3=.int .i64 n/\Hid (VS w wr g X B cur ⟨kA,kc,zA,zc,none,0,none,0⟩ ⟨kn,zs,[],[],0⟩ L [])/\Hid (Wq.pVw l=Wq.repK Wq.pZn (fun z q=>Wq.vw2 kn z q) n cur zs)/\n < 9223372036854775808/\zs.length+cur.length<=4294967296) (fun v3 _ _ _=>(intOf v3).toNat)
 case atStart=>exact⟨n,r2,[],[],none,0,rfl,KS,HF,hn63,by simpa using hr2⟩
 case round=>
  clear KS HF;obtain⟨n,cur,zs,L,zA,zc,rfl,KS,HF,hn63,hlen⟩:=hrel;rcases n with _ | n;rotate_left
  ·have hpos:decide (((n+1:Nat):Int) > 0)=true:=decide_eq_true (by omega);go_wp2_with fail;refine(entNumber_any g cur wr KS.out.tr).mono ?_;rintro e w4 (⟨hp,rfl,hb⟩ | ⟨lo,q1,hp1,rfl,ht,hb⟩)
   ·have HP:=Hz_ (HF.out.trans (Wq.repK_no (Wq.pZn_1 hp)));have KB:=Hz_ (KS.out.but.trans hb);clear hp hb;unfold GU;go_wp2;exact⟨rfl,.inl ⟨HP.out,rfl,KB.out⟩⟩
   have KS:=Hz_ (KS.out.call hb ht);have HP1:=Hz_ hp1;clear ht hb hp1;go_wp2_with fail;refine(entNumber_any g q1 w4 KS.out.tr).mono ?_;rintro e w5 (⟨hp,rfl,hb⟩ | ⟨hi,q2,hp2,rfl,ht,hb⟩)
   ·have HP:=Hz_ (HF.out.trans (Wq.repK_no (Wq.pZn_2 HP1.out hp)));have KB:=Hz_ (KS.out.but.trans hb);clear hp hb;unfold GU;go_wp2;exact⟨rfl,.inl ⟨HP.out,rfl,KB.out⟩⟩
   have KS:=Hz_ (KS.out.call hb ht);have HP2:=Hz_ hp2;clear ht hb hp2;go_upto_region 7 with fail;have KS:=Hz_ (KS.out.grow (Below.refl _ w5).drew);refine region_pnc [] fun KK RR hKK hRR=>?_;refine wp_region_held_drew (S:=(fun _=>True)) (by kernel_rfl) (by first | trivial) (fun hHeld=>?_);refine puA 0 22 trivial ?_;refine puA 2 24 trivial ?_;refine puA 3 25 trivial ?_;refine puA 4 26 trivial ?_;refine puA 5 27 trivial ?_;refine wpAnyH_ready (rs:=[1,6]) (by kernel_rfl) (by simp) ?_;refine AllReadyH.cons rfl (fun K hK=>?_) (AllReadyH.cons rfl (fun K hK=>?_) AllReadyH.nil)
   ·have b1:World.cell? _ ⟨X,1,none⟩=some (Value.slice zA zs.length zc):=KS.out.blk.cell 1;go_simp;clear b1;refine hK.out _ _ trivial fun hHeld=>?_;clear hK K;refine puR 6 fun K hK=>?_;go_simp;refine(takeVec_any g q2 _ KS.out.tr).mono ?_;rintro e W6 (⟨hp,rfl,hb⟩ | ⟨vec,q3,hp3,⟨aA,ac,rfl,ho⟩,ht,hb⟩)
    ·exact⟨rfl,hRR _ _ fun a ha=>⟨ha,.inl ⟨HF.out.trans (Wq.repK_no (Wq.pZn_3 HP1.out HP2.out hp)),rfl,KS.out.but.trans hb⟩⟩⟩
    have hsz:=KS.out.blk.lt;have KS:=Hz_ (KS.out.call hb ht);have HV:=Hz_ (own_less ho hsz);have HP3:=Hz_ hp3;clear hp3 ho ht hb hsz;refine hK.out _ _ trivial fun hHeld=>?_;clear hK K;refine puA 7 29 trivial ?_;refine puR 8 fun K hK=>?_;go_simp;have hb':=KS.out.new (.cells #[.int .i64 lo,.int .i64 hi,.slice aA vec.length ac] 129);have C:=Hz_ (rd_new hb' (size:=3) (n:=1) rfl h1max);have KS:=Hz_ (KS.out.grow hb');have HV:=Hz_ (own_below HV.out hb' Zl);clear hb';refine hK.out _ _ trivial fun hHeld=>?_;clear hK K;refine puR 9 fun K hK=>?_;rw[if_pos (by kernel_rfl)];refine wp_append_rd _ (.tmp 23) (.tmp 30) _ rfl (X+1) 129 iz0 _ 3 40 Tryz.underlying32 hzi0 hzz0 hzz1 hzz2 rfl (by decide) _ zs.length (zvv L) rfl KS.out.own.z.row _ _ 1 1 [.int .i64 lo,.int .i64 hi,.slice aA vec.length ac] rfl C.out (by simp[Value.oneCell']) (by unfold maxLen;omega) (by omega) KS.out.blk.lt ?_;intro A9 c9 W9 ho hg hat;have KZ:=Hz_ (KS.out.zone (p:=(⟨aA,vec.length,ac⟩,((lo,hi),vec))) ⟨rfl,HV.out⟩ hg ho);have hB:=blk_grow KS.out.blk KS.out.own.z.row hg (by decide);have b1:W9.cell? ⟨X,1,none⟩=some (Value.slice zA zs.length zc):=hB.cell 1;have f1:=hB.frozen 1;clear hB ho hg hat KS C HV;refine hK.out _ _ trivial fun hHeld=>?_;clear hK K;refine puA 10 32 trivial ?_;refine puR 11 fun K hK=>?_;go_simp;clear b1 f1;refine hK.out _ _ trivial fun hHeld=>?_;clear hK K;refine wpAnyH_done (by kernel_rfl) ?_ _;refine Pnc.out (hKK _ _ ?_);clear hHeld hRR;go_wp2_with fail;go_roundw
    case rel=>
     have h3:=Wq.pZn_4 HP1.out HP2.out HP3.out;have h4:=Wq.pZn_short h3;exact⟨n,q3,zs++[((lo,hi),vec)],L++[(⟨aA,vec.length,ac⟩,((lo,hi),vec))],A9,c9,by go_num,KZ,Hz_ (HF.out.trans (Wq.repK_yes h3)),by omega,by rw[List.length_append];simp only[List.length_cons,List.length_nil];omega⟩
    case measure=>first | (simp[intOf];done) | (simp[intOf];omega)
   ·go_simp;refine(takeVec_any g q2 _ KS.out.tr).mono ?_;rintro e W6 (⟨hp,rfl,hb⟩ | ⟨vec,q3,hp3,⟨aA,ac,rfl,ho⟩,ht,hb⟩)
    ·exact⟨rfl,hRR _ _ fun a ha=>⟨ha,.inl ⟨HF.out.trans (Wq.repK_no (Wq.pZn_3 HP1.out HP2.out hp)),rfl,KS.out.but.trans hb⟩⟩⟩
    have hsz:=KS.out.blk.lt;have KS:=Hz_ (KS.out.call hb ht);have HV:=Hz_ (own_less ho hsz);have HP3:=Hz_ hp3;clear hp3 ho ht hb hsz;refine hK.out _ _ trivial fun hHeld=>?_;clear hK K;refine puA 7 29 trivial ?_;refine wpAnyH_ready (rs:=[1,8]) (by kernel_rfl) (by simp) ?_;refine AllReadyH.cons rfl (fun K hK=>?_) (AllReadyH.cons rfl (fun K hK=>?_) AllReadyH.nil)
    ·have b1:World.cell? _ ⟨X,1,none⟩=some (Value.slice zA zs.length zc):=KS.out.blk.cell 1;go_simp;clear b1;refine hK.out _ _ trivial fun hHeld=>?_;clear hK K;refine puR 8 fun K hK=>?_;go_simp;have hb':=KS.out.new (.cells #[.int .i64 lo,.int .i64 hi,.slice aA vec.length ac] 129);have C:=Hz_ (rd_new hb' (size:=3) (n:=1) rfl h1max);have KS:=Hz_ (KS.out.grow hb');have HV:=Hz_ (own_below HV.out hb' Zl);clear hb';refine hK.out _ _ trivial fun hHeld=>?_;clear hK K;refine puR 9 fun K hK=>?_;rw[if_pos (by kernel_rfl)];refine wp_append_rd _ (.tmp 23) (.tmp 30) _ rfl (X+1) 129 iz0 _ 3 40 Tryz.underlying32 hzi0 hzz0 hzz1 hzz2 rfl (by decide) _ zs.length (zvv L) rfl KS.out.own.z.row _ _ 1 1 [.int .i64 lo,.int .i64 hi,.slice aA vec.length ac] rfl C.out (by simp[Value.oneCell']) (by unfold maxLen;omega) (by omega) KS.out.blk.lt ?_;intro A9 c9 W9 ho hg hat;have KZ:=Hz_ (KS.out.zone (p:=(⟨aA,vec.length,ac⟩,((lo,hi),vec))) ⟨rfl,HV.out⟩ hg ho);have hB:=blk_grow KS.out.blk KS.out.own.z.row hg (by decide);have b1:W9.cell? ⟨X,1,none⟩=some (Value.slice zA zs.length zc):=hB.cell 1;have f1:=hB.frozen 1;clear hB ho hg hat KS C HV;refine hK.out _ _ trivial fun hHeld=>?_;clear hK K;refine puA 10 32 trivial ?_;refine puR 11 fun K hK=>?_;go_simp;clear b1 f1;refine hK.out _ _ trivial fun hHeld=>?_;clear hK K;refine wpAnyH_done (by kernel_rfl) ?_ _;refine Pnc.out (hKK _ _ ?_);clear hHeld hRR;go_wp2_with fail;go_roundw
     case rel=>
      have h3:=Wq.pZn_4 HP1.out HP2.out HP3.out;have h4:=Wq.pZn_short h3;exact⟨n,q3,zs++[((lo,hi),vec)],L++[(⟨aA,vec.length,ac⟩,((lo,hi),vec))],A9,c9,by go_num,KZ,Hz_ (HF.out.trans (Wq.repK_yes h3)),by omega,by rw[List.length_append];simp only[List.length_cons,List.length_nil];omega⟩
     case measure=>first | (simp[intOf];done) | (simp[intOf];omega)
    ·go_simp;have hb':=KS.out.new (.cells #[.int .i64 lo,.int .i64 hi,.slice aA vec.length ac] 129);have C:=Hz_ (rd_new hb' (size:=3) (n:=1) rfl h1max);have KS:=Hz_ (KS.out.grow hb');have HV:=Hz_ (own_below HV.out hb' Zl);clear hb';refine hK.out _ _ trivial fun hHeld=>?_;clear hK K;refine puR 1 fun K hK=>?_;have b1:World.cell? _ ⟨X,1,none⟩=some (Value.slice zA zs.length zc):=KS.out.blk.cell 1;go_simp;clear b1;refine hK.out _ _ trivial fun hHeld=>?_;clear hK K;refine puR 9 fun K hK=>?_;rw[if_pos (by kernel_rfl)];refine wp_append_rd _ (.tmp 23) (.tmp 30) _ rfl (X+1) 129 iz0 _ 3 40 Tryz.underlying32 hzi0 hzz0 hzz1 hzz2 rfl (by decide) _ zs.length (zvv L) rfl KS.out.own.z.row _ _ 1 1 [.int .i64 lo,.int .i64 hi,.slice aA vec.length ac] rfl C.out (by simp[Value.oneCell']) (by unfold maxLen;omega) (by omega) KS.out.blk.lt ?_;intro A9 c9 W9 ho hg hat;have KZ:=Hz_ (KS.out.zone (p:=(⟨aA,vec.length,ac⟩,((lo,hi),vec))) ⟨rfl,HV.out⟩ hg ho);have hB:=blk_grow KS.out.blk KS.out.own.z.row hg (by decide);have b1:W9.cell? ⟨X,1,none⟩=some (Value.slice zA zs.length zc):=hB.cell 1;have f1:=hB.frozen 1;clear hB ho hg hat KS C HV;refine hK.out _ _ trivial fun hHeld=>?_;clear hK K;refine puA 10 32 trivial ?_;refine puR 11 fun K hK=>?_;go_simp;clear b1 f1;refine hK.out _ _ trivial fun hHeld=>?_;clear hK K;refine wpAnyH_done (by kernel_rfl) ?_ _;refine Pnc.out (hKK _ _ ?_);clear hHeld hRR;go_wp2_with fail;go_roundw
     case rel=>
      have h3:=Wq.pZn_4 HP1.out HP2.out HP3.out;have h4:=Wq.pZn_short h3;exact⟨n,q3,zs++[((lo,hi),vec)],L++[(⟨aA,vec.length,ac⟩,((lo,hi),vec))],A9,c9,by go_num,KZ,Hz_ (HF.out.trans (Wq.repK_yes h3)),by omega,by rw[List.length_append];simp only[List.length_cons,List.length_nil];omega⟩
     case measure=>first | (simp[intOf];done) | (simp[intOf];omega)
  ·have HF:=Hz_ (HF.out.trans Wq.repK_zero);go_upto_region 8 with fail;go_wp2_with fail;refine(entNumber_any g cur wr KS.out.tr).mono ?_;rintro e w3 (⟨hp,rfl,hb⟩ | ⟨x,r2,hp,rfl,ht,hb⟩)
   ·have HP:=Hz_ (HF.out.trans (Wq.lstK_no hp));have KB:=Hz_ (KS.out.but.trans hb);clear hp hb;unfold GU;go_wp2;exact⟨rfl,.inl ⟨HP.out,rfl,KB.out⟩⟩
   have KS:=Hz_ (KS.out.call hb ht);obtain⟨n,rfl,hn63,hn⟩:=Wq.lstK_yes (p:=Wq.pHd) (K:=fun h q=>Wq.vw3 kn zs h q) hp;have HF:=Hz_ (HF.out.trans hn);have hr2:=KS.out.tr.len;clear hp ht hb hn;go_wp2_with fail;go_loopw [6,7] (fun v6 _ wr=>∃(n:Nat) (cur:List UInt8) (hs:List Wr) (hA:Option Addr) (hc:Nat),v6=.int .i64 n/\Hid (VS w wr g X B cur ⟨kA,kc,zA,zc,hA,hc,none,0⟩ ⟨kn,zs,hs,[],0⟩ L [])/\Hid (Wq.pVw l=Wq.repK Wq.pHd (fun h q=>Wq.vw3 kn zs h q) n cur hs)/\n < 9223372036854775808/\hs.length+cur.length<=4294967296) (fun v6 _ _=>(intOf v6).toNat)
   case atStart=>exact⟨n,r2,[],none,0,rfl,KS,HF,hn63,by simpa using hr2⟩
   case round=>
    clear KS HF;obtain⟨n,cur,hs,hA,hc,rfl,KS,HF,hn63,hlen⟩:=hrel;rcases n with _ | n;rotate_left
    ·have hpos:decide (((n+1:Nat):Int) > 0)=true:=decide_eq_true (by omega);obtain⟨Y,hY⟩:∃Y,Y=wr.heap.size:=⟨_,rfl⟩;have hgY:g < Y:=by have:=KS.out.blk.lt;omega
     have hb0:=KS.out.new (.cells #[.int .i64 0,.int .i64 0,.int .i64 0,.bool false] 70);have hY0:=Blk.new wr 70 #[.int .i64 0,.int .i64 0,.int .i64 0,.bool false];have kt:=KS.out.tr.go hb0;have kb:=But.of (g:=g) hb0;rw[<-hY] at hY0;generalize hV0:wr.alloc (.cells #[.int .i64 0,.int .i64 0,.int .i64 0,.bool false] 70)=V0 at hY0 kt kb;have HV0:=Hz_ hV0;have YB:=Hz_ hY0;have KT:=Hz_ kt;have KB:=Hz_ kb;have HY:=Hz_ hY;have hYl:wr.heap.size<=Y:=by omega
     clear hb0 hY0 kt kb hV0;go_upto_region 12 with fail;rw[HV0.out,<-HY.out];clear hY;go_wp2_with fail;refine(entNumber_any g cur V0 KT.out).mono ?_;rintro e V1 (⟨hp,rfl,hb⟩ | ⟨ob,q1,hp1,rfl,ht,hb⟩)
     ·have HP:=Hz_ (HF.out.trans (Wq.repK_no (Wq.pHd_1 hp)));have KB:=Hz_ (KS.out.but.trans (KB.out.trans hb));clear hp hb;unfold GU;go_wp2;exact⟨rfl,.inl ⟨HP.out,rfl,KB.out⟩⟩
     have KT:=Hz_ ht;have KB:=Hz_ (KB.out.trans hb);have YB:=Hz_ (YB.out.but hb (by omega));have HP1:=Hz_ hp1;clear ht hb hp1;have b0:V1.cell? ⟨Y,2,none⟩=some (.int .i64 0):=YB.out.cell 2;have f0:=YB.out.frozen 2;go_upto_region 13 with fail;have hu:But Y V1 (V1.setCell ⟨Y,2,none⟩ (.int .i64 ob)):=But.set_ V1 (p:=⟨Y,2,none⟩) rfl _;have yb:Blk (V1.setCell ⟨Y,2,none⟩ (.int .i64 ob)) Y 70 #[.int .i64 0,.int .i64 0,.int .i64 ob,.bool false]:=YB.out.set_ 2 _;have kb:=KB.out.set2 (i:=2) hYl (.int .i64 ob);have kt:=KT.out.but hu (by have:=KT.out.le;omega) (by omega);generalize V1.setCell ⟨Y,2,none⟩ (.int .i64 ob)=V2 at yb kb kt ⊢;have YB:=Hz_ yb;have KB:=Hz_ kb;have KT:=Hz_ kt;clear b0 f0 hu yb kb kt;go_wp2_with fail;refine(entNumber_any g q1 V2 KT.out).mono ?_;rintro e V3 (⟨hp,rfl,hb⟩ | ⟨nd,q2,hp2,rfl,ht,hb⟩)
     ·have HP:=Hz_ (HF.out.trans (Wq.repK_no (Wq.pHd_2 HP1.out hp)));have KB:=Hz_ (KS.out.but.trans (KB.out.trans hb));clear hp hb;unfold GU;go_wp2;exact⟨rfl,.inl ⟨HP.out,rfl,KB.out⟩⟩
     have KT:=Hz_ ht;have KB:=Hz_ (KB.out.trans hb);have YB:=Hz_ (YB.out.but hb (by omega));have HP2:=Hz_ hp2;clear ht hb hp2;have b0:V3.cell? ⟨Y,1,none⟩=some (.int .i64 0):=YB.out.cell 1;have f0:=YB.out.frozen 1;go_upto_region 14 with fail;have hu:But Y V3 (V3.setCell ⟨Y,1,none⟩ (.int .i64 nd)):=But.set_ V3 (p:=⟨Y,1,none⟩) rfl _;have yb:Blk (V3.setCell ⟨Y,1,none⟩ (.int .i64 nd)) Y 70 #[.int .i64 0,.int .i64 nd,.int .i64 ob,.bool false]:=YB.out.set_ 1 _;have kb:=KB.out.set2 (i:=1) hYl (.int .i64 nd);have kt:=KT.out.but hu (by have:=KT.out.le;omega) (by omega);generalize V3.setCell ⟨Y,1,none⟩ (.int .i64 nd)=V4 at yb kb kt ⊢;have YB:=Hz_ yb;have KB:=Hz_ kb;have KT:=Hz_ kt;clear b0 f0 hu yb kb kt;go_wp2_with fail;refine(entNumber_any g q2 V4 KT.out).mono ?_;rintro e V5 (⟨hp,rfl,hb⟩ | ⟨ct,q3,hp3,rfl,ht,hb⟩)
     ·have HP:=Hz_ (HF.out.trans (Wq.repK_no (Wq.pHd_3 HP1.out HP2.out hp)));have KB:=Hz_ (KS.out.but.trans (KB.out.trans hb));clear hp hb;unfold GU;go_wp2;exact⟨rfl,.inl ⟨HP.out,rfl,KB.out⟩⟩
     have KT:=Hz_ ht;have KB:=Hz_ (KB.out.trans hb);have YB:=Hz_ (YB.out.but hb (by omega));have HP3:=Hz_ hp3;clear ht hb hp3;have b0:V5.cell? ⟨Y,0,none⟩=some (.int .i64 0):=YB.out.cell 0;have f0:=YB.out.frozen 0;go_upto_region 15 with fail;have hu:But Y V5 (V5.setCell ⟨Y,0,none⟩ (.int .i64 ct)):=But.set_ V5 (p:=⟨Y,0,none⟩) rfl _;have yb:Blk (V5.setCell ⟨Y,0,none⟩ (.int .i64 ct)) Y 70 #[.int .i64 ct,.int .i64 nd,.int .i64 ob,.bool false]:=YB.out.set_ 0 _;have kb:=KB.out.set2 (i:=0) hYl (.int .i64 ct);have kt:=KT.out.but hu (by have:=KT.out.le;omega) (by omega);generalize V5.setCell ⟨Y,0,none⟩ (.int .i64 ct)=V6 at yb kb kt ⊢;have YB:=Hz_ yb;have KB:=Hz_ kb;have KT:=Hz_ kt;clear b0 f0 hu yb kb kt;go_wp2_with fail;refine(entNumber_any g q3 V6 KT.out).mono ?_;rintro e V7 (⟨hp,rfl,hb⟩ | ⟨gg,q4,hp4,rfl,ht,hb⟩)
     ·have HP:=Hz_ (HF.out.trans (Wq.repK_no (Wq.pHd_4 HP1.out HP2.out HP3.out hp)));have KB:=Hz_ (KS.out.but.trans (KB.out.trans hb));clear hp hb;unfold GU;go_wp2;exact⟨rfl,.inl ⟨HP.out,rfl,KB.out⟩⟩
     have KT:=Hz_ ht;have KB:=Hz_ (KB.out.trans hb);have YB:=Hz_ (YB.out.but hb (by omega));have h5:=Wq.pHd_5 HP1.out HP2.out HP3.out hp4;clear ht hb hp4 HP1 HP2 HP3;by_cases hg0:gg=0
     ·subst hg0;rw[if_pos rfl] at h5;have HP:=Hz_ h5;clear h5;go_upto_region 20 with fail;have KS:=Hz_ (KS.out.call KB.out KT.out);obtain⟨y0,y1,y2,y3⟩:=YB.out.quad;have b1:V7.cell? ⟨X,2,none⟩=some (Value.slice hA hs.length hc):=KS.out.blk.cell 2;have hn:=KS.out.new (.cells #[.int .i64 ct,.int .i64 nd,.int .i64 ob,.bool false] 70);have C:=Hz_ (rd_new hn (size:=4) (n:=1) rfl h1max);have KS:=Hz_ (KS.out.grow hn);clear hn;go_wp2_with (at_builtin;go_must (refine wpList_append_rd _ rfl (.tmp 60) (.tmp 62) _ rfl (X+1) 70 iw0 _ 4 32 Tryz.underlying24 hwi0 hwz0 hwz1 hwz2 rfl (by decide) _ hs.length (wv hs) rfl KS.out.own.h _ _ 1 1 [.int .i64 ct,.int .i64 nd,.int .i64 ob,.bool false] rfl C.out (by simp[Value.oneCell']) (by unfold maxLen;omega) (by omega) KS.out.blk.lt ?_);intro A9 c9 W9 ho hg hat;have KZ:=Hz_ (KS.out.write (q:=((ct,nd),ob,false)) hg ho);have hB:=blk_grow KS.out.blk KS.out.own.h hg (by decide);have b2:W9.cell? ⟨X,2,none⟩=some (Value.slice hA hs.length hc):=hB.cell 2;have f2:=hB.frozen 2;clear hB ho hg hat KS C b1 y0 y1 y2 y3);go_roundw
      case rel=>
       have h4:=Wq.pHd_short HP.out;exact⟨n,q4,hs++[((ct,nd),ob,false)],A9,c9,by go_num,KZ,Hz_ (HF.out.trans (Wq.repK_yes HP.out)),by omega,by rw[List.length_append];simp only[List.length_cons,List.length_nil];omega⟩
      case measure=>first | (simp[intOf];done) | (simp[intOf];omega)
     ·by_cases hg1:gg=1
      ·subst hg1;rw[if_neg (by decide),if_pos rfl] at h5;have HP:=Hz_ h5;clear h5 hg0;have b0:V7.cell? ⟨Y,3,none⟩=some (.bool false):=YB.out.cell 3;have f0:=YB.out.frozen 3;go_upto_region 20 with fail;have hu:But Y V7 (V7.setCell ⟨Y,3,none⟩ (.bool true)):=But.set_ V7 (p:=⟨Y,3,none⟩) rfl _;have yb:Blk (V7.setCell ⟨Y,3,none⟩ (.bool true)) Y 70 #[.int .i64 ct,.int .i64 nd,.int .i64 ob,.bool true]:=YB.out.set_ 3 _;have kb:=KB.out.set2 (i:=3) hYl (.bool true);have kt:=KT.out.but hu (by have:=KT.out.le;omega) (by omega);generalize V7.setCell ⟨Y,3,none⟩ (.bool true)=V8 at yb kb kt ⊢;have YB:=Hz_ yb;have KB:=Hz_ kb;have KT:=Hz_ kt;clear b0 f0 hu yb kb kt;have KS:=Hz_ (KS.out.call KB.out KT.out);obtain⟨y0,y1,y2,y3⟩:=YB.out.quad;have b1:V8.cell? ⟨X,2,none⟩=some (Value.slice hA hs.length hc):=KS.out.blk.cell 2;have hn:=KS.out.new (.cells #[.int .i64 ct,.int .i64 nd,.int .i64 ob,.bool true] 70);have C:=Hz_ (rd_new hn (size:=4) (n:=1) rfl h1max);have KS:=Hz_ (KS.out.grow hn);clear hn;go_wp2_with (at_builtin;go_must (refine wpList_append_rd _ rfl (.tmp 60) (.tmp 62) _ rfl (X+1) 70 iw0 _ 4 32 Tryz.underlying24 hwi0 hwz0 hwz1 hwz2 rfl (by decide) _ hs.length (wv hs) rfl KS.out.own.h _ _ 1 1 [.int .i64 ct,.int .i64 nd,.int .i64 ob,.bool true] rfl C.out (by simp[Value.oneCell']) (by unfold maxLen;omega) (by omega) KS.out.blk.lt ?_);intro A9 c9 W9 ho hg hat;have KZ:=Hz_ (KS.out.write (q:=((ct,nd),ob,true)) hg ho);have hB:=blk_grow KS.out.blk KS.out.own.h hg (by decide);have b2:W9.cell? ⟨X,2,none⟩=some (Value.slice hA hs.length hc):=hB.cell 2;have f2:=hB.frozen 2;clear hB ho hg hat KS C b1 y0 y1 y2 y3);go_roundw
       case rel=>
        have h4:=Wq.pHd_short HP.out;exact⟨n,q4,hs++[((ct,nd),ob,true)],A9,c9,by go_num,KZ,Hz_ (HF.out.trans (Wq.repK_yes HP.out)),by omega,by rw[List.length_append];simp only[List.length_cons,List.length_nil];omega⟩
       case measure=>first | (simp[intOf];done) | (simp[intOf];omega)
      ·rw[if_neg hg0,if_neg hg1] at h5;have HP:=Hz_ h5;have e0:(gg == 0)=false:=by simpa using hg0
       have e1:(gg == 1)=false:=by simpa using hg1
       clear h5;go_wp2;exact⟨rfl,.inl ⟨HF.out.trans (Wq.repK_no HP.out),rfl,KS.out.but.trans KB.out⟩⟩
    ·have HF:=Hz_ (HF.out.trans Wq.repK_zero);go_upto_region 21 with fail;go_wp2_with fail;refine(entNumber_any g cur wr KS.out.tr).mono ?_;rintro e w3 (⟨hp,rfl,hb⟩ | ⟨x,r2,hp,rfl,ht,hb⟩)
     ·have HP:=Hz_ (HF.out.trans (Wq.lstK_no hp));have KB:=Hz_ (KS.out.but.trans hb);clear hp hb;unfold GU;go_wp2;exact⟨rfl,.inl ⟨HP.out,rfl,KB.out⟩⟩
     have KS:=Hz_ (KS.out.call hb ht);obtain⟨n,rfl,hn63,hn⟩:=Wq.lstK_yes (p:=Wq.pB) (K:=fun b q=>Wq.vw4 kn zs hs b q) hp;have HF:=Hz_ (HF.out.trans hn);have hr2:=KS.out.tr.len;clear hp ht hb hn;go_wp2_with fail;go_loopw [8] (fun v8 wr=>∃(n:Nat) (cur:List UInt8) (bs:List Wq.Bd) (M:List (BV×Wq.Bd)) (bA:Option Addr) (bc:Nat),v8=.int .i64 n/\Hid (VS w wr g X B cur ⟨kA,kc,zA,zc,hA,hc,bA,bc⟩ ⟨kn,zs,hs,bs,0⟩ L M)/\Hid (Wq.pVw l=Wq.repK Wq.pB (fun b q=>Wq.vw4 kn zs hs b q) n cur bs)/\n < 9223372036854775808/\bs.length+cur.length<=4294967296) (fun v8 _=>(intOf v8).toNat)
     case atStart=>exact⟨n,r2,[],[],none,0,rfl,KS,HF,hn63,by simpa using hr2⟩
     case round=>
      clear KS HF;obtain⟨n,cur,bs,M,bA,bc,rfl,KS,HF,hn63,hlen⟩:=hrel;rcases n with _ | n;rotate_left
      ·have hpos:decide (((n+1:Nat):Int) > 0)=true:=decide_eq_true (by omega);go_upto_region 24 with fail;have KS:=Hz_ (KS.out.grow (Below.refl _ wr).drew);refine region_pnc [] fun KK RR hKK hRR=>?_;refine wp_region_held_drew (S:=(fun _=>True)) (by kernel_rfl) (by first | trivial) (fun hHeld=>?_);refine puA 0 71 trivial ?_;refine puA 2 73 trivial ?_;refine wpAnyH_ready (rs:=[1,3]) (by kernel_rfl) (by simp) ?_;refine AllReadyH.cons rfl (fun K hK=>?_) (AllReadyH.cons rfl (fun K hK=>?_) AllReadyH.nil)
       ·have b1:World.cell? _ ⟨X,3,none⟩=some (Value.slice bA bs.length bc):=KS.out.blk.cell 3;go_simp;clear b1;refine hK.out _ _ trivial fun hHeld=>?_;clear hK K;refine puR 3 fun K hK=>?_;go_simp;refine(takeBody_any g cur _ KS.out.tr).mono ?_;rintro e W6 (⟨hp,rfl,hb⟩ | ⟨⟨o_,⟨a_,b_⟩,xv⟩,q3,hp3,⟨xA,xc,rfl,ho⟩,ht,hb⟩)
        ·exact⟨rfl,hRR _ _ fun a ha=>⟨ha,.inl ⟨HF.out.trans (Wq.repK_no hp),rfl,KS.out.but.trans hb⟩⟩⟩
        rw[show bval ⟨o_,(a_,b_),xv⟩ xA xc=#[.int .i64 o_,.int .i64 a_,.int .i64 b_,.slice xA xv.length xc] from rfl];have hsz:=KS.out.blk.lt;have KS:=Hz_ (KS.out.call hb ht);have HV:=Hz_ (own_less ho hsz);have HP3:=Hz_ hp3;clear hp3 ho ht hb hsz;refine hK.out _ _ trivial fun hHeld=>?_;clear hK K;refine puR 4 fun K hK=>?_;go_simp;have hb':=KS.out.new (.cells #[.int .i64 o_,.int .i64 a_,.int .i64 b_,.slice xA xv.length xc] 31);have C:=Hz_ (rd_new hb' (size:=4) (n:=1) rfl h1max);have KS:=Hz_ (KS.out.grow hb');have HV:=Hz_ (own_below HV.out hb' Zl);clear hb';refine hK.out _ _ trivial fun hHeld=>?_;clear hK K;refine puR 5 fun K hK=>?_;rw[if_pos (by kernel_rfl)];refine wp_append_rd _ (.tmp 72) (.tmp 75) _ rfl (X+1) 31 ib0 _ 4 48 Tryz.underlying33 hbi0 hbz0 hbz1 hbz2 rfl (by decide) _ bs.length (bvv M) rfl KS.out.own.b.row _ _ 1 1 [.int .i64 o_,.int .i64 a_,.int .i64 b_,.slice xA xv.length xc] rfl C.out (by simp[Value.oneCell']) (by unfold maxLen;omega) (by omega) KS.out.blk.lt ?_;intro A9 c9 W9 ho hg hat;have KZ:=Hz_ (KS.out.body (p:=(⟨xA,xc⟩,⟨o_,(a_,b_),xv⟩)) HV.out hg ho);have hB:=blk_grow KS.out.blk KS.out.own.b.row hg (by decide);have b1:W9.cell? ⟨X,3,none⟩=some (Value.slice bA bs.length bc):=hB.cell 3;have f1:=hB.frozen 3;clear hB ho hg hat KS C HV;refine hK.out _ _ trivial fun hHeld=>?_;clear hK K;refine puA 6 77 trivial ?_;refine puR 7 fun K hK=>?_;go_simp;clear b1 f1;refine hK.out _ _ trivial fun hHeld=>?_;clear hK K;refine wpAnyH_done (by kernel_rfl) ?_ _;refine Pnc.out (hKK _ _ ?_);clear hHeld hRR;go_wp2_with fail;go_roundw
        case rel=>
         have h4:=Wq.pB_short HP3.out;exact⟨n,q3,bs++[⟨o_,(a_,b_),xv⟩],M++[(⟨xA,xc⟩,⟨o_,(a_,b_),xv⟩)],A9,c9,by go_num,KZ,Hz_ (HF.out.trans (Wq.repK_yes HP3.out)),by omega,by rw[List.length_append];simp only[List.length_cons,List.length_nil];omega⟩
        case measure=>first | (simp[intOf];done) | (simp[intOf];omega)
       ·go_simp;refine(takeBody_any g cur _ KS.out.tr).mono ?_;rintro e W6 (⟨hp,rfl,hb⟩ | ⟨⟨o_,⟨a_,b_⟩,xv⟩,q3,hp3,⟨xA,xc,rfl,ho⟩,ht,hb⟩)
        ·exact⟨rfl,hRR _ _ fun a ha=>⟨ha,.inl ⟨HF.out.trans (Wq.repK_no hp),rfl,KS.out.but.trans hb⟩⟩⟩
        rw[show bval ⟨o_,(a_,b_),xv⟩ xA xc=#[.int .i64 o_,.int .i64 a_,.int .i64 b_,.slice xA xv.length xc] from rfl];have hsz:=KS.out.blk.lt;have KS:=Hz_ (KS.out.call hb ht);have HV:=Hz_ (own_less ho hsz);have HP3:=Hz_ hp3;clear hp3 ho ht hb hsz;refine hK.out _ _ trivial fun hHeld=>?_;clear hK K;refine wpAnyH_ready (rs:=[1,4]) (by kernel_rfl) (by simp) ?_;refine AllReadyH.cons rfl (fun K hK=>?_) (AllReadyH.cons rfl (fun K hK=>?_) AllReadyH.nil)
        ·have b1:World.cell? _ ⟨X,3,none⟩=some (Value.slice bA bs.length bc):=KS.out.blk.cell 3;go_simp;clear b1;refine hK.out _ _ trivial fun hHeld=>?_;clear hK K;refine puR 4 fun K hK=>?_;go_simp;have hb':=KS.out.new (.cells #[.int .i64 o_,.int .i64 a_,.int .i64 b_,.slice xA xv.length xc] 31);have C:=Hz_ (rd_new hb' (size:=4) (n:=1) rfl h1max);have KS:=Hz_ (KS.out.grow hb');have HV:=Hz_ (own_below HV.out hb' Zl);clear hb';refine hK.out _ _ trivial fun hHeld=>?_;clear hK K;refine puR 5 fun K hK=>?_;rw[if_pos (by kernel_rfl)];refine wp_append_rd _ (.tmp 72) (.tmp 75) _ rfl (X+1) 31 ib0 _ 4 48 Tryz.underlying33 hbi0 hbz0 hbz1 hbz2 rfl (by decide) _ bs.length (bvv M) rfl KS.out.own.b.row _ _ 1 1 [.int .i64 o_,.int .i64 a_,.int .i64 b_,.slice xA xv.length xc] rfl C.out (by simp[Value.oneCell']) (by unfold maxLen;omega) (by omega) KS.out.blk.lt ?_;intro A9 c9 W9 ho hg hat;have KZ:=Hz_ (KS.out.body (p:=(⟨xA,xc⟩,⟨o_,(a_,b_),xv⟩)) HV.out hg ho);have hB:=blk_grow KS.out.blk KS.out.own.b.row hg (by decide);have b1:W9.cell? ⟨X,3,none⟩=some (Value.slice bA bs.length bc):=hB.cell 3;have f1:=hB.frozen 3;clear hB ho hg hat KS C HV;refine hK.out _ _ trivial fun hHeld=>?_;clear hK K;refine puA 6 77 trivial ?_;refine puR 7 fun K hK=>?_;go_simp;clear b1 f1;refine hK.out _ _ trivial fun hHeld=>?_;clear hK K;refine wpAnyH_done (by kernel_rfl) ?_ _;refine Pnc.out (hKK _ _ ?_);clear hHeld hRR;go_wp2_with fail;go_roundw
         case rel=>
          have h4:=Wq.pB_short HP3.out;exact⟨n,q3,bs++[⟨o_,(a_,b_),xv⟩],M++[(⟨xA,xc⟩,⟨o_,(a_,b_),xv⟩)],A9,c9,by go_num,KZ,Hz_ (HF.out.trans (Wq.repK_yes HP3.out)),by omega,by rw[List.length_append];simp only[List.length_cons,List.length_nil];omega⟩
         case measure=>first | (simp[intOf];done) | (simp[intOf];omega)
        ·go_simp;have hb':=KS.out.new (.cells #[.int .i64 o_,.int .i64 a_,.int .i64 b_,.slice xA xv.length xc] 31);have C:=Hz_ (rd_new hb' (size:=4) (n:=1) rfl h1max);have KS:=Hz_ (KS.out.grow hb');have HV:=Hz_ (own_below HV.out hb' Zl);clear hb';refine hK.out _ _ trivial fun hHeld=>?_;clear hK K;refine puR 1 fun K hK=>?_;have b1:World.cell? _ ⟨X,3,none⟩=some (Value.slice bA bs.length bc):=KS.out.blk.cell 3;go_simp;clear b1;refine hK.out _ _ trivial fun hHeld=>?_;clear hK K;refine puR 5 fun K hK=>?_;rw[if_pos (by kernel_rfl)];refine wp_append_rd _ (.tmp 72) (.tmp 75) _ rfl (X+1) 31 ib0 _ 4 48 Tryz.underlying33 hbi0 hbz0 hbz1 hbz2 rfl (by decide) _ bs.length (bvv M) rfl KS.out.own.b.row _ _ 1 1 [.int .i64 o_,.int .i64 a_,.int .i64 b_,.slice xA xv.length xc] rfl C.out (by simp[Value.oneCell']) (by unfold maxLen;omega) (by omega) KS.out.blk.lt ?_;intro A9 c9 W9 ho hg hat;have KZ:=Hz_ (KS.out.body (p:=(⟨xA,xc⟩,⟨o_,(a_,b_),xv⟩)) HV.out hg ho);have hB:=blk_grow KS.out.blk KS.out.own.b.row hg (by decide);have b1:W9.cell? ⟨X,3,none⟩=some (Value.slice bA bs.length bc):=hB.cell 3;have f1:=hB.frozen 3;clear hB ho hg hat KS C HV;refine hK.out _ _ trivial fun hHeld=>?_;clear hK K;refine puA 6 77 trivial ?_;refine puR 7 fun K hK=>?_;go_simp;clear b1 f1;refine hK.out _ _ trivial fun hHeld=>?_;clear hK K;refine wpAnyH_done (by kernel_rfl) ?_ _;refine Pnc.out (hKK _ _ ?_);clear hHeld hRR;go_wp2_with fail;go_roundw
         case rel=>
          have h4:=Wq.pB_short HP3.out;exact⟨n,q3,bs++[⟨o_,(a_,b_),xv⟩],M++[(⟨xA,xc⟩,⟨o_,(a_,b_),xv⟩)],A9,c9,by go_num,KZ,Hz_ (HF.out.trans (Wq.repK_yes HP3.out)),by omega,by rw[List.length_append];simp only[List.length_cons,List.length_nil];omega⟩
         case measure=>first | (simp[intOf];done) | (simp[intOf];omega)
      ·have HF:=Hz_ (HF.out.trans Wq.repK_zero);go_upto_region 25 with fail;go_wp2_with fail;refine(entNumber_any g cur wr KS.out.tr).mono ?_;rintro e w4 (⟨hp,rfl,hb⟩ | ⟨m,r3,hp,rfl,ht,hb⟩)
       ·have HP:=Hz_ (HF.out.trans (Wq.vw4_no hp));have KB:=Hz_ (KS.out.but.trans hb);clear hp hb;unfold GU;go_wp2;exact⟨rfl,.inl ⟨HP.out,rfl,KB.out⟩⟩
       have KS:=Hz_ (KS.out.call hb ht);have HF:=Hz_ (HF.out.trans (Wq.vw4_yes hp));clear hp ht hb;have b0:w4.cell? ⟨X,4,none⟩=some (.int .i64 0):=KS.out.blk.cell 4;have f0:=KS.out.blk.frozen 4;go_upto_region 26 with fail;have ks:=KS.out.room_ m;clear b0 f0 KS;generalize w4.setCell ⟨X,4,none⟩ (.int .i64 m)=w5 at ks ⊢;have KS:=Hz_ ks;obtain⟨x0,x1,x2,x3,x4⟩:=(show Blk w5 X 35 #[.slice kA kn.length kc,.slice zA zs.length zc,.slice hA hs.length hc,.slice bA bs.length bc,.int .i64 m] from ks.blk).five;have y0:=ks.blk.frozen 0;have y1:=ks.blk.frozen 1;have y2:=ks.blk.frozen 2;have y3:=ks.blk.frozen 3;have y4:=ks.blk.frozen 4;clear ks;go_wp2;have hF:=((((KS.out.blk.set_ 0 (.slice kA kn.length kc)).set_ 1 (.slice zA zs.length zc)).set_ 2 (.slice hA hs.length hc)).set_ 3 (.slice bA bs.length bc)).set_ 4 (.int .i64 m);have hu:But X w5 (((((w5.setCell ⟨X,0,none⟩ (.slice kA kn.length kc)).setCell ⟨X,1,none⟩ (.slice zA zs.length zc)).setCell ⟨X,2,none⟩ (.slice hA hs.length hc)).setCell ⟨X,3,none⟩ (.slice bA bs.length bc)).setCell ⟨X,4,none⟩ (.int .i64 m)):=
        ((((But.set_ (g:=X) _ (p:=⟨X,0,none⟩) rfl _).trans (But.set_ (g:=X) _ (p:=⟨X,1,none⟩) rfl _)).trans (But.set_ (g:=X) _ (p:=⟨X,2,none⟩) rfl _)).trans (But.set_ (g:=X) _ (p:=⟨X,3,none⟩) rfl _)).trans (But.set_ (g:=X) _ (p:=⟨X,4,none⟩) rfl _)
       have hbut:=((((KS.out.but.set2 (i:=0) hXw (.slice kA kn.length kc)).set2 (i:=1) hXw (.slice zA zs.length zc)).set2 (i:=2) hXw (.slice hA hs.length hc)).set2 (i:=3) hXw (.slice bA bs.length bc)).set2 (i:=4) hXw (.int .i64 m);refine bodyPost_ret (results_cell_row rfl _ _ X 35 _ _ _ rfl hF Tryz.underlying35 rfl (by kernel_rfl)) rfl (.inr ⟨⟨kn,zs,hs,bs,m⟩,r3,HF.out,⟨⟨kA,kc,zA,zc,hA,hc,bA,bc⟩,rfl,L,M,(KS.out.own.but hu (Nat.lt_succ_self X)).less (by omega)⟩,KS.out.tr.but hu (by have:=KS.out.tr.le;omega) (by omega),hbut⟩)
end Go.Proofs.YtmbeahbgafkjfaaGreatDoor
