/- Lemmas, layer 26. -/
import Derived.Test.YtmbeahbgafkjfaaGreatDoorKp25
set_option maxRecDepth 100000
set_option linter.unusedSimpArgs false
open Go.RowKit
namespace Go.Proofs.YtmbeahbgafkjfaaGreatDoor
structure Yq (w:World) (base:Nat) (u:VV) (v:Vw) (L:List (ZV×Zn)) (M:List (BV×Wq.Bd)):Prop where
 k:w.ownsRow base 28 2 (.slice u.kA v.known.length u.kc) v.known.length (sv v.known)
 z:Qk w base u.zA v.zones.length u.zc L
 nz:Jv L=v.zones
 h:w.ownsRow base 70 4 (.slice u.hA v.held.length u.hc) v.held.length (wv v.held)
 b:JZ w base u.bA v.bods.length u.bc M
 nb:JG M=v.bods
theorem Yq.but {w w':World} {g base:Nat} {u:VV} {v:Vw} {L:List (ZV×Zn)} {M:List (BV×Wq.Bd)} (h:Yq w base u v L M) (hb:JF g w w') (hg:g < base):Yq w' base u v L M:=
 ⟨Qf h.k hb hg,h.z.but hb hg,h.nz,Qf h.h hb hg,h.b.but hb hg,h.nb⟩
theorem Yq.below {w w':World} {base:Nat} {u:VV} {v:Vw} {L:List (ZV×Zn)} {M:List (BV×Wq.Bd)} (h:Yq w base u v L M) (hb:Bz w w'):Yq w' base u v L M:=
 ⟨Jf h.k hb Zl,h.z.below hb,h.nz,Jf h.h hb Zl,h.b.below hb,h.nb⟩
theorem Yq.rd {w:World} {base:Nat} {u:VV} {v:Vw} {L:List (ZV×Zn)} {M:List (BV×Wq.Bd)} (h:Yq w base u v L M) (hw:∀p∈M,(Lit.int .i64 p.2.o).wf=true):JU w w.heap.size u v L M:=
 ⟨Rd.of_own h.k,h.z.rd,h.nz,Rd.of_own h.h,h.b.rd hw,h.nb⟩
theorem JF.set2 {g:Nat} {w W:World} (h:JF g w W) {X i:Nat} (hX:w.heap.size<=X) (v:Value):JF g w (W.setCell ⟨X,i,none⟩ v):=
 h.below ((Ec w.heap.size W).setCell (p:=⟨X,i,none⟩) hX v)
def Kp (t:TypeId) (w w':World):Prop:=∀(base:Nat) (e:TypeId) (size:Nat) (v:Value) (n:Nat) (xs:List Value),e≠t->w.ownsRow base e size v n xs->w'.ownsRow base e size v n xs
theorem Kp.blk {w w':World} {X:Nat} {t:TypeId} {cs:Array Value} (hB:Jm w X t cs) (k:JF X w w'):Kp t w w':=fun _ _ _ _ _ _ he h=>
 Jgn h k fun hq=>by
  rcases JiY h hB he with e | e
  ·rw[e] at hq;cases hq
  ·exact e hq
theorem Yq.kp {w w':World} {base:Nat} {t:TypeId} {u:VV} {v:Vw} {L:List (ZV×Zn)} {M:List (BV×Wq.Bd)} (h:Yq w base u v L M) (k:Kp t w w') (h1:28≠t) (h2:129≠t) (h3:70≠t) (h4:31≠t) (h5:5≠t):Yq w' base u v L M:=
 ⟨k _ _ _ _ _ _ h1 h.k,⟨k _ _ _ _ _ _ h2 h.z.row,fun p hp=>⟨(h.z.el p hp).1,k _ _ _ _ _ _ h1 (h.z.el p hp).2⟩⟩,h.nz,k _ _ _ _ _ _ h3 h.h,⟨k _ _ _ _ _ _ h4 h.b.row,fun p hp=>k _ _ _ _ _ _ h5 (h.b.el p hp)⟩,h.nb⟩
structure VC (w W:World) (g X base:Nat) (u:VV) (v:Vw) (L:List (ZV×Zn)) (M:List (BV×Wq.Bd)):Prop where
 blk:Jm W X 35 (Jy v u)
 own:Yq W base u v L M
 but:JF g w W
 hg:g < base
 hw:w.heap.size<=base
 hX:base<=X+1
 ne:X≠g
 hwX:w.heap.size<=X
section
variable {w W W':World} {g X base:Nat} {u:VV} {v:Vw} {L:List (ZV×Zn)} {M:List (BV×Wq.Bd)}
theorem VC.grow (h:VC w W g X base u v L M) (hb:Bz W W'):VC w W' g X base u v L M:=
 ⟨h.blk.go hb,h.own.below hb,h.but.trans (JF.of hb),h.hg,h.hw,h.hX,h.ne,h.hwX⟩
theorem ZK {W:World} {t:TypeId} {cs:Array Value} (_:Bz W (W.alloc (.cells cs t))) {size n:Nat} (hn:cs.size=n * size) (hm:n<=maxLen):Rd (W.alloc (.cells cs t)) (W.alloc (.cells cs t)).heap.size size (some ⟨W.heap.size,0,none⟩) n n cs.toList:=by
 rw[El];exact Rd.new W t size n cs hn hm
theorem VC.grew {size n:Nat} {e:TypeId} {t:Value} {xs:List Value} {u':VV} {v':Vw} {L':List (ZV×Zn)} {M':List (BV×Wq.Bd)} (h:VC w W g X base u v L M) (hr:W.ownsRow base e size t n xs) (hgr:W.grownBy W' t.ownBlock) (he:e≠35) (i:Nat) (z:Value)
  (hB:Jm W' X 35 (Jy v u)->Jm (W'.setCell ⟨X,i,none⟩ z) X 35 (Jy v' u')) (ho:Yq W' base u' v' L' M'):VC w (W'.setCell ⟨X,i,none⟩ z) g X base u' v' L' M':=by
 have hb:=Ja2 h.blk hr hgr he;exact⟨hB hb,ho.kp (Kp.blk hb (JF.set_ (g:=X) W' (p:=⟨X,i,none⟩) rfl _)) (by decide) (by decide) (by decide) (by decide) (by decide),(h.but.below ((Jb hgr (EY h.hX h.blk.lt) (fun k hk=>(hr.lt k hk).1)).mono h.hw)).set2 h.hwX _,h.hg,h.hw,h.hX,h.ne,h.hwX⟩
theorem VC.zone (h:VC w W g X base u v L M) {p:ZV×Zn} (hp:p.2.2.length=p.1.n/\W.ownsRow base 28 2 (.slice p.1.A p.1.n p.1.c) p.1.n (sv p.2.2)) {A':OA} {c':Nat}
  (hgr:W.grownBy W' (Value.slice u.zA v.zones.length u.zc).ownBlock) (ho:W'.ownsRow base 129 3 (.slice A' (v.zones.length+1) c') (v.zones.length+1) (zvv L++zvl p)):
  VC w (W'.setCell ⟨X,1,none⟩ (.slice A' (v.zones.length+1) c')) g X base ⟨u.kA,u.kc,A',c',u.hA,u.hc,u.bA,u.bc⟩ ⟨v.known,v.zones++[p.2],v.held,v.bods,v.room⟩ (L++[p]) M:=by
 have hl:(v.zones++[p.2]).length=v.zones.length+1:=by simp
 have hr:=h.own.z.row;refine h.grew hr hgr (by decide) 1 _ (fun hB=>?_) ⟨h.own.k.kept hgr (Qb h.own.k hr (by decide)),?_,?_,h.own.h.kept hgr (Qb h.own.h hr (by decide)),h.own.b.row_ hr (by decide) (by decide) hgr,h.own.nb⟩
 ·have:=hB.set_ 1 (.slice A' (v.zones.length+1) c');unfold Jy;dsimp only;rw[hl];exact this
 ·dsimp only;rw[hl];exact h.own.z.push hp hgr ho
 ·show Jv (L++[p])=v.zones++[p.2];rw[JA,h.own.nz];rfl
end
section
variable {w W W':World} {g X B:Nat} {cur cur':List UInt8} {u:VV} {v:Vw} {L:List (ZV×Zn)} {M:List (BV×Wq.Bd)}
end
namespace Wq
end Wq
end Go.Proofs.YtmbeahbgafkjfaaGreatDoor
