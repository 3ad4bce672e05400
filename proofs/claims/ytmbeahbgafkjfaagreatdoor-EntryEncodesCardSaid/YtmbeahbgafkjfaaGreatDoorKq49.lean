/- Lemmas for the claim, layer 49. -/
import Derived.Test.YtmbeahbgafkjfaaGreatDoorKq41
import Derived.Test.YtmbeahbgafkjfaaGreatDoorKq48
set_option maxRecDepth 100000
set_option linter.unusedSimpArgs false
namespace Go.Proofs.YtmbeahbgafkjfaaGreatDoor
open Go.RowKit
structure VwOwn (w:World) (base:Nat) (u:VV) (v:Vw) (L:List (ZV×Zn)) (M:List (BV×Wq.Bd)):Prop where
 k:w.ownsRow base 28 2 (.slice u.kA v.known.length u.kc) v.known.length (sv v.known)
 z:OwnZ w base u.zA v.zones.length u.zc L
 nz:zns L=v.zones
 h:w.ownsRow base 70 4 (.slice u.hA v.held.length u.hc) v.held.length (wv v.held)
 b:OwnBd w base u.bA v.bods.length u.bc M
 nb:bds M=v.bods
theorem VwOwn.but {w w':World} {g base:Nat} {u:VV} {v:Vw} {L:List (ZV×Zn)} {M:List (BV×Wq.Bd)} (h:VwOwn w base u v L M) (hb:But g w w') (hg:g < base):VwOwn w' base u v L M:=
 ⟨own_but h.k hb hg,h.z.but hb hg,h.nz,own_but h.h hb hg,h.b.but hb hg,h.nb⟩
theorem VwOwn.below {w w':World} {base:Nat} {u:VV} {v:Vw} {L:List (ZV×Zn)} {M:List (BV×Wq.Bd)} (h:VwOwn w base u v L M) (hb:Below w.heap.size w w'):VwOwn w' base u v L M:=
 ⟨own_below h.k hb (Nat.le_refl _),h.z.below hb,h.nz,own_below h.h hb (Nat.le_refl _),h.b.below hb,h.nb⟩
theorem VwOwn.rd {w:World} {base:Nat} {u:VV} {v:Vw} {L:List (ZV×Zn)} {M:List (BV×Wq.Bd)} (h:VwOwn w base u v L M) (hw:∀p∈M,(Lit.int .i64 p.2.o).wf=true):VwRd w w.heap.size u v L M:=
 ⟨Rd.of_own h.k,h.z.rd,h.nz,Rd.of_own h.h,h.b.rd hw,h.nb⟩
def Kp (t:TypeId) (w w':World):Prop:=∀(base:Nat) (e:TypeId) (size:Nat) (v:Value) (n:Nat) (xs:List Value),e≠t→w.ownsRow base e size v n xs→w'.ownsRow base e size v n xs
theorem Kp.blk {w w':World} {X:Nat} {t:TypeId} {cs:Array Value} (hB:Blk w X t cs) (k:But X w w'):Kp t w w':=fun _ _ _ _ _ _ he h=>
 own_butN h k fun hq=>by
  rcases own_blk h hB he with e | e
  ·rw[e] at hq;cases hq
  ·exact e hq
theorem VwOwn.kp {w w':World} {base:Nat} {t:TypeId} {u:VV} {v:Vw} {L:List (ZV×Zn)} {M:List (BV×Wq.Bd)} (h:VwOwn w base u v L M) (k:Kp t w w') (h1:28≠t) (h2:129≠t) (h3:70≠t) (h4:31≠t) (h5:5≠t):VwOwn w' base u v L M:=
 ⟨k _ _ _ _ _ _ h1 h.k,⟨k _ _ _ _ _ _ h2 h.z.row,fun p hp=>⟨(h.z.el p hp).1,k _ _ _ _ _ _ h1 (h.z.el p hp).2⟩⟩,h.nz,k _ _ _ _ _ _ h3 h.h,⟨k _ _ _ _ _ _ h4 h.b.row,fun p hp=>k _ _ _ _ _ _ h5 (h.b.el p hp)⟩,h.nb⟩
section
variable {w W W':World} {g X base:Nat} {u:VV} {v:Vw} {L:List (ZV×Zn)} {M:List (BV×Wq.Bd)}
theorem rd_new {W:World} {t:TypeId} {cs:Array Value} (_:Below W.heap.size W (W.alloc (.cells cs t))) {size n:Nat} (hn:cs.size=n * size) (hm:n≤maxLen):Rd (W.alloc (.cells cs t)) (W.alloc (.cells cs t)).heap.size size (some ⟨W.heap.size,0,none⟩) n n cs.toList:=by
 rw[World.size_alloc]
 exact Rd.new W t size n cs hn hm
end
section
variable {w W W':World} {g X B:Nat} {cur cur':List UInt8} {u:VV} {v:Vw} {L:List (ZV×Zn)} {M:List (BV×Wq.Bd)}
end
namespace Wq
end Wq
end Go.Proofs.YtmbeahbgafkjfaaGreatDoor
