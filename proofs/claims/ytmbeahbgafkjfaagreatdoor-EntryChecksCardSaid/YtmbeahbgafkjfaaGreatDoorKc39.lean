/- Lemmas for the claim, layer 39. -/
import Derived.Test.YtmbeahbgafkjfaaGreatDoorKc37
import Derived.Test.YtmbeahbgafkjfaaGreatDoorKc38
set_option maxRecDepth 100000
set_option linter.unusedSimpArgs false
namespace Go.Proofs.YtmbeahbgafkjfaaGreatDoor
open Go.RowKit
theorem DecE.some_ {w w':World} {l:List UInt8} {e:Ending} {x:Ent} (hd:Wq.decE l=some x) (h:DecE l w e w'):∃u,e=.returned (.tuple #[.agg (eval x u),.int .i64 0])/\(∃L M S,EntRd w' w'.heap.size u x L M S)/\Below w.heap.size w w':=by
 rcases h with ⟨h1,_⟩ | ⟨y,u,h1,h2,h3,h4⟩
 ·rw[hd] at h1;cases h1
 ·rw[hd] at h1;cases h1;exact⟨u,h2,h3,h4⟩
def xal:Ent:=⟨4,Wq.ntz,Wq.bdz,2,[(1,3)],Wq.vw0,[]⟩
theorem EntRd.below {w w':World} {B:Nat} {u:EV} {x:Ent} {L:List (ZV×Zn)} {M:List (BV×Wq.Bd)} {S:List (SV×Sb)} (h:EntRd w B u x L M S) (hb:Below B w w'):EntRd w' B u x L M S:=⟨h.nt.below hb,h.bd.below hb,h.it.below hb,h.vw.below hb,h.sb.below hb,h.ns⟩
theorem EntRd.more {w:World} {B B':Nat} {u:EV} {x:Ent} {L:List (ZV×Zn)} {M:List (BV×Wq.Bd)} {S:List (SV×Sb)} (h:EntRd w B u x L M S) (hb:B<=B'):EntRd w B' u x L M S:=⟨h.nt.more hb,h.bd.more hb,h.it.more hb,h.vw.more hb,h.sb.more hb,h.ns⟩
def EntR (w:World) (B:Nat) (u:EV) (x:Ent):Prop:=∃L M S,EntRd w B u x L M S
theorem EntR.below {w w':World} {B:Nat} {u:EV} {x:Ent} (h:EntR w B u x) (hb:Below B w w'):EntR w' B u x:=by
 obtain⟨L,M,S,h⟩:=h;exact⟨L,M,S,h.below hb⟩
theorem EntR.more {w:World} {B B':Nat} {u:EV} {x:Ent} (h:EntR w B u x) (hb:B<=B'):EntR w B' u x:=by
 obtain⟨L,M,S,h⟩:=h;exact⟨L,M,S,h.more hb⟩
theorem EntR.go {w w':World} {u:EV} {x:Ent} (h:EntR w w.heap.size u x) (hb:Below w.heap.size w w'):EntR w' w'.heap.size u x:=(h.below hb).more hb.size
def PlyOut (w:World) (e:Ending) (w':World):Prop:=∃B1 m1 d1 B2 m2 d2 B3 m3 d3 B4 m4 d4 A c,e=.returned (.tuple #[.agg #[.slice B1 m1 d1,.slice B2 m2 d2,.slice B3 m3 d3,.slice B4 m4 d4,.int .i64 0],.slice A 1 c,.int .i64 0])/\∃ys,Rd w' w'.heap.size 7 A 1 c (.int .i64 2 :: ys)/\Below w.heap.size w w'
end Go.Proofs.YtmbeahbgafkjfaaGreatDoor
