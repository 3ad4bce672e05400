/- Lemmas for the claim, layer 47. -/
import Derived.Test.YtmbeahbgafkjfaaGreatDoorKb40
import Derived.Test.YtmbeahbgafkjfaaGreatDoorKb46
set_option maxRecDepth 100000
namespace Go.Proofs.YtmbeahbgafkjfaaGreatDoor
open Go.RowKit
def IsE (w:World) (B:Nat) (E:Array Value) (x:Ent):Prop:=∃u,E=eval x u∧EntR w B u x
theorem IsE.below {w w':World} {B:Nat} {E:Array Value} {x:Ent} (h:IsE w B E x) (hb:Below B w w'):IsE w' B E x:=by
 obtain⟨u,e,h⟩:=h;exact⟨u,e,h.below hb⟩
theorem IsE.more {w:World} {B B':Nat} {E:Array Value} {x:Ent} (h:IsE w B E x) (hb:B≤B'):IsE w B' E x:=by
 obtain⟨u,e,h⟩:=h;exact⟨u,e,h.more hb⟩
theorem IsE.go {w w':World} {E:Array Value} {x:Ent} (h:IsE w w.heap.size E x) (hb:Below w.heap.size w w'):IsE w' w'.heap.size E x:=(h.below hb).more hb.size
theorem IsE.info {w:World} {B:Nat} {E:Array Value} {x:Ent} (h:IsE w B E x):(Tryz.prog.info? 38).map (·.size)=some E.size:=by
 obtain⟨u,rfl,_⟩:=h;kernel_rfl
theorem IsE.size {w:World} {B:Nat} {E:Array Value} {x:Ent} (h:IsE w B E x):17=E.size:=by
 obtain⟨u,rfl,_⟩:=h;rfl
theorem IsE.one {w:World} {B:Nat} {E:Array Value} {x:Ent} (h:IsE w B E x):E.all (·.oneCell')=true:=by
 obtain⟨u,rfl,_⟩:=h;simp[eval,Value.oneCell']
theorem entZ_one:entZ.all (·.oneCell')=true:=by simp[entZ,Value.oneCell']
theorem below_stored {w w':World} {c:Array Value} {t:TypeId} (hg:(w.alloc (.cells c t)).grownBy w' (some w.heap.size)):Below w.heap.size w w':=
 ((Below.refl _ _).alloc (Nat.le_refl _) _).trans (grown_below hg (by simp) (fun k hk=>by injection hk with hk;omega))
theorem DecE.is_ {w w':World} {l:List UInt8} {e:Ending} {x:Ent} (hd:Wq.decE l=some x) (h:DecE l w e w'):∃E,e=.returned (.tuple #[.agg E,.int .i64 0])∧IsE w' w'.heap.size E x∧Below w.heap.size w w':=by
 obtain⟨u,h1,h2,h3⟩:=DecE.some_ hd h
 exact⟨_,h1,⟨u,rfl,h2⟩,h3⟩
theorem isE_back {x1:Ent} {bs:List UInt8} {nb:Nat} (hl:bs.length=nb) (hn:nb≤4294967296) (hd:Wq.decE bs=some x1) (W:World) (hT:Tab W) (E1:Array Value) (h0:IsE W W.heap.size E1 x1):
  Calls Tryz.prog 9 #[.agg E1] W fun e W'=>∃A' c',e=.returned (.tuple #[.slice A' nb c',.int .i64 0])∧W'.ownsRow W.heap.size 5 1 (.slice A' nb c') nb (bv bs)∧Below W.heap.size W W':=by
 obtain⟨hbe,hf1⟩:=Wq.decE_back hd
 have hc1:=Wq.decE_cts hd
 have hbd1:=pEnt_bd (Wq.decE_pEnt hd) (by omega)
 obtain⟨u1,rfl,L1,M1,S1,h⟩:=h0
 refine(entEncode_any u1 x1 L1 M1 S1 W hT h hc1 (by rw[←h.nt.l1,←h.nt.l2,←h.nt.l3,←h.nt.l4];exact hbd1.n) hbd1.v hf1).mono ?_
 rintro e W' ⟨_,h1,A',c',rfl,h2,h3⟩
 rw[←hbe,hl] at h1 h2
 exact⟨A',c',h1,h2,h3⟩
theorem isE_same {x:Ent} {u:EV} {L:List (ZV×Zn)} {M:List (BV×Wq.Bd)} {S:List (SV×Sb)} (W:World) (hE:EntRd W W.heap.size u x L M S) (E1:Array Value) (h0:IsE W W.heap.size E1 x):
  Calls Tryz.prog 17 #[.agg (eval x u),.agg E1] W fun e W'=>e=.returned (.bool true)∧Below W.heap.size W W':=by
 obtain⟨u1,rfl,L1,M1,S1,h1⟩:=h0
 have h:=refEntSame_any u u1 x x L L1 M M1 S S1 W hE h1
 rw[(entE_iff x x).2 rfl] at h
 exact h
theorem spanLg_info:(Tryz.prog.info? 63).map (fun i=>(i.zero,i.size,i.bytes))=some (some (.agg #[.int .i64 0,.int .i64 0]),2,16):=by kernel_rfl
theorem cloneSp_any (A:Option Addr) (n c:Nat) (xs:List Value) (w:World) (hR:Rd w w.heap.size 2 A n c xs) (h1:∀u∈xs,u.oneCell'=true) (hn:n≤8796093022208):
  Calls Tryz.prog 76 #[.slice A n c] w fun e w'=>∃A' c',e=.returned (.slice A' n c')∧w'.ownsRow w.heap.size 63 2 (.slice A' n c') n xs∧Below w.heap.size w w':=by
 have hmax:=hR.max
 have hcap:=hR.cap
 rcases A with _ | ad
 ·have hc0:=hR.nil rfl
  obtain rfl:n=0:=by omega
  subst hc0
  have hx:xs=[]:=List.eq_nil_of_length_eq_zero (by simpa using hR.len)
  subst hx
  have ht:=fun W=>Lib.run_eql_slice_nil (P:=Tryz.prog) W 23 63 none 0 0 0 0 Tryz.underlying23
  clear hR h1
  go_enter Tryz.func76,Tryz.ntmps76
  go_wp2
  go_ret
  exact⟨none,0,rfl,World.ownsRow_nil _ _ _ _,Below.refl _ _⟩
 ·have ht:=fun W=>Lib.run_eql_slice_nil (P:=Tryz.prog) W 23 63 (some ad) n c 0 0 Tryz.underlying23
  obtain⟨i0,hi0,hz0,hz1,hz2⟩:=info_parts spanLg_info
  have h63:0+n≤maxLen:=by omega
  go_enter Tryz.func76,Tryz.ntmps76
  go_wp2_with (at_builtin;go_must (refine wpList_append_rd _ rfl (.tmp 5) (.tmp 6) _ rfl w.heap.size 63 i0 _ 2 16 Tryz.underlying23 hi0 hz0 hz1 hz2 rfl (by decide) (.slice (some ⟨w.heap.size,0,none⟩) 0 0) 0 [] rfl (own_empty w _ _) w.heap.size (some ad) n c xs rfl (hR.alloc (Nat.le_refl _) _) h1 h63 (by omega) (by simp) ?_);intro A' c' w1 hown hg hat)
  go_ret
  exact⟨A',c',rfl,by simpa using hown,((Below.refl _ _).alloc (Nat.le_refl _) _).trans (grown_below hg (by simp) (by simp[Value.ownBlock]))⟩
theorem cloneWr_any (A:Option Addr) (n c:Nat) (xs:List Value) (w:World) (hR:Rd w w.heap.size 4 A n c xs) (h1:∀u∈xs,u.oneCell'=true) (hn:n≤4398046511104):
  Calls Tryz.prog 140 #[.slice A n c] w fun e w'=>∃A' c',e=.returned (.slice A' n c')∧w'.ownsRow w.heap.size 70 4 (.slice A' n c') n xs∧Below w.heap.size w w':=by
 have hmax:=hR.max
 have hcap:=hR.cap
 rcases A with _ | ad
 ·have hc0:=hR.nil rfl
  obtain rfl:n=0:=by omega
  subst hc0
  have hx:xs=[]:=List.eq_nil_of_length_eq_zero (by simpa using hR.len)
  subst hx
  have ht:=fun W=>Lib.run_eql_slice_nil (P:=Tryz.prog) W 24 70 none 0 0 0 0 Tryz.underlying24
  clear hR h1
  go_enter Tryz.func140,Tryz.ntmps140
  go_wp2
  go_ret
  exact⟨none,0,rfl,World.ownsRow_nil _ _ _ _,Below.refl _ _⟩
 ·have ht:=fun W=>Lib.run_eql_slice_nil (P:=Tryz.prog) W 24 70 (some ad) n c 0 0 Tryz.underlying24
  obtain⟨i0,hi0,hz0,hz1,hz2⟩:=info_parts writes_info
  have h63:0+n≤maxLen:=by omega
  go_enter Tryz.func140,Tryz.ntmps140
  go_wp2_with (at_builtin;go_must (refine wpList_append_rd _ rfl (.tmp 5) (.tmp 6) _ rfl w.heap.size 70 i0 _ 4 32 Tryz.underlying24 hi0 hz0 hz1 hz2 rfl (by decide) (.slice (some ⟨w.heap.size,0,none⟩) 0 0) 0 [] rfl (own_empty w _ _) w.heap.size (some ad) n c xs rfl (hR.alloc (Nat.le_refl _) _) h1 h63 (by omega) (by simp) ?_);intro A' c' w1 hown hg hat)
  go_ret
  exact⟨A',c',rfl,by simpa using hown,((Below.refl _ _).alloc (Nat.le_refl _) _).trans (grown_below hg (by simp) (by simp[Value.ownBlock]))⟩
end Go.Proofs.YtmbeahbgafkjfaaGreatDoor
