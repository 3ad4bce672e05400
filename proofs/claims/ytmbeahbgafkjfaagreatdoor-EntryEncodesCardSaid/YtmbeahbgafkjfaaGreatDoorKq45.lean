/- Lemmas for the claim, layer 45. -/
import Derived.Test.YtmbeahbgafkjfaaGreatDoorKq15
set_option maxRecDepth 100000
namespace Go.Proofs.YtmbeahbgafkjfaaGreatDoor
open Go.RowKit
theorem spanLg_info:(Tryz.prog.info? 63).map (fun i=>(i.zero,i.size,i.bytes))=some (some (.agg #[.int .i64 0,.int .i64 0]),2,16):=by kernel_rfl
theorem cloneSp_any (A:Option Addr) (n c:Nat) (xs:List Value) (w:World) (hR:Rd w w.heap.size 2 A n c xs) (h1:∀u∈xs,u.oneCell'=true) (hn:n≤8796093022208):
  Calls Tryz.prog 76 #[.slice A n c] w fun e w'=>∃A' c',e=.returned (.slice A' n c')∧w'.ownsRow w.heap.size 63 2 (.slice A' n c') n xs∧Below w.heap.size w w':=by
 have hmax:=hR.max
 have hcap:=hR.cap
 rcases A with _ | ad
 ·have hc0:=hR.nil rfl
  obtain rfl:n=0:=by omega
  subst hc0
  have hx:xs=[]:=List.eq_nil_of_length_eq_zero (by simpa using hR.len)
  subst hx
  have ht:=fun W=>Lib.run_eql_slice_nil (P:=Tryz.prog) W 23 63 none 0 0 0 0 Tryz.underlying23
  clear hR h1
  go_enter Tryz.func76,Tryz.ntmps76
  go_wp2
  go_ret
  exact⟨none,0,rfl,World.ownsRow_nil _ _ _ _,Below.refl _ _⟩
 ·have ht:=fun W=>Lib.run_eql_slice_nil (P:=Tryz.prog) W 23 63 (some ad) n c 0 0 Tryz.underlying23
  obtain⟨i0,hi0,hz0,hz1,hz2⟩:=info_parts spanLg_info
  have h63:0+n≤maxLen:=by omega
  go_enter Tryz.func76,Tryz.ntmps76
  go_wp2_with (at_builtin;go_must (refine wpList_append_rd _ rfl (.tmp 5) (.tmp 6) _ rfl w.heap.size 63 i0 _ 2 16 Tryz.underlying23 hi0 hz0 hz1 hz2 rfl (by decide) (.slice (some ⟨w.heap.size,0,none⟩) 0 0) 0 [] rfl (own_empty w _ _) w.heap.size (some ad) n c xs rfl (hR.alloc (Nat.le_refl _) _) h1 h63 (by omega) (by simp) ?_);intro A' c' w1 hown hg hat)
  go_ret
  exact⟨A',c',rfl,by simpa using hown,((Below.refl _ _).alloc (Nat.le_refl _) _).trans (grown_below hg (by simp) (by simp[Value.ownBlock]))⟩
theorem cloneWr_any (A:Option Addr) (n c:Nat) (xs:List Value) (w:World) (hR:Rd w w.heap.size 4 A n c xs) (h1:∀u∈xs,u.oneCell'=true) (hn:n≤4398046511104):
  Calls Tryz.prog 140 #[.slice A n c] w fun e w'=>∃A' c',e=.returned (.slice A' n c')∧w'.ownsRow w.heap.size 70 4 (.slice A' n c') n xs∧Below w.heap.size w w':=by
 have hmax:=hR.max
 have hcap:=hR.cap
 rcases A with _ | ad
 ·have hc0:=hR.nil rfl
  obtain rfl:n=0:=by omega
  subst hc0
  have hx:xs=[]:=List.eq_nil_of_length_eq_zero (by simpa using hR.len)
  subst hx
  have ht:=fun W=>Lib.run_eql_slice_nil (P:=Tryz.prog) W 24 70 none 0 0 0 0 Tryz.underlying24
  clear hR h1
  go_enter Tryz.func140,Tryz.ntmps140
  go_wp2
  go_ret
  exact⟨none,0,rfl,World.ownsRow_nil _ _ _ _,Below.refl _ _⟩
 ·have ht:=fun W=>Lib.run_eql_slice_nil (P:=Tryz.prog) W 24 70 (some ad) n c 0 0 Tryz.underlying24
  obtain⟨i0,hi0,hz0,hz1,hz2⟩:=info_parts writes_info
  have h63:0+n≤maxLen:=by omega
  go_enter Tryz.func140,Tryz.ntmps140
  go_wp2_with (at_builtin;go_must (refine wpList_append_rd _ rfl (.tmp 5) (.tmp 6) _ rfl w.heap.size 70 i0 _ 4 32 Tryz.underlying24 hi0 hz0 hz1 hz2 rfl (by decide) (.slice (some ⟨w.heap.size,0,none⟩) 0 0) 0 [] rfl (own_empty w _ _) w.heap.size (some ad) n c xs rfl (hR.alloc (Nat.le_refl _) _) h1 h63 (by omega) (by simp) ?_);intro A' c' w1 hown hg hat)
  go_ret
  exact⟨A',c',rfl,by simpa using hown,((Below.refl _ _).alloc (Nat.le_refl _) _).trans (grown_below hg (by simp) (by simp[Value.ownBlock]))⟩
end Go.Proofs.YtmbeahbgafkjfaaGreatDoor
