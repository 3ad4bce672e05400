/- Lemmas for the claim, layer 13. -/
import Derived.Test.YtmbeahbgafkjfaaGreatDoorKq08
set_option maxRecDepth 100000
namespace Go.Proofs.YtmbeahbgafkjfaaGreatDoor
open Go.RowKit
theorem join2_any (A D:Option Addr) (n c m d:Nat) (u v:List Vc.St) (W:World) (hT:Tab W) (hl:u.length=n) (hl2:v.length=m) (hR:Rd W W.heap.size 2 A n c (sv u)) (hR2:Rd W W.heap.size 2 D m d (sv v)):
  Calls Tryz.prog 180 #[.slice (some ⟨W.heap.size,0,none⟩) 2 2] (W.alloc (.cells #[.slice A n c,.slice D m d] 22)) fun e w'=>∃A' c',e=.returned (.slice A' (vec (jn [u,v])).length c')∧Rd w' w'.heap.size 2 A' (vec (jn [u,v])).length c' (sv (vec (jn [u,v])))∧Below W.heap.size W w':=by
 have hb:Below W.heap.size W (W.alloc (.cells #[.slice A n c,.slice D m d] 22)):=(Below.refl _ _).alloc (Nat.le_refl _) _
 refine(join_any _ 2 2 [u,v] _ (hT.below hb) (RdL.two hl hl2 hR hR2 22)).mono ?_
 rintro e w1 ⟨A',c',rfl,ho,hb1⟩
 exact⟨A',c',rfl,Rd.of_own ho,btn hb hb1⟩
end Go.Proofs.YtmbeahbgafkjfaaGreatDoor
