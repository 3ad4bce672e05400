/- Lemmas for the claim, layer 38. -/
import Derived.Test.YtmbeahbgafkjfaaGreatDoorKb33
import Derived.Test.YtmbeahbgafkjfaaGreatDoorKb37
set_option maxRecDepth 100000
namespace Go.Proofs.YtmbeahbgafkjfaaGreatDoor
open Go.RowKit
theorem blk_grow {w w':World} {base X size n:Nat} {e ty:TypeId} {v:Value} {xs:List Value} {cs:Array Value} (hB:Blk w X ty cs) (ho:w.ownsRow base e size v n xs) (hg:w.grownBy w' v.ownBlock) (hne:e≠ty):Blk w' X ty cs:=by
 refine(hg.block X hB.lt (fun e=>?_)).trans hB
 rcases own_blk ho hB hne with h1 | h1
 ·rw[h1] at e;cases e
 ·exact h1 e.symm
theorem lNt_small {x:Nt} (h:ntF x=true) (hc:Wq.ntC x):(Wq.lNt x).length≤20000:=by
 obtain⟨h1,h2,h3,h4⟩:=Wq.ntF_parts h
 have e1:=lV_len h1 hc.1
 have e2:=lV_len h2 hc.2.1
 have e3:=Wq.lS_len h3
 have e4:=Wq.ntW_len h4
 have e5:(Pk.lay x.w.length).length≤9:=Pk.lay_len9 (by omega)
 have e6:∀u:List Wr,(∀t∈u,Wq.wU t)→(Wq.lW u).length≤36 * u.length:=by
  intro u
  induction u with
  | nil=>intro _;simp[Wq.lW]
  | cons t r ih=>
   intro hs
   have a:=hs t (by simp)
   have a1:=u63_len a.1
   have a2:=u63_len a.2.1
   have a3:=u63_len a.2.2
   have a4:(Pk.lay (Wq.gn t.2.2)).length≤9:=Pk.lay_len9 (by unfold Wq.gn;split<;>omega)
   have a5:=ih fun t ht=>hs t (by simp[ht])
   rw[Wq.lW_cons,List.length_append,List.length_cons]
   simp only[Wq.lW1,List.length_append]
   omega
 have e7:=e6 x.w (Wq.ntW_u h hc)
 simp only[Wq.lNt,List.length_append]
 omega
end Go.Proofs.YtmbeahbgafkjfaaGreatDoor
