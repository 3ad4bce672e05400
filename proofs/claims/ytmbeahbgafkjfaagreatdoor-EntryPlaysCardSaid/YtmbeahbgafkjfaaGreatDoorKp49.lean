/- Lemmas, layer 49. -/
import Derived.Test.YtmbeahbgafkjfaaGreatDoorKp48
set_option maxRecDepth 100000
set_option linter.unusedSimpArgs false
namespace Go.Proofs.YtmbeahbgafkjfaaGreatDoor
open Go.Proofs.Tryz Go.RowKit
theorem Jk8 (W:World) (u:EV) (hT:UW W) (hE:Oc W W.heap.size u xal):Calls prog 20 #[.agg vwZ,.slice none 0 0,.agg (eval xal u)] W (JhA W):=by
 have hz:JlL u xal:=by
  obtain⟨L,M,S,h⟩:=hE;exact JfV.to (x:=xal) ⟨by decide,by decide,by decide⟩ h
 have h:=JfE UE Wq.vw0 [] [] none 0 0 [] u xal W hT (JhM _ _) (QM.none_ _ _) hE hz;have e1:JbS Wq.vw0 (JK []) xal=0:=by decide +kernel
 have e2:JcP Wq.vw0 (JK []) xal=Wq.vw0:=by unfold JcP;rw[Ei e1];rfl
 have e3:Ja6 Wq.vw0 (JK []) xal=[XQ 2 [(1,3)]]:=by unfold Ja6;rw[Ei e1];rfl
 rw[e1,e2,e3] at h;refine h.mono ?_;rintro e w' ⟨u',A,c,rfl,_,⟨S,hS,hs⟩,hb⟩;refine⟨_,_,_,_,_,_,_,_,_,_,_,_,A,c,rfl,?_⟩;obtain⟨p,r,rfl⟩:∃p r,S=p :: r:=by
  rcases S with _ | ⟨p,r⟩
  ·cases hs
  ·exact⟨p,r,rfl⟩
 have hp:p.2.from_=2:=by
  have:=congrArg (fun l:List Sb=>(l.map Sb.from_).head?) hs;simpa[JK,XQ] using this
 have h7:=hS.rd;refine⟨_,(show Rd w' w'.heap.size 7 A 1 c (.int .i64 2 :: ((KI p).drop 1++Yg r)) from ?_),hb⟩;rw[<-hp];exact h7
end Go.Proofs.YtmbeahbgafkjfaaGreatDoor
