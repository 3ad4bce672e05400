/- Lemmas for the claim, layer 9. -/
import Derived.Deep.Fields
import Derived.Test.YtmbeahbgafkjfaaGreatDoorKd08
namespace Go.Proofs.YtmbeahbgafkjfaaGreatDoor
open Go.ChangeShapes Go.WideShapes Go.ChangeAt Go.RowKit Go.Deep
theorem flat_len {α:Type} (f:α→List Value) (size:Nat):∀(xs:List α),(∀x∈xs,(f x).length=size)→(xs.flatMap f).length=xs.length * size
 | [],_=>by simp
 | x :: r,h=>by
  rw[List.flatMap_cons,List.length_append,h x (by simp),flat_len f size r fun y hy=>h y (by simp[hy]),List.length_cons,Nat.add_mul];omega
theorem flat_at {α:Type} (f:α→List Value) (size:Nat) (hs:0 < size):∀(xs:List α),(∀x∈xs,(f x).length=size)→∀(i:Nat) (hi:i < xs.length) (j:Nat),j < size→(xs.flatMap f)[i * size+j]?=(f xs[i])[j]?
 | [],_,i,hi,_,_=>by simp at hi
 | x :: r,h,0,_,j,hj=>by
  have hx:=h x (by simp)
  rw[List.flatMap_cons,Nat.zero_mul,Nat.zero_add,List.getElem?_append_left (by omega)];rfl
 | x :: r,h,i+1,hi,j,hj=>by
  have hx:=h x (by simp)
  rw[List.flatMap_cons,List.getElem?_append_right (by rw[hx,Nat.add_mul];omega),hx,show (i+1) * size+j - size=i * size+j by rw[Nat.add_mul];omega]
  rw[flat_at f size hs r (fun y hy=>h y (by simp[hy])) i (by simpa using hi) j hj];rfl
section
variable {H:Type} {enc:TypeId×Value→H} {P:Program} {W:World}
end
end Go.Proofs.YtmbeahbgafkjfaaGreatDoor
