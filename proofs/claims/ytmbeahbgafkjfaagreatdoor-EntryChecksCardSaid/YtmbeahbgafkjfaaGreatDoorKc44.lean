/- Lemmas for the claim, layer 44. -/
import Derived.Test.YtmbeahbgafkjfaaGreatDoorKc43
set_option maxRecDepth 100000
set_option linter.unusedSimpArgs false
namespace Go.Proofs.YtmbeahbgafkjfaaGreatDoor
open Go.RowKit
open Wq in
theorem entF_p4 {x:Ent} (h:entF x=true) (k:x.kind=4):(0<=x.from_/\x.from_<=63)/\Sn.fmS (-2) x.int=true:=by
 rw[entF_4 x k] at h;simp only[Bool.and_eq_true,decide_eq_true_eq] at h;exact h.1
theorem entF_p5 {x:Ent} (h:entF x=true) (k:x.kind=5):vwF x.view=true/\restF x.subs=true:=by
 rw[entF_5 x k,Bool.and_eq_true,Bool.and_eq_true] at h;exact h.1
theorem lE4 {x:Ent} (k:x.kind=4):lEnt x=layAll [x.kind]++layAll [x.from_]++Wq.lS x.int:=by
 unfold lEnt lI layAll;rw[if_neg (by omega),if_neg (by omega),if_neg (by omega),if_pos k];simp
theorem lE5 {x:Ent} (k:x.kind=5):lEnt x=layAll [x.kind]++lVw x.view++layAll [(x.subs.length:Int)]++x.subs.flatMap lSb:=by
 unfold lEnt lI layAll;rw[if_neg (by omega),if_neg (by omega),if_neg (by omega),if_neg (by omega)];simp
theorem vw_lens {v:Vw} (h:vwF v=true):v.zones.length<=256/\v.held.length<=256/\v.bods.length<=256:=by
 obtain⟨h1,h2,h3,h4⟩:=Wq.vwF_parts h;unfold caF at h4;simp only[Bool.and_eq_true,decide_eq_true_eq] at h4;refine⟨zF_256 h2,?_,h4.1.2.2⟩;rcases Wq.shF_len h3 (by omega) with a | e
 ·omega
 ·rw[e];simp
theorem flat_len_le {α:Type} (f:α->List UInt8) (m:Nat):∀(l:List α),(∀x∈l,(f x).length<=m)->(l.flatMap f).length<=m * l.length
 | [],_=>by simp
 | x :: r,h=>by
  have h1:=flat_len_le f m r fun y hy=>h y (List.mem_cons_of_mem _ hy);have h2:=h x (List.mem_cons_self ..);rw[List.flatMap_cons,List.length_append,List.length_cons,Nat.mul_add,Nat.mul_one];omega
theorem lVw_len {v:Vw} (hC:Wq.VwC v) (h:v.zones.length<=256/\v.held.length<=256/\v.bods.length<=256):(lVw v).length<=1000000:=by
 obtain⟨ck,cz,ch,cb,cr⟩:=hC;have k1:=lV_len ck.1 ck.2;have k2:=flat_len_le lZn 1200 v.zones fun x hx=>by
  obtain⟨⟨a,b⟩,c,d⟩:=cz.2 x hx;have:=u63_len a;have:=u63_len b;have:=lV_len c d;unfold lZn lI;simp only[List.length_append];omega
 have k3:=flat_len_le lHd 40 v.held fun x hx=>by
  obtain⟨a,b,c⟩:=ch.2 x hx;have:=u63_len a;have:=u63_len b;have:=u63_len c;have:=u63_len (Wq.u63_g x.2.2);unfold lHd lI;simp only[List.length_append];omega
 have k4:=flat_len_le Wq.lB 300 v.bods fun x hx=>lB_len (cb.2 x hx).1 (cb.2 x hx).2;have k5:=Pk.lay_len9 (n:=v.zones.length) (by omega);have k6:=Pk.lay_len9 (n:=v.held.length) (by omega);have k7:=Pk.lay_len9 (n:=v.bods.length) (by omega);have k8:=u63_len cr;unfold lVw lI;simp only[List.length_append];omega
end Go.Proofs.YtmbeahbgafkjfaaGreatDoor
