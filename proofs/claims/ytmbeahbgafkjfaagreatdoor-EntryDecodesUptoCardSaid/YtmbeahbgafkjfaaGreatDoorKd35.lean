/- Lemmas for the claim, layer 35. -/
import Derived.Test.YtmbeahbgafkjfaaGreatDoorKd33
import Derived.Test.YtmbeahbgafkjfaaGreatDoorKd34
namespace Go.Proofs.YtmbeahbgafkjfaaGreatDoor.Wq
def onS {β:Type} (f:List UInt8→Option β):Option (List UInt8)→Option β
 | none=>none
 | some l=>f l
def thn {α β:Type} (o:Option (α×List UInt8)) (f:α→List UInt8→Option β):Option β:=match o with
 | none=>none
 | some (x,r)=>f x r
section
variable {α β:Type}
theorem onS_end {p:List UInt8→Option (α×List UInt8)} {d:α} {s t:Option (List UInt8)} {v:α} (h:onS p s=match t with | none=>none | some r=>some (v,r)):st p s=t∧∀q,st p s=some q→v=vl p d s:=by
 rcases s with _ | l
 ·rcases t with _ | r
  ·exact⟨rfl,fun q hq=>by cases hq⟩
  ·cases h
 ·rcases t with _ | r
  ·have e:p l=none:=h
   exact⟨by simp only[st,e],fun q hq=>by simp only[st,e] at hq;cases hq⟩
  ·have e:p l=some (v,r):=h
   exact⟨by simp only[st,e],fun q hq=>by simp only[vl,e]⟩
theorem onS_st {p:List UInt8→Option (α×List UInt8)} {d:α} {s:Option (List UInt8)} {v:α} {f:α→List UInt8→Option β} (hv:∀q,st p s=some q→v=vl p d s):onS (fun l=>thn (p l) f) s=onS (f v) (st p s):=by
 rcases s with _ | l
 ·rfl
 ·rcases hp:p l with _ | ⟨x,r⟩
  ·simp only[onS,thn,st,hp]
  ·have e:=hv r (by simp only[st,hp])
   simp only[vl,hp] at e
   subst e
   simp only[onS,thn,st,hp]
theorem pI_of (l:List UInt8):pI l=match numS (some l) with | none=>none | some r=>some ((numV (some l):Int),r):=by
 unfold pI
 simp only[numS,numV]
 rcases pN l with _ | ⟨n,r⟩<;>rfl
theorem onS_pI {s:Option (List UInt8)} {f:Int→List UInt8→Option β}:onS (fun l=>thn (pI l) f) s=onS (f (numV s:Int)) (numS s):=by
 rcases s with _ | l
 ·rfl
 ·show thn (pI l) f=_
  rw[pI_of]
  rcases numS (some l) with _ | r<;>rfl
theorem onS_lst {p:List UInt8→Option (α×List UInt8)} {K:List α→List UInt8→Option β} {s:Option (List UInt8)}:onS (lstK p K) s=onS (fun l=>repK p K (numV s) l []) (numS s):=by
 rcases s with _ | l
 ·rfl
 ·show lstK p K l=_
  unfold lstK
  simp only[numS,numV]
  rcases pN l with _ | ⟨n,r⟩<;>rfl
theorem onS_zero {p:List UInt8→Option (α×List UInt8)} {K:List α→List UInt8→Option β} {acc:List α} {s:Option (List UInt8)}:onS (fun l=>repK p K 0 l acc) s=onS (K acc) s:=by
 rcases s with _ | l
 ·rfl
 ·exact repK_zero (p:=p)
theorem onS_one {p:List UInt8→Option (α×List UInt8)} {d:α} {K:List α→List UInt8→Option β} {n:Nat} {acc:List α} {s:Option (List UInt8)} {v:α} (hv:∀q,st p s=some q→v=vl p d s):
  onS (fun l=>repK p K (n+1) l acc) s=onS (fun l=>repK p K n l (acc++[v])) (st p s):=by
 rw[show (fun l=>repK p K (n+1) l acc)=fun l=>thn (p l) fun x r=>repK p K n r (acc++[x]) from funext fun l=>by
  rcases hp:p l with _ | ⟨x,r⟩
  ·rw[repK_no hp];rfl
  ·rw[repK_yes hp];rfl,onS_st hv]
theorem st_cap {p:List UInt8→Option (α×List UInt8)} (hp:∀l x r,p l=some (x,r)→r.length≤l.length) {s:Option (List UInt8)} {m N:Nat} (h:Cap2 m s N):Cap2 m (st p s) N:=by
 rcases s with _ | l
 ·exact h
 ·have h':m+l.length≤N:=h
  rcases e:p l with _ | ⟨x,r⟩
  ·simp only[st,e];show m≤N+1;omega
  ·simp only[st,e];have:=hp l x r e;show m+r.length≤N;omega
theorem st_cap1 {p:List UInt8→Option (α×List UInt8)} (hp:∀l x r,p l=some (x,r)→r.length < l.length) {l:List UInt8} {m N:Nat} (h:Cap2 m (some l) N):Cap2 (m+1) (st p (some l)) N:=by
 have h':m+l.length≤N:=h
 rcases e:p l with _ | ⟨x,r⟩
 ·simp only[st,e];show m+1≤N+1;omega
 ·simp only[st,e];have:=hp l x r e;show m+1+r.length≤N;omega
end
theorem pV_le {l r:List UInt8} {v:List Vc.St} (h:pV l=some (v,r)):r.length≤l.length:=by rw[(pV_back h).1,List.length_append];omega
theorem pS_le {l r:List UInt8} {v:List Sn.Sp} (h:pS l=some (v,r)):r.length≤l.length:=by rw[(pS_back h).1,List.length_append];omega
theorem onS_vw {s:Option (List UInt8)} {v:List Vc.St} (hv:∀q,st pV s=some q→v=vl pV [] s):onS pVw s=onS (vw1 v) (st pV s):=by
 rw[show pVw=fun l=>thn (pV l) vw1 from funext fun l=>by rw[pVw_is];unfold thn;rcases pV l with _ | ⟨k,r⟩<;>rfl,onS_st hv]
theorem onS_vw4 {k:List Vc.St} {z:List Zn} {h:List Wr} {b:List Bd} {s:Option (List UInt8)}:onS (vw4 k z h b) s=match numS s with | none=>none | some r=>some (⟨k,z,h,b,(numV s:Int)⟩,r):=by
 rw[show vw4 k z h b=fun l=>thn (pI l) fun m r=>some (⟨k,z,h,b,m⟩,r) from funext fun l=>by unfold vw4 thn;rcases pI l with _ | ⟨m,r⟩<;>rfl,onS_pI]
 rcases numS s with _ | r<;>rfl
section
variable {β:Type}
theorem onS_zn {K:List Zn→List UInt8→Option β} {n:Nat} {acc:List Zn} {s:Option (List UInt8)} {v:List Vc.St} (hv:∀q,st pV (numS (numS s))=some q→v=vl pV [] (numS (numS s))):
  onS (fun l=>repK pZn K (n+1) l acc) s=onS (fun l=>repK pZn K n l (acc++[(((numV s:Int),(numV (numS s):Int)),v)])) (st pV (numS (numS s))):=by
 rw[show (fun l=>repK pZn K (n+1) l acc)=fun l=>thn (pI l) fun a r=>thn (pI r) fun b r2=>thn (pV r2) fun v q=>repK pZn K n q (acc++[((a,b),v)]) from funext fun l=>by
  rcases h1:pI l with _ | ⟨a,r⟩
  ·rw[repK_no (pZn_1 h1)];rfl
  show _=thn (pI r) _
  rcases h2:pI r with _ | ⟨b,r2⟩
  ·rw[repK_no (pZn_2 h1 h2)];rfl
  show _=thn (pV r2) _
  rcases h3:pV r2 with _ | ⟨v,q⟩
  ·rw[repK_no (pZn_3 h1 h2 h3)];rfl
  ·rw[repK_yes (pZn_4 h1 h2 h3)];rfl,onS_pI,onS_pI,onS_st hv]
theorem onS_hd {K:List Wr→List UInt8→Option β} {n:Nat} {acc:List Wr} {s:Option (List UInt8)}:
  onS (fun l=>repK pHd K (n+1) l acc) s=onS (fun l=>repK pHd K n l (acc++[(((numV (numS (numS s)):Int),(numV (numS s):Int)),(numV s:Int),decide (numV (numS (numS (numS s)))=1))])) (stW (numS (numS (numS (numS s)))) (numV (numS (numS (numS s))))):=by
 rw[show (fun l=>repK pHd K (n+1) l acc)=fun l=>thn (pI l) fun a r=>thn (pI r) fun b r2=>thn (pI r2) fun c r3=>thn (pI r3) fun d r4=>if d=0 then repK pHd K n r4 (acc++[((c,b),a,false)]) else if d=1 then repK pHd K n r4 (acc++[((c,b),a,true)]) else none from funext fun l=>by
  rcases h1:pI l with _ | ⟨a,r⟩
  ·rw[repK_no (pHd_1 h1)];rfl
  show _=thn (pI r) _
  rcases h2:pI r with _ | ⟨b,r2⟩
  ·rw[repK_no (pHd_2 h1 h2)];rfl
  show _=thn (pI r2) _
  rcases h3:pI r2 with _ | ⟨c,r3⟩
  ·rw[repK_no (pHd_3 h1 h2 h3)];rfl
  show _=thn (pI r3) _
  rcases h4:pI r3 with _ | ⟨d,r4⟩
  ·rw[repK_no (pHd_4 h1 h2 h3 h4)];rfl
  show _=if d=0 then _ else _
  have h5:=pHd_5 h1 h2 h3 h4
  by_cases d0:d=0
  ·rw[if_pos d0] at h5 ⊢;exact repK_yes h5
  by_cases d1:d=1
  ·rw[if_neg d0,if_pos d1] at h5 ⊢;exact repK_yes h5
  ·rw[if_neg d0,if_neg d1] at h5 ⊢;exact repK_no h5,onS_pI,onS_pI,onS_pI,onS_pI]
 generalize numV (numS (numS (numS s)))=g
 rcases numS (numS (numS (numS s))) with _ | q
 ·rw[show stW none g=none by unfold stW;split<;>rfl];rfl
 ·show (if (g:Int)=0 then _ else _)=_
  unfold stW
  by_cases g0:g=0
  ·subst g0;rfl
  by_cases g1:g=1
  ·subst g1;rfl
  ·rw[if_neg (by omega),if_neg (by omega),if_pos (by omega)];rfl
end
end Go.Proofs.YtmbeahbgafkjfaaGreatDoor.Wq
namespace Go.Proofs.YtmbeahbgafkjfaaGreatDoor
theorem VC.rrg {w W W':World} {g X base:Nat} {u:VV} {v:Vw} {L:List (ZV×Zn)} {M:List (BV×Wq.Bd)} {l:List UInt8} {t:Option (List UInt8)} (h:VC w W g X base u v L M) (hr:RR W g l t) {size n:Nat} {e:TypeId} {z:Value} {xs:List Value} (ho:W.ownsRow base e size z n xs) (hgr:W.grownBy W' z.ownBlock) (i:Nat) (y:Value):RR (W'.setCell ⟨X,i,none⟩ y) g l t:=
 (hr.below (grown_below hgr (Nat.le_trans h.hX h.blk.lt) (fun k hk=>(ho.lt k hk).1)) h.hg).but (But.set_ (g:=X) W' (p:=⟨X,i,none⟩) rfl _) (by have:=h.hg;have:=h.hX;have:=h.ne;omega)
end Go.Proofs.YtmbeahbgafkjfaaGreatDoor
