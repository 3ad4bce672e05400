/- Lemmas for the claim, layer 4. -/
import Derived.Test.YtmbeahbgafkjfaaGreatDoorKb03
namespace Go.Proofs.YtmbeahbgafkjfaaGreatDoor
theorem rise_iff:∀(last:Int) (l:List Wr),rise last l=true↔(∀w∈l,last < w.2.1)∧l.Pairwise fun a b=>a.2.1 < b.2.1
 | last,[]=>by simp[rise]
 | last,x :: r=>by
  rw[rise,Bool.and_eq_true,decide_eq_true_eq,rise_iff x.2.1 r,List.pairwise_cons]
  constructor
  ·rintro⟨h1,h2,h3⟩
   refine⟨fun w hw=>?_,h2,h3⟩
   rcases List.mem_cons.1 hw with rfl | hw
   ·exact h1
   ·have:=h2 w hw;omega
  ·rintro⟨h1,h2,h3⟩
   exact⟨h1 x (by simp),h2,h3⟩
theorem ntW_iff (e:List Vc.St) (b:List Sn.Sp):∀(last:Int) (l:List Wr),ntW e b last l=true↔rise last l=true∧∀w∈l,(0≤w.2.1∧w.2.1≤255)∧hasO b w.2.1=false∧hasB e w.1=true
 | last,[]=>by simp[ntW,rise]
 | last,x :: r=>by
  rw[ntW,rise,Bool.and_eq_true,Bool.and_eq_true,ntW_iff e b x.2.1 r]
  unfold wOk
  simp only[Bool.and_eq_true,decide_eq_true_eq,Bool.not_eq_true',List.mem_cons,forall_eq_or_imp]
  constructor
  ·rintro⟨⟨a1,a2,a3,a4⟩,a5,a6⟩
   exact⟨⟨a1,a5⟩,⟨a2,a3,a4⟩,a6⟩
  ·rintro⟨⟨a1,a5⟩,⟨a2,a3,a4⟩,a6⟩
   exact⟨⟨a1,a2,a3,a4⟩,a5,a6⟩
def seen (sp:List Sn.Sp) (l:List Wr):List Wr:=l.filter fun w=>hasO sp w.2.1
theorem stl_len {v:List Vc.St} (h:fm (-1) v=true):v.length≤64:=by
 have:∀(last:Int) (v:List Vc.St),fm last v=true→-1≤last→(v.length:Int)≤63 - last∨v=[]:=by
  intro last v
  induction v generalizing last with
  | nil=>exact fun _ _=>.inr rfl
  | cons s r ih=>
   intro h hl
   rw[fm,Bool.and_eq_true,Bool.and_eq_true,decide_eq_true_eq,Vc.right_iff] at h
   obtain⟨⟨h1,h2,h3⟩,h4,h5⟩:=h
   refine .inl ?_
   rcases ih s.2 h5 (by omega) with h6 | rfl
   ·rw[List.length_cons];omega
   ·simp;omega
 rcases this (-1) v h (by omega) with h | rfl
 ·omega
 ·simp
theorem wrl_len {e:List Vc.St} {b:List Sn.Sp} {l:List Wr} (h:ntW e b (-1) l=true):l.length≤256:=by
 have:∀(last:Int) (l:List Wr),ntW e b last l=true→-1≤last→(l.length:Int)≤255 - last∨l=[]:=by
  intro last l
  induction l generalizing last with
  | nil=>exact fun _ _=>.inr rfl
  | cons w r ih=>
   intro h hl
   rw[ntW,Bool.and_eq_true] at h
   obtain⟨h1,h2⟩:=h
   unfold wOk at h1
   simp only[Bool.and_eq_true,decide_eq_true_eq] at h1
   refine .inl ?_
   rcases ih w.2.1 h2 (by omega) with h6 | rfl
   ·rw[List.length_cons];omega
   ·simp;omega
 rcases this (-1) l h (by omega) with h | rfl
 ·omega
 ·simp
abbrev Zn:=Sn.Sp×List Vc.St
def zStep (e:Int) (p:Option (List Vc.St)) (x:Zn):Bool:=
 (decide (e < x.1.1) && (decide (x.1.1≤x.1.2) && decide (x.1.2≤255))) && (fm (-1) x.2 && !(decide (p=some x.2) && decide (x.1.1=e+1)))
def zF:Int→Option (List Vc.St)→List Zn→Bool
 | _,_,[]=>true
 | e,p,x :: r=>zStep e p x && zF x.1.2 (some x.2) r
def inZ (o:Int) (x:Zn):Bool:=decide (x.1.1≤o) && decide (o≤x.1.2)
def reach (z:List Zn) (known:List Vc.St) (o:Int):List Vc.St:=
 match z.find? (inZ o) with
 | some x=>x.2
 | none=>known
def pcs (known:List Vc.St):Int→List Zn→List Zn
 | a,[]=>if a≤255 then [((a,255),known)] else []
 | a,x :: r=>(if a < x.1.1 then [((a,x.1.1 - 1),known)] else [])++x :: pcs known (x.1.2+1) r
theorem zStep_iff {e:Int} {p:Option (List Vc.St)} {x:Zn} (h:zStep e p x=true):e < x.1.1∧x.1.1≤x.1.2∧x.1.2≤255∧fm (-1) x.2=true:=by
 unfold zStep at h
 simp only[Bool.and_eq_true,decide_eq_true_eq] at h
 exact⟨h.1.1,h.1.2.1,h.1.2.2,h.2.1⟩
theorem inZ_iff {o:Int} {x:Zn}:inZ o x=true↔x.1.1≤o∧o≤x.1.2:=by unfold inZ;simp
theorem zF_none:∀{e:Int} {p:Option (List Vc.St)} {z:List Zn} {o:Int},zF e p z=true→o≤e→z.find? (inZ o)=none
 | _,_,[],_,_,_=>rfl
 | e,p,x :: r,o,h,ho=>by
  rw[zF,Bool.and_eq_true] at h
  obtain⟨h1,h2,h3,_⟩:=zStep_iff h.1
  rw[List.find?_cons,show inZ o x=false by unfold inZ;simp;omega]
  exact zF_none h.2 (by omega)
theorem zF_fm:∀{e:Int} {p:Option (List Vc.St)} {z:List Zn},zF e p z=true→∀x∈z,fm (-1) x.2=true
 | _,_,[],_,_,hx=>by cases hx
 | e,p,y :: r,h,x,hx=>by
  rw[zF,Bool.and_eq_true] at h
  rcases List.mem_cons.1 hx with rfl | hx
  ·exact(zStep_iff h.1).2.2.2
  ·exact zF_fm h.2 x hx
theorem zF_len:∀{e:Int} {p:Option (List Vc.St)} {z:List Zn},zF e p z=true→-1≤e→(z.length:Int)≤255 - e∨z=[]
 | _,_,[],_,_=>.inr rfl
 | e,p,x :: r,h,he=>by
  rw[zF,Bool.and_eq_true] at h
  obtain⟨h1,h2,h3,_⟩:=zStep_iff h.1
  refine .inl ?_
  rcases zF_len h.2 (by omega) with h4 | rfl
  ·rw[List.length_cons];omega
  ·simp;omega
theorem zF_256 {z:List Zn} (h:zF (-1) none z=true):z.length≤256:=by
 rcases zF_len h (by omega) with h | rfl
 ·omega
 ·simp
theorem pcs_reach (known:List Vc.St):∀{e:Int} {p:Option (List Vc.St)} {z:List Zn},zF e p z=true→∀q∈pcs known (e+1) z,(e < q.1.1∧q.1.1≤q.1.2∧q.1.2≤255)∧∀o,inZ o q=true→reach z known o=q.2
 | e,p,[],_,q,hq=>by
  rw[pcs] at hq
  split at hq
  ·rcases List.mem_singleton.1 hq with rfl
   exact⟨⟨by dsimp only;omega,by dsimp only;omega,by dsimp only;omega⟩,fun o _=>rfl⟩
  ·cases hq
 | e,p,x :: r,h,q,hq=>by
  rw[zF,Bool.and_eq_true] at h
  obtain⟨h1,h2,h3,_⟩:=zStep_iff h.1
  rw[pcs,List.mem_append,List.mem_cons] at hq
  rcases hq with hq | rfl | hq
  ·split at hq
   ·rcases List.mem_singleton.1 hq with rfl
    refine⟨⟨by dsimp only;omega,by dsimp only;omega,by dsimp only;omega⟩,fun o ho=>?_⟩
    have:=inZ_iff.1 ho
    dsimp only at this
    unfold reach
    rw[List.find?_cons,show inZ o x=false by unfold inZ;simp;omega]
    dsimp only
    rw[zF_none h.2 (by omega)]
   ·cases hq
  ·refine⟨⟨h1,h2,h3⟩,fun o ho=>?_⟩
   unfold reach
   rw[List.find?_cons,ho]
  ·obtain⟨⟨a1,a2,a3⟩,a4⟩:=pcs_reach known h.2 q hq
   refine⟨⟨by omega,a2,a3⟩,fun o ho=>?_⟩
   rw[←a4 o ho]
   have:=inZ_iff.1 ho
   unfold reach
   rw[List.find?_cons,show inZ o x=false by unfold inZ;simp;omega]
theorem pcs_all (known:List Vc.St):∀{e:Int} {p:Option (List Vc.St)} {z:List Zn} {o:Int},zF e p z=true→e < o→o≤255→∃q∈pcs known (e+1) z,inZ o q=true
 | e,p,[],o,_,h0,h1=>by
  rw[pcs,if_pos (by omega)]
  exact⟨_,List.mem_singleton.2 rfl,inZ_iff.2 ⟨by dsimp only;omega,h1⟩⟩
 | e,p,x :: r,o,h,h0,h1=>by
  rw[zF,Bool.and_eq_true] at h
  obtain⟨b1,b2,b3,_⟩:=zStep_iff h.1
  rw[pcs]
  rcases Int.lt_or_le o x.1.1 with c | c
  ·rw[if_pos (by omega)]
   exact⟨_,List.mem_append_left _ (List.mem_singleton.2 rfl),inZ_iff.2 ⟨by dsimp only;omega,by dsimp only;omega⟩⟩
  ·rcases Int.lt_or_le x.1.2 o with d | d
   ·obtain⟨q,hq,hi⟩:=pcs_all known h.2 d h1
    exact⟨q,List.mem_append_right _ (List.mem_cons_of_mem _ hq),hi⟩
   ·exact⟨x,List.mem_append_right _ (List.mem_cons_self ..),inZ_iff.2 ⟨c,d⟩⟩
end Go.Proofs.YtmbeahbgafkjfaaGreatDoor
namespace Go.Proofs.YtmbeahbgafkjfaaGreatDoor.Sn
theorem fmS_weak {e f:Int} {l:List Sp} (h:fmS f l=true) (he:e≤f):fmS e l=true:=by
 cases l with
 | nil=>rfl
 | cons s r=>
  obtain⟨h1,h2,h3,h4,h5⟩:=fmS_cons.1 h
  exact fmS_cons.2 ⟨h1,h2,h3,by omega,h5⟩
def bothS (s t:Sp):List Sp:=if max s.1 t.1≤min s.2 t.2 then [(max s.1 t.1,min s.2 t.2)] else []
def mtg:List Sp→List Sp→List Sp
 | [],_=>[]
 | _ :: _,[]=>[]
 | s :: p,t :: q=>bothS s t++(if s.2 < t.2 then mtg p (t :: q) else mtg (s :: p) q)
termination_by x y=>x.length+y.length
theorem mtg_nil (y:List Sp):mtg [] y=[]:=by rw[mtg]
theorem mtg_nil2 (x:List Sp):mtg x []=[]:=by cases x<;>rw[mtg]
theorem mtg_step (s t:Sp) (p q:List Sp):mtg (s :: p) (t :: q)=bothS s t++(if s.2 < t.2 then mtg p (t :: q) else mtg (s :: p) q):=by rw[mtg]
theorem in_both (s t:Sp) (o:Int):inB (bothS s t) o=((decide (s.1≤o) && decide (o≤s.2)) && (decide (t.1≤o) && decide (o≤t.2))):=by
 unfold bothS
 split
 ·simp only[inB,List.any_cons,List.any_nil,Bool.or_false]
  rw[Bool.eq_iff_iff];simp;omega
 ·simp only[inB,List.any_nil]
  rw[Bool.eq_iff_iff];simp;omega
theorem mtg_ok:∀(n:Nat) (x y:List Sp),x.length+y.length=n→∀(e f:Int),fmS e x=true→fmS f y=true→fmS (max e f) (mtg x y)=true∧∀o,inB (mtg x y) o=(inB x o && inB y o):=by
 intro n
 induction n with
 | zero=>
  intro x y hn e f _ _
  obtain rfl:=List.eq_nil_of_length_eq_zero (show x.length=0 by omega)
  rw[mtg_nil]
  exact⟨rfl,fun o=>by simp[inB]⟩
 | succ n ih=>
  intro x y hn e f hx hy
  rcases x with _ | ⟨s,p⟩
  ·rw[mtg_nil];exact⟨rfl,fun o=>by simp[inB]⟩
  ·rcases y with _ | ⟨t,q⟩
   ·rw[mtg_nil2];exact⟨rfl,fun o=>by simp[inB]⟩
   ·obtain⟨a1,a2,a3,a4,a5⟩:=fmS_cons.1 hx
    obtain⟨b1,b2,b3,b4,b5⟩:=fmS_cons.1 hy
    rw[mtg_step]
    by_cases hc:s.2 < t.2
    ·rw[if_pos hc]
     obtain⟨h1,h2⟩:=ih p (t :: q) (by simp only[List.length_cons] at hn ⊢;omega) s.2 f a5 hy
     refine⟨?_,fun o=>?_⟩
     ·unfold bothS
      split
      ·exact fmS_cons.2 ⟨by simp only;omega,by simp only;omega,by simp only;omega,by simp only;omega,fmS_weak h1 (by simp only;omega)⟩
      ·exact fmS_weak h1 (by omega)
     ·rw[inB_app,h2,in_both,inB_cons s,inB_cons t]
      have hq:=fun h=>fmS_in b5 o h
      rw[Bool.eq_iff_iff]
      simp only[Bool.or_eq_true,Bool.and_eq_true,decide_eq_true_eq]
      constructor
      ·rintro(⟨h3,h4⟩ | ⟨h3,h4⟩)
       ·exact⟨.inl h3,.inl h4⟩
       ·exact⟨.inr h3,h4⟩
      ·rintro⟨h3 | h3,h4 | h4⟩
       ·exact .inl ⟨h3,h4⟩
       ·have:=hq h4;omega
       ·exact .inr ⟨h3,.inl h4⟩
       ·exact .inr ⟨h3,.inr h4⟩
    ·rw[if_neg hc]
     obtain⟨h1,h2⟩:=ih (s :: p) q (by simp only[List.length_cons] at hn ⊢;omega) e t.2 hx b5
     refine⟨?_,fun o=>?_⟩
     ·unfold bothS
      split
      ·exact fmS_cons.2 ⟨by simp only;omega,by simp only;omega,by simp only;omega,by simp only;omega,fmS_weak h1 (by simp only;omega)⟩
      ·exact fmS_weak h1 (by omega)
     ·rw[inB_app,h2,in_both,inB_cons s,inB_cons t]
      have hp:=fun h=>fmS_in a5 o h
      rw[Bool.eq_iff_iff]
      simp only[Bool.or_eq_true,Bool.and_eq_true,decide_eq_true_eq]
      constructor
      ·rintro(⟨h3,h4⟩ | ⟨h3,h4⟩)
       ·exact⟨.inl h3,.inl h4⟩
       ·exact⟨h3,.inr h4⟩
      ·rintro⟨h3 | h3,h4 | h4⟩
       ·exact .inl ⟨h3,h4⟩
       ·exact .inr ⟨.inl h3,h4⟩
       ·have:=hp h3;omega
       ·exact .inr ⟨.inr h3,h4⟩
def meetL (a b:List Sp):List Sp:=of fun o=>setOf a o && setOf b o
theorem mtg_meet (a b:List Sp):mtg (tidy a) (tidy b)=meetL a b:=by
 obtain⟨h1,h2⟩:=mtg_ok _ _ _ rfl _ _ (tidy_fm a) (tidy_fm b)
 refine fmS_one (fmS_weak h1 (by omega)) (of_fm _) fun o h0 h255=>?_
 obtain⟨k,rfl⟩:=Int.eq_ofNat_of_zero_le h0
 rw[h2,tidy_in a _ h0 h255,tidy_in b _ h0 h255,meetL,of_in _ k (by omega)];rfl
def rst:Int→List Sp→List Sp
 | from_,[]=>if from_≤255 then [(from_,255)] else []
 | from_,s :: r=>(if from_ < s.1 then [(from_,s.1 - 1)] else [])++rst (s.2+1) r
theorem rst_ok:∀(l:List Sp) (e f:Int),fmS e l=true→f≤e+2→0≤f→fmS (f - 2) (rst f l)=true∧∀o,0≤o→o≤255→inB (rst f l) o=(decide (f≤o) && !inB l o):=by
 intro l
 induction l with
 | nil=>
  intro e f _ _ h0
  rw[rst]
  split
  ·exact⟨by simp[fmS];omega,fun o _ h=>by simp[inB,h]⟩
  ·exact⟨rfl,fun o _ h=>by simp[inB];omega⟩
 | cons s r ih=>
  intro e f h hf h0
  obtain⟨a1,a2,a3,a4,a5⟩:=fmS_cons.1 h
  obtain⟨h1,h2⟩:=ih s.2 (s.2+1) a5 (by omega) (by omega)
  rw[rst]
  refine⟨?_,fun o ho h255=>?_⟩
  ·split
   ·exact fmS_cons.2 ⟨by simp only;omega,by simp only;omega,by simp only;omega,by simp only;omega,fmS_weak h1 (by simp only;omega)⟩
   ·exact fmS_weak h1 (by omega)
  ·rw[inB_app,h2 o ho h255,inB_cons]
   have hr:=fun h=>fmS_in a5 o h
   rcases hb:inB r o with _ | _
   ·split
    ·simp only[inB,List.any_cons,List.any_nil,Bool.or_false]
     rw[Bool.eq_iff_iff];simp;omega
    ·simp only[inB,List.any_nil]
     rw[Bool.eq_iff_iff];simp;omega
   ·have:=hr hb
    split
    ·simp only[inB,List.any_cons,List.any_nil,Bool.or_false]
     rw[Bool.eq_iff_iff];simp;omega
    ·simp[inB]
def restL (l:List Sp):List Sp:=of fun o=>!setOf l o
theorem rst_rest (l:List Sp):rst 0 (tidy l)=restL l:=by
 obtain⟨h1,h2⟩:=rst_ok (tidy l) (-2) 0 (tidy_fm l) (by omega) (by omega)
 refine fmS_one h1 (of_fm _) fun o h0 h255=>?_
 obtain⟨k,rfl⟩:=Int.eq_ofNat_of_zero_le h0
 rw[h2 _ h0 h255,tidy_in l _ h0 h255,restL,of_in _ k (by omega),decide_eq_true h0,Bool.true_and];rfl
theorem setOf_of (p:Nat→Bool) (o:Nat) (h:o < 256):setOf (of p) o=p o:=of_in p o h
def lessL (a b:List Sp):List Sp:=of fun o=>setOf a o && !setOf b o
theorem meet_rest (a b:List Sp):meetL a (restL b)=lessL a b:=of_congr fun o ho=>by rw[restL,setOf_of _ o ho]
theorem fmS_ok {e:Int} {l:List Sp} (h:fmS e l=true):∀s∈l,okS s:=by
 induction l generalizing e with
 | nil=>intro s hs;cases hs
 | cons t r ih=>
  obtain⟨a1,a2,a3,a4,a5⟩:=fmS_cons.1 h
  intro s hs
  rcases List.mem_cons.1 hs with rfl | hs
  ·exact⟨a3,a1,a2⟩
  ·exact ih a5 s hs
end Go.Proofs.YtmbeahbgafkjfaaGreatDoor.Sn
