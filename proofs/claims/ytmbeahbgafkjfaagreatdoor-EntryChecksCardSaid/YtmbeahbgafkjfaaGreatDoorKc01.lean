/- Lemmas for the claim, layer 1. -/
import Derived.Lib.Overlaps
import Derived.Test.YtmbeahbgafkjfaaGreatDoorKc00
namespace Go.Proofs.YtmbeahbgafkjfaaGreatDoor
theorem grown_drew {w w':World} {row:Option Nat} (h:w.drew.grownBy w' row):w.grownBy w' row:=⟨h.os,h.tape,h.output,h.size,h.block⟩
section
variable {P:Program}
theorem run_copy_k (w:World) (dT sT ty elem:TypeId) (k b o dLen dCap:Nat) (a:Addr) (sLen sCap m:Nat) (cs:List Value)
  (hu:P.underlying dT=some (.slice elem)) (hs:(P.info? elem).map (·.size)=some k) (hm:m=Nat.min sLen dLen) (hn:cs.length=m * k)
  (hsrc:∀j v,cs[j]?=some v->w.cell? (a.add j)=some v) (hc:∀j,j < cs.length->(w.cell? ⟨b,o+j,none⟩).isSome=true) (hf:∀j,j < cs.length->w.frozen? ⟨b,o+j,none⟩=false) (h1:∀v∈cs,v.oneCell'=true):
  (Builtin.copy_ #[dT,sT] ty #[.slice (some ⟨b,o,none⟩) dLen dCap,.slice (some a) sLen sCap]).run P w=.ok (goInt m) (w.setCells b o cs):=by
 have hl:=run_loadCells_list (P:=P) w a cs hsrc;have hst:=run_storeCells_cells (P:=P) b o cs 0 w (by simpa using hc) (by simpa using hf) h1
 cases hq:P.info? elem with
 | none=>simp[hq] at hs
 | some i=>
  have hi:i.size=k:=by simpa[hq] using hs
  simp[Builtin.copy_,run_underlying hu,Builtin.lenOf,Builtin.firstCells,sizeOf,typeInfo,hq,hi,<-hm,<-hn,hl,hst]
theorem wp_append_roomS (w:World) {o:Oper} {a:Act} {K:Act->World->Prop} {Q:Exit->Act->World->Prop} (s x:Operand) (t tx:TypeId) (hop:o.op=Op.call { callee:=Callee.builtin Builtin.append,args:=#[s,x],argTypes:=#[t,tx] })
  (e:TypeId) (i:TypeInfo) (ht:P.underlying t=some (.slice e)) (hi:P.info? e=some i)
  (b off sLen sCap:Nat) (hs:a.eval s=.slice (some ⟨b,off,none⟩) sLen sCap) (xv:Value) (hx:a.eval x=xv) (n:Nat) (news:List Value) (hsrc:Src P i.size tx xv n news w)
  (hroom:sLen+n<=sCap) (hc:∀j,j < news.length->(w.cell? ⟨b,off+sLen * i.size+j,none⟩).isSome=true) (hf:∀j,j < news.length->w.frozen? ⟨b,off+sLen * i.size+j,none⟩=false)
  (hK:K (a.put o.dst (.slice (some ⟨b,off,none⟩) (sLen+n) sCap)) (w.setCells b (off+sLen * i.size) news)):o.wp P a w K Q:=by
 have hrun:=run_append_room_src (P:=P) (w:=w) t tx o.type e i ht hi b off sLen sCap xv n news hsrc hroom hc hf;unfold Oper.wp;simp[execOp,hop,resolve,invoke,builtin,hs,hx,hrun,Result.andThen];exact hK
theorem wp_copy_runK (w:World) {o:Oper} {a:Act} {K:Act->World->Prop} {Q:Exit->Act->World->Prop} (d s:Operand) (t t':TypeId)
  (ho:o.op=.call { callee:=.builtin .copy,args:=#[d,s],argTypes:=#[t,t'] }) (v u:Value) (hd:a.eval d=v) (hs:a.eval s=u) {v':Value} {w':World}
  (hr:(Builtin.copy_ #[t,t'] o.type #[v,u]).run P w=.ok v' w') (h:K (a.put o.dst v') w'):o.wp P a w K Q:=by
 unfold Oper.wp execOp;simp only[ho,resolve,invoke,builtin,Sem.run_bind,Sem.run_pure,Result.andThen_ok,List.map_toArray,List.map_cons,List.map_nil,hd,hs,hr];exact h
theorem wpList_append_runK (w:World) {ops:Array Oper} {rest:List Oper} {o:Oper} {a:Act} {Q:Exit->Act->World->Prop} (hgd:o.guard=none) (d s:Operand) (t t':TypeId)
  (ho:o.op=.call { callee:=.builtin .append,args:=#[d,s],argTypes:=#[t,t'] }) (v u:Value) (hd:a.eval d=v) (hs:a.eval s=u) {v':Value} {w':World}
  (hr:(Builtin.append_ #[t,t'] o.type #[v,u]).run P w=.ok v' w') (h:wpList P ops Q rest (a.put o.dst v') w'):wpList P ops Q (o :: rest) a w:=
 wpList_plain hgd fun K hK=>by
  unfold Oper.wp execOp;simp only[ho,resolve,invoke,builtin,Sem.run_bind,Sem.run_pure,Result.andThen_ok,List.map_toArray,List.map_cons,List.map_nil,hd,hs,hr];exact hK _ _ h
end
end Go.Proofs.YtmbeahbgafkjfaaGreatDoor
namespace Go.Proofs.YtmbeahbgafkjfaaGreatDoor.Pk
def lay (n:Nat):List UInt8:=if n < 128 then [UInt8.ofNat n] else UInt8.ofNat (n % 128+128) :: lay (n / 128)
termination_by n
decreasing_by omega
def val:List UInt8->Nat->Nat
 | _,0=>0
 | [],_=>0
 | c :: l,m+1=>c.toNat % 128+128 * val l m
def num (L:List UInt8):Nat->List UInt8->Nat×Nat×Nat
 | i,[]=>if i < 9 then (0,0,5) else (0,0,4)
 | i,c :: r=>if 9<=i then (0,0,4) else if 128<=c.toNat then num L (i+1) r else if c.toNat=0/\0 < i then (0,0,4) else (val L (i+1),i+1,0)
theorem lay_small {n:Nat} (h:n < 128):lay n=[UInt8.ofNat n]:=by rw[lay,if_pos h]
theorem lay_more {n:Nat} (h:128<=n):lay n=UInt8.ofNat (n % 128+128) :: lay (n / 128):=by rw[lay,if_neg (by omega)]
theorem lay_pos (n:Nat):0 < (lay n).length:=by
 rw[lay];split<;>simp
theorem val_zero (l:List UInt8):val l 0=0:=by cases l<;>rfl
theorem val_nil (m:Nat):val [] m=0:=by cases m<;>rfl
theorem val_cons (c:UInt8) (l:List UInt8) (m:Nat):val (c :: l) (m+1)=c.toNat % 128+128 * val l m:=rfl
theorem val_lt (l:List UInt8) (m:Nat):val l m < 128 ^ m:=by
 induction l generalizing m with
 | nil=>rw[val_nil];exact Nat.pow_pos (by omega)
 | cons c l ih=>
  cases m with
  | zero=>simp[val_zero]
  | succ m=>rw[val_cons,Nat.pow_succ];have:=ih m;omega
theorem val_snoc (l:List UInt8) (k:Nat) (h:k < l.length):val l (k+1)=val l k+l[k].toNat % 128 * 128 ^ k:=by
 induction l generalizing k with
 | nil=>simp at h
 | cons c l ih=>
  cases k with
  | zero=>simp[val_cons,val_zero]
  | succ k=>
   have h':k < l.length:=by simpa using h
   rw[val_cons,val_cons,ih k h',Nat.pow_succ];simp only[List.getElem_cons_succ];rw[Nat.mul_add,Nat.add_assoc,Nat.mul_comm (128 ^ k) 128,Nat.mul_left_comm]
theorem val_append (l r:List UInt8) (m:Nat) (h:m<=l.length):val (l++r) m=val l m:=by
 induction l generalizing m with
 | nil=>obtain rfl:m=0:=by simpa using h
        simp[val_zero]
 | cons c l ih=>
  cases m with
  | zero=>simp[val_zero]
  | succ m=>rw[List.cons_append,val_cons,val_cons,ih m (by simpa using h)]
theorem toNat_ofNat {n:Nat} (h:n < 256):(UInt8.ofNat n).toNat=n:=by
 rw[UInt8.toNat_ofNat'];omega
theorem lay_form (n:Nat):∃pre c,lay n=pre++[c]/\(∀b∈pre,128<=b.toNat)/\c.toNat < 128/\(pre≠[]->0 < c.toNat)/\val (lay n) (lay n).length=n:=by
 induction n using Nat.strongRecOn with
 | _ n ih=>
  rcases Nat.lt_or_ge n 128 with h | h
  ·have e:=toNat_ofNat (n:=n) (by omega);refine⟨[],UInt8.ofNat n,by rw[lay_small h];rfl,(fun b hb=>by cases hb),by omega,(fun hne=>absurd rfl hne),?_⟩;rw[lay_small h];show val [UInt8.ofNat n] 1=n;rw[val_cons,val_zero,e];omega
  ·obtain⟨pre,c,h1,h2,h3,h4,h5⟩:=ih (n / 128) (by omega);have e:=toNat_ofNat (n:=n % 128+128) (by omega);refine⟨UInt8.ofNat (n % 128+128) :: pre,c,by rw[lay_more h,h1];rfl,?_,h3,fun _=>?_,?_⟩
   ·intro b hb;rcases List.mem_cons.1 hb with rfl | hb
    ·omega
    ·exact h2 b hb
   ·by_cases hp:pre=[]
    ·subst hp;have hl:(lay (n / 128)).length=1:=by rw[h1];rfl
     rw[hl,h1] at h5;simp only[List.nil_append] at h5;rw[val_cons,val_zero] at h5;omega
    ·exact h4 hp
   ·rw[lay_more h];simp only[List.length_cons];rw[val_cons,h5,e];omega
theorem lay_len_le (n m:Nat) (h:n < 128 ^ (m+1)):(lay n).length<=m+1:=by
 induction m generalizing n with
 | zero=>rw[lay_small (by simpa using h)];simp
 | succ m ih=>
  rcases Nat.lt_or_ge n 128 with h1 | h1
  ·rw[lay_small h1];simp
  ·rw[lay_more h1,List.length_cons];have:=ih (n / 128) (by rw[Nat.pow_succ] at h;omega);omega
theorem lay_len9 {n:Nat} (h:n < 9223372036854775808):(lay n).length<=9:=lay_len_le n 8 (by simpa using h)
theorem num_pre (L pre:List UInt8) (c:UInt8) (r:List UInt8) (i:Nat) (hp:∀b∈pre,128<=b.toNat) (hi:i+pre.length < 9) (hc:c.toNat < 128) (h0:0 < i+pre.length->0 < c.toNat):
  num L i (pre++c :: r)=(val L (i+pre.length+1),i+pre.length+1,0):=by
 induction pre generalizing i with
 | nil=>
  simp only[List.nil_append,List.length_nil,Nat.add_zero] at hi h0 ⊢;rw[num,if_neg (by omega),if_neg (by omega),if_neg (by omega)]
 | cons b pre ih=>
  have hb:=hp b (by simp);simp only[List.cons_append,List.length_cons] at hi h0 ⊢;rw[num,if_neg (by omega),if_pos hb,ih (i+1) (fun x hx=>hp x (by simp[hx])) (by omega) (fun _=>h0 (by omega))];rw[show i+1+pre.length=i+(pre.length+1) by omega]
theorem num_lay {n:Nat} (h:n < 9223372036854775808) (r:List UInt8):num (lay n++r) 0 (lay n++r)=(n,(lay n).length,0):=by
 obtain⟨pre,c,h1,h2,h3,h4,h5⟩:=lay_form n;have hl:(lay n).length=pre.length+1:=by rw[h1];simp
 have h9:=lay_len9 h;have hv:val (lay n++r) (pre.length+1)=n:=by rw[val_append _ _ _ (by omega),<-hl,h5]
 have e:=num_pre (lay n++r) pre c r 0 h2 (by omega) h3 (fun hp=>h4 (by intro e;subst e;simp at hp));rw[Nat.zero_add,hv] at e;rw[<-hl] at e;rw[<-e];congr 1;rw[h1];simp
theorem num_ok (L:List UInt8):∀(r:List UInt8) (i x k:Nat),num L i r=(x,k,0) ->
  ∃pre c r',r=pre++c :: r'/\(∀b∈pre,128<=b.toNat)/\c.toNat < 128/\(0 < i+pre.length->0 < c.toNat)/\k=i+pre.length+1/\k<=9/\x=val L k
 | [],i,x,k,h=>by
  rw[num] at h
  split at h<;>simp at h
 | c :: r,i,x,k,h=>by
  rw[num] at h
  split at h
  ·simp at h
  ·split at h
   ·obtain⟨pre,d,r',h1,h2,h3,h4,h5,h6,h7⟩:=num_ok L r (i+1) x k h;refine⟨c :: pre,d,r',by rw[h1];rfl,?_,h3,fun hh=>h4 (by simp only[List.length_cons] at hh;omega),by simp only[List.length_cons];omega,h6,h7⟩;intro b hb;rcases List.mem_cons.1 hb with rfl | hb
    ·assumption
    ·exact h2 b hb
   ·split at h
    ·simp at h
    ·simp only[Prod.mk.injEq,and_true] at h;refine⟨[],c,r,rfl,(fun b hb=>by cases hb),by omega,?_,by simp;omega,by omega,by rw[<-h.2,<-h.1]⟩;intro h0;simp only[List.length_nil,Nat.add_zero] at h0;omega
theorem lay_val (pre:List UInt8) (c:UInt8) (h2:∀b∈pre,128<=b.toNat) (h3:c.toNat < 128) (h4:0 < pre.length->0 < c.toNat):lay (val (pre++[c]) (pre.length+1))=pre++[c]/\(0 < c.toNat->0 < val (pre++[c]) (pre.length+1)):=by
 induction pre with
 | nil=>
  have e:val ([]++[c]) (([]:List UInt8).length+1)=c.toNat:=by
   show val [c] 1=_;rw[val_cons,val_zero];omega
  rw[e,lay_small h3];refine⟨?_,id⟩;simp[UInt8.ofNat_toNat]
 | cons b pre ih=>
  have hc:=h4 (by simp);obtain⟨i1,i2⟩:=ih (fun x hx=>h2 x (by simp[hx])) (fun _=>hc);have hb:=h2 b (by simp);have hb2:b.toNat < 256:=UInt8.toNat_lt b;have e:val (b :: pre++[c]) ((b :: pre).length+1)=b.toNat % 128+128 * val (pre++[c]) (pre.length+1):=rfl;have hp:=i2 hc;rw[e];refine⟨?_,fun _=>by omega⟩;rw[lay_more (by omega)];have e1:(b.toNat % 128+128 * val (pre++[c]) (pre.length+1)) % 128+128=b.toNat:=by omega
  have e2:(b.toNat % 128+128 * val (pre++[c]) (pre.length+1)) / 128=val (pre++[c]) (pre.length+1):=by omega
  rw[e1,e2,i1,UInt8.ofNat_toNat];rfl
theorem num_back {l:List UInt8} {x k:Nat} (h:num l 0 l=(x,k,0)):1<=k/\k<=9/\k<=l.length/\lay x=l.take k/\x < 9223372036854775808:=by
 obtain⟨pre,c,r,h1,h2,h3,h4,h5,h6,h7⟩:=num_ok l l 0 x k h;rw[Nat.zero_add] at h4 h5;have hl:l.length=pre.length+1+r.length:=by rw[h1];simp;omega
 have ht:l.take k=pre++[c]:=by
  rw[h1,h5,show pre++c :: r=(pre++[c])++r by simp,List.take_left' (by simp)]
 have hv:val l k=val (pre++[c]) (pre.length+1):=by
  rw[<-ht,<-h5];have:=val_append (l.take k) (l.drop k) k (by simp;omega)
  rwa [List.take_append_drop] at this
 refine⟨by omega,h6,by omega,?_,?_⟩
 ·rw[ht,h7,hv];exact(lay_val pre c h2 h3 h4).1
 ·rw[h7];have:=val_lt l k;have:128 ^ k<=128 ^ 9:=Nat.pow_le_pow_right (by omega) h6;have e9:128 ^ 9=9223372036854775808:=by decide
  omega
theorem num_err (l:List UInt8):∀(r:List UInt8) (i:Nat),(num l i r).2.2=0\/num l i r=(0,0,4)\/num l i r=(0,0,5)
 | [],i=>by rw[num];split<;>simp
 | c :: r,i=>by
  rw[num];split
  ·simp
  ·split
   ·exact num_err l r (i+1)
   ·split<;>simp
end Go.Proofs.YtmbeahbgafkjfaaGreatDoor.Pk
namespace Go.Proofs.YtmbeahbgafkjfaaGreatDoor.Sn
abbrev Sp:=Int×Int
def inB (l:List Sp) (o:Int):Bool:=l.any fun s=>decide (s.1<=o) && decide (o<=s.2)
theorem inB_nil (o:Int):inB [] o=false:=rfl
theorem inB_cons (s:Sp) (r:List Sp) (o:Int):inB (s :: r) o=(decide (s.1<=o) && decide (o<=s.2) || inB r o):=rfl
theorem inB_app (u v:List Sp) (o:Int):inB (u++v) o=(inB u o || inB v o):=by simp[inB]
def fmS:Int->List Sp->Bool
 | _,[]=>true
 | e,s :: r=>decide (s.1<=s.2) && (decide (s.2<=255) && (decide (0<=s.1) && (decide (e+1 < s.1) && fmS s.2 r)))
theorem fmS_cons {e:Int} {s:Sp} {r:List Sp}:fmS e (s :: r)=true↔s.1<=s.2/\s.2<=255/\0<=s.1/\e+1 < s.1/\fmS s.2 r=true:=by simp[fmS]
theorem fmS_in {e:Int} {l:List Sp} (h:fmS e l=true) (o:Int) (ho:inB l o=true):e+1 < o/\0<=o/\o<=255:=by
 induction l generalizing e with
 | nil=>simp[inB] at ho
 | cons s r ih=>
  obtain⟨h1,h2,h3,h4,h5⟩:=fmS_cons.1 h;rw[inB_cons,Bool.or_eq_true,Bool.and_eq_true,decide_eq_true_eq,decide_eq_true_eq] at ho;rcases ho with ⟨a,b⟩ | ho
  ·omega
  ·have:=ih h5 ho;omega
theorem fmS_len {e:Int} {l:List Sp} (h:fmS e l=true):2 * (l.length:Int)<=255 - e\/l=[]:=by
 induction l generalizing e with
 | nil=>exact .inr rfl
 | cons s r ih=>
  obtain⟨h1,h2,h3,h4,h5⟩:=fmS_cons.1 h;left;rcases ih h5 with h6 | rfl
  ·rw[List.length_cons];omega
  ·simp;omega
theorem fmS_128 {l:List Sp} (h:fmS (-2) l=true):l.length<=128:=by
 rcases fmS_len h with h | rfl
 ·omega
 ·simp
theorem fmS_one {e:Int} {l m:List Sp} (hl:fmS e l=true) (hm:fmS e m=true) (h:∀o,0<=o->o<=255->inB l o=inB m o):l=m:=by
 induction l generalizing e m with
 | nil=>
  cases m with
  | nil=>rfl
  | cons t r=>
   obtain⟨h1,h2,h3,h4,h5⟩:=fmS_cons.1 hm;have:=h t.1 h3 (by omega);rw[inB_nil,inB_cons] at this;simp[h1] at this
 | cons s q ih=>
  cases m with
  | nil=>
   obtain⟨h1,h2,h3,h4,h5⟩:=fmS_cons.1 hl;have:=h s.1 h3 (by omega);rw[inB_nil,inB_cons] at this;simp[h1] at this
  | cons t r=>
   obtain⟨h1,h2,h3,h4,h5⟩:=fmS_cons.1 hl;obtain⟨k1,k2,k3,k4,k5⟩:=fmS_cons.1 hm;have nq:∀o,o<=s.2+1->inB q o=false:=fun o ho=>by
    rcases hb:inB q o with _ | _
    ·rfl
    ·have:=fmS_in h5 o hb;omega
   have nr:∀o,o<=t.2+1->inB r o=false:=fun o ho=>by
    rcases hb:inB r o with _ | _
    ·rfl
    ·have:=fmS_in k5 o hb;omega
   have e1:s.1=t.1:=by
    rcases Int.lt_trichotomy s.1 t.1 with hlt | he | hgt
    ·have:=h s.1 h3 (by omega);rw[inB_cons,inB_cons,nr s.1 (by omega)] at this;simp[h1] at this;omega
    ·exact he
    ·have:=h t.1 k3 (by omega);rw[inB_cons,inB_cons,nq t.1 (by omega)] at this;simp[k1] at this;omega
   have e2:s.2=t.2:=by
    rcases Int.lt_trichotomy s.2 t.2 with hlt | he | hgt
    ·have:=h (s.2+1) (by omega) (by omega);rw[inB_cons,inB_cons,nq (s.2+1) (by omega),nr (s.2+1) (by omega),show (decide (s.1<=s.2+1) && decide (s.2+1<=s.2))=false by simp;omega,show (decide (t.1<=s.2+1) && decide (s.2+1<=t.2))=true by simp;omega] at this;cases this
    ·exact he
    ·have:=h (t.2+1) (by omega) (by omega);rw[inB_cons,inB_cons,nq (t.2+1) (by omega),nr (t.2+1) (by omega),show (decide (s.1<=t.2+1) && decide (t.2+1<=s.2))=true by simp;omega,show (decide (t.1<=t.2+1) && decide (t.2+1<=t.2))=false by simp;omega] at this;cases this
   have es:s=t:=Prod.ext e1 e2;subst es;rw[ih h5 k5 fun o h0 h255=>?_];have:=h o h0 h255;rw[inB_cons,inB_cons] at this;by_cases ho:o<=s.2
   ·rw[nq o (by omega),nr o (by omega)]
   ·have hn:(decide (s.1<=o) && decide (o<=s.2))=false:=by simp;omega
    rw[hn,Bool.false_or,Bool.false_or] at this;exact this
def ext (l:List Sp) (hi:Int):List Sp:=l.dropLast++(match l.getLast? with | some s=>[(s.1,hi)] | none=>[])
theorem ext_snoc (l:List Sp) (s:Sp) (hi:Int):ext (l++[s]) hi=l++[(s.1,hi)]:=by simp[ext]
def ofTo (p:Nat->Bool):Nat->List Sp
 | 0=>[]
 | k+1=>if p k then (if k≠0/\p (k - 1)=true then ext (ofTo p k) k else ofTo p k++[((k:Int),(k:Int))]) else ofTo p k
theorem fmS_snoc {e:Int} {l:List Sp} {s:Sp}:fmS e (l++[s])=true↔fmS e l=true/\s.1<=s.2/\s.2<=255/\0<=s.1/\(∀t,l.getLast?=some t->t.2+1 < s.1)/\(l=[]->e+1 < s.1):=by
 induction l generalizing e with
 | nil=>simp[fmS]
 | cons t r ih=>
  rw[List.cons_append,fmS_cons,fmS_cons,ih]
  cases r with
  | nil=>
   constructor
   ·rintro⟨a1,a2,a3,a4,_,a6,a7,a8,_,a10⟩;exact⟨⟨a1,a2,a3,a4,rfl⟩,a6,a7,a8,(fun t' ht=>by simp at ht;subst ht;exact a10 rfl),(fun h=>by cases h)⟩
   ·rintro⟨⟨a1,a2,a3,a4,_⟩,a6,a7,a8,a9,_⟩;exact⟨a1,a2,a3,a4,rfl,a6,a7,a8,(fun t' ht=>by simp at ht),fun _=>a9 t rfl⟩
  | cons t' r'=>
   simp only[List.getLast?_cons_cons];constructor
   ·rintro⟨a1,a2,a3,a4,a5,a6,a7,a8,a9,a10⟩;exact⟨⟨a1,a2,a3,a4,a5⟩,a6,a7,a8,a9,fun h=>by cases h⟩
   ·rintro⟨⟨a1,a2,a3,a4,a5⟩,a6,a7,a8,a9,_⟩;exact⟨a1,a2,a3,a4,a5,a6,a7,a8,a9,fun h=>by cases h⟩
theorem ofTo_ok (p:Nat->Bool):∀k,k<=256->fmS (-2) (ofTo p k)=true/\(∀o:Nat,inB (ofTo p k) (o:Int)=(decide (o < k) && p o)) /\
  (∀t,(ofTo p k).getLast?=some t->t.2 < k/\((k≠0/\p (k - 1)=true)->t.2=(k:Int) - 1)/\((k≠0/\p (k - 1)=false)->t.2 < (k:Int) - 1))/\((k≠0/\p (k - 1)=true)->ofTo p k≠[]):=by
 intro k
 induction k with
 | zero=>intro _;exact⟨rfl,fun o=>by simp[ofTo,inB],fun t h=>by simp[ofTo] at h,fun h=>absurd rfl h.1⟩
 | succ k ih=>
  intro hk;obtain⟨h1,h2,h3,h4⟩:=ih (by omega);by_cases hp:p k=true
  ·by_cases hq:k≠0/\p (k - 1)=true
   ·have e:ofTo p (k+1)=ext (ofTo p k) k:=by rw[ofTo,if_pos hp,if_pos hq]
    have hne:=h4 hq;obtain⟨l,s,hl⟩:∃l s,ofTo p k=l++[s]:=⟨_,_,(List.dropLast_concat_getLast hne).symm⟩;have hs:s.2=(k:Int) - 1:=(h3 s (by rw[hl];simp)).2.1 hq;rw[e,hl,ext_snoc];rw[hl] at h1 h2;obtain⟨a1,a2,a3,a4,a5,a6⟩:=fmS_snoc.1 h1;refine⟨fmS_snoc.2 ⟨a1,by simp only;omega,by simp only;omega,a4,a5,a6⟩,fun o=>?_,fun t ht=>?_,fun _=>by simp⟩
    ·have:=h2 o;rw[inB_app] at this ⊢;by_cases ho:o=k
     ·subst ho;simp[inB,hp];right;omega
     ·have e1:inB [(s.1,(k:Int))] (o:Int)=inB [s] (o:Int):=by
       simp only[inB,List.any_cons,List.any_nil,Bool.or_false];rw[Bool.eq_iff_iff];simp;omega
      have e2:decide (o < k+1)=decide (o < k):=by simp;omega
      rw[e1,this,e2]
    ·rw[List.getLast?_append] at ht;obtain rfl:(s.1,(k:Int))=t:=by simpa using ht
     exact⟨by simp only;omega,fun _=>by simp only;omega,(fun h=>by rw[Nat.add_sub_cancel] at h;rw[hp] at h;cases h.2)⟩
   ·have e:ofTo p (k+1)=ofTo p k++[((k:Int),(k:Int))]:=by rw[ofTo,if_pos hp,if_neg hq]
    rw[e];refine⟨fmS_snoc.2 ⟨h1,by simp,by simp only;omega,by simp,fun t ht=>?_,fun hn=>by simp only;omega⟩,fun o=>?_,fun t ht=>?_,fun _=>by simp⟩
    ·obtain⟨b1,_,b3⟩:=h3 t ht;by_cases h0:k=0
     ·subst h0;simp[ofTo] at ht
     ·have hq':p (k - 1)=false:=by
       rcases hh:p (k - 1) with _ | _
       ·rfl
       ·exact absurd ⟨h0,hh⟩ hq
      have:=b3 ⟨h0,hq'⟩;simp only;omega
    ·rw[inB_app,h2 o];by_cases ho:o=k
     ·subst ho;simp[inB,hp]
     ·have e1:inB [((k:Int),(k:Int))] (o:Int)=false:=by
       simp[inB];omega
      have e2:decide (o < k+1)=decide (o < k):=by simp;omega
      rw[e1,e2,Bool.or_false]
    ·rw[List.getLast?_append] at ht;obtain rfl:((k:Int),(k:Int))=t:=by simpa using ht
     exact⟨by simp only;omega,fun _=>by simp only;omega,(fun h=>by rw[Nat.add_sub_cancel] at h;rw[hp] at h;cases h.2)⟩
  ·have hp':p k=false:=by simpa using hp
   have e:ofTo p (k+1)=ofTo p k:=by rw[ofTo,if_neg hp]
   rw[e];refine⟨h1,fun o=>?_,fun t ht=>?_,(fun h=>by rw[Nat.add_sub_cancel] at h;rw[hp'] at h;cases h.2)⟩
   ·rw[h2 o];by_cases ho:o=k
    ·subst ho;simp[hp']
    ·have e2:decide (o < k+1)=decide (o < k):=by simp;omega
     rw[e2]
   ·obtain⟨b1,_,_⟩:=h3 t ht;exact⟨by omega,(fun h=>by rw[Nat.add_sub_cancel] at h;rw[hp'] at h;cases h.2),fun _=>by omega⟩
def setOf (l:List Sp):Nat->Bool:=fun o=>inB l (o:Int)
def of (p:Nat->Bool):List Sp:=ofTo p 256
theorem of_fm (p:Nat->Bool):fmS (-2) (of p)=true:=(ofTo_ok p 256 (Nat.le_refl _)).1
theorem of_in (p:Nat->Bool) (o:Nat) (h:o < 256):inB (of p) (o:Int)=p o:=by
 have:=(ofTo_ok p 256 (Nat.le_refl _)).2.1 o;rw[show decide (o < 256)=true by simpa using h,Bool.true_and] at this;exact this
theorem of_set {l:List Sp} (h:fmS (-2) l=true):of (setOf l)=l:=fmS_one (of_fm _) h fun o h0 h1=>by
 obtain⟨k,rfl⟩:=Int.eq_ofNat_of_zero_le h0;rw[of_in _ k (by omega)];rfl
theorem ofTo_congr {p q:Nat->Bool}:∀k,(∀o,o < k->p o=q o)->ofTo p k=ofTo q k:=by
 intro k
 induction k with
 | zero=>exact fun _=>rfl
 | succ k ih=>
  intro h;have e:=ih fun o ho=>h o (by omega);have hk:=h k (by omega);have hk1:=h (k - 1) (by omega);rw[ofTo,ofTo,e,hk,hk1]
theorem of_congr {p q:Nat->Bool} (h:∀o,o < 256->p o=q o):of p=of q:=ofTo_congr 256 h
theorem formed_both (l:List Sp):fmS (-2) l=(decide (l.length<=128) && decide (l=of (setOf l))):=by
 rw[Bool.eq_iff_iff,Bool.and_eq_true,decide_eq_true_eq,decide_eq_true_eq];constructor
 ·exact fun h=>⟨fmS_128 h,(of_set h).symm⟩
 ·rintro⟨_,h⟩;rw[h];exact of_fm _
end Go.Proofs.YtmbeahbgafkjfaaGreatDoor.Sn
namespace Go.Proofs.YtmbeahbgafkjfaaGreatDoor.Wq
def pN (l:List UInt8):Option (Nat×List UInt8):=if (Pk.num l 0 l).2.2=0 then some ((Pk.num l 0 l).1,l.drop (Pk.num l 0 l).2.1) else none
theorem pN_some {l:List UInt8} {x k:Nat} (h:Pk.num l 0 l=(x,k,0)):pN l=some (x,l.drop k):=by unfold pN;rw[h];rfl
theorem pN_none {l:List UInt8} {x k er:Nat} (h:Pk.num l 0 l=(x,k,er)) (he:er≠0):pN l=none:=by unfold pN;rw[h];exact if_neg he
theorem pN_inv {l r:List UInt8} {x:Nat} (h:pN l=some (x,r)):∃k,Pk.num l 0 l=(x,k,0)/\r=l.drop k/\1<=k/\k<=l.length/\k<=9:=by
 unfold pN at h;obtain⟨y,k,er,e⟩:∃y k er,Pk.num l 0 l=(y,k,er):=⟨_,_,_,rfl⟩;rw[e] at h
 split at h
 ·rename_i he;simp only at he h;subst he;simp only[Option.some.injEq,Prod.mk.injEq] at h;obtain⟨b1,b2,b3,b4,b5⟩:=Pk.num_back e;exact⟨k,by rw[e,h.1],h.2.symm,b1,b3,b2⟩
 ·cases h
theorem pN_lay {n:Nat} (h:n < 9223372036854775808) (r:List UInt8):pN (Pk.lay n++r)=some (n,r):=by
 rw[pN_some (Pk.num_lay h r),List.drop_left' rfl]
theorem pN_back {l r:List UInt8} {x:Nat} (h:pN l=some (x,r)):l=Pk.lay x++r/\x < 9223372036854775808:=by
 obtain⟨k,e,rfl,_⟩:=pN_inv h;obtain⟨b1,b2,b3,b4,b5⟩:=Pk.num_back e;exact⟨by rw[b4,List.take_append_drop],b5⟩
theorem pN_len {l r:List UInt8} {x:Nat} (h:pN l=some (x,r)):r.length < l.length:=by
 obtain⟨k,e,rfl,h1,h2,_⟩:=pN_inv h;rw[List.length_drop];omega
def pP:Nat->List UInt8->Option (List (Int×Int)×List UInt8)
 | 0,l=>some ([],l)
 | n+1,l=>match pN l with
  | none=>none
  | some (a,r)=>match pN r with
   | none=>none
   | some (b,q)=>match pP n q with
    | none=>none
    | some (v,t)=>some (((a:Int),(b:Int)) :: v,t)
def lP (v:List (Int×Int)):List UInt8:=v.flatMap fun s=>Pk.lay s.1.toNat++Pk.lay s.2.toNat
def u63 (x:Int):Prop:=0<=x/\x < 9223372036854775808
theorem lP_cons (s:Int×Int) (v:List (Int×Int)):lP (s :: v)=Pk.lay s.1.toNat++(Pk.lay s.2.toNat++lP v):=by simp[lP]
theorem pN_layI {x:Int} (h:u63 x) (r:List UInt8):pN (Pk.lay x.toNat++r)=some (x.toNat,r):=pN_lay (by have:=h.1;have:=h.2;omega) r
theorem pP_lay:∀(v:List (Int×Int)) (r:List UInt8),(∀s∈v,u63 s.1/\u63 s.2)->pP v.length (lP v++r)=some (v,r)
 | [],r,_=>rfl
 | s :: v,r,h=>by
  obtain⟨h1,h2⟩:=h s (by simp);have e1:=h1.1;have e2:=h2.1;rw[List.length_cons,pP,lP_cons,List.append_assoc,pN_layI h1];simp only[List.append_assoc];rw[pN_layI h2];simp only;rw[pP_lay v r fun t ht=>h t (by simp[ht])];simp only[Int.toNat_of_nonneg e1,Int.toNat_of_nonneg e2]
theorem pP_back:∀(n:Nat) (l:List UInt8) (v:List (Int×Int)) (r:List UInt8),pP n l=some (v,r)->l=lP v++r/\v.length=n/\∀s∈v,u63 s.1/\u63 s.2
 | 0,l,v,r,h=>by
  simp only[pP,Option.some.injEq,Prod.mk.injEq] at h;obtain⟨rfl,rfl⟩:=h;exact⟨rfl,rfl,fun s hs=>by cases hs⟩
 | n+1,l,v,r,h=>by
  rw[pP] at h
  split at h
  ·cases h
  ·rename_i a r1 h1
   split at h
   ·cases h
   ·rename_i b q h2
    split at h
    ·cases h
    ·rename_i v' t h3;simp only[Option.some.injEq,Prod.mk.injEq] at h;obtain⟨rfl,rfl⟩:=h;obtain⟨a1,a2,a3⟩:=pP_back n q v' t h3;obtain⟨b1,b2⟩:=pN_back h1;obtain⟨c1,c2⟩:=pN_back h2;refine⟨by rw[b1,c1,a1,lP_cons];simp,by simp[a2],fun s hs=>?_⟩;rcases List.mem_cons.1 hs with rfl | hs
     ·exact⟨⟨by simp only;omega,by simp only;omega⟩,⟨by simp only;omega,by simp only;omega⟩⟩
     ·exact a3 s hs
def pS (l:List UInt8):Option (List Sn.Sp×List UInt8):=match pN l with
 | none=>none
 | some (n,r)=>match pP n r with
  | none=>none
  | some (v,q)=>if Sn.fmS (-2) v=true then some (v,q) else none
def lS (v:List Sn.Sp):List UInt8:=Pk.lay v.length++lP v
theorem fmS_u63 {e:Int} {l:List Sn.Sp} (h:Sn.fmS e l=true):∀s∈l,u63 s.1/\u63 s.2:=by
 induction l generalizing e with
 | nil=>exact fun s hs=>by cases hs
 | cons t r ih=>
  obtain⟨h1,h2,h3,h4,h5⟩:=Sn.fmS_cons.1 h;intro s hs;rcases List.mem_cons.1 hs with rfl | hs
  ·exact⟨⟨h3,by omega⟩,⟨by omega,by omega⟩⟩
  ·exact ih h5 s hs
theorem pS_lay {v:List Sn.Sp} (h:Sn.fmS (-2) v=true) (r:List UInt8):pS (lS v++r)=some (v,r):=by
 have:=Sn.fmS_128 h;unfold pS lS;rw[List.append_assoc,pN_lay (by omega)];simp only;rw[pP_lay v r (fmS_u63 h)];simp only;rw[if_pos h]
theorem pS_back {l r:List UInt8} {v:List Sn.Sp} (h:pS l=some (v,r)):l=lS v++r/\Sn.fmS (-2) v=true:=by
 unfold pS at h
 split at h
 ·cases h
 ·rename_i n r1 h1
  split at h
  ·cases h
  ·rename_i v' q h2
   split at h
   ·rename_i hf;simp only[Option.some.injEq,Prod.mk.injEq] at h;obtain⟨rfl,rfl⟩:=h;obtain⟨a1,a2⟩:=pN_back h1;obtain⟨b1,b2,b3⟩:=pP_back _ _ _ _ h2;exact⟨by rw[a1,b1,lS,b2];simp,hf⟩
   ·cases h
theorem lay_le2 {x:Int} (h0:0<=x) (h:x<=255):(Pk.lay x.toNat).length<=2:=Pk.lay_len_le _ 1 (by omega)
theorem lP_len {e:Int} {l:List Sn.Sp} (h:Sn.fmS e l=true):(lP l).length<=4 * l.length:=by
 induction l generalizing e with
 | nil=>simp[lP]
 | cons t r ih=>
  obtain⟨h1,h2,h3,h4,h5⟩:=Sn.fmS_cons.1 h;have:=ih h5;have a1:=lay_le2 (x:=t.1) (by omega) (by omega);have a2:=lay_le2 (x:=t.2) (by omega) (by omega);rw[lP_cons,List.length_append,List.length_append,List.length_cons];omega
theorem lS_len {l:List Sn.Sp} (h:Sn.fmS (-2) l=true):(lS l).length<=514:=by
 have h1:=Sn.fmS_128 h;have h2:=lP_len h;have h3:(Pk.lay l.length).length<=2:=Pk.lay_len_le _ 1 (by omega);rw[lS,List.length_append];omega
def pR (most:Nat) (l:List UInt8):Option (List UInt8×List UInt8):=match pN l with
 | none=>none
 | some (n,r)=>if n<=most/\n<=r.length then some (r.take n,r.drop n) else none
def lR (v:List UInt8):List UInt8:=Pk.lay v.length++v
theorem pR_lay {most:Nat} {v:List UInt8} (h:v.length<=most) (hm:v.length < 9223372036854775808) (r:List UInt8):pR most (lR v++r)=some (v,r):=by
 unfold pR lR;rw[List.append_assoc,pN_lay hm];simp only;rw[if_pos ⟨h,by simp⟩,List.take_left' rfl,List.drop_left' rfl]
theorem pR_back {most:Nat} {l v r:List UInt8} (h:pR most l=some (v,r)):l=lR v++r/\v.length<=most:=by
 unfold pR at h
 split at h
 ·cases h
 ·rename_i n q h1
  split at h
  ·rename_i hn;simp only[Option.some.injEq,Prod.mk.injEq] at h;obtain⟨rfl,rfl⟩:=h;obtain⟨a1,a2⟩:=pN_back h1;have e:(q.take n).length=n:=by rw[List.length_take];omega
   exact⟨by rw[lR,e,List.append_assoc,List.take_append_drop,a1],by omega⟩
  ·cases h
end Go.Proofs.YtmbeahbgafkjfaaGreatDoor.Wq
