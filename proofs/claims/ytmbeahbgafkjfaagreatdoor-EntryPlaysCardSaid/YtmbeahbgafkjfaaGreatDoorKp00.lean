/- Lemmas, layer 0. -/
set_option linter.unusedSimpArgs false
namespace Go.Proofs.YtmbeahbgafkjfaaGreatDoor
abbrev Ea:=@Bool.and_eq_true
abbrev Ej:=@decide_eq_true_eq
abbrev En:=@List.getElem_mem
abbrev Er:=@List.append_assoc
abbrev Eu:=@decide_eq_true
abbrev Ew:=@decide_eq_false
abbrev EE:=@List.mem_cons
abbrev EG:=@List.append_nil
abbrev EL:=@List.mem_map_of_mem
abbrev EM:=@Bool.eq_iff_iff
abbrev ET:=@List.take_append_of_le_length
abbrev EU:=@Nat.zero_add
abbrev EZ:=@List.take_append_drop
abbrev Fc:=@List.mem_append_left
abbrev Fg:=@List.all_eq_true
abbrev Fi:=@Nat.ne_of_lt
abbrev Fk:=@List.set_append_right
abbrev Fl:=@Nat.ne_of_gt
abbrev Fp:=@List.pairwise_cons
abbrev Fq:=@Option.some.inj
abbrev Fu:=@List.mem_of_mem_drop
abbrev Fv:=@List.mem_iff_getElem
abbrev Fy:=@List.getElem?_eq_none
abbrev Fz:=@Int.toNat_of_nonneg
abbrev FB:=@Nat.zero_le
abbrev FI:=@Nat.lt_or_ge
abbrev FM:=@List.foldl_append
abbrev FN:=@Bool.or_false
abbrev FO:=@List.getElem_append_right
abbrev FS:=@List.dropLast_concat_getLast
abbrev FT:=@List.eq_nil_or_concat
abbrev FU:=@List.concat_eq_append
abbrev FV:=@List.length_eq_zero_iff
abbrev FY:=@List.drop_append_of_le_length
abbrev FZ:=@Bool.false_and
abbrev Ga:=@List.mem_filter
abbrev Gb:=@Nat.add_sub_cancel
abbrev Gg:=@Option.some.injEq
abbrev Gh:=@Array.getElem?_append_left
abbrev Gi:=@List.filter_eq_self
abbrev Gk:=@List.length_set
abbrev Gm:=@List.pairwise_iff_getElem
abbrev Gq:=@Nat.add_mul
abbrev Gs:=@List.mem_of_mem_take
abbrev Gv:=@Bool.not_eq_true'
abbrev GE:=@List.take_take
abbrev GV:=@Nat.le_succ
abbrev GX:=@List.ext_getElem?
abbrev Na:=@List.getElem_of_mem
abbrev Nh:=@getElem!_pos
abbrev Nl:=@List.drop_eq_nil_of_le
abbrev Nm:=@Bool.false_eq_true
abbrev Nn:=@Prod.mk.injEq
abbrev Np:=@List.mem_append_right
abbrev Nq:=@List.length_replicate
abbrev Nr:=@Array.getElem?_toList
abbrev Ns:=@Array.getElem?_modify
abbrev Nv:=@Int.lt_trichotomy
abbrev NA:=@List.pairwise_append
abbrev NB:=@List.getLast?_append
abbrev NE:=@Nat.zero_mul
abbrev NF:=@Nat.le_of_lt
abbrev NI:=@Array.toList_append
abbrev NK:=@Nat.add_assoc
abbrev NL:=@List.take_left'
abbrev NR:=@List.take_add_one
abbrev NS:=@Int.lt_or_le
abbrev NY:=@List.getElem_set
abbrev NZ:=@List.any_eq_true
abbrev Rc:=@List.drop_left'
abbrev Ri:=@Nat.mod_lt
abbrev Rn:=@Nat.one_mul
abbrev Rq:=@Bool.false_or
abbrev Rr:=@bne_iff_ne
abbrev Rs:=@Nat.le_of_eq
end Go.Proofs.YtmbeahbgafkjfaaGreatDoor
namespace Go.Proofs.YtmbeahbgafkjfaaGreatDoor.Pk
def lay (n:Nat):List UInt8:=if n < 128 then [UInt8.ofNat n] else UInt8.ofNat (n % 128+128) :: lay (n / 128)
termination_by n
decreasing_by omega
def val:List UInt8->Nat->Nat
 | _,0=>0
 | [],_=>0
 | c :: l,m+1=>c.toNat % 128+128 * val l m
def Kj (L:List UInt8):Nat->List UInt8->Nat×Nat×Nat
 | i,[]=>if i < 9 then (0,0,5) else (0,0,4)
 | i,c :: r=>if 9<=i then (0,0,4) else if 128<=c.toNat then Kj L (i+1) r else if c.toNat=0/\0 < i then (0,0,4) else (val L (i+1),i+1,0)
theorem Zu {n:Nat} (h:n < 128):lay n=[UInt8.ofNat n]:=by rw[lay,if_pos h]
theorem Kq {n:Nat} (h:128<=n):lay n=UInt8.ofNat (n % 128+128) :: lay (n / 128):=by rw[lay,if_neg (by omega)]
theorem Ji1 (n:Nat):0 < (lay n).length:=by
 rw[lay];split<;>simp
theorem YV (l:List UInt8):val l 0=0:=by cases l<;>rfl
theorem Jnt (m:Nat):val [] m=0:=by cases m<;>rfl
theorem XO (c:UInt8) (l:List UInt8) (m:Nat):val (c :: l) (m+1)=c.toNat % 128+128 * val l m:=rfl
theorem JkU (l:List UInt8) (m:Nat):val l m < 128 ^ m:=by
 induction l generalizing m with
 | nil=>rw[Jnt];exact Nat.pow_pos (by omega)
 | cons c l ih=>
  cases m with
  | zero=>simp[YV]
  | succ m=>rw[XO,Nat.pow_succ];have:=ih m;omega
theorem Jlv (l:List UInt8) (k:Nat) (h:k < l.length):val l (k+1)=val l k+l[k].toNat % 128 * 128 ^ k:=by
 induction l generalizing k with
 | nil=>simp at h
 | cons c l ih=>
  cases k with
  | zero=>simp[XO,YV]
  | succ k=>
   have h':k < l.length:=by simpa using h
   rw[XO,XO,ih k h',Nat.pow_succ];simp only[List.getElem_cons_succ];rw[Nat.mul_add,NK,Nat.mul_comm (128 ^ k) 128,Nat.mul_left_comm]
theorem Jcq (l r:List UInt8) (m:Nat) (h:m<=l.length):val (l++r) m=val l m:=by
 induction l generalizing m with
 | nil=>obtain rfl:m=0:=by simpa using h
        simp[YV]
 | cons c l ih=>
  cases m with
  | zero=>simp[YV]
  | succ m=>rw[List.cons_append,XO,XO,ih m (by simpa using h)]
theorem ZR {n:Nat} (h:n < 256):(UInt8.ofNat n).toNat=n:=by
 rw[UInt8.toNat_ofNat'];omega
theorem JkY (n:Nat):∃pre c,lay n=pre++[c]/\(∀b∈pre,128<=b.toNat)/\c.toNat < 128/\(pre≠[]->0 < c.toNat)/\val (lay n) (lay n).length=n:=by
 induction n using Nat.strongRecOn with
 | _ n ih=>
  rcases FI n 128 with h | h
  ·have e:=ZR (n:=n) (by omega);refine⟨[],UInt8.ofNat n,by rw[Zu h];rfl,(fun b hb=>by cases hb),by omega,(fun hne=>absurd rfl hne),?_⟩;rw[Zu h];show val [UInt8.ofNat n] 1=n;rw[XO,YV,e];omega
  ·obtain⟨pre,c,h1,h2,h3,h4,h5⟩:=ih (n / 128) (by omega);have e:=ZR (n:=n % 128+128) (by omega);refine⟨UInt8.ofNat (n % 128+128) :: pre,c,by rw[Kq h,h1];rfl,?_,h3,fun _=>?_,?_⟩
   ·intro b hb;rcases EE.1 hb with rfl | hb
    ·omega
    ·exact h2 b hb
   ·by_cases hp:pre=[]
    ·subst hp;have hl:(lay (n / 128)).length=1:=by rw[h1];rfl
     rw[hl,h1] at h5;simp only[List.nil_append] at h5;rw[XO,YV] at h5;omega
    ·exact h4 hp
   ·rw[Kq h];simp only[List.length_cons];rw[XO,h5,e];omega
theorem JhF (n m:Nat) (h:n < 128 ^ (m+1)):(lay n).length<=m+1:=by
 induction m generalizing n with
 | zero=>rw[Zu (by simpa using h)];simp
 | succ m ih=>
  rcases FI n 128 with h1 | h1
  ·rw[Zu h1];simp
  ·rw[Kq h1,List.length_cons];have:=ih (n / 128) (by rw[Nat.pow_succ] at h;omega);omega
theorem UR {n:Nat} (h:n < 9223372036854775808):(lay n).length<=9:=JhF n 8 (by simpa using h)
theorem Jm8 (L pre:List UInt8) (c:UInt8) (r:List UInt8) (i:Nat) (hp:∀b∈pre,128<=b.toNat) (hi:i+pre.length < 9) (hc:c.toNat < 128) (h0:0 < i+pre.length->0 < c.toNat):
  Kj L i (pre++c :: r)=(val L (i+pre.length+1),i+pre.length+1,0):=by
 induction pre generalizing i with
 | nil=>
  simp only[List.nil_append,List.length_nil,Nat.add_zero] at hi h0 ⊢;rw[Kj,if_neg (by omega),if_neg (by omega),if_neg (by omega)]
 | cons b pre ih=>
  have hb:=hp b (by simp);simp only[List.cons_append,List.length_cons] at hi h0 ⊢;rw[Kj,if_neg (by omega),if_pos hb,ih (i+1) (fun x hx=>hp x (by simp[hx])) (by omega) (fun _=>h0 (by omega))];rw[show i+1+pre.length=i+(pre.length+1) by omega]
theorem JnB {n:Nat} (h:n < 9223372036854775808) (r:List UInt8):Kj (lay n++r) 0 (lay n++r)=(n,(lay n).length,0):=by
 obtain⟨pre,c,h1,h2,h3,h4,h5⟩:=JkY n;have hl:(lay n).length=pre.length+1:=by rw[h1];simp
 have h9:=UR h;have hv:val (lay n++r) (pre.length+1)=n:=by rw[Jcq _ _ _ (by omega),<-hl,h5]
 have e:=Jm8 (lay n++r) pre c r 0 h2 (by omega) h3 (fun hp=>h4 (by intro e;subst e;simp at hp));rw[EU,hv] at e;rw[<-hl] at e;rw[<-e];congr 1;rw[h1];simp
theorem Jmj (L:List UInt8):∀(r:List UInt8) (i x k:Nat),Kj L i r=(x,k,0) ->
  ∃pre c r',r=pre++c :: r'/\(∀b∈pre,128<=b.toNat)/\c.toNat < 128/\(0 < i+pre.length->0 < c.toNat)/\k=i+pre.length+1/\k<=9/\x=val L k
 | [],i,x,k,h=>by
  rw[Kj] at h
  split at h<;>simp at h
 | c :: r,i,x,k,h=>by
  rw[Kj] at h
  split at h
  ·simp at h
  ·split at h
   ·obtain⟨pre,d,r',h1,h2,h3,h4,h5,h6,h7⟩:=Jmj L r (i+1) x k h;refine⟨c :: pre,d,r',by rw[h1];rfl,?_,h3,fun hh=>h4 (by simp only[List.length_cons] at hh;omega),by simp only[List.length_cons];omega,h6,h7⟩;intro b hb;rcases EE.1 hb with rfl | hb
    ·assumption
    ·exact h2 b hb
   ·split at h
    ·simp at h
    ·simp only[Nn,and_true] at h;refine⟨[],c,r,rfl,(fun b hb=>by cases hb),by omega,?_,by simp;omega,by omega,by rw[<-h.2,<-h.1]⟩;intro h0;simp only[List.length_nil,Nat.add_zero] at h0;omega
theorem JmQ (pre:List UInt8) (c:UInt8) (h2:∀b∈pre,128<=b.toNat) (h3:c.toNat < 128) (h4:0 < pre.length->0 < c.toNat):lay (val (pre++[c]) (pre.length+1))=pre++[c]/\(0 < c.toNat->0 < val (pre++[c]) (pre.length+1)):=by
 induction pre with
 | nil=>
  have e:val ([]++[c]) (([]:List UInt8).length+1)=c.toNat:=by
   show val [c] 1=_;rw[XO,YV];omega
  rw[e,Zu h3];refine⟨?_,id⟩;simp[UInt8.ofNat_toNat]
 | cons b pre ih=>
  have hc:=h4 (by simp);obtain⟨i1,i2⟩:=ih (fun x hx=>h2 x (by simp[hx])) (fun _=>hc);have hb:=h2 b (by simp);have hb2:b.toNat < 256:=UInt8.toNat_lt b;have e:val (b :: pre++[c]) ((b :: pre).length+1)=b.toNat % 128+128 * val (pre++[c]) (pre.length+1):=rfl;have hp:=i2 hc;rw[e];refine⟨?_,fun _=>by omega⟩;rw[Kq (by omega)];have e1:(b.toNat % 128+128 * val (pre++[c]) (pre.length+1)) % 128+128=b.toNat:=by omega
  have e2:(b.toNat % 128+128 * val (pre++[c]) (pre.length+1)) / 128=val (pre++[c]) (pre.length+1):=by omega
  rw[e1,e2,i1,UInt8.ofNat_toNat];rfl
theorem Ja0 {l:List UInt8} {x k:Nat} (h:Kj l 0 l=(x,k,0)):1<=k/\k<=9/\k<=l.length/\lay x=l.take k/\x < 9223372036854775808:=by
 obtain⟨pre,c,r,h1,h2,h3,h4,h5,h6,h7⟩:=Jmj l l 0 x k h;rw[EU] at h4 h5;have hl:l.length=pre.length+1+r.length:=by rw[h1];simp;omega
 have ht:l.take k=pre++[c]:=by
  rw[h1,h5,show pre++c :: r=(pre++[c])++r by simp,NL (by simp)]
 have hv:val l k=val (pre++[c]) (pre.length+1):=by
  rw[<-ht,<-h5];have:=Jcq (l.take k) (l.drop k) k (by simp;omega)
  rwa [EZ] at this
 refine⟨by omega,h6,by omega,?_,?_⟩
 ·rw[ht,h7,hv];exact(JmQ pre c h2 h3 h4).1
 ·rw[h7];have:=JkU l k;have:128 ^ k<=128 ^ 9:=Nat.pow_le_pow_right (by omega) h6;have e9:128 ^ 9=9223372036854775808:=by decide
  omega
theorem JiD (l:List UInt8):∀(r:List UInt8) (i:Nat),(Kj l i r).2.2=0\/Kj l i r=(0,0,4)\/Kj l i r=(0,0,5)
 | [],i=>by rw[Kj];split<;>simp
 | c :: r,i=>by
  rw[Kj];split
  ·simp
  ·split
   ·exact JiD l r (i+1)
   ·split<;>simp
end Go.Proofs.YtmbeahbgafkjfaaGreatDoor.Pk
namespace Go.Proofs.YtmbeahbgafkjfaaGreatDoor.Sn
abbrev Sp:=Int×Int
def Xs (l:List Sp) (o:Int):Bool:=l.any fun s=>decide (s.1<=o) && decide (o<=s.2)
theorem Jca (o:Int):Xs [] o=false:=rfl
theorem Qi (s:Sp) (r:List Sp) (o:Int):Xs (s :: r) o=(decide (s.1<=o) && decide (o<=s.2) || Xs r o):=rfl
theorem XI (u v:List Sp) (o:Int):Xs (u++v) o=(Xs u o || Xs v o):=by simp[Xs]
def Xp:Int->List Sp->Bool
 | _,[]=>true
 | e,s :: r=>decide (s.1<=s.2) && (decide (s.2<=255) && (decide (0<=s.1) && (decide (e+1 < s.1) && Xp s.2 r)))
theorem Qh {e:Int} {s:Sp} {r:List Sp}:Xp e (s :: r)=true↔s.1<=s.2/\s.2<=255/\0<=s.1/\e+1 < s.1/\Xp s.2 r=true:=by simp[Xp]
theorem JcX {e:Int} {l:List Sp} (h:Xp e l=true) (o:Int) (ho:Xs l o=true):e+1 < o/\0<=o/\o<=255:=by
 induction l generalizing e with
 | nil=>simp[Xs] at ho
 | cons s r ih=>
  obtain⟨h1,h2,h3,h4,h5⟩:=Qh.1 h;rw[Qi,Bool.or_eq_true,Ea,Ej,Ej] at ho;rcases ho with ⟨a,b⟩ | ho
  ·omega
  ·have:=ih h5 ho;omega
theorem Jnh {e:Int} {l:List Sp} (h:Xp e l=true):2 * (l.length:Int)<=255 - e\/l=[]:=by
 induction l generalizing e with
 | nil=>exact .inr rfl
 | cons s r ih=>
  obtain⟨h1,h2,h3,h4,h5⟩:=Qh.1 h;left;rcases ih h5 with h6 | rfl
  ·rw[List.length_cons];omega
  ·simp;omega
theorem XV {l:List Sp} (h:Xp (-2) l=true):l.length<=128:=by
 rcases Jnh h with h | rfl
 ·omega
 ·simp
theorem Jce {e:Int} {l m:List Sp} (hl:Xp e l=true) (hm:Xp e m=true) (h:∀o,0<=o->o<=255->Xs l o=Xs m o):l=m:=by
 induction l generalizing e m with
 | nil=>
  cases m with
  | nil=>rfl
  | cons t r=>
   obtain⟨h1,h2,h3,h4,h5⟩:=Qh.1 hm;have:=h t.1 h3 (by omega);rw[Jca,Qi] at this;simp[h1] at this
 | cons s q ih=>
  cases m with
  | nil=>
   obtain⟨h1,h2,h3,h4,h5⟩:=Qh.1 hl;have:=h s.1 h3 (by omega);rw[Jca,Qi] at this;simp[h1] at this
  | cons t r=>
   obtain⟨h1,h2,h3,h4,h5⟩:=Qh.1 hl;obtain⟨k1,k2,k3,k4,k5⟩:=Qh.1 hm;have nq:∀o,o<=s.2+1->Xs q o=false:=fun o ho=>by
    rcases hb:Xs q o with _ | _
    ·rfl
    ·have:=JcX h5 o hb;omega
   have nr:∀o,o<=t.2+1->Xs r o=false:=fun o ho=>by
    rcases hb:Xs r o with _ | _
    ·rfl
    ·have:=JcX k5 o hb;omega
   have e1:s.1=t.1:=by
    rcases Nv s.1 t.1 with hlt | he | hgt
    ·have:=h s.1 h3 (by omega);rw[Qi,Qi,nr s.1 (by omega)] at this;simp[h1] at this;omega
    ·exact he
    ·have:=h t.1 k3 (by omega);rw[Qi,Qi,nq t.1 (by omega)] at this;simp[k1] at this;omega
   have e2:s.2=t.2:=by
    rcases Nv s.2 t.2 with hlt | he | hgt
    ·have:=h (s.2+1) (by omega) (by omega);rw[Qi,Qi,nq (s.2+1) (by omega),nr (s.2+1) (by omega),show (decide (s.1<=s.2+1) && decide (s.2+1<=s.2))=false by simp;omega,show (decide (t.1<=s.2+1) && decide (s.2+1<=t.2))=true by simp;omega] at this;cases this
    ·exact he
    ·have:=h (t.2+1) (by omega) (by omega);rw[Qi,Qi,nq (t.2+1) (by omega),nr (t.2+1) (by omega),show (decide (s.1<=t.2+1) && decide (t.2+1<=s.2))=true by simp;omega,show (decide (t.1<=t.2+1) && decide (t.2+1<=t.2))=false by simp;omega] at this;cases this
   have es:s=t:=Prod.ext e1 e2;subst es;rw[ih h5 k5 fun o h0 h255=>?_];have:=h o h0 h255;rw[Qi,Qi] at this;by_cases ho:o<=s.2
   ·rw[nq o (by omega),nr o (by omega)]
   ·have hn:(decide (s.1<=o) && decide (o<=s.2))=false:=by simp;omega
    rw[hn,Rq,Rq] at this;exact this
def ext (l:List Sp) (hi:Int):List Sp:=l.dropLast++(match l.getLast? with | some s=>[(s.1,hi)] | none=>[])
theorem JcY (l:List Sp) (s:Sp) (hi:Int):ext (l++[s]) hi=l++[(s.1,hi)]:=by simp[ext]
def Xc (p:Nat->Bool):Nat->List Sp
 | 0=>[]
 | k+1=>if p k then (if k≠0/\p (k - 1)=true then ext (Xc p k) k else Xc p k++[((k:Int),(k:Int))]) else Xc p k
theorem Ky {e:Int} {l:List Sp} {s:Sp}:Xp e (l++[s])=true↔Xp e l=true/\s.1<=s.2/\s.2<=255/\0<=s.1/\(∀t,l.getLast?=some t->t.2+1 < s.1)/\(l=[]->e+1 < s.1):=by
 induction l generalizing e with
 | nil=>simp[Xp]
 | cons t r ih=>
  rw[List.cons_append,Qh,Qh,ih]
  cases r with
  | nil=>
   constructor
   ·rintro⟨a1,a2,a3,a4,_,a6,a7,a8,_,a10⟩;exact⟨⟨a1,a2,a3,a4,rfl⟩,a6,a7,a8,(fun t' ht=>by simp at ht;subst ht;exact a10 rfl),(fun h=>by cases h)⟩
   ·rintro⟨⟨a1,a2,a3,a4,_⟩,a6,a7,a8,a9,_⟩;exact⟨a1,a2,a3,a4,rfl,a6,a7,a8,(fun t' ht=>by simp at ht),fun _=>a9 t rfl⟩
  | cons t' r'=>
   simp only[List.getLast?_cons_cons];constructor
   ·rintro⟨a1,a2,a3,a4,a5,a6,a7,a8,a9,a10⟩;exact⟨⟨a1,a2,a3,a4,a5⟩,a6,a7,a8,a9,fun h=>by cases h⟩
   ·rintro⟨⟨a1,a2,a3,a4,a5⟩,a6,a7,a8,a9,_⟩;exact⟨a1,a2,a3,a4,a5,a6,a7,a8,a9,fun h=>by cases h⟩
theorem Je6 (p:Nat->Bool):∀k,k<=256->Xp (-2) (Xc p k)=true/\(∀o:Nat,Xs (Xc p k) (o:Int)=(decide (o < k) && p o)) /\
  (∀t,(Xc p k).getLast?=some t->t.2 < k/\((k≠0/\p (k - 1)=true)->t.2=(k:Int) - 1)/\((k≠0/\p (k - 1)=false)->t.2 < (k:Int) - 1))/\((k≠0/\p (k - 1)=true)->Xc p k≠[]):=by
 intro k
 induction k with
 | zero=>intro _;exact⟨rfl,fun o=>by simp[Xc,Xs],fun t h=>by simp[Xc] at h,fun h=>absurd rfl h.1⟩
 | succ k ih=>
  intro hk;obtain⟨h1,h2,h3,h4⟩:=ih (by omega);by_cases hp:p k=true
  ·by_cases hq:k≠0/\p (k - 1)=true
   ·have e:Xc p (k+1)=ext (Xc p k) k:=by rw[Xc,if_pos hp,if_pos hq]
    have hne:=h4 hq;obtain⟨l,s,hl⟩:∃l s,Xc p k=l++[s]:=⟨_,_,(FS hne).symm⟩;have hs:s.2=(k:Int) - 1:=(h3 s (by rw[hl];simp)).2.1 hq;rw[e,hl,JcY];rw[hl] at h1 h2;obtain⟨a1,a2,a3,a4,a5,a6⟩:=Ky.1 h1;refine⟨Ky.2 ⟨a1,by simp only;omega,by simp only;omega,a4,a5,a6⟩,fun o=>?_,fun t ht=>?_,fun _=>by simp⟩
    ·have:=h2 o;rw[XI] at this ⊢;by_cases ho:o=k
     ·subst ho;simp[Xs,hp];right;omega
     ·have e1:Xs [(s.1,(k:Int))] (o:Int)=Xs [s] (o:Int):=by
       simp only[Xs,List.any_cons,List.any_nil,FN];rw[EM];simp;omega
      have e2:decide (o < k+1)=decide (o < k):=by simp;omega
      rw[e1,this,e2]
    ·rw[NB] at ht;obtain rfl:(s.1,(k:Int))=t:=by simpa using ht
     exact⟨by simp only;omega,fun _=>by simp only;omega,(fun h=>by rw[Gb] at h;rw[hp] at h;cases h.2)⟩
   ·have e:Xc p (k+1)=Xc p k++[((k:Int),(k:Int))]:=by rw[Xc,if_pos hp,if_neg hq]
    rw[e];refine⟨Ky.2 ⟨h1,by simp,by simp only;omega,by simp,fun t ht=>?_,fun hn=>by simp only;omega⟩,fun o=>?_,fun t ht=>?_,fun _=>by simp⟩
    ·obtain⟨b1,_,b3⟩:=h3 t ht;by_cases h0:k=0
     ·subst h0;simp[Xc] at ht
     ·have hq':p (k - 1)=false:=by
       rcases hh:p (k - 1) with _ | _
       ·rfl
       ·exact absurd ⟨h0,hh⟩ hq
      have:=b3 ⟨h0,hq'⟩;simp only;omega
    ·rw[XI,h2 o];by_cases ho:o=k
     ·subst ho;simp[Xs,hp]
     ·have e1:Xs [((k:Int),(k:Int))] (o:Int)=false:=by
       simp[Xs];omega
      have e2:decide (o < k+1)=decide (o < k):=by simp;omega
      rw[e1,e2,FN]
    ·rw[NB] at ht;obtain rfl:((k:Int),(k:Int))=t:=by simpa using ht
     exact⟨by simp only;omega,fun _=>by simp only;omega,(fun h=>by rw[Gb] at h;rw[hp] at h;cases h.2)⟩
  ·have hp':p k=false:=by simpa using hp
   have e:Xc p (k+1)=Xc p k:=by rw[Xc,if_neg hp]
   rw[e];refine⟨h1,fun o=>?_,fun t ht=>?_,(fun h=>by rw[Gb] at h;rw[hp'] at h;cases h.2)⟩
   ·rw[h2 o];by_cases ho:o=k
    ·subst ho;simp[hp']
    ·have e2:decide (o < k+1)=decide (o < k):=by simp;omega
     rw[e2]
   ·obtain⟨b1,_,_⟩:=h3 t ht;exact⟨by omega,(fun h=>by rw[Gb] at h;rw[hp'] at h;cases h.2),fun _=>by omega⟩
def Qp (l:List Sp):Nat->Bool:=fun o=>Xs l (o:Int)
def of (p:Nat->Bool):List Sp:=Xc p 256
theorem Zz (p:Nat->Bool):Xp (-2) (of p)=true:=(Je6 p 256 (Nat.le_refl _)).1
theorem JcC (p:Nat->Bool) (o:Nat) (h:o < 256):Xs (of p) (o:Int)=p o:=by
 have:=(Je6 p 256 (Nat.le_refl _)).2.1 o;rw[show decide (o < 256)=true by simpa using h,Bool.true_and] at this;exact this
theorem Jn3 {l:List Sp} (h:Xp (-2) l=true):of (Qp l)=l:=Jce (Zz _) h fun o h0 h1=>by
 obtain⟨k,rfl⟩:=Int.eq_ofNat_of_zero_le h0;rw[JcC _ k (by omega)];rfl
theorem Jhc {p q:Nat->Bool}:∀k,(∀o,o < k->p o=q o)->Xc p k=Xc q k:=by
 intro k
 induction k with
 | zero=>exact fun _=>rfl
 | succ k ih=>
  intro h;have e:=ih fun o ho=>h o (by omega);have hk:=h k (by omega);have hk1:=h (k - 1) (by omega);rw[Xc,Xc,e,hk,hk1]
theorem Jk2 {p q:Nat->Bool} (h:∀o,o < 256->p o=q o):of p=of q:=Jhc 256 h
theorem Jgy (l:List Sp):Xp (-2) l=(decide (l.length<=128) && decide (l=of (Qp l))):=by
 rw[EM,Ea,Ej,Ej];constructor
 ·exact fun h=>⟨XV h,(Jn3 h).symm⟩
 ·rintro⟨_,h⟩;rw[h];exact Zz _
end Go.Proofs.YtmbeahbgafkjfaaGreatDoor.Sn
namespace Go.Proofs.YtmbeahbgafkjfaaGreatDoor.Wq
def pN (l:List UInt8):Option (Nat×List UInt8):=if (Pk.Kj l 0 l).2.2=0 then some ((Pk.Kj l 0 l).1,l.drop (Pk.Kj l 0 l).2.1) else none
theorem JeI {l:List UInt8} {x k:Nat} (h:Pk.Kj l 0 l=(x,k,0)):pN l=some (x,l.drop k):=by unfold pN;rw[h];rfl
theorem Ji6 {l:List UInt8} {x k er:Nat} (h:Pk.Kj l 0 l=(x,k,er)) (he:er≠0):pN l=none:=by unfold pN;rw[h];exact if_neg he
theorem Jlz {l r:List UInt8} {x:Nat} (h:pN l=some (x,r)):∃k,Pk.Kj l 0 l=(x,k,0)/\r=l.drop k/\1<=k/\k<=l.length/\k<=9:=by
 unfold pN at h;obtain⟨y,k,er,e⟩:∃y k er,Pk.Kj l 0 l=(y,k,er):=⟨_,_,_,rfl⟩;rw[e] at h
 split at h
 ·rename_i he;simp only at he h;subst he;simp only[Gg,Nn] at h;obtain⟨b1,b2,b3,b4,b5⟩:=Pk.Ja0 e;exact⟨k,by rw[e,h.1],h.2.symm,b1,b3,b2⟩
 ·cases h
theorem Jap {n:Nat} (h:n < 9223372036854775808) (r:List UInt8):pN (Pk.lay n++r)=some (n,r):=by
 rw[JeI (Pk.JnB h r),Rc rfl]
theorem Jcc {l r:List UInt8} {x:Nat} (h:pN l=some (x,r)):l=Pk.lay x++r/\x < 9223372036854775808:=by
 obtain⟨k,e,rfl,_⟩:=Jlz h;obtain⟨b1,b2,b3,b4,b5⟩:=Pk.Ja0 e;exact⟨by rw[b4,EZ],b5⟩
theorem JmC {l r:List UInt8} {x:Nat} (h:pN l=some (x,r)):r.length < l.length:=by
 obtain⟨k,e,rfl,h1,h2,_⟩:=Jlz h;rw[List.length_drop];omega
def pP:Nat->List UInt8->Option (List (Int×Int)×List UInt8)
 | 0,l=>some ([],l)
 | n+1,l=>match pN l with
  | none=>none
  | some (a,r)=>match pN r with
   | none=>none
   | some (b,q)=>match pP n q with
    | none=>none
    | some (v,t)=>some (((a:Int),(b:Int)) :: v,t)
def lP (v:List (Int×Int)):List UInt8:=v.flatMap fun s=>Pk.lay s.1.toNat++Pk.lay s.2.toNat
def Ua (x:Int):Prop:=0<=x/\x < 9223372036854775808
theorem Jjd (s:Int×Int) (v:List (Int×Int)):lP (s :: v)=Pk.lay s.1.toNat++(Pk.lay s.2.toNat++lP v):=by simp[lP]
theorem Zj {x:Int} (h:Ua x) (r:List UInt8):pN (Pk.lay x.toNat++r)=some (x.toNat,r):=Jap (by have:=h.1;have:=h.2;omega) r
theorem Jhl:∀(v:List (Int×Int)) (r:List UInt8),(∀s∈v,Ua s.1/\Ua s.2)->pP v.length (lP v++r)=some (v,r)
 | [],r,_=>rfl
 | s :: v,r,h=>by
  obtain⟨h1,h2⟩:=h s (by simp);have e1:=h1.1;have e2:=h2.1;rw[List.length_cons,pP,Jjd,Er,Zj h1];simp only[Er];rw[Zj h2];simp only;rw[Jhl v r fun t ht=>h t (by simp[ht])];simp only[Fz e1,Fz e2]
theorem JiU:∀(n:Nat) (l:List UInt8) (v:List (Int×Int)) (r:List UInt8),pP n l=some (v,r)->l=lP v++r/\v.length=n/\∀s∈v,Ua s.1/\Ua s.2
 | 0,l,v,r,h=>by
  simp only[pP,Gg,Nn] at h;obtain⟨rfl,rfl⟩:=h;exact⟨rfl,rfl,fun s hs=>by cases hs⟩
 | n+1,l,v,r,h=>by
  rw[pP] at h
  split at h
  ·cases h
  ·rename_i a r1 h1
   split at h
   ·cases h
   ·rename_i b q h2
    split at h
    ·cases h
    ·rename_i v' t h3;simp only[Gg,Nn] at h;obtain⟨rfl,rfl⟩:=h;obtain⟨a1,a2,a3⟩:=JiU n q v' t h3;obtain⟨b1,b2⟩:=Jcc h1;obtain⟨c1,c2⟩:=Jcc h2;refine⟨by rw[b1,c1,a1,Jjd];simp,by simp[a2],fun s hs=>?_⟩;rcases EE.1 hs with rfl | hs
     ·exact⟨⟨by simp only;omega,by simp only;omega⟩,⟨by simp only;omega,by simp only;omega⟩⟩
     ·exact a3 s hs
def pS (l:List UInt8):Option (List Sn.Sp×List UInt8):=match pN l with
 | none=>none
 | some (n,r)=>match pP n r with
  | none=>none
  | some (v,q)=>if Sn.Xp (-2) v=true then some (v,q) else none
def lS (v:List Sn.Sp):List UInt8:=Pk.lay v.length++lP v
theorem JiZ {e:Int} {l:List Sn.Sp} (h:Sn.Xp e l=true):∀s∈l,Ua s.1/\Ua s.2:=by
 induction l generalizing e with
 | nil=>exact fun s hs=>by cases hs
 | cons t r ih=>
  obtain⟨h1,h2,h3,h4,h5⟩:=Sn.Qh.1 h;intro s hs;rcases EE.1 hs with rfl | hs
  ·exact⟨⟨h3,by omega⟩,⟨by omega,by omega⟩⟩
  ·exact ih h5 s hs
theorem JhZ {v:List Sn.Sp} (h:Sn.Xp (-2) v=true) (r:List UInt8):pS (lS v++r)=some (v,r):=by
 have:=Sn.XV h;unfold pS lS;rw[Er,Jap (by omega)];simp only;rw[Jhl v r (JiZ h)];simp only;rw[if_pos h]
theorem JnL {l r:List UInt8} {v:List Sn.Sp} (h:pS l=some (v,r)):l=lS v++r/\Sn.Xp (-2) v=true:=by
 unfold pS at h
 split at h
 ·cases h
 ·rename_i n r1 h1
  split at h
  ·cases h
  ·rename_i v' q h2
   split at h
   ·rename_i hf;simp only[Gg,Nn] at h;obtain⟨rfl,rfl⟩:=h;obtain⟨a1,a2⟩:=Jcc h1;obtain⟨b1,b2,b3⟩:=JiU _ _ _ _ h2;exact⟨by rw[a1,b1,lS,b2];simp,hf⟩
   ·cases h
def pR (most:Nat) (l:List UInt8):Option (List UInt8×List UInt8):=match pN l with
 | none=>none
 | some (n,r)=>if n<=most/\n<=r.length then some (r.take n,r.drop n) else none
def lR (v:List UInt8):List UInt8:=Pk.lay v.length++v
theorem JoJ {most:Nat} {v:List UInt8} (h:v.length<=most) (hm:v.length < 9223372036854775808) (r:List UInt8):pR most (lR v++r)=some (v,r):=by
 unfold pR lR;rw[Er,Jap hm];simp only;rw[if_pos ⟨h,by simp⟩,NL rfl,Rc rfl]
end Go.Proofs.YtmbeahbgafkjfaaGreatDoor.Wq
