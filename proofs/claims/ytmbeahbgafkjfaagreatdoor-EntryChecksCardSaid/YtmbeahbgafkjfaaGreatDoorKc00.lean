/- Lemmas for the claim, layer 0. -/
import Derived.ProofKit
import Derived.Deep.AppendLies
import Derived.Deep.Draws
import Derived.WalkSpells
import Derived.Lib.Hide
import Derived.Lib.AppendZerosOnto
namespace Go.Proofs.YtmbeahbgafkjfaaGreatDoor
open Go.RowKit
theorem block_of_add (a:Addr) (n:Nat):(a.add n).block=a.block:=by unfold Addr.add;split<;>rfl
theorem add_of_add (a:Addr) (i j:Nat):(a.add i).add j=a.add (i+j):=by
 unfold Addr.add;by_cases hi:i=0<;>by_cases hj:j=0<;>simp[hi,hj,Nat.add_assoc]
theorem add_zero_ (a:Addr):a.add 0=a:=by simp[Addr.add]
def bv (l:List UInt8):List Value:=l.map fun b=>.int .u8 (b.toNat:Int)
theorem bv_len (l:List UInt8):(bv l).length=l.length:=by simp[bv]
theorem bv_app (l m:List UInt8):bv (l++m)=bv l++bv m:=by simp[bv]
theorem bv_take (l:List UInt8) (k:Nat):bv (l.take k)=(bv l).take k:=by simp[bv,List.map_take]
theorem bv_drop (l:List UInt8) (k:Nat):bv (l.drop k)=(bv l).drop k:=by simp[bv,List.map_drop]
theorem bv_at (l:List UInt8) (k:Nat) (h:k < l.length):(bv l)[k]?=some (.int .u8 (l[k].toNat:Int)):=by simp[bv,List.getElem?_map,List.getElem?_eq_getElem h]
theorem bv_one (b:UInt8):bv [b]=[.int .u8 (b.toNat:Int)]:=rfl
theorem bv_oneCell (l:List UInt8):∀u∈bv l,u.oneCell'=true:=by
 intro u hu;simp only[bv,List.mem_map] at hu;obtain⟨b,_,rfl⟩:=hu;rfl
structure Rd (w:World) (B size:Nat) (A:Option Addr) (n c:Nat) (xs:List Value):Prop where
 len:xs.length=n * size
 cap:n<=c
 max:c<=maxLen
 nil:A=none->c=0
 at0:0 < n->∃ad,A=some ad/\ad.block < B/\∀j u,xs[j]?=some u->w.cell? (ad.add j)=some u
section
variable {w w':World} {B B' size n c:Nat} {A:Option Addr} {xs:List Value}
theorem Rd.none_:Rd w B size none 0 0 []:=⟨by simp,Nat.le_refl _,by simp[maxLen],fun _=>rfl,fun h=>absurd h (by omega)⟩
theorem Rd.at_ {k:Nat} (h:Rd w B 1 A n c xs) (hk:k < n):∃ad u,A=some ad/\ad.block < B/\xs[k]?=some u/\w.cell? (ad.add k)=some u:=by
 obtain⟨ad,e,hb,hc⟩:=h.at0 (by omega);have hl:k < xs.length:=by have:=h.len;omega
 exact⟨ad,xs[k],e,hb,List.getElem?_eq_getElem hl,hc k _ (List.getElem?_eq_getElem hl)⟩
theorem Rd.keep (h:Rd w B size A n c xs) (hk:∀p:Addr,p.block < B->w'.cell? p=w.cell? p):Rd w' B size A n c xs:=
 ⟨h.len,h.cap,h.max,h.nil,fun hn=>by
  obtain⟨ad,e,hb,hc⟩:=h.at0 hn;exact⟨ad,e,hb,fun j u hu=>(hk _ (by rw[block_of_add];exact hb)).trans (hc j u hu)⟩⟩
theorem Rd.more (h:Rd w B size A n c xs) (hB:B<=B'):Rd w B' size A n c xs:=
 ⟨h.len,h.cap,h.max,h.nil,fun hn=>by
  obtain⟨ad,e,hb,hc⟩:=h.at0 hn;exact⟨ad,e,by omega,hc⟩⟩
theorem Rd.below (h:Rd w B size A n c xs) (hb:Below B w w'):Rd w' B size A n c xs:=h.keep fun _ hp=>hb.cell hp
theorem Rd.drew (h:Rd w B size A n c xs):Rd w.drew B size A n c xs:=⟨h.len,h.cap,h.max,h.nil,h.at0⟩
theorem Rd.drewN (h:Rd w B size A n c xs) (k:Nat):Rd (w.drewN k) B size A n c xs:=⟨h.len,h.cap,h.max,h.nil,h.at0⟩
theorem Rd.alloc (h:Rd w B size A n c xs) (hB:B<=w.heap.size) (o:Obj):Rd (w.alloc o) B size A n c xs:=h.keep fun p hp=>World.cell?_alloc_lt w o p (by omega)
theorem Rd.of_own {base:Nat} {e:TypeId} (h:w.ownsRow base e size (.slice A n c) n xs):Rd w w.heap.size size A n c xs:=by
 refine⟨h.1,?_,?_,?_,fun hn=>?_⟩
 ·rcases h.2 with ⟨hv,h0⟩ | ⟨g,cap,cur,hv,_,_,h1,_⟩
  ·omega
  ·injection hv with _ _ hc;omega
 ·rcases h.2 with ⟨hv,h0⟩ | ⟨g,cap,cur,hv,_,_,h1,h2,_⟩
  ·injection hv with _ _ hc;subst hc;simp[maxLen]
  ·injection hv with _ _ hc;omega
 ·rintro rfl;rcases h.2 with ⟨hv,h0⟩ | ⟨g,cap,cur,hv,_,_,h1,h2,_⟩
  ·injection hv
  ·injection hv with hA;cases hA
 ·obtain⟨g,cap,hv,_,hlt⟩:=h.form hn;have hA:A=some ⟨g,0,none⟩:=by injection hv
  subst hA;exact⟨_,rfl,hlt,h.cells (g:=g) rfl⟩
end
theorem Rd.go {w w':World} {size n c:Nat} {A:Option Addr} {xs:List Value} (h:Rd w w.heap.size size A n c xs) (hb:Below w.heap.size w w'):Rd w' w'.heap.size size A n c xs:=(h.below hb).more hb.size
theorem below_then {B:Nat} {a b c:World} (h:Below B a b) (hB:B<=a.heap.size) (k:Below b.heap.size b c):Below B a c:=h.trans (k.mono (Nat.le_trans hB h.size))
theorem Hz_ {p:Prop} (h:p):RowKit.Hid p:=Lib.hid h
theorem Zl {a:Nat}:a<=a:=Nat.le_refl a
theorem Zr {B:Nat} {w:World}:Below B w w:=Below.refl B w
abbrev Bz (a b:World):Prop:=Below a.heap.size a b
theorem btn {a b c:World} {B:Nat} (h:Below B a b) (k:Below b.heap.size b c) (hB:B<=a.heap.size:=by exact Nat.le_refl _):Below B a c:=below_then h hB k
theorem own_form {w:World} {base:Nat} {e:TypeId} {size n:Nat} {v:Value} {xs:List Value} (h:w.ownsRow base e size v n xs):
  ∃A c,v=.slice A n c/\(A=none->n=0/\c=0)/\(∀a,A=some a->∃g,a=⟨g,0,none⟩/\base<=g/\g < w.heap.size):=by
 rcases h.2 with ⟨rfl,rfl⟩ | ⟨g,cap,cur,rfl,hb,hh,hn,hm,hs,ht⟩
 ·exact⟨none,0,rfl,fun _=>⟨rfl,rfl⟩,fun a ha=>by cases ha⟩
 ·exact⟨some ⟨g,0,none⟩,cap,rfl,(fun h=>by cases h),fun a ha=>⟨g,by injection ha with ha;exact ha.symm,hb,(Array.getElem?_eq_some_iff.1 hh).1⟩⟩
theorem own_empty (w:World) (e:TypeId) (size:Nat):(w.alloc (.cells #[] e)).ownsRow w.heap.size e size (.slice (some ⟨w.heap.size,0,none⟩) 0 0) 0 []:=
 World.ownsRow_made w #[] 0 (Nat.le_refl _) (by simp[maxLen]) (by simp)
theorem own_below {w w':World} {base B:Nat} {e:TypeId} {size n:Nat} {v:Value} {xs:List Value} (h:w.ownsRow base e size v n xs) (hb:Below B w w') (hB:w.heap.size<=B):w'.ownsRow base e size v n xs:=by
 refine⟨h.1,?_⟩;rcases h.2 with h2 | ⟨g,cap,cur,rfl,hbg,hh,rest⟩
 ·exact .inl h2
 ·exact .inr ⟨g,cap,cur,rfl,hbg,by rw[hb.block g (by have:=(Array.getElem?_eq_some_iff.1 hh).1;omega)];exact hh,rest⟩
theorem own_less {w:World} {base base':Nat} {e:TypeId} {size n:Nat} {v:Value} {xs:List Value} (h:w.ownsRow base e size v n xs) (hb:base'<=base):w.ownsRow base' e size v n xs:=by
 refine⟨h.1,?_⟩;rcases h.2 with h2 | ⟨g,cap,cur,rfl,hbg,rest⟩
 ·exact .inl h2
 ·exact .inr ⟨g,cap,cur,rfl,by omega,rest⟩
theorem own_drewN {w:World} {base:Nat} {e:TypeId} {size n:Nat} {v:Value} {xs:List Value} (h:w.ownsRow base e size v n xs) (k:Nat):(w.drewN k).ownsRow base e size v n xs:=h
theorem below_drewN {B:Nat} {a w:World} (h:Below B a w) (n:Nat):Below B a (w.drewN n):=⟨h.os,h.tape,h.output,h.size,h.block⟩
def cutAt (size:Nat) (A:Option Addr) (c k:Nat):Option Addr:=if c=k then A else A.map (·.add (k * size))
section
variable {w:World} {B size n c:Nat} {A:Option Addr} {xs:List Value}
theorem Rd.cut (h:Rd w B size A n c xs) {k m:Nat} (hk:k<=m) (hm:m<=n):Rd w B size (cutAt size A c k) (m - k) (c - k) ((xs.drop (k * size)).take ((m - k) * size)):=by
 have hc:=h.cap;refine⟨?_,by omega,by have:=h.max;omega,?_,fun hn=>?_⟩
 ·rw[List.length_take,List.length_drop,h.len,<-Nat.sub_mul];exact Nat.min_eq_left (Nat.mul_le_mul_right _ (by omega))
 ·intro hA;unfold cutAt at hA
  split at hA
  ·omega
  ·have:=h.nil (by simpa using hA);omega
 ·obtain⟨ad,rfl,hb,hcell⟩:=h.at0 (by omega);refine⟨ad.add (k * size),by unfold cutAt;rw[if_neg (by omega)];rfl,by rw[block_of_add];exact hb,fun j u hu=>?_⟩;rw[add_of_add];rw[List.getElem?_take] at hu
  split at hu
  ·exact hcell _ u (by rw[<-hu,List.getElem?_drop])
  ·cases hu
theorem Rd.from_ (h:Rd w B size A n c xs) {k:Nat} (hk:k<=n):Rd w B size (cutAt size A c k) (n - k) (c - k) (xs.drop (k * size)):=by
 have:=h.cut hk (Nat.le_refl n)
 rwa [List.take_of_length_le (by rw[List.length_drop,h.len,<-Nat.sub_mul];exact Nat.le_refl _)] at this
end
section
variable {P:Program}
theorem run_cut (W:World) (t e:TypeId) (size:Nat) (ht:P.underlying t=some (.slice e)) (hs:∀w,(Go.sizeOf e).run P w=.ok size w) (A:Option Addr) (n c:Nat) (kl kh:IntKind) (lo hi:Int) (k m:Nat) (el:lo=k) (eh:hi=m) (h1:k<=m) (h2:m<=c):
  (Instr.slice t (.slice A n c) (some (.int kl lo)) (some (.int kh hi)) none).run P W=.ok (.slice (cutAt size A c k) (m - k) (c - k)) W:=by
 subst el eh;have b1:(Instr.sliceBound (.int kh m) c .sliceAcap).run P W=.ok m W:=by
  rw[Go.run_sliceBound W kh m c _ (by omega) (by omega)];simp
 have b2:(Instr.sliceBound (.int kl k) m .sliceB).run P W=.ok k W:=by
  rw[Go.run_sliceBound W kl k m _ (by omega) (by omega)];simp
 simp[Instr.slice,run_underlying ht,Instr.sliceBounds,b1,b2,hs,cutAt]
theorem run_upto (W:World) (t e:TypeId) (size:Nat) (ht:P.underlying t=some (.slice e)) (hs:∀w,(Go.sizeOf e).run P w=.ok size w) (A:Option Addr) (n c:Nat) (kh:IntKind) (hi:Int) (m:Nat) (eh:hi=m) (h2:m<=c):
  (Instr.slice t (.slice A n c) none (some (.int kh hi)) none).run P W=.ok (.slice A m c) W:=by
 subst eh;have b1:(Instr.sliceBound (.int kh m) c .sliceAcap).run P W=.ok m W:=by
  rw[Go.run_sliceBound W kh m c _ (by omega) (by omega)];simp
 simp[Instr.slice,run_underlying ht,Instr.sliceBounds,b1,hs];intro _;cases A<;>simp[add_zero_]
theorem run_from (W:World) (t e:TypeId) (size:Nat) (ht:P.underlying t=some (.slice e)) (hs:∀w,(Go.sizeOf e).run P w=.ok size w) (A:Option Addr) (n c:Nat) (kl:IntKind) (lo:Int) (k:Nat) (el:lo=k) (h1:k<=n):
  (Instr.slice t (.slice A n c) (some (.int kl lo)) none none).run P W=.ok (.slice (cutAt size A c k) (n - k) (c - k)) W:=by
 subst el;have b2:(Instr.sliceBound (.int kl k) n .sliceB).run P W=.ok k W:=by
  rw[Go.run_sliceBound W kl k n _ (by omega) (by omega)];simp
 simp[Instr.slice,run_underlying ht,Instr.sliceBounds,b2,hs,cutAt]
end
theorem Rd.new (w:World) (t:TypeId) (size n:Nat) (cs:Array Value) (hn:cs.size=n * size) (hm:n<=maxLen):Rd (w.alloc (.cells cs t)) (w.heap.size+1) size (some ⟨w.heap.size,0,none⟩) n n cs.toList:=by
 refine⟨by simpa using hn,Nat.le_refl _,hm,(fun h=>by cases h),fun _=>⟨_,rfl,by simp,fun j u hu=>?_⟩⟩;have hadd:(⟨w.heap.size,0,none⟩:Addr).add j=⟨w.heap.size,j,none⟩:=by unfold Addr.add;split<;>simp_all
 rw[hadd,cell_of_row _ w.heap.size j cs t (0,0) (heap_alloc_new w _)];simpa using hu
theorem grown_below {B:Nat} {w w':World} {row:Option Nat} (hg:w.grownBy w' row) (hB:B<=w.heap.size) (hr:∀k,row=some k->B<=k):Below B w w':=(Below.refl _ _).grown hg hB hr
theorem own_lt {w:World} {base:Nat} {e:TypeId} {size n:Nat} {v:Value} {xs:List Value} (h:w.ownsRow base e size v n xs):∀k,v.ownBlock=some k->base<=k:=fun k hk=>(h.lt k hk).1
section
variable {P:Program} (w:World)
theorem run_append_of_nil (base:Nat) (t ty e:TypeId) (i:TypeInfo) (size:Nat) (ht:P.underlying t=some (.slice e)) (hi:P.info? e=some i)
  (v:Value) (n:Nat) (xs:List Value) (hown:w.ownsRow base e size v n xs) (c:Nat):(Builtin.append_ #[t,t] ty #[v,.slice none 0 c]).run P w=.ok v w:=by
 rcases hown.2 with ⟨rfl,rfl⟩ | ⟨g,cap,cur,rfl,_,_,hnc,_⟩
 ·simp[Builtin.append_,run_underlying ht,sizeOf,typeInfo,hi,Builtin.lenOf,Builtin.firstCells]
 ·simp[Builtin.append_,run_underlying ht,sizeOf,typeInfo,hi,Builtin.lenOf,Builtin.firstCells,hnc,storeCells]
theorem run_append_rd (base:Nat) (t ty e:TypeId) (i:TypeInfo) (z:Value) (size bytes:Nat) (ht:P.underlying t=some (.slice e)) (hi:P.info? e=some i) (hz:i.zero=some z)
  (hsize:i.size=size) (hby:i.bytes=bytes) (hzs:z.cells.size=size) (hsz:0 < size)
  (v:Value) (n:Nat) (xs:List Value) (hown:w.ownsRow base e size v n xs)
  (B:Nat) (A:Option Addr) (m c:Nat) (news:List Value) (hr:Rd w B size A m c news) (h1:∀u∈news,u.oneCell'=true)
  (h63:n+m<=maxLen) (hbytes:(n+m) * bytes<=140737488355328) (hbase:base<=w.heap.size):
  ∃A' c' w',(Builtin.append_ #[t,t] ty #[v,.slice A m c]).run P w=.ok (.slice A' (n+m) c') w'/\w'.ownsRow base e size (.slice A' (n+m) c') (n+m) (xs++news)/\w.grownBy w' v.ownBlock /\
   ((Value.slice A' (n+m) c').ownBlock=v.ownBlock\/(Value.slice A' (n+m) c').ownBlock=some w.heap.size):=by
 rcases A with _ | ad
 ·have hc0:=hr.nil rfl;have hm:m=0:=by have:=hr.cap;omega
  subst hm;have hn:news=[]:=List.eq_nil_of_length_eq_zero (by simpa using hr.len);subst hn;obtain⟨A',c',rfl,_⟩:=own_form hown;exact⟨A',c',w,run_append_of_nil w base t ty e i size ht hi _ n xs hown c,by simpa using hown,World.grownBy.refl w _,.inl rfl⟩
 ·have hcells:∀j u,news[j]?=some u->w.cell? (ad.add j)=some u:=by
   intro j u hu;rcases Nat.eq_zero_or_pos m with h0 | h0
   ·subst h0;have hn:news=[]:=List.eq_nil_of_length_eq_zero (by simpa using hr.len);subst hn;simp at hu
   ·obtain⟨ad',h,_,hc⟩:=hr.at0 h0;injection h with h;subst h;exact hc j u hu
  obtain⟨v',w',hrun,h2,h3,_,h5⟩:=run_append_own_at (P:=P) w base t ty e i z size bytes ht hi hz hsize hby hzs hsz v n xs hown ad m c news hr.len hcells h1 h63 hbytes hbase;obtain⟨A',c',rfl,_⟩:=own_form h2;exact⟨A',c',w',hrun,h2,h3,h5⟩
theorem wp_append_rd {o:Oper} {a:Act} {K:Act->World->Prop} {Q:Exit->Act->World->Prop} (s x:Operand) (t:TypeId)
  (ho:o.op=.call { callee:=.builtin .append,args:=#[s,x],argTypes:=#[t,t] })
  (base:Nat) (e:TypeId) (i:TypeInfo) (z:Value) (size bytes:Nat) (ht:P.underlying t=some (.slice e)) (hi:P.info? e=some i) (hz:i.zero=some z)
  (hsize:i.size=size) (hby:i.bytes=bytes) (hzs:z.cells.size=size) (hsz:0 < size)
  (v:Value) (n:Nat) (xs:List Value) (hs:a.eval s=v) (hown:w.ownsRow base e size v n xs)
  (B:Nat) (A:Option Addr) (m c:Nat) (news:List Value) (hx:a.eval x=.slice A m c) (hr:Rd w B size A m c news) (h1:∀u∈news,u.oneCell'=true)
  (h63:n+m<=maxLen) (hbytes:(n+m) * bytes<=140737488355328) (hbase:base<=w.heap.size)
  (h:∀A' c' w',w'.ownsRow base e size (.slice A' (n+m) c') (n+m) (xs++news)->w.grownBy w' v.ownBlock->((Value.slice A' (n+m) c').ownBlock=v.ownBlock\/(Value.slice A' (n+m) c').ownBlock=some w.heap.size)->K (a.put o.dst (.slice A' (n+m) c')) w'):o.wp P a w K Q:=by
 obtain⟨A',c',w',hrun,h2,h3,h4⟩:=run_append_rd (P:=P) w base t o.type e i z size bytes ht hi hz hsize hby hzs hsz v n xs hown B A m c news hr h1 h63 hbytes hbase;unfold Oper.wp execOp;simp only[ho,resolve,invoke,builtin,Sem.run_bind,Sem.run_pure,Result.andThen_ok,List.map_toArray,List.map_cons,List.map_nil,hs,hx,hrun];exact h A' c' w' h2 h3 h4
theorem wpList_append_rd {ops:Array Oper} {rest:List Oper} {o:Oper} {a:Act} {Q:Exit->Act->World->Prop} (hgd:o.guard=none) (s x:Operand) (t:TypeId)
  (ho:o.op=.call { callee:=.builtin .append,args:=#[s,x],argTypes:=#[t,t] })
  (base:Nat) (e:TypeId) (i:TypeInfo) (z:Value) (size bytes:Nat) (ht:P.underlying t=some (.slice e)) (hi:P.info? e=some i) (hz:i.zero=some z)
  (hsize:i.size=size) (hby:i.bytes=bytes) (hzs:z.cells.size=size) (hsz:0 < size)
  (v:Value) (n:Nat) (xs:List Value) (hs:a.eval s=v) (hown:w.ownsRow base e size v n xs)
  (B:Nat) (A:Option Addr) (m c:Nat) (news:List Value) (hx:a.eval x=.slice A m c) (hr:Rd w B size A m c news) (h1:∀u∈news,u.oneCell'=true)
  (h63:n+m<=maxLen) (hbytes:(n+m) * bytes<=140737488355328) (hbase:base<=w.heap.size)
  (h:∀A' c' w',w'.ownsRow base e size (.slice A' (n+m) c') (n+m) (xs++news)->w.grownBy w' v.ownBlock->((Value.slice A' (n+m) c').ownBlock=v.ownBlock\/(Value.slice A' (n+m) c').ownBlock=some w.heap.size)->wpList P ops Q rest (a.put o.dst (.slice A' (n+m) c')) w'):wpList P ops Q (o :: rest) a w:=
 wpList_plain hgd fun _ hK=>wp_append_rd w s x t ho base e i z size bytes ht hi hz hsize hby hzs hsz v n xs hs hown B A m c news hx hr h1 h63 hbytes hbase fun A' c' w' h2 h3 h4=>hK _ _ (h A' c' w' h2 h3 h4)
end
def Nrm (K:Act->World->Prop):Exit->Act->World->Prop
 | .normal,a,w=>K a w
 | _,_,_=>False
theorem Nrm.out {K:Act->World->Prop} {a:Act} {w:World} (h:K a w):Nrm K .normal a w:=h
theorem region_nrm {P:Program} {id:Nat} {ops:Array Oper} {d:Bool} {Q:Exit->Act->World->Prop} {a:Act} {w:World}
  (h:∀K:Act->World->Prop,(∀a w,Q .normal a w->K a w)->(Code.region id ops d).wp P (Nrm K) a w):(Code.region id ops d).wp P Q a w:=
 by
 refine Code.wp_mono (Q:=Nrm fun a w=>Q .normal a w) (fun e a w hh=>?_) (h (fun a w=>Q .normal a w) fun _ _ hh=>hh)
 cases e with
 | normal=>exact hh
 | _=>exact False.elim hh
end Go.Proofs.YtmbeahbgafkjfaaGreatDoor
namespace Go.Proofs.YtmbeahbgafkjfaaGreatDoor
section
variable {base G n c size:Nat} {e:TypeId}
theorem set_run (xs vs:List Value) (o:Nat) (v:Value) (hl:o+(vs.length+1)<=xs.length):(xs.set o v).take (o+1)++vs++(xs.set o v).drop (o+1+vs.length)=xs.take o++(v :: vs)++xs.drop (o+(v :: vs).length):=by
 have h1:(xs.set o v).take (o+1)=xs.take o++[v]:=by
  rw[List.take_add_one,List.getElem?_set_self (by omega),List.take_set_of_le Zl];rfl
 have h2:(xs.set o v).drop (o+1+vs.length)=xs.drop (o+(v :: vs).length):=by
  rw[List.drop_set_of_lt (by omega),List.length_cons,show o+1+vs.length=o+(vs.length+1) by omega]
 rw[h1,h2];simp
theorem own_setC:∀(vs:List Value) (o:Nat) (w:World) (xs:List Value),w.ownsRow base e size (.slice (some ⟨G,0,none⟩) n c) n xs->o+vs.length<=xs.length ->
  (w.setCells G o vs).ownsRow base e size (.slice (some ⟨G,0,none⟩) n c) n (xs.take o++vs++xs.drop (o+vs.length))/\w.grownBy (w.setCells G o vs) (some G)
 | [],o,w,xs,h,_=>⟨by simpa[World.setCells] using h,World.grownBy.refl _ _⟩
 | v :: vs,o,w,xs,h,hl=>by
  have s:=h.stored o v;rw[List.length_cons] at hl;obtain⟨h1,h2⟩:=own_setC vs (o+1) _ (xs.set o v) s.1 (by rw[List.length_set];omega);rw[set_run xs vs o v hl] at h1;exact⟨h1,s.2.trans h2⟩
theorem own_setP:∀(vs:List Value) (o:Nat) (w:World) (xs:List Value),w.ownsRow base e size (.slice (some ⟨G,0,none⟩) n c) n xs->xs.length<=o ->
  (w.setCells G o vs).ownsRow base e size (.slice (some ⟨G,0,none⟩) n c) n xs/\w.grownBy (w.setCells G o vs) (some G)
 | [],_,w,_,h,_=>⟨h,World.grownBy.refl _ _⟩
 | v :: vs,o,w,xs,h,ho=>by
  have s:=h.stored o v;rw[List.set_eq_of_length_le ho] at s;obtain⟨h1,h2⟩:=own_setP vs (o+1) _ xs s.1 (by omega);exact⟨h1,s.2.trans h2⟩
theorem own_cut {w:World} {xs:List Value} (h:w.ownsRow base e size (.slice (some ⟨G,0,none⟩) n c) n xs) {m:Nat} (hm:m<=n):w.ownsRow base e size (.slice (some ⟨G,0,none⟩) m c) m (xs.take (m * size)):=by
 obtain⟨hlen,h | ⟨g,cap,cur,hv,hb,hg,hnc,hcm,hcs,hx⟩⟩:=h
 ·exact absurd h.1 (by simp)
 ·injection hv with hv1 _ hv3;injection hv1 with hv1;injection hv1 with hv1;subst hv1 hv3;have hms:m * size<=n * size:=Nat.mul_le_mul_right _ hm;refine⟨by rw[List.length_take,hlen];omega,.inr ⟨G,c,cur,rfl,hb,hg,by omega,hcm,hcs,?_⟩⟩;rw[<-hx,List.take_take,Nat.min_eq_left hms]
theorem own_more {w:World} {xs:List Value} (h:w.ownsRow base e size (.slice (some ⟨G,0,none⟩) n c) n xs) (hn:n < c):∃ys,ys.length=size/\w.ownsRow base e size (.slice (some ⟨G,0,none⟩) (n+1) c) (n+1) (xs++ys):=by
 obtain⟨hlen,h | ⟨g,cap,cur,hv,hb,hg,hnc,hcm,hcs,hx⟩⟩:=h
 ·exact absurd h.1 (by simp)
 ·injection hv with hv1 _ hv3;injection hv1 with hv1;injection hv1 with hv1;subst hv1 hv3;have h1:(n+1) * size<=c * size:=Nat.mul_le_mul_right _ hn;rw[Nat.add_mul,Nat.one_mul] at h1;have hl:((cur.toList.drop (n * size)).take size).length=size:=by
   rw[List.length_take,List.length_drop,Array.length_toList,hcs];omega
  refine⟨(cur.toList.drop (n * size)).take size,hl,by rw[List.length_append,hl,hlen,Nat.add_mul,Nat.one_mul],.inr ⟨G,c,cur,rfl,hb,hg,hn,hcm,hcs,?_⟩⟩;rw[Nat.add_mul,Nat.one_mul,List.take_add,hx]
theorem own_row (w:World) (cs:Array Value) (base:Nat) (hb:base<=w.heap.size) (xs:List Value) (hx:cs.toList.take (n * size)=xs) (hn:n<=c) (hc:c<=maxLen) (hs:cs.size=c * size):
  (w.alloc (.cells cs e)).ownsRow base e size (.slice (some ⟨w.heap.size,0,none⟩) n c) n xs:=by
 have h1:n * size<=c * size:=Nat.mul_le_mul_right _ hn;exact⟨by rw[<-hx,List.length_take,Array.length_toList,hs];omega,.inr ⟨w.heap.size,c,cs,rfl,hb,heap_alloc_new w _,hn,hc,hs,hx⟩⟩
theorem own_cap_ {w:World} {xs:List Value} {A:Option Addr} (h:w.ownsRow base e size (.slice A n c) n xs):n<=c/\c<=maxLen:=by
 obtain⟨_,h | ⟨g,cap,cur,hv,_,_,hnc,hcm,_⟩⟩:=h
 ·obtain⟨h1,h2⟩:=h;injection h1 with _ _ h3;subst h3;exact⟨by omega,Nat.zero_le _⟩
 ·injection hv with _ _ hv3;subst hv3;exact⟨hnc,hcm⟩
theorem own_at0 {w:World} {xs:List Value} {A:Option Addr} (h:w.ownsRow base e size (.slice A n c) n xs):(A=none/\n=0/\c=0/\xs=[])\/∃G,A=some ⟨G,0,none⟩:=by
 obtain⟨hl,⟨h1,h2⟩ | ⟨g,cap,cur,hv,_⟩⟩:=h
 ·injection h1 with e1 e2 e3;refine Or.inl ⟨e1,e2,e3,?_⟩;rw[h2,Nat.zero_mul] at hl;exact List.length_eq_zero_iff.1 hl
 ·injection hv with e1 _ _;exact Or.inr ⟨g,e1⟩
end
end Go.Proofs.YtmbeahbgafkjfaaGreatDoor
