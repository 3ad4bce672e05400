/- Lemmas, layer 1. -/
import Derived.ProofKit
import Derived.Deep.AppendLies
import Derived.Deep.Draws
import Derived.WalkSpells
import Derived.Lib.Hide
import Derived.Lib.AppendZerosOnto
set_option linter.unusedSimpArgs false
namespace Go.Proofs.YtmbeahbgafkjfaaGreatDoor
abbrev Eb:=@List.length_append
abbrev Ec:=@Go.RowKit.Below.refl
abbrev Ed:=@List.drop_of_length_le
abbrev Ef:=@if_neg
abbrev Eh:=@List.drop_eq_getElem_cons
abbrev Ei:=@if_pos
abbrev Ek:=@Nat.le_refl
abbrev El:=@Go.World.size_alloc
abbrev Em:=@List.getElem?_eq_getElem
abbrev Eo:=@List.take_of_length_le
abbrev Ep:=@Go.World.block_lt_of_cell?
abbrev Eq:=@List.take_succ_eq_append_getElem
abbrev Et:=@List.length_take
abbrev Ex:=@Go.callsIn_wide
abbrev Ey:=@List.eq_nil_of_length_eq_zero
abbrev Ez:=@List.mem_singleton
abbrev EA:=@Array.getElem?_eq_some_iff
abbrev EB:=@List.mem_append
abbrev ED:=@Go.World.ownsRow_nil
abbrev EF:=@Go.bodyPost_ret
abbrev EI:=@decide_eq_false_iff_not
abbrev EJ:=@Go.IntWalk.i64_in
abbrev EK:=@Go.AllReady.cons
abbrev EN:=@Go.info_parts
abbrev EP:=@List.length_drop
abbrev ER:=@List.mem_cons_of_mem
abbrev EW:=@List.mem_cons_self
abbrev EY:=@Nat.le_trans
abbrev Fa:=@Go.AllReady.nil
abbrev Fb:=@Bool.true_and
abbrev Fd:=@Int.eq_ofNat_of_zero_le
abbrev Fe:=@Go.wpAny_ready
abbrev Ff:=@Nat.mul_le_mul_right
abbrev Fh:=@Go.Lib.run_eql_slice_nil
abbrev Fm:=@Array.replicate_succ
abbrev Fo:=@List.size_toArray
abbrev Fr:=@List.append_toArray
abbrev Fs:=@Go.wpAny_take
abbrev Ft:=@Nat.sub_mul
abbrev Fw:=@List.push_toArray
abbrev Fx:=@List.getElem?_take
abbrev FA:=@Go.wpList_load_row
abbrev FC:=@Nat.lt_of_lt_of_le
abbrev FD:=@List.filter_append
abbrev FE:=@List.getElem?_toArray
abbrev FJ:=@Go.Oper.semAt_some
abbrev FK:=@Nat.min_eq_left
abbrev FL:=@Nat.add_sub_cancel_left
abbrev FP:=@Array.getElem?_eq_none
abbrev FQ:=@Go.Addr.add_lit
abbrev FR:=@Go.run_underlying
abbrev FW:=@Go.World.cell?_setCell_same'
abbrev FX:=@beq_eq_false_iff_ne
abbrev Gc:=@Go.results_cell_row
abbrev Gd:=@List.not_mem_nil
abbrev Ge:=@List.filter_cons
abbrev Gf:=@Nat.testBit_two_pow_mul_add
abbrev Gl:=@List.length_map
abbrev Gp:=@List.mem_map
abbrev Gt:=@Int.le_refl
abbrev Gu:=@List.flatMap_cons
abbrev Gw:=@Array.getElem?_setIfInBounds
abbrev Gy:=@List.mem_flatMap
abbrev Gz:=@Go.wpAny_done
abbrev GH:=@Go.RowKit.Below.heap_setCell
abbrev GJ:=@List.length_filter_le
abbrev GK:=@Go.Lib.run_append_grow_zeros
abbrev GM:=@List.map_append
abbrev GQ:=@Go.World.cell?_of_block
abbrev GT:=@Nat.sub_self
abbrev Nb:=@Go.heap_alloc_new
abbrev Nd:=@Go.results_none
abbrev Nf:=@if_true
abbrev Ng:=@Go.grownCap_le_maxLen
abbrev Nj:=@Go.World.grownBy.refl
abbrev Nk:=@List.getElem?_drop
abbrev No:=@Bool.and_true
abbrev Nu:=@List.getElem?_map
abbrev Nw:=@Go.run_storeCells_cells
abbrev Nx:=@Go.cell_of_row
abbrev Ny:=@Go.World.cell?_alloc_lt
abbrev NC:=@decide_eq_decide
abbrev ND:=@Nat.zero_testBit
abbrev NH:=@List.map_congr_left
abbrev NJ:=@Go.wp_region_any
abbrev NM:=@List.range_succ
abbrev NN:=@Nat.eq_zero_or_pos
abbrev NO:=@Array.ext_getElem?
abbrev NP:=@Array.all_eq_true'
abbrev NQ:=@Go.growslice_fits
abbrev NT:=@Bool.and_false
abbrev NX:=@List.map_toArray
abbrev Ra:=@Go.RowKit.Below.size
abbrev Rb:=@or_false
abbrev Re:=@Go.wpList_plain
abbrev Rf:=@List.map_nil
abbrev Rg:=@Go.size_zeroCells
abbrev Rj:=@Go.Maps.int_keyed
abbrev Rk:=@List.drop_zero
abbrev Rl:=@Go.grownCap_ge
abbrev Rm:=@decide_true
abbrev Ro:=@List.map_drop
abbrev Rp:=@List.map_cons
abbrev Rt:=@Bool.or_true
open Go.RowKit
abbrev OA:=Option Addr
theorem QK (a:Addr) (n:Nat):(a.add n).block=a.block:=by unfold Addr.add;split<;>rfl
theorem JcU (a:Addr) (i j:Nat):(a.add i).add j=a.add (i+j):=by
 unfold Addr.add;by_cases hi:i=0<;>by_cases hj:j=0<;>simp[hi,hj,Nat.add_assoc]
theorem Jd9 (a:Addr):a.add 0=a:=by simp[Addr.add]
def bv (l:List UInt8):List Value:=l.map fun b=>.int .u8 (b.toNat:Int)
theorem Jmw (l:List UInt8):(bv l).length=l.length:=by simp[bv]
theorem JhW (l m:List UInt8):bv (l++m)=bv l++bv m:=by simp[bv]
theorem JiV (l:List UInt8) (k:Nat):bv (l.drop k)=(bv l).drop k:=by simp[bv,Ro]
theorem Jo6 (l:List UInt8) (k:Nat) (h:k < l.length):(bv l)[k]?=some (.int .u8 (l[k].toNat:Int)):=by simp[bv,Nu,Em h]
theorem JkS (b:UInt8):bv [b]=[.int .u8 (b.toNat:Int)]:=rfl
theorem Un (l:List UInt8):∀u∈bv l,u.oneCell'=true:=by
 intro u hu;simp only[bv,Gp] at hu;obtain⟨b,_,rfl⟩:=hu;rfl
structure Rd (w:World) (B size:Nat) (A:OA) (n c:Nat) (xs:List Value):Prop where
 len:xs.length=n * size
 cap:n<=c
 max:c<=maxLen
 nil:A=none->c=0
 at0:0 < n->∃ad,A=some ad/\ad.block < B/\∀j u,xs[j]?=some u->w.cell? (ad.add j)=some u
section
variable {w w':World} {B B' size n c:Nat} {A:OA} {xs:List Value}
theorem Rd.none_:Rd w B size none 0 0 []:=⟨by simp,Ek _,by simp[maxLen],fun _=>rfl,fun h=>absurd h (by omega)⟩
theorem Rd.at_ {k:Nat} (h:Rd w B 1 A n c xs) (hk:k < n):∃ad u,A=some ad/\ad.block < B/\xs[k]?=some u/\w.cell? (ad.add k)=some u:=by
 obtain⟨ad,e,hb,hc⟩:=h.at0 (by omega);have hl:k < xs.length:=by have:=h.len;omega
 exact⟨ad,xs[k],e,hb,Em hl,hc k _ (Em hl)⟩
theorem Rd.keep (h:Rd w B size A n c xs) (hk:∀p:Addr,p.block < B->w'.cell? p=w.cell? p):Rd w' B size A n c xs:=
 ⟨h.len,h.cap,h.max,h.nil,fun hn=>by
  obtain⟨ad,e,hb,hc⟩:=h.at0 hn;exact⟨ad,e,hb,fun j u hu=>(hk _ (by rw[QK];exact hb)).trans (hc j u hu)⟩⟩
theorem Rd.more (h:Rd w B size A n c xs) (hB:B<=B'):Rd w B' size A n c xs:=
 ⟨h.len,h.cap,h.max,h.nil,fun hn=>by
  obtain⟨ad,e,hb,hc⟩:=h.at0 hn;exact⟨ad,e,by omega,hc⟩⟩
theorem Rd.below (h:Rd w B size A n c xs) (hb:Below B w w'):Rd w' B size A n c xs:=h.keep fun _ hp=>hb.cell hp
theorem Rd.drew (h:Rd w B size A n c xs):Rd w.drew B size A n c xs:=⟨h.len,h.cap,h.max,h.nil,h.at0⟩
theorem Rd.drewN (h:Rd w B size A n c xs) (k:Nat):Rd (w.drewN k) B size A n c xs:=⟨h.len,h.cap,h.max,h.nil,h.at0⟩
theorem Rd.alloc (h:Rd w B size A n c xs) (hB:B<=w.heap.size) (o:Obj):Rd (w.alloc o) B size A n c xs:=h.keep fun p hp=>Ny w o p (by omega)
theorem Rd.of_own {base:Nat} {e:TypeId} (h:w.ownsRow base e size (.slice A n c) n xs):Rd w w.heap.size size A n c xs:=by
 refine⟨h.1,?_,?_,?_,fun hn=>?_⟩
 ·rcases h.2 with ⟨hv,h0⟩ | ⟨g,cap,cur,hv,_,_,h1,_⟩
  ·omega
  ·injection hv with _ _ hc;omega
 ·rcases h.2 with ⟨hv,h0⟩ | ⟨g,cap,cur,hv,_,_,h1,h2,_⟩
  ·injection hv with _ _ hc;subst hc;simp[maxLen]
  ·injection hv with _ _ hc;omega
 ·rintro rfl;rcases h.2 with ⟨hv,h0⟩ | ⟨g,cap,cur,hv,_,_,h1,h2,_⟩
  ·injection hv
  ·injection hv with hA;cases hA
 ·obtain⟨g,cap,hv,_,hlt⟩:=h.form hn;have hA:A=some ⟨g,0,none⟩:=by injection hv
  subst hA;exact⟨_,rfl,hlt,h.cells (g:=g) rfl⟩
end
theorem Rd.go {w w':World} {size n c:Nat} {A:OA} {xs:List Value} (h:Rd w w.heap.size size A n c xs) (hb:Below w.heap.size w w'):Rd w' w'.heap.size size A n c xs:=(h.below hb).more hb.size
theorem Qg {B:Nat} {a b c:World} (h:Below B a b) (hB:B<=a.heap.size) (k:Below b.heap.size b c):Below B a c:=h.trans (k.mono (EY hB h.size))
theorem Ja {p:Prop} (h:p):RowKit.Hid p:=Lib.hid h
theorem Zl {a:Nat}:a<=a:=Ek a
theorem Zr {B:Nat} {w:World}:Below B w w:=Ec B w
abbrev Bz (a b:World):Prop:=Below a.heap.size a b
theorem Jg {a b c:World} {B:Nat} (h:Below B a b) (k:Below b.heap.size b c) (hB:B<=a.heap.size:=by exact Ek _):Below B a c:=Qg h hB k
theorem Jq {α:Type} (l:List α) (i:Nat) (a:α):l.toArray.setIfInBounds i a=(l.set i a).toArray:=by simp
theorem Jo {α:Type} (a b:α) (l:List α):(a::l).set 0 b=b::l:=rfl
theorem Jp {α:Type} (a b:α) (l:List α) (n:Nat):(a::l).set (n+1) b=a::l.set n b:=rfl
theorem Jd {P:Program} {f:FuncId} {a:Array Value} {w:World} {v:Ending} {R:World->Prop} {Q:Ending->World->Prop} (h:Calls P f a w fun e w'=>e=v/\R w') (k:∀w',R w'->Q v w'):Calls P f a w Q:=h.mono fun _ w' g=>g.1 ▸ k w' g.2
theorem Qt {P:Program} {f:FuncId} {a:Array Value} {w w1:World} {v:Ending} {Q:Ending->World->Prop} (h:Calls P f a w fun e w'=>e=v/\Below w.heap.size w w') (k1:Below w1.heap.size w1 w) (k:∀w',Below w1.heap.size w1 w'->Q v w'):Calls P f a w Q:=Jd h fun w' g=>k w' (Jg k1 g)
theorem Jj {P:Program} {f:FuncId} {a:Array Value} {w w1 w2:World} {v:Ending} {Q:Ending->World->Prop} (h:Calls P f a w fun e w'=>e=v/\Below w.heap.size w w') (k1:Below w1.heap.size w1 w) (k2:Below w2.heap.size w2 w) (k:∀w',Below w1.heap.size w1 w'->Below w2.heap.size w2 w'->Q v w'):Calls P f a w Q:=Jd h fun w' g=>k w' (Jg k1 g) (Jg k2 g)
theorem Xi {w:World} {base:Nat} {e:TypeId} {size n:Nat} {v:Value} {xs:List Value} (h:w.ownsRow base e size v n xs):
  ∃A c,v=.slice A n c/\(A=none->n=0/\c=0)/\(∀a,A=some a->∃g,a=⟨g,0,none⟩/\base<=g/\g < w.heap.size):=by
 rcases h.2 with ⟨rfl,rfl⟩ | ⟨g,cap,cur,rfl,hb,hh,hn,hm,hs,ht⟩
 ·exact⟨none,0,rfl,fun _=>⟨rfl,rfl⟩,fun a ha=>by cases ha⟩
 ·exact⟨some ⟨g,0,none⟩,cap,rfl,(fun h=>by cases h),fun a ha=>⟨g,by injection ha with ha;exact ha.symm,hb,(EA.1 hh).1⟩⟩
theorem QT (w:World) (e:TypeId) (size:Nat):(w.alloc (.cells #[] e)).ownsRow w.heap.size e size (.slice (some ⟨w.heap.size,0,none⟩) 0 0) 0 []:=
 World.ownsRow_made w #[] 0 (Ek _) (by simp[maxLen]) (by simp)
theorem Jf {w w':World} {base B:Nat} {e:TypeId} {size n:Nat} {v:Value} {xs:List Value} (h:w.ownsRow base e size v n xs) (hb:Below B w w') (hB:w.heap.size<=B):w'.ownsRow base e size v n xs:=by
 refine⟨h.1,?_⟩;rcases h.2 with h2 | ⟨g,cap,cur,rfl,hbg,hh,rest⟩
 ·exact .inl h2
 ·exact .inr ⟨g,cap,cur,rfl,hbg,by rw[hb.block g (by have:=(EA.1 hh).1;omega)];exact hh,rest⟩
theorem Jk {w:World} {base base':Nat} {e:TypeId} {size n:Nat} {v:Value} {xs:List Value} (h:w.ownsRow base e size v n xs) (hb:base'<=base):w.ownsRow base' e size v n xs:=by
 refine⟨h.1,?_⟩;rcases h.2 with h2 | ⟨g,cap,cur,rfl,hbg,rest⟩
 ·exact .inl h2
 ·exact .inr ⟨g,cap,cur,rfl,by omega,rest⟩
theorem Ks {w:World} {base:Nat} {e:TypeId} {size n:Nat} {v:Value} {xs:List Value} (h:w.ownsRow base e size v n xs) (k:Nat):(w.drewN k).ownsRow base e size v n xs:=h
theorem Jr {B:Nat} {a w:World} (h:Below B a w) (n:Nat):Below B a (w.drewN n):=⟨h.os,h.tape,h.output,h.size,h.block⟩
def Qu (size:Nat) (A:OA) (c k:Nat):OA:=if c=k then A else A.map (·.add (k * size))
section
variable {w:World} {B size n c:Nat} {A:OA} {xs:List Value}
theorem Rd.cut (h:Rd w B size A n c xs) {k m:Nat} (hk:k<=m) (hm:m<=n):Rd w B size (Qu size A c k) (m - k) (c - k) ((xs.drop (k * size)).take ((m - k) * size)):=by
 have hc:=h.cap;refine⟨?_,by omega,by have:=h.max;omega,?_,fun hn=>?_⟩
 ·rw[Et,EP,h.len,<-Ft];exact FK (Ff _ (by omega))
 ·intro hA;unfold Qu at hA
  split at hA
  ·omega
  ·have:=h.nil (by simpa using hA);omega
 ·obtain⟨ad,rfl,hb,hcell⟩:=h.at0 (by omega);refine⟨ad.add (k * size),by unfold Qu;rw[Ef (by omega)];rfl,by rw[QK];exact hb,fun j u hu=>?_⟩;rw[JcU];rw[Fx] at hu
  split at hu
  ·exact hcell _ u (by rw[<-hu,Nk])
  ·cases hu
theorem Rd.from_ (h:Rd w B size A n c xs) {k:Nat} (hk:k<=n):Rd w B size (Qu size A c k) (n - k) (c - k) (xs.drop (k * size)):=by
 have:=h.cut hk (Ek n)
 rwa [Eo (by rw[EP,h.len,<-Ft];exact Ek _)] at this
end
section
variable {P:Program}
theorem JmO (W:World) (t e:TypeId) (size:Nat) (ht:P.underlying t=some (.slice e)) (hs:∀w,(Go.sizeOf e).run P w=.ok size w) (A:OA) (n c:Nat) (kl kh:IntKind) (lo hi:Int) (k m:Nat) (el:lo=k) (eh:hi=m) (h1:k<=m) (h2:m<=c):
  (Instr.slice t (.slice A n c) (some (.int kl lo)) (some (.int kh hi)) none).run P W=.ok (.slice (Qu size A c k) (m - k) (c - k)) W:=by
 subst el eh;have b1:(Instr.sliceBound (.int kh m) c .sliceAcap).run P W=.ok m W:=by
  rw[Go.run_sliceBound W kh m c _ (by omega) (by omega)];simp
 have b2:(Instr.sliceBound (.int kl k) m .sliceB).run P W=.ok k W:=by
  rw[Go.run_sliceBound W kl k m _ (by omega) (by omega)];simp
 simp[Instr.slice,FR ht,Instr.sliceBounds,b1,b2,hs,Qu]
theorem JaM (W:World) (t e:TypeId) (size:Nat) (ht:P.underlying t=some (.slice e)) (hs:∀w,(Go.sizeOf e).run P w=.ok size w) (A:OA) (n c:Nat) (kh:IntKind) (hi:Int) (m:Nat) (eh:hi=m) (h2:m<=c):
  (Instr.slice t (.slice A n c) none (some (.int kh hi)) none).run P W=.ok (.slice A m c) W:=by
 subst eh;have b1:(Instr.sliceBound (.int kh m) c .sliceAcap).run P W=.ok m W:=by
  rw[Go.run_sliceBound W kh m c _ (by omega) (by omega)];simp
 simp[Instr.slice,FR ht,Instr.sliceBounds,b1,hs];intro _;cases A<;>simp[Jd9]
theorem Yh (W:World) (t e:TypeId) (size:Nat) (ht:P.underlying t=some (.slice e)) (hs:∀w,(Go.sizeOf e).run P w=.ok size w) (A:OA) (n c:Nat) (kl:IntKind) (lo:Int) (k:Nat) (el:lo=k) (h1:k<=n):
  (Instr.slice t (.slice A n c) (some (.int kl lo)) none none).run P W=.ok (.slice (Qu size A c k) (n - k) (c - k)) W:=by
 subst el;have b2:(Instr.sliceBound (.int kl k) n .sliceB).run P W=.ok k W:=by
  rw[Go.run_sliceBound W kl k n _ (by omega) (by omega)];simp
 simp[Instr.slice,FR ht,Instr.sliceBounds,b2,hs,Qu]
end
theorem Rd.new (w:World) (t:TypeId) (size n:Nat) (cs:Array Value) (hn:cs.size=n * size) (hm:n<=maxLen):Rd (w.alloc (.cells cs t)) (w.heap.size+1) size (some ⟨w.heap.size,0,none⟩) n n cs.toList:=by
 refine⟨by simpa using hn,Ek _,hm,(fun h=>by cases h),fun _=>⟨_,rfl,by simp,fun j u hu=>?_⟩⟩;have hadd:(⟨w.heap.size,0,none⟩:Addr).add j=⟨w.heap.size,j,none⟩:=by unfold Addr.add;split<;>simp_all
 rw[hadd,Nx _ w.heap.size j cs t (0,0) (Nb w _)];simpa using hu
theorem Jb {B:Nat} {w w':World} {row:Option Nat} (hg:w.grownBy w' row) (hB:B<=w.heap.size) (hr:∀k,row=some k->B<=k):Below B w w':=(Ec _ _).grown hg hB hr
theorem JM {w:World} {base:Nat} {e:TypeId} {size n:Nat} {v:Value} {xs:List Value} (h:w.ownsRow base e size v n xs):∀k,v.ownBlock=some k->base<=k:=fun k hk=>(h.lt k hk).1
section
variable {P:Program} (w:World)
theorem JaE (base:Nat) (t ty e:TypeId) (i:TypeInfo) (size:Nat) (ht:P.underlying t=some (.slice e)) (hi:P.info? e=some i)
  (v:Value) (n:Nat) (xs:List Value) (hown:w.ownsRow base e size v n xs) (c:Nat):(Builtin.append_ #[t,t] ty #[v,.slice none 0 c]).run P w=.ok v w:=by
 rcases hown.2 with ⟨rfl,rfl⟩ | ⟨g,cap,cur,rfl,_,_,hnc,_⟩
 ·simp[Builtin.append_,FR ht,sizeOf,typeInfo,hi,Builtin.lenOf,Builtin.firstCells]
 ·simp[Builtin.append_,FR ht,sizeOf,typeInfo,hi,Builtin.lenOf,Builtin.firstCells,hnc,storeCells]
theorem JdA (base:Nat) (t ty e:TypeId) (i:TypeInfo) (z:Value) (size bytes:Nat) (ht:P.underlying t=some (.slice e)) (hi:P.info? e=some i) (hz:i.zero=some z)
  (hsize:i.size=size) (hby:i.bytes=bytes) (hzs:z.cells.size=size) (hsz:0 < size)
  (v:Value) (n:Nat) (xs:List Value) (hown:w.ownsRow base e size v n xs)
  (B:Nat) (A:OA) (m c:Nat) (news:List Value) (hr:Rd w B size A m c news) (h1:∀u∈news,u.oneCell'=true)
  (h63:n+m<=maxLen) (hbytes:(n+m) * bytes<=140737488355328) (hbase:base<=w.heap.size):
  ∃A' c' w',(Builtin.append_ #[t,t] ty #[v,.slice A m c]).run P w=.ok (.slice A' (n+m) c') w'/\w'.ownsRow base e size (.slice A' (n+m) c') (n+m) (xs++news)/\w.grownBy w' v.ownBlock /\
   ((Value.slice A' (n+m) c').ownBlock=v.ownBlock\/(Value.slice A' (n+m) c').ownBlock=some w.heap.size):=by
 rcases A with _ | ad
 ·have hc0:=hr.nil rfl;have hm:m=0:=by have:=hr.cap;omega
  subst hm;have hn:news=[]:=Ey (by simpa using hr.len);subst hn;obtain⟨A',c',rfl,_⟩:=Xi hown;exact⟨A',c',w,JaE w base t ty e i size ht hi _ n xs hown c,by simpa using hown,Nj w _,.inl rfl⟩
 ·have hcells:∀j u,news[j]?=some u->w.cell? (ad.add j)=some u:=by
   intro j u hu;rcases NN m with h0 | h0
   ·subst h0;have hn:news=[]:=Ey (by simpa using hr.len);subst hn;simp at hu
   ·obtain⟨ad',h,_,hc⟩:=hr.at0 h0;injection h with h;subst h;exact hc j u hu
  obtain⟨v',w',hrun,h2,h3,_,h5⟩:=run_append_own_at (P:=P) w base t ty e i z size bytes ht hi hz hsize hby hzs hsz v n xs hown ad m c news hr.len hcells h1 h63 hbytes hbase;obtain⟨A',c',rfl,_⟩:=Xi h2;exact⟨A',c',w',hrun,h2,h3,h5⟩
theorem JS {o:Oper} {a:Act} {K:Act->World->Prop} {Q:Exit->Act->World->Prop} (s x:Operand) (t:TypeId)
  (ho:o.op=.call { callee:=.builtin .append,args:=#[s,x],argTypes:=#[t,t] })
  (base:Nat) (e:TypeId) (i:TypeInfo) (z:Value) (size bytes:Nat) (ht:P.underlying t=some (.slice e)) (hi:P.info? e=some i) (hz:i.zero=some z)
  (hsize:i.size=size) (hby:i.bytes=bytes) (hzs:z.cells.size=size) (hsz:0 < size)
  (v:Value) (n:Nat) (xs:List Value) (hs:a.eval s=v) (hown:w.ownsRow base e size v n xs)
  (B:Nat) (A:OA) (m c:Nat) (news:List Value) (hx:a.eval x=.slice A m c) (hr:Rd w B size A m c news) (h1:∀u∈news,u.oneCell'=true)
  (h63:n+m<=maxLen) (hbytes:(n+m) * bytes<=140737488355328) (hbase:base<=w.heap.size)
  (h:∀A' c' w',w'.ownsRow base e size (.slice A' (n+m) c') (n+m) (xs++news)->w.grownBy w' v.ownBlock->((Value.slice A' (n+m) c').ownBlock=v.ownBlock\/(Value.slice A' (n+m) c').ownBlock=some w.heap.size)->K (a.put o.dst (.slice A' (n+m) c')) w'):o.wp P a w K Q:=by
 obtain⟨A',c',w',hrun,h2,h3,h4⟩:=JdA (P:=P) w base t o.type e i z size bytes ht hi hz hsize hby hzs hsz v n xs hown B A m c news hr h1 h63 hbytes hbase;unfold Oper.wp execOp;simp only[ho,resolve,invoke,builtin,Sem.run_bind,Sem.run_pure,Result.andThen_ok,NX,Rp,Rf,hs,hx,hrun];exact h A' c' w' h2 h3 h4
theorem Jh {ops:Array Oper} {rest:List Oper} {o:Oper} {a:Act} {Q:Exit->Act->World->Prop} (hgd:o.guard=none) (s x:Operand) (t:TypeId)
  (ho:o.op=.call { callee:=.builtin .append,args:=#[s,x],argTypes:=#[t,t] })
  (base:Nat) (e:TypeId) (i:TypeInfo) (z:Value) (size bytes:Nat) (ht:P.underlying t=some (.slice e)) (hi:P.info? e=some i) (hz:i.zero=some z)
  (hsize:i.size=size) (hby:i.bytes=bytes) (hzs:z.cells.size=size) (hsz:0 < size)
  (v:Value) (n:Nat) (xs:List Value) (hs:a.eval s=v) (hown:w.ownsRow base e size v n xs)
  (B:Nat) (A:OA) (m c:Nat) (news:List Value) (hx:a.eval x=.slice A m c) (hr:Rd w B size A m c news) (h1:∀u∈news,u.oneCell'=true)
  (h63:n+m<=maxLen) (hbytes:(n+m) * bytes<=140737488355328) (hbase:base<=w.heap.size)
  (h:∀A' c' w',w'.ownsRow base e size (.slice A' (n+m) c') (n+m) (xs++news)->w.grownBy w' v.ownBlock->((Value.slice A' (n+m) c').ownBlock=v.ownBlock\/(Value.slice A' (n+m) c').ownBlock=some w.heap.size)->wpList P ops Q rest (a.put o.dst (.slice A' (n+m) c')) w'):wpList P ops Q (o :: rest) a w:=
 Re hgd fun _ hK=>JS w s x t ho base e i z size bytes ht hi hz hsize hby hzs hsz v n xs hs hown B A m c news hx hr h1 h63 hbytes hbase fun A' c' w' h2 h3 h4=>hK _ _ (h A' c' w' h2 h3 h4)
end
def QQ (K:Act->World->Prop):Exit->Act->World->Prop
 | .normal,a,w=>K a w
 | _,_,_=>False
theorem QQ.out {K:Act->World->Prop} {a:Act} {w:World} (h:K a w):QQ K .normal a w:=h
theorem Jl {P:Program} {id:Nat} {ops:Array Oper} {d:Bool} {Q:Exit->Act->World->Prop} {a:Act} {w:World}
  (h:∀K:Act->World->Prop,(∀a w,Q .normal a w->K a w)->(Code.region id ops d).wp P (QQ K) a w):(Code.region id ops d).wp P Q a w:=
 by
 refine Code.wp_mono (Q:=QQ fun a w=>Q .normal a w) (fun e a w hh=>?_) (h (fun a w=>Q .normal a w) fun _ _ hh=>hh)
 cases e with
 | normal=>exact hh
 | _=>exact False.elim hh
end Go.Proofs.YtmbeahbgafkjfaaGreatDoor
