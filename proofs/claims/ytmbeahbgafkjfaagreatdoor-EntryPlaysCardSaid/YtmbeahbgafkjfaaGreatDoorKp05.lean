/- Lemmas, layer 5. -/
import Derived.Deep.Fields
import Derived.Test.YtmbeahbgafkjfaaGreatDoorKp04
set_option linter.unusedSimpArgs false
namespace Go.Proofs.YtmbeahbgafkjfaaGreatDoor
open Go.ChangeShapes Go.WideShapes Go.ChangeAt Go.RowKit Go.Deep
theorem Xw {α:Type} (f:α->List Value) (size:Nat):∀(xs:List α),(∀x∈xs,(f x).length=size)->(xs.flatMap f).length=xs.length * size
 | [],_=>by simp
 | x :: r,h=>by
  rw[Gu,Eb,h x (by simp),Xw f size r fun y hy=>h y (by simp[hy]),List.length_cons,Gq];omega
theorem ZZ {α:Type} (f:α->List Value) (size:Nat) (hs:0 < size):∀(xs:List α),(∀x∈xs,(f x).length=size)->∀(i:Nat) (hi:i < xs.length) (j:Nat),j < size->(xs.flatMap f)[i * size+j]?=(f xs[i])[j]?
 | [],_,i,hi,_,_=>by simp at hi
 | x :: r,h,0,_,j,hj=>by
  have hx:=h x (by simp);rw[Gu,NE,EU,List.getElem?_append_left (by omega)];rfl
 | x :: r,h,i+1,hi,j,hj=>by
  have hx:=h x (by simp);rw[Gu,List.getElem?_append_right (by rw[hx,Gq];omega),hx,show (i+1) * size+j - size=i * size+j by rw[Gq];omega];rw[ZZ f size hs r (fun y hy=>h y (by simp[hy])) i (by simpa using hi) j hj];rfl
section
variable {H:Type} {enc:TypeId×Value->H} {P:Program} {W:World}
def Oy:DataW H->List (DataW H)
 | .slice e _=>e
 | _=>[]
def JR (enc:TypeId×Value->H) (P:Program) (W:World) (t:TypeId) {α:Type} (f:α->List Value) (good:α->DataW H->Prop):Prop:=
 ∀fuel cs y,DataW.trod enc P W 0 (fun _=>true) true fuel t cs=some y->∃x:α,cs=f x/\good x y.1
theorem JR.int {t:TypeId} {k:IntKind} (ht:P.underlying t=some (.int k)):JR enc P W t (fun z:Int=>[.int k z]) (fun z _=>(Lit.int k z).wf=true):=by
 intro fuel cs y h;obtain⟨n,rfl,_,hw⟩:=DataW.trod_int ht h;exact⟨n,rfl,hw⟩
theorem JR.bool {t:TypeId} (ht:P.underlying t=some .bool):JR enc P W t (fun z:Bool=>[.bool z]) (fun _ _=>True):=by
 intro fuel cs y h;obtain⟨n,rfl,_⟩:=DataW.trod_bool ht h;exact⟨n,rfl,trivial⟩
theorem JR.map {t:TypeId} {α β:Type} {f:α->List Value} {g:α->DataW H->Prop} (e:α->β) (f':β->List Value) (g':β->DataW H->Prop) (h:JR enc P W t f g) (hf:∀x,f x=f' (e x)) (hg:∀x d,g x d->g' (e x) d):JR enc P W t f' g':=by
 intro fuel cs y hy;obtain⟨x,rfl,hx⟩:=h fuel cs y hy;exact⟨e x,hf x,hg x _ hx⟩
structure Sl (α:Type) where
 A:OA
 n:Nat
 c:Nat
 xs:List α
def slv {α:Type} (s:Sl α):List Value:=[.slice s.A s.n s.c]
structure Jdd {α:Type} (W:World) (size:Nat) (f:α->List Value) (g:α->DataW H->Prop) (s:Sl α) (d:DataW H):Prop where
 len:s.xs.length=s.n
 cap:s.c=KH d
 rd:Rd W W.heap.size size s.A s.n s.c (s.xs.flatMap f)
 el:∀x∈s.xs,∃d'∈Oy d,g x d'
theorem JR.slice {t e:TypeId} {size:Nat} {α:Type} {f:α->List Value} {g:α->DataW H->Prop} (ht:P.underlying t=some (.slice e)) (hC:P.cellsOf e=size) (hs:0 < size) (he:JR enc P W e f g):
  JR enc P W t slv (Jdd W size f g):=by
 intro fuel cs y h;rcases open_slice ht h with ⟨rfl,rfl⟩ | ⟨a,len,cap,m,n,D,Pl,rfl,_,hl,hm,hmm,rfl,hi⟩
 ·exact⟨⟨none,0,0,[]⟩,rfl,rfl,rfl,Rd.none_,by simp⟩
 ·simp only[Nf] at hmm;subst hmm;rw[hC] at hi;have hx:∀k,k<=len->∃xs:List α,xs.length=k/\∀i (hk:i < xs.length),∃cs',W.cells? 0 (a.add (i * size)) size=some cs'/\cs'=f xs[i]/\g xs[i] (D i):=by
   intro k
   induction k with
   | zero=>exact fun _=>⟨[],rfl,fun i hi=>by simp at hi⟩
   | succ k ih=>
    intro hk;obtain⟨xs,hxl,hxs⟩:=ih (by omega);obtain⟨cs',hc,hT⟩:=hi k (by omega);obtain⟨x,hfx,hgx⟩:=he _ _ _ hT;refine⟨xs++[x],by simp[hxl],fun i hik=>?_⟩;by_cases hlt:i < xs.length
    ·rw[List.getElem_append_left hlt];exact hxs i hlt
    ·obtain rfl:i=xs.length:=by simp at hik;omega
     rw[FO Zl];simp only[GT,List.getElem_cons_zero];rw[hxl];exact⟨cs',hc,hfx,hgx⟩
  obtain⟨xs,hxl,hxs⟩:=hx len Zl;have hfl:∀x∈xs,(f x).length=size:=by
   intro x hx;obtain⟨i,hi',rfl⟩:=Na hx;obtain⟨cs',hc,rfl,_⟩:=hxs i hi';exact(World.cells?_some hc).2.1
  refine⟨⟨some a,len,m,xs⟩,rfl,hxl,by simp[KH];omega,⟨by rw[Xw f size xs hfl,hxl],hl,hm,(fun h=>by cases h),fun hn=>⟨a,rfl,?_,?_⟩⟩,?_⟩
  ·have hn':0 < len:=hn;obtain⟨cs',hc,hf,_⟩:=hxs 0 (by omega);obtain⟨_,hcl,hat⟩:=World.cells?_some hc;have h0:=hat 0 hs;rw[Em (by omega)] at h0;have:=Ep _ _ h0
   rwa [QK,QK] at this
  ·intro j u hj;have hjl:j < xs.length * size:=by
    rw[<-Xw f size xs hfl];rcases FI j (xs.flatMap f).length with h | h
    ·exact h
    ·rw[Fy h] at hj;cases hj
   have hq:j / size < xs.length:=Nat.div_lt_of_lt_mul (by rwa [Nat.mul_comm]);have hr:j % size < size:=Ri _ hs;obtain⟨cs',hc,hf,_⟩:=hxs (j / size) hq;have h0:=(World.cells?_some hc).2.2 (j % size) hr;have e:j / size * size+j % size=j:=by rw[Nat.mul_comm];exact Nat.div_add_mod j size
   rw[JcU,e,hf,<-ZZ f size hs xs hfl (j / size) hq (j % size) hr,e,hj] at h0;exact h0
  ·intro x hx;have hx:x∈xs:=hx;obtain⟨i,hi',rfl⟩:=Na hx;obtain⟨cs',hc,_,hgx⟩:=hxs i hi';exact⟨D i,Gp.2 ⟨i,by rw[List.mem_range];omega,rfl⟩,hgx⟩
def Jw (enc:TypeId×Value->H) (P:Program) (W:World) (tot:Nat) (fs:List Field) (off:Nat) {α:Type} (f:α->List Value) (good:α->List (DataW H)->Prop):Prop:=
 ∀n (cs:List Value) (ys:List (DataW H×List MemPlace)),cs.length=tot->ys.length=fs.length->(∀(i:Nat) (fd:Field),fs[i]?=some fd->DataW.trod enc P W 0 (fun _=>true) true n fd.type ((cs.drop fd.offset).take (P.cellsOf fd.type))=ys[i]?) ->
  ∃x:α,cs.drop off=f x/\good x (ys.map (·.1))
theorem Jw.nil {tot:Nat}:Jw enc P W tot [] tot (fun _:Unit=>[]) (fun _ ds=>ds=[]):=by
 intro n cs ys hc hy hT;exact⟨(),by rw[Ed (by omega)],by rw[Ey hy];rfl⟩
theorem Jw.cons {tot off s:Nat} {fd:Field} {fs:List Field} {α β:Type} {f:α->List Value} {g:α->DataW H->Prop} {f':β->List Value} {g':β->List (DataW H)->Prop} (ho:fd.offset=off) (hs:P.cellsOf fd.type=s)
  (h:JR enc P W fd.type f g) (hr:Jw enc P W tot fs (off+s) f' g'):Jw enc P W tot (fd :: fs) off (fun x:α×β=>f x.1++f' x.2) (fun x ds=>∃d ds',ds=d :: ds'/\g x.1 d/\g' x.2 ds'):=by
 intro n cs ys hc hy hT
 match ys,hy with
 | y :: ys,hy=>
  have h0:=hT 0 fd rfl;rw[ho,hs] at h0;obtain⟨x,hx,hg⟩:=h _ _ _ h0;obtain⟨x',hx',hg'⟩:=hr n cs ys hc (by simpa using hy) fun i fd' hi=>hT (i+1) fd' hi;refine⟨(x,x'),?_,y.1,ys.map (·.1),rfl,hg,hg'⟩;show _=f x++f' x';rw[<-hx',<-hx,<-List.drop_drop,EZ]
theorem JR.struct {t:TypeId} {tot:Nat} {fs:Array Field} {α:Type} {f:α->List Value} {g:α->List (DataW H)->Prop} (ht:P.underlying t=some (.struct fs)) (hC:P.cellsOf t=tot) (h:Jw enc P W tot fs.toList 0 f g):
  JR enc P W t f (fun x d=>∃ds,d=.agg ds/\g x ds):=by
 intro fuel cs y hy;obtain⟨xs,n,_,rfl,hl,hxl,hT⟩:=DataW.trod_struct ht hy;obtain⟨x,hx,hg⟩:=h n cs xs (by rw[hl,hC]) (by simpa using hxl) fun i fd hi=>hT i fd (by simpa using hi);exact⟨x,by simpa using hx,_,rfl,hg⟩
theorem JR.arg_slice {r:Reach} {b0:Nat} {t e:TypeId} {v:Value} {d:DataW H} {p:List MemPlace} {α:Type} {g:Sl α->DataW H->Prop} (h:JR enc P W t slv g) (ht:P.underlying t=some (.slice e))
  (hv:Value.okWide P W r b0 t v) (hT:DataW.Trod enc P W 0 (fun _=>true) true t v d p):∃s:Sl α,v=.slice s.A s.n s.c/\g s d:=by
 obtain⟨A,n,c,rfl⟩:=okWide_slice ht hv;obtain⟨fuel,hf⟩:=hT;obtain⟨s,hs,hg⟩:=h _ _ _ hf;refine⟨s,?_,hg⟩;simp only[Value.cells,slv] at hs;injection hs
theorem JR.arg_agg {r:Reach} {b0:Nat} {t:TypeId} {fs:Array Field} {v:Value} {d:DataW H} {p:List MemPlace} {α:Type} {f:α->List Value} {g:α->DataW H->Prop} (h:JR enc P W t f g) (ht:P.underlying t=some (.struct fs))
  (hv:Value.okWide P W r b0 t v) (hT:DataW.Trod enc P W 0 (fun _=>true) true t v d p):∃x:α,v=.agg (f x).toArray/\g x d:=by
 obtain⟨cs,rfl,_⟩:=okWide_struct ht hv;obtain⟨fuel,hf⟩:=hT;obtain⟨x,hx,hg⟩:=h _ _ _ hf;refine⟨x,?_,hg⟩;simp only[Value.cells] at hx;rw[<-hx]
def KT (P:Program) (t:TypeId) (d:DataW H):Prop:=(d.weights P t).all (·<=reachBytes)=true
theorem KT.arg {ts:List TypeId} {ds:List (DataW H)} (h:(DataW.weightsEach P ts ds).all (·<=reachBytes)=true) {j:Nat} {t:TypeId} {d:DataW H} (ht:ts[j]?=some t) (hd:ds[j]?=some d):KT P t d:=
 Fg.2 fun n hn=>Fg.1 h n (DataW.weights_mem_each ht hd n hn)
theorem JbO {e:TypeId} {d:DataW H}:∀{ds:List (DataW H)},d∈ds->∀n∈d.weights P e,n∈DataW.weightsAll P e ds
 | x :: r,hd,n,hn=>by
  simp only[DataW.weightsAll,EB];rcases EE.1 hd with rfl | hd
  ·exact .inl hn
  ·exact .inr (JbO hd n hn)
theorem KT.slice {t e:TypeId} {d:DataW H} (h:KT P t d) (ht:P.underlying t=some (.slice e)):KH d * P.bytesOf e<=140737488351232/\∀d'∈Oy d,KT P e d':=by
 cases d with
 | slice elems spare=>
  unfold KT at h;simp only[DataW.weights,ht] at h;refine⟨?_,fun d' hd=>Fg.2 fun n hn=>Fg.1 h n (ER _ (Fc _ (JbO hd n hn)))⟩;have:=Fg.1 h _ (EW ..);simpa[KH,reachBytes,Ej] using of_decide_eq_true this
 | _=>exact⟨by simp[KH],by simp[Oy]⟩
theorem KT.agg {t:TypeId} {fs:Array Field} {ds:List (DataW H)} (h:KT P t (.agg ds)) (ht:P.underlying t=some (.struct fs)) {j:Nat} {fd:Field} {d:DataW H} (hj:fs[j]?=some fd) (hd:ds[j]?=some d):KT P fd.type d:=by
 unfold KT at h;simp only[DataW.weights,ht] at h;exact KT.arg h (j:=j) (by simp[hj]) hd
end
end Go.Proofs.YtmbeahbgafkjfaaGreatDoor
