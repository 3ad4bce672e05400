/- Lemmas for the claim, layer 3. -/
import Derived.Test.YtmbeahbgafkjfaaGreatDoorKc01
import Derived.Test.YtmbeahbgafkjfaaGreatDoorKc02
namespace Go.Proofs.YtmbeahbgafkjfaaGreatDoor
abbrev Wr:=Vc.St×Int×Bool
structure Nt where
 s:List Vc.St
 e:List Vc.St
 b:List Sn.Sp
 w:List Wr
def hasO (l:List Sn.Sp) (o:Int):Bool:=(decide (0<=o) && decide (o<=255)) && Sn.inB l o
def wOk (e:List Vc.St) (b:List Sn.Sp) (last:Int) (w:Wr):Bool:=decide (last < w.2.1) && ((decide (0<=w.2.1) && decide (w.2.1<=255)) && (!hasO b w.2.1 && hasB e w.1))
def ntW (e:List Vc.St) (b:List Sn.Sp):Int->List Wr->Bool
 | _,[]=>true
 | last,w :: r=>wOk e b last w && ntW e b w.2.1 r
theorem ntW_drop (e:List Vc.St) (b:List Sn.Sp) (last:Int) (l:List Wr) (k:Nat) (h:k < l.length):ntW e b last (l.drop k)=(wOk e b last l[k] && ntW e b l[k].2.1 (l.drop (k+1))):=by
 rw[List.drop_eq_getElem_cons h,ntW]
def cov2 (u v:List Vc.St):Bool:=covB (Vc.cnt u) (Vc.cnt v)
def ntH (n:Nt):Bool:=fm (-1) n.s && (fm (-1) n.e && (cov2 n.e n.s && Sn.fmS (-2) n.b))
def ntF (n:Nt):Bool:=ntH n && ntW n.e n.b (-1) n.w
def aheadW (l:List Wr) (k:Nat):Int:=if h:k≠0/\k - 1 < l.length then (l[k - 1]'h.2).2.1 else -1
theorem aheadW_next (l:List Wr) (k:Nat) (h:k < l.length):aheadW l (k+1)=l[k].2.1:=by
 unfold aheadW;rw[dif_pos ⟨by omega,by simpa using h⟩];simp
theorem aheadW_zero (l:List Wr):aheadW l 0=-1:=by unfold aheadW;rw[dif_neg (by simp)]
theorem wOk_ref (e:List Vc.St) (b:List Sn.Sp) (last:Int) (w:Wr):wOk e b last w=(hasB e w.1 && ((decide (0<=w.2.1) && decide (w.2.1<=255)) && (!hasO b w.2.1 && decide (last < w.2.1)))):=by
 unfold wOk;cases hasB e w.1<;>cases hasO b w.2.1<;>cases decide (last < w.2.1)<;>simp
def atO (l:List Wr) (o:Int):Option Wr:=l.find? fun w=>decide (w.2.1=o)
def rise:Int->List Wr->Bool
 | _,[]=>true
 | last,w :: r=>decide (last < w.2.1) && rise w.2.1 r
theorem rise_gt:∀(last:Int) (l:List Wr),rise last l=true->∀w∈l,last < w.2.1
 | _,[],_,w,hw=>by cases hw
 | last,x :: r,h,w,hw=>by
  rw[rise,Bool.and_eq_true,decide_eq_true_eq] at h;rcases List.mem_cons.1 hw with rfl | hw
  ·exact h.1
  ·have:=rise_gt _ r h.2 w hw;omega
theorem rise_lt:∀(last:Int) (l:List Wr),rise last l=true->∀i j (hi:i < j) (hj:j < l.length),(l[i]'(by omega)).2.1 < l[j].2.1
 | _,[],_,i,j,_,hj=>by simp at hj
 | last,x :: r,h,0,j+1,_,hj=>by
  rw[rise,Bool.and_eq_true] at h;exact rise_gt _ r h.2 _ (List.getElem_mem _)
 | last,x :: r,h,i+1,j+1,hi,hj=>by
  rw[rise,Bool.and_eq_true] at h;exact rise_lt _ r h.2 i j (by omega) (by simpa using hj)
theorem atO_hit {last:Int} {l:List Wr} (h:rise last l=true) {o:Int} {k:Nat} (hk:k < l.length) (ho:l[k].2.1=o):atO l o=some l[k]:=by
 unfold atO;rw[List.find?_eq_some_iff_getElem];refine⟨by simpa using ho,k,hk,rfl,fun j hj=>?_⟩;have:=rise_lt last l h j k hj hk;simp;omega
theorem atO_miss {l:List Wr} {o:Int} {k:Nat} (h1:∀i (hi:i < l.length),i < k->l[i].2.1 < o) (h2:∀i (hi:i < l.length),k<=i->o < l[i].2.1):atO l o=none:=by
 unfold atO;rw[List.find?_eq_none];intro w hw;obtain⟨i,hi,rfl⟩:=List.getElem_of_mem hw;rcases Nat.lt_or_ge i k with hlt | hge
 ·have:=h1 i hi hlt;simp;omega
 ·have:=h2 i hi hge;simp;omega
theorem atO_drop (l:List Wr) (o:Int) (k:Nat) (h:k < l.length):atO (l.drop k) o=if l[k].2.1=o then some l[k] else atO (l.drop (k+1)) o:=by
 unfold atO;rw[List.drop_eq_getElem_cons h,List.find?_cons];by_cases e:l[k].2.1=o<;>simp[e]
end Go.Proofs.YtmbeahbgafkjfaaGreatDoor
namespace Go.Proofs.YtmbeahbgafkjfaaGreatDoor.Wq
def sw (s:Int×Int):Int×Int:=(s.2,s.1)
theorem sw_sw (v:List (Int×Int)):(v.map sw).map sw=v:=by
 rw[List.map_map];have:sw ∘ sw=id:=by funext s;rfl
 rw[this,List.map_id]
def pV (l:List UInt8):Option (List Vc.St×List UInt8):=match pN l with
 | none=>none
 | some (n,r)=>match pP n r with
  | none=>none
  | some (v,q)=>if fm (-1) (v.map sw)=true then some (v.map sw,q) else none
def lV (v:List Vc.St):List UInt8:=Pk.lay v.length++lP (v.map sw)
theorem fm_u63:∀(last:Int) (v:List Vc.St),fm last v=true->-1<=last->(∀s∈v,0 < s.1/\last < s.2/\s.2 < 64)/\(v.length:Int)<=63 - last\/(v=[])
 | _,[],_,_=>.inr rfl
 | last,s :: r,h,hl=>by
  rw[fm,Bool.and_eq_true,Bool.and_eq_true,decide_eq_true_eq,Vc.right_iff] at h;obtain⟨⟨h1,h2,h3⟩,h4,h5⟩:=h;refine .inl ?_;rcases fm_u63 s.2 r h5 (by omega) with ⟨h6,h7⟩ | rfl
  ·refine⟨fun t ht=>?_,by rw[List.length_cons];omega⟩;rcases List.mem_cons.1 ht with rfl | ht
   ·exact⟨h1,h4,h3⟩
   ·obtain⟨a,b,c⟩:=h6 t ht;exact⟨a,by omega,c⟩
  ·refine⟨fun t ht=>?_,by simp;omega⟩;rw[List.mem_singleton] at ht;subst ht;exact⟨h1,h4,h3⟩
theorem fm_len {v:List Vc.St} (h:fm (-1) v=true):v.length<=64:=by
 rcases fm_u63 (-1) v h (by omega) with ⟨_,h2⟩ | rfl
 ·omega
 ·simp
def cts (v:List Vc.St):Prop:=∀s∈v,s.1 < 9223372036854775808
theorem fm_sw {v:List Vc.St} (h:fm (-1) v=true) (hc:cts v):∀s∈v.map sw,u63 s.1/\u63 s.2:=by
 intro s hs;obtain⟨t,ht,rfl⟩:=List.mem_map.1 hs;rcases fm_u63 (-1) v h (by omega) with ⟨h2,_⟩ | rfl
 ·obtain⟨a,b,c⟩:=h2 t ht;have:=hc t ht;exact⟨⟨by show 0<=t.2;omega,by show t.2 < _;omega⟩,⟨by show 0<=t.1;omega,this⟩⟩
 ·cases ht
theorem pV_lay {v:List Vc.St} (h:fm (-1) v=true) (hc:cts v) (r:List UInt8):pV (lV v++r)=some (v,r):=by
 have:=fm_len h;unfold pV lV;rw[List.append_assoc,pN_lay (by omega)];simp only;have e:=pP_lay (v.map sw) r (fm_sw h hc);rw[List.length_map] at e;rw[e];simp only;rw[sw_sw,if_pos h]
theorem pV_back {l r:List UInt8} {v:List Vc.St} (h:pV l=some (v,r)):l=lV v++r/\fm (-1) v=true/\cts v:=by
 unfold pV at h
 split at h
 ·cases h
 ·rename_i n r1 h1
  split at h
  ·cases h
  ·rename_i v' q h2
   split at h
   ·rename_i hf;simp only[Option.some.injEq,Prod.mk.injEq] at h;obtain⟨rfl,rfl⟩:=h;obtain⟨a1,a2⟩:=pN_back h1;obtain⟨b1,b2,b3⟩:=pP_back _ _ _ _ h2;refine⟨by rw[a1,b1,lV,sw_sw,List.length_map,b2];simp,hf,fun s hs=>?_⟩;obtain⟨t,ht,rfl⟩:=List.mem_map.1 hs;exact(b3 t ht).2.2
   ·cases h
def pW:Nat->List UInt8->Option (List Wr×List UInt8)
 | 0,l=>some ([],l)
 | n+1,l=>match pN l with
  | none=>none
  | some (o,r1)=>match pN r1 with
   | none=>none
   | some (a,r2)=>match pN r2 with
    | none=>none
    | some (b,r3)=>match pN r3 with
     | none=>none
     | some (g,r4)=>if 1 < g then none else match pW n r4 with
      | none=>none
      | some (v,t)=>some ((((b:Int),(a:Int)),(o:Int),decide (g=1)) :: v,t)
def gn (g:Bool):Nat:=if g then 1 else 0
def lW1 (w:Wr):List UInt8:=Pk.lay w.2.1.toNat++(Pk.lay w.1.2.toNat++(Pk.lay w.1.1.toNat++Pk.lay (gn w.2.2)))
def lW (v:List Wr):List UInt8:=v.flatMap lW1
theorem lW_cons (w:Wr) (v:List Wr):lW (w :: v)=lW1 w++lW v:=by simp[lW]
def wU (w:Wr):Prop:=u63 w.2.1/\u63 w.1.2/\u63 w.1.1
theorem pW_back:∀(n:Nat) (l:List UInt8) (v:List Wr) (r:List UInt8),pW n l=some (v,r)->l=lW v++r/\v.length=n/\∀w∈v,wU w
 | 0,l,v,r,h=>by
  simp only[pW,Option.some.injEq,Prod.mk.injEq] at h;obtain⟨rfl,rfl⟩:=h;exact⟨rfl,rfl,fun s hs=>by cases hs⟩
 | n+1,l,v,r,h=>by
  rw[pW] at h
  split at h
  ·cases h
  ·rename_i o r1 h1
   split at h
   ·cases h
   ·rename_i a r2 h2
    split at h
    ·cases h
    ·rename_i b r3 h3
     split at h
     ·cases h
     ·rename_i g r4 h4
      split at h
      ·cases h
      ·rename_i hg
       split at h
       ·cases h
       ·rename_i v' t h5;simp only[Option.some.injEq,Prod.mk.injEq] at h;obtain⟨rfl,rfl⟩:=h;obtain⟨a1,a2,a3⟩:=pW_back n r4 v' t h5;obtain⟨b1,b2⟩:=pN_back h1;obtain⟨c1,c2⟩:=pN_back h2;obtain⟨d1,d2⟩:=pN_back h3;obtain⟨e1,e2⟩:=pN_back h4;have hgg:gn (decide (g=1))=g:=by
         rcases Nat.lt_or_ge g 1 with h | h
         ·obtain rfl:g=0:=by omega
          rfl
         ·obtain rfl:g=1:=by omega
          rfl
        refine⟨?_,by simp[a2],fun s hs=>?_⟩
        ·rw[b1,c1,d1,e1,a1,lW_cons,lW1];simp only[hgg];simp
        ·rcases List.mem_cons.1 hs with rfl | hs
         ·exact⟨⟨by simp only;omega,by simp only;omega⟩,⟨by simp only;omega,by simp only;omega⟩,⟨by simp only;omega,by simp only;omega⟩⟩
         ·exact a3 s hs
def pNt (l:List UInt8):Option (Nt×List UInt8):=match pV l with
 | none=>none
 | some (s,r1)=>match pV r1 with
  | none=>none
  | some (e,r2)=>match pS r2 with
   | none=>none
   | some (b,r3)=>match pN r3 with
    | none=>none
    | some (n,r4)=>match pW n r4 with
     | none=>none
     | some (w,r5)=>if ntF ⟨s,e,b,w⟩=true then some (⟨s,e,b,w⟩,r5) else none
def lNt (x:Nt):List UInt8:=lV x.s++(lV x.e++(lS x.b++(Pk.lay x.w.length++lW x.w)))
theorem ntF_parts {x:Nt} (h:ntF x=true):fm (-1) x.s=true/\fm (-1) x.e=true/\Sn.fmS (-2) x.b=true/\ntW x.e x.b (-1) x.w=true:=by
 unfold ntF ntH at h;simp only[Bool.and_eq_true] at h;exact⟨h.1.1,h.1.2.1,h.1.2.2.2,h.2⟩
def ntC (x:Nt):Prop:=cts x.s/\cts x.e/\∀w∈x.w,w.1.1 < 9223372036854775808
theorem ntW_all (e:List Vc.St) (b:List Sn.Sp):∀(last:Int) (l:List Wr),ntW e b last l=true->-1<=last->(∀w∈l,0<=w.2.1/\w.2.1<=255/\last < w.2.1/\0 < w.1.1/\0<=w.1.2/\w.1.2 < 64)/\((l.length:Int)<=255 - last\/l=[])
 | _,[],_,_=>⟨(fun w hw=>by cases hw),Or.inr rfl⟩
 | last,w :: r,h,hl=>by
  rw[ntW,Bool.and_eq_true] at h;obtain⟨h1,h2⟩:=h;unfold wOk hasB at h1;simp only[Bool.and_eq_true,decide_eq_true_eq] at h1;obtain⟨a1,⟨a2,a3⟩,_,a5,_⟩:=h1;obtain⟨b1,b2,b3⟩:=(Vc.right_iff _).1 a5;obtain⟨c1,c2⟩:=ntW_all e b w.2.1 r h2 (by omega);refine⟨fun t ht=>?_,.inl ?_⟩
  ·rcases List.mem_cons.1 ht with rfl | ht
   ·exact⟨a2,a3,a1,b1,b2,b3⟩
   ·obtain⟨d1,d2,d3,d4⟩:=c1 t ht;exact⟨d1,d2,by omega,d4⟩
  ·rw[List.length_cons];rcases c2 with c2 | rfl
   ·omega
   ·simp;omega
theorem ntW_len {e:List Vc.St} {b:List Sn.Sp} {l:List Wr} (h:ntW e b (-1) l=true):l.length<=256:=by
 rcases(ntW_all e b (-1) l h (by omega)).2 with h2 | rfl
 ·omega
 ·simp
theorem pNt_back {l r:List UInt8} {x:Nt} (h:pNt l=some (x,r)):l=lNt x++r/\ntF x=true/\ntC x:=by
 unfold pNt at h
 split at h
 ·cases h
 ·rename_i s r1 h1
  split at h
  ·cases h
  ·rename_i e r2 h2
   split at h
   ·cases h
   ·rename_i b r3 h3
    split at h
    ·cases h
    ·rename_i n r4 h4
     split at h
     ·cases h
     ·rename_i w r5 h5
      split at h
      ·rename_i hf;simp only[Option.some.injEq,Prod.mk.injEq] at h;obtain⟨rfl,rfl⟩:=h;obtain⟨a1,a2,a3⟩:=pV_back h1;obtain⟨b1,b2,b3⟩:=pV_back h2;obtain⟨c1,c2⟩:=pS_back h3;obtain⟨d1,d2⟩:=pN_back h4;obtain⟨e1,e2,e3⟩:=pW_back _ _ _ _ h5;refine⟨?_,hf,a3,b3,fun t ht=>(e3 t ht).2.2.2⟩;rw[a1,b1,c1,d1,e1,lNt,e2];simp
      ·cases h
structure Bd where
 o:Int
 s:Vc.St
 v:List UInt8
def bdF (x:Bd):Bool:=(decide (0<=x.o) && decide (x.o<=255)) && (Vc.right x.s && decide (x.v.length<=256))
theorem bdF_iff (x:Bd):bdF x=true↔0<=x.o/\x.o<=255/\0 < x.s.1/\0<=x.s.2/\x.s.2 < 64/\x.v.length<=256:=by
 unfold bdF;rw[Bool.and_eq_true,Bool.and_eq_true,Bool.and_eq_true,Vc.right_iff,decide_eq_true_eq,decide_eq_true_eq,decide_eq_true_eq];constructor
 ·rintro⟨⟨a,b⟩,⟨c,d,e⟩,f⟩;exact⟨a,b,c,d,e,f⟩
 ·rintro⟨a,b,c,d,e,f⟩;exact⟨⟨a,b⟩,⟨c,d,e⟩,f⟩
def pB (l:List UInt8):Option (Bd×List UInt8):=match pN l with
 | none=>none
 | some (o,r1)=>match pN r1 with
  | none=>none
  | some (a,r2)=>match pN r2 with
   | none=>none
   | some (b,r3)=>match pR 256 r3 with
    | none=>none
    | some (v,r4)=>if bdF ⟨(o:Int),((b:Int),(a:Int)),v⟩=true then some (⟨(o:Int),((b:Int),(a:Int)),v⟩,r4) else none
def lB (x:Bd):List UInt8:=Pk.lay x.o.toNat++(Pk.lay x.s.2.toNat++(Pk.lay x.s.1.toNat++lR x.v))
theorem pB_lay {x:Bd} (h:bdF x=true) (hc:x.s.1 < 9223372036854775808) (r:List UInt8):pB (lB x++r)=some (x,r):=by
 obtain⟨a,b,c,d,e,f⟩:=(bdF_iff x).1 h;unfold pB lB;rw[List.append_assoc,pN_layI ⟨a,by omega⟩];simp only;rw[List.append_assoc,pN_layI ⟨d,by omega⟩];simp only;rw[List.append_assoc,pN_layI ⟨by omega,hc⟩];simp only;rw[pR_lay f (by omega)];simp only[Int.toNat_of_nonneg a,Int.toNat_of_nonneg d,Int.toNat_of_nonneg (Int.le_of_lt c)];rw[if_pos h]
theorem pB_back {l r:List UInt8} {x:Bd} (h:pB l=some (x,r)):l=lB x++r/\bdF x=true/\x.s.1 < 9223372036854775808:=by
 unfold pB at h
 split at h
 ·cases h
 ·rename_i o r1 h1
  split at h
  ·cases h
  ·rename_i a r2 h2
   split at h
   ·cases h
   ·rename_i b r3 h3
    split at h
    ·cases h
    ·rename_i v r4 h4
     split at h
     ·rename_i hf;simp only[Option.some.injEq,Prod.mk.injEq] at h;obtain⟨rfl,rfl⟩:=h;obtain⟨a1,a2⟩:=pN_back h1;obtain⟨b1,b2⟩:=pN_back h2;obtain⟨c1,c2⟩:=pN_back h3;obtain⟨d1,d2⟩:=pR_back h4;refine⟨?_,hf,by simp only;omega⟩;rw[a1,b1,c1,d1,lB];simp
     ·cases h
end Go.Proofs.YtmbeahbgafkjfaaGreatDoor.Wq
namespace Go.Proofs.YtmbeahbgafkjfaaGreatDoor.Sn
def cutS (s:Sp):Option Sp:=if max s.1 0<=min s.2 255 then some (max s.1 0,min s.2 255) else none
def cut (l:List Sp):List Sp:=l.filterMap cutS
theorem cut_snoc (l:List Sp) (s:Sp):cut (l++[s])=cut l++(cutS s).toList:=by
 unfold cut;rw[List.filterMap_append];cases h:cutS s<;>simp[h]
def okS (s:Sp):Prop:=0<=s.1/\s.1<=s.2/\s.2<=255
theorem cut_ok {l:List Sp} {s:Sp} (h:s∈cut l):okS s:=by
 unfold cut at h;obtain⟨t,_,ht⟩:=List.mem_filterMap.1 h;unfold cutS at ht
 split at ht
 ·rename_i hc;injection ht with ht;subst ht;refine⟨?_,?_,?_⟩<;>simp only<;>omega
 ·cases ht
theorem in_cutS (s:Sp) (o:Int) (h0:0<=o) (h1:o<=255):inB (cutS s).toList o=(decide (s.1<=o) && decide (o<=s.2)):=by
 unfold cutS;split
 ·simp only[Option.toList_some,inB,List.any_cons,List.any_nil,Bool.or_false];rw[Bool.eq_iff_iff];simp;omega
 ·simp only[Option.toList_none,inB,List.any_nil];rw[Bool.eq_iff_iff];simp;omega
theorem in_cut (l:List Sp) (o:Int) (h0:0<=o) (h1:o<=255):inB (cut l) o=inB l o:=by
 induction l with
 | nil=>rfl
 | cons s r ih=>
  have e:cut (s :: r)=(cutS s).toList++cut r:=by
   unfold cut;cases h:cutS s<;>simp[h]
  rw[e,inB_app,inB_cons,ih,in_cutS s o h0 h1]
def putS (out:List Sp) (s:Sp):List Sp:=
 match out.getLast? with
 | some t=>if s.1<=t.2+1 then out.dropLast++[(t.1,max t.2 s.2)] else out++[s]
 | none=>[s]
theorem putS_nil (s:Sp):putS [] s=[s]:=rfl
theorem putS_snoc (u:List Sp) (t s:Sp):putS (u++[t]) s=if s.1<=t.2+1 then u++[(t.1,max t.2 s.2)] else u++[t]++[s]:=by
 unfold putS;simp
def put (l:List Sp):List Sp:=l.foldl putS []
theorem put_snoc (l:List Sp) (s:Sp):put (l++[s])=putS (put l) s:=by simp[put]
def risS:List Sp->Prop
 | []=>True
 | s :: r=>(∀t∈r,s.1<=t.1)/\risS r
theorem risS_snoc {l:List Sp} {s:Sp} (h:risS (l++[s])):risS l/\∀t∈l,t.1<=s.1:=by
 induction l with
 | nil=>exact⟨trivial,fun t ht=>by cases ht⟩
 | cons x r ih=>
  obtain⟨h1,h2⟩:=h;obtain⟨h3,h4⟩:=ih h2;exact⟨⟨fun t ht=>h1 t (List.mem_append_left _ ht),h3⟩,fun t ht=>by
   rcases List.mem_cons.1 ht with rfl | ht
   ·exact h1 s (by simp)
   ·exact h4 t ht⟩
theorem put_ok:∀(l:List Sp),(∀s∈l,okS s)->risS l->fmS (-2) (put l)=true/\(∀o,inB (put l) o=inB l o)/\(∀t,(put l).getLast?=some t->(∃s∈l,t.1=s.1)/\∀s∈l,s.2<=t.2)/\(put l=[]->l=[]):=by
 intro l
 induction h:l.length generalizing l with
 | zero=>
  intro _ _;obtain rfl:=List.eq_nil_of_length_eq_zero h;exact⟨rfl,fun o=>rfl,(fun t ht=>by cases ht),fun _=>rfl⟩
 | succ n ih=>
  intro hok hris;obtain⟨r,s,rfl⟩:∃r s,l=r++[s]:=⟨_,_,(List.dropLast_concat_getLast (by intro e;rw[e] at h;cases h)).symm⟩;have hr:r.length=n:=by simpa using h
  obtain⟨hris',hle⟩:=risS_snoc hris;obtain⟨h1,h2,h3,h4⟩:=ih r hr (fun s hs=>hok s (List.mem_append_left _ hs)) hris';obtain⟨a1,a2,a3⟩:=hok s (by simp);rw[put_snoc];rcases hp:(put r).getLast? with _ | t
  ·have hn:put r=[]:=by simpa using hp
   obtain rfl:=h4 hn;rw[hn,putS_nil];refine⟨by simp[fmS];omega,fun o=>by simp,fun t ht=>?_,fun h=>by cases h⟩;obtain rfl:s=t:=by simpa using ht
   exact⟨⟨s,by simp,rfl⟩,fun u hu=>by simp at hu;subst hu;exact Int.le_refl _⟩
  ·obtain⟨u,hu⟩:∃u,put r=u++[t]:=by
    have hne:put r≠[]:=by intro e;rw[e] at hp;cases hp
    refine⟨(put r).dropLast,?_⟩;have:=List.getLast?_eq_some_getLast hne;rw[hp] at this;injection this with this;rw[this];exact(List.dropLast_concat_getLast hne).symm
   obtain⟨⟨s0,hs0,e0⟩,hmx⟩:=h3 t hp;have hts:t.1<=s.1:=by rw[e0];exact hle s0 hs0
   rw[hu] at h1 h2 ⊢;obtain⟨b1,b2,b3,b4,b5,b6⟩:=fmS_snoc.1 h1;rw[putS_snoc];split
   ·rename_i hc;refine⟨fmS_snoc.2 ⟨b1,by simp only;omega,by simp only;omega,b4,b5,b6⟩,fun o=>?_,fun t' ht=>?_,fun h=>by simp at h⟩
    ·rw[inB_app,inB_app,<-h2 o,inB_app];simp only[inB,List.any_cons,List.any_nil,Bool.or_false];rw[Bool.eq_iff_iff];simp;constructor
     ·rintro(h | ⟨h,k⟩)
      ·exact .inl (.inl h)
      ·omega
     ·rintro((h | ⟨h,k⟩) | ⟨h,k⟩)
      ·exact .inl h
      ·right;omega
      ·right;omega
    ·obtain rfl:(t.1,max t.2 s.2)=t':=by simpa using ht
     refine⟨⟨s0,List.mem_append_left _ hs0,e0⟩,fun v hv=>?_⟩;rcases List.mem_append.1 hv with hv | hv
     ·have:=hmx v hv;simp only;omega
     ·simp at hv;subst hv;simp only;omega
   ·rename_i hc;refine⟨fmS_snoc.2 ⟨h1,a2,a3,a1,fun t' ht=>?_,fun h=>by simp at h⟩,fun o=>?_,fun t' ht=>?_,fun h=>by simp at h⟩
    ·obtain rfl:t=t':=by simpa using ht
     omega
    ·rw[inB_app,h2 o,inB_app]
    ·obtain rfl:s=t':=by simpa using ht
     refine⟨⟨s,by simp,rfl⟩,fun v hv=>?_⟩;rcases List.mem_append.1 hv with hv | hv
     ·have:=hmx v hv;omega
     ·simp at hv;subst hv;exact Int.le_refl _
def tidy (l:List Sp):List Sp:=of (setOf l)
theorem tidy_fm (l:List Sp):fmS (-2) (tidy l)=true:=of_fm _
theorem tidy_in (l:List Sp) (o:Int) (h0:0<=o) (h1:o<=255):inB (tidy l) o=inB l o:=by
 obtain⟨k,rfl⟩:=Int.eq_ofNat_of_zero_le h0;unfold tidy;rw[of_in _ k (by omega)];rfl
theorem tidy_len (l:List Sp):(tidy l).length<=128:=fmS_128 (tidy_fm l)
theorem in_perm {l m:List Sp} (h:List.Perm l m) (o:Int):inB l o=inB m o:=by
 unfold inB;rw[Bool.eq_iff_iff,List.any_eq_true,List.any_eq_true];exact⟨fun ⟨x,hx,hh⟩=>⟨x,h.mem_iff.1 hx,hh⟩,fun ⟨x,hx,hh⟩=>⟨x,h.mem_iff.2 hx,hh⟩⟩
theorem tidy_put {l c:List Sp} (hp:List.Perm (cut l) c) (hr:risS c):put c=tidy l:=by
 obtain⟨h1,h2,_,_⟩:=put_ok c (fun s hs=>cut_ok (hp.mem_iff.2 hs)) hr;refine fmS_one h1 (tidy_fm l) fun o h0 h255=>?_;rw[h2,<-in_perm hp,in_cut l o h0 h255,tidy_in l o h0 h255]
end Go.Proofs.YtmbeahbgafkjfaaGreatDoor.Sn
namespace Go.Proofs.YtmbeahbgafkjfaaGreatDoor
theorem rise_iff:∀(last:Int) (l:List Wr),rise last l=true↔(∀w∈l,last < w.2.1)/\l.Pairwise fun a b=>a.2.1 < b.2.1
 | last,[]=>by simp[rise]
 | last,x :: r=>by
  rw[rise,Bool.and_eq_true,decide_eq_true_eq,rise_iff x.2.1 r,List.pairwise_cons];constructor
  ·rintro⟨h1,h2,h3⟩;refine⟨fun w hw=>?_,h2,h3⟩;rcases List.mem_cons.1 hw with rfl | hw
   ·exact h1
   ·have:=h2 w hw;omega
  ·rintro⟨h1,h2,h3⟩;exact⟨h1 x (by simp),h2,h3⟩
theorem ntW_iff (e:List Vc.St) (b:List Sn.Sp):∀(last:Int) (l:List Wr),ntW e b last l=true↔rise last l=true/\∀w∈l,(0<=w.2.1/\w.2.1<=255)/\hasO b w.2.1=false/\hasB e w.1=true
 | last,[]=>by simp[ntW,rise]
 | last,x :: r=>by
  rw[ntW,rise,Bool.and_eq_true,Bool.and_eq_true,ntW_iff e b x.2.1 r];unfold wOk;simp only[Bool.and_eq_true,decide_eq_true_eq,Bool.not_eq_true',List.mem_cons,forall_eq_or_imp];constructor
  ·rintro⟨⟨a1,a2,a3,a4⟩,a5,a6⟩;exact⟨⟨a1,a5⟩,⟨a2,a3,a4⟩,a6⟩
  ·rintro⟨⟨a1,a5⟩,⟨a2,a3,a4⟩,a6⟩;exact⟨⟨a1,a2,a3,a4⟩,a5,a6⟩
def seen (sp:List Sn.Sp) (l:List Wr):List Wr:=l.filter fun w=>hasO sp w.2.1
theorem stl_len {v:List Vc.St} (h:fm (-1) v=true):v.length<=64:=by
 have:∀(last:Int) (v:List Vc.St),fm last v=true->-1<=last->(v.length:Int)<=63 - last\/v=[]:=by
  intro last v
  induction v generalizing last with
  | nil=>exact fun _ _=>.inr rfl
  | cons s r ih=>
   intro h hl;rw[fm,Bool.and_eq_true,Bool.and_eq_true,decide_eq_true_eq,Vc.right_iff] at h;obtain⟨⟨h1,h2,h3⟩,h4,h5⟩:=h;refine .inl ?_;rcases ih s.2 h5 (by omega) with h6 | rfl
   ·rw[List.length_cons];omega
   ·simp;omega
 rcases this (-1) v h (by omega) with h | rfl
 ·omega
 ·simp
theorem wrl_len {e:List Vc.St} {b:List Sn.Sp} {l:List Wr} (h:ntW e b (-1) l=true):l.length<=256:=by
 have:∀(last:Int) (l:List Wr),ntW e b last l=true->-1<=last->(l.length:Int)<=255 - last\/l=[]:=by
  intro last l
  induction l generalizing last with
  | nil=>exact fun _ _=>.inr rfl
  | cons w r ih=>
   intro h hl;rw[ntW,Bool.and_eq_true] at h;obtain⟨h1,h2⟩:=h;unfold wOk at h1;simp only[Bool.and_eq_true,decide_eq_true_eq] at h1;refine .inl ?_;rcases ih w.2.1 h2 (by omega) with h6 | rfl
   ·rw[List.length_cons];omega
   ·simp;omega
 rcases this (-1) l h (by omega) with h | rfl
 ·omega
 ·simp
abbrev Zn:=Sn.Sp×List Vc.St
def zStep (e:Int) (p:Option (List Vc.St)) (x:Zn):Bool:=
 (decide (e < x.1.1) && (decide (x.1.1<=x.1.2) && decide (x.1.2<=255))) && (fm (-1) x.2 && !(decide (p=some x.2) && decide (x.1.1=e+1)))
def zF:Int->Option (List Vc.St)->List Zn->Bool
 | _,_,[]=>true
 | e,p,x :: r=>zStep e p x && zF x.1.2 (some x.2) r
def inZ (o:Int) (x:Zn):Bool:=decide (x.1.1<=o) && decide (o<=x.1.2)
def reach (z:List Zn) (known:List Vc.St) (o:Int):List Vc.St:=
 match z.find? (inZ o) with
 | some x=>x.2
 | none=>known
def pcs (known:List Vc.St):Int->List Zn->List Zn
 | a,[]=>if a<=255 then [((a,255),known)] else []
 | a,x :: r=>(if a < x.1.1 then [((a,x.1.1 - 1),known)] else [])++x :: pcs known (x.1.2+1) r
theorem zStep_iff {e:Int} {p:Option (List Vc.St)} {x:Zn} (h:zStep e p x=true):e < x.1.1/\x.1.1<=x.1.2/\x.1.2<=255/\fm (-1) x.2=true:=by
 unfold zStep at h;simp only[Bool.and_eq_true,decide_eq_true_eq] at h;exact⟨h.1.1,h.1.2.1,h.1.2.2,h.2.1⟩
theorem inZ_iff {o:Int} {x:Zn}:inZ o x=true↔x.1.1<=o/\o<=x.1.2:=by unfold inZ;simp
theorem zF_none:∀{e:Int} {p:Option (List Vc.St)} {z:List Zn} {o:Int},zF e p z=true->o<=e->z.find? (inZ o)=none
 | _,_,[],_,_,_=>rfl
 | e,p,x :: r,o,h,ho=>by
  rw[zF,Bool.and_eq_true] at h;obtain⟨h1,h2,h3,_⟩:=zStep_iff h.1;rw[List.find?_cons,show inZ o x=false by unfold inZ;simp;omega];exact zF_none h.2 (by omega)
theorem zF_fm:∀{e:Int} {p:Option (List Vc.St)} {z:List Zn},zF e p z=true->∀x∈z,fm (-1) x.2=true
 | _,_,[],_,_,hx=>by cases hx
 | e,p,y :: r,h,x,hx=>by
  rw[zF,Bool.and_eq_true] at h;rcases List.mem_cons.1 hx with rfl | hx
  ·exact(zStep_iff h.1).2.2.2
  ·exact zF_fm h.2 x hx
theorem zF_len:∀{e:Int} {p:Option (List Vc.St)} {z:List Zn},zF e p z=true->-1<=e->(z.length:Int)<=255 - e\/z=[]
 | _,_,[],_,_=>.inr rfl
 | e,p,x :: r,h,he=>by
  rw[zF,Bool.and_eq_true] at h;obtain⟨h1,h2,h3,_⟩:=zStep_iff h.1;refine .inl ?_;rcases zF_len h.2 (by omega) with h4 | rfl
  ·rw[List.length_cons];omega
  ·simp;omega
theorem zF_256 {z:List Zn} (h:zF (-1) none z=true):z.length<=256:=by
 rcases zF_len h (by omega) with h | rfl
 ·omega
 ·simp
theorem pcs_reach (known:List Vc.St):∀{e:Int} {p:Option (List Vc.St)} {z:List Zn},zF e p z=true->∀q∈pcs known (e+1) z,(e < q.1.1/\q.1.1<=q.1.2/\q.1.2<=255)/\∀o,inZ o q=true->reach z known o=q.2
 | e,p,[],_,q,hq=>by
  rw[pcs] at hq
  split at hq
  ·rcases List.mem_singleton.1 hq with rfl;exact⟨⟨by dsimp only;omega,by dsimp only;omega,by dsimp only;omega⟩,fun o _=>rfl⟩
  ·cases hq
 | e,p,x :: r,h,q,hq=>by
  rw[zF,Bool.and_eq_true] at h;obtain⟨h1,h2,h3,_⟩:=zStep_iff h.1;rw[pcs,List.mem_append,List.mem_cons] at hq;rcases hq with hq | rfl | hq
  ·split at hq
   ·rcases List.mem_singleton.1 hq with rfl;refine⟨⟨by dsimp only;omega,by dsimp only;omega,by dsimp only;omega⟩,fun o ho=>?_⟩;have:=inZ_iff.1 ho;dsimp only at this;unfold reach;rw[List.find?_cons,show inZ o x=false by unfold inZ;simp;omega];dsimp only;rw[zF_none h.2 (by omega)]
   ·cases hq
  ·refine⟨⟨h1,h2,h3⟩,fun o ho=>?_⟩;unfold reach;rw[List.find?_cons,ho]
  ·obtain⟨⟨a1,a2,a3⟩,a4⟩:=pcs_reach known h.2 q hq;refine⟨⟨by omega,a2,a3⟩,fun o ho=>?_⟩;rw[<-a4 o ho];have:=inZ_iff.1 ho;unfold reach;rw[List.find?_cons,show inZ o x=false by unfold inZ;simp;omega]
theorem pcs_all (known:List Vc.St):∀{e:Int} {p:Option (List Vc.St)} {z:List Zn} {o:Int},zF e p z=true->e < o->o<=255->∃q∈pcs known (e+1) z,inZ o q=true
 | e,p,[],o,_,h0,h1=>by
  rw[pcs,if_pos (by omega)];exact⟨_,List.mem_singleton.2 rfl,inZ_iff.2 ⟨by dsimp only;omega,h1⟩⟩
 | e,p,x :: r,o,h,h0,h1=>by
  rw[zF,Bool.and_eq_true] at h;obtain⟨b1,b2,b3,_⟩:=zStep_iff h.1;rw[pcs];rcases Int.lt_or_le o x.1.1 with c | c
  ·rw[if_pos (by omega)];exact⟨_,List.mem_append_left _ (List.mem_singleton.2 rfl),inZ_iff.2 ⟨by dsimp only;omega,by dsimp only;omega⟩⟩
  ·rcases Int.lt_or_le x.1.2 o with d | d
   ·obtain⟨q,hq,hi⟩:=pcs_all known h.2 d h1;exact⟨q,List.mem_append_right _ (List.mem_cons_of_mem _ hq),hi⟩
   ·exact⟨x,List.mem_append_right _ (List.mem_cons_self ..),inZ_iff.2 ⟨c,d⟩⟩
end Go.Proofs.YtmbeahbgafkjfaaGreatDoor
namespace Go.Proofs.YtmbeahbgafkjfaaGreatDoor.Sn
theorem fmS_weak {e f:Int} {l:List Sp} (h:fmS f l=true) (he:e<=f):fmS e l=true:=by
 cases l with
 | nil=>rfl
 | cons s r=>
  obtain⟨h1,h2,h3,h4,h5⟩:=fmS_cons.1 h;exact fmS_cons.2 ⟨h1,h2,h3,by omega,h5⟩
def bothS (s t:Sp):List Sp:=if max s.1 t.1<=min s.2 t.2 then [(max s.1 t.1,min s.2 t.2)] else []
def mtg:List Sp->List Sp->List Sp
 | [],_=>[]
 | _ :: _,[]=>[]
 | s :: p,t :: q=>bothS s t++(if s.2 < t.2 then mtg p (t :: q) else mtg (s :: p) q)
termination_by x y=>x.length+y.length
theorem mtg_nil (y:List Sp):mtg [] y=[]:=by rw[mtg]
theorem mtg_nil2 (x:List Sp):mtg x []=[]:=by cases x<;>rw[mtg]
theorem mtg_step (s t:Sp) (p q:List Sp):mtg (s :: p) (t :: q)=bothS s t++(if s.2 < t.2 then mtg p (t :: q) else mtg (s :: p) q):=by rw[mtg]
theorem in_both (s t:Sp) (o:Int):inB (bothS s t) o=((decide (s.1<=o) && decide (o<=s.2)) && (decide (t.1<=o) && decide (o<=t.2))):=by
 unfold bothS;split
 ·simp only[inB,List.any_cons,List.any_nil,Bool.or_false];rw[Bool.eq_iff_iff];simp;omega
 ·simp only[inB,List.any_nil];rw[Bool.eq_iff_iff];simp;omega
theorem mtg_ok:∀(n:Nat) (x y:List Sp),x.length+y.length=n->∀(e f:Int),fmS e x=true->fmS f y=true->fmS (max e f) (mtg x y)=true/\∀o,inB (mtg x y) o=(inB x o && inB y o):=by
 intro n
 induction n with
 | zero=>
  intro x y hn e f _ _;obtain rfl:=List.eq_nil_of_length_eq_zero (show x.length=0 by omega);rw[mtg_nil];exact⟨rfl,fun o=>by simp[inB]⟩
 | succ n ih=>
  intro x y hn e f hx hy;rcases x with _ | ⟨s,p⟩
  ·rw[mtg_nil];exact⟨rfl,fun o=>by simp[inB]⟩
  ·rcases y with _ | ⟨t,q⟩
   ·rw[mtg_nil2];exact⟨rfl,fun o=>by simp[inB]⟩
   ·obtain⟨a1,a2,a3,a4,a5⟩:=fmS_cons.1 hx;obtain⟨b1,b2,b3,b4,b5⟩:=fmS_cons.1 hy;rw[mtg_step];by_cases hc:s.2 < t.2
    ·rw[if_pos hc];obtain⟨h1,h2⟩:=ih p (t :: q) (by simp only[List.length_cons] at hn ⊢;omega) s.2 f a5 hy;refine⟨?_,fun o=>?_⟩
     ·unfold bothS;split
      ·exact fmS_cons.2 ⟨by simp only;omega,by simp only;omega,by simp only;omega,by simp only;omega,fmS_weak h1 (by simp only;omega)⟩
      ·exact fmS_weak h1 (by omega)
     ·rw[inB_app,h2,in_both,inB_cons s,inB_cons t];have hq:=fun h=>fmS_in b5 o h;rw[Bool.eq_iff_iff];simp only[Bool.or_eq_true,Bool.and_eq_true,decide_eq_true_eq];constructor
      ·rintro(⟨h3,h4⟩ | ⟨h3,h4⟩)
       ·exact⟨.inl h3,.inl h4⟩
       ·exact⟨.inr h3,h4⟩
      ·rintro⟨h3 | h3,h4 | h4⟩
       ·exact .inl ⟨h3,h4⟩
       ·have:=hq h4;omega
       ·exact .inr ⟨h3,.inl h4⟩
       ·exact .inr ⟨h3,.inr h4⟩
    ·rw[if_neg hc];obtain⟨h1,h2⟩:=ih (s :: p) q (by simp only[List.length_cons] at hn ⊢;omega) e t.2 hx b5;refine⟨?_,fun o=>?_⟩
     ·unfold bothS;split
      ·exact fmS_cons.2 ⟨by simp only;omega,by simp only;omega,by simp only;omega,by simp only;omega,fmS_weak h1 (by simp only;omega)⟩
      ·exact fmS_weak h1 (by omega)
     ·rw[inB_app,h2,in_both,inB_cons s,inB_cons t];have hp:=fun h=>fmS_in a5 o h;rw[Bool.eq_iff_iff];simp only[Bool.or_eq_true,Bool.and_eq_true,decide_eq_true_eq];constructor
      ·rintro(⟨h3,h4⟩ | ⟨h3,h4⟩)
       ·exact⟨.inl h3,.inl h4⟩
       ·exact⟨h3,.inr h4⟩
      ·rintro⟨h3 | h3,h4 | h4⟩
       ·exact .inl ⟨h3,h4⟩
       ·exact .inr ⟨.inl h3,h4⟩
       ·have:=hp h3;omega
       ·exact .inr ⟨.inr h3,h4⟩
def meetL (a b:List Sp):List Sp:=of fun o=>setOf a o && setOf b o
theorem mtg_meet (a b:List Sp):mtg (tidy a) (tidy b)=meetL a b:=by
 obtain⟨h1,h2⟩:=mtg_ok _ _ _ rfl _ _ (tidy_fm a) (tidy_fm b);refine fmS_one (fmS_weak h1 (by omega)) (of_fm _) fun o h0 h255=>?_;obtain⟨k,rfl⟩:=Int.eq_ofNat_of_zero_le h0;rw[h2,tidy_in a _ h0 h255,tidy_in b _ h0 h255,meetL,of_in _ k (by omega)];rfl
def rst:Int->List Sp->List Sp
 | from_,[]=>if from_<=255 then [(from_,255)] else []
 | from_,s :: r=>(if from_ < s.1 then [(from_,s.1 - 1)] else [])++rst (s.2+1) r
theorem rst_ok:∀(l:List Sp) (e f:Int),fmS e l=true->f<=e+2->0<=f->fmS (f - 2) (rst f l)=true/\∀o,0<=o->o<=255->inB (rst f l) o=(decide (f<=o) && !inB l o):=by
 intro l
 induction l with
 | nil=>
  intro e f _ _ h0;rw[rst];split
  ·exact⟨by simp[fmS];omega,fun o _ h=>by simp[inB,h]⟩
  ·exact⟨rfl,fun o _ h=>by simp[inB];omega⟩
 | cons s r ih=>
  intro e f h hf h0;obtain⟨a1,a2,a3,a4,a5⟩:=fmS_cons.1 h;obtain⟨h1,h2⟩:=ih s.2 (s.2+1) a5 (by omega) (by omega);rw[rst];refine⟨?_,fun o ho h255=>?_⟩
  ·split
   ·exact fmS_cons.2 ⟨by simp only;omega,by simp only;omega,by simp only;omega,by simp only;omega,fmS_weak h1 (by simp only;omega)⟩
   ·exact fmS_weak h1 (by omega)
  ·rw[inB_app,h2 o ho h255,inB_cons];have hr:=fun h=>fmS_in a5 o h;rcases hb:inB r o with _ | _
   ·split
    ·simp only[inB,List.any_cons,List.any_nil,Bool.or_false];rw[Bool.eq_iff_iff];simp;omega
    ·simp only[inB,List.any_nil];rw[Bool.eq_iff_iff];simp;omega
   ·have:=hr hb;split
    ·simp only[inB,List.any_cons,List.any_nil,Bool.or_false];rw[Bool.eq_iff_iff];simp;omega
    ·simp[inB]
def restL (l:List Sp):List Sp:=of fun o=>!setOf l o
theorem rst_rest (l:List Sp):rst 0 (tidy l)=restL l:=by
 obtain⟨h1,h2⟩:=rst_ok (tidy l) (-2) 0 (tidy_fm l) (by omega) (by omega);refine fmS_one h1 (of_fm _) fun o h0 h255=>?_;obtain⟨k,rfl⟩:=Int.eq_ofNat_of_zero_le h0;rw[h2 _ h0 h255,tidy_in l _ h0 h255,restL,of_in _ k (by omega),decide_eq_true h0,Bool.true_and];rfl
theorem setOf_of (p:Nat->Bool) (o:Nat) (h:o < 256):setOf (of p) o=p o:=of_in p o h
def lessL (a b:List Sp):List Sp:=of fun o=>setOf a o && !setOf b o
theorem meet_rest (a b:List Sp):meetL a (restL b)=lessL a b:=of_congr fun o ho=>by rw[restL,setOf_of _ o ho]
theorem fmS_ok {e:Int} {l:List Sp} (h:fmS e l=true):∀s∈l,okS s:=by
 induction l generalizing e with
 | nil=>intro s hs;cases hs
 | cons t r ih=>
  obtain⟨a1,a2,a3,a4,a5⟩:=fmS_cons.1 h;intro s hs;rcases List.mem_cons.1 hs with rfl | hs
  ·exact⟨a3,a1,a2⟩
  ·exact ih a5 s hs
end Go.Proofs.YtmbeahbgafkjfaaGreatDoor.Sn
