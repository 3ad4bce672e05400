/- Lemmas for the claim, layer 3. -/
import Derived.Test.YtmbeahbgafkjfaaGreatDoorKb00
import Derived.Test.YtmbeahbgafkjfaaGreatDoorKb02
namespace Go.Proofs.YtmbeahbgafkjfaaGreatDoor
abbrev Wr:=Vc.St×Int×Bool
structure Nt where
 s:List Vc.St
 e:List Vc.St
 b:List Sn.Sp
 w:List Wr
def hasO (l:List Sn.Sp) (o:Int):Bool:=(decide (0≤o) && decide (o≤255)) && Sn.inB l o
def wOk (e:List Vc.St) (b:List Sn.Sp) (last:Int) (w:Wr):Bool:=decide (last < w.2.1) && ((decide (0≤w.2.1) && decide (w.2.1≤255)) && (!hasO b w.2.1 && hasB e w.1))
def ntW (e:List Vc.St) (b:List Sn.Sp):Int→List Wr→Bool
 | _,[]=>true
 | last,w :: r=>wOk e b last w && ntW e b w.2.1 r
theorem ntW_drop (e:List Vc.St) (b:List Sn.Sp) (last:Int) (l:List Wr) (k:Nat) (h:k < l.length):ntW e b last (l.drop k)=(wOk e b last l[k] && ntW e b l[k].2.1 (l.drop (k+1))):=by
 rw[List.drop_eq_getElem_cons h,ntW]
def cov2 (u v:List Vc.St):Bool:=covB (Vc.cnt u) (Vc.cnt v)
def ntH (n:Nt):Bool:=fm (-1) n.s && (fm (-1) n.e && (cov2 n.e n.s && Sn.fmS (-2) n.b))
def ntF (n:Nt):Bool:=ntH n && ntW n.e n.b (-1) n.w
def atO (l:List Wr) (o:Int):Option Wr:=l.find? fun w=>decide (w.2.1=o)
def rise:Int→List Wr→Bool
 | _,[]=>true
 | last,w :: r=>decide (last < w.2.1) && rise w.2.1 r
theorem rise_gt:∀(last:Int) (l:List Wr),rise last l=true→∀w∈l,last < w.2.1
 | _,[],_,w,hw=>by cases hw
 | last,x :: r,h,w,hw=>by
  rw[rise,Bool.and_eq_true,decide_eq_true_eq] at h
  rcases List.mem_cons.1 hw with rfl | hw
  ·exact h.1
  ·have:=rise_gt _ r h.2 w hw;omega
theorem rise_lt:∀(last:Int) (l:List Wr),rise last l=true→∀i j (hi:i < j) (hj:j < l.length),(l[i]'(by omega)).2.1 < l[j].2.1
 | _,[],_,i,j,_,hj=>by simp at hj
 | last,x :: r,h,0,j+1,_,hj=>by
  rw[rise,Bool.and_eq_true] at h
  exact rise_gt _ r h.2 _ (List.getElem_mem _)
 | last,x :: r,h,i+1,j+1,hi,hj=>by
  rw[rise,Bool.and_eq_true] at h
  exact rise_lt _ r h.2 i j (by omega) (by simpa using hj)
theorem atO_hit {last:Int} {l:List Wr} (h:rise last l=true) {o:Int} {k:Nat} (hk:k < l.length) (ho:l[k].2.1=o):atO l o=some l[k]:=by
 unfold atO
 rw[List.find?_eq_some_iff_getElem]
 refine⟨by simpa using ho,k,hk,rfl,fun j hj=>?_⟩
 have:=rise_lt last l h j k hj hk
 simp;omega
theorem atO_miss {l:List Wr} {o:Int} {k:Nat} (h1:∀i (hi:i < l.length),i < k→l[i].2.1 < o) (h2:∀i (hi:i < l.length),k≤i→o < l[i].2.1):atO l o=none:=by
 unfold atO
 rw[List.find?_eq_none]
 intro w hw
 obtain⟨i,hi,rfl⟩:=List.getElem_of_mem hw
 rcases Nat.lt_or_ge i k with hlt | hge
 ·have:=h1 i hi hlt;simp;omega
 ·have:=h2 i hi hge;simp;omega
end Go.Proofs.YtmbeahbgafkjfaaGreatDoor
namespace Go.Proofs.YtmbeahbgafkjfaaGreatDoor.Wq
def sw (s:Int×Int):Int×Int:=(s.2,s.1)
theorem sw_sw (v:List (Int×Int)):(v.map sw).map sw=v:=by
 rw[List.map_map]
 have:sw ∘ sw=id:=by funext s;rfl
 rw[this,List.map_id]
def pV (l:List UInt8):Option (List Vc.St×List UInt8):=match pN l with
 | none=>none
 | some (n,r)=>match pP n r with
  | none=>none
  | some (v,q)=>if fm (-1) (v.map sw)=true then some (v.map sw,q) else none
def lV (v:List Vc.St):List UInt8:=Pk.lay v.length++lP (v.map sw)
theorem fm_u63:∀(last:Int) (v:List Vc.St),fm last v=true→-1≤last→(∀s∈v,0 < s.1∧last < s.2∧s.2 < 64)∧(v.length:Int)≤63 - last∨(v=[])
 | _,[],_,_=>.inr rfl
 | last,s :: r,h,hl=>by
  rw[fm,Bool.and_eq_true,Bool.and_eq_true,decide_eq_true_eq,Vc.right_iff] at h
  obtain⟨⟨h1,h2,h3⟩,h4,h5⟩:=h
  refine .inl ?_
  rcases fm_u63 s.2 r h5 (by omega) with ⟨h6,h7⟩ | rfl
  ·refine⟨fun t ht=>?_,by rw[List.length_cons];omega⟩
   rcases List.mem_cons.1 ht with rfl | ht
   ·exact⟨h1,h4,h3⟩
   ·obtain⟨a,b,c⟩:=h6 t ht
    exact⟨a,by omega,c⟩
  ·refine⟨fun t ht=>?_,by simp;omega⟩
   rw[List.mem_singleton] at ht
   subst ht
   exact⟨h1,h4,h3⟩
theorem fm_len {v:List Vc.St} (h:fm (-1) v=true):v.length≤64:=by
 rcases fm_u63 (-1) v h (by omega) with ⟨_,h2⟩ | rfl
 ·omega
 ·simp
def cts (v:List Vc.St):Prop:=∀s∈v,s.1 < 9223372036854775808
theorem fm_sw {v:List Vc.St} (h:fm (-1) v=true) (hc:cts v):∀s∈v.map sw,u63 s.1∧u63 s.2:=by
 intro s hs
 obtain⟨t,ht,rfl⟩:=List.mem_map.1 hs
 rcases fm_u63 (-1) v h (by omega) with ⟨h2,_⟩ | rfl
 ·obtain⟨a,b,c⟩:=h2 t ht
  have:=hc t ht
  exact⟨⟨by show 0≤t.2;omega,by show t.2 < _;omega⟩,⟨by show 0≤t.1;omega,this⟩⟩
 ·cases ht
theorem pV_lay {v:List Vc.St} (h:fm (-1) v=true) (hc:cts v) (r:List UInt8):pV (lV v++r)=some (v,r):=by
 have:=fm_len h
 unfold pV lV
 rw[List.append_assoc,pN_lay (by omega)]
 simp only
 have e:=pP_lay (v.map sw) r (fm_sw h hc)
 rw[List.length_map] at e
 rw[e]
 simp only
 rw[sw_sw,if_pos h]
theorem pV_back {l r:List UInt8} {v:List Vc.St} (h:pV l=some (v,r)):l=lV v++r∧fm (-1) v=true∧cts v:=by
 unfold pV at h
 split at h
 ·cases h
 ·rename_i n r1 h1
  split at h
  ·cases h
  ·rename_i v' q h2
   split at h
   ·rename_i hf
    simp only[Option.some.injEq,Prod.mk.injEq] at h
    obtain⟨rfl,rfl⟩:=h
    obtain⟨a1,a2⟩:=pN_back h1
    obtain⟨b1,b2,b3⟩:=pP_back _ _ _ _ h2
    refine⟨by rw[a1,b1,lV,sw_sw,List.length_map,b2];simp,hf,fun s hs=>?_⟩
    obtain⟨t,ht,rfl⟩:=List.mem_map.1 hs
    exact(b3 t ht).2.2
   ·cases h
def pW:Nat→List UInt8→Option (List Wr×List UInt8)
 | 0,l=>some ([],l)
 | n+1,l=>match pN l with
  | none=>none
  | some (o,r1)=>match pN r1 with
   | none=>none
   | some (a,r2)=>match pN r2 with
    | none=>none
    | some (b,r3)=>match pN r3 with
     | none=>none
     | some (g,r4)=>if 1 < g then none else match pW n r4 with
      | none=>none
      | some (v,t)=>some ((((b:Int),(a:Int)),(o:Int),decide (g=1)) :: v,t)
def gn (g:Bool):Nat:=if g then 1 else 0
def lW1 (w:Wr):List UInt8:=Pk.lay w.2.1.toNat++(Pk.lay w.1.2.toNat++(Pk.lay w.1.1.toNat++Pk.lay (gn w.2.2)))
def lW (v:List Wr):List UInt8:=v.flatMap lW1
theorem lW_cons (w:Wr) (v:List Wr):lW (w :: v)=lW1 w++lW v:=by simp[lW]
def wU (w:Wr):Prop:=u63 w.2.1∧u63 w.1.2∧u63 w.1.1
theorem pW_lay:∀(v:List Wr) (r:List UInt8),(∀w∈v,wU w)→pW v.length (lW v++r)=some (v,r)
 | [],r,_=>rfl
 | w :: v,r,h=>by
  obtain⟨h1,h2,h3⟩:=h w (by simp)
  have e1:=h1.1
  have e2:=h2.1
  have e3:=h3.1
  rw[List.length_cons,pW,lW_cons,lW1,List.append_assoc,List.append_assoc,List.append_assoc,List.append_assoc,pN_layI h1]
  simp only
  rw[pN_layI h2]
  simp only
  rw[pN_layI h3]
  simp only
  rw[pN_lay (by unfold gn;split<;>omega)]
  simp only
  rw[if_neg (by unfold gn;split<;>omega),pW_lay v r fun t ht=>h t (by simp[ht])]
  simp only[Int.toNat_of_nonneg e1,Int.toNat_of_nonneg e2,Int.toNat_of_nonneg e3]
  obtain⟨⟨c,n⟩,o,g⟩:=w
  cases g<;>rfl
theorem pW_back:∀(n:Nat) (l:List UInt8) (v:List Wr) (r:List UInt8),pW n l=some (v,r)→l=lW v++r∧v.length=n∧∀w∈v,wU w
 | 0,l,v,r,h=>by
  simp only[pW,Option.some.injEq,Prod.mk.injEq] at h
  obtain⟨rfl,rfl⟩:=h
  exact⟨rfl,rfl,fun s hs=>by cases hs⟩
 | n+1,l,v,r,h=>by
  rw[pW] at h
  split at h
  ·cases h
  ·rename_i o r1 h1
   split at h
   ·cases h
   ·rename_i a r2 h2
    split at h
    ·cases h
    ·rename_i b r3 h3
     split at h
     ·cases h
     ·rename_i g r4 h4
      split at h
      ·cases h
      ·rename_i hg
       split at h
       ·cases h
       ·rename_i v' t h5
        simp only[Option.some.injEq,Prod.mk.injEq] at h
        obtain⟨rfl,rfl⟩:=h
        obtain⟨a1,a2,a3⟩:=pW_back n r4 v' t h5
        obtain⟨b1,b2⟩:=pN_back h1
        obtain⟨c1,c2⟩:=pN_back h2
        obtain⟨d1,d2⟩:=pN_back h3
        obtain⟨e1,e2⟩:=pN_back h4
        have hgg:gn (decide (g=1))=g:=by
         rcases Nat.lt_or_ge g 1 with h | h
         ·obtain rfl:g=0:=by omega
          rfl
         ·obtain rfl:g=1:=by omega
          rfl
        refine⟨?_,by simp[a2],fun s hs=>?_⟩
        ·rw[b1,c1,d1,e1,a1,lW_cons,lW1]
         simp only[hgg]
         simp
        ·rcases List.mem_cons.1 hs with rfl | hs
         ·exact⟨⟨by simp only;omega,by simp only;omega⟩,⟨by simp only;omega,by simp only;omega⟩,⟨by simp only;omega,by simp only;omega⟩⟩
         ·exact a3 s hs
def pNt (l:List UInt8):Option (Nt×List UInt8):=match pV l with
 | none=>none
 | some (s,r1)=>match pV r1 with
  | none=>none
  | some (e,r2)=>match pS r2 with
   | none=>none
   | some (b,r3)=>match pN r3 with
    | none=>none
    | some (n,r4)=>match pW n r4 with
     | none=>none
     | some (w,r5)=>if ntF ⟨s,e,b,w⟩=true then some (⟨s,e,b,w⟩,r5) else none
def lNt (x:Nt):List UInt8:=lV x.s++(lV x.e++(lS x.b++(Pk.lay x.w.length++lW x.w)))
theorem ntF_parts {x:Nt} (h:ntF x=true):fm (-1) x.s=true∧fm (-1) x.e=true∧Sn.fmS (-2) x.b=true∧ntW x.e x.b (-1) x.w=true:=by
 unfold ntF ntH at h
 simp only[Bool.and_eq_true] at h
 exact⟨h.1.1,h.1.2.1,h.1.2.2.2,h.2⟩
def ntC (x:Nt):Prop:=cts x.s∧cts x.e∧∀w∈x.w,w.1.1 < 9223372036854775808
theorem ntW_all (e:List Vc.St) (b:List Sn.Sp):∀(last:Int) (l:List Wr),ntW e b last l=true→-1≤last→(∀w∈l,0≤w.2.1∧w.2.1≤255∧last < w.2.1∧0 < w.1.1∧0≤w.1.2∧w.1.2 < 64)∧((l.length:Int)≤255 - last∨l=[])
 | _,[],_,_=>⟨(fun w hw=>by cases hw),Or.inr rfl⟩
 | last,w :: r,h,hl=>by
  rw[ntW,Bool.and_eq_true] at h
  obtain⟨h1,h2⟩:=h
  unfold wOk hasB at h1
  simp only[Bool.and_eq_true,decide_eq_true_eq] at h1
  obtain⟨a1,⟨a2,a3⟩,_,a5,_⟩:=h1
  obtain⟨b1,b2,b3⟩:=(Vc.right_iff _).1 a5
  obtain⟨c1,c2⟩:=ntW_all e b w.2.1 r h2 (by omega)
  refine⟨fun t ht=>?_,.inl ?_⟩
  ·rcases List.mem_cons.1 ht with rfl | ht
   ·exact⟨a2,a3,a1,b1,b2,b3⟩
   ·obtain⟨d1,d2,d3,d4⟩:=c1 t ht
    exact⟨d1,d2,by omega,d4⟩
  ·rw[List.length_cons]
   rcases c2 with c2 | rfl
   ·omega
   ·simp;omega
theorem ntW_len {e:List Vc.St} {b:List Sn.Sp} {l:List Wr} (h:ntW e b (-1) l=true):l.length≤256:=by
 rcases(ntW_all e b (-1) l h (by omega)).2 with h2 | rfl
 ·omega
 ·simp
theorem ntW_u {x:Nt} (h:ntF x=true) (hc:ntC x):∀w∈x.w,wU w:=by
 obtain⟨_,_,_,h4⟩:=ntF_parts h
 intro w hw
 obtain⟨a1,a2,a3,a4,a5,a6⟩:=(ntW_all _ _ _ _ h4 (by omega)).1 w hw
 exact⟨⟨a1,by omega⟩,⟨a5,by omega⟩,⟨by omega,hc.2.2 w hw⟩⟩
theorem pNt_lay {x:Nt} (h:ntF x=true) (hc:ntC x) (r:List UInt8):pNt (lNt x++r)=some (x,r):=by
 obtain⟨h1,h2,h3,h4⟩:=ntF_parts h
 have hl:=ntW_len h4
 unfold pNt lNt
 rw[List.append_assoc,pV_lay h1 hc.1]
 simp only
 rw[List.append_assoc,pV_lay h2 hc.2.1]
 simp only
 rw[List.append_assoc,pS_lay h3]
 simp only
 rw[List.append_assoc,pN_lay (by omega)]
 simp only
 rw[pW_lay _ _ (ntW_u h hc)]
 simp only
 rw[if_pos h]
theorem pNt_back {l r:List UInt8} {x:Nt} (h:pNt l=some (x,r)):l=lNt x++r∧ntF x=true∧ntC x:=by
 unfold pNt at h
 split at h
 ·cases h
 ·rename_i s r1 h1
  split at h
  ·cases h
  ·rename_i e r2 h2
   split at h
   ·cases h
   ·rename_i b r3 h3
    split at h
    ·cases h
    ·rename_i n r4 h4
     split at h
     ·cases h
     ·rename_i w r5 h5
      split at h
      ·rename_i hf
       simp only[Option.some.injEq,Prod.mk.injEq] at h
       obtain⟨rfl,rfl⟩:=h
       obtain⟨a1,a2,a3⟩:=pV_back h1
       obtain⟨b1,b2,b3⟩:=pV_back h2
       obtain⟨c1,c2⟩:=pS_back h3
       obtain⟨d1,d2⟩:=pN_back h4
       obtain⟨e1,e2,e3⟩:=pW_back _ _ _ _ h5
       refine⟨?_,hf,a3,b3,fun t ht=>(e3 t ht).2.2.2⟩
       rw[a1,b1,c1,d1,e1,lNt,e2]
       simp
      ·cases h
structure Bd where
 o:Int
 s:Vc.St
 v:List UInt8
def bdF (x:Bd):Bool:=(decide (0≤x.o) && decide (x.o≤255)) && (Vc.right x.s && decide (x.v.length≤256))
theorem bdF_iff (x:Bd):bdF x=true↔0≤x.o∧x.o≤255∧0 < x.s.1∧0≤x.s.2∧x.s.2 < 64∧x.v.length≤256:=by
 unfold bdF
 rw[Bool.and_eq_true,Bool.and_eq_true,Bool.and_eq_true,Vc.right_iff,decide_eq_true_eq,decide_eq_true_eq,decide_eq_true_eq]
 constructor
 ·rintro⟨⟨a,b⟩,⟨c,d,e⟩,f⟩;exact⟨a,b,c,d,e,f⟩
 ·rintro⟨a,b,c,d,e,f⟩;exact⟨⟨a,b⟩,⟨c,d,e⟩,f⟩
def pB (l:List UInt8):Option (Bd×List UInt8):=match pN l with
 | none=>none
 | some (o,r1)=>match pN r1 with
  | none=>none
  | some (a,r2)=>match pN r2 with
   | none=>none
   | some (b,r3)=>match pR 256 r3 with
    | none=>none
    | some (v,r4)=>if bdF ⟨(o:Int),((b:Int),(a:Int)),v⟩=true then some (⟨(o:Int),((b:Int),(a:Int)),v⟩,r4) else none
def lB (x:Bd):List UInt8:=Pk.lay x.o.toNat++(Pk.lay x.s.2.toNat++(Pk.lay x.s.1.toNat++lR x.v))
theorem pB_lay {x:Bd} (h:bdF x=true) (hc:x.s.1 < 9223372036854775808) (r:List UInt8):pB (lB x++r)=some (x,r):=by
 obtain⟨a,b,c,d,e,f⟩:=(bdF_iff x).1 h
 unfold pB lB
 rw[List.append_assoc,pN_layI ⟨a,by omega⟩]
 simp only
 rw[List.append_assoc,pN_layI ⟨d,by omega⟩]
 simp only
 rw[List.append_assoc,pN_layI ⟨by omega,hc⟩]
 simp only
 rw[pR_lay f (by omega)]
 simp only[Int.toNat_of_nonneg a,Int.toNat_of_nonneg d,Int.toNat_of_nonneg (Int.le_of_lt c)]
 rw[if_pos h]
theorem pB_back {l r:List UInt8} {x:Bd} (h:pB l=some (x,r)):l=lB x++r∧bdF x=true∧x.s.1 < 9223372036854775808:=by
 unfold pB at h
 split at h
 ·cases h
 ·rename_i o r1 h1
  split at h
  ·cases h
  ·rename_i a r2 h2
   split at h
   ·cases h
   ·rename_i b r3 h3
    split at h
    ·cases h
    ·rename_i v r4 h4
     split at h
     ·rename_i hf
      simp only[Option.some.injEq,Prod.mk.injEq] at h
      obtain⟨rfl,rfl⟩:=h
      obtain⟨a1,a2⟩:=pN_back h1
      obtain⟨b1,b2⟩:=pN_back h2
      obtain⟨c1,c2⟩:=pN_back h3
      obtain⟨d1,d2⟩:=pR_back h4
      refine⟨?_,hf,by simp only;omega⟩
      rw[a1,b1,c1,d1,lB]
      simp
     ·cases h
end Go.Proofs.YtmbeahbgafkjfaaGreatDoor.Wq
namespace Go.Proofs.YtmbeahbgafkjfaaGreatDoor.Sn
def cutS (s:Sp):Option Sp:=if max s.1 0≤min s.2 255 then some (max s.1 0,min s.2 255) else none
def cut (l:List Sp):List Sp:=l.filterMap cutS
theorem cut_snoc (l:List Sp) (s:Sp):cut (l++[s])=cut l++(cutS s).toList:=by
 unfold cut
 rw[List.filterMap_append]
 cases h:cutS s<;>simp[h]
def okS (s:Sp):Prop:=0≤s.1∧s.1≤s.2∧s.2≤255
theorem cut_ok {l:List Sp} {s:Sp} (h:s∈cut l):okS s:=by
 unfold cut at h
 obtain⟨t,_,ht⟩:=List.mem_filterMap.1 h
 unfold cutS at ht
 split at ht
 ·rename_i hc
  injection ht with ht
  subst ht
  refine⟨?_,?_,?_⟩<;>simp only<;>omega
 ·cases ht
theorem in_cutS (s:Sp) (o:Int) (h0:0≤o) (h1:o≤255):inB (cutS s).toList o=(decide (s.1≤o) && decide (o≤s.2)):=by
 unfold cutS
 split
 ·simp only[Option.toList_some,inB,List.any_cons,List.any_nil,Bool.or_false]
  rw[Bool.eq_iff_iff];simp;omega
 ·simp only[Option.toList_none,inB,List.any_nil]
  rw[Bool.eq_iff_iff];simp;omega
theorem in_cut (l:List Sp) (o:Int) (h0:0≤o) (h1:o≤255):inB (cut l) o=inB l o:=by
 induction l with
 | nil=>rfl
 | cons s r ih=>
  have e:cut (s :: r)=(cutS s).toList++cut r:=by
   unfold cut
   cases h:cutS s<;>simp[h]
  rw[e,inB_app,inB_cons,ih,in_cutS s o h0 h1]
def putS (out:List Sp) (s:Sp):List Sp:=
 match out.getLast? with
 | some t=>if s.1≤t.2+1 then out.dropLast++[(t.1,max t.2 s.2)] else out++[s]
 | none=>[s]
theorem putS_nil (s:Sp):putS [] s=[s]:=rfl
theorem putS_snoc (u:List Sp) (t s:Sp):putS (u++[t]) s=if s.1≤t.2+1 then u++[(t.1,max t.2 s.2)] else u++[t]++[s]:=by
 unfold putS
 simp
def put (l:List Sp):List Sp:=l.foldl putS []
theorem put_snoc (l:List Sp) (s:Sp):put (l++[s])=putS (put l) s:=by simp[put]
def risS:List Sp→Prop
 | []=>True
 | s :: r=>(∀t∈r,s.1≤t.1)∧risS r
theorem risS_snoc {l:List Sp} {s:Sp} (h:risS (l++[s])):risS l∧∀t∈l,t.1≤s.1:=by
 induction l with
 | nil=>exact⟨trivial,fun t ht=>by cases ht⟩
 | cons x r ih=>
  obtain⟨h1,h2⟩:=h
  obtain⟨h3,h4⟩:=ih h2
  exact⟨⟨fun t ht=>h1 t (List.mem_append_left _ ht),h3⟩,fun t ht=>by
   rcases List.mem_cons.1 ht with rfl | ht
   ·exact h1 s (by simp)
   ·exact h4 t ht⟩
theorem put_ok:∀(l:List Sp),(∀s∈l,okS s)→risS l→fmS (-2) (put l)=true∧(∀o,inB (put l) o=inB l o)∧(∀t,(put l).getLast?=some t→(∃s∈l,t.1=s.1)∧∀s∈l,s.2≤t.2)∧(put l=[]→l=[]):=by
 intro l
 induction h:l.length generalizing l with
 | zero=>
  intro _ _
  obtain rfl:=List.eq_nil_of_length_eq_zero h
  exact⟨rfl,fun o=>rfl,(fun t ht=>by cases ht),fun _=>rfl⟩
 | succ n ih=>
  intro hok hris
  obtain⟨r,s,rfl⟩:∃r s,l=r++[s]:=⟨_,_,(List.dropLast_concat_getLast (by intro e;rw[e] at h;cases h)).symm⟩
  have hr:r.length=n:=by simpa using h
  obtain⟨hris',hle⟩:=risS_snoc hris
  obtain⟨h1,h2,h3,h4⟩:=ih r hr (fun s hs=>hok s (List.mem_append_left _ hs)) hris'
  obtain⟨a1,a2,a3⟩:=hok s (by simp)
  rw[put_snoc]
  rcases hp:(put r).getLast? with _ | t
  ·have hn:put r=[]:=by simpa using hp
   obtain rfl:=h4 hn
   rw[hn,putS_nil]
   refine⟨by simp[fmS];omega,fun o=>by simp,fun t ht=>?_,fun h=>by cases h⟩
   obtain rfl:s=t:=by simpa using ht
   exact⟨⟨s,by simp,rfl⟩,fun u hu=>by simp at hu;subst hu;exact Int.le_refl _⟩
  ·obtain⟨u,hu⟩:∃u,put r=u++[t]:=by
    have hne:put r≠[]:=by intro e;rw[e] at hp;cases hp
    refine⟨(put r).dropLast,?_⟩
    have:=List.getLast?_eq_some_getLast hne
    rw[hp] at this
    injection this with this
    rw[this];exact(List.dropLast_concat_getLast hne).symm
   obtain⟨⟨s0,hs0,e0⟩,hmx⟩:=h3 t hp
   have hts:t.1≤s.1:=by rw[e0];exact hle s0 hs0
   rw[hu] at h1 h2 ⊢
   obtain⟨b1,b2,b3,b4,b5,b6⟩:=fmS_snoc.1 h1
   rw[putS_snoc]
   split
   ·rename_i hc
    refine⟨fmS_snoc.2 ⟨b1,by simp only;omega,by simp only;omega,b4,b5,b6⟩,fun o=>?_,fun t' ht=>?_,fun h=>by simp at h⟩
    ·rw[inB_app,inB_app,←h2 o,inB_app]
     simp only[inB,List.any_cons,List.any_nil,Bool.or_false]
     rw[Bool.eq_iff_iff];simp
     constructor
     ·rintro(h | ⟨h,k⟩)
      ·exact .inl (.inl h)
      ·omega
     ·rintro((h | ⟨h,k⟩) | ⟨h,k⟩)
      ·exact .inl h
      ·right;omega
      ·right;omega
    ·obtain rfl:(t.1,max t.2 s.2)=t':=by simpa using ht
     refine⟨⟨s0,List.mem_append_left _ hs0,e0⟩,fun v hv=>?_⟩
     rcases List.mem_append.1 hv with hv | hv
     ·have:=hmx v hv;simp only;omega
     ·simp at hv;subst hv;simp only;omega
   ·rename_i hc
    refine⟨fmS_snoc.2 ⟨h1,a2,a3,a1,fun t' ht=>?_,fun h=>by simp at h⟩,fun o=>?_,fun t' ht=>?_,fun h=>by simp at h⟩
    ·obtain rfl:t=t':=by simpa using ht
     omega
    ·rw[inB_app,h2 o,inB_app]
    ·obtain rfl:s=t':=by simpa using ht
     refine⟨⟨s,by simp,rfl⟩,fun v hv=>?_⟩
     rcases List.mem_append.1 hv with hv | hv
     ·have:=hmx v hv;omega
     ·simp at hv;subst hv;exact Int.le_refl _
def tidy (l:List Sp):List Sp:=of (setOf l)
theorem tidy_fm (l:List Sp):fmS (-2) (tidy l)=true:=of_fm _
theorem tidy_in (l:List Sp) (o:Int) (h0:0≤o) (h1:o≤255):inB (tidy l) o=inB l o:=by
 obtain⟨k,rfl⟩:=Int.eq_ofNat_of_zero_le h0
 unfold tidy
 rw[of_in _ k (by omega)];rfl
theorem tidy_len (l:List Sp):(tidy l).length≤128:=fmS_128 (tidy_fm l)
theorem in_perm {l m:List Sp} (h:List.Perm l m) (o:Int):inB l o=inB m o:=by
 unfold inB
 rw[Bool.eq_iff_iff,List.any_eq_true,List.any_eq_true]
 exact⟨fun ⟨x,hx,hh⟩=>⟨x,h.mem_iff.1 hx,hh⟩,fun ⟨x,hx,hh⟩=>⟨x,h.mem_iff.2 hx,hh⟩⟩
theorem tidy_put {l c:List Sp} (hp:List.Perm (cut l) c) (hr:risS c):put c=tidy l:=by
 obtain⟨h1,h2,_,_⟩:=put_ok c (fun s hs=>cut_ok (hp.mem_iff.2 hs)) hr
 refine fmS_one h1 (tidy_fm l) fun o h0 h255=>?_
 rw[h2,←in_perm hp,in_cut l o h0 h255,tidy_in l o h0 h255]
end Go.Proofs.YtmbeahbgafkjfaaGreatDoor.Sn
