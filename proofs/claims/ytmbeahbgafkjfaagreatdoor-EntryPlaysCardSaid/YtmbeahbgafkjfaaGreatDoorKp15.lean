/- Lemmas, layer 15. -/
import Derived.Test.YtmbeahbgafkjfaaGreatDoorKp13
import Derived.Test.YtmbeahbgafkjfaaGreatDoorKp14
set_option linter.unusedSimpArgs false
set_option maxRecDepth 100000
set_option maxHeartbeats 16000000
namespace Go.Proofs.YtmbeahbgafkjfaaGreatDoor
open Go.Proofs.Tryz Go.RowKit
open Go.RowKit Go.Shelf Go.Sort
theorem YC:(prog.info? 63).map (fun i=>(i.zero,i.size,i.bytes))=some (some (.agg #[.int .i64 0,.int .i64 0]),2,16):=by kernel_rfl
def Um (x:Sn.Sp):List Value:=[.int .i64 x.1,.int .i64 x.2]
theorem JeK (l:List Sn.Sp):sv l=l.flatMap Um:=rfl
theorem Joe (l:List Sn.Sp) (t:Nat) (h:t < l.length * 2):(sv l)[t]?=(Um (l[t / 2]'(by omega)))[t % 2]?:=by
 have:=ZZ Um 2 (by decide) l (fun _ _=>rfl) (t / 2) (by omega) (t % 2) (by omega);rw[show t / 2 * 2+t % 2=t by omega] at this;exact this
theorem Jer (l:List Sn.Sp) (t:Nat) (h:t < l.length * 2):(sv l)[t]?=some ((flatK Um 2 l.toArray)[t]!):=by
 rw[Joe l t h];have e1:(flatK Um 2 l.toArray)[t]! = (Um l.toArray[t / 2]!)[t % 2]!:=by
  rw[Nh _ t (by simp[flatK];omega)];simp[flatK]
 rw[e1,show l.toArray[t / 2]! = l[t / 2]'(by omega) by rw[Nh _ _ (by simp;omega)];simp];rcases Nat.mod_two_eq_zero_or_one t with h2 | h2<;>rw[h2]<;>rfl
theorem JjM {w:World} {base G n c:Nat} {l:List Sn.Sp} (h:w.ownsRow base 63 2 (.slice (some ⟨G,0,none⟩) n c) n (sv l)) (hl:l.length=n):HoldsK Um 2 w G 0 l.toArray:=by
 intro j hj;have hj':j < l.length * 2:=by simpa[flatK] using hj
 obtain⟨_,h | ⟨g,cap,cur,hv,_,hg,_,_,hcs,hx⟩⟩:=h
 ·exact absurd h.1 (by simp)
 ·injection hv with hv1 _ _;injection hv1 with hv1;injection hv1 with hv1;subst hv1;refine⟨?_,by simp[World.frozen?,hg]⟩;rw[EU,Nx w G j cur _ (0,0) hg];have h1:(sv l)[j]?=cur[j]?:=by
   rw[<-hx,Fx,Ei (by omega)];simp
  rw[<-h1,Jer l j hj'];rfl
theorem Jlm {w:World} {base G n c:Nat} {l:List Sn.Sp} (h:w.ownsRow base 63 2 (.slice (some ⟨G,0,none⟩) n c) n (sv l)) (d:Array Sn.Sp) (hd:d.size=n) (m:Nat) (os:Array Obj):
  (sortWorldK Um 2 w G 0 m d os).ownsRow base 63 2 (.slice (some ⟨G,0,none⟩) n c) n (sv d.toList)/\w.grownBy (sortWorldK Um 2 w G 0 m d os) (some G):=by
 obtain⟨hl,h | ⟨g,cap,cur,hv,hb,hg,hnc,hcm,hcs,hx⟩⟩:=h
 ·exact absurd h.1 (by simp)
 ·injection hv with hv1 _ hv3;injection hv1 with hv1;injection hv1 with hv1;subst hv1 hv3;have hlt:G < w.heap.size:=(EA.1 hg).1;have hat:(sortWorldK Um 2 w G 0 m d os).heap[G]?=some (.cells (putCells id 0 (flatK Um 2 d) cur) 63 (0,0)):=by
   unfold sortWorldK grow putRowK putRow mapBlock «Sort».ahead;rw[Gh (by simpa using hlt)];simp[Ns,hg,onCells]
  have hother:∀k,k < w.heap.size->k≠G->(sortWorldK Um 2 w G 0 m d os).heap[k]?=w.heap[k]?:=fun k hk hne=>by
   unfold sortWorldK grow putRowK putRow mapBlock «Sort».ahead;rw[Gh (by simpa using hk)];simp[Ns,Ne.symm hne]
  have hfl:(flatK Um 2 d).size=n * 2:=by simp[flatK,hd]
  have hnc':n * 2<=c * 2:=Ff _ hnc;refine⟨⟨by rw[JeK,Xw Um 2 _ (fun _ _=>rfl)];simp[hd],.inr ⟨G,c,_,rfl,hb,hat,hnc,hcm,by simp[putCells,hcs],?_⟩⟩,⟨rfl,rfl,rfl,size_sortWorldK_c Um 2 w G 0 m d os,fun k hk hne=>hother k hk (fun e=>hne (by rw[e]))⟩⟩;apply GX;intro t;by_cases ht:t < n * 2
  ·rw[Fx,Ei ht];have h1:=Jer d.toList t (by simp[hd];exact ht);rw[h1];have hc:t < cur.size:=by omega
   simp only[putCells,Array.toList_mapIdx,List.getElem?_mapIdx,Nr,Array.getElem?_eq_getElem hc,Option.map_some,hfl];rw[Ei ⟨FB _,by omega⟩];simp
  ·rw[Fx,Ef ht,Fy (by rw[JeK,Xw Um 2 _ (fun _ _=>rfl)];simp[hd];omega)]
theorem JfR (x y:Sn.Sp) (W:World):Calls prog 224 #[.agg #[.int .i64 x.1,.int .i64 x.2],.agg #[.int .i64 y.1,.int .i64 y.2]] W fun e w'=>e=.returned (.int .i64 (Xn x.1 y.1))/\∃q os',w'=grow (W.drewN q) os':=by
 have hcon:=fun W'=>UJ x.1 y.1 W';generalize Xn x.1 y.1=r at hcon ⊢;go_enter func224,ntmps224;go_wp2_with (go_at_call 73;refine(hcon _).mono ?_;rintro e w' ⟨rfl,rfl⟩);go_ret;exact⟨rfl,0,_,by rw[alloc_eq_grow,alloc_eq_grow,grow_grow];rfl⟩
theorem JmM (x y:Sn.Sp):ltOf (fun x y:Sn.Sp=>Xn x.1 y.1) x y=decide (x.1 < y.1):=by
 unfold ltOf Xn;by_cases h1:x.1 < y.1
 ·simp[h1]
 ·by_cases h2:y.1 < x.1<;>simp[h1,h2]
theorem Jpf:SWO (ltOf fun x y:Sn.Sp=>Xn x.1 y.1) where
 irrefl x:=by rw[JmM];simp
 trans x y z h1 h2:=by rw[JmM] at *;simp at *;omega
 ntrans x y z h1 h2:=by rw[JmM] at *;simp at *;omega
theorem Jlf:∀w,(isAgg 63).run prog w=.ok true w:=fun _=>by kernel_rfl
theorem JkF:∀w,(Go.sizeOf 63).run prog w=.ok 2 w:=fun _=>by kernel_rfl
theorem Jiz:∀(l:List Sn.Sp),(∀i j (hi:i < j) (hj:j < l.length),(l[i]'(by omega)).1<=l[j].1)->Sn.JgN l
 | [],_=>trivial
 | s :: r,h=>⟨fun t ht=>by
   obtain⟨k,hk,rfl⟩:=Na ht;exact h 0 (k+1) (by omega) (by simpa using hk),Jiz r fun i j hi hj=>by
   have:=h (i+1) (j+1) (by omega) (by simpa using hj);simpa using this⟩
theorem Jkj (base G n c:Nat) (l:List Sn.Sp) (w:World) (ho:w.ownsRow base 63 2 (.slice (some ⟨G,0,none⟩) n c) n (sv l)) (hl:l.length=n) (hn:n < 4611686018427387904):
  Calls prog 223 #[.slice (some ⟨G,0,none⟩) n c,.func (.func 224) #[] #[]] w fun e w'=>e=.returned (.tuple #[]) /\
   ∃l',List.Perm l l'/\Sn.JgN l'/\w'.ownsRow base 63 2 (.slice (some ⟨G,0,none⟩) n c) n (sv l')/\w.grownBy w' (some G):=by
 have eg:∀args w,(callFunc 224 args).run prog w=.ok (.enter 224 args) w:=NU func224 (by kernel_rfl) rfl;have hsz:l.toArray.size=n:=by simpa using hl
 have hG:G < w.heap.size:=(ho.lt G rfl).2;have hcon:=AnyQ.slices_SortFunc Jmx 2 Jlf JkF Um (fun _=>rfl) (fun x v hv=>by simp[Um] at hv;rcases hv with rfl | rfl<;>rfl) (fun x y:Sn.Sp=>Xn x.1 y.1) Jpf 224 #[] G 0 c l.toArray w eg (fun _ _ _ _ x y=>JfR x y _) (JjM ho hl) hG (by omega);rw[hsz] at hcon;refine hcon.mono fun e w' ⟨he,d',m,os,hp,hs,hw⟩=>⟨he,d'.toList,?_,?_,?_⟩
 ·obtain⟨h1,_,h3⟩:=hp;have e1:(d'.extract 0 n).toList=d'.toList:=by rw[<-hsz,<-h1];simp
  have e2:(l.toArray.extract 0 n).toList=l:=by rw[<-hsz];simp
  rw[e1,e2] at h3;exact h3.symm
 ·refine Jiz _ fun i j hi hj=>?_;have h1:d'.size=n:=by rw[hp.1,hsz]
  have hj':j < d'.size:=by simpa using hj
  have:=hs i j (FB _) hi (by omega);rw[JmM,Nh d' j hj',Nh d' i (by omega)] at this;simp at this;simpa using this
 ·rw[hw];exact Jlm ho d' (by rw[hp.1,hsz]) m os
open Go.RowKit Go.Shelf
theorem Zx {w:World} {base G n c size j:Nat} {e:TypeId} {xs:List Value} (h:w.ownsRow base e size (.slice (some ⟨G,0,none⟩) n c) n xs) (hj:j < n * size) (u:Value):
  (w.setCell ⟨G,j,none⟩ u).ownsRow base e size (.slice (some ⟨G,0,none⟩) n c) n (xs.set j u)/\w.grownBy (w.setCell ⟨G,j,none⟩ u) (some G)/\w.frozen? ⟨G,j,none⟩=false:=by
 obtain⟨hl,h | ⟨g,cap,cur,hv,hb,hg,hnc,hcm,hcs,hx⟩⟩:=h
 ·exact absurd h.1 (by simp)
 ·injection hv with hv1 _ hv3;injection hv1 with hv1;injection hv1 with hv1;subst hv1 hv3;refine⟨⟨by simpa using hl,.inr ⟨G,c,_,rfl,hb,heap_setCell_same w G j cur e u hg,hnc,hcm,by simpa using hcs,?_⟩⟩,⟨rfl,rfl,rfl,by simp,fun k _ hne=>GH w ⟨G,j,none⟩ u k (by rintro rfl;exact hne rfl)⟩,by simp[World.frozen?,hg]⟩;rw[<-hx];apply GX;intro t;rw[Fx,List.getElem?_set];by_cases ht:t < n * size
  ·rw[Ei ht];by_cases hjt:j=t
   ·subst hjt;have:j < cur.size:=by have:=Ff size hnc;omega
    simp[this];omega
   ·rw[Ef hjt,Fx,Ei ht];simp[hjt]
  ·rw[Ef ht,Ef (by omega),Fx,Ef ht]
theorem JgR (u:List Sn.Sp) (t:Sn.Sp) (hi:Int):(sv (u++[t])).set (u.length * 2+1) (.int .i64 hi)=sv (u++[(t.1,hi)]):=by
 have e:∀r:List Sn.Sp,(sv r).length=r.length * 2:=fun r=>by rw[JeK,Xw Um 2 _ (fun _ _=>rfl)]
 rw[Xb,Xb,List.set_append,Ef (by rw[e];omega),e];rw[show u.length * 2+1 - u.length * 2=1 by omega];rfl
theorem Jnl (l:List Sn.Sp) (h:∀s∈l,Sn.okS s):∀t∈Sn.put l,Sn.okS t:=by
 induction hn:l.length generalizing l with
 | zero=>
  obtain rfl:=Ey hn;intro t ht;cases ht
 | succ n ih=>
  obtain⟨r,s,rfl⟩:∃r s,l=r++[s]:=⟨_,_,(FS (by intro e;rw[e] at hn;cases hn)).symm⟩;have ihr:=ih r (fun s hs=>h s (Fc _ hs)) (by simpa using hn);obtain⟨a1,a2,a3⟩:=h s (by simp);rw[Sn.Jda];rcases hp:Sn.put r with _ | ⟨x,q⟩
  ·intro t ht;rw[Sn.JaN,Ez] at ht;subst ht;exact⟨a1,a2,a3⟩
  ·obtain⟨u,z,hu⟩:∃u z,x :: q=u++[z]:=⟨_,_,(FS (by simp)).symm⟩;rw[hp,hu] at ihr;rw[hu,Sn.KJ];obtain⟨b1,b2,b3⟩:=ihr z (by simp);split
   ·intro t ht;rcases EB.1 ht with ht | ht
    ·exact ihr t (Fc _ ht)
    ·rw[Ez] at ht;subst ht;exact⟨b1,by simp only;omega,by simp only;omega⟩
   ·intro t ht;rcases EB.1 ht with ht | ht
    ·exact ihr t ht
    ·rw[Ez] at ht;subst ht;exact⟨a1,a2,a3⟩
theorem Jh4 (f:Value) (w:World):Calls prog 241 #[.slice none 0 0,.int .i64 0,.int .i64 0,f] w fun e w'=>e=.returned (.tuple #[])/\w=w':=by
 go_enter func241,ntmps241;go_wp2;go_loop [8] (fun v8=>v8=.int .i64 1) (fun _=>0)
 case atStart=>exact rfl
 case round=>
  obtain rfl:=hrel;go_wp2;go_end0;exact⟨rfl,rfl⟩
theorem Jh2 (f:Value) (w:World):Calls prog 229 #[.slice none 0 0,.int .i64 0,.int .i64 0,.int .i64 0,f] w fun e w'=>e=.returned (.tuple #[])/\w=w':=by
 go_enter func229,ntmps229;go_wp2;go_loop [1,2,3,10] (fun v1 v2 v3 v10=>v1=.int .i64 0/\v2=.int .i64 0/\v3=.int .i64 0/\v10=.bool true) (fun _ _ _ _=>0)
 case atStart=>exact⟨rfl,rfl,rfl,rfl⟩
 case round=>
  obtain⟨rfl,rfl,rfl,rfl⟩:=hrel;go_wp2_with (go_at_call 241;go_must (refine(Jh4 _ _).mono ?_);rintro e w' ⟨rfl,rfl⟩);refine EF (Nd rfl _ _ _) rfl ?_;exact⟨rfl,rfl⟩
theorem Jge (f:Value) (w:World):Calls prog 223 #[.slice none 0 0,f] w fun e w'=>e=.returned (.tuple #[])/\w=w':=by
 have hl:∀W,Calls prog 227 #[.int .u64 0] W fun e w'=>e=.returned (.int .i64 0)/\W=w':=fun W=>
  (Any.bits_Len (SlLaysF0.n15.bits (P:=prog) (ρ:=Jc1) { Jmx with }) 0 W (by omega) (by omega)).mono fun _ _ ⟨he,hw⟩=>⟨he,hw.symm⟩
 go_enter func223,ntmps223;go_wp2_with (first
  | (go_at_call 227;go_must (refine(hl _).mono ?_);rintro e w' ⟨rfl,rfl⟩)
  | (go_at_call 229;go_must (refine(Jh2 _ _).mono ?_);rintro e w' ⟨rfl,rfl⟩))
 go_end0;exact⟨rfl,rfl⟩
theorem Od (A:OA) (n c:Nat) (l:List Sn.Sp) (w:World) (hl:l.length=n) (hR:Rd w w.heap.size 2 A n c (sv l)) (hn:n<=8796093022208):
  Calls prog 208 #[.slice A n c] w fun e w'=>∃A' c',e=.returned (.slice A' (Sn.YW l).length c')/\w'.ownsRow w.heap.size 63 2 (.slice A' (Sn.YW l).length c') (Sn.YW l).length (sv (Sn.YW l))/\Bz w w':=by
 obtain⟨i0,hi0,hz0,hz1,hz2⟩:=EN YC;have h1max:1<=maxLen:=by unfold maxLen;omega
 have HR:=Ja hR;have HL:=Ja hl;clear hR hl;go_enter func208,ntmps208;go_wp2;go_loopw [3,12] (fun v3 v12 wr=>∃(k m c':Nat) (A':OA),v12=.int .i64 k/\v3=.slice A' m c'/\k<=n/\m<=k/\Bz w wr/\Hid (wr.ownsRow w.heap.size 63 2 (.slice A' m c') m (sv (Sn.cut (l.take k))))/\Hid ((Sn.cut (l.take k)).length=m)) (fun _ v12 _=>n - (intOf v12).toNat)
 case atStart=>exact⟨0,0,0,none,rfl,rfl,by omega,by omega,Ec _ _,ED _ _ _ _,rfl⟩
 case round=>
  obtain⟨k,m,c',A',rfl,rfl,hk,hm,hb,ho,hlen⟩:=hrel;have hbs:=hb.size;by_cases hlt:k < n
  ·obtain⟨bb,o,rfl,hab,g0,g1⟩:=(HR.out.below hb).stamp HL.out hlt;have hkl:k < l.length:=by rw[HL.out];exact hlt
   have HT:=Ja (show Sn.cut (l.take (k+1))=Sn.cut (l.take k)++(Sn.JdM (l[k]'hkl)).toList by rw[Eq hkl,Sn.Jmq]);have hcs:Sn.JdM (l[k]'hkl)=if max (l[k]'hkl).1 0<=min (l[k]'hkl).2 255 then some (max (l[k]'hkl).1 0,min (l[k]'hkl).2 255) else none:=rfl;generalize (l[k]'hkl)=s at g0 g1 HT hcs;obtain⟨lo,hi⟩:=s;dsimp only at g0 g1 hcs;have h63:m+1<=maxLen:=by unfold maxLen;omega
   by_cases hc:max lo 0<=min hi 255
   ·have HC:=Ja (show Sn.cut (l.take (k+1))=Sn.cut (l.take k)++[(max lo 0,min hi 255)] by rw[HT.out,hcs,Ei hc];rfl);have hRn:Rd ((wr.alloc (.cells #[.int .i64 (max lo 0),.int .i64 (min hi 255)] 63)).alloc (.cells #[.int .i64 (max lo 0),.int .i64 (min hi 255)] 63)) (wr.heap.size+1+1) 2 (some ⟨wr.heap.size+1,0,none⟩) 1 1 [.int .i64 (max lo 0),.int .i64 (min hi 255)]:=by
     have:=Rd.new (wr.alloc (.cells #[.int .i64 (max lo 0),.int .i64 (min hi 255)] 63)) 63 2 1 #[.int .i64 (max lo 0),.int .i64 (min hi 255)] rfl h1max
     rwa [El] at this
    have HRN:=Ja hRn;have HHC:=Ja hcs;clear hcs hRn hkl;go_wp2_with (at_builtin;go_must (refine Jh _ rfl (.tmp 29) (.tmp 31) _ rfl w.heap.size 63 i0 _ 2 16 underlying23 hi0 hz0 hz1 hz2 rfl (by decide) (.slice A' m c') m _ rfl ((ho.out.alloc _).alloc _) _ (some ⟨_,0,none⟩) 1 1 [.int .i64 (max lo 0),.int .i64 (min hi 255)] rfl HRN.out (by intro u hu;simp at hu;rcases hu with rfl | rfl<;>rfl) h63 (by omega) (by simp;omega) ?_);intro A3 c3 w3 ho3 hg3 hat3);go_roundw
    case rel=>
     refine⟨k+1,m+1,c3,A3,by go_num,rfl,by omega,by omega,((hb.alloc hbs _).alloc (by simp;omega) _).trans (Jb hg3 (by simp;omega) (fun j hj=>JM ho.out j hj)),?_,?_⟩
     ·rw[HC.out,Xb];exact ho3
     ·show _=_;rw[HC.out,Eb,hlen.out];rfl
    case measure=>simp[intOf];omega
   ·have HC:=Ja (show Sn.cut (l.take (k+1))=Sn.cut (l.take k) by rw[HT.out,hcs,Ef hc];simp);clear hcs hkl;go_wp2;go_roundw
    case rel=>exact⟨k+1,m,c',A',by go_num,rfl,by omega,by omega,hb.alloc hbs _,by rw[HC.out];exact ho.out.alloc _,by show _=_;rw[HC.out];exact hlen.out⟩
    case measure=>simp[intOf];omega
  ·obtain rfl:k=n:=by omega
   have hcut:l.take k=l:=Eo (by rw[HL.out];exact Ek _);rw[hcut] at ho hlen;have hs:∃(Q:World->Prop),(∀V,Q V->∃cc:List Sn.Sp,Sn.put cc=Sn.YW l/\(∀s∈cc,Sn.okS s)/\cc.length=m/\Rd V V.heap.size 2 A' m c' (sv cc)/\Bz w V)/\Calls prog 223 #[.slice A' m c',.func (.func 224) #[] #[]] wr fun e V=>e=.returned (.tuple #[])/\Q V:=by
    rcases A' with _ | ad
    ·obtain⟨A'',c'',hv,h1,_⟩:=Xi ho.out;have h2:=(Rd.of_own ho.out).nil rfl;have h3:=(Rd.of_own ho.out).cap;obtain rfl:m=0:=by omega
     subst h2;have hce:Sn.cut l=[]:=Ey hlen.out;refine⟨fun V=>wr=V,fun V hV=>⟨[],?_,(fun s hs=>by cases hs),rfl,Rd.none_,by rw[<-hV];exact hb⟩,Jge _ wr⟩;have:=Sn.Jg5 (l:=l) (c:=[]) (by rw[hce]) trivial;exact this
    ·obtain⟨G,hG⟩:∃G,ad=⟨G,0,none⟩:=by
      rcases ho.out.2 with h | ⟨g,cap,cur,hv,_⟩
      ·exact absurd h.1 (by simp)
      ·injection hv with hv1 _ _;injection hv1 with hv1;exact⟨g,hv1⟩
     subst hG;refine⟨fun V=>∃l',List.Perm (Sn.cut l) l'/\Sn.JgN l'/\V.ownsRow w.heap.size 63 2 (.slice (some ⟨G,0,none⟩) m c') m (sv l')/\wr.grownBy V (some G),fun V hV=>?_,Jkj w.heap.size G m c' (Sn.cut l) wr ho.out hlen.out (by omega)⟩;obtain⟨l',hp,hr,ho',hg'⟩:=hV;exact⟨l',Sn.Jg5 hp hr,fun s hs=>Sn.Jk4 (hp.mem_iff.2 hs),by rw[<-hp.length_eq];exact hlen.out,Rd.of_own ho',hb.trans (Jb hg' hbs (fun j hj=>by cases hj;exact(ho.out.lt G rfl).1))⟩
   obtain⟨Q,hQ,hS⟩:=hs;have HS:=Ja hS;have HQ:=Ja hQ;clear hS hQ ho hlen hcut hb hbs;go_wp2_with (go_at_call 223;go_must (refine Jd HS.out fun w1 hq1=>?_));obtain⟨cc,hput,hok,hcl,hRc,hb1⟩:=HQ.out _ hq1;have HP:=Ja hput;have HOK:=Ja hok;have HCL:=Ja hcl;have HRC:=Ja hRc;have HB1:=Ja hb1;have hs1:=hb1.size;clear hput hok hcl hRc hb1 HS HQ hq1;go_loopw [6,38] (fun v6 v38 wr=>∃(j q c2:Nat) (A2:OA),v38=.int .i64 j/\v6=.slice A2 q c2/\j<=m/\q<=j/\Bz w1 wr/\Hid (wr.ownsRow w1.heap.size 63 2 (.slice A2 q c2) q (sv (Sn.put (cc.take j))))/\Hid ((Sn.put (cc.take j)).length=q)) (fun _ v38 _=>m - (intOf v38).toNat)
   case atStart=>exact⟨0,0,0,none,rfl,rfl,by omega,by omega,Ec _ _,ED _ _ _ _,rfl⟩
   case round=>
    obtain⟨j,q,c2,A2,rfl,rfl,hj,hq,hb,ho,hlen⟩:=hrel;have hbs:=hb.size;by_cases hlt:j < m
    ·obtain⟨bb,o,rfl,hab,g0,g1⟩:=(HRC.out.below hb).stamp HCL.out hlt;have hkl:j < cc.length:=by rw[HCL.out];exact hlt
     have HT:=Ja (show Sn.put (cc.take (j+1))=Sn.XJ (Sn.put (cc.take j)) (cc[j]'hkl) by rw[Eq hkl,Sn.Jda]);obtain⟨a1,a2,a3⟩:=HOK.out _ (En hkl);have hpo:=Jnl (cc.take j) (fun s hs=>HOK.out s (Gs hs));generalize (cc[j]'hkl)=s at g0 g1 HT a1 a2 a3;obtain⟨lo,hi⟩:=s;dsimp only at g0 g1 a1 a2 a3;have h63:q+1<=maxLen:=by unfold maxLen;omega
     have hbA:Bz wr (wr.alloc (.cells #[.int .i64 lo,.int .i64 hi] 63)):=Zr.alloc Zl _;have hX:=Jm.new wr 63 #[.int .i64 lo,.int .i64 hi];have hRn:Rd ((wr.alloc (.cells #[.int .i64 lo,.int .i64 hi] 63)).drew.alloc (.cells #[.int .i64 lo,.int .i64 hi] 63)) (wr.heap.size+1+1) 2 (some ⟨wr.heap.size+1,0,none⟩) 1 1 [.int .i64 lo,.int .i64 hi]:=by
      have:=Rd.new (wr.alloc (.cells #[.int .i64 lo,.int .i64 hi] 63)).drew 63 2 1 #[.int .i64 lo,.int .i64 hi] rfl h1max
      rwa [show (wr.alloc (.cells #[.int .i64 lo,.int .i64 hi] 63)).drew.heap.size=wr.heap.size+1 from El _ _] at this
     have HRN:=Ja hRn;have hXX:=fun (V:World) (hv:Below (wr.alloc (.cells #[.int .i64 lo,.int .i64 hi] 63)).heap.size (wr.alloc (.cells #[.int .i64 lo,.int .i64 hi] 63)) V)=>(show V.cell? ⟨wr.heap.size,0,none⟩=some (.int .i64 lo)/\V.cell? ⟨wr.heap.size,1,none⟩=some (.int .i64 hi) from ⟨(hX.go hv).cell 0,(hX.go hv).cell 1⟩);have HXX:=Ja hXX;have kw:=(Ec (wr.alloc (.cells #[.int .i64 lo,.int .i64 hi] 63)).heap.size (wr.alloc (.cells #[.int .i64 lo,.int .i64 hi] 63))).drew;have HBX:=Ja hX;clear hRn hX hXX hkl;by_cases hq0:q=0
     ·subst hq0;have hpe:Sn.put (cc.take j)=[]:=Ey hlen.out;have HT2:=Ja (show Sn.put (cc.take (j+1))=Sn.put (cc.take j)++[(lo,hi)] by rw[HT.out,hpe];rfl);clear hpe hpo;go_wp2;refine Jl fun KK hKK=>?_;refine Eg (S:=(fun V=>V.cell? ⟨wr.heap.size,0,none⟩=some (.int .i64 lo)/\V.cell? ⟨wr.heap.size,1,none⟩=some (.int .i64 hi))) (by kernel_rfl) (by first | exact HXX.out _ kw) (fun hHeld=>?_);refine Qx 0 44 (HXX.out _ kw) ?_;refine puB 1 45 ((.bool false)) (HXX.out _ kw) ?_;refine Qx 2 46 (HXX.out _ kw) ?_;refine JB 3 47 (HXX.out _ kw) ?_;refine JB 4 48 (HXX.out _ kw) ?_;refine JB 5 49 (HXX.out _ kw) ?_;refine JB 6 50 (HXX.out _ kw) ?_;refine JB 7 51 (HXX.out _ kw) ?_;refine JB 8 52 (HXX.out _ kw) ?_;refine JB 9 53 (HXX.out _ kw) ?_;refine JB 10 54 (HXX.out _ kw) ?_;refine JB 11 55 (HXX.out _ kw) ?_;refine JB 12 56 (HXX.out _ kw) ?_;refine Qx 13 57 (HXX.out _ kw) ?_;refine Es (by kernel_rfl) ?_ _;refine QQ.out (hKK _ _ ?_);go_wp2_with (at_builtin;go_must (refine Jh _ rfl (.tmp 72) (.tmp 74) _ rfl w1.heap.size 63 i0 _ 2 16 underlying23 hi0 hz0 hz1 hz2 rfl (by decide) (.slice A2 0 c2) 0 _ rfl (World.ownsRow.alloc (show (wr.alloc _).drew.ownsRow _ _ _ _ _ _ from ho.out.alloc _) _) _ (some ⟨_,0,none⟩) 1 1 [.int .i64 lo,.int .i64 hi] rfl HRN.out (by intro u hu;simp at hu;rcases hu with rfl | rfl<;>rfl) h63 (by omega) (by simp;omega) ?_);intro A3 c3 w3 ho3 hg3 hat3);go_roundw
      case rel=>
       refine⟨j+1,0+1,c3,A3,by go_num,rfl,by omega,by omega,(((hb.alloc hbs _).drew).alloc (by simp;omega) _).trans (Jb hg3 (by simp;omega) (fun j hj=>JM ho.out j hj)),?_,?_⟩
       ·rw[HT2.out,Xb];exact ho3
       ·show _=_;rw[HT2.out,Eb,hlen.out];rfl
      case measure=>simp[intOf];omega
     ·obtain⟨p,rfl⟩:∃p,q=p+1:=⟨q - 1,by omega⟩;obtain⟨u,t,hu⟩:∃u t,Sn.put (cc.take j)=u++[t]:=⟨_,_,(FS (by intro e;have:=hlen.out;rw[e] at this;cases this)).symm⟩;obtain⟨b1,b2,b3⟩:=hpo t (by rw[hu];simp);have hul:u.length=p:=by have:=hlen.out;rw[hu,Eb] at this;simpa using this
      obtain⟨G,cap,hv,hGb,hGs⟩:=ho.out.form (by omega);injection hv with hv1 _ hv3;subst hv1 hv3;have hcell:∀V:World,V.ownsRow w1.heap.size 63 2 (.slice (some ⟨G,0,none⟩) (p+1) c2) (p+1) (sv (Sn.put (cc.take j)))->V.cell? ⟨G,p * 2+1,none⟩=some (.int .i64 t.2):=fun V hV=>by
       obtain⟨b',o',hA',_,hc0,hc1⟩:=(Rd.of_own hV).stamp (k:=p) hlen.out (by omega);injection hA' with hA';injection hA' with e1 e2;subst e1 e2;rw[EU] at hc1;rw[hc1];have:(Sn.put (cc.take j))[p]'(by rw[hlen.out];omega)=t:=by
        rw[List.getElem_of_eq hu,FO (by omega)];simp[hul]
       rw[this]
      have ho1:((wr.alloc (.cells #[.int .i64 lo,.int .i64 hi] 63)).drew).ownsRow w1.heap.size 63 2 (.slice (some ⟨G,0,none⟩) (p+1) c2) (p+1) (sv (Sn.put (cc.take j))):=ho.out.alloc _;have hG:=hcell _ ho1;have hS1:=And.intro (HXX.out _ kw).1 (And.intro (HXX.out _ kw).2 hG);have HO:=Ja ho1;have HUL:=Ja hul;have HGB:=Ja hGb;have HG:=Ja hG;have hGne:G≠wr.heap.size:=by omega
      have hzw:IntKind.i64.wrap (t.2+1)=t.2+1:=EJ _ (by omega);have hzp:IntKind.i64.wrap (p:Int)=(p:Int):=EJ _ (by omega);have hpa:(0:Int)<=(p:Int):=by omega
      have hpb:(p:Int) < (p:Int)+1:=by omega
      have hpc:((p:Int)).toNat=p:=by omega
      obtain⟨t1,t2⟩:=t;dsimp only at b1 b2 b3 hG hzw hS1 HG;by_cases hc:lo<=t2+1
      ·have HT2:=Ja (show Sn.put (cc.take (j+1))=u++[(t1,max t2 hi)] by rw[HT.out,hu,Sn.KJ,Ei hc]);have HU:=Ja hu;have HPP:=Ja hpo;clear hcell ho1 hu hul hpo hGb hG;go_wp2;refine Jl fun KK hKK=>?_;refine Eg (S:=(fun V=>V.cell? ⟨wr.heap.size,0,none⟩=some (.int .i64 lo)/\V.cell? ⟨wr.heap.size,1,none⟩=some (.int .i64 hi)/\V.cell? ⟨G,p * 2+1,none⟩=some (.int .i64 t2))) (by kernel_rfl) (by first | exact hS1) (fun hHeld=>?_);refine Qx 0 44 hS1 ?_;refine puB 1 45 ((.bool true)) hS1 ?_;refine Qx 2 46 hS1 ?_;refine Qx 3 47 hS1 ?_;refine Qx 4 48 hS1 ?_;refine Qx 5 49 hS1 ?_;refine Qx 6 50 hS1 ?_;refine Qx 7 51 hS1 ?_;refine Qx 8 52 hS1 ?_;refine Qx 9 53 hS1 ?_;refine Qx 10 54 hS1 ?_;refine Qx 11 55 hS1 ?_;refine puB 12 56 ((.bool true)) hS1 ?_;refine Qx 13 57 hS1 ?_;refine Es (by kernel_rfl) ?_ _;refine QQ.out (hKK _ _ ?_);clear hS1;go_wp2_with fail;have kw2:=kw.drew;refine Jl fun KK hKK=>?_;refine Eg (S:=(fun V=>V.cell? ⟨wr.heap.size,0,none⟩=some (.int .i64 lo)/\V.cell? ⟨wr.heap.size,1,none⟩=some (.int .i64 hi))) (by kernel_rfl) (by first | exact HXX.out _ kw2 | exact hS9) (fun hHeld=>?_);refine Jc 0 58 1 59 (by first | exact HXX.out _ kw2 | exact hS9) ?_;refine Jc 2 60 3 61 (by first | exact HXX.out _ kw2 | exact hS9) ?_;refine Jc 4 62 5 63 (by first | exact HXX.out _ kw2 | exact hS9) ?_;refine Jc 6 64 7 65 (by first | exact HXX.out _ kw2 | exact hS9) ?_;refine Jc 9 67 10 68 (by first | exact HXX.out _ kw2 | exact hS9) ?_;refine Qa 8 fun K hK=>?_;have qg:=HG.out;go_simp;clear qg;refine hK.out _ _ (by first | exact HXX.out _ kw2 | exact hS9) (fun hHeld=>?_);clear hK K;refine Jc 11 69 12 70 (by first | exact HXX.out _ kw2 | exact hS9) ?_;refine Qx 13 71 (by first | exact HXX.out _ kw2 | exact hS9) ?_;refine Qa 14 fun K hK=>?_;have qg:=HG.out;have qf:=(Zx (j:=p * 2+1) HO.out (by omega) (.int .i64 0)).2.2;go_simp;clear qg qf;have hX9:=Jm.new (wr.setCell ⟨G,p * 2+1,none⟩ (.int .i64 (max t2 hi))) 63 #[.int .i64 lo,.int .i64 hi];rw[World.size_setCell] at hX9;have hX9:Jm (((wr.setCell ⟨G,p * 2+1,none⟩ (.int .i64 (max t2 hi))).alloc (.cells #[.int .i64 lo,.int .i64 hi] 63)).drew.drew) wr.heap.size 63 #[.int .i64 lo,.int .i64 hi]:=hX9;have hS9:=And.intro (hX9.cell 0) (hX9.cell 1);refine hK.out _ _ (by first | exact HXX.out _ kw2 | exact hS9) (fun hHeld=>?_);clear hK K;refine Es (by kernel_rfl) ?_ _;refine QQ.out (hKK _ _ ?_);go_wp2;go_roundw
       case rel=>
        have hoc:=Zx (j:=p * 2+1) ho.out (by omega) (.int .i64 (max t2 hi));have ho5:=hoc.1.alloc (.cells #[.int .i64 lo,.int .i64 hi] 63);rw[HU.out,<-HUL.out,JgR] at ho5;refine⟨j+1,p+1,c2,some ⟨G,0,none⟩,by go_num,rfl,by omega,by omega,(((hb.setCell (p:=⟨G,p * 2+1,none⟩) HGB.out _).alloc (by simp;exact hbs) _).drew).drew,?_,?_⟩
        ·rw[HT2.out,<-HUL.out];exact ho5
        ·show _=_;rw[HT2.out,Eb,HUL.out];rfl
       case measure=>simp[intOf];omega
      ·have HT2:=Ja (show Sn.put (cc.take (j+1))=Sn.put (cc.take j)++[(lo,hi)] by rw[HT.out,hu,Sn.KJ,Ef hc]);clear hcell ho1 hu hul hpo hGb hG;go_wp2;refine Jl fun KK hKK=>?_;refine Eg (S:=(fun V=>V.cell? ⟨wr.heap.size,0,none⟩=some (.int .i64 lo)/\V.cell? ⟨wr.heap.size,1,none⟩=some (.int .i64 hi)/\V.cell? ⟨G,p * 2+1,none⟩=some (.int .i64 t2))) (by kernel_rfl) (by first | exact hS1) (fun hHeld=>?_);refine Qx 0 44 hS1 ?_;refine puB 1 45 ((.bool true)) hS1 ?_;refine Qx 2 46 hS1 ?_;refine Qx 3 47 hS1 ?_;refine Qx 4 48 hS1 ?_;refine Qx 5 49 hS1 ?_;refine Qx 6 50 hS1 ?_;refine Qx 7 51 hS1 ?_;refine Qx 8 52 hS1 ?_;refine Qx 9 53 hS1 ?_;refine Qx 10 54 hS1 ?_;refine Qx 11 55 hS1 ?_;refine puB 12 56 ((.bool false)) hS1 ?_;refine Qx 13 57 hS1 ?_;refine Es (by kernel_rfl) ?_ _;refine QQ.out (hKK _ _ ?_);go_wp2_with (at_builtin;go_must (refine Jh _ rfl (.tmp 72) (.tmp 74) _ rfl w1.heap.size 63 i0 _ 2 16 underlying23 hi0 hz0 hz1 hz2 rfl (by decide) (.slice (some ⟨G,0,none⟩) (p+1) c2) (p+1) _ rfl (World.ownsRow.alloc (show (wr.alloc _).drew.ownsRow _ _ _ _ _ _ from ho.out.alloc _) _) _ (some ⟨_,0,none⟩) 1 1 [.int .i64 lo,.int .i64 hi] rfl HRN.out (by intro u hu;simp at hu;rcases hu with rfl | rfl<;>rfl) h63 (by omega) (by simp;omega) ?_);intro A3 c3 w3 ho3 hg3 hat3);go_roundw
       case rel=>
        refine⟨j+1,(p+1)+1,c3,A3,by go_num,rfl,by omega,by omega,(((hb.alloc hbs _).drew).alloc (by simp;omega) _).trans (Jb hg3 (by simp;omega) (fun j hj=>JM ho.out j hj)),?_,?_⟩
        ·rw[HT2.out,Xb];exact ho3
        ·show _=_;rw[HT2.out,Eb,hlen.out];rfl
       case measure=>simp[intOf];omega
    ·obtain rfl:j=m:=by omega
     have he:Sn.put (cc.take j)=Sn.YW l:=by rw[Eo (by rw[HCL.out];exact Ek _),HP.out]
     have HO:=Ja ho.out;rw[he] at HO hlen;have HLN:=Ja hlen.out;have HB:=Ja (Jg HB1.out hb);clear he ho hlen hb;go_wp2;go_ret;exact⟨A2,c2,by rw[HLN.out]<;>rfl,by rw[HLN.out];exact Jk HO.out hs1,HB.out⟩
def Jd5 (w w':World) (e:Ending) (l:List Sn.Sp):Prop:=
 ∃A' c',e=.returned (.slice A' l.length c')/\w'.ownsRow w.heap.size 63 2 (.slice A' l.length c') l.length (sv l)/\Bz w w'
theorem JkR (A:OA) (n c:Nat) (l:List Sn.Sp) (w:World) (hl:l.length=n) (hR:Rd w w.heap.size 2 A n c (sv l)) (hn:n<=8796093022208):
  Calls prog 210 #[.slice A n c] w fun e w'=>Jd5 w w' e (Sn.Ko l):=by
 obtain⟨i0,hi0,hz0,hz1,hz2⟩:=EN YC;have h1max:1<=maxLen:=by unfold maxLen;omega
 have htl:=Sn.UI l;have hTF:=Sn.Jow (Sn.OM l);have HRS:=Ja (Sn.Jmz l);have HTD:=Ja (Od A n c l w hl hR hn);clear hR hl;generalize Sn.YW l=T at htl hTF HRS HTD;go_enter func210,ntmps210;go_wp2_with (go_at_call 208;go_must (refine HTD.out.mono ?_);rintro e w1 ⟨A1,c1,rfl,ho1,hb1⟩);have HR1:=Ja (Rd.of_own ho1);have HB1:=Ja hb1;have hs1:=hb1.size;have HTF:=Ja hTF;clear ho1 hb1 hTF HTD;generalize hm:T.length=m at htl HR1;have HM:=Ja hm;clear hm;go_loopw [3,4,10] (fun v3 v4 v10 wr=>∃(k q c':Nat) (f:Int) (A':OA) (u:List Sn.Sp),v10=.int .i64 k/\v4=.int .i64 f/\v3=.slice A' q c'/\k<=m/\q<=k/\0<=f/\f<=256/\Bz w1 wr/\Hid (wr.ownsRow w1.heap.size 63 2 (.slice A' q c') q (sv u))/\Hid (u.length=q)/\Hid (Sn.rst 0 T=u++Sn.rst f (T.drop k))) (fun _ _ v10 _=>m - (intOf v10).toNat)
 case atStart=>exact⟨0,0,0,0,none,[],rfl,rfl,rfl,by omega,by omega,by omega,by omega,Ec _ _,ED _ _ _ _,rfl,rfl⟩
 case round=>
  obtain⟨k,q,c',f,A',u,rfl,rfl,rfl,hk,hq,hf0,hf1,hb,ho,hlen,hr⟩:=hrel;have hbs:=hb.size;by_cases hlt:k < m
  ·obtain⟨bb,o,rfl,hab,g0,g1⟩:=(HR1.out.below hb).stamp HM.out hlt;have hkl:k < T.length:=by rw[HM.out];exact hlt
   obtain⟨a1,a2,a3⟩:=HTF.out _ (En hkl);have hd:Sn.rst f (T.drop k)=(if f < (T[k]'hkl).1 then [(f,(T[k]'hkl).1 - 1)] else [])++Sn.rst ((T[k]'hkl).2+1) (T.drop (k+1)):=by
    rw[Eh hkl,Sn.rst]
   have HT:=Ja hd;clear hd;generalize (T[k]'hkl)=s at g0 g1 HT a1 a2 a3;obtain⟨lo,hi⟩:=s;dsimp only at g0 g1 a1 a2 a3;have h63:q+1<=maxLen:=by unfold maxLen;omega
   have hw1:IntKind.i64.wrap (lo - 1)=lo - 1:=EJ _ (by omega);have hw2:IntKind.i64.wrap (hi+1)=hi+1:=EJ _ (by omega);by_cases hc:f < lo
   ·have HC:=Ja (show Sn.rst f (T.drop k)=[(f,lo - 1)]++Sn.rst (hi+1) (T.drop (k+1)) by rw[HT.out];simp only;rw[Ei hc]);have hRn:Rd ((wr.alloc (.cells #[.int .i64 lo,.int .i64 hi] 63)).alloc (.cells #[.int .i64 f,.int .i64 (lo - 1)] 63)) (wr.heap.size+1+1) 2 (some ⟨wr.heap.size+1,0,none⟩) 1 1 [.int .i64 f,.int .i64 (lo - 1)]:=by
     have:=Rd.new (wr.alloc (.cells #[.int .i64 lo,.int .i64 hi] 63)) 63 2 1 #[.int .i64 f,.int .i64 (lo - 1)] rfl h1max
     rwa [El] at this
    have HRN:=Ja hRn;clear hRn hkl;go_wp2_with (at_builtin;go_must (refine Jh _ rfl (.tmp 18) (.tmp 24) _ rfl w1.heap.size 63 i0 _ 2 16 underlying23 hi0 hz0 hz1 hz2 rfl (by decide) (.slice A' q c') q _ rfl ((ho.out.alloc _).alloc _) _ (some ⟨_,0,none⟩) 1 1 [.int .i64 f,.int .i64 (lo - 1)] rfl HRN.out (by intro u hu;simp at hu;rcases hu with rfl | rfl<;>rfl) h63 (by omega) (by simp;omega) ?_);intro A3 c3 w3 ho3 hg3 hat3;have hX:=((Jm.new wr 63 #[.int .i64 lo,.int .i64 hi]).alloc _).grown hg3 (fun hE=>by have:=(ho.out.lt _ hE.symm).2;omega);have hX0:w3.cell? ⟨wr.heap.size,0,none⟩=some (.int .i64 lo):=hX.cell 0;have hX1:w3.cell? ⟨wr.heap.size,1,none⟩=some (.int .i64 hi):=hX.cell 1;clear hX);have hb3:=((hb.alloc hbs _).alloc (by simp;omega) _).trans (Jb hg3 (by simp;omega) (fun j hj=>JM ho.out j hj));go_roundw
    case rel=>
     refine⟨k+1,q+1,c3,hi+1,A3,u++[(f,lo - 1)],by go_num,rfl,rfl,by omega,by omega,by omega,by omega,hb3,?_,?_,?_⟩
     ·rw[Xb];exact ho3
     ·show _=_;rw[Eb,hlen.out];rfl
     ·show _=_;rw[hr.out,HC.out,Er]
    case measure=>simp[intOf];omega
   ·have HC:=Ja (show Sn.rst f (T.drop k)=Sn.rst (hi+1) (T.drop (k+1)) by rw[HT.out];simp only;rw[Ef hc];rfl);clear hkl;go_wp2;go_roundw
    case rel=>exact⟨k+1,q,c',hi+1,A',u,by go_num,rfl,rfl,by omega,by omega,by omega,by omega,hb.alloc hbs _,ho.out.alloc _,hlen,by show _=_;rw[hr.out,HC.out]⟩
    case measure=>simp[intOf];omega
  ·obtain rfl:k=m:=by omega
   have hr1:Sn.rst 0 T=u++Sn.rst f []:=by
    have:=hr.out
    rwa [Ed (by rw[HM.out];exact Ek _)] at this
   rw[HRS.out] at hr1;have HR:=Ja hr1;clear hr1;have h63:q+1<=maxLen:=by unfold maxLen;omega
   by_cases hc:f<=255
   ·have HC:=Ja (show Sn.Ko l=u++[(f,255)] by rw[HR.out,Sn.rst,Ei hc]);have HRN:=Ja (Rd.new wr 63 2 1 #[.int .i64 f,.int .i64 255] rfl h1max);go_wp2_with (at_builtin;go_must (refine Jh _ rfl (.tmp 32) (.tmp 35) _ rfl w1.heap.size 63 i0 _ 2 16 underlying23 hi0 hz0 hz1 hz2 rfl (by decide) (.slice A' q c') q _ rfl (ho.out.alloc _) _ (some ⟨_,0,none⟩) 1 1 [.int .i64 f,.int .i64 255] rfl HRN.out (by intro u hu;simp at hu;rcases hu with rfl | rfl<;>rfl) h63 (by omega) (by simp;omega) ?_);intro A3 c3 w3 ho3 hg3 hat3);go_ret;have hel:(Sn.Ko l).length=q+1:=by rw[HC.out,Eb,hlen.out];rfl
    refine⟨A3,c3,by rw[hel]<;>rfl,?_,Jg HB1.out ((hb.alloc hbs _).trans (Jb hg3 (by simp;omega) (fun j hj=>JM ho.out j hj)))⟩;rw[hel,HC.out,Xb];exact Jk ho3 hs1
   ·have HC:=Ja (show Sn.Ko l=u by rw[HR.out,Sn.rst,Ef hc,EG]);go_wp2;go_ret;refine⟨A',c',by rw[HC.out,hlen.out]<;>rfl,?_,Jg HB1.out hb⟩;rw[HC.out,hlen.out];exact Jk ho.out hs1
theorem JjH {w:World} {base:Nat} {e:TypeId} {size n:Nat} {v:Value} {xs:List Value} (h:w.ownsRow base e size v n xs):w.drew.ownsRow base e size v n xs:=h
def Jee:Value->Nat
 | .slice _ n _=>n
 | _=>0
theorem JgL (A:OA) (n c:Nat) (l:List Sn.Sp) (B:OA) (m d:Nat) (r:List Sn.Sp) (w:World) (hl:l.length=n) (hR:Rd w w.heap.size 2 A n c (sv l)) (hn:n<=8796093022208) (hr:r.length=m) (hR2:Rd w w.heap.size 2 B m d (sv r)) (hm:m<=8796093022208):
  Calls prog 186 #[.slice A n c,.slice B m d] w fun e w'=>Jd5 w w' e (Sn.JbH l r):=by
 obtain⟨i0,hi0,hz0,hz1,hz2⟩:=EN YC;have h1max:1<=maxLen:=by unfold maxLen;omega
 have hx1:=Sn.UI l;have hy1:=Sn.UI r;have HTX:=Ja (Od A n c l w hl hR hn);have HTY:=Ja (fun (V:World) (hb:Bz w V)=>Od B m d r V hr (hR2.go hb) hm);have HMM:=Ja (Sn.Jle l r);clear hR hl hR2 hr;generalize Sn.YW l=X0 at hx1 HTX HMM;generalize Sn.YW r=Y0 at hy1 HTY HMM;go_enter func186,ntmps186;have k0:=Ec w.heap.size w;go_wp2_with (first
  | (go_at_call 208;have hbx:=hb1;go_must (refine(HTY.out _ hbx).mono ?_);clear hbx;rintro e w2 ⟨A2,c2,rfl,ho2,hb2⟩)
  | (go_at_call 208;go_must (refine HTX.out.mono ?_);rintro e w1 ⟨A1,c1,rfl,ho1,hb1⟩))
 have HX0:=Ja ((Rd.of_own ho1).go hb2);have HY0:=Ja (Rd.of_own ho2);have HB:=Ja (Jg hb1 hb2);have hs2:=HB.out.size;clear ho1 hb1 ho2 hb2 k0 HTX HTY;have hsl:∀(A:OA) (n c:Nat),1<=n->∀W,(Instr.slice 23 (.slice A n c) (some (.int .i64 1)) none none).run prog W=.ok (.slice (Qu 2 A c 1) (n - 1) (c - 1)) W:=fun A n c h W=>Yh W 23 63 2 underlying23 (fun _=>by kernel_rfl) A n c .i64 1 1 rfl h;have HSL:=Ja hsl;clear hsl;go_loopw [5,6,7] (fun v5 v6 v7 wr=>∃(n5 c5 n6 c6 q c':Nat) (A5 A6 A':OA) (X Y u:List Sn.Sp),v5=.slice A5 n5 c5/\v6=.slice A6 n6 c6/\v7=.slice A' q c'/\q+n5+n6<=256/\Bz w2 wr/\Hid (Rd wr w2.heap.size 2 A5 n5 c5 (sv X))/\Hid (Rd wr w2.heap.size 2 A6 n6 c6 (sv Y))/\Hid (X.length=n5)/\Hid (Y.length=n6)/\Hid (wr.ownsRow w2.heap.size 63 2 (.slice A' q c') q (sv u))/\Hid (u.length=q)/\Hid (Sn.JbH l r=u++Sn.mtg X Y)) (fun v5 v6 _ _=>Jee v5+Jee v6)
 case atStart=>exact⟨_,_,_,_,0,0,_,_,none,X0,Y0,[],rfl,rfl,rfl,by omega,Ec _ _,HX0,HY0,rfl,rfl,ED _ _ _ _,rfl,by rw[<-HMM.out];rfl⟩
 case round=>
  obtain⟨n5,c5,n6,c6,q,c',A5,A6,A',X,Y,u,rfl,rfl,rfl,hq,hb,HX,HY,HXL,HYL,ho,hlen,hr⟩:=hrel;have hbs:=hb.size;have done:(n5=0\/n6=0)->Sn.JbH l r=u:=fun h=>by
   rw[hr.out];rcases h with h | h
   ·rw[Ey (HXL.out.trans h),Sn.JeH,EG]
   ·rw[Ey (HYL.out.trans h),Sn.Jf2,EG]
  by_cases h5:n5=0
  ·have HD:=Ja (done (.inl h5));clear done;subst h5;go_wp2;go_ret;refine⟨A',c',by rw[HD.out,hlen.out]<;>rfl,?_,Jg HB.out hb⟩;rw[HD.out,hlen.out];exact Jk ho.out hs2
  ·by_cases h6:n6=0
   ·have HD:=Ja (done (.inr h6));clear done;subst h6;have h50:0 < n5:=by omega
    go_wp2;go_ret;refine⟨A',c',by rw[HD.out,hlen.out]<;>rfl,?_,Jg HB.out hb⟩;rw[HD.out,hlen.out];exact Jk ho.out hs2
   ·clear done;have h50:0 < n5:=by omega
    have h60:0 < n6:=by omega
    obtain⟨bx,ox,rfl,hbx,gx0,gx1⟩:=HX.out.stamp HXL.out h50;obtain⟨bz,oz,rfl,hbz,gz0,gz1⟩:=HY.out.stamp HYL.out h60;obtain⟨⟨s1,s2⟩,X,rfl⟩:∃s X',X=s :: X':=by
     rcases X with _ | ⟨s,X⟩
     ·exact absurd HXL.out.symm h5
     ·exact⟨s,X,rfl⟩
    obtain⟨⟨t1,t2⟩,Y,rfl⟩:∃s X',Y=s :: X':=by
     rcases Y with _ | ⟨s,X⟩
     ·exact absurd HYL.out.symm h6
     ·exact⟨s,X,rfl⟩
    simp only[List.getElem_cons_zero,NE,Nat.add_zero] at gx0 gx1 gz0 gz1;have hX:=fun (V:World) (hv:Below w2.heap.size wr V)=>(show V.cell? ⟨bx,ox,none⟩=some (.int .i64 s1)/\V.cell? ⟨bx,ox+1,none⟩=some (.int .i64 s2)/\V.cell? ⟨bz,oz,none⟩=some (.int .i64 t1)/\V.cell? ⟨bz,oz+1,none⟩=some (.int .i64 t2) from
     ⟨(hv.cell (p:=⟨bx,ox,none⟩) hbx).trans gx0,(hv.cell (p:=⟨bx,ox+1,none⟩) hbx).trans gx1,(hv.cell (p:=⟨bz,oz,none⟩) hbz).trans gz0,(hv.cell (p:=⟨bz,oz+1,none⟩) hbz).trans gz1⟩)
    have HC:=Ja hX;clear hX gx0 gx1 gz0 gz1;have k0:=(Ec w2.heap.size wr).drew;have k1:=((Ec w2.heap.size wr).drew).alloc hbs (.cells #[.int .i64 0,.int .i64 0] 63);have k2:=(((Ec w2.heap.size wr).drew).alloc hbs (.cells #[.int .i64 (max s1 t1),.int .i64 (min s2 t2)] 63));go_wp2_with fail;refine Jl fun KK hKK=>?_;refine Eg (S:=(fun V=>V.cell? ⟨bx,ox,none⟩=some (.int .i64 s1)/\V.cell? ⟨bx,ox+1,none⟩=some (.int .i64 s2)/\V.cell? ⟨bz,oz,none⟩=some (.int .i64 t1)/\V.cell? ⟨bz,oz+1,none⟩=some (.int .i64 t2))) (by kernel_rfl) (by first | exact HC.out _ k0 | exact HC.out _ k1 | exact HC.out _ k2) (fun hHeld=>?_);refine Jc 0 21 1 22 (by first | exact HC.out _ k0 | exact HC.out _ k1 | exact HC.out _ k2) ?_;refine Jc 2 23 3 24 (by first | exact HC.out _ k0 | exact HC.out _ k1 | exact HC.out _ k2) ?_;refine Jc 4 25 5 26 (by first | exact HC.out _ k0 | exact HC.out _ k1 | exact HC.out _ k2) ?_;refine Jc 6 27 7 28 (by first | exact HC.out _ k0 | exact HC.out _ k1 | exact HC.out _ k2) ?_;refine Jc 8 29 9 30 (by first | exact HC.out _ k0 | exact HC.out _ k1 | exact HC.out _ k2) ?_;refine Jc 10 31 11 32 (by first | exact HC.out _ k0 | exact HC.out _ k1 | exact HC.out _ k2) ?_;refine Jc 12 33 13 34 (by first | exact HC.out _ k0 | exact HC.out _ k1 | exact HC.out _ k2) ?_;refine Jc 14 35 15 36 (by first | exact HC.out _ k0 | exact HC.out _ k1 | exact HC.out _ k2) ?_;refine Jc 16 37 17 38 (by first | exact HC.out _ k0 | exact HC.out _ k1 | exact HC.out _ k2) ?_;refine Qx 18 39 (by first | exact HC.out _ k0 | exact HC.out _ k1 | exact HC.out _ k2) ?_;refine Qa 19 fun K hK=>?_;go_simp;refine hK.out _ _ (by first | exact HC.out _ k0 | exact HC.out _ k1 | exact HC.out _ k2) (fun hHeld=>?_);clear hK K;refine Qa 20 fun K hK=>?_;go_simp;refine hK.out _ _ (by first | exact HC.out _ k0 | exact HC.out _ k1 | exact HC.out _ k2) (fun hHeld=>?_);clear hK K;refine Es (by kernel_rfl) ?_ _;refine QQ.out (hKK _ _ ?_);have q5:=HSL.out (some ⟨bx,ox,none⟩) n5 c5 h50;have q6:=HSL.out (some ⟨bz,oz,none⟩) n6 c6 h60;have k3:=(((Ec w2.heap.size wr).alloc hbs (.cells #[.int .i64 (max s1 t1),.int .i64 (min s2 t2)] 63)).drew);have h63:q+1<=maxLen:=by unfold maxLen;omega
    clear k0 k1 k2;by_cases hc:max s1 t1<=min s2 t2
    ·have HBO:=Ja (show Sn.Kf (s1,s2) (t1,t2)=[(max s1 t1,min s2 t2)] by unfold Sn.Kf;exact Ei hc);have hRn:Rd ((wr.alloc (.cells #[.int .i64 (max s1 t1),.int .i64 (min s2 t2)] 63)).drew.alloc (.cells #[.int .i64 (max s1 t1),.int .i64 (min s2 t2)] 63)) (wr.heap.size+1+1) 2 (some ⟨wr.heap.size+1,0,none⟩) 1 1 [.int .i64 (max s1 t1),.int .i64 (min s2 t2)]:=by
      have:=Rd.new (wr.alloc (.cells #[.int .i64 (max s1 t1),.int .i64 (min s2 t2)] 63)).drew 63 2 1 #[.int .i64 (max s1 t1),.int .i64 (min s2 t2)] rfl h1max
      rwa [show (wr.alloc (.cells #[.int .i64 (max s1 t1),.int .i64 (min s2 t2)] 63)).drew.heap.size=wr.heap.size+1 from El _ _] at this
     have HRN:=Ja hRn;have k4:=k3.alloc (by show w2.heap.size<=(wr.alloc _).heap.size;simp;omega) (.cells #[.int .i64 (max s1 t1),.int .i64 (min s2 t2)] 63);clear hRn;go_wp2_with (at_builtin;go_must (refine Jh _ rfl (.tmp 45) (.tmp 47) _ rfl w2.heap.size 63 i0 _ 2 16 underlying23 hi0 hz0 hz1 hz2 rfl (by decide) (.slice A' q c') q _ rfl (World.ownsRow.alloc (show (wr.alloc _).drew.ownsRow _ _ _ _ _ _ from ho.out.alloc _) _) _ (some ⟨_,0,none⟩) 1 1 [.int .i64 (max s1 t1),.int .i64 (min s2 t2)] rfl HRN.out (by intro u hu;simp at hu;rcases hu with rfl | rfl<;>rfl) h63 (by omega) (by simp;omega) ?_);intro A3 c3 w3 ho3 hg3 hat3);have kb3:=k4.trans (Jb hg3 (by simp;omega) (fun j hj=>JM ho.out j hj));obtain⟨g0,g1,g2,g3⟩:=HC.out _ kb3;replace ho3:w3.ownsRow w2.heap.size 63 2 (.slice A3 (q+1) c3) (q+1) (sv (u++[(max s1 t1,min s2 t2)])):=by rw[Xb];exact ho3
     clear hg3 hat3 k4 k3;go_quiet (fail);by_cases hd:s2 < t2
     ·have HM:=Ja (show Sn.mtg ((s1,s2) :: X) ((t1,t2) :: Y)=Sn.Kf (s1,s2) (t1,t2)++Sn.mtg X ((t1,t2) :: Y) by rw[Sn.Of,Ei hd]);go_wp2_with fail;go_roundw
      case rel=>
       refine⟨n5 - 1,c5 - 1,n6,c6,q+1,c3,Qu 2 (some ⟨bx,ox,none⟩) c5 1,some ⟨bz,oz,none⟩,A3,X,((t1,t2) :: Y),(u++[(max s1 t1,min s2 t2)]),rfl,rfl,rfl,by omega,Jr (hb.trans (kb3)) _,?_,?_,?_,?_,?_,?_,?_⟩
       ·exact Rd.drewN ((HX.out.from_ (k:=1) h50).below (kb3)) _
       ·exact Rd.drewN (HY.out.below (kb3)) _
       ·show _=_;rw[<-HXL.out];rfl
       ·exact HYL.out
       ·exact Ks ho3 _
       ·show _=_;rw[Eb,hlen.out];rfl
       ·show _=_;rw[hr.out,HM.out,HBO.out,Er]
      case measure=>simp[Jee];omega
     ·have HM:=Ja (show Sn.mtg ((s1,s2) :: X) ((t1,t2) :: Y)=Sn.Kf (s1,s2) (t1,t2)++Sn.mtg ((s1,s2) :: X) Y by rw[Sn.Of,Ef hd]);go_wp2_with fail;go_roundw
      case rel=>
       refine⟨n5,c5,n6 - 1,c6 - 1,q+1,c3,some ⟨bx,ox,none⟩,Qu 2 (some ⟨bz,oz,none⟩) c6 1,A3,((s1,s2) :: X),Y,(u++[(max s1 t1,min s2 t2)]),rfl,rfl,rfl,by omega,Jr (hb.trans (kb3)) _,?_,?_,?_,?_,?_,?_,?_⟩
       ·exact Rd.drewN (HX.out.below (kb3)) _
       ·exact Rd.drewN ((HY.out.from_ (k:=1) h60).below (kb3)) _
       ·exact HXL.out
       ·show _=_;rw[<-HYL.out];rfl
       ·exact Ks ho3 _
       ·show _=_;rw[Eb,hlen.out];rfl
       ·show _=_;rw[hr.out,HM.out,HBO.out,Er]
      case measure=>simp[Jee];omega
    ·have HBO:=Ja (show Sn.Kf (s1,s2) (t1,t2)=[] by unfold Sn.Kf;exact Ef hc);have ho4:=JjH (ho.out.alloc (.cells #[.int .i64 (max s1 t1),.int .i64 (min s2 t2)] 63));go_wp2;obtain⟨w3,hw3⟩:∃w3,w3=(wr.alloc (.cells #[.int .i64 (max s1 t1),.int .i64 (min s2 t2)] 63)).drew:=⟨_,rfl⟩;rw[<-hw3] at k3 ho4 ⊢;clear hw3;obtain⟨g0,g1,g2,g3⟩:=HC.out _ k3;go_quiet (fail);by_cases hd:s2 < t2
     ·have HM:=Ja (show Sn.mtg ((s1,s2) :: X) ((t1,t2) :: Y)=Sn.Kf (s1,s2) (t1,t2)++Sn.mtg X ((t1,t2) :: Y) by rw[Sn.Of,Ei hd]);go_wp2_with fail;go_roundw
      case rel=>
       refine⟨n5 - 1,c5 - 1,n6,c6,q,c',Qu 2 (some ⟨bx,ox,none⟩) c5 1,some ⟨bz,oz,none⟩,A',X,((t1,t2) :: Y),u,rfl,rfl,rfl,by omega,Jr (hb.trans (k3)) _,?_,?_,?_,?_,?_,?_,?_⟩
       ·exact Rd.drewN ((HX.out.from_ (k:=1) h50).below (k3)) _
       ·exact Rd.drewN (HY.out.below (k3)) _
       ·show _=_;rw[<-HXL.out];rfl
       ·exact HYL.out
       ·exact Ks ho4 _
       ·show _=_;exact hlen.out
       ·show _=_;rw[hr.out,HM.out,HBO.out,List.nil_append]
      case measure=>simp[Jee];omega
     ·have HM:=Ja (show Sn.mtg ((s1,s2) :: X) ((t1,t2) :: Y)=Sn.Kf (s1,s2) (t1,t2)++Sn.mtg ((s1,s2) :: X) Y by rw[Sn.Of,Ef hd]);go_wp2_with fail;go_roundw
      case rel=>
       refine⟨n5,c5,n6 - 1,c6 - 1,q,c',some ⟨bx,ox,none⟩,Qu 2 (some ⟨bz,oz,none⟩) c6 1,A',((s1,s2) :: X),Y,u,rfl,rfl,rfl,by omega,Jr (hb.trans (k3)) _,?_,?_,?_,?_,?_,?_,?_⟩
       ·exact Rd.drewN (HX.out.below (k3)) _
       ·exact Rd.drewN ((HY.out.from_ (k:=1) h60).below (k3)) _
       ·exact HXL.out
       ·show _=_;rw[<-HYL.out];rfl
       ·exact Ks ho4 _
       ·show _=_;exact hlen.out
       ·show _=_;rw[hr.out,HM.out,HBO.out,List.nil_append]
      case measure=>simp[Jee];omega
theorem JjY (l:List Sn.Sp):(Sn.Ko l).length<=128:=Sn.XV (Sn.Zz _)
theorem JlU (A:OA) (n c:Nat) (l:List Sn.Sp) (B:OA) (m d:Nat) (r:List Sn.Sp) (w:World) (hl:l.length=n) (hR:Rd w w.heap.size 2 A n c (sv l)) (hn:n<=8796093022208) (hr:r.length=m) (hR2:Rd w w.heap.size 2 B m d (sv r)) (hm:m<=8796093022208):
  Calls prog 187 #[.slice A n c,.slice B m d] w fun e w'=>Jd5 w w' e (Sn.JiK l r):=by
 have hq:=JjY r;have HT:=Ja (JkR B m d r w hr hR2 hm);have HM:=Ja (fun (V:World) (hb:Bz w V) (A1:OA) (c1:Nat) (h1:Rd V V.heap.size 2 A1 (Sn.Ko r).length c1 (sv (Sn.Ko r)))=>JgL A n c l A1 (Sn.Ko r).length c1 (Sn.Ko r) V hl (hR.go hb) hn rfl h1 (by omega));have HE:=Ja (Sn.JjS l r);clear hR hl hR2 hr;go_enter func187,ntmps187;go_wp2_with (first
  | (go_at_call 210;go_must (refine HT.out.mono ?_);rintro e w1 ⟨A1,c1,rfl,ho1,hb1⟩)
  | (go_at_call 186;go_must (refine(HM.out _ hb1 _ _ (Rd.of_own ho1)).mono ?_);rintro e w2 ⟨A2,c2,rfl,ho2,hb2⟩))
 go_ret;refine⟨A2,c2,by rw[HE.out]<;>rfl,?_,Jg hb1 hb2⟩;rw[<-HE.out];exact Jk ho2 hb1.size
def zv (L:List Int):List Value:=L.map (Value.int .i64)
def JeN (L:List Int):List Sn.Sp:=L.map fun o=>(o,o)
theorem JhO (A:OA) (n c:Nat) (L:List Int) (w:World) (hl:L.length=n) (hR:Rd w w.heap.size 1 A n c (zv L)) (hn:n<=8796093022208):
  Calls prog 185 #[.slice A n c] w fun e w'=>Jd5 w w' e (Sn.YW (JeN L)):=by
 obtain⟨i0,hi0,hz0,hz1,hz2⟩:=EN YC;have h1max:1<=maxLen:=by unfold maxLen;omega
 have hmx:n<=maxLen:=by unfold maxLen;omega
 have HR:=Ja hR;have HL:=Ja hl;have HT:=Ja (fun (V:World) (A1:OA) (c1:Nat) (h:Rd V V.heap.size 2 A1 n c1 (sv (JeN L)))=>Od A1 n c1 (JeN L) V (by unfold JeN;rw[Gl];exact hl) h hn);clear hR hl;go_enter func185,ntmps185;go_wp2;go_loopw [3,8] (fun v3 v8 wr=>∃(k c':Nat) (A':OA),v8=.int .i64 k/\v3=.slice A' k c'/\k<=n/\Bz w wr/\Hid (wr.ownsRow w.heap.size 63 2 (.slice A' k c') k (sv (JeN (L.take k))))) (fun _ v8 _=>n - (intOf v8).toNat)
 case atStart=>exact⟨0,0,none,rfl,rfl,by omega,Ec _ _,ED _ _ _ _⟩
 case round=>
  obtain⟨k,c',A',rfl,rfl,hk,hb,ho⟩:=hrel;have hbs:=hb.size;by_cases hlt:k < n
  ·obtain⟨bb,o,rfl,hab,hc⟩:=(HR.out.below hb).plain (by omega) (by omega);have hkl:k < L.length:=by rw[HL.out];exact hlt
   have g0:=hc k (.int .i64 (L[k]'hkl)) (by unfold zv;rw[Nu,Em hkl];rfl);have HT1:=Ja (show JeN (L.take (k+1))=JeN (L.take k)++[((L[k]'hkl),(L[k]'hkl))] by rw[Eq hkl];unfold JeN;rw[GM];rfl);clear hc;generalize (L[k]'hkl)=z at g0 HT1;have h63:k+1<=maxLen:=by omega
   have HRN:=Ja (Rd.new wr 63 2 1 #[.int .i64 z,.int .i64 z] rfl h1max);clear hkl;go_wp2_with (at_builtin;go_must (refine Jh _ rfl (.tmp 12) (.tmp 16) _ rfl w.heap.size 63 i0 _ 2 16 underlying23 hi0 hz0 hz1 hz2 rfl (by decide) (.slice A' k c') k _ rfl (ho.out.alloc _) _ (some ⟨_,0,none⟩) 1 1 [.int .i64 z,.int .i64 z] rfl HRN.out (by intro u hu;simp at hu;subst hu;rfl) h63 (by omega) (by simp;omega) ?_);intro A3 c3 w3 ho3 hg3 hat3);have hb3:=(hb.alloc hbs _).trans (Jb hg3 (by simp;omega) (fun j hj=>JM ho.out j hj));go_roundw
   case rel=>exact⟨k+1,c3,A3,by go_num,rfl,by omega,hb3,by rw[HT1.out,Xb];exact ho3⟩
   case measure=>simp[intOf];omega
  ·obtain rfl:k=n:=by omega
   have ho2:=ho.out;rw[Eo (by rw[HL.out];exact Ek _)] at ho2;go_wp2_with (go_at_call 208;go_must (refine(HT.out _ _ _ (Rd.of_own ho2)).mono ?_);rintro e w2 ⟨A2,c2,rfl,ho3,hb2⟩);go_ret;exact⟨A2,c2,rfl,Jk ho3 hbs,Jg hb hb2⟩
theorem Jkr (m:Nat) (hm:m<=8796093022208) (w:World):
  Calls prog 225 #[.slice none 0 0,.int .i64 m] w fun e w'=>∃A' c',e=.returned (.slice A' 0 c')/\w'.ownsRow w.heap.size 63 2 (.slice A' 0 c') 0 []/\Bz w w':=by
 by_cases h0:m=0
 ·subst h0;go_enter func225,ntmps225;go_wp2;go_ret;exact⟨none,0,rfl,ED _ _ _ _,Ec _ _⟩
 ·obtain⟨i0,hi0,hz0,hz1,hz2⟩:=EN YC;have hk0:0 < m:=by omega
  have hk1:(0:Int) < (m:Int):=by omega
  have hu:∀W,(Instr.slice 23 (.slice none 0 0) none (some (.int .i64 0)) none).run prog W=.ok (.slice none 0 0) W:=
   fun W=>JaM W 23 63 2 underlying23 (fun _=>by kernel_rfl) none 0 0 .i64 0 0 rfl Zl
  have hfit:Builtin.nextslicecap (0+m) 0 * i0.bytes<=281474976710656:=NQ (by omega) (by rw[hz2];omega);have hz:=GK (P:=prog) w 23 3 23 63 i0 _ .i64 .i64 underlying23 underlying3 hi0 hz0 none 0 0 []
   (by simp[Builtin.firstCells]) m hk0 (by rw[hz1];decide) (by omega) (by omega) (by rw[hz2];omega) hfit
  have hge:=Rl w (0+m) 0 63;have hgm:=Ng w (0+m) 0 63 (by unfold maxLen;omega);generalize grownCap w (0+m) 0 63=N at hz hge hgm;rw[EU] at hz hge;have Hz:=Ja hz;have HM:=Ja hgm;have hnn:0<=N:=FB _;clear hz hfit hgm;go_enter func225,ntmps225;go_wp2_with (at_builtin;go_must (refine Lib.wpList_append_run _ rfl _ _ _ _ rfl _ _ rfl rfl _ _ Hz.out ?_));go_ret;refine⟨_,_,rfl,⟨rfl,.inr ⟨w.heap.size,N,_,rfl,Ek _,Nb w.drew _,by omega,HM.out,?_,?_⟩⟩,(Zr.drew).alloc Zl _⟩
  ·simp only[Array.size_append,Fo,Rg];simp;omega
  ·simp
theorem Jfc (vs:List (List Sn.Sp)) (k:Nat):(vs.take k).flatten.length<=vs.flatten.length:=by
 have e:vs.flatten=(vs.take k).flatten++(vs.drop k).flatten:=by rw[<-List.flatten_append,EZ]
 rw[e,Eb];omega
theorem OE (vs:List (List Sn.Sp)) (k:Nat) (h:k < vs.length):(vs.take (k+1)).flatten=(vs.take k).flatten++vs[k]:=by
 rw[Eq h,List.flatten_append];simp
theorem Jgw (A:OA) (n c:Nat) (vs:List (List Sn.Sp)) (w:World) (hR:RdL w w.heap.size A n c vs) (hsz:vs.flatten.length<=8796093022208):
  Calls prog 209 #[.slice A n c] w fun e w'=>Jd5 w w' e vs.flatten:=by
 obtain⟨i0,hi0,hz0,hz1,hz2⟩:=EN YC;have hmx:n<=9223372036854775807:=by have h1:=hR.cap;have h2:=hR.max;unfold maxLen at h2;omega
 have HL:=Ja hR.len;have HR:=Ja hR;have HZ:=Ja fun k=>EY (Jfc vs k) hsz;clear hR hsz;go_enter func209,ntmps209;go_wp2;go_loopw [3,11] (fun v3 v11 wr=>∃k:Nat,k<=n/\v11=.int .i64 k/\v3=.int .i64 ((vs.take k).flatten.length:Nat)/\w=wr) (fun _ v11 _=>n - (intOf v11).toNat)
 case atStart=>exact⟨0,by omega,rfl,rfl,rfl⟩
 case round=>
  obtain⟨k,hk,rfl,rfl,rfl⟩:=hrel;have hq:=HZ.out k;have hq2:=HZ.out (k+1);by_cases hlt:k < n
  ·have hkv:k < vs.length:=by rw[HL.out];exact hlt
   obtain⟨b,o,Ak,nk,ck,rfl,hbB,hcell,hvl,hRk⟩:=HR.out.at_ k hkv;rw[OE vs k hkv,Eb,hvl] at hq2;have HN:=Ja (show (vs.take (k+1)).flatten.length=(vs.take k).flatten.length+nk by rw[OE vs k hkv,Eb,hvl]);clear hRk hvl hkv;generalize (vs.take k).flatten.length=q at hq hq2 HN;go_wp2;go_roundw
   case rel=>exact⟨k+1,by omega,by go_num,by rw[HN.out];go_num,by first | rfl | trivial⟩
   case measure=>simp[intOf];omega
  ·obtain rfl:k=n:=by omega
   generalize (vs.take k).flatten.length=q at hq;go_wp2_with (go_at_call 225;go_must (refine(Jkr q hq _).mono ?_);rintro e w1 ⟨A1,c1,rfl,ho1,hb1⟩);have HO1:=Ja ho1;have hs1:=hb1.size;clear ho1;go_loopw [6,27] (fun v6 v27 wx=>∃(j q c':Nat) (A':OA),j<=k/\v27=.int .i64 j/\v6=.slice A' q c'/\Bz w wx/\Hid ((vs.take j).flatten.length=q)/\Hid (wx.ownsRow w.heap.size 63 2 (.slice A' q c') q (sv (vs.take j).flatten))) (fun _ v27 _=>k - (intOf v27).toNat)
   case atStart=>exact⟨0,0,c1,A1,by omega,rfl,rfl,hb1,rfl,HO1.out⟩
   case round=>
    obtain⟨j,q,c',A',hj,rfl,rfl,hb,hlen,ho⟩:=hrel;have hbs:=hb.size;have hq2:=HZ.out (j+1);by_cases hlt:j < k
    ·have hkv:j < vs.length:=by rw[HL.out];exact hlt
     obtain⟨b,o,Ak,nk,ck,rfl,hbB,hcell,hvl,hRk⟩:=(HR.out.below hb).at_ j hkv;rw[OE vs j hkv,Eb,hvl,hlen.out] at hq2;have HN:=Ja (OE vs j hkv);have HV:=Ja hvl;have HRK:=Ja hRk;have h63:q+nk<=maxLen:=by unfold maxLen;omega
     clear hRk hvl;go_wp2_with (at_builtin;go_must (refine Jh _ rfl (.tmp 31) (.tmp 32) _ rfl w.heap.size 63 i0 _ 2 16 underlying23 hi0 hz0 hz1 hz2 rfl (by decide) (.slice A' q c') q _ rfl ho.out w.heap.size Ak nk ck (sv (vs[j]'hkv)) rfl HRK.out (Ju _) h63 (by omega) (by omega) ?_);intro A3 c3 w3 ho3 hg3 hat3);go_roundw
     case rel=>
      refine⟨j+1,q+nk,c3,A3,by omega,by go_num,rfl,hb.trans (Jb hg3 hbs (fun j hj=>JM ho.out j hj)),by show _=_;rw[HN.out,Eb,HV.out,hlen.out],?_⟩;rw[HN.out,Xb];exact ho3
     case measure=>simp[intOf];omega
    ·obtain rfl:j=k:=by omega
     have ho2:=ho.out;have hl2:=hlen.out;rw[Eo (by rw[HL.out];exact Ek _)] at ho2 hl2;subst hl2;go_wp2;go_ret;exact⟨A',c',rfl,ho2,hb⟩
theorem JjT (A:OA) (n c:Nat) (vs:List (List Sn.Sp)) (w:World) (hR:RdL w w.heap.size A n c vs) (hsz:vs.flatten.length<=8796093022208):
  Calls prog 184 #[.slice A n c] w fun e w'=>Jd5 w w' e (Sn.YW vs.flatten):=by
 have HC:=Ja (Jgw A n c vs w hR hsz);have HT:=Ja (fun (V:World) (A1:OA) (c1:Nat) h=>Od A1 vs.flatten.length c1 vs.flatten V rfl h hsz);clear hR;generalize vs.flatten=L at HC HT hsz ⊢;go_enter func184,ntmps184;go_wp2_with (first
  | (go_at_call 209;go_must (refine HC.out.mono ?_);rintro e w1 ⟨A1,c1,rfl,ho1,hb1⟩)
  | (go_at_call 208;go_must (refine(HT.out _ _ _ (Rd.of_own ho1)).mono ?_);rintro e w2 ⟨A2,c2,rfl,ho2,hb2⟩))
 go_ret;exact⟨A2,c2,rfl,Jk ho2 hb1.size,Jg hb1 hb2⟩
def UA (w w':World) (e:Ending) (u:List Vc.St):Prop:=
 ∃A' c',e=.returned (.slice A' u.length c')/\w'.ownsRow w.heap.size 28 2 (.slice A' u.length c') u.length (sv u)/\Bz w w'
theorem UA.nil {w w':World} (hb:Bz w w'):UA w w' (.returned (.slice none 0 0)) []:=⟨none,0,rfl,ED _ _ _ _,hb⟩
def JQ (z:List Zn) (known:List Vc.St) (o:Int):List Vc.St:=if (zF (-1) none z && fm (-1) known)=true/\0<=o/\o<=255 then Qd z known o else []
theorem Jcj {z:List Zn} {known:List Vc.St} {o:Int} (h:zF (-1) none z=false):JQ z known o=[]:=by unfold JQ;rw[h];simp
theorem JcG {z:List Zn} {known:List Vc.St} {o:Int} (h:fm (-1) known=false):JQ z known o=[]:=by unfold JQ;rw[h];simp
theorem Jde {z:List Zn} {known:List Vc.St} {o:Int} (h:¬ (0<=o/\o<=255)):JQ z known o=[]:=by unfold JQ;rw[Ef (fun e=>h e.2)]
theorem Uq {z:List Zn} {known:List Vc.St} {o:Int} (h1:zF (-1) none z=true) (h2:fm (-1) known=true) (h3:0<=o/\o<=255):JQ z known o=Qd z known o:=by unfold JQ;rw[h1,h2,Ei ⟨rfl,h3⟩]
theorem Jcn {z:List Zn} {known:List Vc.St} {o:Int} {x:Zn} (h:z.find? (Xg o)=some x):Qd z known o=x.2:=by unfold Qd;rw[h]
theorem Jcu {z:List Zn} {known:List Vc.St} {o:Int} (h:z.find? (Xg o)=none):Qd z known o=known:=by unfold Qd;rw[h]
theorem Jc0 (A D:OA) (n c m d:Nat) (L:List (ZV×Zn)) (u0:List Vc.St) (o:Int) (w:World) (hR:Zc w w.heap.size A n c L) (hl:u0.length=m) (hR2:Rd w w.heap.size 2 D m d (sv u0)):
  Calls prog 165 #[.slice A n c,.slice D m d,.int .i64 o] w fun e w'=>UA w w' e (JQ (Jv L) u0 o):=by
 have hln:=hR.len;have G:=Zb A n c L w hR;have F:=fun (V:World) (hb:Bz w V)=>YD D m d u0 V hl (hR2.go hb);rcases hf:zF (-1) none (Jv L) with _ | _
 ·have HN:=Ja (Jcj (known:=u0) (o:=o) hf);rw[hf] at G;have G:=Ja G;clear hf hR hR2 hl F;go_enter func165,ntmps165;go_wp2_with fail;refine Jd G.out fun w1 hb1=>?_;go_wp2;go_ret;rw[HN.out];exact UA.nil hb1
 ·rcases hf2:fm (-1) u0 with _ | _
  ·have HN:=Ja (JcG (z:=Jv L) (o:=o) hf2);rw[hf] at G;rw[hf2] at F;have G:=Ja G;have F:=Ja F;clear hf hf2 hR hR2 hl;go_enter func165,ntmps165;go_wp2_with fail;refine Jd G.out fun w1 hb1=>?_;go_wp2_with fail;refine Jd (F.out _ hb1) fun w2 hb2=>?_;go_wp2;go_ret;rw[HN.out];exact UA.nil (Jg hb1 hb2)
  ·have HN:=Ja fun (h:0<=o/\o<=255)=>Uq hf hf2 h;have HN3:=Ja fun (h:¬ (0<=o/\o<=255))=>Jde (z:=Jv L) (known:=u0) h;have hsz:=Yu hf2;have HZ:=Ja fun p (hp:p∈L)=>(show p.1.n<=64 from by
    rw[<-(hR.each p hp).1];exact Yu (JbJ hf p.2 (by unfold Jv;exact EL hp)))
   rw[hf] at G;rw[hf2] at F;have G:=Ja G;have F:=Ja F;have HR:=Ja hR;have HR2:=Ja hR2;have HL:=Ja hln;have HL2:=Ja hl;have HD:=Ja fun k h=>Jeo o (Jv L) k h;have hmax:=hR.max;clear hf hf2 hR hR2 hln;by_cases c1:o < 0
   ·have HX:=Ja (HN3.out (by omega));go_enter func165,ntmps165;go_wp2_with fail;refine Jd G.out fun w1 hb1=>?_;go_wp2_with fail;refine Jd (F.out _ hb1) fun w2 hb2=>?_;go_wp2;go_ret;rw[HX.out];exact UA.nil (Jg hb1 hb2)
   by_cases c2:o > 255
   ·have HX:=Ja (HN3.out (by omega));go_enter func165,ntmps165;go_wp2_with fail;refine Jd G.out fun w1 hb1=>?_;go_wp2_with fail;refine Jd (F.out _ hb1) fun w2 hb2=>?_;go_wp2;go_ret;rw[HX.out];exact UA.nil (Jg hb1 hb2)
   have HX:=Ja (HN.out (by omega));have hlm:m<=8796093022208:=by rw[<-hl];omega
   clear hl hsz;go_enter func165,ntmps165;go_wp2_with fail;refine Jd G.out fun w1 hb1=>?_;go_wp2_with fail;refine Jd (F.out _ hb1) fun w2 hb2=>?_;have HB2:=Ja (Jg hb1 hb2);clear hb1 hb2 G F;go_wp2;go_loopw [27] (fun v27 wr=>∃(k:Nat),k<=n/\v27=.int .i64 k/\Bz w wr/\Hid ((Jv L).find? (Xg o)=((Jv L).drop k).find? (Xg o))) (fun v27 _=>n - (intOf v27).toNat)
   case atStart=>exact⟨0,by omega,rfl,HB2.out,rfl⟩
   case round=>
    obtain⟨k,hk,rfl,hb,hr⟩:=hrel;have hbs:=hb.size;by_cases hlt:k < n
    ·have hkL:k < L.length:=by rw[HL.out];exact hlt
     have hkZ:k < (Jv L).length:=by rw[JH];exact hkL
     obtain⟨b,oo,rfl,hab,g0,g1,g2⟩:=(HR.out.below hb).zone hkL;obtain⟨hvl,hRv⟩:=HR.out.each _ (En hkL);have hvz:=HZ.out _ (En hkL);have hd:=hr.out.trans (HD.out k hkZ);rw[XE L k hkL] at hd;generalize L[k]=q at g0 g1 g2 hvl hRv hvz hd;obtain⟨⟨Av,nv,cv⟩,⟨lo,hi⟩,u⟩:=q;dsimp only at g0 g1 g2 hvl hRv hvz hd;have hb1:=hb.alloc hbs (.cells #[.int .i64 lo,.int .i64 hi,.slice Av nv cv] 129);have C:=Ja (YQ Av nv cv (sv u) _ ((hRv.below hb1).more hb1.size) (Ju _) (by omega));have HDD:=Ja hd;have HVL:=Ja hvl;have HB:=Ja hb1;clear hd hr hab hvl hRv hvz hb;by_cases d1:lo<=o
     ·by_cases d2:o<=hi
      ·have HF:=Ja (show JQ (Jv L) u0 o=u by rw[HX.out];exact Jcn (HDD.out.trans (Ei (JiQ d1 d2))));go_wp2_with fail;refine C.out.mono ?_;rintro e w3 ⟨A3,c3,rfl,ho3,hb3⟩;have hs3:=HB.out.size;go_wp2;go_ret;rw[HF.out];exact⟨A3,c3,by rw[HVL.out]<;>rfl,by rw[HVL.out];exact Jk ho3 hs3,Jg HB.out hb3⟩
      ·have HF:=Ja (HDD.out.trans (Ef (by rw[Jjf d2];simp)));clear C;go_wp2;go_roundw
       case rel=>exact⟨k+1,by omega,by go_num,HB.out,HF.out⟩
       case measure=>simp[intOf];omega
     ·have HF:=Ja (HDD.out.trans (Ef (by rw[Jji d1];simp)));clear C;go_wp2;go_roundw
      case rel=>exact⟨k+1,by omega,by go_num,HB.out,HF.out⟩
      case measure=>simp[intOf];omega
    ·obtain rfl:k=n:=by omega
     have HF:=Ja (show JQ (Jv L) u0 o=u0 by rw[HX.out];exact Jcu (hr.out.trans (by rw[Ed (by rw[JH,HL.out];exact Ek _)];rfl)));have C:=Ja (YQ D m d (sv u0) _ (HR2.out.go hb) (Ju _) hlm);clear hr;go_wp2_with fail;refine C.out.mono ?_;rintro e w3 ⟨A3,c3,rfl,ho3,hb3⟩;go_wp2;go_ret;rw[HF.out];exact⟨A3,c3,by rw[HL2.out]<;>rfl,by rw[HL2.out];exact Jk ho3 hbs,Jg hb hb3⟩
theorem Ja7 (A D:OA) (n c m d:Nat) (L:List (ZV×Zn)) (u0:List Vc.St) (o:Int) (w:World) (hR:Zc w w.heap.size A n c L) (hl:u0.length=m) (hR2:Rd w w.heap.size 2 D m d (sv u0)):
  Calls prog 157 #[.slice A n c,.slice D m d,.int .i64 o] w fun e w'=>UA w w' e (JQ (Jv L) u0 o):=by
 have hln:=hR.len;have G:=XZ A n c L w hR;have F:=fun (V:World) (hb:Bz w V)=>Xo D m d u0 V hl (hR2.go hb);rcases hf:zF (-1) none (Jv L) with _ | _
 ·have HN:=Ja (Jcj (known:=u0) (o:=o) hf);rw[hf] at G;have G:=Ja G;clear hf hR hR2 hl F;go_enter func157,ntmps157;go_wp2_with fail;refine Jd G.out fun w1 hb1=>?_;go_wp2;go_ret;rw[HN.out];exact UA.nil hb1
 ·rcases hf2:fm (-1) u0 with _ | _
  ·have HN:=Ja (JcG (z:=Jv L) (o:=o) hf2);rw[hf] at G;rw[hf2] at F;have G:=Ja G;have F:=Ja F;clear hf hf2 hR hR2 hl;go_enter func157,ntmps157;go_wp2_with fail;refine Jd G.out fun w1 hb1=>?_;go_wp2_with fail;refine Jd (F.out _ hb1) fun w2 hb2=>?_;go_wp2;go_ret;rw[HN.out];exact UA.nil (Jg hb1 hb2)
  ·have HN:=Ja fun (h:0<=o/\o<=255)=>Uq hf hf2 h;have HN3:=Ja fun (h:¬ (0<=o/\o<=255))=>Jde (z:=Jv L) (known:=u0) h;have hsz:=Yu hf2;have HZ:=Ja fun p (hp:p∈L)=>(show p.1.n<=64 from by
    rw[<-(hR.each p hp).1];exact Yu (JbJ hf p.2 (by unfold Jv;exact EL hp)))
   rw[hf] at G;rw[hf2] at F;have G:=Ja G;have F:=Ja F;have HR:=Ja hR;have HR2:=Ja hR2;have HL2:=Ja hl;have hmax:=hR.max;have HL:=Ja hln;clear hf hf2 hR hR2 hln;by_cases c1:o < 0
   ·have HX:=Ja (HN3.out (by omega));go_enter func157,ntmps157;go_wp2_with fail;refine Jd G.out fun w1 hb1=>?_;go_wp2_with fail;refine Jd (F.out _ hb1) fun w2 hb2=>?_;go_wp2;go_ret;rw[HX.out];exact UA.nil (Jg hb1 hb2)
   by_cases c2:o > 255
   ·have HX:=Ja (HN3.out (by omega));go_enter func157,ntmps157;go_wp2_with fail;refine Jd G.out fun w1 hb1=>?_;go_wp2_with fail;refine Jd (F.out _ hb1) fun w2 hb2=>?_;go_wp2;go_ret;rw[HX.out];exact UA.nil (Jg hb1 hb2)
   have HX:=Ja (HN.out (by omega));have hlm:m<=8796093022208:=by rw[<-hl];omega
   clear hl hsz;go_enter func157,ntmps157;go_wp2_with fail;refine Jd G.out fun w1 hb1=>?_;go_wp2_with fail;refine Jd (F.out _ hb1) fun w2 hb2=>?_;have hb:=Jg hb1 hb2;have HB:=Ja hb;have hbs:=hb.size;have AT:=Ja (Jdb A n c L o w2 (HR.out.go hb));clear hb1 hb2 G F hb;go_wp2_with fail;refine AT.out.mono ?_;rintro e w3 ⟨rfl,hat⟩;rcases hat with ⟨i,hi,rfl,hfd⟩ | ⟨rfl,hfd⟩
   ·obtain⟨b,oo,rfl,hab,g0,g1,g2⟩:=(HR.out.below HB.out).zone hi;obtain⟨hvl,hRv⟩:=HR.out.each _ (En hi);have hvz:=HZ.out _ (En hi);have hin:(0:Int)<=(i:Int)/\(i:Int) < (n:Int):=by have:=HL.out;omega
    generalize L[i]=q at g0 g1 g2 hvl hRv hvz hfd;obtain⟨⟨Av,nv,cv⟩,⟨lo,hi2⟩,u⟩:=q;dsimp only at g0 g1 g2 hvl hRv hvz hfd;have HF:=Ja (show JQ (Jv L) u0 o=u by rw[HX.out];exact Jcn hfd);have C:=Ja (Qn Av nv cv (sv u) w2 ((hRv.below HB.out).more hbs) (Ju _) (by omega));have HVL:=Ja hvl;have HLT:=Ja (show i < n from by omega);clear hab hvl hRv hvz hfd;go_wp2_with fail;refine C.out.mono ?_;rintro e w3 ⟨A3,c3,rfl,ho3,hb3⟩;go_wp2;go_ret;rw[HF.out];exact⟨A3,c3,by rw[HVL.out]<;>rfl,by rw[HVL.out];exact Jk ho3 hbs,Jg HB.out hb3⟩
   ·have HF:=Ja (show JQ (Jv L) u0 o=u0 by rw[HX.out];exact Jcu hfd);have C:=Ja (Qn D m d (sv u0) w2 (HR2.out.go HB.out) (Ju _) hlm);clear hfd;go_wp2_with fail;refine C.out.mono ?_;rintro e w3 ⟨A3,c3,rfl,ho3,hb3⟩;go_wp2;go_ret;rw[HF.out];exact⟨A3,c3,by rw[HL2.out]<;>rfl,by rw[HL2.out];exact Jk ho3 hbs,Jg HB.out hb3⟩
end Go.Proofs.YtmbeahbgafkjfaaGreatDoor
