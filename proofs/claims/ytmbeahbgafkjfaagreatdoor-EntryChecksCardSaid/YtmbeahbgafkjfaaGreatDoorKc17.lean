/- Lemmas for the claim, layer 17. -/
import Derived.Test.YtmbeahbgafkjfaaGreatDoorKc15
import Derived.Test.YtmbeahbgafkjfaaGreatDoorKc16
set_option maxRecDepth 100000
set_option maxHeartbeats 16000000
namespace Go.Proofs.YtmbeahbgafkjfaaGreatDoor
open Go.RowKit Go.Shelf Go.Sort
theorem spanE_info:(Tryz.prog.info? 63).map (fun i=>(i.zero,i.size,i.bytes))=some (some (.agg #[.int .i64 0,.int .i64 0]),2,16):=by kernel_rfl
def encS (x:Sn.Sp):List Value:=[.int .i64 x.1,.int .i64 x.2]
theorem sv_encS (l:List Sn.Sp):sv l=l.flatMap encS:=rfl
theorem sv_get (l:List Sn.Sp) (t:Nat) (h:t < l.length * 2):(sv l)[t]?=(encS (l[t / 2]'(by omega)))[t % 2]?:=by
 have:=flat_at encS 2 (by decide) l (fun _ _=>rfl) (t / 2) (by omega) (t % 2) (by omega);rw[show t / 2 * 2+t % 2=t by omega] at this;exact this
theorem flatK_get (l:List Sn.Sp) (t:Nat) (h:t < l.length * 2):(sv l)[t]?=some ((flatK encS 2 l.toArray)[t]!):=by
 rw[sv_get l t h];have e1:(flatK encS 2 l.toArray)[t]! = (encS l.toArray[t / 2]!)[t % 2]!:=by
  rw[getElem!_pos _ t (by simp[flatK];omega)];simp[flatK]
 rw[e1,show l.toArray[t / 2]! = l[t / 2]'(by omega) by rw[getElem!_pos _ _ (by simp;omega)];simp];rcases Nat.mod_two_eq_zero_or_one t with h2 | h2<;>rw[h2]<;>rfl
theorem holds_own {w:World} {base G n c:Nat} {l:List Sn.Sp} (h:w.ownsRow base 63 2 (.slice (some ⟨G,0,none⟩) n c) n (sv l)) (hl:l.length=n):HoldsK encS 2 w G 0 l.toArray:=by
 intro j hj;have hj':j < l.length * 2:=by simpa[flatK] using hj
 obtain⟨_,h | ⟨g,cap,cur,hv,_,hg,_,_,hcs,hx⟩⟩:=h
 ·exact absurd h.1 (by simp)
 ·injection hv with hv1 _ _;injection hv1 with hv1;injection hv1 with hv1;subst hv1;refine⟨?_,by simp[World.frozen?,hg]⟩;rw[Nat.zero_add,cell_of_row w G j cur _ (0,0) hg];have h1:(sv l)[j]?=cur[j]?:=by
   rw[<-hx,List.getElem?_take,if_pos (by omega)];simp
  rw[<-h1,flatK_get l j hj'];rfl
theorem sort_own {w:World} {base G n c:Nat} {l:List Sn.Sp} (h:w.ownsRow base 63 2 (.slice (some ⟨G,0,none⟩) n c) n (sv l)) (d:Array Sn.Sp) (hd:d.size=n) (m:Nat) (os:Array Obj):
  (sortWorldK encS 2 w G 0 m d os).ownsRow base 63 2 (.slice (some ⟨G,0,none⟩) n c) n (sv d.toList)/\w.grownBy (sortWorldK encS 2 w G 0 m d os) (some G):=by
 obtain⟨hl,h | ⟨g,cap,cur,hv,hb,hg,hnc,hcm,hcs,hx⟩⟩:=h
 ·exact absurd h.1 (by simp)
 ·injection hv with hv1 _ hv3;injection hv1 with hv1;injection hv1 with hv1;subst hv1 hv3;have hlt:G < w.heap.size:=(Array.getElem?_eq_some_iff.1 hg).1;have hat:(sortWorldK encS 2 w G 0 m d os).heap[G]?=some (.cells (putCells id 0 (flatK encS 2 d) cur) 63 (0,0)):=by
   unfold sortWorldK grow putRowK putRow mapBlock «Sort».ahead;rw[Array.getElem?_append_left (by simpa using hlt)];simp[Array.getElem?_modify,hg,onCells]
  have hother:∀k,k < w.heap.size->k≠G->(sortWorldK encS 2 w G 0 m d os).heap[k]?=w.heap[k]?:=fun k hk hne=>by
   unfold sortWorldK grow putRowK putRow mapBlock «Sort».ahead;rw[Array.getElem?_append_left (by simpa using hk)];simp[Array.getElem?_modify,Ne.symm hne]
  have hfl:(flatK encS 2 d).size=n * 2:=by simp[flatK,hd]
  have hnc':n * 2<=c * 2:=Nat.mul_le_mul_right _ hnc;refine⟨⟨by rw[sv_encS,flat_len encS 2 _ (fun _ _=>rfl)];simp[hd],.inr ⟨G,c,_,rfl,hb,hat,hnc,hcm,by simp[putCells,hcs],?_⟩⟩,⟨rfl,rfl,rfl,size_sortWorldK_c encS 2 w G 0 m d os,fun k hk hne=>hother k hk (fun e=>hne (by rw[e]))⟩⟩;apply List.ext_getElem?;intro t;by_cases ht:t < n * 2
  ·rw[List.getElem?_take,if_pos ht];have h1:=flatK_get d.toList t (by simp[hd];exact ht);rw[h1];have hc:t < cur.size:=by omega
   simp only[putCells,Array.toList_mapIdx,List.getElem?_mapIdx,Array.getElem?_toList,Array.getElem?_eq_getElem hc,Option.map_some,hfl];rw[if_pos ⟨Nat.zero_le _,by omega⟩];simp
  ·rw[List.getElem?_take,if_neg ht,List.getElem?_eq_none (by rw[sv_encS,flat_len encS 2 _ (fun _ _=>rfl)];simp[hd];omega)]
theorem closure_any (x y:Sn.Sp) (W:World):Calls Tryz.prog 224 #[.agg #[.int .i64 x.1,.int .i64 x.2],.agg #[.int .i64 y.1,.int .i64 y.2]] W fun e w'=>e=.returned (.int .i64 (cmpI x.1 y.1))/\∃q os',w'=grow (W.drewN q) os':=by
 have hcon:=fun W'=>cmpI_any x.1 y.1 W';generalize cmpI x.1 y.1=r at hcon ⊢;go_enter Tryz.func224,Tryz.ntmps224;go_wp2_with (go_at_call 73;refine(hcon _).mono ?_;rintro e w' ⟨rfl,rfl⟩);go_ret;exact⟨rfl,0,_,by rw[alloc_eq_grow,alloc_eq_grow,grow_grow];rfl⟩
theorem ltLo (x y:Sn.Sp):ltOf (fun x y:Sn.Sp=>cmpI x.1 y.1) x y=decide (x.1 < y.1):=by
 unfold ltOf cmpI;by_cases h1:x.1 < y.1
 ·simp[h1]
 ·by_cases h2:y.1 < x.1<;>simp[h1,h2]
theorem swoLo:SWO (ltOf fun x y:Sn.Sp=>cmpI x.1 y.1) where
 irrefl x:=by rw[ltLo];simp
 trans x y z h1 h2:=by rw[ltLo] at *;simp at *;omega
 ntrans x y z h1 h2:=by rw[ltLo] at *;simp at *;omega
theorem agg_span:∀w,(isAgg 63).run Tryz.prog w=.ok true w:=fun _=>by kernel_rfl
theorem size_span:∀w,(Go.sizeOf 63).run Tryz.prog w=.ok 2 w:=fun _=>by kernel_rfl
theorem risS_of:∀(l:List Sn.Sp),(∀i j (hi:i < j) (hj:j < l.length),(l[i]'(by omega)).1<=l[j].1)->Sn.risS l
 | [],_=>trivial
 | s :: r,h=>⟨fun t ht=>by
   obtain⟨k,hk,rfl⟩:=List.getElem_of_mem ht;exact h 0 (k+1) (by omega) (by simpa using hk),risS_of r fun i j hi hj=>by
   have:=h (i+1) (j+1) (by omega) (by simpa using hj);simpa using this⟩
theorem sortS_own (base G n c:Nat) (l:List Sn.Sp) (w:World) (ho:w.ownsRow base 63 2 (.slice (some ⟨G,0,none⟩) n c) n (sv l)) (hl:l.length=n) (hn:n < 4611686018427387904):
  Calls Tryz.prog 223 #[.slice (some ⟨G,0,none⟩) n c,.func (.func 224) #[] #[]] w fun e w'=>e=.returned (.tuple #[]) /\
   ∃l',List.Perm l l'/\Sn.risS l'/\w'.ownsRow base 63 2 (.slice (some ⟨G,0,none⟩) n c) n (sv l')/\w.grownBy w' (some G):=by
 have eg:∀args w,(callFunc 224 args).run Tryz.prog w=.ok (.enter 224 args) w:=enters_of Tryz.func224 (by kernel_rfl) rfl;have hsz:l.toArray.size=n:=by simpa using hl
 have hG:G < w.heap.size:=(ho.lt G rfl).2;have hcon:=AnyQ.slices_SortFunc sortSp 2 agg_span size_span encS (fun _=>rfl) (fun x v hv=>by simp[encS] at hv;rcases hv with rfl | rfl<;>rfl) (fun x y:Sn.Sp=>cmpI x.1 y.1) swoLo 224 #[] G 0 c l.toArray w eg (fun _ _ _ _ x y=>closure_any x y _) (holds_own ho hl) hG (by omega);rw[hsz] at hcon;refine hcon.mono fun e w' ⟨he,d',m,os,hp,hs,hw⟩=>⟨he,d'.toList,?_,?_,?_⟩
 ·obtain⟨h1,_,h3⟩:=hp;have e1:(d'.extract 0 n).toList=d'.toList:=by rw[<-hsz,<-h1];simp
  have e2:(l.toArray.extract 0 n).toList=l:=by rw[<-hsz];simp
  rw[e1,e2] at h3;exact h3.symm
 ·refine risS_of _ fun i j hi hj=>?_;have h1:d'.size=n:=by rw[hp.1,hsz]
  have hj':j < d'.size:=by simpa using hj
  have:=hs i j (Nat.zero_le _) hi (by omega);rw[ltLo,getElem!_pos d' j hj',getElem!_pos d' i (by omega)] at this;simp at this;simpa using this
 ·rw[hw];exact sort_own ho d' (by rw[hp.1,hsz]) m os
open Go.RowKit Go.Shelf
theorem own_cell {w:World} {base G n c size j:Nat} {e:TypeId} {xs:List Value} (h:w.ownsRow base e size (.slice (some ⟨G,0,none⟩) n c) n xs) (hj:j < n * size) (u:Value):
  (w.setCell ⟨G,j,none⟩ u).ownsRow base e size (.slice (some ⟨G,0,none⟩) n c) n (xs.set j u)/\w.grownBy (w.setCell ⟨G,j,none⟩ u) (some G)/\w.frozen? ⟨G,j,none⟩=false:=by
 obtain⟨hl,h | ⟨g,cap,cur,hv,hb,hg,hnc,hcm,hcs,hx⟩⟩:=h
 ·exact absurd h.1 (by simp)
 ·injection hv with hv1 _ hv3;injection hv1 with hv1;injection hv1 with hv1;subst hv1 hv3;refine⟨⟨by simpa using hl,.inr ⟨G,c,_,rfl,hb,heap_setCell_same w G j cur e u hg,hnc,hcm,by simpa using hcs,?_⟩⟩,⟨rfl,rfl,rfl,by simp,fun k _ hne=>Below.heap_setCell w ⟨G,j,none⟩ u k (by rintro rfl;exact hne rfl)⟩,by simp[World.frozen?,hg]⟩;rw[<-hx];apply List.ext_getElem?;intro t;rw[List.getElem?_take,List.getElem?_set];by_cases ht:t < n * size
  ·rw[if_pos ht];by_cases hjt:j=t
   ·subst hjt;have:j < cur.size:=by have:=Nat.mul_le_mul_right size hnc;omega
    simp[this];omega
   ·rw[if_neg hjt,List.getElem?_take,if_pos ht];simp[hjt]
  ·rw[if_neg ht,if_neg (by omega),List.getElem?_take,if_neg ht]
theorem sv_set_last (u:List Sn.Sp) (t:Sn.Sp) (hi:Int):(sv (u++[t])).set (u.length * 2+1) (.int .i64 hi)=sv (u++[(t.1,hi)]):=by
 have e:∀r:List Sn.Sp,(sv r).length=r.length * 2:=fun r=>by rw[sv_encS,flat_len encS 2 _ (fun _ _=>rfl)]
 rw[sv_app,sv_app,List.set_append,if_neg (by rw[e];omega),e];rw[show u.length * 2+1 - u.length * 2=1 by omega];rfl
theorem put_okS (l:List Sn.Sp) (h:∀s∈l,Sn.okS s):∀t∈Sn.put l,Sn.okS t:=by
 induction hn:l.length generalizing l with
 | zero=>
  obtain rfl:=List.eq_nil_of_length_eq_zero hn;intro t ht;cases ht
 | succ n ih=>
  obtain⟨r,s,rfl⟩:∃r s,l=r++[s]:=⟨_,_,(List.dropLast_concat_getLast (by intro e;rw[e] at hn;cases hn)).symm⟩;have ihr:=ih r (fun s hs=>h s (List.mem_append_left _ hs)) (by simpa using hn);obtain⟨a1,a2,a3⟩:=h s (by simp);rw[Sn.put_snoc];rcases hp:Sn.put r with _ | ⟨x,q⟩
  ·intro t ht;rw[Sn.putS_nil,List.mem_singleton] at ht;subst ht;exact⟨a1,a2,a3⟩
  ·obtain⟨u,z,hu⟩:∃u z,x :: q=u++[z]:=⟨_,_,(List.dropLast_concat_getLast (by simp)).symm⟩;rw[hp,hu] at ihr;rw[hu,Sn.putS_snoc];obtain⟨b1,b2,b3⟩:=ihr z (by simp);split
   ·intro t ht;rcases List.mem_append.1 ht with ht | ht
    ·exact ihr t (List.mem_append_left _ ht)
    ·rw[List.mem_singleton] at ht;subst ht;exact⟨b1,by simp only;omega,by simp only;omega⟩
   ·intro t ht;rcases List.mem_append.1 ht with ht | ht
    ·exact ihr t ht
    ·rw[List.mem_singleton] at ht;subst ht;exact⟨a1,a2,a3⟩
theorem insNil_any (f:Value) (w:World):Calls Tryz.prog 241 #[.slice none 0 0,.int .i64 0,.int .i64 0,f] w fun e w'=>e=.returned (.tuple #[])/\w=w':=by
 go_enter Tryz.func241,Tryz.ntmps241;go_wp2;go_loop [8] (fun v8=>v8=.int .i64 1) (fun _=>0)
 case atStart=>exact rfl
 case round=>
  obtain rfl:=hrel;go_wp2;go_end0;exact⟨rfl,rfl⟩
theorem pdqNil_any (f:Value) (w:World):Calls Tryz.prog 229 #[.slice none 0 0,.int .i64 0,.int .i64 0,.int .i64 0,f] w fun e w'=>e=.returned (.tuple #[])/\w=w':=by
 go_enter Tryz.func229,Tryz.ntmps229;go_wp2;go_loop [1,2,3,10] (fun v1 v2 v3 v10=>v1=.int .i64 0/\v2=.int .i64 0/\v3=.int .i64 0/\v10=.bool true) (fun _ _ _ _=>0)
 case atStart=>exact⟨rfl,rfl,rfl,rfl⟩
 case round=>
  obtain⟨rfl,rfl,rfl,rfl⟩:=hrel;go_wp2_with (go_at_call 241;go_must (refine(insNil_any _ _).mono ?_);rintro e w' ⟨rfl,rfl⟩);refine bodyPost_ret (results_none rfl _ _ _) rfl ?_;exact⟨rfl,rfl⟩
theorem sortNil_any (f:Value) (w:World):Calls Tryz.prog 223 #[.slice none 0 0,f] w fun e w'=>e=.returned (.tuple #[])/\w=w':=by
 have hl:∀W,Calls Tryz.prog 227 #[.int .u64 0] W fun e w'=>e=.returned (.int .i64 0)/\W=w':=fun W=>
  (Any.bits_Len (SlLaysF0.n15.bits (P:=Tryz.prog) (ρ:=sortSp_ren) { sortSp with }) 0 W (by omega) (by omega)).mono fun _ _ ⟨he,hw⟩=>⟨he,hw.symm⟩
 go_enter Tryz.func223,Tryz.ntmps223;go_wp2_with (first
  | (go_at_call 227;go_must (refine(hl _).mono ?_);rintro e w' ⟨rfl,rfl⟩)
  | (go_at_call 229;go_must (refine(pdqNil_any _ _).mono ?_);rintro e w' ⟨rfl,rfl⟩))
 go_end0;exact⟨rfl,rfl⟩
theorem tidy_any (A:Option Addr) (n c:Nat) (l:List Sn.Sp) (w:World) (hl:l.length=n) (hR:Rd w w.heap.size 2 A n c (sv l)) (hn:n<=8796093022208):
  Calls Tryz.prog 208 #[.slice A n c] w fun e w'=>∃A' c',e=.returned (.slice A' (Sn.tidy l).length c')/\w'.ownsRow w.heap.size 63 2 (.slice A' (Sn.tidy l).length c') (Sn.tidy l).length (sv (Sn.tidy l))/\Below w.heap.size w w':=by
 obtain⟨i0,hi0,hz0,hz1,hz2⟩:=info_parts spanE_info;have h1max:1<=maxLen:=by unfold maxLen;omega
 have HR:=Hz_ hR;have HL:=Hz_ hl;clear hR hl;go_enter Tryz.func208,Tryz.ntmps208;go_wp2;go_loopw [3,12] (fun v3 v12 wr=>∃(k m c':Nat) (A':Option Addr),v12=.int .i64 k/\v3=.slice A' m c'/\k<=n/\m<=k/\Below w.heap.size w wr/\Hid (wr.ownsRow w.heap.size 63 2 (.slice A' m c') m (sv (Sn.cut (l.take k))))/\Hid ((Sn.cut (l.take k)).length=m)) (fun _ v12 _=>n - (intOf v12).toNat)
 case atStart=>exact⟨0,0,0,none,rfl,rfl,by omega,by omega,Below.refl _ _,World.ownsRow_nil _ _ _ _,rfl⟩
 case round=>
  obtain⟨k,m,c',A',rfl,rfl,hk,hm,hb,ho,hlen⟩:=hrel;have hbs:=hb.size;by_cases hlt:k < n
  ·obtain⟨bb,o,rfl,hab,g0,g1⟩:=(HR.out.below hb).stamp HL.out hlt;have hkl:k < l.length:=by rw[HL.out];exact hlt
   have HT:=Hz_ (show Sn.cut (l.take (k+1))=Sn.cut (l.take k)++(Sn.cutS (l[k]'hkl)).toList by rw[List.take_succ_eq_append_getElem hkl,Sn.cut_snoc]);have hcs:Sn.cutS (l[k]'hkl)=if max (l[k]'hkl).1 0<=min (l[k]'hkl).2 255 then some (max (l[k]'hkl).1 0,min (l[k]'hkl).2 255) else none:=rfl;generalize (l[k]'hkl)=s at g0 g1 HT hcs;obtain⟨lo,hi⟩:=s;dsimp only at g0 g1 hcs;have h63:m+1<=maxLen:=by unfold maxLen;omega
   by_cases hc:max lo 0<=min hi 255
   ·have HC:=Hz_ (show Sn.cut (l.take (k+1))=Sn.cut (l.take k)++[(max lo 0,min hi 255)] by rw[HT.out,hcs,if_pos hc];rfl);have hRn:Rd ((wr.alloc (.cells #[.int .i64 (max lo 0),.int .i64 (min hi 255)] 63)).alloc (.cells #[.int .i64 (max lo 0),.int .i64 (min hi 255)] 63)) (wr.heap.size+1+1) 2 (some ⟨wr.heap.size+1,0,none⟩) 1 1 [.int .i64 (max lo 0),.int .i64 (min hi 255)]:=by
     have:=Rd.new (wr.alloc (.cells #[.int .i64 (max lo 0),.int .i64 (min hi 255)] 63)) 63 2 1 #[.int .i64 (max lo 0),.int .i64 (min hi 255)] rfl h1max
     rwa [World.size_alloc] at this
    have HRN:=Hz_ hRn;have HHC:=Hz_ hcs;clear hcs hRn hkl;go_wp2_with (at_builtin;go_must (refine wpList_append_rd _ rfl (.tmp 29) (.tmp 31) _ rfl w.heap.size 63 i0 _ 2 16 Tryz.underlying23 hi0 hz0 hz1 hz2 rfl (by decide) (.slice A' m c') m _ rfl ((ho.out.alloc _).alloc _) _ (some ⟨_,0,none⟩) 1 1 [.int .i64 (max lo 0),.int .i64 (min hi 255)] rfl HRN.out (by intro u hu;simp at hu;rcases hu with rfl | rfl<;>rfl) h63 (by omega) (by simp;omega) ?_);intro A3 c3 w3 ho3 hg3 hat3);go_roundw
    case rel=>
     refine⟨k+1,m+1,c3,A3,by go_num,rfl,by omega,by omega,((hb.alloc hbs _).alloc (by simp;omega) _).trans (grown_below hg3 (by simp;omega) (fun j hj=>own_lt ho.out j hj)),?_,?_⟩
     ·rw[HC.out,sv_app];exact ho3
     ·show _=_;rw[HC.out,List.length_append,hlen.out];rfl
    case measure=>simp[intOf];omega
   ·have HC:=Hz_ (show Sn.cut (l.take (k+1))=Sn.cut (l.take k) by rw[HT.out,hcs,if_neg hc];simp);clear hcs hkl;go_wp2;go_roundw
    case rel=>exact⟨k+1,m,c',A',by go_num,rfl,by omega,by omega,hb.alloc hbs _,by rw[HC.out];exact ho.out.alloc _,by show _=_;rw[HC.out];exact hlen.out⟩
    case measure=>simp[intOf];omega
  ·obtain rfl:k=n:=by omega
   have hcut:l.take k=l:=List.take_of_length_le (by rw[HL.out];exact Nat.le_refl _);rw[hcut] at ho hlen;have hs:∃(Q:World->Prop),(∀V,Q V->∃cc:List Sn.Sp,Sn.put cc=Sn.tidy l/\(∀s∈cc,Sn.okS s)/\cc.length=m/\Rd V V.heap.size 2 A' m c' (sv cc)/\Below w.heap.size w V)/\Calls Tryz.prog 223 #[.slice A' m c',.func (.func 224) #[] #[]] wr fun e V=>e=.returned (.tuple #[])/\Q V:=by
    rcases A' with _ | ad
    ·obtain⟨A'',c'',hv,h1,_⟩:=own_form ho.out;have h2:=(Rd.of_own ho.out).nil rfl;have h3:=(Rd.of_own ho.out).cap;obtain rfl:m=0:=by omega
     subst h2;have hce:Sn.cut l=[]:=List.eq_nil_of_length_eq_zero hlen.out;refine⟨fun V=>wr=V,fun V hV=>⟨[],?_,(fun s hs=>by cases hs),rfl,Rd.none_,by rw[<-hV];exact hb⟩,sortNil_any _ wr⟩;have:=Sn.tidy_put (l:=l) (c:=[]) (by rw[hce]) trivial;exact this
    ·obtain⟨G,hG⟩:∃G,ad=⟨G,0,none⟩:=by
      rcases ho.out.2 with h | ⟨g,cap,cur,hv,_⟩
      ·exact absurd h.1 (by simp)
      ·injection hv with hv1 _ _;injection hv1 with hv1;exact⟨g,hv1⟩
     subst hG;refine⟨fun V=>∃l',List.Perm (Sn.cut l) l'/\Sn.risS l'/\V.ownsRow w.heap.size 63 2 (.slice (some ⟨G,0,none⟩) m c') m (sv l')/\wr.grownBy V (some G),fun V hV=>?_,sortS_own w.heap.size G m c' (Sn.cut l) wr ho.out hlen.out (by omega)⟩;obtain⟨l',hp,hr,ho',hg'⟩:=hV;exact⟨l',Sn.tidy_put hp hr,fun s hs=>Sn.cut_ok (hp.mem_iff.2 hs),by rw[<-hp.length_eq];exact hlen.out,Rd.of_own ho',hb.trans (grown_below hg' hbs (fun j hj=>by cases hj;exact(ho.out.lt G rfl).1))⟩
   obtain⟨Q,hQ,hS⟩:=hs;have HS:=Hz_ hS;have HQ:=Hz_ hQ;clear hS hQ ho hlen hcut hb hbs;go_wp2_with (go_at_call 223;go_must (refine HS.out.mono ?_);rintro e w1 ⟨rfl,hq1⟩);obtain⟨cc,hput,hok,hcl,hRc,hb1⟩:=HQ.out _ hq1;have HP:=Hz_ hput;have HOK:=Hz_ hok;have HCL:=Hz_ hcl;have HRC:=Hz_ hRc;have HB1:=Hz_ hb1;have hs1:=hb1.size;clear hput hok hcl hRc hb1 HS HQ hq1;go_loopw [6,38] (fun v6 v38 wr=>∃(j q c2:Nat) (A2:Option Addr),v38=.int .i64 j/\v6=.slice A2 q c2/\j<=m/\q<=j/\Below w1.heap.size w1 wr/\Hid (wr.ownsRow w1.heap.size 63 2 (.slice A2 q c2) q (sv (Sn.put (cc.take j))))/\Hid ((Sn.put (cc.take j)).length=q)) (fun _ v38 _=>m - (intOf v38).toNat)
   case atStart=>exact⟨0,0,0,none,rfl,rfl,by omega,by omega,Below.refl _ _,World.ownsRow_nil _ _ _ _,rfl⟩
   case round=>
    obtain⟨j,q,c2,A2,rfl,rfl,hj,hq,hb,ho,hlen⟩:=hrel;have hbs:=hb.size;by_cases hlt:j < m
    ·obtain⟨bb,o,rfl,hab,g0,g1⟩:=(HRC.out.below hb).stamp HCL.out hlt;have hkl:j < cc.length:=by rw[HCL.out];exact hlt
     have HT:=Hz_ (show Sn.put (cc.take (j+1))=Sn.putS (Sn.put (cc.take j)) (cc[j]'hkl) by rw[List.take_succ_eq_append_getElem hkl,Sn.put_snoc]);obtain⟨a1,a2,a3⟩:=HOK.out _ (List.getElem_mem hkl);have hpo:=put_okS (cc.take j) (fun s hs=>HOK.out s (List.mem_of_mem_take hs));generalize (cc[j]'hkl)=s at g0 g1 HT a1 a2 a3;obtain⟨lo,hi⟩:=s;dsimp only at g0 g1 a1 a2 a3;have h63:q+1<=maxLen:=by unfold maxLen;omega
     have hbA:Below wr.heap.size wr (wr.alloc (.cells #[.int .i64 lo,.int .i64 hi] 63)):=Zr.alloc Zl _;have hX:=Blk.new wr 63 #[.int .i64 lo,.int .i64 hi];have hRn:Rd ((wr.alloc (.cells #[.int .i64 lo,.int .i64 hi] 63)).drew.alloc (.cells #[.int .i64 lo,.int .i64 hi] 63)) (wr.heap.size+1+1) 2 (some ⟨wr.heap.size+1,0,none⟩) 1 1 [.int .i64 lo,.int .i64 hi]:=by
      have:=Rd.new (wr.alloc (.cells #[.int .i64 lo,.int .i64 hi] 63)).drew 63 2 1 #[.int .i64 lo,.int .i64 hi] rfl h1max
      rwa [show (wr.alloc (.cells #[.int .i64 lo,.int .i64 hi] 63)).drew.heap.size=wr.heap.size+1 from World.size_alloc _ _] at this
     have HRN:=Hz_ hRn;have hXX:=fun (V:World) (hv:Below (wr.alloc (.cells #[.int .i64 lo,.int .i64 hi] 63)).heap.size (wr.alloc (.cells #[.int .i64 lo,.int .i64 hi] 63)) V)=>(show V.cell? ⟨wr.heap.size,0,none⟩=some (.int .i64 lo)/\V.cell? ⟨wr.heap.size,1,none⟩=some (.int .i64 hi) from ⟨(hX.go hv).cell 0,(hX.go hv).cell 1⟩);have HXX:=Hz_ hXX;have kw:=(Below.refl (wr.alloc (.cells #[.int .i64 lo,.int .i64 hi] 63)).heap.size (wr.alloc (.cells #[.int .i64 lo,.int .i64 hi] 63))).drew;have HBX:=Hz_ hX;clear hRn hX hXX hkl;by_cases hq0:q=0
     ·subst hq0;have hpe:Sn.put (cc.take j)=[]:=List.eq_nil_of_length_eq_zero hlen.out;have HT2:=Hz_ (show Sn.put (cc.take (j+1))=Sn.put (cc.take j)++[(lo,hi)] by rw[HT.out,hpe];rfl);clear hpe hpo;go_wp2;refine region_nrm fun KK hKK=>?_;refine wp_region_held_drew (S:=(fun V=>V.cell? ⟨wr.heap.size,0,none⟩=some (.int .i64 lo)/\V.cell? ⟨wr.heap.size,1,none⟩=some (.int .i64 hi))) (by kernel_rfl) (by first | exact HXX.out _ kw) (fun hHeld=>?_);refine puA 0 44 (HXX.out _ kw) ?_;refine puB 1 45 ((.bool false)) (HXX.out _ kw) ?_;refine puA 2 46 (HXX.out _ kw) ?_;refine puC 3 47 (HXX.out _ kw) ?_;refine puC 4 48 (HXX.out _ kw) ?_;refine puC 5 49 (HXX.out _ kw) ?_;refine puC 6 50 (HXX.out _ kw) ?_;refine puC 7 51 (HXX.out _ kw) ?_;refine puC 8 52 (HXX.out _ kw) ?_;refine puC 9 53 (HXX.out _ kw) ?_;refine puC 10 54 (HXX.out _ kw) ?_;refine puC 11 55 (HXX.out _ kw) ?_;refine puC 12 56 (HXX.out _ kw) ?_;refine puA 13 57 (HXX.out _ kw) ?_;refine wpAnyH_done (by kernel_rfl) ?_ _;refine Nrm.out (hKK _ _ ?_);go_wp2_with (at_builtin;go_must (refine wpList_append_rd _ rfl (.tmp 72) (.tmp 74) _ rfl w1.heap.size 63 i0 _ 2 16 Tryz.underlying23 hi0 hz0 hz1 hz2 rfl (by decide) (.slice A2 0 c2) 0 _ rfl (World.ownsRow.alloc (show (wr.alloc _).drew.ownsRow _ _ _ _ _ _ from ho.out.alloc _) _) _ (some ⟨_,0,none⟩) 1 1 [.int .i64 lo,.int .i64 hi] rfl HRN.out (by intro u hu;simp at hu;rcases hu with rfl | rfl<;>rfl) h63 (by omega) (by simp;omega) ?_);intro A3 c3 w3 ho3 hg3 hat3);go_roundw
      case rel=>
       refine⟨j+1,0+1,c3,A3,by go_num,rfl,by omega,by omega,(((hb.alloc hbs _).drew).alloc (by simp;omega) _).trans (grown_below hg3 (by simp;omega) (fun j hj=>own_lt ho.out j hj)),?_,?_⟩
       ·rw[HT2.out,sv_app];exact ho3
       ·show _=_;rw[HT2.out,List.length_append,hlen.out];rfl
      case measure=>simp[intOf];omega
     ·obtain⟨p,rfl⟩:∃p,q=p+1:=⟨q - 1,by omega⟩;obtain⟨u,t,hu⟩:∃u t,Sn.put (cc.take j)=u++[t]:=⟨_,_,(List.dropLast_concat_getLast (by intro e;have:=hlen.out;rw[e] at this;cases this)).symm⟩;obtain⟨b1,b2,b3⟩:=hpo t (by rw[hu];simp);have hul:u.length=p:=by have:=hlen.out;rw[hu,List.length_append] at this;simpa using this
      obtain⟨G,cap,hv,hGb,hGs⟩:=ho.out.form (by omega);injection hv with hv1 _ hv3;subst hv1 hv3;have hcell:∀V:World,V.ownsRow w1.heap.size 63 2 (.slice (some ⟨G,0,none⟩) (p+1) c2) (p+1) (sv (Sn.put (cc.take j)))->V.cell? ⟨G,p * 2+1,none⟩=some (.int .i64 t.2):=fun V hV=>by
       obtain⟨b',o',hA',_,hc0,hc1⟩:=(Rd.of_own hV).stamp (k:=p) hlen.out (by omega);injection hA' with hA';injection hA' with e1 e2;subst e1 e2;rw[Nat.zero_add] at hc1;rw[hc1];have:(Sn.put (cc.take j))[p]'(by rw[hlen.out];omega)=t:=by
        rw[List.getElem_of_eq hu,List.getElem_append_right (by omega)];simp[hul]
       rw[this]
      have ho1:((wr.alloc (.cells #[.int .i64 lo,.int .i64 hi] 63)).drew).ownsRow w1.heap.size 63 2 (.slice (some ⟨G,0,none⟩) (p+1) c2) (p+1) (sv (Sn.put (cc.take j))):=ho.out.alloc _;have hG:=hcell _ ho1;have hS1:=And.intro (HXX.out _ kw).1 (And.intro (HXX.out _ kw).2 hG);have HO:=Hz_ ho1;have HUL:=Hz_ hul;have HGB:=Hz_ hGb;have HG:=Hz_ hG;have hGne:G≠wr.heap.size:=by omega
      have hzw:IntKind.i64.wrap (t.2+1)=t.2+1:=IntWalk.i64_in _ (by omega);have hzp:IntKind.i64.wrap (p:Int)=(p:Int):=IntWalk.i64_in _ (by omega);have hpa:(0:Int)<=(p:Int):=by omega
      have hpb:(p:Int) < (p:Int)+1:=by omega
      have hpc:((p:Int)).toNat=p:=by omega
      obtain⟨t1,t2⟩:=t;dsimp only at b1 b2 b3 hG hzw hS1 HG;by_cases hc:lo<=t2+1
      ·have HT2:=Hz_ (show Sn.put (cc.take (j+1))=u++[(t1,max t2 hi)] by rw[HT.out,hu,Sn.putS_snoc,if_pos hc]);have HU:=Hz_ hu;have HPP:=Hz_ hpo;clear hcell ho1 hu hul hpo hGb hG;go_wp2;refine region_nrm fun KK hKK=>?_;refine wp_region_held_drew (S:=(fun V=>V.cell? ⟨wr.heap.size,0,none⟩=some (.int .i64 lo)/\V.cell? ⟨wr.heap.size,1,none⟩=some (.int .i64 hi)/\V.cell? ⟨G,p * 2+1,none⟩=some (.int .i64 t2))) (by kernel_rfl) (by first | exact hS1) (fun hHeld=>?_);refine puA 0 44 hS1 ?_;refine puB 1 45 ((.bool true)) hS1 ?_;refine puA 2 46 hS1 ?_;refine puA 3 47 hS1 ?_;refine puA 4 48 hS1 ?_;refine puA 5 49 hS1 ?_;refine puA 6 50 hS1 ?_;refine puA 7 51 hS1 ?_;refine puA 8 52 hS1 ?_;refine puA 9 53 hS1 ?_;refine puA 10 54 hS1 ?_;refine puA 11 55 hS1 ?_;refine puB 12 56 ((.bool true)) hS1 ?_;refine puA 13 57 hS1 ?_;refine wpAnyH_done (by kernel_rfl) ?_ _;refine Nrm.out (hKK _ _ ?_);clear hS1;go_wp2_with fail;have kw2:=kw.drew;refine region_nrm fun KK hKK=>?_;refine wp_region_held_drew (S:=(fun V=>V.cell? ⟨wr.heap.size,0,none⟩=some (.int .i64 lo)/\V.cell? ⟨wr.heap.size,1,none⟩=some (.int .i64 hi))) (by kernel_rfl) (by first | exact HXX.out _ kw2 | exact hS9) (fun hHeld=>?_);refine puA 0 58 (by first | exact HXX.out _ kw2 | exact hS9) ?_;refine puA 1 59 (by first | exact HXX.out _ kw2 | exact hS9) ?_;refine puA 2 60 (by first | exact HXX.out _ kw2 | exact hS9) ?_;refine puA 3 61 (by first | exact HXX.out _ kw2 | exact hS9) ?_;refine puA 4 62 (by first | exact HXX.out _ kw2 | exact hS9) ?_;refine puA 5 63 (by first | exact HXX.out _ kw2 | exact hS9) ?_;refine puA 6 64 (by first | exact HXX.out _ kw2 | exact hS9) ?_;refine puA 7 65 (by first | exact HXX.out _ kw2 | exact hS9) ?_;refine puA 9 67 (by first | exact HXX.out _ kw2 | exact hS9) ?_;refine puA 10 68 (by first | exact HXX.out _ kw2 | exact hS9) ?_;refine puR 8 fun K hK=>?_;have qg:=HG.out;go_simp;clear qg;refine hK.out _ _ (by first | exact HXX.out _ kw2 | exact hS9) (fun hHeld=>?_);clear hK K;refine puA 11 69 (by first | exact HXX.out _ kw2 | exact hS9) ?_;refine puA 12 70 (by first | exact HXX.out _ kw2 | exact hS9) ?_;refine puA 13 71 (by first | exact HXX.out _ kw2 | exact hS9) ?_;refine puR 14 fun K hK=>?_;have qg:=HG.out;have qf:=(own_cell (j:=p * 2+1) HO.out (by omega) (.int .i64 0)).2.2;go_simp;clear qg qf;have hX9:=Blk.new (wr.setCell ⟨G,p * 2+1,none⟩ (.int .i64 (max t2 hi))) 63 #[.int .i64 lo,.int .i64 hi];rw[World.size_setCell] at hX9;have hX9:Blk (((wr.setCell ⟨G,p * 2+1,none⟩ (.int .i64 (max t2 hi))).alloc (.cells #[.int .i64 lo,.int .i64 hi] 63)).drew.drew) wr.heap.size 63 #[.int .i64 lo,.int .i64 hi]:=hX9;have hS9:=And.intro (hX9.cell 0) (hX9.cell 1);refine hK.out _ _ (by first | exact HXX.out _ kw2 | exact hS9) (fun hHeld=>?_);clear hK K;refine wpAnyH_done (by kernel_rfl) ?_ _;refine Nrm.out (hKK _ _ ?_);go_wp2;go_roundw
       case rel=>
        have hoc:=own_cell (j:=p * 2+1) ho.out (by omega) (.int .i64 (max t2 hi));have ho5:=hoc.1.alloc (.cells #[.int .i64 lo,.int .i64 hi] 63);rw[HU.out,<-HUL.out,sv_set_last] at ho5;refine⟨j+1,p+1,c2,some ⟨G,0,none⟩,by go_num,rfl,by omega,by omega,(((hb.setCell (p:=⟨G,p * 2+1,none⟩) HGB.out _).alloc (by simp;exact hbs) _).drew).drew,?_,?_⟩
        ·rw[HT2.out,<-HUL.out];exact ho5
        ·show _=_;rw[HT2.out,List.length_append,HUL.out];rfl
       case measure=>simp[intOf];omega
      ·have HT2:=Hz_ (show Sn.put (cc.take (j+1))=Sn.put (cc.take j)++[(lo,hi)] by rw[HT.out,hu,Sn.putS_snoc,if_neg hc]);clear hcell ho1 hu hul hpo hGb hG;go_wp2;refine region_nrm fun KK hKK=>?_;refine wp_region_held_drew (S:=(fun V=>V.cell? ⟨wr.heap.size,0,none⟩=some (.int .i64 lo)/\V.cell? ⟨wr.heap.size,1,none⟩=some (.int .i64 hi)/\V.cell? ⟨G,p * 2+1,none⟩=some (.int .i64 t2))) (by kernel_rfl) (by first | exact hS1) (fun hHeld=>?_);refine puA 0 44 hS1 ?_;refine puB 1 45 ((.bool true)) hS1 ?_;refine puA 2 46 hS1 ?_;refine puA 3 47 hS1 ?_;refine puA 4 48 hS1 ?_;refine puA 5 49 hS1 ?_;refine puA 6 50 hS1 ?_;refine puA 7 51 hS1 ?_;refine puA 8 52 hS1 ?_;refine puA 9 53 hS1 ?_;refine puA 10 54 hS1 ?_;refine puA 11 55 hS1 ?_;refine puB 12 56 ((.bool false)) hS1 ?_;refine puA 13 57 hS1 ?_;refine wpAnyH_done (by kernel_rfl) ?_ _;refine Nrm.out (hKK _ _ ?_);go_wp2_with (at_builtin;go_must (refine wpList_append_rd _ rfl (.tmp 72) (.tmp 74) _ rfl w1.heap.size 63 i0 _ 2 16 Tryz.underlying23 hi0 hz0 hz1 hz2 rfl (by decide) (.slice (some ⟨G,0,none⟩) (p+1) c2) (p+1) _ rfl (World.ownsRow.alloc (show (wr.alloc _).drew.ownsRow _ _ _ _ _ _ from ho.out.alloc _) _) _ (some ⟨_,0,none⟩) 1 1 [.int .i64 lo,.int .i64 hi] rfl HRN.out (by intro u hu;simp at hu;rcases hu with rfl | rfl<;>rfl) h63 (by omega) (by simp;omega) ?_);intro A3 c3 w3 ho3 hg3 hat3);go_roundw
       case rel=>
        refine⟨j+1,(p+1)+1,c3,A3,by go_num,rfl,by omega,by omega,(((hb.alloc hbs _).drew).alloc (by simp;omega) _).trans (grown_below hg3 (by simp;omega) (fun j hj=>own_lt ho.out j hj)),?_,?_⟩
        ·rw[HT2.out,sv_app];exact ho3
        ·show _=_;rw[HT2.out,List.length_append,hlen.out];rfl
       case measure=>simp[intOf];omega
    ·obtain rfl:j=m:=by omega
     have he:Sn.put (cc.take j)=Sn.tidy l:=by rw[List.take_of_length_le (by rw[HCL.out];exact Nat.le_refl _),HP.out]
     have HO:=Hz_ ho.out;rw[he] at HO hlen;have HLN:=Hz_ hlen.out;have HB:=Hz_ (btn HB1.out hb);clear he ho hlen hb;go_wp2;go_ret;exact⟨A2,c2,by rw[HLN.out]<;>rfl,by rw[HLN.out];exact own_less HO.out hs1,HB.out⟩
open Go.RowKit
def SpOut (w w':World) (e:Ending) (l:List Sn.Sp):Prop:=
 ∃A' c',e=.returned (.slice A' l.length c')/\w'.ownsRow w.heap.size 63 2 (.slice A' l.length c') l.length (sv l)/\Below w.heap.size w w'
theorem rest_any (A:Option Addr) (n c:Nat) (l:List Sn.Sp) (w:World) (hl:l.length=n) (hR:Rd w w.heap.size 2 A n c (sv l)) (hn:n<=8796093022208):
  Calls Tryz.prog 210 #[.slice A n c] w fun e w'=>SpOut w w' e (Sn.restL l):=by
 obtain⟨i0,hi0,hz0,hz1,hz2⟩:=info_parts spanE_info;have h1max:1<=maxLen:=by unfold maxLen;omega
 have htl:=Sn.tidy_len l;have hTF:=Sn.fmS_ok (Sn.tidy_fm l);have HRS:=Hz_ (Sn.rst_rest l);have HTD:=Hz_ (tidy_any A n c l w hl hR hn);clear hR hl;generalize Sn.tidy l=T at htl hTF HRS HTD;go_enter Tryz.func210,Tryz.ntmps210;go_wp2_with (go_at_call 208;go_must (refine HTD.out.mono ?_);rintro e w1 ⟨A1,c1,rfl,ho1,hb1⟩);have HR1:=Hz_ (Rd.of_own ho1);have HB1:=Hz_ hb1;have hs1:=hb1.size;have HTF:=Hz_ hTF;clear ho1 hb1 hTF HTD;generalize hm:T.length=m at htl HR1;have HM:=Hz_ hm;clear hm;go_loopw [3,4,10] (fun v3 v4 v10 wr=>∃(k q c':Nat) (f:Int) (A':Option Addr) (u:List Sn.Sp),v10=.int .i64 k/\v4=.int .i64 f/\v3=.slice A' q c'/\k<=m/\q<=k/\0<=f/\f<=256/\Below w1.heap.size w1 wr/\Hid (wr.ownsRow w1.heap.size 63 2 (.slice A' q c') q (sv u))/\Hid (u.length=q)/\Hid (Sn.rst 0 T=u++Sn.rst f (T.drop k))) (fun _ _ v10 _=>m - (intOf v10).toNat)
 case atStart=>exact⟨0,0,0,0,none,[],rfl,rfl,rfl,by omega,by omega,by omega,by omega,Below.refl _ _,World.ownsRow_nil _ _ _ _,rfl,rfl⟩
 case round=>
  obtain⟨k,q,c',f,A',u,rfl,rfl,rfl,hk,hq,hf0,hf1,hb,ho,hlen,hr⟩:=hrel;have hbs:=hb.size;by_cases hlt:k < m
  ·obtain⟨bb,o,rfl,hab,g0,g1⟩:=(HR1.out.below hb).stamp HM.out hlt;have hkl:k < T.length:=by rw[HM.out];exact hlt
   obtain⟨a1,a2,a3⟩:=HTF.out _ (List.getElem_mem hkl);have hd:Sn.rst f (T.drop k)=(if f < (T[k]'hkl).1 then [(f,(T[k]'hkl).1 - 1)] else [])++Sn.rst ((T[k]'hkl).2+1) (T.drop (k+1)):=by
    rw[List.drop_eq_getElem_cons hkl,Sn.rst]
   have HT:=Hz_ hd;clear hd;generalize (T[k]'hkl)=s at g0 g1 HT a1 a2 a3;obtain⟨lo,hi⟩:=s;dsimp only at g0 g1 a1 a2 a3;have h63:q+1<=maxLen:=by unfold maxLen;omega
   have hw1:IntKind.i64.wrap (lo - 1)=lo - 1:=IntWalk.i64_in _ (by omega);have hw2:IntKind.i64.wrap (hi+1)=hi+1:=IntWalk.i64_in _ (by omega);by_cases hc:f < lo
   ·have HC:=Hz_ (show Sn.rst f (T.drop k)=[(f,lo - 1)]++Sn.rst (hi+1) (T.drop (k+1)) by rw[HT.out];simp only;rw[if_pos hc]);have hRn:Rd ((wr.alloc (.cells #[.int .i64 lo,.int .i64 hi] 63)).alloc (.cells #[.int .i64 f,.int .i64 (lo - 1)] 63)) (wr.heap.size+1+1) 2 (some ⟨wr.heap.size+1,0,none⟩) 1 1 [.int .i64 f,.int .i64 (lo - 1)]:=by
     have:=Rd.new (wr.alloc (.cells #[.int .i64 lo,.int .i64 hi] 63)) 63 2 1 #[.int .i64 f,.int .i64 (lo - 1)] rfl h1max
     rwa [World.size_alloc] at this
    have HRN:=Hz_ hRn;clear hRn hkl;go_wp2_with (at_builtin;go_must (refine wpList_append_rd _ rfl (.tmp 18) (.tmp 24) _ rfl w1.heap.size 63 i0 _ 2 16 Tryz.underlying23 hi0 hz0 hz1 hz2 rfl (by decide) (.slice A' q c') q _ rfl ((ho.out.alloc _).alloc _) _ (some ⟨_,0,none⟩) 1 1 [.int .i64 f,.int .i64 (lo - 1)] rfl HRN.out (by intro u hu;simp at hu;rcases hu with rfl | rfl<;>rfl) h63 (by omega) (by simp;omega) ?_);intro A3 c3 w3 ho3 hg3 hat3;have hX:=((Blk.new wr 63 #[.int .i64 lo,.int .i64 hi]).alloc _).grown hg3 (fun hE=>by have:=(ho.out.lt _ hE.symm).2;omega);have hX0:w3.cell? ⟨wr.heap.size,0,none⟩=some (.int .i64 lo):=hX.cell 0;have hX1:w3.cell? ⟨wr.heap.size,1,none⟩=some (.int .i64 hi):=hX.cell 1;clear hX);have hb3:=((hb.alloc hbs _).alloc (by simp;omega) _).trans (grown_below hg3 (by simp;omega) (fun j hj=>own_lt ho.out j hj));go_roundw
    case rel=>
     refine⟨k+1,q+1,c3,hi+1,A3,u++[(f,lo - 1)],by go_num,rfl,rfl,by omega,by omega,by omega,by omega,hb3,?_,?_,?_⟩
     ·rw[sv_app];exact ho3
     ·show _=_;rw[List.length_append,hlen.out];rfl
     ·show _=_;rw[hr.out,HC.out,List.append_assoc]
    case measure=>simp[intOf];omega
   ·have HC:=Hz_ (show Sn.rst f (T.drop k)=Sn.rst (hi+1) (T.drop (k+1)) by rw[HT.out];simp only;rw[if_neg hc];rfl);clear hkl;go_wp2;go_roundw
    case rel=>exact⟨k+1,q,c',hi+1,A',u,by go_num,rfl,rfl,by omega,by omega,by omega,by omega,hb.alloc hbs _,ho.out.alloc _,hlen,by show _=_;rw[hr.out,HC.out]⟩
    case measure=>simp[intOf];omega
  ·obtain rfl:k=m:=by omega
   have hr1:Sn.rst 0 T=u++Sn.rst f []:=by
    have:=hr.out
    rwa [List.drop_of_length_le (by rw[HM.out];exact Nat.le_refl _)] at this
   rw[HRS.out] at hr1;have HR:=Hz_ hr1;clear hr1;have h63:q+1<=maxLen:=by unfold maxLen;omega
   by_cases hc:f<=255
   ·have HC:=Hz_ (show Sn.restL l=u++[(f,255)] by rw[HR.out,Sn.rst,if_pos hc]);have HRN:=Hz_ (Rd.new wr 63 2 1 #[.int .i64 f,.int .i64 255] rfl h1max);go_wp2_with (at_builtin;go_must (refine wpList_append_rd _ rfl (.tmp 32) (.tmp 35) _ rfl w1.heap.size 63 i0 _ 2 16 Tryz.underlying23 hi0 hz0 hz1 hz2 rfl (by decide) (.slice A' q c') q _ rfl (ho.out.alloc _) _ (some ⟨_,0,none⟩) 1 1 [.int .i64 f,.int .i64 255] rfl HRN.out (by intro u hu;simp at hu;rcases hu with rfl | rfl<;>rfl) h63 (by omega) (by simp;omega) ?_);intro A3 c3 w3 ho3 hg3 hat3);go_ret;have hel:(Sn.restL l).length=q+1:=by rw[HC.out,List.length_append,hlen.out];rfl
    refine⟨A3,c3,by rw[hel]<;>rfl,?_,btn HB1.out ((hb.alloc hbs _).trans (grown_below hg3 (by simp;omega) (fun j hj=>own_lt ho.out j hj)))⟩;rw[hel,HC.out,sv_app];exact own_less ho3 hs1
   ·have HC:=Hz_ (show Sn.restL l=u by rw[HR.out,Sn.rst,if_neg hc,List.append_nil]);go_wp2;go_ret;refine⟨A',c',by rw[HC.out,hlen.out]<;>rfl,?_,btn HB1.out hb⟩;rw[HC.out,hlen.out];exact own_less ho.out hs1
end Go.Proofs.YtmbeahbgafkjfaaGreatDoor
