/- Lemmas for the claim, layer 33. -/
import Derived.Test.YtmbeahbgafkjfaaGreatDoorKc32
set_option maxRecDepth 100000
set_option linter.unusedSimpArgs false
set_option maxHeartbeats 16000000
namespace Go.Proofs.YtmbeahbgafkjfaaGreatDoor
open Go.RowKit
theorem cacheForget_any (A:Option Addr) (n c:Nat) (L:List (BV×Wq.Bd)) (ob:Int) (w:World) (hR:RdBs w w.heap.size A n c L) (hn:n<=256) (hv:∀p∈L,p.2.v.length<=140737488355328):
  Calls Tryz.prog 143 #[.slice A n c,.int .i64 ob] w fun e w'=>∃A' k c',e=.returned (.slice A' k c')/\(∃M,OwnBd w' w.heap.size A' k c' M/\bds M=(bds L).filter fun y=>!decide (y.o=ob))/\Below w.heap.size w w':=by
 obtain⟨ib0,hbi0,hbz0,hbz1,hbz2⟩:=info_parts body_info;have h1max:1<=maxLen:=by unfold maxLen;omega
 have hln:=hR.len;have HL:=Hz_ hln;have HR:=Hz_ hR;have HV:=Hz_ hv;clear hR hln hv;go_enter Tryz.func143,Tryz.ntmps143;go_wp2;go_loopw [5,7,10] (fun v5 _ v10 wr=>∃(j k c':Nat) (A':Option Addr),v10=.int .i64 j/\v5=.slice A' k c'/\j<=n/\k<=j/\Below w.heap.size w wr/\Hid (∃M,OwnBd wr w.heap.size A' k c' M/\bds M=((bds L).take j).filter fun y=>!decide (y.o=ob))) (fun _ _ v10 _=>n - (intOf v10).toNat)
 case atStart=>exact⟨0,0,0,none,rfl,rfl,by omega,by omega,Below.refl _ _,[],OwnBd.nil _ _,rfl⟩
 case round=>
  obtain⟨j,k,c',A',rfl,rfl,hj,hk,hb,hq⟩:=hrel;by_cases hlt:j < n
  ·have hjL:j < L.length:=by rw[HL.out];exact hlt
   have hjB:j < (bds L).length:=by rw[bds_len];exact hjL
   obtain⟨M,hM,hMz⟩:=hq.out;obtain⟨b,oo,rfl,hab,g0,g1,g2,g3⟩:=((HR.out.below hb)).body hjL;have hRv:=(HR.out.go hb).each _ (List.getElem_mem hjL);have hvz:=HV.out _ (List.getElem_mem hjL);have hnx:=List.take_succ_eq_append_getElem hjB;rw[bds_at L j hjL] at hnx;generalize L[j]=q at g0 g1 g2 g3 hRv hvz hnx;obtain⟨⟨xA,xc⟩,⟨o_,⟨a_,b_⟩,xv⟩⟩:=q;dsimp only at g0 g1 g2 g3 hRv hvz hnx;have hb9:Below wr.heap.size wr (wr.alloc (.cells #[.int .i64 o_,.int .i64 a_,.int .i64 b_,.slice xA xv.length xc] 31)):=Zr.alloc Zl _;have hX9:=Blk.new wr 31 #[.int .i64 o_,.int .i64 a_,.int .i64 b_,.slice xA xv.length xc];have G:=cacheTwin_any ⟨o_,(a_,b_),xv⟩ xA xc _ (hRv.go hb9) hvz;unfold bval at G;dsimp only at G;have hM9:=hM.below hb9;have kw:=btn hb hb9;have hbs:=hb.size;generalize hV9:wr.alloc (.cells #[.int .i64 o_,.int .i64 a_,.int .i64 b_,.slice xA xv.length xc] 31)=V9 at hX9 G hM9 kw;have HV9:=Hz_ hV9;obtain⟨m,hm⟩:∃m,m=xv.length:=⟨_,rfl⟩;rw[<-hm] at G hX9 g3;have HV9:=Hz_ (show wr.alloc (.cells #[.int .i64 o_,.int .i64 a_,.int .i64 b_,.slice xA m xc] 31)=V9 by rw[hm];exact HV9.out);have HM:=Hz_ hm;have G:=Hz_ G;have HNX:=Hz_ hnx;have HMZ:=Hz_ hMz;have KM:=Hz_ hM9;obtain⟨r0,r1,r2,r3⟩:=hX9.quad;clear hV9 hX9 hb9 hM9 hM hMz hnx hRv hvz hm hjB hjL hq hb hab;go_upto_region 5 with fail;rw[HV9.out];clear g0 g1 g2 g3;by_cases ho:o_=ob
   ·subst ho;go_wp2_with fail;go_roundw
    case rel=>
     refine⟨j+1,k,c',A',by go_num,rfl,by omega,by omega,kw,?_⟩;refine⟨M,KM.out,?_⟩;rw[HNX.out,List.filter_append,<-HMZ.out];simp
    case measure=>simp[intOf];omega
   ·have hne:(o_ != ob)=true:=by simpa using ho
    have HO:=Hz_ ho;clear ho;go_wp2_with fail;refine G.out.mono ?_;rintro e w1 ⟨D,d,rfl,hd,hb1⟩;have KM:=Hz_ (KM.out.below hb1);have kw:=btn kw hb1;have hsz:w.heap.size<=V9.heap.size:=by
     have h:=HV9.out;have e:V9.heap.size=wr.heap.size+1:=by rw[<-h];simp
     omega
    have HD:=Hz_ (own_less hd hsz);clear hsz;have hb':Below w1.heap.size w1 (w1.alloc (.cells #[.int .i64 o_,.int .i64 a_,.int .i64 b_,.slice D m d] 31)):=Zr.alloc Zl _;have C:=Hz_ (rd_new hb' (size:=4) (n:=1) rfl h1max);have KM:=Hz_ (KM.out.below hb');have HD:=Hz_ (own_below HD.out hb' Zl);have kw:=btn kw hb';clear hd hb1 hb' r0 r1 r2 r3;go_wp2_with (at_builtin;go_must (refine wpList_append_rd _ rfl (.tmp 18) (.tmp 21) _ rfl w.heap.size 31 ib0 _ 4 48 Tryz.underlying33 hbi0 hbz0 hbz1 hbz2 rfl (by decide) _ k (bvv M) rfl KM.out.row _ _ 1 1 [.int .i64 o_,.int .i64 a_,.int .i64 b_,.slice D m d] rfl C.out (by simp[Value.oneCell']) (by unfold maxLen;omega) (by omega) kw.size ?_);intro A9 c9 W9 ho hg hat);have KZ:=Hz_ (KM.out.push (p:=(⟨D,d⟩,⟨o_,(a_,b_),xv⟩)) (by dsimp only;rw[<-HM.out];exact HD.out) hg (by unfold bvl;dsimp only;rw[<-HM.out];exact ho));have kz:=kw.trans (grown_below hg kw.size (fun g hg'=>(KM.out.row.lt g hg').1));clear ho hg hat KM C HD;go_roundw
    case rel=>
     refine⟨j+1,k+1,c9,A9,by go_num,rfl,by omega,by omega,kz,?_⟩;refine⟨_,KZ.out,?_⟩;rw[HNX.out,List.filter_append,<-HMZ.out,bds_app];simp[HO.out,bds]
    case measure=>simp[intOf];omega
  ·obtain rfl:n=j:=by omega
   obtain⟨M,hM,hMz⟩:=hq.out;have KM:=Hz_ hM;have HMZ:=Hz_ (show bds M=(bds L).filter fun y=>!decide (y.o=ob) by rw[hMz,List.take_of_length_le (by rw[bds_len,HL.out];exact Nat.le_refl _)]);clear hM hMz hq;go_wp2;go_ret;exact⟨_,_,_,rfl,⟨M,KM.out,HMZ.out⟩,hb⟩
theorem clipWr_any (A:Option Addr) (n c:Nat) (w:World) (hc:n<=c) (_hm:c<=maxLen):
  Calls Tryz.prog 193 #[.slice A n c] w fun e w'=>e=.returned (.slice A n n)/\Below w.heap.size w w':=by
 go_enter Tryz.func193,Tryz.ntmps193;go_wp2;go_ret;exact⟨rfl,Below.refl _ _⟩
def wrR (w:Wr):Bool:=(decide (0<=w.2.1) && decide (w.2.1<=255)) && Vc.right w.1
theorem shF_iff:∀(last:Int) (l:List Wr),shF last l=true↔(∀w∈l,wrR w=true/\last < w.2.1)/\l.Pairwise fun a b=>a.2.1 < b.2.1
 | last,[]=>by simp[shF]
 | last,w :: r=>by
  show (wrR w && (decide (last < w.2.1) && shF w.2.1 r))=true↔_;rw[Bool.and_eq_true,Bool.and_eq_true,shF_iff w.2.1 r,decide_eq_true_eq,List.pairwise_cons,List.forall_mem_cons];constructor
  ·rintro⟨h1,h2,h3,h4⟩;exact⟨⟨⟨h1,h2⟩,fun x hx=>⟨(h3 x hx).1,by have:=(h3 x hx).2;omega⟩⟩,fun x hx=>(h3 x hx).2,h4⟩
  ·rintro⟨⟨⟨h1,h2⟩,h3⟩,h4,h5⟩;exact⟨h1,h2,fun x hx=>⟨(h3 x hx).1,h4 x hx⟩,h5⟩
theorem wrR_iff (w:Wr):wrR w=true↔(0<=w.2.1/\w.2.1<=255)/\Vc.right w.1=true:=by
 unfold wrR;simp only[Bool.and_eq_true,decide_eq_true_eq]
theorem atO_iff:∀{l:List Wr},(l.Pairwise fun a b=>a.2.1 < b.2.1)->∀{o:Int} {w:Wr},atO l o=some w↔w∈l/\w.2.1=o
 | [],_,o,w=>by simp[atO]
 | x :: r,h,o,w=>by
  rw[List.pairwise_cons] at h;unfold atO;rw[List.find?_cons];by_cases hx:x.2.1=o
  ·simp only[hx,decide_true,Option.some.injEq,List.mem_cons];constructor
   ·rintro rfl;exact⟨.inl rfl,hx⟩
   ·rintro⟨rfl | h2,h3⟩
    ·rfl
    ·have:=h.1 w h2;omega
  ·simp only[hx,decide_false];have:=atO_iff h.2 (o:=o) (w:=w);unfold atO at this;rw[this,List.mem_cons];constructor
   ·rintro⟨a,b⟩;exact⟨.inr a,b⟩
   ·rintro⟨rfl | a,b⟩
    ·exact absurd b hx
    ·exact⟨a,b⟩
theorem sorted_ext:∀{l m:List Wr},(l.Pairwise fun a b=>a.2.1 < b.2.1)->(m.Pairwise fun a b=>a.2.1 < b.2.1)->(∀w,w∈l↔w∈m)->l=m
 | [],[],_,_,_=>rfl
 | [],y :: m,_,_,h=>by have:=(h y).2 (List.mem_cons_self ..);cases this
 | x :: l,[],_,_,h=>by have:=(h x).1 (List.mem_cons_self ..);cases this
 | x :: l,y :: m,h1,h2,h=>by
  rw[List.pairwise_cons] at h1 h2;have e:x=y:=by
   rcases List.mem_cons.1 ((h x).1 (List.mem_cons_self ..)) with e | a
   ·exact e
   ·rcases List.mem_cons.1 ((h y).2 (List.mem_cons_self ..)) with e | b
    ·exact e.symm
    ·have:=h1.1 y b;have:=h2.1 x a;omega
  subst e;rw[sorted_ext h1.2 h2.2 fun w=>⟨fun hw=>?_,fun hw=>?_⟩]
  ·rcases List.mem_cons.1 ((h w).1 (List.mem_cons_of_mem _ hw)) with rfl | a
   ·have:=h1.1 w hw;omega
   ·exact a
  ·rcases List.mem_cons.1 ((h w).2 (List.mem_cons_of_mem _ hw)) with rfl | a
   ·have:=h2.1 w hw;omega
   ·exact a
def putA (f:Int->Option Wr) (w:Wr) (o:Int):Option Wr:=if o=w.2.1 then (match f o with
 | none=>some w
 | some v=>if stLt v.1 w.1=true then some w else some v) else f o
def okA (f:Int->Option Wr):Prop:=∀o w,f o=some w->w.2.1=o/\wrR w=true
theorem okA_at {l:List Wr} (h:shF (-1) l=true):okA (atO l):=fun o w e=>by
 obtain⟨h1,h2⟩:=(shF_iff _ _).1 h;obtain⟨a,b⟩:=(atO_iff h2).1 e;exact⟨b,(h1 w a).1⟩
theorem okA_put {f:Int->Option Wr} (h:okA f) {w:Wr} (hw:wrR w=true):okA (putA f w):=fun o v e=>by
 unfold putA at e
 split at e
 ·rename_i ho
  split at e
  ·injection e with e;subst e;exact⟨ho.symm,hw⟩
  ·rename_i u hu
   split at e
   ·injection e with e;subst e;exact⟨ho.symm,hw⟩
   ·injection e with e;subst e;exact h o _ hu
 ·exact h o v e
theorem okA_fold:∀{t:List Wr} {f:Int->Option Wr},okA f->(∀w∈t,wrR w=true)->okA (t.foldl putA f)
 | [],_,h,_=>h
 | x :: t,f,h,ht=>by
  rw[List.foldl_cons];exact okA_fold (okA_put h (ht x (List.mem_cons_self ..))) fun w hw=>ht w (List.mem_cons_of_mem _ hw)
def lsO (f:Int->Option Wr):List Wr:=(List.range 256).filterMap fun n:Nat=>f (n:Int)
theorem lsO_mem {f:Int->Option Wr} (h:okA f) (w:Wr):w∈lsO f↔f w.2.1=some w:=by
 unfold lsO;rw[List.mem_filterMap];constructor
 ·rintro⟨n,_,e⟩;rw[(h _ _ e).1];exact e
 ·intro e;obtain⟨h1,h2⟩:=h _ _ e;rw[wrR_iff] at h2;refine⟨w.2.1.toNat,List.mem_range.2 (by omega),?_⟩;rw[Int.toNat_of_nonneg h2.1.1];exact e
theorem lsO_sorted {f:Int->Option Wr} (h:okA f):(lsO f).Pairwise fun a b=>a.2.1 < b.2.1:=by
 unfold lsO;rw[List.pairwise_filterMap];refine List.Pairwise.imp ?_ List.pairwise_lt_range;intro a b hab u hu v hv;rw[(h _ _ hu).1,(h _ _ hv).1];omega
theorem lsO_F {f:Int->Option Wr} (h:okA f):shF (-1) (lsO f)=true:=(shF_iff _ _).2 ⟨fun w hw=>by
 have:=(h _ _ ((lsO_mem h w).1 hw)).2;refine⟨this,?_⟩;rw[wrR_iff] at this;omega,lsO_sorted h⟩
theorem lsO_at {f:Int->Option Wr} (h:okA f) (o:Int):atO (lsO f) o=f o:=by
 rcases hf:f o with _ | w
 ·rcases ha:atO (lsO f) o with _ | v
  ·rfl
  ·obtain⟨a,b⟩:=(atO_iff (lsO_sorted h)).1 ha;rw[lsO_mem h,b,hf] at a;cases a
 ·rw[atO_iff (lsO_sorted h),lsO_mem h,(h _ _ hf).1];exact⟨hf,rfl⟩
theorem lsO_is {l:List Wr} {f:Int->Option Wr} (h:shF (-1) l=true) (e:∀o,atO l o=f o):l=lsO f:=by
 obtain rfl:atO l=f:=funext e;have hs:=((shF_iff _ _).1 h).2;refine sorted_ext hs (lsO_sorted (okA_at h)) fun w=>?_;rw[lsO_mem (okA_at h),atO_iff hs];exact⟨fun a=>⟨a,rfl⟩,fun a=>a.1⟩
def putS (l t:List Wr):List Wr:=lsO (t.foldl putA (atO l))
theorem put_in {l:List Wr} (h:shF (-1) l=true) {w:Wr} (hw:wrR w=true) {i:Nat} (hi:i<=l.length) (h1:∀t (ht:t < l.length),t < i->l[t].2.1 < w.2.1) (h2:∀t (ht:t < l.length),i<=t->w.2.1<=l[t].2.1) (hn:atO l w.2.1=none):
  shF (-1) (l.take i++w :: l.drop i)=true/\∀o,atO (l.take i++w :: l.drop i) o=putA (atO l) w o:=by
 obtain⟨a1,a2⟩:=(shF_iff _ _).1 h;have hno:∀x∈l,x.2.1≠w.2.1:=fun x hx e=>by
  have:=(atO_iff a2).2 ⟨hx,e⟩;rw[hn] at this;cases this
 have b1:∀x∈l.take i,x.2.1 < w.2.1:=fun x hx=>by
  obtain⟨t,ht,rfl⟩:=List.mem_iff_getElem.1 hx;rw[List.length_take] at ht;rw[List.getElem_take];exact h1 t (by omega) (by omega)
 have b2:∀x∈l.drop i,w.2.1 < x.2.1:=fun x hx=>by
  obtain⟨t,ht,rfl⟩:=List.mem_iff_getElem.1 hx;have hx2:=hno _ (List.mem_of_mem_drop hx);rw[List.length_drop] at ht;rw[List.getElem_drop] at hx2 ⊢;have:=h2 (i+t) (by omega) (by omega);omega
 have hp:(l.take i++w :: l.drop i).Pairwise fun a b=>a.2.1 < b.2.1:=by
  rw[List.pairwise_append,List.pairwise_cons];refine⟨a2.sublist (List.take_sublist _ _),⟨b2,a2.sublist (List.drop_sublist _ _)⟩,fun x hx y hy=>?_⟩;rcases List.mem_cons.1 hy with rfl | hy
  ·exact b1 x hx
  ·have:=b1 x hx;have:=b2 y hy;omega
 have hm:∀x,x∈l.take i++w :: l.drop i↔x=w\/x∈l:=fun x=>by
  constructor
  ·intro hx;rcases List.mem_append.1 hx with hx | hx
   ·exact .inr (List.mem_of_mem_take hx)
   ·rcases List.mem_cons.1 hx with rfl | hx
    ·exact .inl rfl
    ·exact .inr (List.mem_of_mem_drop hx)
  ·rintro(rfl | hx)
   ·exact List.mem_append.2 (.inr (List.mem_cons_self ..))
   ·rw[<-List.take_append_drop i l] at hx;rcases List.mem_append.1 hx with hx | hx
    ·exact List.mem_append.2 (.inl hx)
    ·exact List.mem_append.2 (.inr (List.mem_cons_of_mem _ hx))
 refine⟨(shF_iff _ _).2 ⟨fun x hx=>?_,hp⟩,fun o=>?_⟩
 ·rcases(hm x).1 hx with rfl | hx
  ·exact⟨hw,by rw[wrR_iff] at hw;omega⟩
  ·exact a1 x hx
 ·unfold putA;by_cases ho:o=w.2.1
  ·subst ho;rw[if_pos rfl,hn,atO_iff hp,hm];exact⟨.inl rfl,rfl⟩
  ·rw[if_neg ho];rcases hf:atO l o with _ | v
   ·rcases ha:atO (l.take i++w :: l.drop i) o with _ | v
    ·rfl
    ·obtain⟨c1,c2⟩:=(atO_iff hp).1 ha;rcases(hm v).1 c1 with rfl | c3
     ·exact absurd c2.symm ho
     ·rw[(atO_iff a2).2 ⟨c3,c2⟩] at hf;cases hf
   ·obtain⟨c1,c2⟩:=(atO_iff a2).1 hf;exact(atO_iff hp).2 ⟨(hm v).2 (.inr c1),c2⟩
theorem put_set {l:List Wr} (h:shF (-1) l=true) {w:Wr} (hw:wrR w=true) {i:Nat} (hi:i < l.length) (he:l[i].2.1=w.2.1) (hn:atO l w.2.1=some l[i]) (hs:stLt l[i].1 w.1=true):
  shF (-1) (l.set i w)=true/\∀o,atO (l.set i w) o=putA (atO l) w o:=by
 obtain⟨a1,a2⟩:=(shF_iff _ _).1 h;have hp:(l.set i w).Pairwise fun a b=>a.2.1 < b.2.1:=by
  rw[List.pairwise_iff_getElem] at a2 ⊢;intro s t hs1 ht1 hst;rw[List.length_set] at hs1 ht1;rw[List.getElem_set,List.getElem_set];split
  ·rename_i e;subst e;rw[if_neg (by omega),<-he];exact a2 _ _ hs1 ht1 hst
  ·split
   ·rename_i e;subst e;rw[<-he];exact a2 _ _ hs1 ht1 hst
   ·exact a2 _ _ hs1 ht1 hst
 have hm:∀x,x∈l.set i w->x=w\/x∈l:=fun x hx=>(List.mem_or_eq_of_mem_set hx).symm;have hm2:∀x∈l,x.2.1≠w.2.1->x∈l.set i w:=fun x hx hne=>by
  obtain⟨t,ht,rfl⟩:=List.mem_iff_getElem.1 hx;rw[List.mem_iff_getElem];refine⟨t,by rw[List.length_set];exact ht,?_⟩;rw[List.getElem_set,if_neg];rintro rfl;exact hne he
 refine⟨(shF_iff _ _).2 ⟨fun x hx=>?_,hp⟩,fun o=>?_⟩
 ·rcases hm x hx with rfl | hx
  ·exact⟨hw,by rw[wrR_iff] at hw;omega⟩
  ·exact a1 x hx
 ·unfold putA;by_cases ho:o=w.2.1
  ·subst ho;rw[if_pos rfl,hn];simp only;rw[if_pos hs,atO_iff hp];refine⟨?_,rfl⟩;exact List.mem_iff_getElem.2 ⟨i,by rw[List.length_set];exact hi,by rw[List.getElem_set,if_pos rfl]⟩
  ·rw[if_neg ho];rcases hf:atO l o with _ | v
   ·rcases ha:atO (l.set i w) o with _ | v
    ·rfl
    ·obtain⟨c1,c2⟩:=(atO_iff hp).1 ha;rcases hm v c1 with rfl | c3
     ·exact absurd c2.symm ho
     ·rw[(atO_iff a2).2 ⟨c3,c2⟩] at hf;cases hf
   ·obtain⟨c1,c2⟩:=(atO_iff a2).1 hf;exact(atO_iff hp).2 ⟨hm2 v c1 (by rw[c2];exact ho),c2⟩
theorem put_not {l:List Wr} {w v:Wr} (hn:atO l w.2.1=some v) (hs:stLt v.1 w.1=false) (o:Int):atO l o=putA (atO l) w o:=by
 unfold putA;by_cases ho:o=w.2.1
 ·subst ho;rw[if_pos rfl,hn];simp only;rw[hs];rfl
 ·rw[if_neg ho]
/-! ### Bodies -/
def dropB (held:List Wr) (B:List Wq.Bd) (w:Wr):List Wq.Bd:=match B.findIdx? (fun x=>decide (x.o=w.2.1)) with
 | none=>B
 | some i=>if (B[i]?.map (wantd held)).getD true=true then B else B.eraseIdx i
theorem erase_filter:∀{B:List Wq.Bd} {i:Nat} (hi:i < B.length) (p:Wq.Bd->Bool),p B[i]=false->(∀j (hj:j < B.length),j≠i->p B[j]=true)->B.eraseIdx i=B.filter p
 | [],i,hi,_,_,_=>by simp at hi
 | x :: B,0,hi,p,h1,h2=>by
  simp only[List.getElem_cons_zero] at h1;rw[List.eraseIdx_cons_zero,List.filter_cons,h1];simp only[Bool.false_eq_true,if_false];rw[List.filter_eq_self.2];intro y hy;obtain⟨j,hj,rfl⟩:=List.mem_iff_getElem.1 hy;exact h2 (j+1) (by simp;omega) (by omega)
 | x :: B,i+1,hi,p,h1,h2=>by
  simp only[List.getElem_cons_succ] at h1;have h0:p x=true:=h2 0 (by simp) (by omega);rw[List.eraseIdx_cons_succ,List.filter_cons,h0];simp only[if_true];rw[erase_filter (by simpa using hi) p h1 fun j hj hne=>h2 (j+1) (by simp;omega) (by omega)]
theorem dropB_is {held:List Wr} {B:List Wq.Bd} (hd:B.Pairwise fun a b=>a.o≠b.o) (w:Wr):dropB held B w=B.filter fun x=>!decide (x.o=w.2.1) || wantd held x:=by
 unfold dropB;split
 ·rename_i hf;rw[List.findIdx?_eq_none_iff] at hf;rw[List.filter_eq_self.2];intro x hx;rw[hf x hx];rfl
 ·rename_i i hf;obtain⟨hi,he,_⟩:=List.findIdx?_eq_some_iff_getElem.1 hf;replace he:B[i].o=w.2.1:=of_decide_eq_true he;simp only[List.getElem?_eq_getElem hi,Option.map_some,Option.getD_some];have hne:∀j (hj:j < B.length),j≠i->¬ B[j].o=w.2.1:=fun j hj hji e=>by
   rw[List.pairwise_iff_getElem] at hd;rcases Nat.lt_or_ge j i with h | h
   ·exact hd j i hj hi h (e.trans he.symm)
   ·exact hd i j hi hj (by omega) (he.trans e.symm)
  split
  ·rename_i hw;rw[List.filter_eq_self.2];intro x hx;obtain⟨j,hj,rfl⟩:=List.mem_iff_getElem.1 hx;by_cases hji:j=i
   ·subst hji;rw[hw];simp
   ·simp[hne j hj hji]
  ·rename_i hw;refine erase_filter hi _ ?_ fun j hj hji=>?_
   ·rw[(Bool.not_eq_true _).mp hw];simp[he]
   ·simp[hne j hj hji]
theorem newsB_apart:∀{l:List Wq.Bd} {seen:List Int},newsB seen l=true->(∀x∈l,x.o ∉ seen)/\l.Pairwise fun a b=>a.o≠b.o
 | [],_,_=>⟨fun x hx=>(by cases hx),List.Pairwise.nil⟩
 | y :: r,seen,h=>by
  rw[newsB] at h;simp only[Bool.and_eq_true,Bool.not_eq_true',List.contains_eq_mem,decide_eq_false_iff_not] at h;obtain⟨h1,h2⟩:=newsB_apart h.2;refine⟨fun x hx=>?_,List.pairwise_cons.2 ⟨fun x hx e=>?_,h2⟩⟩
  ·rcases List.mem_cons.1 hx with rfl | hx
   ·exact h.1.1
   ·exact fun hs=>h1 x hx (List.mem_append.2 (.inl hs))
  ·exact h1 x hx (List.mem_append.2 (.inr (by rw[e];exact List.mem_singleton.2 rfl)))
theorem dropB_fold {held:List Wr}:∀(t:List Wr) {B:List Wq.Bd},(B.Pairwise fun a b=>a.o≠b.o)->t.foldl (dropB held) B=B.filter fun x=>(t.all fun w=>!decide (x.o=w.2.1)) || wantd held x
 | [],B,_=>(List.filter_eq_self.2 fun _ _=>rfl).symm
 | w :: t,B,h=>by
  rw[List.foldl_cons,dropB_is h,dropB_fold t (h.sublist List.filter_sublist),List.filter_filter];refine List.filter_congr fun x _=>?_;rw[List.all_cons];cases decide (x.o=w.2.1)<;>cases wantd held x<;>simp
theorem foldA_out {t:List Wr} {f:Int->Option Wr} {o:Int} (h:∀w∈t,w.2.1≠o):t.foldl putA f o=f o:=by
 induction t generalizing f with
 | nil=>rfl
 | cons x t ih=>
  rw[List.foldl_cons,ih fun w hw=>h w (List.mem_cons_of_mem _ hw)];unfold putA;rw[if_neg fun e=>h x (List.mem_cons_self ..) e.symm]
theorem bods_law {held t:List Wr} {B:List Wq.Bd} (hh:shF (-1) held=true) (ht:∀w∈t,wrR w=true) (hd:B.Pairwise fun a b=>a.o≠b.o) (hw:∀x∈B,wantd held x=true):
  t.foldl (dropB (putS held t)) B=B.filter (wantd (putS held t)):=by
 rw[dropB_fold t hd];refine List.filter_congr fun x hx=>?_;rcases hz:t.all fun w=>!decide (x.o=w.2.1) with _ | _
 ·rfl
 ·have h2:∀w∈t,w.2.1≠x.o:=fun w hw2 e=>by
   have:=List.all_eq_true.1 hz w hw2;simp[e] at this
  have:=hw x hx;unfold wantd at this ⊢;unfold putS;rw[lsO_at (okA_fold (okA_at hh) ht),foldA_out h2];rw[this];rfl
end Go.Proofs.YtmbeahbgafkjfaaGreatDoor
