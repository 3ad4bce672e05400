/- Lemmas for the claim, layer 34. -/
import Derived.Test.YtmbeahbgafkjfaaGreatDoorKc33
set_option maxRecDepth 100000
set_option linter.unusedSimpArgs false
set_option maxHeartbeats 16000000
namespace Go.Proofs.YtmbeahbgafkjfaaGreatDoor
open Go.RowKit
theorem wvP_set (l:List Wr) (i:Nat) (h:i < l.length) (x:Wr):((((wv l).set (i * 4) (.int .i64 x.1.1)).set (i * 4+1) (.int .i64 x.1.2)).set (i * 4+2) (.int .i64 x.2.1)).set (i * 4+3) (.bool x.2.2)=wv (l.set i x):=by
 have e:l=l.take i++l[i] :: l.drop (i+1):=by rw[<-List.drop_eq_getElem_cons h,List.take_append_drop]
 have hP:(l.take i).length=i:=by rw[List.length_take];omega
 generalize l.take i=P at *;generalize l.drop (i+1)=Q at *;generalize l[i]=y at *;subst e;have e2:(P++y :: Q).set i x=P++x :: Q:=by rw[List.set_append_right _ _ (by omega),hP,Nat.sub_self];rfl
 have e3:∀z:Wr,wv (P++z :: Q)=wv P++(wc z++wv Q):=fun z=>by simp[wv]
 have hl:(wv P).length=i * 4:=by rw[wv_len,hP]
 rw[e2,e3,e3];rw[List.set_append_right _ _ (by omega),List.set_append_right _ _ (by omega),List.set_append_right _ _ (by omega),List.set_append_right _ _ (by omega),hl,Nat.sub_self,Nat.add_sub_cancel_left,Nat.add_sub_cancel_left,Nat.add_sub_cancel_left];rfl
theorem ownP_put {w:World} {base G n c:Nat} {l:List Wr} (h:w.ownsRow base 70 4 (.slice (some ⟨G,0,none⟩) n c) n (wv l)) (hl:l.length=n) (i:Nat) (hi:i < n) (x:Wr):
  ((((w.setCell ⟨G,i * 4,none⟩ (.int .i64 x.1.1)).setCell ⟨G,i * 4+1,none⟩ (.int .i64 x.1.2)).setCell ⟨G,i * 4+2,none⟩ (.int .i64 x.2.1)).setCell ⟨G,i * 4+3,none⟩ (.bool x.2.2)).ownsRow base 70 4 (.slice (some ⟨G,0,none⟩) n c) n (wv (l.set i x)) /\
    w.grownBy ((((w.setCell ⟨G,i * 4,none⟩ (.int .i64 x.1.1)).setCell ⟨G,i * 4+1,none⟩ (.int .i64 x.1.2)).setCell ⟨G,i * 4+2,none⟩ (.int .i64 x.2.1)).setCell ⟨G,i * 4+3,none⟩ (.bool x.2.2)) (some G):=by
 have s1:=h.stored (i * 4) (.int .i64 x.1.1);have s2:=s1.1.stored (i * 4+1) (.int .i64 x.1.2);have s3:=s2.1.stored (i * 4+2) (.int .i64 x.2.1);have s4:=s3.1.stored (i * 4+3) (.bool x.2.2);refine⟨?_,((s1.2.trans s2.2).trans s3.2).trans s4.2⟩;have:=s4.1;rw[wvP_set l i (by omega) x] at this;exact this
theorem ownP_cells {w:World} {base G n c:Nat} {l:List Wr} (h:w.ownsRow base 70 4 (.slice (some ⟨G,0,none⟩) n c) n (wv l)) (hl:l.length=n) (i:Nat) (hi:i < l.length):
  w.cell? ⟨G,i * 4,none⟩=some (.int .i64 l[i].1.1)/\w.cell? ⟨G,i * 4+1,none⟩=some (.int .i64 l[i].1.2)/\w.cell? ⟨G,i * 4+2,none⟩=some (.int .i64 l[i].2.1)/\w.cell? ⟨G,i * 4+3,none⟩=some (.bool l[i].2.2):=by
 have e:∀j,j < 4->∀u,(wc l[i])[j]?=some u->w.cell? ⟨G,i * 4+j,none⟩=some u:=fun j hj u hu=>by
  rw[h.cellAt (i * 4+j) (by omega),wv_at l i hi j hj];exact hu
 exact⟨e 0 (by decide) _ rfl,e 1 (by decide) _ rfl,e 2 (by decide) _ rfl,e 3 (by decide) _ rfl⟩
open Go.Sort in
theorem Gr.belowP {a b:World} (h:Gr a b):RowKit.Below a.heap.size a b:=by
 obtain⟨q,os,rfl⟩:=h;exact⟨rfl,rfl,rfl,by rw[size_grow];exact Nat.le_add_right _ _,fun k hk=>by
  unfold grow;exact Array.getElem?_append_left hk⟩
theorem putS_snoc (l t:List Wr) (x:Wr):putS l (t++[x])=lsO (putA (t.foldl putA (atO l)) x):=by unfold putS;rw[List.foldl_append];rfl
structure ShI (l t X:List Wr):Prop where
 f:shF (-1) X=true
 a:∀o,atO X o=t.foldl putA (atO l) o
theorem ShI.start {l:List Wr} (h:shF (-1) l=true):ShI l [] l:=⟨h,fun _=>rfl⟩
theorem ShI.is {l t X:List Wr} (h:ShI l t X):X=putS l t:=lsO_is h.f h.a
theorem putA_congr {f g:Int->Option Wr} (h:∀o,f o=g o) (x:Wr) (o:Int):putA f x o=putA g x o:=by unfold putA;rw[h o]
theorem ShI.in_ {l t X:List Wr} (h:ShI l t X) {x:Wr} (hx:wrR x=true) {i:Nat} (hi:i<=X.length) (h1:∀t (ht:t < X.length),t < i->X[t].2.1 < x.2.1) (h2:∀t (ht:t < X.length),i<=t->x.2.1<=X[t].2.1) (hn:atO X x.2.1=none):ShI l (t++[x]) (X.take i++x :: X.drop i):=by
 obtain⟨a,b⟩:=put_in h.f hx hi h1 h2 hn;exact⟨a,fun o=>by rw[List.foldl_append,b o];exact putA_congr h.a x o⟩
theorem ShI.set_ {l t X:List Wr} (h:ShI l t X) {x:Wr} (hx:wrR x=true) {i:Nat} (hi:i < X.length) (he:X[i].2.1=x.2.1) (hn:atO X x.2.1=some X[i]) (hs:stLt X[i].1 x.1=true):ShI l (t++[x]) (X.set i x):=by
 obtain⟨a,b⟩:=put_set h.f hx hi he hn hs;exact⟨a,fun o=>by rw[List.foldl_append,b o];exact putA_congr h.a x o⟩
theorem ShI.not_ {l t X:List Wr} (h:ShI l t X) {x v:Wr} (hn:atO X x.2.1=some v) (hs:stLt v.1 x.1=false):ShI l (t++[x]) X:=
 ⟨h.f,fun o=>by rw[List.foldl_append,put_not hn hs o];exact putA_congr h.a x o⟩
theorem wv_ins (X:List Wr) (i:Nat) (x:Wr):wv (X.take i++x :: X.drop i)=(wv X).take (i * 4)++(wc x++(wv X).drop (i * 4)):=by
 have h1:(wv X).take (i * 4)=wv (X.take i):=by
  by_cases hi:i<=X.length
  ·have e:wv X=wv (X.take i)++wv (X.drop i):=by rw[<-wv_app,List.take_append_drop]
   rw[e,List.take_append_of_le_length (by rw[wv_len,List.length_take];omega),List.take_of_length_le (by rw[wv_len,List.length_take];omega)]
  ·rw[List.take_of_length_le (by rw[wv_len];omega),List.take_of_length_le (by omega)]
 have h2:(wv X).drop (i * 4)=wv (X.drop i):=by
  by_cases hi:i<=X.length
  ·have e:wv X=wv (X.take i)++wv (X.drop i):=by rw[<-wv_app,List.take_append_drop]
   rw[e,List.drop_append_of_le_length (by rw[wv_len,List.length_take];omega),List.drop_of_length_le (by rw[wv_len,List.length_take];omega),List.nil_append]
  ·rw[List.drop_of_length_le (by rw[wv_len];omega),List.drop_of_length_le (by omega)];rfl
 rw[h1,h2,wv_app];rfl
theorem ShI.len {l t X:List Wr} (h:ShI l t X):X.length<=256:=by
 rcases Wq.shF_len h.f (by omega) with a | e
 ·omega
 ·rw[e];simp
theorem shelfPut_any (A B:Option Addr) (n c m d:Nat) (l t:List Wr) (w:World) (hl:l.length=n) (hR:Rd w w.heap.size 4 A n c (wv l)) (hl2:t.length=m) (hR2:Rd w w.heap.size 4 B m d (wv t)) (hf:shF (-1) l=true) (ht:∀x∈t,wrR x=true) (hm:m<=1000000):
  Calls Tryz.prog 142 #[.slice A n c,.slice B m d] w fun e w'=>∃A' k c',e=.returned (.tuple #[.slice A' k c',.int .i64 0])/\(putS l t).length=k/\Rd w' w'.heap.size 4 A' k c' (wv (putS l t))/\Below w.heap.size w w':=by
 have h1max:1<=maxLen:=by unfold maxLen;omega
 have hln:n<=256:=by
  rcases Wq.shF_len hf (by omega) with h | h
  ·omega
  ·rw[<-hl,h];simp
 have G1:=shelfFormed_any A n c l w hl hR;rw[hf] at G1;have G2:=Hz_ fun (W:World) (hb:Below w.heap.size w W)=>cloneWr_any A n c (wv l) W (hR.go hb) (wv_oneCell l) (by omega);have G1:=Hz_ G1;have HS:=Hz_ (ShI.start hf);have HL:=Hz_ hl;have HL2:=Hz_ hl2;have HR2:=Hz_ fun (W:World) (hb:Below w.heap.size w W)=>hR2.go hb;have HT:=Hz_ ht;clear hR hR2 hf ht hl hl2;go_enter Tryz.func142,Tryz.ntmps142;go_wp2_with (go_at_call 93;go_must (refine G1.out.mono ?_);rintro e w1 ⟨rfl,hb1⟩);refine(G2.out _ hb1).mono ?_;rintro e w2 ⟨A2,c2,rfl,ho,hb2⟩;have hb:=btn hb1 hb2;have ho:=own_less ho hb1.size;clear hb1 hb2 G1 G2;go_wp2_with fail;go_loopw [8,9,10,6,18] (fun _ _ _ v6 v18 wr=>∃(j k c':Nat) (A':Option Addr) (X:List Wr),v18=.int .i64 j/\v6=.slice A' k c'/\j<=m/\k<=256/\Hid (ShI l (t.take j) X)/\Hid (X.length=k)/\Hid (wr.ownsRow w.heap.size 70 4 (.slice A' k c') k (wv X))/\Below w.heap.size w wr) (fun _ _ _ _ v18 _=>m - (intOf v18).toNat)
 case atStart=>exact⟨0,n,c2,A2,l,rfl,rfl,by omega,hln,HS,HL,ho,hb⟩
 case round=>
  clear ho hb;obtain⟨j,k,c',A',X,rfl,rfl,hj,hk,HI,HX,HO,hb⟩:=hrel;by_cases hlt:j < m
  ·have hjl:j < t.length:=by rw[HL2.out];exact hlt
   obtain⟨b,o,rfl,hab,g0,g1,g2,g3⟩:=(HR2.out wr hb).write HL2.out hjl;have hwr:=HT.out _ (List.getElem_mem hjl);have hnx:=List.take_succ_eq_append_getElem hjl;generalize t[j]=x at g0 g1 g2 g3 hwr hnx;obtain⟨⟨sc,sn⟩,ob,gn⟩:=x;dsimp only at g0 g1 g2 g3;have G3:=shelfRight_any sc sn ob gn;rw[show ((decide (0<=ob) && decide (ob<=255)) && Vc.right (sc,sn))=true from hwr] at G3;have G3:=Hz_ G3;have hb9:Below wr.heap.size wr (wr.alloc (.cells #[.int .i64 sc,.int .i64 sn,.int .i64 ob,.bool gn] 70)):=Zr.alloc Zl _;have hX9:=Blk.new wr 70 #[.int .i64 sc,.int .i64 sn,.int .i64 ob,.bool gn];have hO9:=HO.out.alloc (.cells #[.int .i64 sc,.int .i64 sn,.int .i64 ob,.bool gn] 70);have kw:=btn hb hb9;obtain⟨W9,hW9⟩:∃W,W=wr.alloc (.cells #[.int .i64 sc,.int .i64 sn,.int .i64 ob,.bool gn] 70):=⟨_,rfl⟩;rw[<-hW9] at hb9 hX9 hO9 kw;have HW9:=Hz_ hW9.symm;have HXB:=Hz_ (fun (W:World) (hb:Below W9.heap.size W9 W)=>hX9.go hb);have HO0:=HO;have HO:=Hz_ hO9;have HNX:=Hz_ hnx;have HWR:=Hz_ hwr;have hgs:w.heap.size<=wr.heap.size:=hb.size;have hG0:(Value.slice A' k c').ownBlock≠some wr.heap.size:=fun e=>by have:=(HO0.out.lt _ e).2;omega
   have HG0:=Hz_ hG0;clear hb9 hX9 hO9 hW9 hnx hwr hb hgs HO0;go_upto_region 7 with fail;rw[HW9.out];clear g0 g1 g2 g3;obtain⟨r0,r1,r2,r3⟩:=(HXB.out _ Zr).quad;go_wp2_with fail;refine(G3.out _).mono ?_;rintro e w3 ⟨rfl,hb3⟩;have z3:=hb3;have kw:=btn kw hb3;have HO:=Hz_ (own_below HO.out hb3 Zl);clear r0 r1 r2 r3 hb3;obtain⟨r0,r1,r2,r3⟩:=(HXB.out _ z3).quad;have GP:=shPlace_any A' k c' X ob w3 HX.out (Rd.of_own HO.out) (shF_rise HI.out.f) (by omega);have GP:=Hz_ GP;go_wp2_with fail;refine GP.out.mono ?_;rintro e w4 ⟨i,b,rfl,hi,hy,hno,⟨hlo,hhi⟩,hb4⟩;have z4:=btn z3 hb4;have kw:=btn kw hb4;have HO:=Hz_ (own_below HO.out hb4 Zl);clear r0 r1 r2 r3 hb4 z3;obtain⟨r0,r1,r2,r3⟩:=(HXB.out _ z4).quad;have hiX:i<=k:=by rw[<-HX.out];exact hi
   cases b
   ·have HI2:=Hz_ (HI.out.in_ HWR.out hi hlo hhi (hno rfl));have HD:=Hz_ (rd_new (size:=4) (n:=1) (cs:=#[.int .i64 sc,.int .i64 sn,.int .i64 ob,.bool gn]) (t:=70) ((Below.refl w4.heap.size w4).alloc Zl _) rfl h1max);have hB:=Blk.new w4 70 #[.int .i64 sc,.int .i64 sn,.int .i64 ob,.bool gn];have hOa:=HO.out.alloc (.cells #[.int .i64 sc,.int .i64 sn,.int .i64 ob,.bool gn] 70);have kw:=kw.alloc kw.size (.cells #[.int .i64 sc,.int .i64 sn,.int .i64 ob,.bool gn] 70);have hne:(Value.slice A' k c').ownBlock≠some w4.heap.size:=fun e=>by have:=(HO.out.lt _ e).2;omega
    have GI:=Hz_ (insert_wr w.heap.size k c' i w4.heap.size 1 A' (wv X) [.int .i64 sc,.int .i64 sn,.int .i64 ob,.bool gn] _ hOa kw.size (wv_oneCell X) (by omega) hiX hB rfl (by simp[Value.oneCell']) Zl h1max hne);have HEQ:=Hz_ (show wv (X.take i++((sc,sn),ob,gn) :: X.drop i)=(wv X).take (i * 4)++([.int .i64 sc,.int .i64 sn,.int .i64 ob,.bool gn]++(wv X).drop (i * 4)) from wv_ins X i ((sc,sn),ob,gn));clear hy hno hlo hhi hB hOa hne hi;go_wp2_with fail;refine GI.out.mono ?_;rintro e w5 ⟨A5,c5,rfl,ho5,hg5⟩;have kw:=kw.trans (grown_below hg5 kw.size (fun r hr=>(HO.out.lt r hr).1));have HO5:=Hz_ (show w5.ownsRow w.heap.size 70 4 (.slice A5 (k+1) c5) (k+1) (wv (X.take i++((sc,sn),ob,gn) :: X.drop i)) by rw[HEQ.out];exact ho5);clear ho5 hg5 GI HD;go_wp2_with fail;go_roundw
    case rel=>
     refine⟨j+1,k+1,c5,A5,_,by go_num,rfl,by omega,?_,?_,?_,HO5,kw⟩
     ·have:=HI2.out.len;rw[List.length_append,List.length_cons,List.length_take,List.length_drop,HX.out] at this;omega
     ·rw[HNX.out];exact HI2
     ·refine Hz_ ?_;rw[List.length_append,List.length_cons,List.length_take,List.length_drop,HX.out];omega
    case measure=>simp[intOf];omega
   ·obtain⟨hil,he,hat⟩:=hy rfl;have hik:i < k:=by rw[<-HX.out];exact hil
    obtain⟨G,rfl⟩:∃G,A'=some ⟨G,0,none⟩:=by
     rcases own_at0 HO.out with ⟨_,h,_⟩ | h
     ·omega
     ·exact h
    obtain⟨a0,a1,a2,a3⟩:=ownP_cells HO.out HX.out i hil;have GC:=fun W=>stampCompare_any X[i].1 (sc,sn) W;have hlt2:=stC_lt X[i].1 (sc,sn);dsimp only at GC;have hset:=fun h=>HI.out.set_ HWR.out hil he hat h;have hnot:=fun h=>HI.out.not_ (x:=((sc,sn),ob,gn)) hat h;dsimp only at hset hnot;generalize stLt X[i].1 (sc,sn)=z at hlt2 hset hnot;have HSET:=Hz_ hset;have HNOT:=Hz_ hnot;generalize stC X[i].1 (sc,sn)=q at GC hlt2;generalize X[i].1.1=x0 at a0 GC;generalize X[i].1.2=x1 at a1 GC;have HGC:=Hz_ fun W=>(GC W).mono fun e w' h=>And.intro h.1 h.2.belowP;have HLT:=Hz_ hlt2;have hikZ:(i:Int) < (k:Int):=by omega
    have HR1:=Hz_ (fun (W:World) (hb:Below w4.heap.size w4 W)=>(show (W.cell? ⟨G,i * 4,none⟩=some (.int .i64 x0)/\W.cell? ⟨G,i * 4+1,none⟩=some (.int .i64 x1))/\(W.cell? ⟨wr.heap.size,0,none⟩=some (.int .i64 sc)/\W.cell? ⟨wr.heap.size,1,none⟩=some (.int .i64 sn)) from by
     have hGl:=(HO.out.lt G rfl).2;obtain⟨y0,y1,_,_⟩:=(HXB.out W (btn z4 hb)).quad;exact⟨⟨(hb.cell hGl).trans a0,(hb.cell hGl).trans a1⟩,y0,y1⟩))
    clear hy hno hlo hhi hi he hat hset hnot GC hlt2 a2 a3;go_upto_region 12 with fail;clear r0 r1 r2 r3 a0 a1;have kd:Below w4.heap.size w4 w4.drew:=Zr.drew;refine region_nrm fun KK hKK=>?_;refine wp_region_held_drew (S:=(fun W=>(W.cell? ⟨G,i * 4,none⟩=some (.int .i64 x0)/\W.cell? ⟨G,i * 4+1,none⟩=some (.int .i64 x1))/\(W.cell? ⟨wr.heap.size,0,none⟩=some (.int .i64 sc)/\W.cell? ⟨wr.heap.size,1,none⟩=some (.int .i64 sn)))) (by kernel_rfl) (by first | exact HR1.out _ kd) (fun hHeld=>?_);refine puA 0 41 (HR1.out _ kd) ?_;refine puA 1 42 (HR1.out _ kd) ?_;refine puA 2 43 (HR1.out _ kd) ?_;refine puA 3 44 (HR1.out _ kd) ?_;refine puA 4 45 (HR1.out _ kd) ?_;refine puA 5 46 (HR1.out _ kd) ?_;refine puA 6 47 (HR1.out _ kd) ?_;refine puR 7 fun K hK=>?_;go_simp;refine(HGC.out _).mono ?_;rintro e w5 ⟨rfl,hb5⟩;have kd:=btn kd hb5;have hlt2:=HLT.out;refine hK.out _ _ (HR1.out _ kd) fun hHeld=>?_;clear hK K;refine puB 8 49 ((.bool z)) (HR1.out _ kd) ?_;refine puA 9 40 (HR1.out _ kd) ?_;refine wpAnyH_done (by kernel_rfl) ?_ _;refine Nrm.out (hKK _ _ ?_);clear hHeld;have kw:=kw.drew;have kw:=btn kw hb5;have HO:=Hz_ (own_below HO.out kd Zl);have z5:=btn z4 kd;clear hlt2;cases z
    ·go_wp2_with fail;go_roundw
     case rel=>
      refine⟨j+1,k,c',some ⟨G,0,none⟩,X,by go_num,rfl,by omega,hk,?_,HX,HO,kw⟩;rw[HNX.out];exact Hz_ (HNOT.out rfl)
     case measure=>simp[intOf];omega
    ·obtain⟨r0,r1,r2,r3⟩:=(HXB.out _ z5).quad;obtain⟨a0,a1,a2,a3⟩:=ownP_cells HO.out HX.out i (by rw[HX.out];exact hik);have f0:=HO.out.frozenAt (i * 4);have f1:=HO.out.frozenAt (i * 4+1);have f2:=HO.out.frozenAt (i * 4+2);have f3:=HO.out.frozenAt (i * 4+3);have hp:=ownP_put HO.out HX.out i hik ((sc,sn),ob,gn);have HP:=Hz_ hp;have HG:=Hz_ (HO.out.lt G rfl).1;generalize (X[i]'(by rw[HX.out];exact hik)).1.1=y0 at a0;generalize (X[i]'(by rw[HX.out];exact hik)).1.2=y1 at a1;generalize (X[i]'(by rw[HX.out];exact hik)).2.1=y2 at a2;generalize (X[i]'(by rw[HX.out];exact hik)).2.2=y3 at a3;clear hp;go_wp2_with fail;go_roundw
     case rel=>
      refine⟨j+1,k,c',some ⟨G,0,none⟩,X.set i ((sc,sn),ob,gn),by go_num,rfl,by omega,hk,?_,Hz_ (by rw[List.length_set];exact HX.out),Hz_ HP.out.1,kw.trans (grown_below HP.out.2 kw.size (fun r hr=>by cases hr;exact HG.out))⟩;rw[HNX.out];exact Hz_ (HSET.out rfl)
     case measure=>simp[intOf];omega
  ·obtain rfl:j=m:=by omega
   have HE:=Hz_ (show X=putS l t by have h:=HI.out.is;rw[List.take_of_length_le (by rw[HL2.out];exact Nat.le_refl _)] at h;exact h);have GCl:=Hz_ fun W=>clipWr_any A' k c' W (own_cap_ HO.out).1 (own_cap_ HO.out).2;go_wp2_with (go_at_call 193;go_must (refine(GCl.out _).mono ?_);rintro e w8 ⟨rfl,hb8⟩);go_ret2;have hr:=Rd.of_own HO.out;rw[HE.out] at hr;refine⟨A',k,k,rfl,by rw[<-HE.out];exact HX.out,?_,btn hb hb8⟩;exact(show Rd wr wr.heap.size 4 A' k k (wv (putS l t)) from ⟨hr.len,Nat.le_refl _,by have:=hr.max;have:=hr.cap;omega,fun h=>by have:=hr.nil h;have:=hr.cap;omega,hr.at0⟩).go hb8
theorem takeTest_any (gz gk:Nat) (A D:Option Addr) (n c m d:Nat) (L:List (ZV×Zn)) (u0:List Vc.St) (sc sn ob:Int) (gn:Bool) (w:World) (hz:w.cell? ⟨gz,0,none⟩=some (.slice A n c)) (hk:w.cell? ⟨gk,0,none⟩=some (.slice D m d))
  (hR:RdZ w w.heap.size A n c L) (hl:u0.length=m) (hR2:Rd w w.heap.size 2 D m d (sv u0)):
  Calls Tryz.prog 141 #[.agg #[.int .i64 sc,.int .i64 sn,.int .i64 ob,.bool gn],.pointer (some ⟨gz,0,none⟩),.pointer (some ⟨gk,0,none⟩)] w fun e w'=>e=.returned (.bool (!(hasB (reachF (zns L) u0 ob) (sc,sn))))/\Below w.heap.size w w':=by
 have hb0:Below w.heap.size w (w.alloc (.cells #[.int .i64 sc,.int .i64 sn,.int .i64 ob,.bool gn] 70)):=Zr.alloc Zl _;have h1:=(hb0.cell (p:=⟨gz,0,none⟩) (World.block_lt_of_cell? _ _ hz)).trans hz;have h2:=(hb0.cell (p:=⟨gk,0,none⟩) (World.block_lt_of_cell? _ _ hk)).trans hk;have H1:=viewReached_any A D n c m d L u0 ((sc,sn),ob,gn) _ (hR.go hb0) hl (hR2.go hb0);dsimp only at H1;have H1:=Hz_ H1;generalize hasB (reachF (zns L) u0 ob) (sc,sn)=z at H1 ⊢;have HB:=Hz_ hb0;clear hl hR hR2 hz hk hb0;go_enter Tryz.func141,Tryz.ntmps141;go_wp2_with (go_at_call 97;go_must (refine H1.out.mono ?_);rintro e w1 ⟨rfl,hb1⟩);go_ret;exact⟨rfl,btn HB.out hb1⟩
theorem ownV_pre {w:World} {base G n c:Nat} {F X:List Wr} (h:w.ownsRow base 70 4 (.slice (some ⟨G,0,none⟩) n c) n (wv (F++X))):w.ownsRow base 70 4 (.slice (some ⟨G,0,none⟩) F.length c) F.length (wv F):=by
 obtain⟨hlen,h | ⟨g,cap,cur,hv,hb,hg,hnc,hcm,hcs,hx⟩⟩:=h
 ·exact absurd h.1 (by simp)
 ·injection hv with hv1 _ hv3;injection hv1 with hv1;injection hv1 with hv1;subst hv1 hv3;rw[wv_len,List.length_append] at hlen;refine⟨wv_len F,.inr ⟨G,c,cur,rfl,hb,hg,by omega,hcm,hcs,?_⟩⟩;have h1:=congrArg (List.take (F.length * 4)) hx;rw[List.take_take,Nat.min_eq_left (by omega),wv_app,List.take_append_of_le_length (by rw[wv_len];exact Nat.le_refl _)] at h1;rw[h1,List.take_of_length_le (by rw[wv_len];exact Nat.le_refl _)]
theorem ownV_tail {base G n c:Nat} {F:List Wr} (hn:F.length=n):∀(vs:List Value) (o:Nat) (w:World),n * 4<=o->w.ownsRow base 70 4 (.slice (some ⟨G,0,none⟩) n c) n (wv F) ->
  (w.setCells G o vs).ownsRow base 70 4 (.slice (some ⟨G,0,none⟩) n c) n (wv F)/\w.grownBy (w.setCells G o vs) (some G)
 | [],_,w,_,h=>⟨h,World.grownBy.refl _ _⟩
 | v :: vs,o,w,ho,h=>by
  have s:=h.stored o v;rw[List.set_eq_of_length_le (by rw[wv_len];omega)] at s;obtain⟨h1,h2⟩:=ownV_tail hn vs (o+1) _ (by omega) s.1;exact⟨h1,s.2.trans h2⟩
theorem run_clearV (w:World) (G n c i:Nat) (hin:i < n) (hc:∀j,j < n * 4->(w.cell? ⟨G,j,none⟩).isSome=true) (hf:∀j,w.frozen? ⟨G,j,none⟩=false):
  ∃vs,∀ty,(Builtin.clear_ #[24] ty #[.slice (some ⟨G,i * 4,none⟩) (n - i) c]).run Tryz.prog w=.ok (.tuple #[]) (w.setCells G (i * 4) vs):=by
 have hz:∀w,(zeroValue 70).run Tryz.prog w=.ok (.agg #[.int .i64 0,.int .i64 0,.int .i64 0,.bool false]) w:=fun _=>by kernel_rfl
 obtain⟨vs,hvs⟩:∃vs,vs=(Builtin.zeroCells (Value.agg #[.int .i64 0,.int .i64 0,.int .i64 0,.bool false]).cells (n - i)).toList:=⟨_,rfl⟩;have hlen:vs.length=(n - i) * 4:=by rw[hvs];simp[Builtin.zeroCells,Value.cells]
 have hone:∀v∈vs,v.oneCell'=true:=fun v hv=>by
  obtain⟨j,hj,rfl⟩:=List.getElem_of_mem hv;have:∀k,k < 4->(#[Value.int .i64 0,.int .i64 0,.int .i64 0,.bool false][k]!).oneCell'=true:=by
   intro k hk
   match k,hk with
   | 0,_=>rfl
   | 1,_=>rfl
   | 2,_=>rfl
   | 3,_=>rfl
  have h4:=this (j % 4) (Nat.mod_lt _ (by decide));simp only[hvs,Builtin.zeroCells,Value.cells];simp at h4 ⊢;simpa using h4
 have hst:=run_storeCells_cells (P:=Tryz.prog) G (i * 4) vs 0 w (by rw[hlen];intro j hj;exact hc (i * 4+j) (by omega)) (fun j _=>hf _) hone;simp only[Nat.add_zero] at hst;refine⟨vs,fun ty=>?_⟩;obtain⟨m,hm⟩:∃m,n - i=m+1:=⟨n - i - 1,by omega⟩;rw[hm] at hvs ⊢;simp[Builtin.clear_,run_underlying Tryz.underlying24,hz,<-hvs,hst]
theorem grownV_of {w w':World} (hb:Below w.heap.size w w') (row:Option Nat):w.grownBy w' row:=⟨hb.os,hb.tape,hb.output,hb.size,fun k hk _=>hb.block k hk⟩
def TestV (w:World) (G:Nat) (pv qv:Value) (p:Wr->Bool):Prop:=∀W,w.grownBy W (some G)->∀(sc sn ob:Int) (gn:Bool),
 Calls Tryz.prog 141 #[.agg #[.int .i64 sc,.int .i64 sn,.int .i64 ob,.bool gn],pv,qv] W fun e w'=>e=.returned (.bool (p ((sc,sn),ob,gn)))/\Below W.heap.size W w'
def ixV (p:Wr->Bool):Nat->List Wr->Int
 | _,[]=>-1
 | k,s :: r=>if p s=true then (k:Int) else ixV p (k+1) r
theorem ixV_drop (p:Wr->Bool) (k:Nat) (l:List Wr) (h:k < l.length):ixV p k (l.drop k)=if p l[k]=true then (k:Int) else ixV p (k+1) (l.drop (k+1)):=by
 rw[List.drop_eq_getElem_cons h,ixV]
theorem ixV_none {p:Wr->Bool}:∀{l:List Wr} {k:Nat},ixV p k l=-1->l.filter (fun x=>!p x)=l
 | [],_,_=>rfl
 | s :: r,k,h=>by
  rw[ixV] at h
  split at h
  ·omega
  ·rename_i hp;have hp':p s=false:=by simpa using hp
   rw[List.filter_cons,hp'];simp[ixV_none h]
theorem ixV_some {p:Wr->Bool}:∀{l:List Wr} {k:Nat},ixV p k l≠-1->∃F x T,l=F++x :: T/\p x=true/\(∀y∈F,p y=false)/\ixV p k l=((k+F.length:Nat):Int)
 | [],_,h=>absurd rfl h
 | s :: r,k,h=>by
  rw[ixV] at h ⊢
  split at h
  ·rename_i hp;rw[if_pos hp];exact⟨[],s,r,rfl,hp,(fun y hy=>by cases hy),by simp⟩
  ·rename_i hp;rw[if_neg hp];obtain⟨F,x,T,e1,e2,e3,e4⟩:=ixV_some h;refine⟨s :: F,x,T,by rw[e1];rfl,e2,fun y hy=>?_,by rw[e4,List.length_cons];omega⟩;rcases List.mem_cons.1 hy with rfl | hy
   ·simpa using hp
   ·exact e3 y hy
theorem indexV_any (base G n c:Nat) (l:List Wr) (pv qv:Value) (p:Wr->Bool) (w:World) (ho:w.ownsRow base 70 4 (.slice (some ⟨G,0,none⟩) n c) n (wv l)) (hl:l.length=n) (hn:n<=1000000000) (hp:TestV w G pv qv p):
  Calls Tryz.prog 189 #[.slice (some ⟨G,0,none⟩) n c,.func (.func 141) #[] #[pv,qv]] w fun e w'=>e=.returned (.int .i64 (ixV p 0 l))/\Below w.heap.size w w':=by
 have HO:=Hz_ ho;have HP:=Hz_ hp;have HL:=Hz_ hl;clear ho hp hl;go_enter Tryz.func189,Tryz.ntmps189;go_wp2;go_loopw [8] (fun i wr=>∃(k:Nat),k<=n/\i=.int .i64 k/\Below w.heap.size w wr/\Hid (ixV p 0 l=ixV p k (l.drop k))) (fun i _=>n - (intOf i).toNat)
 case atStart=>exact⟨0,by omega,rfl,Below.refl _ _,rfl⟩
 case round=>
  obtain⟨k,hk,rfl,hb,hf⟩:=hrel;by_cases hlt:k < n
  ·have hkl:k < l.length:=by rw[HL.out];omega
   obtain⟨h0,h1,h2,h3⟩:=ownP_cells (own_below HO.out hb Zl) HL.out k hkl;have HD:=Hz_ (ixV_drop p k l hkl);have H1:=HP.out wr (grownV_of hb _) (l[k]'hkl).1.1 (l[k]'hkl).1.2 (l[k]'hkl).2.1 (l[k]'hkl).2.2;have e9:(((l[k]'hkl).1.1,(l[k]'hkl).1.2),(l[k]'hkl).2.1,(l[k]'hkl).2.2)=l[k]'hkl:=rfl;rw[e9] at H1;generalize hz:p (l[k]'hkl)=z at H1 HD;generalize (l[k]'hkl).1.1=sc at h0 H1;generalize (l[k]'hkl).1.2=sn at h1 H1;generalize (l[k]'hkl).2.1=ob at h2 H1;generalize (l[k]'hkl).2.2=gn at h3 H1;have HB:=Hz_ hb;have HF:=Hz_ (hf.out.trans HD.out);have H1:=Hz_ H1;clear hz hb hf HD e9;cases z
   ·go_wp2_with (go_at_call 141;go_must (refine H1.out.mono ?_);rintro e w1 ⟨rfl,hb1⟩);go_roundw
    case rel=>exact⟨k+1,by omega,by go_num,btn HB.out hb1,by show _=_;rw[HF.out];rfl⟩
    case measure=>simp[intOf];omega
   ·go_wp2_with (go_at_call 141;go_must (refine H1.out.mono ?_);rintro e w1 ⟨rfl,hb1⟩);go_ret;exact⟨by rw[HF.out];rfl,btn HB.out hb1⟩
  ·obtain rfl:k=n:=by omega
   have HN:=Hz_ (show ixV p 0 l=-1 by rw[hf.out,List.drop_of_length_le (by rw[HL.out];exact Nat.le_refl _)];rfl);have HB:=Hz_ hb;clear hb hf;go_wp2;go_ret;exact⟨by rw[HN.out];rfl,HB.out⟩
theorem getV_mid (P Q:List Wr) (x:Wr) (j:Nat) (h:j=P.length) (hj:j < (P++x :: Q).length):(P++x :: Q)[j]=x:=by subst h;simp
theorem setV_mid (P Q:List Wr) (y x:Wr) (j:Nat) (h:j=P.length):(P++y :: Q).set j x=P++x :: Q:=by
 subst h;rw[List.set_append_right _ _ Zl,Nat.sub_self];rfl
theorem deleteV_any (base G n c:Nat) (l:List Wr) (pv qv:Value) (p:Wr->Bool) (w:World) (ho:w.ownsRow base 70 4 (.slice (some ⟨G,0,none⟩) n c) n (wv l)) (hl:l.length=n) (hn:n<=1000000000) (hp:TestV w G pv qv p):
  Calls Tryz.prog 139 #[.slice (some ⟨G,0,none⟩) n c,.func (.func 141) #[] #[pv,qv]] w fun e w'=>∃i:Nat,e=.returned (.slice (some ⟨G,0,none⟩) i c)/\(l.filter fun x=>!p x).length=i/\w'.ownsRow base 70 4 (.slice (some ⟨G,0,none⟩) i c) i (wv (l.filter fun x=>!p x))/\w.grownBy w' (some G):=by
 have HI:=Hz_ (indexV_any base G n c l pv qv p w ho hl hn hp);have HP:=Hz_ hp;have HO:=Hz_ ho;have HL:=Hz_ hl;have HNC:=Hz_ (show n<=c by
  obtain⟨_,h | ⟨g,cap,cur,hv,_,_,hnc,_⟩⟩:=ho
  ·exact absurd h.1 (by simp)
  ·injection hv with _ _ hv3;omega)
 clear hp ho hl;by_cases hx:ixV p 0 l=-1
 ·have HF:=Hz_ (ixV_none hx);rw[hx] at HI;clear hx;go_enter Tryz.func139,Tryz.ntmps139;go_wp2_with (go_at_call 189;go_must (refine HI.out.mono ?_);rintro e w1 ⟨rfl,hb1⟩);go_ret;exact⟨n,rfl,by rw[HF.out];exact HL.out,by rw[HF.out];exact own_below HO.out hb1 Zl,grownV_of hb1 _⟩
 ·obtain⟨F,x,T,e1,e2,e3,e4⟩:=ixV_some hx;rw[Nat.zero_add] at e4;rw[e4] at HI;have HFL:=Hz_ (show (l.filter fun x=>!p x)=F++T.filter fun x=>!p x by
   rw[e1,List.filter_append,List.filter_cons,e2,if_neg (by simp),List.filter_eq_self.2 (fun y hy=>by rw[e3 y hy];rfl)])
  have HLL:=Hz_ (show F.length+1+T.length=n by rw[<-HL.out,e1];simp;omega);have HD:=Hz_ e1;clear hx e1 e2 e3 e4;obtain⟨i,hi⟩:∃i,i=F.length:=⟨_,rfl⟩;rw[<-hi] at HI;have hin:i < n:=by have:=HLL.out;omega
  have him:((i:Int) == -1)=false:=beq_eq_false_iff_ne.2 (by omega);have him2:¬ (i:Int)=-1:=by omega
  have HIF:=Hz_ hi;clear hi;go_enter Tryz.func139,Tryz.ntmps139;go_wp2_with (go_at_call 189;go_must (refine HI.out.mono ?_);rintro e w1 ⟨rfl,hb1⟩);have ho1:=own_below HO.out hb1 Zl;have hg1:=grownV_of hb1 (some G);go_loopw [5,6] (fun v5 v6 wr=>∃(i j:Nat) (F Y T:List Wr),v5=.int .i64 i/\v6=.int .i64 j/\i < j/\j<=n/\Hid (i=F.length/\j=F.length+Y.length/\j+T.length=n)/\Hid ((l.filter fun x=>!p x)=F++T.filter fun x=>!p x)/\Hid (wr.ownsRow base 70 4 (.slice (some ⟨G,0,none⟩) n c) n (wv (F++Y++T)))/\Hid (w.grownBy wr (some G))) (fun _ v6 _=>n - (intOf v6).toNat)
  case atStart=>exact⟨i,i+1,F,[x],T,rfl,by go_num,by omega,by omega,⟨HIF.out,by simp[HIF.out],by have:=HLL.out;have:=HIF.out;omega⟩,HFL,by show World.ownsRow _ _ _ _ _ _ _;rw[List.append_assoc];rw[HD.out] at ho1;exact ho1,hg1⟩
  case round=>
   clear ho1 hg1 hb1;obtain⟨i,j,F,Y,T,rfl,rfl,hij,hjn,HN,HF,HW,HG⟩:=hrel;by_cases hlt:j < n
   ·obtain⟨x,T,rfl⟩:∃x T',T=x :: T':=by
     cases T with
     | nil=>have:=HN.out;simp at this;omega
     | cons x T'=>exact⟨x,T',rfl⟩
    obtain⟨y,Y,rfl⟩:∃y Y',Y=y :: Y':=by
     cases Y with
     | nil=>have:=HN.out;simp at this;omega
     | cons x T'=>exact⟨x,T',rfl⟩
    have hlen:(F++(y :: Y)++x :: T).length=n:=by have:=HN.out;simp at this ⊢;omega
    have hjl:j < (F++(y :: Y)++x :: T).length:=by omega
    have hil:i < (F++(y :: Y)++x :: T).length:=by omega
    obtain⟨h0,h1,h2,h3⟩:=ownP_cells HW.out hlen j hjl;rw[getV_mid (F++(y :: Y)) T x j (by have:=HN.out;simp at this ⊢;omega) hjl] at h0 h1 h2 h3;obtain⟨⟨sc,sn⟩,ob,gn⟩:=x;dsimp only at h0 h1 h2 h3;obtain⟨W1,hW1⟩:∃W1,W1=wr.alloc (.cells #[.int .i64 sc,.int .i64 sn,.int .i64 ob,.bool gn] 70):=⟨_,rfl⟩;have H1:=HP.out W1 (by rw[hW1];exact HG.out.trans (World.grownBy_alloc _ _ _)) sc sn ob gn;rw[hW1] at H1;have HBN:=Hz_ (Blk.new wr 70 #[.int .i64 sc,.int .i64 sn,.int .i64 ob,.bool gn]);have HOW:=Hz_ (show (wr.alloc (.cells #[.int .i64 sc,.int .i64 sn,.int .i64 ob,.bool gn] 70)).ownsRow base 70 4 (.slice (some ⟨G,0,none⟩) n c) n (wv (F++(y :: Y)++((sc,sn),ob,gn) :: T)) from HW.out.alloc _);have HGW:=Hz_ (HG.out.trans (World.grownBy_alloc wr (.cells #[.int .i64 sc,.int .i64 sn,.int .i64 ob,.bool gn] 70) _));have HF1:=HF.out;rw[List.filter_cons] at HF1;generalize p ((sc,sn),ob,gn)=z at H1 HF1;have H1:=Hz_ H1;have HF1:=Hz_ HF1;have hjz:(j:Int) < (n:Int):=by omega
    clear hW1;cases z
    ·go_wp2_with (go_at_call 141;go_must (refine H1.out.mono ?_);rintro e w2 ⟨rfl,hb2⟩;obtain⟨b0,b1,b2,b3⟩:=(HBN.out.go hb2).four4;obtain⟨a0,a1,a2,a3⟩:=ownP_cells (own_below HOW.out hb2 Zl) hlen i hil;have f0:=(own_below HOW.out hb2 Zl).frozenAt (i * 4);have f1:=(own_below HOW.out hb2 Zl).frozenAt (i * 4+1);have f2:=(own_below HOW.out hb2 Zl).frozenAt (i * 4+2);have f3:=(own_below HOW.out hb2 Zl).frozenAt (i * 4+3);have HS:=Hz_ (ownP_put (own_below HOW.out hb2 Zl) hlen i (by omega) ((sc,sn),ob,gn));have HK:=Hz_ (HGW.out.trans (grownV_of hb2 (some G)));clear hb2;generalize (F++(y :: Y)++((sc,sn),ob,gn) :: T)[i].1.1=o0 at a0;generalize (F++(y :: Y)++((sc,sn),ob,gn) :: T)[i].1.2=o1 at a1;generalize (F++(y :: Y)++((sc,sn),ob,gn) :: T)[i].2.1=o2 at a2;generalize (F++(y :: Y)++((sc,sn),ob,gn) :: T)[i].2.2=o3 at a3);go_roundw
     case rel=>
      refine⟨i+1,j+1,F++[((sc,sn),ob,gn)],Y++[((sc,sn),ob,gn)],T,by go_num,by go_num,by omega,by omega,by have:=HN.out;exact Hz_ (by simp at this ⊢;omega),by show _=_;rw[HF1.out];simp,?_,HK.out.trans HS.out.2⟩;have h9:=HS.out.1;rw[List.append_assoc,List.cons_append,setV_mid F _ _ _ i HN.out.1] at h9;show World.ownsRow _ _ _ _ _ _ _;have e9:F++[((sc,sn),ob,gn)]++(Y++[((sc,sn),ob,gn)])++T=F++((sc,sn),ob,gn) :: (Y++((sc,sn),ob,gn) :: T):=by simp
      rw[e9];exact h9
     case measure=>simp[intOf];omega
    ·go_wp2_with (go_at_call 141;go_must (refine H1.out.mono ?_);rintro e w2 ⟨rfl,hb2⟩);go_roundw
     case rel=>
      refine⟨i,j+1,F,(y :: Y)++[((sc,sn),ob,gn)],T,rfl,by go_num,by omega,by omega,by have:=HN.out;exact Hz_ (by simp at this ⊢;omega),by show _=_;rw[HF1.out];simp,?_,HGW.out.trans (grownV_of hb2 _)⟩;show World.ownsRow _ _ _ _ _ _ _;have e9:F++((y :: Y)++[((sc,sn),ob,gn)])++T=F++(y :: Y)++((sc,sn),ob,gn) :: T:=by simp
      rw[e9];exact own_below HOW.out hb2 Zl
     case measure=>simp[intOf];omega
   ·obtain rfl:j=n:=by omega
    have hT:T=[]:=List.length_eq_zero_iff.1 (by have:=HN.out;omega);subst hT;have HF2:=Hz_ (show (l.filter fun x=>!p x)=F by rw[HF.out];simp);have hW:=HW.out;rw[List.append_nil] at hW;have hiF:=HN.out.1;have hnc:=HNC.out;have hlen:(F++Y).length=j:=by have:=HN.out;simp at this ⊢;omega
    obtain⟨vs,hcl⟩:=run_clearV wr G j (c - i) i hij (fun t ht=>by rw[hW.cellAt t ht,List.getElem?_eq_getElem (by rw[wv_len,hlen];exact ht)];rfl) (fun t=>hW.frozenAt t);have hfr:=fun W=>run_from (P:=Tryz.prog) W 24 70 4 Tryz.underlying24 size_writeL (some ⟨G,0,none⟩) j c .i64 i i rfl (by omega);rw[show cutAt 4 (some ⟨G,0,none⟩) c i=some ⟨G,i * 4,none⟩ by unfold cutAt;rw[if_neg (by omega)];simp[Addr.add];omega] at hfr;have hup:=fun W=>run_upto (P:=Tryz.prog) W 24 70 4 Tryz.underlying24 size_writeL (some ⟨G,0,none⟩) j c .i64 i i rfl (by omega);have HE:=Hz_ (ownV_tail rfl vs (i * 4) wr (by omega) (ownV_pre hW));have HI2:=Hz_ hiF;clear hW hiF hlen hnc;go_wp2;go_ret;refine⟨i,rfl,by rw[HF2.out];exact HI2.out.symm,?_,HG.out.trans HE.out.2⟩;rw[HF2.out,HI2.out];have h9:=HE.out.1;rw[HI2.out] at h9;exact h9
end Go.Proofs.YtmbeahbgafkjfaaGreatDoor
