/- Lemmas for the claim, layer 20. -/
import Derived.Test.YtmbeahbgafkjfaaGreatDoorKc19
set_option maxRecDepth 100000
set_option maxHeartbeats 16000000
namespace Go.Proofs.YtmbeahbgafkjfaaGreatDoor
open Go.RowKit Go.Shelf
attribute [local go_sem] Oper.semAt_some
def evW (q:Wr):Array Value:=#[.int .i64 q.2.1,.agg #[.int .i64 q.1.1,.int .i64 q.1.2,.int .i64 q.2.1,.bool q.2.2]]
structure GoodH (Bx:Nat) (A:Option Addr) (n c:Nat) (l:List Wr) (W:World):Prop where
 box:Blk W Bx 24 #[.slice A n c]
 rd:Rd W W.heap.size 4 A n c (wv l)
theorem GoodH.keep {Bx:Nat} {A:Option Addr} {n c:Nat} {l:List Wr} {W V:World} (h:GoodH Bx A n c l W) (k:KA 0 W V):GoodH Bx A n c l V:=
 ⟨k.blk (Nat.zero_le _) h.box,⟨h.rd.len,h.rd.cap,h.rd.max,h.rd.nil,fun hn=>by
  obtain⟨ad,e,hb,hc⟩:=h.rd.at0 hn;exact⟨ad,e,Nat.lt_of_lt_of_le hb k.size,fun j u hu=>k.cell (Nat.zero_le _) (hc j u hu)⟩⟩⟩
theorem GoodH.go {Bx:Nat} {A:Option Addr} {n c:Nat} {l:List Wr} {W V:World} (h:GoodH Bx A n c l W) (hb:Below W.heap.size W V):GoodH Bx A n c l V:=h.keep (KA.of_below hb)
theorem shAll_any (A:Option Addr) (n c:Nat) (l:List Wr) (w:World) (hR:Rd w w.heap.size 4 A n c (wv l)):
  Calls Tryz.prog 96 #[.slice A n c] w fun e w'=>∃(Bx:Nat),e=.returned (.func (.func 164) #[] #[.pointer (some ⟨Bx,0,none⟩)]) /\
   GoodH Bx A n c l w'/\Below w.heap.size w w':=by
 have hb0:Below w.heap.size w (w.alloc (.cells #[.slice A n c] 24)):=Zr.alloc Zl _;have HR:=Hz_ (hR.go hb0);have HB:=Hz_ hb0;clear hR hb0;go_enter Tryz.func96,Tryz.ntmps96;go_wp2;go_ret;exact⟨_,rfl,⟨Blk.new w _ _,HR.out⟩,HB.out⟩
theorem shAll1_in (m:Nat) (hm:1<=m) (lp Bx:Nat) (A:Option Addr) (n c:Nat) (l:List Wr) (hl:l.length=n) (hf:shF (-1) l=true) (J Jx:List Wr->World->Prop) (B0:Nat) (hJ:AbidesFrom B0 J)
  (hY:∀pre (x:Wr) W,J pre W->(pre++[x]) <+: l->pre.length < 256->YieldAt Fence.wide (m - 1) Tryz.prog lp (evW x) W fun e W'=>
   (e=.returned (.bool true)/\J (pre++[x]) W'/\KA 0 W W')\/(e=.returned (.bool false)/\Jx (pre++[x]) W'))
  (W:World) (hg:GoodH Bx A n c l W) (h0:J [] W):
  CallsIn Fence.wide m Tryz.prog 164 #[.func (.yield lp) #[] #[],.pointer (some ⟨Bx,0,none⟩)] W fun e W'=>(∃v,e=.returned v) /\
   ((∃ys,ys=l/\J ys W')\/(∃pre,(pre <+: l)/\Jx pre W')):=by
 have hbx:=hg.box.cell 0;have HLN:=Hz_ hl;have hmax:n<=9223372036854775807:=by have h1:=hg.rd.cap;have h2:=hg.rd.max;unfold maxLen at h2;omega
 have hlen:n≤256:=by rcases Wq.shF_len hf (by omega) with h | h
                     ·omega
                     ·rw[<-hl,h];simp
 have f1:=shelfFormed_any A n c l W hl hg.rd;rw[hf] at f1;have G1:=Hz_ f1;have HG:=Hz_ hg;clear f1 hl hf hg;refine callsIn_of_wp Tryz.func164 rfl trivial ?_ rfl;simp only[Tryz.ntmps164,List.size_toArray,List.length_cons,List.length_nil,Nat.reduceAdd,Nat.reduceSub,Array.replicate_succ,Array.replicate_zero,List.push_toArray,List.append_toArray,List.nil_append,List.cons_append]
 gi_wp2_with (refine⟨trivial,?_⟩;gi_at_call 93;refine(callsIn_wide.2 G1.out).mono ?_;rintro e w1 ⟨rfl,hb1⟩;have q0:=(HG.out.go hb1).box.cell 0)
 have hg1:=HG.out.go hb1;have hj1:=abideS hJ hb1 h0;clear q0 hb1 G1 HG hbx
 gi_loopw [10] (fun v10 wr=>∃(k:Nat) (pre:List Wr),v10=.int .i64 k/\k<=n/\GoodH Bx A n c l wr/\J pre wr/\Hid (l=pre++l.drop k)/\pre.length=k) (fun v10 _=>n - (intOf v10).toNat)
 case atStart=>exact⟨0,[],rfl,by omega,hg1,hj1,rfl,rfl⟩
 case round=>
  obtain⟨k,pre,rfl,hk,hgd,hj,hev,hpl⟩:=hrel;by_cases hlt:k < n
  ·have hkl:k < l.length:=by rw[HLN.out];exact hlt
   obtain⟨bb,o,rfl,hab,g0,g1,g2,g3⟩:=hgd.rd.write HLN.out hkl;have HE:=Hz_ (show l=(pre++[l[k]])++l.drop (k+1) by rw[List.append_assoc,List.singleton_append,<-List.drop_eq_getElem_cons hkl];exact hev.out);have hpf:(pre++[l[k]]) <+: l:=⟨_,HE.out.symm⟩;have hb1:Below wr.heap.size wr (wr.alloc (.cells #[.int .i64 l[k].1.1,.int .i64 l[k].1.2,.int .i64 l[k].2.1,.bool l[k].2.2] 70)):=Zr.alloc Zl _;have hgd1:=hgd.go hb1;have hj1:=abideS hJ hb1 hj;obtain⟨fn,tmps,assign,body,hy,hR⟩:=hY pre l[k] _ hj1 hpf (by omega);dsimp only[evW] at hy;have HG:=Hz_ hgd1;have HPF:=Hz_ hpf;generalize hqq:l[k]=q at g0 g1 g2 g3 HE hb1 HG hj1 hy hR HPF;obtain⟨⟨sc,sn⟩,ob,gn⟩:=q;dsimp only at g0 g1 g2 g3 hb1 HG hj1 hy hR;clear hqq hev hgd hb1 hgd1 hpf
   gi_wp2
   refine hR.mono ?_;rintro e W3 (⟨rfl,hJ3,hk3⟩ | ⟨rfl,hJx3⟩)
   ·gi_wp2
    go_roundw
    case rel=>exact⟨k+1,pre++[((sc,sn),ob,gn)],by go_num,by omega,HG.out.keep hk3,hJ3,HE.out,by rw[List.length_append,List.length_singleton,hpl]⟩
    case measure=>simp[intOf];omega
   ·gi_wp2
    refine bodyPost_ret (results_none rfl _ _ _) rfl ?_;exact⟨⟨_,rfl⟩,.inr ⟨_,HPF.out,hJx3⟩⟩
  ·have HD:=Hz_ (show pre=l by
    have:=hev.out;rw[List.drop_of_length_le (by rw[HLN.out];omega),List.append_nil] at this;exact this.symm)
   clear hev
   gi_wp2
   go_end0;exact⟨⟨_,rfl⟩,.inl ⟨pre,HD.out,hj⟩⟩
theorem shAll_next (m:Nat) (hm:1<=m) (Bx:Nat) (A:Option Addr) (n c:Nat) (l:List Wr) (hl:l.length=n) (hf:shF (-1) l=true) (w:World) (hg:GoodH Bx A n c l w):
  SeqNext Fence.wide m Tryz.prog 164 #[.pointer (some ⟨Bx,0,none⟩)] evW (fun pre x=>(pre++[x]) <+: l) (KA 0) (fun ys=>ys=l) (fun pre=>pre <+: l) 256 w:=by
 intro lp J Jx W hW hJ hJx hY h0;exact shAll1_in m hm lp Bx A n c l hl hf J Jx W.heap.size hJ hY W (hg.go hW) h0
end Go.Proofs.YtmbeahbgafkjfaaGreatDoor
namespace Go.Proofs.YtmbeahbgafkjfaaGreatDoor
open Go.RowKit Go.Shelf
attribute [local go_sem] Oper.semAt_some
theorem all_drop {α:Type} (p:α->Bool) (l:List α) (k:Nat) (h:k < l.length):(l.drop k).all p=(p l[k] && (l.drop (k+1)).all p):=by
 rw[List.drop_eq_getElem_cons h,List.all_cons]
theorem any_not {α:Type} (p:α->Bool) (l:List α):(l.any fun x=>!p x)=!(l.all p):=by
 induction l with
 | nil=>rfl
 | cons x r ih=>rw[List.any_cons,List.all_cons,ih];cases p x<;>rfl
theorem held_at {b o B:Nat} {p:Nat->Nat->Prop} (h:∃b2 o2,(some ⟨b,o,none⟩:Option Addr)=some ⟨b2,o2,none⟩/\b2 < B/\p b2 o2):p b o:=by
 obtain⟨b2,o2,e,_,hp⟩:=h;obtain⟨rfl,rfl⟩:b=b2/\o=o2:=by injection e with e;injection e with e3 e4;exact⟨e3,e4⟩
 exact hp
theorem reachd_F {zones:List Zn} {known:List Vc.St} {held:List Wr} (h1:fm (-1) known=true) (h2:zF (-1) none zones=true) (h3:shF (-1) held=true):(held.all fun x=>hasB (reachF zones known x.2.1) x.1)=held.all (reachd zones known):=by
 rw[Bool.eq_iff_iff,List.all_eq_true,List.all_eq_true];refine forall_congr' fun x=>forall_congr' fun hx=>?_;obtain⟨a,b,_⟩:=Wq.shF_hd h3 x hx;rw[reachF_yes h2 h1 ⟨a,b⟩];rfl
theorem blkV_kept {W W':World} {g:Nat} {t:TypeId} {cs:Array Value} {row:Option Nat} (h:Blk W g t cs) (hg:W.grownBy W' row) (hr:∀r,row=some r->∃o:Obj,W.heap[r]?=some o/\o.isCells=false):Blk W' g t cs:=
 h.grown hg (fun e=>by obtain⟨o,ho,hc⟩:=hr _ e.symm;rw[h] at ho;injection ho with ho;rw[<-ho] at hc;cases hc)
theorem boxed_kept {B:Nat} {t:TypeId} {v:Value} {X Y:World} {row:Option Nat} (h:Boxed X B t v) (hg:X.grownBy Y row) (hr:∀r,row=some r->∃o:Obj,X.heap[r]?=some o/\o.isCells=false):Boxed Y B t v:=
 boxed_own B _ (fun _:Unit=>_) () X Y row h hg hr
theorem keeps_belowV {B:Nat} {W V:World} (h:Below W.heap.size W V):KeepsFrom B W V:=⟨h.size,fun k _ _ hk _=>(h.block k (Array.getElem?_eq_some_iff.1 hk).1).trans hk⟩
theorem Boxed.olds {W V:World} {B n₀:Nat} {t:TypeId} {v:Value} (h:Boxed W B t v) (hb:Below n₀ W V) (hlt:B < n₀):Boxed V B t v:=(hb.block _ hlt).trans h
theorem viewFormed_any (u:VV) (v:Vw) (L:List (ZV×Zn)) (M:List (BV×Wq.Bd)) (w:World) (hT:Tab w) (hV:VwRd w w.heap.size u v L M):
  Calls Tryz.prog 26 #[.agg (vval v u)] w fun e w'=>e=.returned (.bool (vwF v))/\Below w.heap.size w w':=by
 obtain⟨kA,kc,zA,zc,hA,hc,bA,bc⟩:=u;obtain⟨known,zones,held,bods,room⟩:=v;obtain⟨h1,h2,h3,h4,h5,h6⟩:=hV;have hvw:vwF ⟨known,zones,held,bods,room⟩=((fm (-1) known && (zF (-1) none zones && (shF (-1) held && caF bods room))) && (zones.all (ahead1 known) && (held.all (reachd zones known) && bods.all (wantd held)))):=rfl;unfold vval;dsimp only at h1 h2 h3 h4 h5 h6 ⊢;rw[hvw];have HRF:=Hz_ fun a b c=>reachd_F (zones:=zones) (known:=known) (held:=held) a b c;generalize hq1:zones.all (ahead1 known)=q1B;generalize hq2:held.all (reachd zones known)=q2B at HRF ⊢;generalize hq3:bods.all (wantd held)=q3B;have HQ1:=Hz_ hq1.symm;have HANY:=Hz_ (show (bods.any fun x=>!(true && wantd held x))=!q3B by rw[<-hq3];simp only[Bool.true_and];exact any_not _ _);clear hq1 hq2 hq3;have hb0:Below w.heap.size w ((w.alloc (.cells #[.slice kA known.length kc,.slice zA zones.length zc,.slice hA held.length hc,.slice bA bods.length bc,.int .i64 room] 35)).alloc (.cells #[.bool false] 4)):=(Zr.alloc Zl _).alloc (by simp) _;have hX:=(Blk.new w 35 #[.slice kA known.length kc,.slice zA zones.length zc,.slice hA held.length hc,.slice bA bods.length bc,.int .i64 room]).alloc (.cells #[.bool false] 4);have hO:=Boxed.new (w.alloc (.cells #[.slice kA known.length kc,.slice zA zones.length zc,.slice hA held.length hc,.slice bA bods.length bc,.int .i64 room] 35)) 4 (.bool false);rw[World.size_alloc] at hO;have H1:=Hz_ fun (W:World) (hb:Below w.heap.size w W)=>formed_any kA known.length kc known W rfl (h1.go hb);have H2:=Hz_ fun (W:World) (hb:Below w.heap.size w W)=>zonesFormed_any zA zones.length zc L W (h2.go hb);have H3:=Hz_ fun (W:World) (hb:Below w.heap.size w W)=>shelfFormed_any hA held.length hc held W rfl (h4.go hb);have H4:=Hz_ fun (W:World) (hb:Below w.heap.size w W)=>cacheFormed_any bA bods.length bc M room W (h5.go hb);have H5:=Hz_ fun (W:World) (hb:Below w.heap.size w W) (A:Option Addr) (n c:Nat) (z:List Vc.St) (hl:z.length=n) (hR:Rd w w.heap.size 2 A n c (sv z))=>compare_any A kA n c known.length kc z known W (hT.below hb) hl rfl (hR.go hb) (h1.go hb);have H6:=Hz_ fun (W:World) (hb:Below w.heap.size w W)=>shAll_any hA held.length hc held W (h4.go hb);have H7:=Hz_ fun (W:World) (hb:Below w.heap.size w W) (x:Wr)=>viewReached_any zA kA zones.length zc known.length kc L known x W (h2.go hb) rfl (h1.go hb);have H8:=Hz_ fun (W:World) (hb:Below w.heap.size w W) (Bx:Nat) (hx:W.cell? ⟨Bx,2,none⟩=some (.slice hA held.length hc))=>containsF_any hA bA held.length hc bods.length bc held M Bx W hx rfl (h4.go hb) (h5.go hb);rw[h3] at H2 H7;rw[h6] at H4 H8;have HZ:=Hz_ h2;have HNZ:=Hz_ h3;have hmz:=h2.max;have HFH:=Hz_ (show shF (-1) held=shF (-1) held from rfl);generalize hf1:fm (-1) known=f1 at H1 ⊢;generalize hf2:zF (-1) none zones=f2 at H2 ⊢;generalize hf3:shF (-1) held=f3 at H3 H8 ⊢;generalize hf4:caF bods room=f4 at H4 ⊢;generalize hnk:known.length=nk at *;generalize hnz:zones.length=nz at *;generalize hnh:held.length=nh at *;generalize hnb:bods.length=nb at *;have HF1:=Hz_ hf1;have HF2:=Hz_ hf2;have HF3:=Hz_ hf3;have HNH:=Hz_ hnh;clear h1 h2 h3 h4 h5 h6 hT hvw hf1 hf2 hf3 hf4 hnk hnh hnb;obtain⟨W0,hW0⟩:∃W0,W0=(w.alloc (.cells #[.slice kA nk kc,.slice zA nz zc,.slice hA nh hc,.slice bA nb bc,.int .i64 room] 35)).alloc (.cells #[.bool false] 4):=⟨_,rfl⟩;have hs0:W0.heap.size=w.heap.size+1+1:=by rw[hW0];simp
 rw[<-hW0] at hb0 hX hO;have HX:=Hz_ fun (W:World) (hb:Below W0.heap.size W0 W)=>(hX.go hb).five;have HO:=Hz_ fun (W:World) (hb:Below W0.heap.size W0 W)=>Boxed.olds hO hb (by omega);have HW0:=Hz_ hW0.symm;have HB0:=Hz_ hb0;have k:Below W0.heap.size W0 W0:=Below.refl _ _;have kw:Below w.heap.size w W0:=hb0;obtain⟨q0,q1,q2,q3,q4⟩:=HX.out _ k;clear hX hO hW0 hb0;refine(callsIn_wide (n:=3)).1 ?_;refine callsIn_of_wp_marks Tryz.func26 rfl trivial ?_ rfl;simp only[Tryz.ntmps26,List.size_toArray,List.length_cons,List.length_nil,Nat.reduceAdd,Nat.reduceSub,Array.replicate_succ,Array.replicate_zero,List.push_toArray,List.append_toArray,List.nil_append,List.cons_append]
 gi_wp2_with fail
 rw[HW0.out];cases f1
 ·skip;refine⟨trivial,?_⟩;refine(callsIn_wide.2 (H1.out _ kw)).mono ?_;rintro e w' ⟨rfl,hb'⟩;clear q0 q1 q2 q3 q4;have k:=btn k hb';have kw:=btn kw hb';clear hb';obtain⟨q0,q1,q2,q3,q4⟩:=HX.out _ k;have hO:=HO.out _ k;have hcO:=hO.cell;have hfO:=hO.frozen
  gi_wp2_with fail
  refine⟨trivial,?_⟩
  gi_wp2_with fail
  refine⟨trivial,?_⟩
  gi_wp2_with fail
  refine⟨trivial,?_⟩
  gi_wp2
  refine⟨.bool false,?_,by simp,kw.setCell (p:=⟨w.heap.size+1,0,none⟩) (Nat.le_succ _) _⟩;simp[results,Tryz.f26,go_sem,World.cell?_setCell_same' _ ⟨w.heap.size+1,0,none⟩ (.bool false) (by rw[hcO];rfl)]
 cases f2
 ·skip;refine⟨trivial,?_⟩;refine(callsIn_wide.2 (H1.out _ kw)).mono ?_;rintro e w' ⟨rfl,hb'⟩;clear q0 q1 q2 q3 q4;have k:=btn k hb';have kw:=btn kw hb';clear hb';obtain⟨q0,q1,q2,q3,q4⟩:=HX.out _ k;have hO:=HO.out _ k;have hcO:=hO.cell;have hfO:=hO.frozen
  gi_wp2_with fail
  refine⟨trivial,?_⟩;refine(callsIn_wide.2 (H2.out _ kw)).mono ?_;rintro e w' ⟨rfl,hb'⟩;clear q0 q1 q2 q3 q4;have k:=btn k hb';have kw:=btn kw hb';clear hb';obtain⟨q0,q1,q2,q3,q4⟩:=HX.out _ k;have hO:=HO.out _ k;have hcO:=hO.cell;have hfO:=hO.frozen
  gi_wp2_with fail
  refine⟨trivial,?_⟩
  gi_wp2_with fail
  refine⟨trivial,?_⟩
  gi_wp2
  refine⟨.bool false,?_,by simp,kw.setCell (p:=⟨w.heap.size+1,0,none⟩) (Nat.le_succ _) _⟩;simp[results,Tryz.f26,go_sem,World.cell?_setCell_same' _ ⟨w.heap.size+1,0,none⟩ (.bool false) (by rw[hcO];rfl)]
 cases f3
 ·skip;refine⟨trivial,?_⟩;refine(callsIn_wide.2 (H1.out _ kw)).mono ?_;rintro e w' ⟨rfl,hb'⟩;clear q0 q1 q2 q3 q4;have k:=btn k hb';have kw:=btn kw hb';clear hb';obtain⟨q0,q1,q2,q3,q4⟩:=HX.out _ k;have hO:=HO.out _ k;have hcO:=hO.cell;have hfO:=hO.frozen
  gi_wp2_with fail
  refine⟨trivial,?_⟩;refine(callsIn_wide.2 (H2.out _ kw)).mono ?_;rintro e w' ⟨rfl,hb'⟩;clear q0 q1 q2 q3 q4;have k:=btn k hb';have kw:=btn kw hb';clear hb';obtain⟨q0,q1,q2,q3,q4⟩:=HX.out _ k;have hO:=HO.out _ k;have hcO:=hO.cell;have hfO:=hO.frozen
  gi_wp2_with fail
  refine⟨trivial,?_⟩;refine(callsIn_wide.2 (H3.out _ kw)).mono ?_;rintro e w' ⟨rfl,hb'⟩;clear q0 q1 q2 q3 q4;have k:=btn k hb';have kw:=btn kw hb';clear hb';obtain⟨q0,q1,q2,q3,q4⟩:=HX.out _ k;have hO:=HO.out _ k;have hcO:=hO.cell;have hfO:=hO.frozen
  gi_wp2_with fail
  refine⟨trivial,?_⟩
  gi_wp2
  refine⟨.bool false,?_,by simp,kw.setCell (p:=⟨w.heap.size+1,0,none⟩) (Nat.le_succ _) _⟩;simp[results,Tryz.f26,go_sem,World.cell?_setCell_same' _ ⟨w.heap.size+1,0,none⟩ (.bool false) (by rw[hcO];rfl)]
 cases f4
 ·skip;refine⟨trivial,?_⟩;refine(callsIn_wide.2 (H1.out _ kw)).mono ?_;rintro e w' ⟨rfl,hb'⟩;clear q0 q1 q2 q3 q4;have k:=btn k hb';have kw:=btn kw hb';clear hb';obtain⟨q0,q1,q2,q3,q4⟩:=HX.out _ k;have hO:=HO.out _ k;have hcO:=hO.cell;have hfO:=hO.frozen
  gi_wp2_with fail
  refine⟨trivial,?_⟩;refine(callsIn_wide.2 (H2.out _ kw)).mono ?_;rintro e w' ⟨rfl,hb'⟩;clear q0 q1 q2 q3 q4;have k:=btn k hb';have kw:=btn kw hb';clear hb';obtain⟨q0,q1,q2,q3,q4⟩:=HX.out _ k;have hO:=HO.out _ k;have hcO:=hO.cell;have hfO:=hO.frozen
  gi_wp2_with fail
  refine⟨trivial,?_⟩;refine(callsIn_wide.2 (H3.out _ kw)).mono ?_;rintro e w' ⟨rfl,hb'⟩;clear q0 q1 q2 q3 q4;have k:=btn k hb';have kw:=btn kw hb';clear hb';obtain⟨q0,q1,q2,q3,q4⟩:=HX.out _ k;have hO:=HO.out _ k;have hcO:=hO.cell;have hfO:=hO.frozen
  gi_wp2_with fail
  refine⟨trivial,?_⟩;refine(callsIn_wide.2 (H4.out _ kw)).mono ?_;rintro e w' ⟨rfl,hb'⟩;clear q0 q1 q2 q3 q4;have k:=btn k hb';have kw:=btn kw hb';clear hb';obtain⟨q0,q1,q2,q3,q4⟩:=HX.out _ k;have hO:=HO.out _ k;have hcO:=hO.cell;have hfO:=hO.frozen
  gi_wp2
  refine⟨.bool false,?_,by simp,kw.setCell (p:=⟨w.heap.size+1,0,none⟩) (Nat.le_succ _) _⟩;simp[results,Tryz.f26,go_sem,World.cell?_setCell_same' _ ⟨w.heap.size+1,0,none⟩ (.bool false) (by rw[hcO];rfl)]
 refine⟨trivial,?_⟩;refine(callsIn_wide.2 (H1.out _ kw)).mono ?_;rintro e w' ⟨rfl,hb'⟩;clear q0 q1 q2 q3 q4;have k:=btn k hb';have kw:=btn kw hb';clear hb';obtain⟨q0,q1,q2,q3,q4⟩:=HX.out _ k;have hO:=HO.out _ k;have hcO:=hO.cell;have hfO:=hO.frozen
 gi_wp2_with fail
 refine⟨trivial,?_⟩;refine(callsIn_wide.2 (H2.out _ kw)).mono ?_;rintro e w' ⟨rfl,hb'⟩;clear q0 q1 q2 q3 q4;have k:=btn k hb';have kw:=btn kw hb';clear hb';obtain⟨q0,q1,q2,q3,q4⟩:=HX.out _ k;have hO:=HO.out _ k;have hcO:=hO.cell;have hfO:=hO.frozen
 gi_wp2_with fail
 refine⟨trivial,?_⟩;refine(callsIn_wide.2 (H3.out _ kw)).mono ?_;rintro e w' ⟨rfl,hb'⟩;clear q0 q1 q2 q3 q4;have k:=btn k hb';have kw:=btn kw hb';clear hb';obtain⟨q0,q1,q2,q3,q4⟩:=HX.out _ k;have hO:=HO.out _ k;have hcO:=hO.cell;have hfO:=hO.frozen
 gi_wp2_with fail
 refine⟨trivial,?_⟩;refine(callsIn_wide.2 (H4.out _ kw)).mono ?_;rintro e w' ⟨rfl,hb'⟩;clear q0 q1 q2 q3 q4;have k:=btn k hb';have kw:=btn kw hb';clear hb';obtain⟨q0,q1,q2,q3,q4⟩:=HX.out _ k;have hO:=HO.out _ k;have hcO:=hO.cell;have hfO:=hO.frozen;have HQ2:=Hz_ (HRF.out HF1.out HF2.out HF3.out).symm;rw[HANY.out] at H8
 gi_wp2
 gi_loopw [34] (fun i wr=>∃(j:Nat),j<=nz/\i=.int .i64 j/\Below W0.heap.size W0 wr/\Below w.heap.size w wr/\Hid (q1B=(zones.drop j).all (ahead1 known))) (fun i _=>nz - (intOf i).toNat)
 case atStart=>exact⟨0,by omega,rfl,k,kw,HQ1⟩
 case round=>
  clear k kw q0 q1 q2 q3 q4 hO hcO hfO;obtain⟨j,hj,rfl,k,kw,hr⟩:=hrel;by_cases hlt:j < nz
  ·have hjl:j < L.length:=by rw[HZ.out.len];exact hlt
   obtain⟨b,o,rfl,hbb,g0,g1,g2⟩:=(HZ.out.below kw).zone hjl;have hjz:j < zones.length:=by rw[<-HNZ.out,zns_len];exact hjl
   have hd:q1B=(ahead1 known zones[j] && (zones.drop (j+1)).all (ahead1 known)):=hr.out.trans (all_drop _ zones j hjz);have hze:zones[j]=L[j].2:=by simp only[<-HNZ.out];exact zns_at L j hjl
   rw[hze] at hd;have hs:ahead1 known L[j].2=decide (standB (covB (Vc.cnt L[j].2.2) (Vc.cnt known)) (covB (Vc.cnt known) (Vc.cnt L[j].2.2))=1):=rfl;rw[hs] at hd;have hp:=HZ.out.each _ (List.getElem_mem hjl);have G:=fun (W:World) (hb:Below w.heap.size w W)=>H5.out W hb L[j].1.A L[j].1.n L[j].1.c L[j].2.2 hp.1 hp.2;generalize standB (covB (Vc.cnt L[j].2.2) (Vc.cnt known)) (covB (Vc.cnt known) (Vc.cnt L[j].2.2))=z at G hd;generalize L[j].2.1.1=y0 at g0;generalize L[j].2.1.2=y1 at g1;generalize L[j].1.A=y2 at g2 G;generalize L[j].1.n=y3 at g2 G;generalize L[j].1.c=y4 at g2 G;have hal:Below wr.heap.size wr (wr.alloc (.cells #[.int .i64 y0,.int .i64 y1,.slice y2 y3 y4] 129)):=Zr.alloc Zl _;have G:=Hz_ (G _ (btn kw hal));have HD:=Hz_ hd;have HAL:=Hz_ hal;obtain⟨q0,q1,q2,q3,q4⟩:=HX.out _ k;have hO:=HO.out _ k;have hcO:=hO.cell;have hfO:=hO.frozen;have hlt1:w.heap.size < wr.heap.size:=by have:=k.size;omega
   have hlt2:w.heap.size+1 < wr.heap.size:=by have:=k.size;omega
   clear hr hd hs hze hp hbb hjz hjl hal;by_cases hz:z=1
   ·subst hz;have HN:=Hz_ (show q1B=(zones.drop (j+1)).all (ahead1 known) by rw[HD.out];simp)
    gi_wp2_with fail
    refine⟨trivial,?_⟩;refine(callsIn_wide.2 G.out).mono ?_;rintro e w' ⟨rfl,hb'⟩;have hb':=btn HAL.out hb';have k:=btn k hb';have kw:=btn kw hb'
    gi_wp2
    go_roundw
    case rel=>exact⟨j+1,by omega,by go_num,k,kw,HN⟩
    case measure=>simp[intOf];omega
   ·have HN:=Hz_ (show q1B=false by rw[HD.out,decide_eq_false hz,Bool.false_and]);have hz2:(z == 1)=false:=by simpa using hz
    gi_wp2_with fail
    refine⟨trivial,?_⟩;refine(callsIn_wide.2 G.out).mono ?_;rintro e w' ⟨rfl,hb'⟩;have hb':=btn HAL.out hb';clear hO hcO hfO;have k:=btn k hb';have kw:=btn kw hb';have hO:=HO.out _ k;have hcO:=hO.cell;have hfO:=hO.frozen
    gi_wp2
    refine⟨.bool false,?_,by rw[HN.out];simp,kw.setCell (p:=⟨w.heap.size+1,0,none⟩) (Nat.le_succ _) _⟩;simp[results,Tryz.f26,go_sem,World.cell?_setCell_same' _ ⟨w.heap.size+1,0,none⟩ (.bool false) (by rw[hcO];rfl)]
  ·obtain rfl:j=nz:=by omega
   have HNA:=Hz_ (show q1B=true by rw[hr.out,List.drop_of_length_le (by rw[<-HNZ.out,zns_len,HZ.out.len];exact Nat.le_refl _)];rfl);obtain⟨q0,q1,q2,q3,q4⟩:=HX.out _ k;have hO:=HO.out _ k;have hcO:=hO.cell;have hfO:=hO.frozen;clear hr
   gi_wp2_with fail
   refine⟨trivial,?_⟩;refine(callsIn_wide.2 (H6.out _ kw)).mono ?_;rintro e w2 ⟨Bx,rfl,hg,hb'⟩;have k:=btn k hb';have kw:=btn kw hb';clear hb' q0 q1 q2 q3 q4 hO hcO hfO;have HQ:=Hz_ (shAll_next (3 - 1) (by omega) Bx hA nh hc held HNH.out HF3.out w2 hg);clear hg
   gi_wp2
   have hs2:=kw.size;have hs3:=k.size;refine wpIn_rangeFunc_next rfl (by omega) (gf:=164) (lb:=#[.pointer (some ⟨Bx,0,none⟩)]) rfl trivial (enters_of Tryz.func164 (by kernel_rfl) rfl)
    HQ.out KA.trans (fun W l o o' _ h1 h2 _=>KA.putObj h1 h2) Zr (fun _=>rfl)
    (fun pre W=>Hid (∀y∈pre,hasB (reachF zones known y.2.1) y.1=true)/\Below W0.heap.size W0 W)
    (fun c pre W=>(c=.ret/\q2B=false/\Boxed W (w.heap.size+1) 4 (.bool false))/\Below w.heap.size w W)
    (OwnFrom.and (Own.from (fun s X Y row hs hg hr=>hs) _) (ownFrom_below Zl (by omega)))
    (fun c=>OwnFrom.and (Own.from (fun s X Y row hs hg hr=>⟨hs.1,hs.2.1,boxed_kept hs.2.2 hg hr⟩) _) (ownFrom_below Zl (by omega)))
    ⟨Hz_ (fun y hy=>by cases hy),k⟩
    (fun x a₁ V=>∃g,Blk V g 70 #[.int .i64 x.1.1,.int .i64 x.1.2,.int .i64 x.2.1,.bool x.2.2]/\a₁={ tmps:=#[.agg #[.slice kA nk kc,.slice zA j zc,.slice hA nh hc,.slice bA nb bc,.int .i64 room],.pointer (some ⟨w.heap.size,0,none⟩),.pointer (some ⟨w.heap.size+1,0,none⟩),undef,u4,undef,.pointer (some ⟨g,0,none⟩),.pointer (some ⟨w.heap.size,0,none⟩),.slice kA nk kc,.bool true,.bool false,.bool false,.pointer (some ⟨w.heap.size,1,none⟩),.slice zA j zc,.bool true,.bool false,.bool false,.bool false,.pointer (some ⟨w.heap.size,2,none⟩),.slice hA nh hc,.bool true,.bool false,.bool false,.bool false,.pointer (some ⟨w.heap.size,3,none⟩),.slice bA nb bc,.pointer (some ⟨w.heap.size,4,none⟩),.int .i64 room,.bool true,.bool false,.bool false,.pointer (some ⟨w.heap.size,1,none⟩),.slice zA j zc,.int .i64 (j:Int),.int .i64 (j:Int),.bool false,u36,u37,u38,u39,u40,u41,u42,u43,u44,.pointer (some ⟨w.heap.size,2,none⟩),.slice hA nh hc,.func (.func 164) #[] #[.pointer (some ⟨Bx,0,none⟩)],.int .i64 x.2.1,.agg #[.int .i64 x.1.1,.int .i64 x.1.2,.int .i64 x.2.1,.bool x.2.2],undef,undef,undef,undef,undef,undef,undef,undef,undef,undef,undef,undef],defers:=[] })
    (fun _=>by
     intro s X Y row hs hg hr;obtain⟨g,h1,h2⟩:=hs;exact⟨g,blkV_kept h1 hg (fun r e=>(hr r e).2),h2⟩) ?assign ?body ?done ?stop
   case assign=>
    rintro l pre ⟨⟨sc,sn⟩,ob,gn⟩ W K ⟨hI,hB⟩ _ hK;dsimp only[evW]
    gi_wp2
    have hbA:Below W.heap.size W (W.alloc (.cells #[.int .i64 sc,.int .i64 sn,.int .i64 ob,.bool gn] 70)):=Zr.alloc Zl _;exact hK _ _ (keeps_belowV hbA) (KA.of_below hbA) ⟨hI,btn hB hbA⟩ ⟨W.heap.size,Blk.new W _ _,rfl⟩
   case body=>
    rintro l pre ⟨⟨sc,sn⟩,ob,gn⟩ a₁ W hl ⟨hI,hB⟩ hpf ⟨g,hX,rfl⟩ hlt;have hkw:Below w.heap.size w W:=HB0.out.trans (hB.mono (by omega));have G:=H7.out W hkw ((sc,sn),ob,gn);have hin:((sc,sn),ob,gn)∈held:=by
     obtain⟨t,ht⟩:=hpf;rw[<-ht];simp
    obtain⟨zz,hzz⟩:∃zz,zz=hasB (reachF zones known ob) (sc,sn):=⟨_,rfl⟩;dsimp only at G hX;rw[<-hzz] at G;have HZZ:=Hz_ hzz;have G:=Hz_ G;have HI:=Hz_ hI;have HBB:=Hz_ hB;obtain⟨x0,x1,x2,x3⟩:=hX.quad;obtain⟨q0,q1,q2,q3,q4⟩:=HX.out _ hB;have HKW:=Hz_ hkw;have HIN:=Hz_ hin;clear hzz hI hB hX hpf hkw hin hlt;cases zz
    ·have HN:=Hz_ (show q2B=false by
      rw[HQ2.out,Bool.eq_false_iff];intro hall;have:=List.all_eq_true.1 hall _ HIN.out;dsimp only at this;rw[<-HZZ.out] at this;cases this)
     gi_wp2_with fail
     refine⟨trivial,?_⟩;refine(callsIn_wide.2 G.out).mono ?_;rintro e w' ⟨rfl,hb'⟩;have hO:=HO.out _ (btn HBB.out hb');have hcO:=hO.cell;have hfO:=hO.frozen
     gi_wp2
     exact⟨(keeps_belowV hb').trans ((KeepsOthers.setCell _ _ _).from _),⟨rfl,HN.out,hO.set _⟩,(btn HKW.out hb').setCell (p:=⟨w.heap.size+1,0,none⟩) (Nat.le_succ _) _⟩
    ·gi_wp2_with fail
     refine⟨trivial,?_⟩;refine(callsIn_wide.2 G.out).mono ?_;rintro e w' ⟨rfl,hb'⟩
     gi_wp2
     refine⟨keeps_belowV hb',KA.of_below hb',Hz_ (fun y hy=>?_),btn HBB.out hb'⟩;rcases List.mem_append.1 hy with hy | hy
     ·exact HI.out y hy
     ·rw[List.mem_singleton] at hy;subst hy;exact HZZ.out.symm
   case done=>
    rintro E ys W hD rfl ⟨hI,hB⟩ hK;have HN:=Hz_ (show q2B=true by rw[HQ2.out];exact List.all_eq_true.2 hI.out);have hkw:Below w.heap.size w W:=HB0.out.trans (hB.mono (by omega));obtain⟨q0,q1,q2,q3,q4⟩:=HX.out _ hB;have G:=Hz_ (H8.out W hkw w.heap.size q2)
    gi_wp2_with fail
    refine⟨trivial,?_⟩;refine(callsIn_wide.2 G.out).mono ?_;rintro e w' ⟨rfl,hb'⟩;have hO:=HO.out _ (btn hB hb');have hcO:=hO.cell;have hfO:=hO.frozen;have hkw':=btn hkw hb';have hK8:=(keeps_belowV (B:=0) hb').same E _ (Nat.zero_le _) hK rfl;have hS8:=fun u=>(Below.heap_setCell w' ⟨w.heap.size+1,0,none⟩ u E (by show E≠w.heap.size+1;omega)).trans hK8;clear q0 q1 q2 q3 q4
    gi_wp2
    refine⟨by simp,.inl ⟨_,_,rfl,run_takeDeferred (hS8 _),?_⟩⟩;have hOs:=hO.set (.bool q3B);have hcS:=cell_kept hOs.cell (grownBy_putObj' _ E (.deferred none)) (fun r e=>by cases e;exact⟨_,hS8 _,rfl⟩);refine⟨.bool q3B,?_,by rw[HNA.out,HN.out];simp,(hkw'.setCell (p:=⟨w.heap.size+1,0,none⟩) (Nat.le_succ _) _).trans (belowK_b (w:=w) Zl _ E _ _ (by omega) (hS8 _) rfl rfl)⟩;simp[results,Tryz.f26,go_sem,hcS]
   case stop=>
    rintro E c' pre W hD hpre ⟨⟨rfl,hN,hO⟩,hB⟩ hK;have hcO:=hO.cell
    gi_wp2
    refine⟨by simp,.inl ⟨_,_,rfl,run_takeDeferred hK,?_⟩⟩;refine⟨.bool false,?_,by rw[HNA.out,hN];simp,hB.trans (belowK_b (w:=w) Zl W E _ _ (by omega) hK rfl rfl)⟩;have hc5:=cell_kept hcO (grownBy_putObj' _ E (.deferred none)) (fun r e=>by cases e;exact⟨_,hK,rfl⟩);simp[results,Tryz.f26,go_sem,hc5]
end Go.Proofs.YtmbeahbgafkjfaaGreatDoor
namespace Go.Proofs.YtmbeahbgafkjfaaGreatDoor
open Go.RowKit
theorem ref13Formed_any (u:VV) (v:Vw) (L:List (ZV×Zn)) (M:List (BV×Wq.Bd)) (w:World) (hV:VwRd w w.heap.size u v L M):
  Calls Tryz.prog 24 #[.agg (vval v u)] w fun e w'=>e=.returned (.bool (vwF v))/\Below w.heap.size w w':=by
 have G6:=fun (W:World) (hb:Below w.heap.size w W) (x:Wr)=>refReached_any u v L M x W (hV.go hb);have G7:=fun (W:World) (hb:Below w.heap.size w W) (X:Option Addr) (xc:Nat) (x:Wq.Bd)=>refWanted_any u v L M X xc x W (hV.go hb);obtain⟨kA,kc,zA,zc,hA,hc,bA,bc⟩:=u;obtain⟨known,zones,held,bods,room⟩:=v;obtain⟨h1,h2,h3,h4,h5,h6⟩:=hV;have hvw:vwF ⟨known,zones,held,bods,room⟩=((fm (-1) known && (zF (-1) none zones && (shF (-1) held && caF bods room))) && (zones.all (ahead1 known) && (held.all (reachd zones known) && bods.all (wantd held)))):=rfl;have HRF:=Hz_ fun a b c=>reachd_F (zones:=zones) (known:=known) (held:=held) a b c;unfold vval at G6 G7 ⊢;dsimp only at h1 h2 h3 h4 h5 h6 G6 G7 ⊢;rw[hvw];generalize hq1:zones.all (ahead1 known)=q1;generalize hq2:held.all (reachd zones known)=q2 at HRF ⊢;generalize hq3:bods.all (wantd held)=q3;have HQ3:=Hz_ hq3.symm;clear hq2 hq3;have G1:=Hz_ fun (W:World) (hb:Below w.heap.size w W)=>refFormed_any kA known.length kc known W rfl (h1.go hb);have G2:=Hz_ fun (W:World) (hb:Below w.heap.size w W)=>refZonesFormed_any zA zones.length zc L W (h2.go hb);have G3:=Hz_ fun (W:World) (hb:Below w.heap.size w W)=>ref11Formed_any hA held.length hc held W rfl (h4.go hb);have G4:=Hz_ fun (W:World) (hb:Below w.heap.size w W)=>ref12Formed_any bA bods.length bc M room W (h5.go hb);have G5:=Hz_ fun (W:World) (hb:Below w.heap.size w W) (A:Option Addr) (n c:Nat) (z:List Vc.St) (hl:z.length=n) (hR:Rd W W.heap.size 2 A n c (sv z))=>refCompare_any A kA n c known.length kc z known W hl rfl hR (h1.go hb);have HZ:=Hz_ fun (W:World) (hb:Below w.heap.size w W) k (hk:k < L.length)=>(h2.below hb).zone hk;have HZR:=Hz_ fun (W:World) (hb:Below w.heap.size w W) p (hp:p∈L)=>(⟨(h2.each p hp).1,(h2.each p hp).2.go hb⟩:_/\_);have HBo:=Hz_ fun (W:World) (hb:Below w.heap.size w W) k (hk:k < M.length)=>(h5.below hb).body hk;have HLL:=Hz_ h2.len;have HML:=Hz_ h5.len;have HZE:=Hz_ h3;have HME:=Hz_ h6;rw[h3] at G2;rw[h6] at G4;have hmz:=h2.max;have hmh:held.length<=9223372036854775807:=by have h1:=h4.cap;have h2:=h4.max;unfold maxLen at h2;omega
 have hmb:=h5.max;have hb0:Below w.heap.size w (w.alloc (.cells #[.slice kA known.length kc,.slice zA zones.length zc,.slice hA held.length hc,.slice bA bods.length bc,.int .i64 room] 35)):=Zr.alloc Zl _;have hX:=Blk.new w 35 #[.slice kA known.length kc,.slice zA zones.length zc,.slice hA held.length hc,.slice bA bods.length bc,.int .i64 room];generalize hf1:fm (-1) known=f1 at G1 ⊢;generalize hf2:zF (-1) none zones=f2 at G2 ⊢;generalize hf3:shF (-1) held=f3 at G3 ⊢;generalize hf4:caF bods room=f4 at G4 ⊢;have HF1:=Hz_ hf1;have HF2:=Hz_ hf2;have HF3:=Hz_ hf3;have G6:=Hz_ G6;have G7:=Hz_ G7;have HQ1:=Hz_ hq1.symm;generalize hnk:known.length=nk at *;generalize hnz:zones.length=nz at *;generalize hnh:held.length=nh at *;generalize hnb:bods.length=nb at *;have HH:=Hz_ fun (W:World) (hb:Below w.heap.size w W) k (hk:k < held.length)=>(h4.below hb).write hnh hk;have HLH:=Hz_ hnh;have HLB:=Hz_ hnb;clear h1 h2 h3 h4 h5 h6 hvw hf1 hf2 hf3 hf4 hq1;generalize hW0:w.alloc (.cells #[.slice kA nk kc,.slice zA nz zc,.slice hA nh hc,.slice bA nb bc,.int .i64 room] 35)=W0 at hb0 hX;have HX:=Hz_ fun (W:World) (hb:Below W0.heap.size W0 W)=>(hX.go hb).five;have HW0:=Hz_ hW0;have k:Below W0.heap.size W0 W0:=Below.refl _ _;have kw:Below w.heap.size w W0:=hb0;obtain⟨b0,b1,b2,b3,b4⟩:=HX.out _ k;clear hX hW0 hb0 hnk hnz hnh hnb;go_enter Tryz.func24,Tryz.ntmps24;go_wp2_with fail;rw[HW0.out];cases f1
 ·go_wp2_with (first | (go_at_call 84;go_must (refine(G1.out _ kw).mono ?_);rintro e w' ⟨rfl,hb'⟩;have k:=btn k hb';have kw:=btn kw hb';clear hb';obtain⟨b0,b1,b2,b3,b4⟩:=HX.out _ k));go_ret;exact⟨by simp,kw⟩
 cases f2
 ·go_wp2_with (first | (go_at_call 84;go_must (refine(G1.out _ kw).mono ?_);rintro e w' ⟨rfl,hb'⟩;have k:=btn k hb';have kw:=btn kw hb';clear hb';obtain⟨b0,b1,b2,b3,b4⟩:=HX.out _ k) | (go_at_call 85;go_must (refine(G2.out _ kw).mono ?_);rintro e w' ⟨rfl,hb'⟩;have k:=btn k hb';have kw:=btn kw hb';clear hb';obtain⟨b0,b1,b2,b3,b4⟩:=HX.out _ k));go_ret;exact⟨by simp,kw⟩
 cases f3
 ·go_wp2_with (first | (go_at_call 84;go_must (refine(G1.out _ kw).mono ?_);rintro e w' ⟨rfl,hb'⟩;have k:=btn k hb';have kw:=btn kw hb';clear hb';obtain⟨b0,b1,b2,b3,b4⟩:=HX.out _ k) | (go_at_call 85;go_must (refine(G2.out _ kw).mono ?_);rintro e w' ⟨rfl,hb'⟩;have k:=btn k hb';have kw:=btn kw hb';clear hb';obtain⟨b0,b1,b2,b3,b4⟩:=HX.out _ k) | (go_at_call 86;go_must (refine(G3.out _ kw).mono ?_);rintro e w' ⟨rfl,hb'⟩;have k:=btn k hb';have kw:=btn kw hb';clear hb';obtain⟨b0,b1,b2,b3,b4⟩:=HX.out _ k));go_ret;exact⟨by simp,kw⟩
 cases f4
 ·go_wp2_with (first | (go_at_call 84;go_must (refine(G1.out _ kw).mono ?_);rintro e w' ⟨rfl,hb'⟩;have k:=btn k hb';have kw:=btn kw hb';clear hb';obtain⟨b0,b1,b2,b3,b4⟩:=HX.out _ k) | (go_at_call 85;go_must (refine(G2.out _ kw).mono ?_);rintro e w' ⟨rfl,hb'⟩;have k:=btn k hb';have kw:=btn kw hb';clear hb';obtain⟨b0,b1,b2,b3,b4⟩:=HX.out _ k) | (go_at_call 86;go_must (refine(G3.out _ kw).mono ?_);rintro e w' ⟨rfl,hb'⟩;have k:=btn k hb';have kw:=btn kw hb';clear hb';obtain⟨b0,b1,b2,b3,b4⟩:=HX.out _ k) | (go_at_call 87;go_must (refine(G4.out _ kw).mono ?_);rintro e w' ⟨rfl,hb'⟩;have k:=btn k hb';have kw:=btn kw hb';clear hb';obtain⟨b0,b1,b2,b3,b4⟩:=HX.out _ k));go_ret;exact⟨by simp,kw⟩
 go_wp2_with (first | (go_at_call 84;go_must (refine(G1.out _ kw).mono ?_);rintro e w' ⟨rfl,hb'⟩;have k:=btn k hb';have kw:=btn kw hb';clear hb';obtain⟨b0,b1,b2,b3,b4⟩:=HX.out _ k) | (go_at_call 85;go_must (refine(G2.out _ kw).mono ?_);rintro e w' ⟨rfl,hb'⟩;have k:=btn k hb';have kw:=btn kw hb';clear hb';obtain⟨b0,b1,b2,b3,b4⟩:=HX.out _ k) | (go_at_call 86;go_must (refine(G3.out _ kw).mono ?_);rintro e w' ⟨rfl,hb'⟩;have k:=btn k hb';have kw:=btn kw hb';clear hb';obtain⟨b0,b1,b2,b3,b4⟩:=HX.out _ k) | (go_at_call 87;go_must (refine(G4.out _ kw).mono ?_);rintro e w' ⟨rfl,hb'⟩;have k:=btn k hb';have kw:=btn kw hb';clear hb';obtain⟨b0,b1,b2,b3,b4⟩:=HX.out _ k));have HQ2:=Hz_ (HRF.out HF1.out HF2.out HF3.out).symm;go_loopw [3] (fun i wr=>∃(j:Nat),j<=nz/\i=.int .i64 j/\Below W0.heap.size W0 wr/\Below w.heap.size w wr/\Hid (q1=(zones.drop j).all (ahead1 known))) (fun i _=>nz - (intOf i).toNat)
 case atStart=>exact⟨0,by omega,rfl,k,kw,HQ1⟩
 case round=>
  clear k kw b0 b1 b2 b3 b4;obtain⟨j,hj,rfl,k,kw,hr⟩:=hrel;obtain⟨b0,b1,b2,b3,b4⟩:=HX.out _ k;by_cases hlt:j < nz
  ·have hjl:j < L.length:=by rw[HLL.out];exact hlt
   obtain⟨b,o,rfl,hbb,g0,g1,g2⟩:=HZ.out wr kw j hjl;have hjz:j < zones.length:=by rw[<-HZE.out,zns_len];exact hjl
   have hd:q1=(ahead1 known zones[j] && (zones.drop (j+1)).all (ahead1 known)):=hr.out.trans (all_drop _ zones j hjz);have hze:zones[j]=L[j].2:=by simp only[<-HZE.out];exact zns_at L j hjl
   rw[hze] at hd;have hs:ahead1 known L[j].2=decide (standB (covB (Vc.cnt L[j].2.2) (Vc.cnt known)) (covB (Vc.cnt known) (Vc.cnt L[j].2.2))=1):=rfl;rw[hs] at hd;have hp:=HZR.out;have hmem:=List.getElem_mem hjl;have G:=fun (W:World) (hb:Below w.heap.size w W)=>G5.out W hb L[j].1.A L[j].1.n L[j].1.c L[j].2.2 (hp W hb _ hmem).1 (hp W hb _ hmem).2;generalize standB (covB (Vc.cnt L[j].2.2) (Vc.cnt known)) (covB (Vc.cnt known) (Vc.cnt L[j].2.2))=z at G hd;have HE:=Hz_ fun (W:World) (hb:Below wr.heap.size wr W)=>(held_at (HZ.out W (btn kw hb) j hjl));generalize L[j].2.1.1=y0 at g0 HE;generalize L[j].2.1.2=y1 at g1 HE;generalize L[j].1.A=y2 at g2 G HE;generalize L[j].1.n=y3 at g2 G HE;generalize L[j].1.c=y4 at g2 G HE;have G:=Hz_ G;have HD:=Hz_ hd;have hkr:=k;have HKR:=Hz_ hkr;have HS:=Hz_ fun (W:World) (hb:Below wr.heap.size wr W)=>(⟨HX.out W (btn HKR.out hb),HE.out W hb⟩:_/\_);clear hr hd hs hze hp hmem hkr HE hbb hjz hjl;by_cases hz:z=1
   ·have HN:=Hz_ (show q1=(zones.drop (j+1)).all (ahead1 known) by rw[HD.out,decide_eq_true hz,Bool.true_and]);subst hz;have k:Below W0.heap.size W0 wr.drew:=k.drew;have kw:Below w.heap.size w wr.drew:=kw.drew;have kk:Below wr.heap.size wr wr.drew:=(Below.refl _ wr).drew;go_wp2;clear b0 b1 b2 b3 b4;refine region_nrm fun KK hKK=>?_;refine wp_region_held_drew (S:=(fun W=>(W.cell? ⟨w.heap.size,0,none⟩=some (.slice kA nk kc)/\W.cell? ⟨w.heap.size,1,none⟩=some (.slice (some ⟨b,o,none⟩) nz zc)/\W.cell? ⟨w.heap.size,2,none⟩=some (.slice hA nh hc)/\W.cell? ⟨w.heap.size,3,none⟩=some (.slice bA nb bc)/\W.cell? ⟨w.heap.size,4,none⟩=some (.int .i64 room))/\W.cell? ⟨b,o+j * 3,none⟩=some (.int .i64 y0)/\W.cell? ⟨b,o+j * 3+1,none⟩=some (.int .i64 y1)/\W.cell? ⟨b,o+j * 3+2,none⟩=some (.slice y2 y3 y4))) (by kernel_rfl) (by first | exact HS.out _ kk) (fun hHeld=>?_);refine puA 0 37 (HS.out _ kk) ?_;refine puA 1 38 (HS.out _ kk) ?_;refine puA 2 39 (HS.out _ kk) ?_;refine puA 3 40 (HS.out _ kk) ?_;refine puA 4 41 (HS.out _ kk) ?_;refine puA 5 42 (HS.out _ kk) ?_;refine puA 6 43 (HS.out _ kk) ?_;refine puA 7 44 (HS.out _ kk) ?_;refine puR 8 fun K hK=>?_;go_simp;refine(G.out _ kw).mono ?_;rintro e w' ⟨rfl,hb'⟩;have k:=btn k hb';have kw:=btn kw hb';have kk:=btn kk hb';clear hb';refine hK.out _ _ (HS.out _ kk) fun hHeld=>?_;clear hK K;refine puA 9 46 (HS.out _ kk) ?_;refine wpAnyH_done (by kernel_rfl) ?_ _;refine Nrm.out (hKK _ _ ?_);go_wp2;go_roundw
    case rel=>exact⟨j+1,by omega,by go_num,k,kw,HN⟩
    case measure=>simp[intOf];omega
   ·have HN:=Hz_ (show q1=false by rw[HD.out,decide_eq_false hz,Bool.false_and]);have hz2:(z == 1)=false:=by simpa using hz
    have k:Below W0.heap.size W0 wr.drew:=k.drew;have kw:Below w.heap.size w wr.drew:=kw.drew;have kk:Below wr.heap.size wr wr.drew:=(Below.refl _ wr).drew;go_wp2;clear b0 b1 b2 b3 b4;refine region_nrm fun KK hKK=>?_;refine wp_region_held_drew (S:=(fun W=>(W.cell? ⟨w.heap.size,0,none⟩=some (.slice kA nk kc)/\W.cell? ⟨w.heap.size,1,none⟩=some (.slice (some ⟨b,o,none⟩) nz zc)/\W.cell? ⟨w.heap.size,2,none⟩=some (.slice hA nh hc)/\W.cell? ⟨w.heap.size,3,none⟩=some (.slice bA nb bc)/\W.cell? ⟨w.heap.size,4,none⟩=some (.int .i64 room))/\W.cell? ⟨b,o+j * 3,none⟩=some (.int .i64 y0)/\W.cell? ⟨b,o+j * 3+1,none⟩=some (.int .i64 y1)/\W.cell? ⟨b,o+j * 3+2,none⟩=some (.slice y2 y3 y4))) (by kernel_rfl) (by first | exact HS.out _ kk) (fun hHeld=>?_);refine puA 0 37 (HS.out _ kk) ?_;refine puA 1 38 (HS.out _ kk) ?_;refine puA 2 39 (HS.out _ kk) ?_;refine puA 3 40 (HS.out _ kk) ?_;refine puA 4 41 (HS.out _ kk) ?_;refine puA 5 42 (HS.out _ kk) ?_;refine puA 6 43 (HS.out _ kk) ?_;refine puA 7 44 (HS.out _ kk) ?_;refine puR 8 fun K hK=>?_;go_simp;refine(G.out _ kw).mono ?_;rintro e w' ⟨rfl,hb'⟩;have k:=btn k hb';have kw:=btn kw hb';have kk:=btn kk hb';clear hb';refine hK.out _ _ (HS.out _ kk) fun hHeld=>?_;clear hK K;refine puA 9 46 (HS.out _ kk) ?_;refine wpAnyH_done (by kernel_rfl) ?_ _;refine Nrm.out (hKK _ _ ?_);go_wp2;go_ret;exact⟨by rw[HN.out];simp,kw⟩
  ·obtain rfl:nz=j:=by omega
   have HNA:=Hz_ (show q1=true by rw[hr.out,List.drop_of_length_le (by rw[<-HZE.out,zns_len,HLL.out];exact Nat.le_refl _)];rfl);clear hr;go_wp2;go_loopw [4] (fun i wr=>∃(j:Nat),j<=nh/\i=.int .i64 j/\Below W0.heap.size W0 wr/\Below w.heap.size w wr/\Hid (q2=(held.drop j).all fun x=>hasB (reachF zones known x.2.1) x.1)) (fun i _=>nh - (intOf i).toNat)
   case atStart=>exact⟨0,by omega,rfl,k,kw,HQ2⟩
   case round=>
    clear k kw b0 b1 b2 b3 b4;obtain⟨j,hj,rfl,k,kw,hr⟩:=hrel;obtain⟨b0,b1,b2,b3,b4⟩:=HX.out _ k;by_cases hlt:j < nh
    ·have hjl:j < held.length:=by rw[HLH.out];exact hlt
     obtain⟨b,o,rfl,hbb,g0,g1,g2,g3⟩:=HH.out wr kw j hjl;have hd:=hr.out.trans (all_drop _ held j hjl);have G:=fun (W:World) (hb:Below w.heap.size w W)=>G6.out W hb held[j];generalize hasB (reachF zones known held[j].2.1) held[j].1=z at G hd;have HE:=Hz_ fun (W:World) (hb:Below wr.heap.size wr W)=>(held_at (HH.out W (btn kw hb) j hjl));generalize held[j].1.1=y0 at g0 G HE;generalize held[j].1.2=y1 at g1 G HE;generalize held[j].2.1=y2 at g2 G HE;generalize held[j].2.2=y3 at g3 G HE;have G:=Hz_ G;have HD:=Hz_ hd;have hkr:=k;have HKR:=Hz_ hkr;have HS:=Hz_ fun (W:World) (hb:Below wr.heap.size wr W)=>(⟨HX.out W (btn HKR.out hb),HE.out W hb⟩:_/\_);clear hr hd hkr HE hbb hjl;cases z
     ·have HN:=Hz_ (show q2=false by rw[HD.out,Bool.false_and]);have k:Below W0.heap.size W0 wr.drew:=k.drew;have kw:Below w.heap.size w wr.drew:=kw.drew;have kk:Below wr.heap.size wr wr.drew:=(Below.refl _ wr).drew;go_wp2;clear b0 b1 b2 b3 b4;refine region_nrm fun KK hKK=>?_;refine wp_region_held_drew (S:=(fun W=>(W.cell? ⟨w.heap.size,0,none⟩=some (.slice kA nk kc)/\W.cell? ⟨w.heap.size,1,none⟩=some (.slice zA nz zc)/\W.cell? ⟨w.heap.size,2,none⟩=some (.slice (some ⟨b,o,none⟩) nh hc)/\W.cell? ⟨w.heap.size,3,none⟩=some (.slice bA nb bc)/\W.cell? ⟨w.heap.size,4,none⟩=some (.int .i64 room))/\W.cell? ⟨b,o+j * 4,none⟩=some (.int .i64 y0)/\W.cell? ⟨b,o+j * 4+1,none⟩=some (.int .i64 y1)/\W.cell? ⟨b,o+j * 4+2,none⟩=some (.int .i64 y2)/\W.cell? ⟨b,o+j * 4+3,none⟩=some (.bool y3))) (by kernel_rfl) (by first | exact HS.out _ kk) (fun hHeld=>?_);refine puA 0 54 (HS.out _ kk) ?_;refine puA 1 55 (HS.out _ kk) ?_;refine puA 2 56 (HS.out _ kk) ?_;refine puA 3 57 (HS.out _ kk) ?_;refine puA 4 58 (HS.out _ kk) ?_;refine puA 5 59 (HS.out _ kk) ?_;refine puR 6 fun K hK=>?_;go_simp;refine(G.out _ kw).mono ?_;rintro e w' ⟨rfl,hb'⟩;have k:=btn k hb';have kw:=btn kw hb';have kk:=btn kk hb';clear hb';refine hK.out _ _ (HS.out _ kk) fun hHeld=>?_;clear hK K;refine puA 7 61 (HS.out _ kk) ?_;refine wpAnyH_done (by kernel_rfl) ?_ _;refine Nrm.out (hKK _ _ ?_);go_wp2;go_ret;exact⟨by rw[HN.out];simp,kw⟩
     ·have HN:=Hz_ (show q2=(held.drop (j+1)).all fun x=>hasB (reachF zones known x.2.1) x.1 by rw[HD.out,Bool.true_and]);have k:Below W0.heap.size W0 wr.drew:=k.drew;have kw:Below w.heap.size w wr.drew:=kw.drew;have kk:Below wr.heap.size wr wr.drew:=(Below.refl _ wr).drew;go_wp2;clear b0 b1 b2 b3 b4;refine region_nrm fun KK hKK=>?_;refine wp_region_held_drew (S:=(fun W=>(W.cell? ⟨w.heap.size,0,none⟩=some (.slice kA nk kc)/\W.cell? ⟨w.heap.size,1,none⟩=some (.slice zA nz zc)/\W.cell? ⟨w.heap.size,2,none⟩=some (.slice (some ⟨b,o,none⟩) nh hc)/\W.cell? ⟨w.heap.size,3,none⟩=some (.slice bA nb bc)/\W.cell? ⟨w.heap.size,4,none⟩=some (.int .i64 room))/\W.cell? ⟨b,o+j * 4,none⟩=some (.int .i64 y0)/\W.cell? ⟨b,o+j * 4+1,none⟩=some (.int .i64 y1)/\W.cell? ⟨b,o+j * 4+2,none⟩=some (.int .i64 y2)/\W.cell? ⟨b,o+j * 4+3,none⟩=some (.bool y3))) (by kernel_rfl) (by first | exact HS.out _ kk) (fun hHeld=>?_);refine puA 0 54 (HS.out _ kk) ?_;refine puA 1 55 (HS.out _ kk) ?_;refine puA 2 56 (HS.out _ kk) ?_;refine puA 3 57 (HS.out _ kk) ?_;refine puA 4 58 (HS.out _ kk) ?_;refine puA 5 59 (HS.out _ kk) ?_;refine puR 6 fun K hK=>?_;go_simp;refine(G.out _ kw).mono ?_;rintro e w' ⟨rfl,hb'⟩;have k:=btn k hb';have kw:=btn kw hb';have kk:=btn kk hb';clear hb';refine hK.out _ _ (HS.out _ kk) fun hHeld=>?_;clear hK K;refine puA 7 61 (HS.out _ kk) ?_;refine wpAnyH_done (by kernel_rfl) ?_ _;refine Nrm.out (hKK _ _ ?_);go_wp2;go_roundw
      case rel=>exact⟨j+1,by omega,by go_num,k,kw,HN⟩
      case measure=>simp[intOf];omega
    ·obtain rfl:nh=j:=by omega
     have HNB:=Hz_ (show q2=true by rw[hr.out,List.drop_of_length_le (by rw[HLH.out];exact Nat.le_refl _)];rfl);clear hr;go_wp2;go_loopw [5] (fun i wr=>∃(j:Nat),j<=nb/\i=.int .i64 j/\Below W0.heap.size W0 wr/\Below w.heap.size w wr/\Hid (q3=(bods.drop j).all (wantd held))) (fun i _=>nb - (intOf i).toNat)
     case atStart=>exact⟨0,by omega,rfl,k,kw,HQ3⟩
     case round=>
      clear k kw b0 b1 b2 b3 b4;obtain⟨j,hj,rfl,k,kw,hr⟩:=hrel;obtain⟨b0,b1,b2,b3,b4⟩:=HX.out _ k;by_cases hlt:j < nb
      ·have hjl:j < M.length:=by rw[HML.out];exact hlt
       obtain⟨b,o,rfl,hbb,g0,g1,g2,g3⟩:=HBo.out wr kw j hjl;have hjb:j < bods.length:=by rw[HLB.out];exact hlt
       have hd:=hr.out.trans (all_drop _ bods j hjb);have hbe:bods[j]=M[j].2:=by simp only[<-HME.out];exact bds_at M j hjl
       rw[hbe] at hd;have G:=fun (W:World) (hb:Below w.heap.size w W)=>G7.out W hb M[j].1.A M[j].1.c M[j].2;unfold bval at G;generalize wantd held M[j].2=z at G hd;have HE:=Hz_ fun (W:World) (hb:Below wr.heap.size wr W)=>(held_at (HBo.out W (btn kw hb) j hjl));generalize M[j].2.o=y0 at g0 G HE;generalize M[j].2.s.1=y1 at g1 G HE;generalize M[j].2.s.2=y2 at g2 G HE;generalize M[j].1.A=y3 at g3 G HE;generalize M[j].2.v.length=y4 at g3 G HE;generalize M[j].1.c=y5 at g3 G HE;have G:=Hz_ G;have HD:=Hz_ hd;have hkr:=k;have HKR:=Hz_ hkr;have HS:=Hz_ fun (W:World) (hb:Below wr.heap.size wr W)=>(⟨HX.out W (btn HKR.out hb),HE.out W hb⟩:_/\_);clear hr hd hkr HE hbb hbe hjb hjl;cases z
       ·have HN:=Hz_ (show q3=false by rw[HD.out,Bool.false_and]);have k:Below W0.heap.size W0 wr.drew:=k.drew;have kw:Below w.heap.size w wr.drew:=kw.drew;have kk:Below wr.heap.size wr wr.drew:=(Below.refl _ wr).drew;go_wp2;clear b0 b1 b2 b3 b4;refine region_nrm fun KK hKK=>?_;refine wp_region_held_drew (S:=(fun W=>(W.cell? ⟨w.heap.size,0,none⟩=some (.slice kA nk kc)/\W.cell? ⟨w.heap.size,1,none⟩=some (.slice zA nz zc)/\W.cell? ⟨w.heap.size,2,none⟩=some (.slice hA nh hc)/\W.cell? ⟨w.heap.size,3,none⟩=some (.slice (some ⟨b,o,none⟩) nb bc)/\W.cell? ⟨w.heap.size,4,none⟩=some (.int .i64 room))/\W.cell? ⟨b,o+j * 4,none⟩=some (.int .i64 y0)/\W.cell? ⟨b,o+j * 4+1,none⟩=some (.int .i64 y1)/\W.cell? ⟨b,o+j * 4+2,none⟩=some (.int .i64 y2)/\W.cell? ⟨b,o+j * 4+3,none⟩=some (.slice y3 y4 y5))) (by kernel_rfl) (by first | exact HS.out _ kk) (fun hHeld=>?_);refine puA 0 69 (HS.out _ kk) ?_;refine puA 1 70 (HS.out _ kk) ?_;refine puA 2 71 (HS.out _ kk) ?_;refine puA 3 72 (HS.out _ kk) ?_;refine puA 4 73 (HS.out _ kk) ?_;refine puA 5 74 (HS.out _ kk) ?_;refine puR 6 fun K hK=>?_;go_simp;refine(G.out _ kw).mono ?_;rintro e w' ⟨rfl,hb'⟩;have k:=btn k hb';have kw:=btn kw hb';have kk:=btn kk hb';clear hb';refine hK.out _ _ (HS.out _ kk) fun hHeld=>?_;clear hK K;refine puA 7 76 (HS.out _ kk) ?_;refine wpAnyH_done (by kernel_rfl) ?_ _;refine Nrm.out (hKK _ _ ?_);go_wp2;go_ret;exact⟨by rw[HN.out];simp,kw⟩
       ·have HN:=Hz_ (show q3=(bods.drop (j+1)).all (wantd held) by rw[HD.out,Bool.true_and]);have k:Below W0.heap.size W0 wr.drew:=k.drew;have kw:Below w.heap.size w wr.drew:=kw.drew;have kk:Below wr.heap.size wr wr.drew:=(Below.refl _ wr).drew;go_wp2;clear b0 b1 b2 b3 b4;refine region_nrm fun KK hKK=>?_;refine wp_region_held_drew (S:=(fun W=>(W.cell? ⟨w.heap.size,0,none⟩=some (.slice kA nk kc)/\W.cell? ⟨w.heap.size,1,none⟩=some (.slice zA nz zc)/\W.cell? ⟨w.heap.size,2,none⟩=some (.slice hA nh hc)/\W.cell? ⟨w.heap.size,3,none⟩=some (.slice (some ⟨b,o,none⟩) nb bc)/\W.cell? ⟨w.heap.size,4,none⟩=some (.int .i64 room))/\W.cell? ⟨b,o+j * 4,none⟩=some (.int .i64 y0)/\W.cell? ⟨b,o+j * 4+1,none⟩=some (.int .i64 y1)/\W.cell? ⟨b,o+j * 4+2,none⟩=some (.int .i64 y2)/\W.cell? ⟨b,o+j * 4+3,none⟩=some (.slice y3 y4 y5))) (by kernel_rfl) (by first | exact HS.out _ kk) (fun hHeld=>?_);refine puA 0 69 (HS.out _ kk) ?_;refine puA 1 70 (HS.out _ kk) ?_;refine puA 2 71 (HS.out _ kk) ?_;refine puA 3 72 (HS.out _ kk) ?_;refine puA 4 73 (HS.out _ kk) ?_;refine puA 5 74 (HS.out _ kk) ?_;refine puR 6 fun K hK=>?_;go_simp;refine(G.out _ kw).mono ?_;rintro e w' ⟨rfl,hb'⟩;have k:=btn k hb';have kw:=btn kw hb';have kk:=btn kk hb';clear hb';refine hK.out _ _ (HS.out _ kk) fun hHeld=>?_;clear hK K;refine puA 7 76 (HS.out _ kk) ?_;refine wpAnyH_done (by kernel_rfl) ?_ _;refine Nrm.out (hKK _ _ ?_);go_wp2;go_roundw
        case rel=>exact⟨j+1,by omega,by go_num,k,kw,HN⟩
        case measure=>simp[intOf];omega
      ·obtain rfl:nb=j:=by omega
       have HN:=Hz_ (show q3=true by rw[hr.out,List.drop_of_length_le (by rw[HLB.out];exact Nat.le_refl _)];rfl);clear hr;go_wp2;go_ret;exact⟨by rw[HN.out,HNA.out,HNB.out];rfl,kw⟩
end Go.Proofs.YtmbeahbgafkjfaaGreatDoor
