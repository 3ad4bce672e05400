/- Lemmas, layer 17. -/
import Derived.Test.YtmbeahbgafkjfaaGreatDoorKp16
set_option linter.unusedSimpArgs false
set_option maxRecDepth 100000
set_option maxHeartbeats 16000000
namespace Go.Proofs.YtmbeahbgafkjfaaGreatDoor
open Go.Proofs.Tryz Go.RowKit
section
open Go.RowKit Go.Shelf
attribute [local go_sem] Oper.semAt_some
def evW (q:Wr):Array Value:=#[.int .i64 q.2.1,.agg #[.int .i64 q.1.1,.int .i64 q.1.2,.int .i64 q.2.1,.bool q.2.2]]
structure OX (Bx:Nat) (A:OA) (n c:Nat) (l:List Wr) (W:World):Prop where
 box:Jm W Bx 24 #[.slice A n c]
 rd:Rd W W.heap.size 4 A n c (wv l)
theorem OX.keep {Bx:Nat} {A:OA} {n c:Nat} {l:List Wr} {W V:World} (h:OX Bx A n c l W) (k:KA 0 W V):OX Bx A n c l V:=
 ⟨k.blk (FB _) h.box,⟨h.rd.len,h.rd.cap,h.rd.max,h.rd.nil,fun hn=>by
  obtain⟨ad,e,hb,hc⟩:=h.rd.at0 hn;exact⟨ad,e,FC hb k.size,fun j u hu=>k.cell (FB _) (hc j u hu)⟩⟩⟩
theorem OX.go {Bx:Nat} {A:OA} {n c:Nat} {l:List Wr} {W V:World} (h:OX Bx A n c l W) (hb:Bz W V):OX Bx A n c l V:=h.keep (KA.of_below hb)
theorem JjF (A:OA) (n c:Nat) (l:List Wr) (w:World) (hR:Rd w w.heap.size 4 A n c (wv l)):
  Calls prog 96 #[.slice A n c] w fun e w'=>∃(Bx:Nat),e=.returned (.func (.func 164) #[] #[.pointer (some ⟨Bx,0,none⟩)]) /\
   OX Bx A n c l w'/\Bz w w':=by
 have hb0:Bz w (w.alloc (.cells #[.slice A n c] 24)):=Zr.alloc Zl _;have HR:=Ja (hR.go hb0);have HB:=Ja hb0;clear hR hb0;go_enter func96,ntmps96;go_wp2;go_ret;exact⟨_,rfl,⟨Jm.new w _ _,HR.out⟩,HB.out⟩
theorem Jjq (m:Nat) (hm:1<=m) (lp Bx:Nat) (A:OA) (n c:Nat) (l:List Wr) (hl:l.length=n) (hf:Xu (-1) l=true) (J Jx:List Wr->World->Prop) (B0:Nat) (hJ:AbidesFrom B0 J)
  (hY:∀pre (x:Wr) W,J pre W->(pre++[x]) <+: l->pre.length < 256->YieldAt Fence.wide (m - 1) prog lp (evW x) W fun e W'=>
   (e=.returned (.bool true)/\J (pre++[x]) W'/\KA 0 W W')\/(e=.returned (.bool false)/\Jx (pre++[x]) W'))
  (W:World) (hg:OX Bx A n c l W) (h0:J [] W):
  CallsIn Fence.wide m prog 164 #[.func (.yield lp) #[] #[],.pointer (some ⟨Bx,0,none⟩)] W fun e W'=>(∃v,e=.returned v) /\
   ((∃ys,ys=l/\J ys W')\/(∃pre,(pre <+: l)/\Jx pre W')):=by
 have hbx:=hg.box.cell 0;have HLN:=Ja hl;have hmax:n<=9223372036854775807:=by have h1:=hg.rd.cap;have h2:=hg.rd.max;unfold maxLen at h2;omega
 have hlen:n≤256:=by rcases Wq.ZW hf (by omega) with h | h
                     ·omega
                     ·rw[<-hl,h];simp
 have f1:=XU A n c l W hl hg.rd;rw[hf] at f1;have G1:=Ja f1;have HG:=Ja hg;clear f1 hl hf hg;refine callsIn_of_wp func164 rfl trivial ?_ rfl;simp only[ntmps164,Fo,List.length_cons,List.length_nil,Nat.reduceAdd,Nat.reduceSub,Fm,Array.replicate_zero,Fw,Fr,List.nil_append,List.cons_append]
 gi_wp2_with (refine⟨trivial,?_⟩;gi_at_call 93;refine(Ex.2 G1.out).mono ?_;rintro e w1 ⟨rfl,hb1⟩;have q0:=(HG.out.go hb1).box.cell 0)
 have hg1:=HG.out.go hb1;have hj1:=Jl4 hJ hb1 h0;clear q0 hb1 G1 HG hbx
 gi_loopw [10] (fun v10 wr=>∃(k:Nat) (pre:List Wr),v10=.int .i64 k/\k<=n/\OX Bx A n c l wr/\J pre wr/\Hid (l=pre++l.drop k)/\pre.length=k) (fun v10 _=>n - (intOf v10).toNat)
 case atStart=>exact⟨0,[],rfl,by omega,hg1,hj1,rfl,rfl⟩
 case round=>
  obtain⟨k,pre,rfl,hk,hgd,hj,hev,hpl⟩:=hrel;by_cases hlt:k < n
  ·have hkl:k < l.length:=by rw[HLN.out];exact hlt
   obtain⟨bb,o,rfl,hab,g0,g1,g2,g3⟩:=hgd.rd.write HLN.out hkl;have HE:=Ja (show l=(pre++[l[k]])++l.drop (k+1) by rw[Er,List.singleton_append,<-Eh hkl];exact hev.out);have hpf:(pre++[l[k]]) <+: l:=⟨_,HE.out.symm⟩;have hb1:Bz wr (wr.alloc (.cells #[.int .i64 l[k].1.1,.int .i64 l[k].1.2,.int .i64 l[k].2.1,.bool l[k].2.2] 70)):=Zr.alloc Zl _;have hgd1:=hgd.go hb1;have hj1:=Jl4 hJ hb1 hj;obtain⟨fn,tmps,assign,body,hy,hR⟩:=hY pre l[k] _ hj1 hpf (by omega);dsimp only[evW] at hy;have HG:=Ja hgd1;have HPF:=Ja hpf;generalize hqq:l[k]=q at g0 g1 g2 g3 HE hb1 HG hj1 hy hR HPF;obtain⟨⟨sc,sn⟩,ob,gn⟩:=q;dsimp only at g0 g1 g2 g3 hb1 HG hj1 hy hR;clear hqq hev hgd hb1 hgd1 hpf
   gi_wp2
   refine hR.mono ?_;rintro e W3 (⟨rfl,hJ3,hk3⟩ | ⟨rfl,hJx3⟩)
   ·gi_wp2
    go_roundw
    case rel=>exact⟨k+1,pre++[((sc,sn),ob,gn)],by go_num,by omega,HG.out.keep hk3,hJ3,HE.out,by rw[Eb,List.length_singleton,hpl]⟩
    case measure=>simp[intOf];omega
   ·gi_wp2
    refine EF (Nd rfl _ _ _) rfl ?_;exact⟨⟨_,rfl⟩,.inr ⟨_,HPF.out,hJx3⟩⟩
  ·have HD:=Ja (show pre=l by
    have:=hev.out;rw[Ed (by rw[HLN.out];omega),EG] at this;exact this.symm)
   clear hev
   gi_wp2
   go_end0;exact⟨⟨_,rfl⟩,.inl ⟨pre,HD.out,hj⟩⟩
theorem JhJ (m:Nat) (hm:1<=m) (Bx:Nat) (A:OA) (n c:Nat) (l:List Wr) (hl:l.length=n) (hf:Xu (-1) l=true) (w:World) (hg:OX Bx A n c l w):
  Ji4 Fence.wide m prog 164 #[.pointer (some ⟨Bx,0,none⟩)] evW (fun pre x=>(pre++[x]) <+: l) (KA 0) (fun ys=>ys=l) (fun pre=>pre <+: l) 256 w:=by
 intro lp J Jx W hW hJ hJx hY h0;exact Jjq m hm lp Bx A n c l hl hf J Jx W.heap.size hJ hY W (hg.go hW) h0
end
section
open Go.RowKit Go.Shelf
attribute [local go_sem] Oper.semAt_some
theorem JaG {α:Type} (p:α->Bool) (l:List α) (k:Nat) (h:k < l.length):(l.drop k).all p=(p l[k] && (l.drop (k+1)).all p):=by
 rw[Eh h,List.all_cons]
theorem JmY {α:Type} (p:α->Bool) (l:List α):(l.any fun x=>!p x)=!(l.all p):=by
 induction l with
 | nil=>rfl
 | cons x r ih=>rw[List.any_cons,List.all_cons,ih];cases p x<;>rfl
theorem YI {b o B:Nat} {p:Nat->Nat->Prop} (h:∃b2 o2,(some ⟨b,o,none⟩:OA)=some ⟨b2,o2,none⟩/\b2 < B/\p b2 o2):p b o:=by
 obtain⟨b2,o2,e,_,hp⟩:=h;obtain⟨rfl,rfl⟩:b=b2/\o=o2:=by injection e with e;injection e with e3 e4;exact⟨e3,e4⟩
 exact hp
theorem JfS {zones:List Zn} {known:List Vc.St} {held:List Wr} (h1:fm (-1) known=true) (h2:zF (-1) none zones=true) (h3:Xu (-1) held=true):(held.all fun x=>QD (JQ zones known x.2.1) x.1)=held.all (Ue zones known):=by
 rw[EM,Fg,Fg];refine forall_congr' fun x=>forall_congr' fun hx=>?_;obtain⟨a,b,_⟩:=Wq.Jhw h3 x hx;rw[Uq h2 h1 ⟨a,b⟩];rfl
theorem Jjz {W W':World} {g:Nat} {t:TypeId} {cs:Array Value} {row:Option Nat} (h:Jm W g t cs) (hg:W.grownBy W' row) (hr:∀r,row=some r->∃o:Obj,W.heap[r]?=some o/\o.isCells=false):Jm W' g t cs:=
 h.grown hg (fun e=>by obtain⟨o,ho,hc⟩:=hr _ e.symm;rw[h] at ho;injection ho with ho;rw[<-ho] at hc;cases hc)
theorem Jh7 {B:Nat} {t:TypeId} {v:Value} {X Y:World} {row:Option Nat} (h:Boxed X B t v) (hg:X.grownBy Y row) (hr:∀r,row=some r->∃o:Obj,X.heap[r]?=some o/\o.isCells=false):Boxed Y B t v:=
 boxed_own B _ (fun _:Unit=>_) () X Y row h hg hr
theorem Zo {B:Nat} {W V:World} (h:Bz W V):KeepsFrom B W V:=⟨h.size,fun k _ _ hk _=>(h.block k (EA.1 hk).1).trans hk⟩
theorem Boxed.olds {W V:World} {B n₀:Nat} {t:TypeId} {v:Value} (h:Boxed W B t v) (hb:Below n₀ W V) (hlt:B < n₀):Boxed V B t v:=(hb.block _ hlt).trans h
theorem Yi (u:VV) (v:Vw) (L:List (ZV×Zn)) (M:List (BV×Wq.Bd)) (w:World) (hT:UW w) (hV:JU w w.heap.size u v L M):
  Calls prog 26 #[.agg (Jy v u)] w fun e w'=>e=.returned (.bool (Ut v))/\Bz w w':=by
 obtain⟨kA,kc,zA,zc,hA,hc,bA,bc⟩:=u;obtain⟨known,zones,held,bods,room⟩:=v;obtain⟨h1,h2,h3,h4,h5,h6⟩:=hV;have hvw:Ut ⟨known,zones,held,bods,room⟩=((fm (-1) known && (zF (-1) none zones && (Xu (-1) held && caF bods room))) && (zones.all (QU known) && (held.all (Ue zones known) && bods.all (JV held)))):=rfl;unfold Jy;dsimp only at h1 h2 h3 h4 h5 h6 ⊢;rw[hvw];have HRF:=Ja fun a b c=>JfS (zones:=zones) (known:=known) (held:=held) a b c;generalize hq1:zones.all (QU known)=q1B;generalize hq2:held.all (Ue zones known)=q2B at HRF ⊢;generalize hq3:bods.all (JV held)=q3B;have HQ1:=Ja hq1.symm;have HANY:=Ja (show (bods.any fun x=>!(true && JV held x))=!q3B by rw[<-hq3];simp only[Fb];exact JmY _ _);clear hq1 hq2 hq3;have hb0:Bz w ((w.alloc (.cells #[.slice kA known.length kc,.slice zA zones.length zc,.slice hA held.length hc,.slice bA bods.length bc,.int .i64 room] 35)).alloc (.cells #[.bool false] 4)):=(Zr.alloc Zl _).alloc (by simp) _;have hX:=(Jm.new w 35 #[.slice kA known.length kc,.slice zA zones.length zc,.slice hA held.length hc,.slice bA bods.length bc,.int .i64 room]).alloc (.cells #[.bool false] 4);have hO:=Boxed.new (w.alloc (.cells #[.slice kA known.length kc,.slice zA zones.length zc,.slice hA held.length hc,.slice bA bods.length bc,.int .i64 room] 35)) 4 (.bool false);rw[El] at hO;have H1:=Ja fun (W:World) (hb:Bz w W)=>YD kA known.length kc known W rfl (h1.go hb);have H2:=Ja fun (W:World) (hb:Bz w W)=>Zb zA zones.length zc L W (h2.go hb);have H3:=Ja fun (W:World) (hb:Bz w W)=>XU hA held.length hc held W rfl (h4.go hb);have H4:=Ja fun (W:World) (hb:Bz w W)=>YZ bA bods.length bc M room W (h5.go hb);have H5:=Ja fun (W:World) (hb:Bz w W) (A:OA) (n c:Nat) (z:List Vc.St) (hl:z.length=n) (hR:Rd w w.heap.size 2 A n c (sv z))=>Jg1 A kA n c known.length kc z known W (hT.below hb) hl rfl (hR.go hb) (h1.go hb);have H6:=Ja fun (W:World) (hb:Bz w W)=>JjF hA held.length hc held W (h4.go hb);have H7:=Ja fun (W:World) (hb:Bz w W) (x:Wr)=>Uw zA kA zones.length zc known.length kc L known x W (h2.go hb) rfl (h1.go hb);have H8:=Ja fun (W:World) (hb:Bz w W) (Bx:Nat) (hx:W.cell? ⟨Bx,2,none⟩=some (.slice hA held.length hc))=>Jdx hA bA held.length hc bods.length bc held M Bx W hx rfl (h4.go hb) (h5.go hb);rw[h3] at H2 H7;rw[h6] at H4 H8;have HZ:=Ja h2;have HNZ:=Ja h3;have hmz:=h2.max;have HFH:=Ja (show Xu (-1) held=Xu (-1) held from rfl);generalize hf1:fm (-1) known=f1 at H1 ⊢;generalize hf2:zF (-1) none zones=f2 at H2 ⊢;generalize hf3:Xu (-1) held=f3 at H3 H8 ⊢;generalize hf4:caF bods room=f4 at H4 ⊢;generalize hnk:known.length=nk at *;generalize hnz:zones.length=nz at *;generalize hnh:held.length=nh at *;generalize hnb:bods.length=nb at *;have HF1:=Ja hf1;have HF2:=Ja hf2;have HF3:=Ja hf3;have HNH:=Ja hnh;clear h1 h2 h3 h4 h5 h6 hT hvw hf1 hf2 hf3 hf4 hnk hnh hnb;obtain⟨W0,hW0⟩:∃W0,W0=(w.alloc (.cells #[.slice kA nk kc,.slice zA nz zc,.slice hA nh hc,.slice bA nb bc,.int .i64 room] 35)).alloc (.cells #[.bool false] 4):=⟨_,rfl⟩;have hs0:W0.heap.size=w.heap.size+1+1:=by rw[hW0];simp
 rw[<-hW0] at hb0 hX hO;have HX:=Ja fun (W:World) (hb:Bz W0 W)=>(hX.go hb).five;have HO:=Ja fun (W:World) (hb:Bz W0 W)=>Boxed.olds hO hb (by omega);have HW0:=Ja hW0.symm;have HB0:=Ja hb0;have k:Bz W0 W0:=Ec _ _;have kw:Bz w W0:=hb0;obtain⟨q0,q1,q2,q3,q4⟩:=HX.out _ k;clear hX hO hW0 hb0;refine(Ex (n:=3)).1 ?_;refine FH func26 rfl trivial ?_ rfl;simp only[ntmps26,Fo,List.length_cons,List.length_nil,Nat.reduceAdd,Nat.reduceSub,Fm,Array.replicate_zero,Fw,Fr,List.nil_append,List.cons_append]
 gi_wp2_with fail
 rw[HW0.out];cases f1
 ·skip;refine⟨trivial,?_⟩;refine(Ex.2 (H1.out _ kw)).mono ?_;rintro e w' ⟨rfl,hb'⟩;clear q0 q1 q2 q3 q4;have k:=Jg k hb';have kw:=Jg kw hb';clear hb';obtain⟨q0,q1,q2,q3,q4⟩:=HX.out _ k;have hO:=HO.out _ k;have hcO:=hO.cell;have hfO:=hO.frozen
  gi_wp2_with fail
  refine⟨trivial,?_⟩
  gi_wp2_with fail
  refine⟨trivial,?_⟩
  gi_wp2_with fail
  refine⟨trivial,?_⟩
  gi_wp2
  refine⟨.bool false,?_,by simp,kw.setCell (p:=⟨w.heap.size+1,0,none⟩) (GV _) _⟩;simp[results,Tryz.f26,go_sem,FW _ ⟨w.heap.size+1,0,none⟩ (.bool false) (by rw[hcO];rfl)]
 cases f2
 ·skip;refine⟨trivial,?_⟩;refine(Ex.2 (H1.out _ kw)).mono ?_;rintro e w' ⟨rfl,hb'⟩;clear q0 q1 q2 q3 q4;have k:=Jg k hb';have kw:=Jg kw hb';clear hb';obtain⟨q0,q1,q2,q3,q4⟩:=HX.out _ k;have hO:=HO.out _ k;have hcO:=hO.cell;have hfO:=hO.frozen
  gi_wp2_with fail
  refine⟨trivial,?_⟩;refine(Ex.2 (H2.out _ kw)).mono ?_;rintro e w' ⟨rfl,hb'⟩;clear q0 q1 q2 q3 q4;have k:=Jg k hb';have kw:=Jg kw hb';clear hb';obtain⟨q0,q1,q2,q3,q4⟩:=HX.out _ k;have hO:=HO.out _ k;have hcO:=hO.cell;have hfO:=hO.frozen
  gi_wp2_with fail
  refine⟨trivial,?_⟩
  gi_wp2_with fail
  refine⟨trivial,?_⟩
  gi_wp2
  refine⟨.bool false,?_,by simp,kw.setCell (p:=⟨w.heap.size+1,0,none⟩) (GV _) _⟩;simp[results,Tryz.f26,go_sem,FW _ ⟨w.heap.size+1,0,none⟩ (.bool false) (by rw[hcO];rfl)]
 cases f3
 ·skip;refine⟨trivial,?_⟩;refine(Ex.2 (H1.out _ kw)).mono ?_;rintro e w' ⟨rfl,hb'⟩;clear q0 q1 q2 q3 q4;have k:=Jg k hb';have kw:=Jg kw hb';clear hb';obtain⟨q0,q1,q2,q3,q4⟩:=HX.out _ k;have hO:=HO.out _ k;have hcO:=hO.cell;have hfO:=hO.frozen
  gi_wp2_with fail
  refine⟨trivial,?_⟩;refine(Ex.2 (H2.out _ kw)).mono ?_;rintro e w' ⟨rfl,hb'⟩;clear q0 q1 q2 q3 q4;have k:=Jg k hb';have kw:=Jg kw hb';clear hb';obtain⟨q0,q1,q2,q3,q4⟩:=HX.out _ k;have hO:=HO.out _ k;have hcO:=hO.cell;have hfO:=hO.frozen
  gi_wp2_with fail
  refine⟨trivial,?_⟩;refine(Ex.2 (H3.out _ kw)).mono ?_;rintro e w' ⟨rfl,hb'⟩;clear q0 q1 q2 q3 q4;have k:=Jg k hb';have kw:=Jg kw hb';clear hb';obtain⟨q0,q1,q2,q3,q4⟩:=HX.out _ k;have hO:=HO.out _ k;have hcO:=hO.cell;have hfO:=hO.frozen
  gi_wp2_with fail
  refine⟨trivial,?_⟩
  gi_wp2
  refine⟨.bool false,?_,by simp,kw.setCell (p:=⟨w.heap.size+1,0,none⟩) (GV _) _⟩;simp[results,Tryz.f26,go_sem,FW _ ⟨w.heap.size+1,0,none⟩ (.bool false) (by rw[hcO];rfl)]
 cases f4
 ·skip;refine⟨trivial,?_⟩;refine(Ex.2 (H1.out _ kw)).mono ?_;rintro e w' ⟨rfl,hb'⟩;clear q0 q1 q2 q3 q4;have k:=Jg k hb';have kw:=Jg kw hb';clear hb';obtain⟨q0,q1,q2,q3,q4⟩:=HX.out _ k;have hO:=HO.out _ k;have hcO:=hO.cell;have hfO:=hO.frozen
  gi_wp2_with fail
  refine⟨trivial,?_⟩;refine(Ex.2 (H2.out _ kw)).mono ?_;rintro e w' ⟨rfl,hb'⟩;clear q0 q1 q2 q3 q4;have k:=Jg k hb';have kw:=Jg kw hb';clear hb';obtain⟨q0,q1,q2,q3,q4⟩:=HX.out _ k;have hO:=HO.out _ k;have hcO:=hO.cell;have hfO:=hO.frozen
  gi_wp2_with fail
  refine⟨trivial,?_⟩;refine(Ex.2 (H3.out _ kw)).mono ?_;rintro e w' ⟨rfl,hb'⟩;clear q0 q1 q2 q3 q4;have k:=Jg k hb';have kw:=Jg kw hb';clear hb';obtain⟨q0,q1,q2,q3,q4⟩:=HX.out _ k;have hO:=HO.out _ k;have hcO:=hO.cell;have hfO:=hO.frozen
  gi_wp2_with fail
  refine⟨trivial,?_⟩;refine(Ex.2 (H4.out _ kw)).mono ?_;rintro e w' ⟨rfl,hb'⟩;clear q0 q1 q2 q3 q4;have k:=Jg k hb';have kw:=Jg kw hb';clear hb';obtain⟨q0,q1,q2,q3,q4⟩:=HX.out _ k;have hO:=HO.out _ k;have hcO:=hO.cell;have hfO:=hO.frozen
  gi_wp2
  refine⟨.bool false,?_,by simp,kw.setCell (p:=⟨w.heap.size+1,0,none⟩) (GV _) _⟩;simp[results,Tryz.f26,go_sem,FW _ ⟨w.heap.size+1,0,none⟩ (.bool false) (by rw[hcO];rfl)]
 refine⟨trivial,?_⟩;refine(Ex.2 (H1.out _ kw)).mono ?_;rintro e w' ⟨rfl,hb'⟩;clear q0 q1 q2 q3 q4;have k:=Jg k hb';have kw:=Jg kw hb';clear hb';obtain⟨q0,q1,q2,q3,q4⟩:=HX.out _ k;have hO:=HO.out _ k;have hcO:=hO.cell;have hfO:=hO.frozen
 gi_wp2_with fail
 refine⟨trivial,?_⟩;refine(Ex.2 (H2.out _ kw)).mono ?_;rintro e w' ⟨rfl,hb'⟩;clear q0 q1 q2 q3 q4;have k:=Jg k hb';have kw:=Jg kw hb';clear hb';obtain⟨q0,q1,q2,q3,q4⟩:=HX.out _ k;have hO:=HO.out _ k;have hcO:=hO.cell;have hfO:=hO.frozen
 gi_wp2_with fail
 refine⟨trivial,?_⟩;refine(Ex.2 (H3.out _ kw)).mono ?_;rintro e w' ⟨rfl,hb'⟩;clear q0 q1 q2 q3 q4;have k:=Jg k hb';have kw:=Jg kw hb';clear hb';obtain⟨q0,q1,q2,q3,q4⟩:=HX.out _ k;have hO:=HO.out _ k;have hcO:=hO.cell;have hfO:=hO.frozen
 gi_wp2_with fail
 refine⟨trivial,?_⟩;refine(Ex.2 (H4.out _ kw)).mono ?_;rintro e w' ⟨rfl,hb'⟩;clear q0 q1 q2 q3 q4;have k:=Jg k hb';have kw:=Jg kw hb';clear hb';obtain⟨q0,q1,q2,q3,q4⟩:=HX.out _ k;have hO:=HO.out _ k;have hcO:=hO.cell;have hfO:=hO.frozen;have HQ2:=Ja (HRF.out HF1.out HF2.out HF3.out).symm;rw[HANY.out] at H8
 gi_wp2
 gi_loopw [34] (fun i wr=>∃(j:Nat),j<=nz/\i=.int .i64 j/\Bz W0 wr/\Bz w wr/\Hid (q1B=(zones.drop j).all (QU known))) (fun i _=>nz - (intOf i).toNat)
 case atStart=>exact⟨0,by omega,rfl,k,kw,HQ1⟩
 case round=>
  clear k kw q0 q1 q2 q3 q4 hO hcO hfO;obtain⟨j,hj,rfl,k,kw,hr⟩:=hrel;by_cases hlt:j < nz
  ·have hjl:j < L.length:=by rw[HZ.out.len];exact hlt
   obtain⟨b,o,rfl,hbb,g0,g1,g2⟩:=(HZ.out.below kw).zone hjl;have hjz:j < zones.length:=by rw[<-HNZ.out,JH];exact hjl
   have hd:q1B=(QU known zones[j] && (zones.drop (j+1)).all (QU known)):=hr.out.trans (JaG _ zones j hjz);have hze:zones[j]=L[j].2:=by simp only[<-HNZ.out];exact XE L j hjl
   rw[hze] at hd;have hs:QU known L[j].2=decide (Oj (QL (Vc.Jz L[j].2.2) (Vc.Jz known)) (QL (Vc.Jz known) (Vc.Jz L[j].2.2))=1):=rfl;rw[hs] at hd;have hp:=HZ.out.each _ (En hjl);have G:=fun (W:World) (hb:Bz w W)=>H5.out W hb L[j].1.A L[j].1.n L[j].1.c L[j].2.2 hp.1 hp.2;generalize Oj (QL (Vc.Jz L[j].2.2) (Vc.Jz known)) (QL (Vc.Jz known) (Vc.Jz L[j].2.2))=z at G hd;generalize L[j].2.1.1=y0 at g0;generalize L[j].2.1.2=y1 at g1;generalize L[j].1.A=y2 at g2 G;generalize L[j].1.n=y3 at g2 G;generalize L[j].1.c=y4 at g2 G;have hal:Bz wr (wr.alloc (.cells #[.int .i64 y0,.int .i64 y1,.slice y2 y3 y4] 129)):=Zr.alloc Zl _;have G:=Ja (G _ (Jg kw hal));have HD:=Ja hd;have HAL:=Ja hal;obtain⟨q0,q1,q2,q3,q4⟩:=HX.out _ k;have hO:=HO.out _ k;have hcO:=hO.cell;have hfO:=hO.frozen;have hlt1:w.heap.size < wr.heap.size:=by have:=k.size;omega
   have hlt2:w.heap.size+1 < wr.heap.size:=by have:=k.size;omega
   clear hr hd hs hze hp hbb hjz hjl hal;by_cases hz:z=1
   ·subst hz;have HN:=Ja (show q1B=(zones.drop (j+1)).all (QU known) by rw[HD.out];simp)
    gi_wp2_with fail
    refine⟨trivial,?_⟩;refine(Ex.2 G.out).mono ?_;rintro e w' ⟨rfl,hb'⟩;have hb':=Jg HAL.out hb';have k:=Jg k hb';have kw:=Jg kw hb'
    gi_wp2
    go_roundw
    case rel=>exact⟨j+1,by omega,by go_num,k,kw,HN⟩
    case measure=>simp[intOf];omega
   ·have HN:=Ja (show q1B=false by rw[HD.out,Ew hz,FZ]);have hz2:(z == 1)=false:=by simpa using hz
    gi_wp2_with fail
    refine⟨trivial,?_⟩;refine(Ex.2 G.out).mono ?_;rintro e w' ⟨rfl,hb'⟩;have hb':=Jg HAL.out hb';clear hO hcO hfO;have k:=Jg k hb';have kw:=Jg kw hb';have hO:=HO.out _ k;have hcO:=hO.cell;have hfO:=hO.frozen
    gi_wp2
    refine⟨.bool false,?_,by rw[HN.out];simp,kw.setCell (p:=⟨w.heap.size+1,0,none⟩) (GV _) _⟩;simp[results,Tryz.f26,go_sem,FW _ ⟨w.heap.size+1,0,none⟩ (.bool false) (by rw[hcO];rfl)]
  ·obtain rfl:j=nz:=by omega
   have HNA:=Ja (show q1B=true by rw[hr.out,Ed (by rw[<-HNZ.out,JH,HZ.out.len];exact Ek _)];rfl);obtain⟨q0,q1,q2,q3,q4⟩:=HX.out _ k;have hO:=HO.out _ k;have hcO:=hO.cell;have hfO:=hO.frozen;clear hr
   gi_wp2_with fail
   refine⟨trivial,?_⟩;refine(Ex.2 (H6.out _ kw)).mono ?_;rintro e w2 ⟨Bx,rfl,hg,hb'⟩;have k:=Jg k hb';have kw:=Jg kw hb';clear hb' q0 q1 q2 q3 q4 hO hcO hfO;have HQ:=Ja (JhJ (3 - 1) (by omega) Bx hA nh hc held HNH.out HF3.out w2 hg);clear hg
   gi_wp2
   have hs2:=kw.size;have hs3:=k.size;refine OQ rfl (by omega) (gf:=164) (lb:=#[.pointer (some ⟨Bx,0,none⟩)]) rfl trivial (NU func164 (by kernel_rfl) rfl)
    HQ.out KA.trans (fun W l o o' _ h1 h2 _=>KA.putObj h1 h2) Zr (fun _=>rfl)
    (fun pre W=>Hid (∀y∈pre,QD (JQ zones known y.2.1) y.1=true)/\Bz W0 W)
    (fun c pre W=>(c=.ret/\q2B=false/\Boxed W (w.heap.size+1) 4 (.bool false))/\Bz w W)
    (Nc (Own.from (fun s X Y row hs hg hr=>hs) _) (GZ Zl (by omega)))
    (fun c=>Nc (Own.from (fun s X Y row hs hg hr=>⟨hs.1,hs.2.1,Jh7 hs.2.2 hg hr⟩) _) (GZ Zl (by omega)))
    ⟨Ja (fun y hy=>by cases hy),k⟩
    (fun x a₁ V=>∃g,Jm V g 70 #[.int .i64 x.1.1,.int .i64 x.1.2,.int .i64 x.2.1,.bool x.2.2]/\a₁={ tmps:=#[.agg #[.slice kA nk kc,.slice zA j zc,.slice hA nh hc,.slice bA nb bc,.int .i64 room],.pointer (some ⟨w.heap.size,0,none⟩),.pointer (some ⟨w.heap.size+1,0,none⟩),undef,u4,undef,.pointer (some ⟨g,0,none⟩),.pointer (some ⟨w.heap.size,0,none⟩),.slice kA nk kc,.bool true,.bool false,.bool false,.pointer (some ⟨w.heap.size,1,none⟩),.slice zA j zc,.bool true,.bool false,.bool false,.bool false,.pointer (some ⟨w.heap.size,2,none⟩),.slice hA nh hc,.bool true,.bool false,.bool false,.bool false,.pointer (some ⟨w.heap.size,3,none⟩),.slice bA nb bc,.pointer (some ⟨w.heap.size,4,none⟩),.int .i64 room,.bool true,.bool false,.bool false,.pointer (some ⟨w.heap.size,1,none⟩),.slice zA j zc,.int .i64 (j:Int),.int .i64 (j:Int),.bool false,u36,u37,u38,u39,u40,u41,u42,u43,u44,.pointer (some ⟨w.heap.size,2,none⟩),.slice hA nh hc,.func (.func 164) #[] #[.pointer (some ⟨Bx,0,none⟩)],.int .i64 x.2.1,.agg #[.int .i64 x.1.1,.int .i64 x.1.2,.int .i64 x.2.1,.bool x.2.2],undef,undef,undef,undef,undef,undef,undef,undef,undef,undef,undef,undef],defers:=[] })
    (fun _=>by
     intro s X Y row hs hg hr;obtain⟨g,h1,h2⟩:=hs;exact⟨g,Jjz h1 hg (fun r e=>(hr r e).2),h2⟩) ?assign ?body ?done ?stop
   case assign=>
    rintro l pre ⟨⟨sc,sn⟩,ob,gn⟩ W K ⟨hI,hB⟩ _ hK;dsimp only[evW]
    gi_wp2
    have hbA:Bz W (W.alloc (.cells #[.int .i64 sc,.int .i64 sn,.int .i64 ob,.bool gn] 70)):=Zr.alloc Zl _;exact hK _ _ (Zo hbA) (KA.of_below hbA) ⟨hI,Jg hB hbA⟩ ⟨W.heap.size,Jm.new W _ _,rfl⟩
   case body=>
    rintro l pre ⟨⟨sc,sn⟩,ob,gn⟩ a₁ W hl ⟨hI,hB⟩ hpf ⟨g,hX,rfl⟩ hlt;have hkw:Bz w W:=HB0.out.trans (hB.mono (by omega));have G:=H7.out W hkw ((sc,sn),ob,gn);have hin:((sc,sn),ob,gn)∈held:=by
     obtain⟨t,ht⟩:=hpf;rw[<-ht];simp
    obtain⟨zz,hzz⟩:∃zz,zz=QD (JQ zones known ob) (sc,sn):=⟨_,rfl⟩;dsimp only at G hX;rw[<-hzz] at G;have HZZ:=Ja hzz;have G:=Ja G;have HI:=Ja hI;have HBB:=Ja hB;obtain⟨x0,x1,x2,x3⟩:=hX.quad;obtain⟨q0,q1,q2,q3,q4⟩:=HX.out _ hB;have HKW:=Ja hkw;have HIN:=Ja hin;clear hzz hI hB hX hpf hkw hin hlt;cases zz
    ·have HN:=Ja (show q2B=false by
      rw[HQ2.out,Bool.eq_false_iff];intro hall;have:=Fg.1 hall _ HIN.out;dsimp only at this;rw[<-HZZ.out] at this;cases this)
     gi_wp2_with fail
     refine⟨trivial,?_⟩;refine(Ex.2 G.out).mono ?_;rintro e w' ⟨rfl,hb'⟩;have hO:=HO.out _ (Jg HBB.out hb');have hcO:=hO.cell;have hfO:=hO.frozen
     gi_wp2
     exact⟨(Zo hb').trans ((KeepsOthers.setCell _ _ _).from _),⟨rfl,HN.out,hO.set _⟩,(Jg HKW.out hb').setCell (p:=⟨w.heap.size+1,0,none⟩) (GV _) _⟩
    ·gi_wp2_with fail
     refine⟨trivial,?_⟩;refine(Ex.2 G.out).mono ?_;rintro e w' ⟨rfl,hb'⟩
     gi_wp2
     refine⟨Zo hb',KA.of_below hb',Ja (fun y hy=>?_),Jg HBB.out hb'⟩;rcases EB.1 hy with hy | hy
     ·exact HI.out y hy
     ·rw[Ez] at hy;subst hy;exact HZZ.out.symm
   case done=>
    rintro E ys W hD rfl ⟨hI,hB⟩ hK;have HN:=Ja (show q2B=true by rw[HQ2.out];exact Fg.2 hI.out);have hkw:Bz w W:=HB0.out.trans (hB.mono (by omega));obtain⟨q0,q1,q2,q3,q4⟩:=HX.out _ hB;have G:=Ja (H8.out W hkw w.heap.size q2)
    gi_wp2_with fail
    refine⟨trivial,?_⟩;refine(Ex.2 G.out).mono ?_;rintro e w' ⟨rfl,hb'⟩;have hO:=HO.out _ (Jg hB hb');have hcO:=hO.cell;have hfO:=hO.frozen;have hkw':=Jg hkw hb';have hK8:=(Zo (B:=0) hb').same E _ (FB _) hK rfl;have hS8:=fun u=>(GH w' ⟨w.heap.size+1,0,none⟩ u E (by show E≠w.heap.size+1;omega)).trans hK8;clear q0 q1 q2 q3 q4
    gi_wp2
    refine⟨by simp,.inl ⟨_,_,rfl,Gn (hS8 _),?_⟩⟩;have hOs:=hO.set (.bool q3B);have hcS:=cell_kept hOs.cell (Gj _ E (.deferred none)) (fun r e=>by cases e;exact⟨_,hS8 _,rfl⟩);refine⟨.bool q3B,?_,by rw[HNA.out,HN.out];simp,(hkw'.setCell (p:=⟨w.heap.size+1,0,none⟩) (GV _) _).trans (Rh (w:=w) Zl _ E _ _ (by omega) (hS8 _) rfl rfl)⟩;simp[results,Tryz.f26,go_sem,hcS]
   case stop=>
    rintro E c' pre W hD hpre ⟨⟨rfl,hN,hO⟩,hB⟩ hK;have hcO:=hO.cell
    gi_wp2
    refine⟨by simp,.inl ⟨_,_,rfl,Gn hK,?_⟩⟩;refine⟨.bool false,?_,by rw[HNA.out,hN];simp,hB.trans (Rh (w:=w) Zl W E _ _ (by omega) hK rfl rfl)⟩;have hc5:=cell_kept hcO (Gj _ E (.deferred none)) (fun r e=>by cases e;exact⟨_,hK,rfl⟩);simp[results,Tryz.f26,go_sem,hc5]
end
theorem XR (u:VV) (v:Vw) (L:List (ZV×Zn)) (M:List (BV×Wq.Bd)) (w:World) (hV:JU w w.heap.size u v L M):
  Calls prog 24 #[.agg (Jy v u)] w fun e w'=>e=.returned (.bool (Ut v))/\Bz w w':=by
 have G6:=fun (W:World) (hb:Bz w W) (x:Wr)=>Oi u v L M x W (hV.go hb);have G7:=fun (W:World) (hb:Bz w W) (X:OA) (xc:Nat) (x:Wq.Bd)=>Kg u v L M X xc x W (hV.go hb);obtain⟨kA,kc,zA,zc,hA,hc,bA,bc⟩:=u;obtain⟨known,zones,held,bods,room⟩:=v;obtain⟨h1,h2,h3,h4,h5,h6⟩:=hV;have hvw:Ut ⟨known,zones,held,bods,room⟩=((fm (-1) known && (zF (-1) none zones && (Xu (-1) held && caF bods room))) && (zones.all (QU known) && (held.all (Ue zones known) && bods.all (JV held)))):=rfl;have HRF:=Ja fun a b c=>JfS (zones:=zones) (known:=known) (held:=held) a b c;unfold Jy at G6 G7 ⊢;dsimp only at h1 h2 h3 h4 h5 h6 G6 G7 ⊢;rw[hvw];generalize hq1:zones.all (QU known)=q1;generalize hq2:held.all (Ue zones known)=q2 at HRF ⊢;generalize hq3:bods.all (JV held)=q3;have HQ3:=Ja hq3.symm;clear hq2 hq3;have G1:=Ja fun (W:World) (hb:Bz w W)=>Xo kA known.length kc known W rfl (h1.go hb);have G2:=Ja fun (W:World) (hb:Bz w W)=>XZ zA zones.length zc L W (h2.go hb);have G3:=Ja fun (W:World) (hb:Bz w W)=>Uy hA held.length hc held W rfl (h4.go hb);have G4:=Ja fun (W:World) (hb:Bz w W)=>Uv bA bods.length bc M room W (h5.go hb);have G5:=Ja fun (W:World) (hb:Bz w W) (A:OA) (n c:Nat) (z:List Vc.St) (hl:z.length=n) (hR:Rd W W.heap.size 2 A n c (sv z))=>JcE A kA n c known.length kc z known W hl rfl hR (h1.go hb);have HZ:=Ja fun (W:World) (hb:Bz w W) k (hk:k < L.length)=>(h2.below hb).zone hk;have HZR:=Ja fun (W:World) (hb:Bz w W) p (hp:p∈L)=>(⟨(h2.each p hp).1,(h2.each p hp).2.go hb⟩:_/\_);have HBo:=Ja fun (W:World) (hb:Bz w W) k (hk:k < M.length)=>(h5.below hb).body hk;have HLL:=Ja h2.len;have HML:=Ja h5.len;have HZE:=Ja h3;have HME:=Ja h6;rw[h3] at G2;rw[h6] at G4;have hmz:=h2.max;have hmh:held.length<=9223372036854775807:=by have h1:=h4.cap;have h2:=h4.max;unfold maxLen at h2;omega
 have hmb:=h5.max;have hb0:Bz w (w.alloc (.cells #[.slice kA known.length kc,.slice zA zones.length zc,.slice hA held.length hc,.slice bA bods.length bc,.int .i64 room] 35)):=Zr.alloc Zl _;have hX:=Jm.new w 35 #[.slice kA known.length kc,.slice zA zones.length zc,.slice hA held.length hc,.slice bA bods.length bc,.int .i64 room];generalize hf1:fm (-1) known=f1 at G1 ⊢;generalize hf2:zF (-1) none zones=f2 at G2 ⊢;generalize hf3:Xu (-1) held=f3 at G3 ⊢;generalize hf4:caF bods room=f4 at G4 ⊢;have HF1:=Ja hf1;have HF2:=Ja hf2;have HF3:=Ja hf3;have G6:=Ja G6;have G7:=Ja G7;have HQ1:=Ja hq1.symm;generalize hnk:known.length=nk at *;generalize hnz:zones.length=nz at *;generalize hnh:held.length=nh at *;generalize hnb:bods.length=nb at *;have HH:=Ja fun (W:World) (hb:Bz w W) k (hk:k < held.length)=>(h4.below hb).write hnh hk;have HLH:=Ja hnh;have HLB:=Ja hnb;clear h1 h2 h3 h4 h5 h6 hvw hf1 hf2 hf3 hf4 hq1;generalize hW0:w.alloc (.cells #[.slice kA nk kc,.slice zA nz zc,.slice hA nh hc,.slice bA nb bc,.int .i64 room] 35)=W0 at hb0 hX;have HX:=Ja fun (W:World) (hb:Bz W0 W)=>(hX.go hb).five;have HW0:=Ja hW0;have k:Bz W0 W0:=Ec _ _;have kw:Bz w W0:=hb0;obtain⟨b0,b1,b2,b3,b4⟩:=HX.out _ k;clear hX hW0 hb0 hnk hnz hnh hnb;go_enter func24,ntmps24;go_wp2_with fail;rw[HW0.out];cases f1
 ·go_wp2_with (first | (go_at_call 84;go_must (refine Jj (G1.out _ kw) k kw fun w' k kw=>?_);obtain⟨b0,b1,b2,b3,b4⟩:=HX.out _ k));go_ret;exact⟨by simp,kw⟩
 cases f2
 ·go_wp2_with (first | (go_at_call 84;go_must (refine Jj (G1.out _ kw) k kw fun w' k kw=>?_);obtain⟨b0,b1,b2,b3,b4⟩:=HX.out _ k) | (go_at_call 85;go_must (refine Jj (G2.out _ kw) k kw fun w' k kw=>?_);obtain⟨b0,b1,b2,b3,b4⟩:=HX.out _ k));go_ret;exact⟨by simp,kw⟩
 cases f3
 ·go_wp2_with (first | (go_at_call 84;go_must (refine Jj (G1.out _ kw) k kw fun w' k kw=>?_);obtain⟨b0,b1,b2,b3,b4⟩:=HX.out _ k) | (go_at_call 85;go_must (refine Jj (G2.out _ kw) k kw fun w' k kw=>?_);obtain⟨b0,b1,b2,b3,b4⟩:=HX.out _ k) | (go_at_call 86;go_must (refine Jj (G3.out _ kw) k kw fun w' k kw=>?_);obtain⟨b0,b1,b2,b3,b4⟩:=HX.out _ k));go_ret;exact⟨by simp,kw⟩
 cases f4
 ·go_wp2_with (first | (go_at_call 84;go_must (refine Jj (G1.out _ kw) k kw fun w' k kw=>?_);obtain⟨b0,b1,b2,b3,b4⟩:=HX.out _ k) | (go_at_call 85;go_must (refine Jj (G2.out _ kw) k kw fun w' k kw=>?_);obtain⟨b0,b1,b2,b3,b4⟩:=HX.out _ k) | (go_at_call 86;go_must (refine Jj (G3.out _ kw) k kw fun w' k kw=>?_);obtain⟨b0,b1,b2,b3,b4⟩:=HX.out _ k) | (go_at_call 87;go_must (refine Jj (G4.out _ kw) k kw fun w' k kw=>?_);obtain⟨b0,b1,b2,b3,b4⟩:=HX.out _ k));go_ret;exact⟨by simp,kw⟩
 go_wp2_with (first | (go_at_call 84;go_must (refine Jj (G1.out _ kw) k kw fun w' k kw=>?_);obtain⟨b0,b1,b2,b3,b4⟩:=HX.out _ k) | (go_at_call 85;go_must (refine Jj (G2.out _ kw) k kw fun w' k kw=>?_);obtain⟨b0,b1,b2,b3,b4⟩:=HX.out _ k) | (go_at_call 86;go_must (refine Jj (G3.out _ kw) k kw fun w' k kw=>?_);obtain⟨b0,b1,b2,b3,b4⟩:=HX.out _ k) | (go_at_call 87;go_must (refine Jj (G4.out _ kw) k kw fun w' k kw=>?_);obtain⟨b0,b1,b2,b3,b4⟩:=HX.out _ k));have HQ2:=Ja (HRF.out HF1.out HF2.out HF3.out).symm;go_loopw [3] (fun i wr=>∃(j:Nat),j<=nz/\i=.int .i64 j/\Bz W0 wr/\Bz w wr/\Hid (q1=(zones.drop j).all (QU known))) (fun i _=>nz - (intOf i).toNat)
 case atStart=>exact⟨0,by omega,rfl,k,kw,HQ1⟩
 case round=>
  clear k kw b0 b1 b2 b3 b4;obtain⟨j,hj,rfl,k,kw,hr⟩:=hrel;obtain⟨b0,b1,b2,b3,b4⟩:=HX.out _ k;by_cases hlt:j < nz
  ·have hjl:j < L.length:=by rw[HLL.out];exact hlt
   obtain⟨b,o,rfl,hbb,g0,g1,g2⟩:=HZ.out wr kw j hjl;have hjz:j < zones.length:=by rw[<-HZE.out,JH];exact hjl
   have hd:q1=(QU known zones[j] && (zones.drop (j+1)).all (QU known)):=hr.out.trans (JaG _ zones j hjz);have hze:zones[j]=L[j].2:=by simp only[<-HZE.out];exact XE L j hjl
   rw[hze] at hd;have hs:QU known L[j].2=decide (Oj (QL (Vc.Jz L[j].2.2) (Vc.Jz known)) (QL (Vc.Jz known) (Vc.Jz L[j].2.2))=1):=rfl;rw[hs] at hd;have hp:=HZR.out;have hmem:=En hjl;have G:=fun (W:World) (hb:Bz w W)=>G5.out W hb L[j].1.A L[j].1.n L[j].1.c L[j].2.2 (hp W hb _ hmem).1 (hp W hb _ hmem).2;generalize Oj (QL (Vc.Jz L[j].2.2) (Vc.Jz known)) (QL (Vc.Jz known) (Vc.Jz L[j].2.2))=z at G hd;have HE:=Ja fun (W:World) (hb:Bz wr W)=>(YI (HZ.out W (Jg kw hb) j hjl));generalize L[j].2.1.1=y0 at g0 HE;generalize L[j].2.1.2=y1 at g1 HE;generalize L[j].1.A=y2 at g2 G HE;generalize L[j].1.n=y3 at g2 G HE;generalize L[j].1.c=y4 at g2 G HE;have G:=Ja G;have HD:=Ja hd;have hkr:=k;have HKR:=Ja hkr;have HS:=Ja fun (W:World) (hb:Bz wr W)=>(⟨HX.out W (Jg HKR.out hb),HE.out W hb⟩:_/\_);clear hr hd hs hze hp hmem hkr HE hbb hjz hjl;by_cases hz:z=1
   ·have HN:=Ja (show q1=(zones.drop (j+1)).all (QU known) by rw[HD.out,Eu hz,Fb]);subst hz;have k:Bz W0 wr.drew:=k.drew;have kw:Bz w wr.drew:=kw.drew;have kk:Bz wr wr.drew:=(Ec _ wr).drew;go_wp2;clear b0 b1 b2 b3 b4;refine Jl fun KK hKK=>?_;refine Eg (S:=(fun W=>(W.cell? ⟨w.heap.size,0,none⟩=some (.slice kA nk kc)/\W.cell? ⟨w.heap.size,1,none⟩=some (.slice (some ⟨b,o,none⟩) nz zc)/\W.cell? ⟨w.heap.size,2,none⟩=some (.slice hA nh hc)/\W.cell? ⟨w.heap.size,3,none⟩=some (.slice bA nb bc)/\W.cell? ⟨w.heap.size,4,none⟩=some (.int .i64 room))/\W.cell? ⟨b,o+j * 3,none⟩=some (.int .i64 y0)/\W.cell? ⟨b,o+j * 3+1,none⟩=some (.int .i64 y1)/\W.cell? ⟨b,o+j * 3+2,none⟩=some (.slice y2 y3 y4))) (by kernel_rfl) (by first | exact HS.out _ kk) (fun hHeld=>?_);refine Jc 0 37 1 38 (HS.out _ kk) ?_;refine Jc 2 39 3 40 (HS.out _ kk) ?_;refine Jc 4 41 5 42 (HS.out _ kk) ?_;refine Jc 6 43 7 44 (HS.out _ kk) ?_;refine Qa 8 fun K hK=>?_;go_simp;refine Jd (G.out _ kw) fun w' hb'=>?_;have k:=Jg k hb';have kw:=Jg kw hb';have kk:=Jg kk hb';clear hb';refine hK.out _ _ (HS.out _ kk) fun hHeld=>?_;clear hK K;refine Qx 9 46 (HS.out _ kk) ?_;refine Es (by kernel_rfl) ?_ _;refine QQ.out (hKK _ _ ?_);go_wp2;go_roundw
    case rel=>exact⟨j+1,by omega,by go_num,k,kw,HN⟩
    case measure=>simp[intOf];omega
   ·have HN:=Ja (show q1=false by rw[HD.out,Ew hz,FZ]);have hz2:(z == 1)=false:=by simpa using hz
    have k:Bz W0 wr.drew:=k.drew;have kw:Bz w wr.drew:=kw.drew;have kk:Bz wr wr.drew:=(Ec _ wr).drew;go_wp2;clear b0 b1 b2 b3 b4;refine Jl fun KK hKK=>?_;refine Eg (S:=(fun W=>(W.cell? ⟨w.heap.size,0,none⟩=some (.slice kA nk kc)/\W.cell? ⟨w.heap.size,1,none⟩=some (.slice (some ⟨b,o,none⟩) nz zc)/\W.cell? ⟨w.heap.size,2,none⟩=some (.slice hA nh hc)/\W.cell? ⟨w.heap.size,3,none⟩=some (.slice bA nb bc)/\W.cell? ⟨w.heap.size,4,none⟩=some (.int .i64 room))/\W.cell? ⟨b,o+j * 3,none⟩=some (.int .i64 y0)/\W.cell? ⟨b,o+j * 3+1,none⟩=some (.int .i64 y1)/\W.cell? ⟨b,o+j * 3+2,none⟩=some (.slice y2 y3 y4))) (by kernel_rfl) (by first | exact HS.out _ kk) (fun hHeld=>?_);refine Jc 0 37 1 38 (HS.out _ kk) ?_;refine Jc 2 39 3 40 (HS.out _ kk) ?_;refine Jc 4 41 5 42 (HS.out _ kk) ?_;refine Jc 6 43 7 44 (HS.out _ kk) ?_;refine Qa 8 fun K hK=>?_;go_simp;refine Jd (G.out _ kw) fun w' hb'=>?_;have k:=Jg k hb';have kw:=Jg kw hb';have kk:=Jg kk hb';clear hb';refine hK.out _ _ (HS.out _ kk) fun hHeld=>?_;clear hK K;refine Qx 9 46 (HS.out _ kk) ?_;refine Es (by kernel_rfl) ?_ _;refine QQ.out (hKK _ _ ?_);go_wp2;go_ret;exact⟨by rw[HN.out];simp,kw⟩
  ·obtain rfl:nz=j:=by omega
   have HNA:=Ja (show q1=true by rw[hr.out,Ed (by rw[<-HZE.out,JH,HLL.out];exact Ek _)];rfl);clear hr;go_wp2;go_loopw [4] (fun i wr=>∃(j:Nat),j<=nh/\i=.int .i64 j/\Bz W0 wr/\Bz w wr/\Hid (q2=(held.drop j).all fun x=>QD (JQ zones known x.2.1) x.1)) (fun i _=>nh - (intOf i).toNat)
   case atStart=>exact⟨0,by omega,rfl,k,kw,HQ2⟩
   case round=>
    clear k kw b0 b1 b2 b3 b4;obtain⟨j,hj,rfl,k,kw,hr⟩:=hrel;obtain⟨b0,b1,b2,b3,b4⟩:=HX.out _ k;by_cases hlt:j < nh
    ·have hjl:j < held.length:=by rw[HLH.out];exact hlt
     obtain⟨b,o,rfl,hbb,g0,g1,g2,g3⟩:=HH.out wr kw j hjl;have hd:=hr.out.trans (JaG _ held j hjl);have G:=fun (W:World) (hb:Bz w W)=>G6.out W hb held[j];generalize QD (JQ zones known held[j].2.1) held[j].1=z at G hd;have HE:=Ja fun (W:World) (hb:Bz wr W)=>(YI (HH.out W (Jg kw hb) j hjl));generalize held[j].1.1=y0 at g0 G HE;generalize held[j].1.2=y1 at g1 G HE;generalize held[j].2.1=y2 at g2 G HE;generalize held[j].2.2=y3 at g3 G HE;have G:=Ja G;have HD:=Ja hd;have hkr:=k;have HKR:=Ja hkr;have HS:=Ja fun (W:World) (hb:Bz wr W)=>(⟨HX.out W (Jg HKR.out hb),HE.out W hb⟩:_/\_);clear hr hd hkr HE hbb hjl;cases z
     ·have HN:=Ja (show q2=false by rw[HD.out,FZ]);have k:Bz W0 wr.drew:=k.drew;have kw:Bz w wr.drew:=kw.drew;have kk:Bz wr wr.drew:=(Ec _ wr).drew;go_wp2;clear b0 b1 b2 b3 b4;refine Jl fun KK hKK=>?_;refine Eg (S:=(fun W=>(W.cell? ⟨w.heap.size,0,none⟩=some (.slice kA nk kc)/\W.cell? ⟨w.heap.size,1,none⟩=some (.slice zA nz zc)/\W.cell? ⟨w.heap.size,2,none⟩=some (.slice (some ⟨b,o,none⟩) nh hc)/\W.cell? ⟨w.heap.size,3,none⟩=some (.slice bA nb bc)/\W.cell? ⟨w.heap.size,4,none⟩=some (.int .i64 room))/\W.cell? ⟨b,o+j * 4,none⟩=some (.int .i64 y0)/\W.cell? ⟨b,o+j * 4+1,none⟩=some (.int .i64 y1)/\W.cell? ⟨b,o+j * 4+2,none⟩=some (.int .i64 y2)/\W.cell? ⟨b,o+j * 4+3,none⟩=some (.bool y3))) (by kernel_rfl) (by first | exact HS.out _ kk) (fun hHeld=>?_);refine Jc 0 54 1 55 (HS.out _ kk) ?_;refine Jc 2 56 3 57 (HS.out _ kk) ?_;refine Jc 4 58 5 59 (HS.out _ kk) ?_;refine Qa 6 fun K hK=>?_;go_simp;refine Jd (G.out _ kw) fun w' hb'=>?_;have k:=Jg k hb';have kw:=Jg kw hb';have kk:=Jg kk hb';clear hb';refine hK.out _ _ (HS.out _ kk) fun hHeld=>?_;clear hK K;refine Qx 7 61 (HS.out _ kk) ?_;refine Es (by kernel_rfl) ?_ _;refine QQ.out (hKK _ _ ?_);go_wp2;go_ret;exact⟨by rw[HN.out];simp,kw⟩
     ·have HN:=Ja (show q2=(held.drop (j+1)).all fun x=>QD (JQ zones known x.2.1) x.1 by rw[HD.out,Fb]);have k:Bz W0 wr.drew:=k.drew;have kw:Bz w wr.drew:=kw.drew;have kk:Bz wr wr.drew:=(Ec _ wr).drew;go_wp2;clear b0 b1 b2 b3 b4;refine Jl fun KK hKK=>?_;refine Eg (S:=(fun W=>(W.cell? ⟨w.heap.size,0,none⟩=some (.slice kA nk kc)/\W.cell? ⟨w.heap.size,1,none⟩=some (.slice zA nz zc)/\W.cell? ⟨w.heap.size,2,none⟩=some (.slice (some ⟨b,o,none⟩) nh hc)/\W.cell? ⟨w.heap.size,3,none⟩=some (.slice bA nb bc)/\W.cell? ⟨w.heap.size,4,none⟩=some (.int .i64 room))/\W.cell? ⟨b,o+j * 4,none⟩=some (.int .i64 y0)/\W.cell? ⟨b,o+j * 4+1,none⟩=some (.int .i64 y1)/\W.cell? ⟨b,o+j * 4+2,none⟩=some (.int .i64 y2)/\W.cell? ⟨b,o+j * 4+3,none⟩=some (.bool y3))) (by kernel_rfl) (by first | exact HS.out _ kk) (fun hHeld=>?_);refine Jc 0 54 1 55 (HS.out _ kk) ?_;refine Jc 2 56 3 57 (HS.out _ kk) ?_;refine Jc 4 58 5 59 (HS.out _ kk) ?_;refine Qa 6 fun K hK=>?_;go_simp;refine Jd (G.out _ kw) fun w' hb'=>?_;have k:=Jg k hb';have kw:=Jg kw hb';have kk:=Jg kk hb';clear hb';refine hK.out _ _ (HS.out _ kk) fun hHeld=>?_;clear hK K;refine Qx 7 61 (HS.out _ kk) ?_;refine Es (by kernel_rfl) ?_ _;refine QQ.out (hKK _ _ ?_);go_wp2;go_roundw
      case rel=>exact⟨j+1,by omega,by go_num,k,kw,HN⟩
      case measure=>simp[intOf];omega
    ·obtain rfl:nh=j:=by omega
     have HNB:=Ja (show q2=true by rw[hr.out,Ed (by rw[HLH.out];exact Ek _)];rfl);clear hr;go_wp2;go_loopw [5] (fun i wr=>∃(j:Nat),j<=nb/\i=.int .i64 j/\Bz W0 wr/\Bz w wr/\Hid (q3=(bods.drop j).all (JV held))) (fun i _=>nb - (intOf i).toNat)
     case atStart=>exact⟨0,by omega,rfl,k,kw,HQ3⟩
     case round=>
      clear k kw b0 b1 b2 b3 b4;obtain⟨j,hj,rfl,k,kw,hr⟩:=hrel;obtain⟨b0,b1,b2,b3,b4⟩:=HX.out _ k;by_cases hlt:j < nb
      ·have hjl:j < M.length:=by rw[HML.out];exact hlt
       obtain⟨b,o,rfl,hbb,g0,g1,g2,g3⟩:=HBo.out wr kw j hjl;have hjb:j < bods.length:=by rw[HLB.out];exact hlt
       have hd:=hr.out.trans (JaG _ bods j hjb);have hbe:bods[j]=M[j].2:=by simp only[<-HME.out];exact Xr M j hjl
       rw[hbe] at hd;have G:=fun (W:World) (hb:Bz w W)=>G7.out W hb M[j].1.A M[j].1.c M[j].2;unfold JO at G;generalize JV held M[j].2=z at G hd;have HE:=Ja fun (W:World) (hb:Bz wr W)=>(YI (HBo.out W (Jg kw hb) j hjl));generalize M[j].2.o=y0 at g0 G HE;generalize M[j].2.s.1=y1 at g1 G HE;generalize M[j].2.s.2=y2 at g2 G HE;generalize M[j].1.A=y3 at g3 G HE;generalize M[j].2.v.length=y4 at g3 G HE;generalize M[j].1.c=y5 at g3 G HE;have G:=Ja G;have HD:=Ja hd;have hkr:=k;have HKR:=Ja hkr;have HS:=Ja fun (W:World) (hb:Bz wr W)=>(⟨HX.out W (Jg HKR.out hb),HE.out W hb⟩:_/\_);clear hr hd hkr HE hbb hbe hjb hjl;cases z
       ·have HN:=Ja (show q3=false by rw[HD.out,FZ]);have k:Bz W0 wr.drew:=k.drew;have kw:Bz w wr.drew:=kw.drew;have kk:Bz wr wr.drew:=(Ec _ wr).drew;go_wp2;clear b0 b1 b2 b3 b4;refine Jl fun KK hKK=>?_;refine Eg (S:=(fun W=>(W.cell? ⟨w.heap.size,0,none⟩=some (.slice kA nk kc)/\W.cell? ⟨w.heap.size,1,none⟩=some (.slice zA nz zc)/\W.cell? ⟨w.heap.size,2,none⟩=some (.slice hA nh hc)/\W.cell? ⟨w.heap.size,3,none⟩=some (.slice (some ⟨b,o,none⟩) nb bc)/\W.cell? ⟨w.heap.size,4,none⟩=some (.int .i64 room))/\W.cell? ⟨b,o+j * 4,none⟩=some (.int .i64 y0)/\W.cell? ⟨b,o+j * 4+1,none⟩=some (.int .i64 y1)/\W.cell? ⟨b,o+j * 4+2,none⟩=some (.int .i64 y2)/\W.cell? ⟨b,o+j * 4+3,none⟩=some (.slice y3 y4 y5))) (by kernel_rfl) (by first | exact HS.out _ kk) (fun hHeld=>?_);refine Jc 0 69 1 70 (HS.out _ kk) ?_;refine Jc 2 71 3 72 (HS.out _ kk) ?_;refine Jc 4 73 5 74 (HS.out _ kk) ?_;refine Qa 6 fun K hK=>?_;go_simp;refine Jd (G.out _ kw) fun w' hb'=>?_;have k:=Jg k hb';have kw:=Jg kw hb';have kk:=Jg kk hb';clear hb';refine hK.out _ _ (HS.out _ kk) fun hHeld=>?_;clear hK K;refine Qx 7 76 (HS.out _ kk) ?_;refine Es (by kernel_rfl) ?_ _;refine QQ.out (hKK _ _ ?_);go_wp2;go_ret;exact⟨by rw[HN.out];simp,kw⟩
       ·have HN:=Ja (show q3=(bods.drop (j+1)).all (JV held) by rw[HD.out,Fb]);have k:Bz W0 wr.drew:=k.drew;have kw:Bz w wr.drew:=kw.drew;have kk:Bz wr wr.drew:=(Ec _ wr).drew;go_wp2;clear b0 b1 b2 b3 b4;refine Jl fun KK hKK=>?_;refine Eg (S:=(fun W=>(W.cell? ⟨w.heap.size,0,none⟩=some (.slice kA nk kc)/\W.cell? ⟨w.heap.size,1,none⟩=some (.slice zA nz zc)/\W.cell? ⟨w.heap.size,2,none⟩=some (.slice hA nh hc)/\W.cell? ⟨w.heap.size,3,none⟩=some (.slice (some ⟨b,o,none⟩) nb bc)/\W.cell? ⟨w.heap.size,4,none⟩=some (.int .i64 room))/\W.cell? ⟨b,o+j * 4,none⟩=some (.int .i64 y0)/\W.cell? ⟨b,o+j * 4+1,none⟩=some (.int .i64 y1)/\W.cell? ⟨b,o+j * 4+2,none⟩=some (.int .i64 y2)/\W.cell? ⟨b,o+j * 4+3,none⟩=some (.slice y3 y4 y5))) (by kernel_rfl) (by first | exact HS.out _ kk) (fun hHeld=>?_);refine Jc 0 69 1 70 (HS.out _ kk) ?_;refine Jc 2 71 3 72 (HS.out _ kk) ?_;refine Jc 4 73 5 74 (HS.out _ kk) ?_;refine Qa 6 fun K hK=>?_;go_simp;refine Jd (G.out _ kw) fun w' hb'=>?_;have k:=Jg k hb';have kw:=Jg kw hb';have kk:=Jg kk hb';clear hb';refine hK.out _ _ (HS.out _ kk) fun hHeld=>?_;clear hK K;refine Qx 7 76 (HS.out _ kk) ?_;refine Es (by kernel_rfl) ?_ _;refine QQ.out (hKK _ _ ?_);go_wp2;go_roundw
        case rel=>exact⟨j+1,by omega,by go_num,k,kw,HN⟩
        case measure=>simp[intOf];omega
      ·obtain rfl:nb=j:=by omega
       have HN:=Ja (show q3=true by rw[hr.out,Ed (by rw[HLB.out];exact Ek _)];rfl);clear hr;go_wp2;go_ret;exact⟨by rw[HN.out,HNA.out,HNB.out];rfl,kw⟩
end Go.Proofs.YtmbeahbgafkjfaaGreatDoor
