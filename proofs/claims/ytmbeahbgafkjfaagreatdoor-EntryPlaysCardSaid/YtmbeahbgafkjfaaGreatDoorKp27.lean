/- Lemmas, layer 27. -/
import Derived.Lib.Overlaps
import Derived.Test.YtmbeahbgafkjfaaGreatDoorKp26
set_option linter.unusedSimpArgs false
set_option maxRecDepth 100000
set_option maxHeartbeats 16000000
namespace Go.Proofs.YtmbeahbgafkjfaaGreatDoor
open Go.Proofs.Tryz Go.RowKit
section
theorem Jj3 {w w':World} {c:Array Value} {t:TypeId} (hg:(w.alloc (.cells c t)).grownBy w' (some w.heap.size)):Bz w w':=
 (Zr.alloc Zl _).trans (Jb hg (by simp) (fun k hk=>by injection hk with hk;omega))
theorem JY.butN {w w':World} {X base k c:Nat} {A:OA} {S:List (SV×Sb)} {cs:Array Value} (h:JY w base A k c S) (hB:Jm w X 65 cs) (hu:JF X w w') (hne:(Value.slice A k c).ownBlock≠some X):JY w' base A k c S:=
 ⟨Jgn h.row hu hne,fun p hp=>Kp.blk hB hu _ _ _ _ _ _ (by decide) (h.el p hp)⟩
theorem Jan (A:OA) (n c:Nat) (L:List (SV×Sb)) (w:World) (hR:QM w w.heap.size A n c L) (hn:n<=2513169434843) (hz:∀p∈L,p.2.int.length<=8796093022208):
  Calls prog 19 #[.slice A n c] w fun e w'=>∃A' c' M,e=.returned (.slice A' n c')/\JY w' w.heap.size A' n c' M/\JK M=JK L/\Bz w w':=by
 obtain⟨i0,hi0,hz0,hz1,hz2⟩:=EN Yk;have h1max:1<=maxLen:=by unfold maxLen;omega
 have hi:(prog.info? 65).map (·.size)=some 7:=by kernel_rfl
 have HI:=Ja hi;have hmax:=hR.max;have HL:=Ja hR.len;have HR:=Ja hR;have HZ:=Ja hz;clear hR hz hi;go_enter func19,ntmps19;go_wp2;go_loopw [3,4,5] (fun v3 v4 _ wr=>∃(j c':Nat) (A':OA),v4=.int .i64 j/\v3=.slice A' j c'/\j<=n/\Bz w wr/\Hid (∃M,JY wr w.heap.size A' j c' M/\JK M=(JK L).take j)) (fun _ v4 _ _=>n - (intOf v4).toNat)
 case atStart=>exact⟨0,0,none,rfl,rfl,by omega,Ec _ _,Ja ⟨[],JY.nil _ _,rfl⟩⟩
 case round=>
  obtain⟨j,c',A',rfl,rfl,hj,hb,hq⟩:=hrel;obtain⟨M,hM,hMz⟩:=hq.out;have HO:=Ja hM;have HMZ:=Ja hMz;clear hq hM hMz;by_cases hlt:j < n
  ·have hjl:j < L.length:=by rw[HL.out];exact hlt
   have hjb:j < (JK L).length:=by rw[JX];exact hjl
   obtain⟨b,oo,rfl,hab,g0,g1,g2,g3,g4,g5,g6⟩:=(HR.out.below hb).sub hjl;have hre:=HR.out.each _ (En hjl);have hze:=HZ.out _ (En hjl);have hnx:=Eq hjb;rw[KY L j hjl] at hnx;generalize L[j]=q at g0 g1 g2 g3 g4 g5 g6 hre hze hnx;obtain⟨⟨Av,cv⟩,⟨fr,it,s1,s2,l1,l2,l3⟩⟩:=q;dsimp only at g0 g1 g2 g3 g4 g5 g6 hre hze hnx;have G:=fun (V:World) (hv:Bz w V)=>JdR Av it.length cv (sv it) V (hre.go hv) (Ju _) hze;have HN0:=Ja hnx;obtain⟨m,hm⟩:∃m,m=it.length:=⟨_,rfl⟩;rw[<-hm] at G g1;have HM:=Ja hm;have G:=Ja G;have h63:j+1<=maxLen:=by unfold maxLen;omega
   clear hre hze hnx hjl hjb hm;go_wp2_with (refine Je rfl 65 _ _ rfl wr.heap.size 65 _ #[.int .i64 fr,.slice Av m cv,.int .i64 s1,.int .i64 s2,.bool l1,.bool l2,.bool l3] rfl rfl (Jm.new wr 65 _) HI.out rfl (by simp[Value.oneCell']) ?_;intro v4 HP4 hg4;have hk4:=Jj3 hg4;clear hg4;obtain⟨x0,x1,x2,x3,x4,x5,x6⟩:=(show v4.cell? ⟨wr.heap.size,0,none⟩=some (.int .i64 fr)/\v4.cell? ⟨wr.heap.size,1,none⟩=some (.slice Av m cv)/\v4.cell? ⟨wr.heap.size,2,none⟩=some (.int .i64 s1)/\v4.cell? ⟨wr.heap.size,3,none⟩=some (.int .i64 s2)/\v4.cell? ⟨wr.heap.size,4,none⟩=some (.bool l1)/\v4.cell? ⟨wr.heap.size,5,none⟩=some (.bool l2)/\v4.cell? ⟨wr.heap.size,6,none⟩=some (.bool l3) from ⟨HP4.cell 0,HP4.cell 1,HP4.cell 2,HP4.cell 3,HP4.cell 4,HP4.cell 5,HP4.cell 6⟩));have kk:=Jg hb hk4;refine(G.out _ kk).mono ?_;rintro e w6 ⟨D,d,rfl,ho,hb6⟩;have HP:=HP4.go hb6;have c1:=HP.cell 1;have f1:=HP.frozen 1;have HNB:=Ja (show (Value.slice A' j c').ownBlock≠some wr.heap.size from fun h=>Nat.lt_irrefl _ (HO.out.row.lt _ h).2);have HO:=Ja ((HO.out.below hk4).below hb6);have CV:=Ja (Jk ho (show wr.heap.size+1<=_ from HP4.lt));have kk:=Jg kk hb6;clear ho hb6 x0 x1 x2 x3 x4 x5 x6 g0 g1 g2 g3 g4 g5 g6 hk4;go_upto_region 7 with fail;have hu:JF wr.heap.size w6 (w6.setCell ⟨wr.heap.size,1,none⟩ (.slice D m d)):=JF.set_ w6 (p:=⟨wr.heap.size,1,none⟩) rfl _;have hx:Jm (w6.setCell ⟨wr.heap.size,1,none⟩ (.slice D m d)) wr.heap.size 65 #[.int .i64 fr,.slice D m d,.int .i64 s1,.int .i64 s2,.bool l1,.bool l2,.bool l3]:=HP.set_ 1 _;have kk:Bz w (w6.setCell ⟨wr.heap.size,1,none⟩ (.slice D m d)):=kk.setCell (p:=⟨wr.heap.size,1,none⟩) hb.size _;have CV:=Ja (Qf CV.out hu (Nat.lt_succ_self _));have HO:=Ja (HO.out.butN HP hu HNB.out);generalize w6.setCell ⟨wr.heap.size,1,none⟩ (.slice D m d)=w7 at hx kk CV HO ⊢;have HX:=Ja hx;have ka:=Ji kk (.cells #[.int .i64 fr,.slice D m d,.int .i64 s1,.int .i64 s2,.bool l1,.bool l2,.bool l3] 65);have CZ:=Ja (HO.out.below ka);have CV:=Ja (Jk (Jf CV.out ka Zl) (show w.heap.size<=wr.heap.size+1 from by have:=hb.size;omega));have HRN:=Ja (Rd.new w7 65 7 1 #[.int .i64 fr,.slice D m d,.int .i64 s1,.int .i64 s2,.bool l1,.bool l2,.bool l3] rfl h1max);have kz:=Jg kk ka;have hsz:=kz.size;clear hx ka HO hu HP HP4 c1 f1;go_wp2_with (first | (refine FA rfl 65 _ rfl wr.heap.size rfl 65 _ _ _ HX.out underlying65 rfl HI.out ?_) | (at_builtin;go_must (refine Jh _ rfl (.tmp 20) (.tmp 22) _ rfl w.heap.size 65 i0 _ 7 56 underlying36 hi0 hz0 hz1 hz2 rfl (by decide) (.slice A' j c') j _ rfl CZ.out.row _ (some ⟨_,0,none⟩) 1 1 _ rfl HRN.out (by simp[Value.oneCell']) h63 (by omega) (by omega) ?_);intro A3 c3 W3 ho3 hg3 hat3));have CP:=Ja (JY.push (p:=(⟨D,d⟩,⟨fr,it,s1,s2,l1,l2,l3⟩)) CZ.out (by rw[<-HM.out];exact CV.out) hg3 (by rw[HM.out] at ho3;exact ho3));have kz:=Ja (kz.trans (Jb hg3 kz.size (fun g hg'=>JM CZ.out.row g hg')));clear hg3 ho3 hat3;go_wp2_with fail;go_roundw
   case rel=>exact⟨j+1,c3,A3,by go_num,rfl,by omega,kz.out,Ja ⟨M++[(⟨D,d⟩,⟨fr,it,s1,s2,l1,l2,l3⟩)],CP.out,by rw[Uo,HMZ.out,HN0.out];rfl⟩⟩
   case measure=>simp[intOf];omega
  ·obtain rfl:j=n:=by omega
   have HN:=Ja (show (JK L).take j=JK L from Eo (by rw[JX,HL.out];exact Ek _));go_wp2;go_ret;exact⟨A',c',M,rfl,HO.out,by rw[HMZ.out,HN.out],hb⟩
def XQ (f:Int) (i:List Sn.Sp):Sb:=⟨f,i,0,0,false,false,false⟩
def ZP (f:Int) (i:List Sn.Sp):Bool->List Sb->List Sb
 | put,[]=>if put=true then [] else [XQ f i]
 | put,s :: r=>(if put=false/\f<=s.from_ then [XQ f i] else [])++((if s.from_=f then [] else [s])++ZP f i (put || decide (f<=s.from_)) r)
theorem Jkg (f:Int) (i:List Sn.Sp) (put:Bool) (l:List Sb) (k:Nat) (h:k < l.length):ZP f i put (l.drop k)=(if put=false/\f<=l[k].from_ then [XQ f i] else [])++((if l[k].from_=f then [] else [l[k]])++ZP f i (put || decide (f<=l[k].from_)) (l.drop (k+1))):=by
 rw[Eh h,ZP]
theorem Jl1 (f:Int) (i:List Sn.Sp) (put:Bool) (l:List Sb) (k:Nat) (h:l.length<=k):ZP f i put (l.drop k)=if put=true then [] else [XQ f i]:=by
 rw[Ed h,ZP]
def Ka (l:List Sb) (f:Int) (i:List Sn.Sp):List Sb:=ZP f i i.isEmpty l
theorem Jfa {f:Int} {i:List Sn.Sp}:∀{l:List Sb},(∀s∈l,f < s.from_)->ZP f i true l=l
 | [],_=>rfl
 | s :: r,h=>by
  have:=h s (EW ..);rw[ZP,Ef (by simp),Ef (by omega),Bool.true_or,Jfa fun x hx=>h x (ER _ hx)];rfl
theorem JnQ {f:Int} {i:List Sn.Sp} (put:Bool) {l:List Sb} (h:∀s∈l,f < s.from_):ZP f i put l=(if put=true then [] else [XQ f i])++l:=by
 cases put
 ·rcases l with _ | ⟨s,r⟩
  ·rfl
  ·have:=h s (EW ..);rw[ZP,Ei ⟨rfl,by omega⟩,Ef (by omega),Eu (by omega),Rt,Jfa fun x hx=>h x (ER _ hx)];rfl
 ·rw[Jfa h];rfl
theorem Ji7 {f:Int} {i:List Sn.Sp} (put:Bool):∀{l:List Sb} {k:Nat},(∀t (ht:t < l.length),t < k->l[t].from_ < f)->(∀t (ht:t < l.length),k<=t->f < l[t].from_) ->
  ZP f i put l=l.take k++((if put=true then [] else [XQ f i])++l.drop k)
 | l,0,_,h2=>by
  rw[List.take_zero,Rk,List.nil_append];refine JnQ put fun s hs=>?_;obtain⟨t,ht,rfl⟩:=Fv.1 hs;exact h2 t ht (FB _)
 | [],k+1,_,_=>by simp[ZP]
 | s :: r,k+1,h1,h2=>by
  have h0:=h1 0 (by simp) (by omega);simp only[List.getElem_cons_zero] at h0;rw[ZP,Ef (by omega),Ef (by omega),Ew (by omega),FN,Ji7 put (k:=k) (fun t ht hk=>h1 (t+1) (by simp;omega) (by omega)) (fun t ht hk=>h2 (t+1) (by simp;omega) (by omega))];simp
theorem Jiv {f:Int} {i:List Sn.Sp} (put:Bool):∀{l:List Sb} {k:Nat} (hk:k < l.length),(∀t (ht:t < l.length),t < k->l[t].from_ < f)->l[k].from_=f->(∀t (ht:t < l.length),k < t->f < l[t].from_) ->
  ZP f i put l=l.take k++((if put=true then [] else [XQ f i])++l.drop (k+1))
 | [],k,hk,_,_,_=>by simp at hk
 | s :: r,0,_,_,h0,h2=>by
  simp only[List.getElem_cons_zero] at h0;have hr:∀x∈r,f < x.from_:=fun x hx=>by
   obtain⟨t,ht,rfl⟩:=Fv.1 hx;exact h2 (t+1) (by simp;omega) (by omega)
  rw[ZP,Ei h0,Eu (by omega),Rt,Jfa hr];cases put
  ·rw[Ei ⟨rfl,by omega⟩];simp
  ·rw[Ef (by simp)];simp
 | s :: r,k+1,hk,h1,h0,h2=>by
  have hs:=h1 0 (by simp) (by omega);simp only[List.getElem_cons_zero] at hs;simp only[List.getElem_cons_succ] at h0;rw[ZP,Ef (by omega),Ef (by omega),Ew (by omega),FN,Jiv put (k:=k) (by simpa using hk) (fun t ht hk=>h1 (t+1) (by simp;omega) (by omega)) h0 (fun t ht hk=>h2 (t+1) (by simp;omega) (by omega))];simp
theorem JgI:∀(last:Int) (l:List Sb),QS last l=true↔(∀s∈l,sbF last s=true)/\l.Pairwise fun a b=>a.from_ < b.from_
 | last,[]=>by simp[QS]
 | last,s :: r=>by
  rw[QS,Ea,JgI s.from_ r,Fp,List.forall_mem_cons];unfold sbF;simp only[Ea,Ej];constructor
  ·rintro⟨h1,h2,h3⟩;exact⟨⟨h1,fun x hx=>by have:=h2 x hx;exact⟨⟨by omega,this.1.2⟩,this.2⟩⟩,fun x hx=>(h2 x hx).1.1,h3⟩
  ·rintro⟨⟨h1,h2⟩,h3,h4⟩;exact⟨h1,fun x hx=>⟨⟨h3 x hx,(h2 x hx).1.2⟩,(h2 x hx).2⟩,h4⟩
section
variable {base G n c size:Nat} {e:TypeId}
theorem Jno (xs vs:List Value) (o:Nat) (v:Value) (hl:o+(vs.length+1)<=xs.length):(xs.set o v).take (o+1)++vs++(xs.set o v).drop (o+1+vs.length)=xs.take o++(v :: vs)++xs.drop (o+(v :: vs).length):=by
 have h1:(xs.set o v).take (o+1)=xs.take o++[v]:=by
  rw[NR,List.getElem?_set_self (by omega),List.take_set_of_le Zl];rfl
 have h2:(xs.set o v).drop (o+1+vs.length)=xs.drop (o+(v :: vs).length):=by
  rw[List.drop_set_of_lt (by omega),List.length_cons,show o+1+vs.length=o+(vs.length+1) by omega]
 rw[h1,h2];simp
theorem XD:∀(vs:List Value) (o:Nat) (w:World) (xs:List Value),w.ownsRow base e size (.slice (some ⟨G,0,none⟩) n c) n xs->o+vs.length<=xs.length ->
  (w.setCells G o vs).ownsRow base e size (.slice (some ⟨G,0,none⟩) n c) n (xs.take o++vs++xs.drop (o+vs.length))/\w.grownBy (w.setCells G o vs) (some G)
 | [],o,w,xs,h,_=>⟨by simpa[World.setCells] using h,Nj _ _⟩
 | v :: vs,o,w,xs,h,hl=>by
  have s:=h.stored o v;rw[List.length_cons] at hl;obtain⟨h1,h2⟩:=XD vs (o+1) _ (xs.set o v) s.1 (by rw[Gk];omega);rw[Jno xs vs o v hl] at h1;exact⟨h1,s.2.trans h2⟩
theorem Jc3:∀(vs:List Value) (o:Nat) (w:World) (xs:List Value),w.ownsRow base e size (.slice (some ⟨G,0,none⟩) n c) n xs->xs.length<=o ->
  (w.setCells G o vs).ownsRow base e size (.slice (some ⟨G,0,none⟩) n c) n xs/\w.grownBy (w.setCells G o vs) (some G)
 | [],_,w,_,h,_=>⟨h,Nj _ _⟩
 | v :: vs,o,w,xs,h,ho=>by
  have s:=h.stored o v;rw[List.set_eq_of_length_le ho] at s;obtain⟨h1,h2⟩:=Jc3 vs (o+1) _ xs s.1 (by omega);exact⟨h1,s.2.trans h2⟩
theorem Jfs {w:World} {xs:List Value} (h:w.ownsRow base e size (.slice (some ⟨G,0,none⟩) n c) n xs) {m:Nat} (hm:m<=n):w.ownsRow base e size (.slice (some ⟨G,0,none⟩) m c) m (xs.take (m * size)):=by
 obtain⟨hlen,h | ⟨g,cap,cur,hv,hb,hg,hnc,hcm,hcs,hx⟩⟩:=h
 ·exact absurd h.1 (by simp)
 ·injection hv with hv1 _ hv3;injection hv1 with hv1;injection hv1 with hv1;subst hv1 hv3;have hms:m * size<=n * size:=Ff _ hm;refine⟨by rw[Et,hlen];omega,.inr ⟨G,c,cur,rfl,hb,hg,by omega,hcm,hcs,?_⟩⟩;rw[<-hx,GE,FK hms]
theorem Jgr {w:World} {xs:List Value} (h:w.ownsRow base e size (.slice (some ⟨G,0,none⟩) n c) n xs) (hn:n < c):∃ys,ys.length=size/\w.ownsRow base e size (.slice (some ⟨G,0,none⟩) (n+1) c) (n+1) (xs++ys):=by
 obtain⟨hlen,h | ⟨g,cap,cur,hv,hb,hg,hnc,hcm,hcs,hx⟩⟩:=h
 ·exact absurd h.1 (by simp)
 ·injection hv with hv1 _ hv3;injection hv1 with hv1;injection hv1 with hv1;subst hv1 hv3;have h1:(n+1) * size<=c * size:=Ff _ hn;rw[Gq,Rn] at h1;have hl:((cur.toList.drop (n * size)).take size).length=size:=by
   rw[Et,EP,Array.length_toList,hcs];omega
  refine⟨(cur.toList.drop (n * size)).take size,hl,by rw[Eb,hl,hlen,Gq,Rn],.inr ⟨G,c,cur,rfl,hb,hg,hn,hcm,hcs,?_⟩⟩;rw[Gq,Rn,List.take_add,hx]
theorem Jjl (w:World) (cs:Array Value) (base:Nat) (hb:base<=w.heap.size) (xs:List Value) (hx:cs.toList.take (n * size)=xs) (hn:n<=c) (hc:c<=maxLen) (hs:cs.size=c * size):
  (w.alloc (.cells cs e)).ownsRow base e size (.slice (some ⟨w.heap.size,0,none⟩) n c) n xs:=by
 have h1:n * size<=c * size:=Ff _ hn;exact⟨by rw[<-hx,Et,Array.length_toList,hs];omega,.inr ⟨w.heap.size,c,cs,rfl,hb,Nb w _,hn,hc,hs,hx⟩⟩
theorem XP {w:World} {xs:List Value} {A:OA} (h:w.ownsRow base e size (.slice A n c) n xs):n<=c/\c<=maxLen:=by
 obtain⟨_,h | ⟨g,cap,cur,hv,_,_,hnc,hcm,_⟩⟩:=h
 ·obtain⟨h1,h2⟩:=h;injection h1 with _ _ h3;subst h3;exact⟨by omega,FB _⟩
 ·injection hv with _ _ hv3;subst hv3;exact⟨hnc,hcm⟩
theorem YN {w:World} {xs:List Value} {A:OA} (h:w.ownsRow base e size (.slice A n c) n xs):(A=none/\n=0/\c=0/\xs=[])\/∃G,A=some ⟨G,0,none⟩:=by
 obtain⟨hl,⟨h1,h2⟩ | ⟨g,cap,cur,hv,_⟩⟩:=h
 ·injection h1 with e1 e2 e3;refine Or.inl ⟨e1,e2,e3,?_⟩;rw[h2,NE] at hl;exact FV.1 hl
 ·injection hv with e1 _ _;exact Or.inr ⟨g,e1⟩
end
end
section
theorem Ud {w w':World} {row:Option Nat} (h:w.drew.grownBy w' row):w.grownBy w' row:=⟨h.os,h.tape,h.output,h.size,h.block⟩
section
variable {P:Program}
theorem Xx (w:World) (dT sT ty elem:TypeId) (k b o dLen dCap:Nat) (a:Addr) (sLen sCap m:Nat) (cs:List Value)
  (hu:P.underlying dT=some (.slice elem)) (hs:(P.info? elem).map (·.size)=some k) (hm:m=Nat.min sLen dLen) (hn:cs.length=m * k)
  (hsrc:∀j v,cs[j]?=some v->w.cell? (a.add j)=some v) (hc:∀j,j < cs.length->(w.cell? ⟨b,o+j,none⟩).isSome=true) (hf:∀j,j < cs.length->w.frozen? ⟨b,o+j,none⟩=false) (h1:∀v∈cs,v.oneCell'=true):
  (Builtin.copy_ #[dT,sT] ty #[.slice (some ⟨b,o,none⟩) dLen dCap,.slice (some a) sLen sCap]).run P w=.ok (goInt m) (w.setCells b o cs):=by
 have hl:=run_loadCells_list (P:=P) w a cs hsrc;have hst:=Nw (P:=P) b o cs 0 w (by simpa using hc) (by simpa using hf) h1
 cases hq:P.info? elem with
 | none=>simp[hq] at hs
 | some i=>
  have hi:i.size=k:=by simpa[hq] using hs
  simp[Builtin.copy_,FR hu,Builtin.lenOf,Builtin.firstCells,sizeOf,typeInfo,hq,hi,<-hm,<-hn,hl,hst]
theorem Ux (w:World) {o:Oper} {a:Act} {K:Act->World->Prop} {Q:Exit->Act->World->Prop} (s x:Operand) (t tx:TypeId) (hop:o.op=Op.call { callee:=Callee.builtin Builtin.append,args:=#[s,x],argTypes:=#[t,tx] })
  (e:TypeId) (i:TypeInfo) (ht:P.underlying t=some (.slice e)) (hi:P.info? e=some i)
  (b off sLen sCap:Nat) (hs:a.eval s=.slice (some ⟨b,off,none⟩) sLen sCap) (xv:Value) (hx:a.eval x=xv) (n:Nat) (news:List Value) (hsrc:Src P i.size tx xv n news w)
  (hroom:sLen+n<=sCap) (hc:∀j,j < news.length->(w.cell? ⟨b,off+sLen * i.size+j,none⟩).isSome=true) (hf:∀j,j < news.length->w.frozen? ⟨b,off+sLen * i.size+j,none⟩=false)
  (hK:K (a.put o.dst (.slice (some ⟨b,off,none⟩) (sLen+n) sCap)) (w.setCells b (off+sLen * i.size) news)):o.wp P a w K Q:=by
 have hrun:=run_append_room_src (P:=P) (w:=w) t tx o.type e i ht hi b off sLen sCap xv n news hsrc hroom hc hf;unfold Oper.wp;simp[execOp,hop,resolve,invoke,builtin,hs,hx,hrun,Result.andThen];exact hK
theorem Zq (w:World) {o:Oper} {a:Act} {K:Act->World->Prop} {Q:Exit->Act->World->Prop} (d s:Operand) (t t':TypeId)
  (ho:o.op=.call { callee:=.builtin .copy,args:=#[d,s],argTypes:=#[t,t'] }) (v u:Value) (hd:a.eval d=v) (hs:a.eval s=u) {v':Value} {w':World}
  (hr:(Builtin.copy_ #[t,t'] o.type #[v,u]).run P w=.ok v' w') (h:K (a.put o.dst v') w'):o.wp P a w K Q:=by
 unfold Oper.wp execOp;simp only[ho,resolve,invoke,builtin,Sem.run_bind,Sem.run_pure,Result.andThen_ok,NX,Rp,Rf,hd,hs,hr];exact h
theorem ZM (w:World) {ops:Array Oper} {rest:List Oper} {o:Oper} {a:Act} {Q:Exit->Act->World->Prop} (hgd:o.guard=none) (d s:Operand) (t t':TypeId)
  (ho:o.op=.call { callee:=.builtin .append,args:=#[d,s],argTypes:=#[t,t'] }) (v u:Value) (hd:a.eval d=v) (hs:a.eval s=u) {v':Value} {w':World}
  (hr:(Builtin.append_ #[t,t'] o.type #[v,u]).run P w=.ok v' w') (h:wpList P ops Q rest (a.put o.dst v') w'):wpList P ops Q (o :: rest) a w:=
 Re hgd fun K hK=>by
  unfold Oper.wp execOp;simp only[ho,resolve,invoke,builtin,Sem.run_bind,Sem.run_pure,Result.andThen_ok,NX,Rp,Rf,hd,hs,hr];exact hK _ _ h
end
end
end Go.Proofs.YtmbeahbgafkjfaaGreatDoor
