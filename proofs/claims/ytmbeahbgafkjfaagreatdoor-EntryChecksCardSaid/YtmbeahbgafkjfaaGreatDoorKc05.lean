/- Lemmas for the claim, layer 5. -/
import Derived.Test.YtmbeahbgafkjfaaGreatDoorKc04
set_option maxRecDepth 100000
set_option maxHeartbeats 16000000
namespace Go.Proofs.YtmbeahbgafkjfaaGreatDoor
open Go.RowKit
structure But (g:Nat) (w w':World):Prop where
 os:w'.os=w.os
 tape:w'.tape=w.tape
 output:w'.output=w.output
 size:w.heap.size<=w'.heap.size
 block:∀k,k < w.heap.size->k≠g->w'.heap[k]?=w.heap[k]?
theorem But.refl (g:Nat) (w:World):But g w w:=⟨rfl,rfl,rfl,Nat.le_refl _,fun _ _ _=>rfl⟩
theorem But.trans {g:Nat} {a b c:World} (h:But g a b) (k:But g b c):But g a c:=
 ⟨k.os.trans h.os,k.tape.trans h.tape,k.output.trans h.output,Nat.le_trans h.size k.size,fun i hi hn=>(k.block i (Nat.lt_of_lt_of_le hi h.size) hn).trans (h.block i hi hn)⟩
theorem But.of {g:Nat} {w w':World} (h:Below w.heap.size w w'):But g w w':=⟨h.os,h.tape,h.output,h.size,fun k hk _=>h.block k hk⟩
theorem But.set_ {g:Nat} (w:World) {p:Addr} (hp:p.block=g) (u:Value):But g w (w.setCell p u):=
 ⟨rfl,rfl,rfl,by simp,fun k _ hn=>Below.heap_setCell w p u k (by rw[hp];exact hn)⟩
theorem But.drew {g:Nat} (w:World):But g w w.drew:=⟨rfl,rfl,rfl,Nat.le_refl _,fun _ _ _=>rfl⟩
theorem below_but {g B:Nat} {a w w':World} (h:Below B a w) (k:But g w w') (hB:B<=w.heap.size) (hg:B<=g):Below B a w':=
 ⟨k.os.trans h.os,k.tape.trans h.tape,k.output.trans h.output,Nat.le_trans h.size k.size,fun i hi=>(k.block i (by omega) (by omega)).trans (h.block i hi)⟩
theorem But.below {g:Nat} {a b c:World} (h:But g a b) (k:Below a.heap.size b c):But g a c:=
 ⟨k.os.trans h.os,k.tape.trans h.tape,k.output.trans h.output,Nat.le_trans h.size k.size,fun i hi hn=>(k.block i hi).trans (h.block i hi hn)⟩
theorem Rd.but {g B size n c:Nat} {A:Option Addr} {xs:List Value} {w w':World} (h:Rd w B size A n c xs) (k:But g w w') (hB:B<=w.heap.size) (hg:B<=g):Rd w' B size A n c xs:=
 h.keep fun p hp=>World.cell?_of_block (k.block p.block (by omega) (by omega))
theorem Blk.but {g q:Nat} {t:TypeId} {cs:Array Value} {w w':World} (h:Blk w q t cs) (k:But g w w') (hq:q≠g):Blk w' q t cs:=(k.block q h.lt hq).trans h
theorem own_but {g base size n:Nat} {e:TypeId} {v:Value} {xs:List Value} {w w':World} (h:w.ownsRow base e size v n xs) (k:But g w w') (hg:g < base):w'.ownsRow base e size v n xs:=by
 refine⟨h.1,?_⟩;rcases h.2 with h2 | ⟨r,cap,cur,rfl,hbg,hh,rest⟩
 ·exact .inl h2
 ·exact .inr ⟨r,cap,cur,rfl,hbg,by rw[k.block r (Array.getElem?_eq_some_iff.1 hh).1 (by omega)];exact hh,rest⟩
theorem own_butN {g base size n:Nat} {e:TypeId} {v:Value} {xs:List Value} {w w':World} (h:w.ownsRow base e size v n xs) (k:But g w w') (hg:v.ownBlock≠some g):w'.ownsRow base e size v n xs:=by
 refine⟨h.1,?_⟩;rcases h.2 with h2 | ⟨r,cap,cur,rfl,hbg,hh,rest⟩
 ·exact .inl h2
 ·exact .inr ⟨r,cap,cur,rfl,hbg,by rw[k.block r (Array.getElem?_eq_some_iff.1 hh).1 (fun e=>hg (by subst e;rfl))];exact hh,rest⟩
theorem wpAnyH_putD {P:Program} {ops:Array Oper} {Q:Exit->Act->World->Prop} {md:Region.Mode} {S:World->Prop} {i d:Nat} {oi:Oper} {v:Value} {fuel:Nat} {listed:Array Bool} {a:Act} {w:World} (hi:ops[i]?=some oi) (hd:oi.dst=some d)
  (hs:Region.noSelect ops=true) (hf:Region.free md ops listed i=true) (hr:(Region.ready md ops listed).contains i=true)
  (hQ:∀c a w,Q (.panic c) (a.put oi.dst v) w->Q (.panic c) a w) (hy:YieldsIf P ops S oi v a) (hS:S w)
  (h:wpAnyH P md ops Q S fuel (listed.setIfInBounds i true) { tmps:=a.tmps.setIfInBounds d v,defers:=a.defers } w):wpAnyH P md ops Q S (fuel+1) listed a w:=
 wpAnyH_take hi hs hf hr hQ hy hS (by rw[hd];exact h)
/-! The same in few words. -/
theorem puA {P:Program} {ops:Array Oper} {Q:Exit->Act->World->Prop} {md:Region.Mode} {S:World->Prop} (i d:Nat) {oi:Oper} {v:Value} {fuel:Nat} {listed:Array Bool} {a:Act} {w:World} {b:Array Value} (hS:S w)
  (h:wpAnyH P md ops Q S fuel (listed.setIfInBounds i true) { tmps:=b,defers:=a.defers } w)
  (hi:ops[i]?=some oi:=by exact rfl) (hd:oi.dst=some d:=by exact rfl)
  (hs:Region.noSelect ops=true:=by kernel_rfl) (hf:Region.free md ops listed i=true:=by kernel_rfl) (hr:(Region.ready md ops listed).contains i=true:=by kernel_rfl)
  (hQ:∀c a w,Q (.panic c) (a.put oi.dst v) w->Q (.panic c) a w:=by exact fun _ _ _ h=>h) (hw:Region.wanted oi (yielded ops a.tmps)=true:=by kernel_rfl)
  (hy:∀w,S w->(execOp a.eval oi).run P w=.ok (.value v) w:=by (intro w hS;(try dsimp only at hS);go_simp<;>with_reducible rfl))
  (hb:a.tmps.setIfInBounds d v=b:=by (first | (simp only[List.setIfInBounds_toArray,List.set_cons_zero,List.set_cons_succ];done) | (simp only[List.setIfInBounds_toArray,List.set_cons_zero,List.set_cons_succ];exact rfl) | exact rfl)):wpAnyH P md ops Q S (fuel+1) listed a w:=
 wpAnyH_putD hi hd hs hf hr hQ (.inl ⟨hw,hy⟩) hS (hb ▸ h)
theorem puB {P:Program} {ops:Array Oper} {Q:Exit->Act->World->Prop} {md:Region.Mode} {S:World->Prop} (i d:Nat) (v:Value) {oi:Oper} {fuel:Nat} {listed:Array Bool} {a:Act} {w:World} {b:Array Value} (hS:S w)
  (h:wpAnyH P md ops Q S fuel (listed.setIfInBounds i true) { tmps:=b,defers:=a.defers } w)
  (hi:ops[i]?=some oi:=by exact rfl) (hd:oi.dst=some d:=by exact rfl)
  (hs:Region.noSelect ops=true:=by kernel_rfl) (hf:Region.free md ops listed i=true:=by kernel_rfl) (hr:(Region.ready md ops listed).contains i=true:=by kernel_rfl)
  (hQ:∀c a w,Q (.panic c) (a.put oi.dst v) w->Q (.panic c) a w:=by exact fun _ _ _ h=>h) (hw:Region.wanted oi (yielded ops a.tmps)=true:=by kernel_rfl)
  (hy:∀w,S w->(execOp a.eval oi).run P w=.ok (.value v) w:=by (intro w hS;(try dsimp only at hS);go_simp<;>with_reducible rfl))
  (hb:a.tmps.setIfInBounds d v=b:=by (first | (simp only[List.setIfInBounds_toArray,List.set_cons_zero,List.set_cons_succ];done) | (simp only[List.setIfInBounds_toArray,List.set_cons_zero,List.set_cons_succ];exact rfl) | exact rfl)):wpAnyH P md ops Q S (fuel+1) listed a w:=
 wpAnyH_putD hi hd hs hf hr hQ (.inl ⟨hw,hy⟩) hS (hb ▸ h)
theorem puC {P:Program} {ops:Array Oper} {Q:Exit->Act->World->Prop} {md:Region.Mode} {S:World->Prop} (i d:Nat) {oi:Oper} {fuel:Nat} {listed:Array Bool} {a:Act} {w:World} {b:Array Value} (hS:S w)
  (h:wpAnyH P md ops Q S fuel (listed.setIfInBounds i true) { tmps:=b,defers:=a.defers } w)
  (hi:ops[i]?=some oi:=by exact rfl) (hd:oi.dst=some d:=by exact rfl)
  (hs:Region.noSelect ops=true:=by kernel_rfl) (hf:Region.free md ops listed i=true:=by kernel_rfl) (hr:(Region.ready md ops listed).contains i=true:=by kernel_rfl)
  (hQ:∀c a w,Q (.panic c) (a.put oi.dst undef) w->Q (.panic c) a w:=by exact fun _ _ _ h=>h) (hw:Region.wanted oi (yielded ops a.tmps)=false:=by kernel_rfl)
  (hb:a.tmps.setIfInBounds d undef=b:=by (first | (simp only[List.setIfInBounds_toArray,List.set_cons_zero,List.set_cons_succ];done) | (simp only[List.setIfInBounds_toArray,List.set_cons_zero,List.set_cons_succ];exact rfl) | exact rfl)):wpAnyH P md ops Q S (fuel+1) listed a w:=
 wpAnyH_putD hi hd hs hf hr hQ (.inr ⟨hw,rfl⟩) hS (hb ▸ h)
theorem puR {P:Program} {ops:Array Oper} {Q:Exit->Act->World->Prop} {md:Region.Mode} {S:World->Prop} (i:Nat) {o:Oper} {fuel:Nat} {listed:Array Bool} {a:Act} {w:World}
  (h:∀K':Act->World->Prop,Shut (∀a w,S w->(S w->wpAnyH P md ops Q S fuel (listed.setIfInBounds i true) a w)->K' a w)->if Region.wanted o (yielded ops a.tmps)=true then Oper.wp P o a w K' Q else K' (a.put o.dst undef) w)
  (hr:Region.ready md ops listed=[i]:=by kernel_rfl) (ho:ops[i]?=some o:=by exact rfl):wpAnyH P md ops Q S (fuel+1) listed a w:=
 wpAnyH_ready hr (by simp) (AllReadyH.cons ho h AllReadyH.nil)
def numV:Option (List UInt8)->Nat
 | none=>0
 | some l=>match Wq.pN l with | none=>0 | some (x,_)=>x
def numS:Option (List UInt8)->Option (List UInt8)
 | none=>none
 | some l=>match Wq.pN l with | none=>none | some (_,r)=>some r
theorem numV_some {l r:List UInt8} {x:Nat} (h:Wq.pN l=some (x,r)):numV (some l)=x:=by simp only[numV,h]
theorem numS_some {l r:List UInt8} {x:Nat} (h:Wq.pN l=some (x,r)):numS (some l)=some r:=by simp only[numS,h]
theorem numS_no {l:List UInt8} (h:Wq.pN l=none):numS (some l)=none:=by simp only[numS,h]
theorem numV_lt (s:Option (List UInt8)):numV s < 9223372036854775808:=by
 cases s with
 | none=>show 0 < _;omega
 | some l=>
  unfold numV;simp only;split
  ·omega
  ·rename_i x r h;exact(Wq.pN_back h).2
def PR (w:World) (g T:Nat):Option (List UInt8)->Prop
 | some l=>∃A n c,Blk w g 156 #[.slice A n c,.int .i64 (((T - l.length:Nat)):Int),.bool false]/\Rd w g 1 A n c (bv l)/\l.length=n/\l.length<=T/\T<=maxLen
 | none=>∃A n c k,Blk w g 156 #[.slice A n c,.int .i64 k,.bool true]
theorem PR.lt {w:World} {g T:Nat} {s:Option (List UInt8)} (h:PR w g T s):g < w.heap.size:=by
 cases s with
 | none=>obtain⟨A,n,c,k,h⟩:=h;exact h.lt
 | some l=>obtain⟨A,n,c,h,_⟩:=h;exact h.lt
theorem PR.go {w w':World} {g T:Nat} {s:Option (List UInt8)} (h:PR w g T s) (hb:Below w.heap.size w w'):PR w' g T s:=by
 cases s with
 | none=>obtain⟨A,n,c,k,h⟩:=h;exact⟨A,n,c,k,h.go hb⟩
 | some l=>obtain⟨A,n,c,h,h2,h3⟩:=h;exact⟨A,n,c,h.go hb,h2.below (hb.mono (Nat.le_of_lt h.lt)),h3⟩
theorem PR.below {w w':World} {g T B:Nat} {s:Option (List UInt8)} (h:PR w g T s) (hb:Below B w w') (hg:g < B):PR w' g T s:=by
 cases s with
 | none=>obtain⟨A,n,c,k,h⟩:=h;exact⟨A,n,c,k,h.below hb hg⟩
 | some l=>obtain⟨A,n,c,h,h2,h3⟩:=h;exact⟨A,n,c,h.below hb hg,h2.below (hb.mono (by omega)),h3⟩
theorem PR.but {w w':World} {g q T:Nat} {s:Option (List UInt8)} (h:PR w g T s) (hb:But q w w') (hq:g < q):PR w' g T s:=by
 cases s with
 | none=>obtain⟨A,n,c,k,h⟩:=h;exact⟨A,n,c,k,h.but hb (by omega)⟩
 | some l=>obtain⟨A,n,c,h,h2,h3⟩:=h;exact⟨A,n,c,h.but hb (by omega),h2.but hb (Nat.le_of_lt h.lt) (by omega),h3⟩
theorem took_ok (g k n c:Nat) (A:Option Addr) (z:Int) (w:World) (hB:Blk w g 156 #[.slice A n c,.int .i64 z,.bool false]) (hk:k<=n) (h0:0<=z) (hz:z+k<=9223372036854775807):
  Calls Tryz.prog 176 #[.pointer (some ⟨g,0,none⟩),.int .i64 k,.int .i64 0] w fun e w'=>e=.returned (.bool true) /\
   Blk w' g 156 #[.slice (cutAt 1 A c k) (n - k) (c - k),.int .i64 (z+k),.bool false]/\But g w w':=by
 have hs:=fun W=>run_from (P:=Tryz.prog) W 29 5 1 Tryz.underlying29 size_u8 A n c .i64 k k rfl hk;have f0:=hB.frozen 0;have c0:=hB.cell 0;have f1:=hB.frozen 1;have c1:=hB.cell 1;have HB:=Hz_ hB;clear hB;go_enter Tryz.func176,Tryz.ntmps176;go_wp2;go_region;go_wp2;go_ret;exact⟨rfl,((HB.out.set_ 0 (.slice (cutAt 1 A c k) (n - k) (c - k))).set_ 1 (.int .i64 (z+k))),((But.set_ w (p:=⟨g,0,none⟩) rfl _).trans (But.set_ _ (p:=⟨g,1,none⟩) rfl _)).trans (But.drew _)⟩
theorem took_bad (g:Nat) (v z:Value) (k er:Int) (w:World) (hB:Blk w g 156 #[v,z,.bool false]) (he:er≠0):
  Calls Tryz.prog 176 #[.pointer (some ⟨g,0,none⟩),.int .i64 k,.int .i64 er] w fun e w'=>e=.returned (.bool false) /\
   Blk w' g 156 #[v,z,.bool true]/\But g w w':=by
 have f2:=hB.frozen 2;have c2:=hB.cell 2;have HB:=Hz_ hB;clear hB;go_enter Tryz.func176,Tryz.ntmps176;go_wp2;go_ret;exact⟨rfl,HB.out.set_ 2 (.bool true),But.set_ w (p:=⟨g,2,none⟩) rfl _⟩
theorem rdNum_any (g T:Nat) (s:Option (List UInt8)) (w:World) (h:PR w g T s):
  Calls Tryz.prog 124 #[.pointer (some ⟨g,0,none⟩)] w fun e w'=>e=.returned (.int .i64 (numV s))/\PR w' g T (numS s)/\But g w w':=by
 rcases s with _ | l
 ·have h':=h;obtain⟨A,n,c,k,hB⟩:=h;have c2:=hB.cell 2;have H:=Hz_ h';clear hB h';go_enter Tryz.func124,Tryz.ntmps124;go_wp2;go_ret;exact⟨rfl,H.out,But.refl _ _⟩
 ·obtain⟨A,n,c,hB,hR,hl,hT,hm⟩:=h;obtain⟨x,k,er,hx⟩:∃x k er,Pk.num l 0 l=(x,k,er):=⟨_,_,_,rfl⟩;have H1:=Hz_ (number_is hx hl (hR.more (Nat.le_of_lt hB.lt)));have c0:=hB.cell 0;have c2:=hB.cell 2;unfold maxLen at hm;by_cases he:er=0
  ·subst he;obtain⟨b1,b2,b3,b4,b5⟩:=Pk.num_back hx;have hp:=Wq.pN_some hx;have hv:numV (some l)=x:=by simp only[numV,hp]
   have hss:numS (some l)=some (l.drop k):=by simp only[numS,hp]
   rw[hv,hss];have H2:=Hz_ (took_ok g k n c A ((T - l.length:Nat):Int) w hB (by omega) (by omega) (by omega));have HR:=Hz_ (hR.from_ (k:=k) (by omega));have HE:=Hz_ (show (((T - l.length:Nat):Int)+k)=((T - (l.drop k).length:Nat):Int) by rw[List.length_drop];omega);have HL:=Hz_ (show (l.drop k).length=n - k by rw[List.length_drop];omega);have HM:=Hz_ (show (l.drop k).length<=T by rw[List.length_drop];omega);clear hR hl hx hp hv hss b1 b2 b3 b4 b5 hT;go_enter Tryz.func124,Tryz.ntmps124;go_wp2_with fail;refine H1.out.mono ?_;rintro e w1 ⟨rfl,rfl⟩;go_wp2_with fail;refine H2.out.mono ?_;rintro e w2 ⟨rfl,hB2,hb2⟩;go_wp2;go_ret;have h2:=HR.out;rw[Nat.mul_one,<-bv_drop] at h2;rw[HE.out] at hB2;exact⟨rfl,⟨_,_,_,hB2,(h2.but hb2 (Nat.le_of_lt hB.lt) Zl),HL.out,HM.out,by unfold maxLen;exact hm⟩,hb2⟩
  ·have hp:=Wq.pN_none hx he;have hv:numV (some l)=0:=by simp only[numV,hp]
   have hss:numS (some l)=none:=by simp only[numS,hp]
   rw[hv,hss];have he2:(er:Int)≠0:=by omega
   have hx0:x=0:=by
    rcases Pk.num_err l l 0 with h3 | h3 | h3<;>rw[hx] at h3
    ·exact absurd h3 he
    ·exact(Prod.mk.inj h3).1
    ·exact(Prod.mk.inj h3).1
   subst hx0;have H2:=Hz_ (took_bad g (.slice A n c) (.int .i64 ((T - l.length:Nat):Int)) k er w hB he2);clear hR hl hx hp hv hss hT he he2;go_enter Tryz.func124,Tryz.ntmps124;go_wp2_with fail;refine H1.out.mono ?_;rintro e w1 ⟨rfl,rfl⟩;go_wp2_with fail;refine H2.out.mono ?_;rintro e w2 ⟨rfl,hB2,hb2⟩;go_wp2;go_ret;exact⟨rfl,⟨_,_,_,_,hB2⟩,hb2⟩
def RR (w:World) (g:Nat) (L:List UInt8):Option (List UInt8)->Prop
 | some l=>∃A n c,Blk w g 97 #[.slice A n c,.int .i64 ((L.length - l.length:Nat):Int),.bool false]/\Rd w g 1 A n c (bv L)/\L.length=n/\l=L.drop (L.length - l.length)/\l.length<=L.length
 | none=>∃A n c k,Blk w g 97 #[.slice A n c,.int .i64 k,.bool true]
theorem rowOf_pR (l:List UInt8) (most:Nat):(∃v k,rowOf l most=(v,k,0)/\k<=l.length/\Wq.pR most l=some (v,l.drop k))\/(∃er,er≠0/\rowOf l most=([],0,er)/\Wq.pR most l=none):=by
 obtain⟨x,k,er,hx⟩:∃x k er,Pk.num l 0 l=(x,k,er):=⟨_,_,_,rfl⟩;have h0:¬ ((most:Int) < 0):=by omega
 by_cases he:er=0
 ·subst he;obtain⟨b1,b2,b3,b4,b5⟩:=Pk.num_back hx;have hp:=Wq.pN_some hx;by_cases hm:(most:Int) < (x:Int)
  ·refine .inr ⟨4,by omega,rowOf_most h0 hx hm,?_⟩;unfold Wq.pR;rw[hp];simp only;rw[if_neg (by omega)]
  ·by_cases hs:(l.length:Int) - (k:Int) < (x:Int)
   ·refine .inr ⟨5,by omega,rowOf_short h0 hx hm hs,?_⟩;unfold Wq.pR;rw[hp];simp only;rw[if_neg (by rw[List.length_drop];omega)]
   ·refine .inl ⟨_,_,rowOf_ok h0 hx hm hs,by omega,?_⟩;unfold Wq.pR;rw[hp];simp only;rw[if_pos (by rw[List.length_drop];omega),List.drop_drop]
 ·refine .inr ⟨er,he,rowOf_err h0 hx he,?_⟩;unfold Wq.pR;rw[Wq.pN_none hx he]
def b256 (p:Nat->Bool):Array Value:=((List.range 256).map fun n=>.bool (p n)).toArray
theorem b256_size (p:Nat->Bool):(b256 p).size=256:=by simp[b256]
theorem b256_at (p:Nat->Bool) (n:Nat) (hn:n < 256):(b256 p)[n]?=some (.bool (p n)):=by simp[b256,hn]
def updB (p:Nat->Bool) (m:Nat) (b:Bool):Nat->Bool:=fun n=>if n=m then b else p n
theorem b256_set (p:Nat->Bool) (m:Nat) (b:Bool) (hm:m < 256):(b256 p).setIfInBounds m (.bool b)=b256 (updB p m b):=by
 apply Array.ext_getElem?;intro i;rw[Array.getElem?_setIfInBounds];by_cases hi:i < 256
 ·rw[b256_at (updB p m b) i hi];by_cases he:m=i
  ·subst he;simp[b256_size,updB,hm]
  ·rw[if_neg he,b256_at p i hi,updB,if_neg (by omega)]
 ·rw[if_neg (by omega),Array.getElem?_eq_none (by rw[b256_size];omega),Array.getElem?_eq_none (by rw[b256_size];omega)]
theorem b256_congr {p q:Nat->Bool} (e:∀n,n < 256->p n=q n):b256 p=b256 q:=by
 unfold b256;congr 1;exact List.map_congr_left fun n hn=>by rw[e n (by simpa using hn)]
theorem b256_oneCell (p:Nat->Bool):(b256 p).all (·.oneCell')=true:=by
 rw[Array.all_eq_true'];intro x hx;simp only[b256,List.mem_toArray,List.mem_map] at hx;obtain⟨n,_,rfl⟩:=hx;rfl
theorem zero_marks:(Tryz.prog.info? 149).map (fun i=>(i.zero,i.size))=some (some (.agg (b256 (fun _=>false))),256):=by kernel_rfl
theorem span_info:(Tryz.prog.info? 63).map (fun i=>(i.zero,i.size,i.bytes))=some (some (.agg #[.int .i64 0,.int .i64 0]),2,16):=by kernel_rfl
theorem setOf_next (l:List Sn.Sp) (k:Nat) (h:k < l.length) (o:Nat):Sn.setOf (l.take (k+1)) o=(Sn.setOf (l.take k) o || (decide (l[k].1<=(o:Int)) && decide ((o:Int)<=l[k].2))):=by
 unfold Sn.setOf;rw[List.take_succ_eq_append_getElem h,Sn.inB_app];simp[Sn.inB]
def part (p:Nat->Bool) (lo o:Nat):Nat->Bool:=fun n=>p n || (decide (lo<=n) && decide (n < o))
theorem part_start (p:Nat->Bool) (lo:Nat):∀n,part p lo lo n=p n:=fun n=>by
 unfold part;have:(decide (lo<=n) && decide (n < lo))=false:=by simp
 rw[this,Bool.or_false]
theorem part_next (p:Nat->Bool) (lo o:Nat) (h:lo<=o):∀n,updB (part p lo o) o true n=part p lo (o+1) n:=fun n=>by
 unfold updB part;by_cases e:n=o
 ·subst e;simp;exact .inr h
 ·rw[if_neg e];have:decide (n < o+1)=decide (n < o):=by simp;omega
  rw[this]
theorem refSet_any (A:Option Addr) (n c:Nat) (l:List Sn.Sp) (w:World) (hl:l.length=n) (hR:Rd w w.heap.size 2 A n c (sv l)):
  Calls Tryz.prog 118 #[.slice A n c] w fun e w'=>e=.returned (.agg (b256 (Sn.setOf l)))/\Below w.heap.size w w':=by
 obtain⟨hz,hi⟩:=zero_of_info zero_marks;have HI:=Hz_ hi;clear hi;have hmax:n<=9223372036854775807:=by have h1:=hR.cap;have h2:=hR.max;unfold maxLen at h2;omega
 go_enter Tryz.func118,Tryz.ntmps118;go_wp2;go_loopw [4] (fun i wr=>∃k:Nat,k<=n/\i=.int .i64 k/\Below w.heap.size w wr/\Blk wr w.heap.size 149 (b256 fun _=>false)/\Blk wr (w.heap.size+1) 149 (b256 (Sn.setOf (l.take k)))) (fun i _=>n - (intOf i).toNat)
 case atStart=>
  refine⟨0,by omega,rfl,(Zr.alloc Zl _).alloc (by simp) _,(Blk.new _ _ _).alloc _,?_⟩;have:=Blk.new (w.alloc (.cells (b256 fun _=>false) 149)) 149 (b256 fun _=>false);rw[World.size_alloc] at this;exact this
 case round=>
  obtain⟨k,hk,rfl,hb,hz2,hblk⟩:=hrel;have HB:=Hz_ hb;have HZ:=Hz_ hz2;by_cases hlt:k < n
  ·have hkl:k < l.length:=by omega
   obtain⟨b,o,rfl,hab,g0,g1⟩:=hR.stamp hl hlt;have h0:=(hb.cell (p:=⟨b,o+k * 2,none⟩) hab).trans g0;have h1:=(hb.cell (p:=⟨b,o+k * 2+1,none⟩) hab).trans g1;have HS:=Hz_ (setOf_next l k hkl);have HK:=Hz_ hblk;generalize hlo:(l[k]'hkl).1=lo at h0 g0 HS;generalize hhi:(l[k]'hkl).2=hi at h1 g1 HS;clear hlo hhi hblk hb hz2;by_cases hp:0 < lo
   all_goals
    obtain⟨lo',hlo',HL⟩:∃lo':Nat,(lo=(lo':Int)\/(¬ 0 < lo/\lo'=0))/\Hid (∀m:Nat,lo<=(m:Int)↔lo'<=m):=by
     by_cases h:0 < lo
     ·exact⟨lo.toNat,.inl (by omega),fun m=>by omega⟩
     ·exact⟨0,.inr ⟨h,rfl⟩,fun m=>by omega⟩
    have hst:Hid (∀x:Int,(x=lo/\0 < lo\/x=0/\¬ 0 < lo)->x=(lo':Int)):=fun x hx=>by omega
    clear hlo';go_wp2;go_loopw [5] (fun x wr=>∃j:Nat,lo'<=j/\j<=max lo' 256/\x=.int .i64 j/\Below w.heap.size w wr/\Blk wr w.heap.size 149 (b256 fun _=>false) /\
     Blk wr (w.heap.size+1) 149 (b256 (part (Sn.setOf (l.take k)) lo' j))/\Hid (lo' < j->(j:Int) - 1<=hi)) (fun x _=>256 - (intOf x).toNat)
    case atStart=>
     refine⟨lo',Nat.le_refl _,by omega,?_,HB.out,HZ.out,?_,fun h=>absurd h (by omega)⟩
     ·have:=hst.out _ (by first | exact .inl ⟨rfl,hp⟩ | exact .inr ⟨rfl,hp⟩)
      first | (rw[this];done) | (rw[<-this];done) | exact congrArg _ this
     ·rw[b256_congr fun n _=>part_start _ lo' n];exact HK.out
    case round=>
     obtain⟨j,hj1,hj2,rfl,hb5,q1,q2,hq⟩:=hrel;have HB5:=Hz_ hb5;have Q1:=Hz_ q1;have Q2:=Hz_ q2;have hsz:=q2.lt;have k1:=(hb5.cell (p:=⟨b,o+k * 2+1,none⟩) hab).trans g1;have fj:=q2.frozen j;clear hb5 q1 q2;by_cases hm:hi < 255
     all_goals
      by_cases hj:(j:Int)<=255/\(j:Int)<=hi
      ·obtain⟨hja,hjb⟩:=hj;have gj:=Q2.out.cell j;rw[b256_at _ _ (by omega)] at gj;go_wp2;go_roundw
       case rel=>
        refine⟨j+1,by omega,by omega,by go_num,HB5.out.setCell (p:=⟨w.heap.size+1,j,none⟩) (by show _<=w.heap.size+1;omega) _,Blk.far Q1.out (by simp) _,?_,fun _=>by omega⟩;have h5:=Q2.out.set_ j (.bool true);rw[b256_set _ _ _ (by omega),b256_congr (fun n _=>part_next _ _ _ hj1 n)] at h5;exact h5
       case measure=>simp[intOf];omega
      ·go_wp2;go_roundw
       case rel=>
        refine⟨k+1,by omega,by go_num,HB5.out,Q1.out,?_⟩;have hh:∀n:Nat,n < 256->part (Sn.setOf (l.take k)) lo' j n=Sn.setOf (l.take (k+1)) n:=fun n hn=>by
         rw[HS.out n,part];congr 1;have e1:=HL.out n;have e2:=hq.out;rw[Bool.eq_iff_iff];simp only[Bool.and_eq_true,decide_eq_true_eq];omega
        rw[<-b256_congr hh];exact Q2.out
       case measure=>simp[intOf];omega
  ·obtain rfl:k=n:=by omega
   have ht:l.take k=l:=List.take_of_length_le (by omega);rw[ht] at hblk;have HK:=Hz_ hblk;clear hR hblk hz2 ht hl;go_wp2_with (first
    | (refine wpList_load_row rfl 149 _ rfl (w.heap.size+1) rfl 149 _ _ _ HK.out Tryz.underlying149 rfl (by rw[b256_size];exact HI.out) ?_)
    | (refine wpList_store_blk rfl 149 _ _ rfl w.heap.size 149 _ (b256 (Sn.setOf l)) rfl rfl HZ.out (by rw[b256_size];exact HI.out) rfl (b256_oneCell _) ?_;intro w4 hk4 hg4))
   refine bodyPost_ret (results_cell_row rfl _ _ w.heap.size 149 _ _ _ rfl hk4 Tryz.underlying149 rfl (by rw[b256_size];exact HI.out)) rfl ⟨rfl,HB.out.trans (grown_below hg4 HB.out.size (fun k hk=>by cases hk;exact Nat.le_refl _))⟩
theorem ext_len (l:List Sn.Sp) (x:Int):(Sn.ext l x).length=l.length:=by
 rcases List.eq_nil_or_concat l with rfl | ⟨r,s,rfl⟩
 ·rfl
 ·rw[List.concat_eq_append,Sn.ext_snoc];simp
theorem sv_ext (l:List Sn.Sp) (x:Int) (h:l≠[]):sv (Sn.ext l x)=(sv l).set ((l.length - 1) * 2+1) (.int .i64 x):=by
 rcases List.eq_nil_or_concat l with rfl | ⟨r,s,rfl⟩
 ·exact absurd rfl h
 ·rw[List.concat_eq_append,Sn.ext_snoc,sv_app,sv_app,List.length_append,List.length_singleton,Nat.add_sub_cancel,List.set_append_right _ _ (by rw[sv_len];omega),sv_len,Nat.add_sub_cancel_left];rfl
theorem ofTo_hit (p:Nat->Bool) (k:Nat) (h:p k=true) (h2:¬ (k≠0/\p (k - 1)=true)):Sn.ofTo p (k+1)=Sn.ofTo p k++[((k:Int),(k:Int))]:=by rw[Sn.ofTo,if_pos h,if_neg h2]
theorem ofTo_ext (p:Nat->Bool) (k:Nat) (h:p k=true) (h2:k≠0/\p (k - 1)=true):Sn.ofTo p (k+1)=Sn.ext (Sn.ofTo p k) k:=by rw[Sn.ofTo,if_pos h,if_pos h2]
theorem ofTo_miss (p:Nat->Bool) (k:Nat) (h:p k=false):Sn.ofTo p (k+1)=Sn.ofTo p k:=by rw[Sn.ofTo,if_neg (by simp[h])]
theorem refOfS_any (p:Nat->Bool) (w:World):
  Calls Tryz.prog 117 #[.agg (b256 p)] w fun e w'=>∃A' c',e=.returned (.slice A' (Sn.of p).length c') /\
   w'.ownsRow w.heap.size 63 2 (.slice A' (Sn.of p).length c') (Sn.of p).length (sv (Sn.of p))/\Below w.heap.size w w':=by
 obtain⟨i0,hi0,hz0,hz1,hz2⟩:=info_parts span_info;go_enter Tryz.func117,Tryz.ntmps117;go_wp2;go_loopw [3,4] (fun s i wr=>∃(k m c':Nat) (A':Option Addr),k<=256/\i=.int .i64 k/\s=.slice A' m c'/\m<=k/\Below w.heap.size w wr/\Blk wr w.heap.size 149 (b256 p) /\
  Hid ((Sn.ofTo p k).length=m)/\wr.ownsRow (w.heap.size+1) 63 2 (.slice A' m c') m (sv (Sn.ofTo p k))) (fun _ i _=>256 - (intOf i).toNat)
 case atStart=>exact⟨0,0,0,none,by omega,rfl,rfl,by omega,Zr.alloc Zl _,Blk.new _ _ _,rfl,World.ownsRow_nil _ _ _ _⟩
 case round=>
  obtain⟨k,m,c',A',hk,rfl,rfl,hm,hb,hblk,hlen,ho⟩:=hrel;have HO:=Hz_ ho;have HK:=Hz_ hblk;have HB:=Hz_ hb;have hsz:=hblk.lt;clear ho hb;by_cases hlt:k < 256
  ·have gk:=hblk.cell k;rw[b256_at _ _ hlt] at gk;rcases hp:p k with _ | _
   ·have HN:=Hz_ (ofTo_miss p k hp);rw[hp] at gk;clear hblk hp;go_wp2;go_roundw
    case rel=>exact⟨k+1,m,c',A',by omega,by go_num,rfl,by omega,HB.out,HK.out,by show _=_;rw[HN.out,hlen.out],by rw[HN.out];exact HO.out⟩
    case measure=>simp[intOf];omega
   ·rw[hp] at gk;by_cases hext:k≠0/\p (k - 1)=true
    ·have hn1:Sn.ofTo p k≠[]:=(Sn.ofTo_ok p k hk).2.2.2 hext;have hm0:0 < m:=by rw[<-hlen.out];exact List.length_pos_iff.2 hn1
     have HN:=Hz_ (ofTo_ext p k hp hext);have HX:=Hz_ (sv_ext (Sn.ofTo p k) k hn1);obtain⟨hk0,hp1⟩:=hext;have gk1:=hblk.cell (k - 1);rw[b256_at _ _ (by omega),hp1] at gk1;obtain⟨j,hj⟩:∃j,k=j+1:=⟨k - 1,by omega⟩;subst hj;rw[Nat.add_sub_cancel] at gk1;obtain⟨i,rfl⟩:∃i,m=i+1:=⟨m - 1,by omega⟩;obtain⟨g,cap,hv,hbg,hlg⟩:=HO.out.form (by omega);obtain⟨rfl,rfl⟩:A'=some ⟨g,0,none⟩/\c'=cap:=by injection hv with a1 a2 a3;exact⟨a1,a3⟩
     have fz:=HO.out.frozenAt (i * 2+1);have hcl:=HO.out.cellAt (i * 2+1) (by have:=HO.out.1;omega);obtain⟨u,hu⟩:∃u,(sv (Sn.ofTo p (j+1)))[i * 2+1]?=some u:=⟨_,List.getElem?_eq_getElem (by have:=HO.out.1;omega)⟩;rw[hu] at hcl;have e1:(((j+1:Nat):Int) - 1)=(j:Int):=by omega
     have e2:(((i+1:Nat):Int) - 1)=(i:Int):=by omega
     have hst:=HO.out.stored (i * 2+1) (.int .i64 ((j+1:Nat):Int));have HST:=Hz_ hst;clear hblk hp hp1 hv hu hst;go_wp2;go_roundw
     case rel=>
      refine⟨j+1+1,i+1,c',some ⟨g,0,none⟩,by omega,by go_num,rfl,by omega,HB.out.setCell (p:=⟨g,i * 2+1,none⟩) (by show _<=g;omega) _,Blk.far HK.out (by show _≠g;omega) _,?_,?_⟩
      ·show _=_;rw[HN.out,ext_len,hlen.out]
      ·rw[HN.out,HX.out,hlen.out,Nat.add_sub_cancel];exact HST.out.1
     case measure=>simp[intOf];omega
    ·have HN:=Hz_ (ofTo_hit p k hp hext);have h63:m+1<=maxLen:=by unfold maxLen;omega
     have h1max:1<=maxLen:=by unfold maxLen;omega
     by_cases hk0:k=0
     ·subst hk0;clear hblk hp hext;go_wp2_with (at_builtin;go_must (refine wpList_append_rd _ rfl (.tmp 28) (.tmp 32) _ rfl (w.heap.size+1) 63 i0 _ 2 16 Tryz.underlying23 hi0 hz0 hz1 hz2 rfl (by decide) (.slice A' m c') m _ rfl (HO.out.alloc _) (wr.heap.size+1) (some ⟨wr.heap.size,0,none⟩) 1 1 [.int .i64 ((0:Nat):Int),.int .i64 ((0:Nat):Int)] rfl (Rd.new wr _ 2 1 #[.int .i64 ((0:Nat):Int),.int .i64 ((0:Nat):Int)] rfl h1max) (sv_oneCell [(((0:Nat):Int),((0:Nat):Int))]) h63 (by omega) (by simp;omega) ?_);intro A3 c3 w3 ho3 hg3 hat3);go_roundw
      case rel=>
       refine⟨0+1,m+1,c3,A3,by omega,by go_num,rfl,by omega,(HB.out.alloc (by omega) _).trans (grown_below hg3 (by simp;omega) (fun g hg=>by have:=own_lt HO.out g hg;omega)),(HK.out.alloc _).grown hg3 (fun e=>by have:=own_lt HO.out _ e.symm;omega),?_,?_⟩
       ·show _=_;rw[HN.out,List.length_append,hlen.out];rfl
       ·rw[HN.out,sv_app];exact ho3
      case measure=>simp[intOf]
     ·have hp1:p (k - 1)=false:=by
       rcases hh:p (k - 1) with _ | _
       ·rfl
       ·exact absurd ⟨hk0,hh⟩ hext
      have gk1:=hblk.cell (k - 1);rw[b256_at _ _ (by omega),hp1] at gk1;obtain⟨j,hj⟩:∃j,k=j+1:=⟨k - 1,by omega⟩;subst hj;rw[Nat.add_sub_cancel] at gk1;have e1:(((j+1:Nat):Int) - 1)=(j:Int):=by omega
      clear hblk hp hp1 hext;go_wp2_with (at_builtin;go_must (refine wpList_append_rd _ rfl (.tmp 28) (.tmp 32) _ rfl (w.heap.size+1) 63 i0 _ 2 16 Tryz.underlying23 hi0 hz0 hz1 hz2 rfl (by decide) (.slice A' m c') m _ rfl (HO.out.alloc _) (wr.heap.size+1) (some ⟨wr.heap.size,0,none⟩) 1 1 [.int .i64 ((j+1:Nat):Int),.int .i64 ((j+1:Nat):Int)] rfl (Rd.new wr _ 2 1 #[.int .i64 ((j+1:Nat):Int),.int .i64 ((j+1:Nat):Int)] rfl h1max) (sv_oneCell [(((j+1:Nat):Int),((j+1:Nat):Int))]) h63 (by omega) (by simp;omega) ?_);intro A3 c3 w3 ho3 hg3 hat3);go_roundw
      case rel=>
       refine⟨j+1+1,m+1,c3,A3,by omega,by go_num,rfl,by omega,(HB.out.alloc (by omega) _).trans (grown_below hg3 (by simp;omega) (fun g hg=>by have:=own_lt HO.out g hg;omega)),(HK.out.alloc _).grown hg3 (fun e=>by have:=own_lt HO.out _ e.symm;omega),?_,?_⟩
       ·show _=_;rw[HN.out,List.length_append,hlen.out];rfl
       ·rw[HN.out,sv_app];exact ho3
      case measure=>simp[intOf];omega
  ·obtain rfl:k=256:=by omega
   clear hblk;go_wp2;go_ret;have hl:(Sn.of p).length=m:=hlen.out;exact⟨A',c',by rw[hl];rfl,by rw[hl];exact own_less HO.out (by omega),HB.out⟩
theorem sameS_any (A D:Option Addr) (n c m d:Nat) (u v:List Vc.St) (w:World) (hl:u.length=n) (hl2:v.length=m) (hR:Rd w w.heap.size 2 A n c (sv u)) (hR2:Rd w w.heap.size 2 D m d (sv v)):
  Calls Tryz.prog 62 #[.slice A n c,.slice D m d] w fun e w'=>e=.returned (.bool (decide (u=v)))/\Below w.heap.size w w':=by
 have hmax:n<=9223372036854775807:=by have h1:=hR.cap;have h2:=hR.max;unfold maxLen at h2;omega
 by_cases hnm:n=m
 ·subst hnm;go_enter Tryz.func62,Tryz.ntmps62;go_wp2;go_loopw [5] (fun i wr=>∃(k:Nat),k<=n/\i=.int .i64 k/\decide (u=v)=decide (u.drop k=v.drop k)/\Below w.heap.size w wr) (fun i _=>n - (intOf i).toNat)
  case atStart=>exact⟨0,by omega,rfl,rfl,Below.refl _ _⟩
  case round=>
   obtain⟨k,hk,rfl,hdd,hb⟩:=hrel;by_cases hlt:k < n
   ·have hk1:k < u.length:=by omega
    have hk2:k < v.length:=by omega
    obtain⟨b,o,rfl,hab,h0,h1⟩:=(hR.below hb).stamp hl hlt;obtain⟨b2,o2,rfl,hab2,h02,h12⟩:=(hR2.below hb).stamp hl2 hlt;have HD:=Hz_ hdd;have HE:=Hz_ (show u[k]=((u[k]'hk1).1,(u[k]'hk1).2) from rfl);have HE2:=Hz_ (show v[k]=((v[k]'hk2).1,(v[k]'hk2).2) from rfl);generalize (u[k]'hk1).1=sc at h0 HE;generalize (u[k]'hk1).2=sn at h1 HE;generalize (v[k]'hk2).1=tc at h02 HE2;generalize (v[k]'hk2).2=tn at h12 HE2;have HB:=Hz_ hb;clear hdd hb hR hR2;by_cases e1:sc=tc
    ·subst e1;by_cases e2:sn=tn
     ·subst e2;have HN:=Hz_ (dec_drop hk1 hk2 (by rw[HE.out,HE2.out]));go_wp2;go_quiet (fail);go_wp2;go_roundw
      case rel=>exact⟨k+1,by omega,by go_num,by rw[HD.out,HN.out],below_drewN HB.out _⟩
      case measure=>simp[intOf];omega
     ·have HN:=Hz_ (show decide (u=v)=false by
       rw[decide_eq_false_iff_not];intro h;subst h;exact e2 (congrArg Prod.snd (HE.out.symm.trans HE2.out)))
      go_wp2;go_quiet (fail);go_wp2;go_ret;exact⟨by rw[HN.out];rfl,below_drewN HB.out _⟩
    ·have HN:=Hz_ (show decide (u=v)=false by
      rw[decide_eq_false_iff_not];intro h;subst h;exact e1 (congrArg Prod.fst (HE.out.symm.trans HE2.out)))
     go_wp2;go_quiet (fail);go_wp2;go_ret;exact⟨by rw[HN.out];rfl,below_drewN HB.out _⟩
   ·obtain rfl:k=n:=by omega
    have HX:=Hz_ (show decide (u=v)=true by rw[hdd,List.drop_of_length_le (by omega),List.drop_of_length_le (by omega)];simp);clear hdd;go_wp2;go_ret;exact⟨by rw[HX.out];rfl,hb⟩
 ·have HN:=Hz_ (show decide (u=v)=false by rw[decide_eq_false_iff_not];intro h;subst h;omega);have hne:¬ ((n:Int)=(m:Int)):=by omega
  go_enter Tryz.func62,Tryz.ntmps62;go_wp2
  all_goals first
   | (exfalso;omega)
   | (go_ret;exact⟨by rw[HN.out];rfl,Below.refl _ _⟩)
theorem refFormedS_any (A:Option Addr) (n c:Nat) (l:List Sn.Sp) (w:World) (hl:l.length=n) (hR:Rd w w.heap.size 2 A n c (sv l)):
  Calls Tryz.prog 46 #[.slice A n c] w fun e w'=>e=.returned (.bool (Sn.fmS (-2) l))/\Below w.heap.size w w':=by
 have HF:=Hz_ (Sn.formed_both l);by_cases h128:n<=128
 ·have HR:=Hz_ hR;have H1:=Hz_ (refSet_any A n c l w hl hR);obtain⟨r,hr⟩:∃r,r=Sn.of (Sn.setOf l):=⟨_,rfl⟩;have H2:=fun W=>refOfS_any (Sn.setOf l) W;rw[<-hr] at H2;obtain⟨m,hm⟩:∃m,m=r.length:=⟨_,rfl⟩;rw[<-hm] at H2;have H3:=Hz_ fun (W:World) D d hR hD=>sameS_any A D n c m d l r W hl hm.symm hR hD;have HX:=Hz_ (show decide (l=r)=Sn.fmS (-2) l by rw[HF.out,hl,decide_eq_true h128,Bool.true_and,hr]);rw[HX.out] at H3;have H2:=Hz_ H2;generalize Sn.fmS (-2) l=z at H3 ⊢;generalize Sn.setOf l=q at H1 H2;clear hR hl hr hm HF HX;go_enter Tryz.func46,Tryz.ntmps46;go_wp2_with fail;refine H1.out.mono ?_;rintro e w1 ⟨rfl,hb1⟩;go_wp2_with fail;refine(H2.out w1).mono ?_;rintro e w2 ⟨D,d,rfl,ho,hb2⟩;have hb:=btn hb1 hb2;go_wp2_with fail;refine(H3.out w2 D d (HR.out.go hb) (Rd.of_own ho)).mono ?_;rintro e w3 ⟨rfl,hb3⟩;go_wp2;go_ret;exact⟨rfl,btn hb hb3⟩
 ·have HN:=Hz_ (show Sn.fmS (-2) l=false by rw[HF.out,hl,decide_eq_false h128];rfl);have hd:decide ((n:Int)<=128)=false:=by simp;omega
  clear HF hR hl;go_enter Tryz.func46,Tryz.ntmps46;go_wp2;go_ret;exact⟨by rw[HN.out];rfl,Below.refl _ _⟩
theorem fmS_drop (e:Int) (l:List Sn.Sp) (k:Nat) (h:k < l.length):Sn.fmS e (l.drop k)=(decide (l[k].1<=l[k].2) && (decide (l[k].2<=255) && (decide (0<=l[k].1) && (decide (e+1 < l[k].1) && Sn.fmS l[k].2 (l.drop (k+1)))))):=by
 rw[List.drop_eq_getElem_cons h,Sn.fmS]
theorem formedS_any (A:Option Addr) (n c:Nat) (l:List Sn.Sp) (w:World) (hl:l.length=n) (hR:Rd w w.heap.size 2 A n c (sv l)):
  Calls Tryz.prog 41 #[.slice A n c] w fun e w'=>e=.returned (.bool (Sn.fmS (-2) l))/\Below w.heap.size w w':=by
 have hmax:n<=9223372036854775807:=by have h1:=hR.cap;have h2:=hR.max;unfold maxLen at h2;omega
 go_enter Tryz.func41,Tryz.ntmps41;go_wp2;go_loopw [3,8] (fun x i wr=>∃(k:Nat) (e:Int),k<=n/\i=.int .i64 k/\x=.int .i64 e/\-2<=e/\e<=255/\Below w.heap.size w wr/\Hid (Sn.fmS (-2) l=Sn.fmS e (l.drop k))) (fun _ i _=>n - (intOf i).toNat)
 case atStart=>exact⟨0,-2,by omega,rfl,rfl,by omega,by omega,Below.refl _ _,rfl⟩
 case round=>
  obtain⟨k,e,hk,rfl,rfl,he1,he2,hb,hf⟩:=hrel;by_cases hlt:k < n
  ·have hkl:k < l.length:=by omega
   obtain⟨b,o,rfl,hab,h0,h1⟩:=(hR.below hb).stamp hl hlt;have HD:=Hz_ (fmS_drop e l k hkl);generalize hlo:(l[k]'hkl).1=lo at h0 HD;generalize hhi:(l[k]'hkl).2=hi at h1 HD;have HB:=Hz_ (hb.alloc hb.size (.cells #[.int .i64 lo,.int .i64 hi] 63));have HF:=Hz_ (hf.out.trans HD.out);clear hlo hhi hb hf HD hR hl;by_cases c1:lo<=hi
   ·by_cases c2:hi<=255
    ·by_cases c3:0<=lo
     ·by_cases c4:e+1 < lo
      ·have HN:=Hz_ (show Sn.fmS (-2) l=Sn.fmS hi (l.drop (k+1)) by rw[HF.out];simp[c1,c2,c3,c4]);have d1:decide (lo > hi)=false:=by simp;omega
       have d2:decide (hi > 255)=false:=by simp;omega
       have d3:decide (lo < 0)=false:=by simp;omega
       go_wp2;go_roundw
       case rel=>exact⟨k+1,hi,by omega,by go_num,rfl,by omega,by omega,HB.out,HN.out⟩
       case measure=>simp[intOf];omega
      ·have HN:=Hz_ (show Sn.fmS (-2) l=false by rw[HF.out];simp[c4]);go_wp2;go_ret;exact⟨by rw[HN.out];rfl,HB.out⟩
     ·have HN:=Hz_ (show Sn.fmS (-2) l=false by rw[HF.out];simp[c3]);have d3:decide (lo < 0)=true:=by simp;omega
      go_wp2;go_ret;exact⟨by rw[HN.out];rfl,HB.out⟩
    ·have HN:=Hz_ (show Sn.fmS (-2) l=false by rw[HF.out];simp[c2]);have d3:decide (hi > 255)=true:=by simp;omega
     go_wp2;go_ret;exact⟨by rw[HN.out];rfl,HB.out⟩
   ·have HN:=Hz_ (show Sn.fmS (-2) l=false by rw[HF.out];simp[c1]);have d3:decide (lo > hi)=true:=by simp;omega
    go_wp2;go_ret;exact⟨by rw[HN.out];rfl,HB.out⟩
  ·obtain rfl:k=n:=by omega
   have HN:=Hz_ (show Sn.fmS (-2) l=true by rw[hf.out,List.drop_of_length_le (by omega)];rfl);have HB:=Hz_ hb;clear hb hf hR hl;go_wp2;go_ret;exact⟨by rw[HN.out];rfl,HB.out⟩
theorem hasTest_any (lo hi x:Int) (Bx:Nat) (w:World) (hx:w.cell? ⟨Bx,0,none⟩=some (.int .i64 x)):
  Calls Tryz.prog 172 #[.agg #[.int .i64 lo,.int .i64 hi],.pointer (some ⟨Bx,0,none⟩)] w fun e w'=>e=.returned (.bool (decide (lo<=x) && decide (x<=hi)))/\Below w.heap.size w w':=by
 have hlt:=World.block_lt_of_cell? _ _ hx;have hb:Below w.heap.size w (w.alloc (.cells #[.int .i64 lo,.int .i64 hi] 63)):=Zr.alloc Zl _;by_cases c1:lo<=x
 ·have HX:=Hz_ (show (decide (lo<=x) && decide (x<=hi))=decide (x<=hi) by simp[c1]);rw[HX.out];go_enter Tryz.func172,Tryz.ntmps172;go_wp2;go_ret;exact⟨rfl,hb⟩
 ·have HX:=Hz_ (show (decide (lo<=x) && decide (x<=hi))=false by simp[c1]);rw[HX.out];have hd:decide (lo<=x)=false:=by simpa using c1
  go_enter Tryz.func172,Tryz.ntmps172;go_wp2;go_ret;exact⟨rfl,hb⟩
end Go.Proofs.YtmbeahbgafkjfaaGreatDoor
