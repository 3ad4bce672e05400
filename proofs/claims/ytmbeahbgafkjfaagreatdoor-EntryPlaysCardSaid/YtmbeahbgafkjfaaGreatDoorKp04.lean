/- Lemmas, layer 4. -/
import Derived.OpenShut
import Derived.Test.YtmbeahbgafkjfaaGreatDoorKp03
set_option linter.unusedSimpArgs false
set_option maxRecDepth 100000
set_option maxHeartbeats 16000000
open Go.Proofs.Tryz Go.RowKit
namespace Go.Proofs.YtmbeahbgafkjfaaGreatDoor
structure JF (g:Nat) (w w':World):Prop where
 os:w'.os=w.os
 tape:w'.tape=w.tape
 output:w'.output=w.output
 size:w.heap.size<=w'.heap.size
 block:∀k,k < w.heap.size->k≠g->w'.heap[k]?=w.heap[k]?
theorem JF.refl (g:Nat) (w:World):JF g w w:=⟨rfl,rfl,rfl,Ek _,fun _ _ _=>rfl⟩
theorem JF.trans {g:Nat} {a b c:World} (h:JF g a b) (k:JF g b c):JF g a c:=
 ⟨k.os.trans h.os,k.tape.trans h.tape,k.output.trans h.output,EY h.size k.size,fun i hi hn=>(k.block i (FC hi h.size) hn).trans (h.block i hi hn)⟩
theorem JF.of {g:Nat} {w w':World} (h:Bz w w'):JF g w w':=⟨h.os,h.tape,h.output,h.size,fun k hk _=>h.block k hk⟩
theorem JF.set_ {g:Nat} (w:World) {p:Addr} (hp:p.block=g) (u:Value):JF g w (w.setCell p u):=
 ⟨rfl,rfl,rfl,by simp,fun k _ hn=>GH w p u k (by rw[hp];exact hn)⟩
theorem JF.drew {g:Nat} (w:World):JF g w w.drew:=⟨rfl,rfl,rfl,Ek _,fun _ _ _=>rfl⟩
theorem JJ {g B:Nat} {a w w':World} (h:Below B a w) (k:JF g w w') (hB:B<=w.heap.size) (hg:B<=g):Below B a w':=
 ⟨k.os.trans h.os,k.tape.trans h.tape,k.output.trans h.output,EY h.size k.size,fun i hi=>(k.block i (by omega) (by omega)).trans (h.block i hi)⟩
theorem JF.below {g:Nat} {a b c:World} (h:JF g a b) (k:Below a.heap.size b c):JF g a c:=
 ⟨k.os.trans h.os,k.tape.trans h.tape,k.output.trans h.output,EY h.size k.size,fun i hi hn=>(k.block i hi).trans (h.block i hi hn)⟩
theorem Rd.but {g B size n c:Nat} {A:OA} {xs:List Value} {w w':World} (h:Rd w B size A n c xs) (k:JF g w w') (hB:B<=w.heap.size) (hg:B<=g):Rd w' B size A n c xs:=
 h.keep fun p hp=>GQ (k.block p.block (by omega) (by omega))
theorem Jm.but {g q:Nat} {t:TypeId} {cs:Array Value} {w w':World} (h:Jm w q t cs) (k:JF g w w') (hq:q≠g):Jm w' q t cs:=(k.block q h.lt hq).trans h
theorem Qf {g base size n:Nat} {e:TypeId} {v:Value} {xs:List Value} {w w':World} (h:w.ownsRow base e size v n xs) (k:JF g w w') (hg:g < base):w'.ownsRow base e size v n xs:=by
 refine⟨h.1,?_⟩;rcases h.2 with h2 | ⟨r,cap,cur,rfl,hbg,hh,rest⟩
 ·exact .inl h2
 ·exact .inr ⟨r,cap,cur,rfl,hbg,by rw[k.block r (EA.1 hh).1 (by omega)];exact hh,rest⟩
theorem Jgn {g base size n:Nat} {e:TypeId} {v:Value} {xs:List Value} {w w':World} (h:w.ownsRow base e size v n xs) (k:JF g w w') (hg:v.ownBlock≠some g):w'.ownsRow base e size v n xs:=by
 refine⟨h.1,?_⟩;rcases h.2 with h2 | ⟨r,cap,cur,rfl,hbg,hh,rest⟩
 ·exact .inl h2
 ·exact .inr ⟨r,cap,cur,rfl,hbg,by rw[k.block r (EA.1 hh).1 (fun e=>hg (by subst e;rfl))];exact hh,rest⟩
theorem UP {P:Program} {ops:Array Oper} {Q:Exit->Act->World->Prop} {md:Region.Mode} {S:World->Prop} {i d:Nat} {oi:Oper} {v:Value} {fuel:Nat} {listed:Array Bool} {a:Act} {w:World} (hi:ops[i]?=some oi) (hd:oi.dst=some d)
  (hs:Region.noSelect ops=true) (hf:Region.free md ops listed i=true) (hr:(Region.ready md ops listed).contains i=true)
  (hQ:∀c a w,Q (.panic c) (a.put oi.dst v) w->Q (.panic c) a w) (hy:YieldsIf P ops S oi v a) (hS:S w)
  (h:wpAnyH P md ops Q S fuel (listed.setIfInBounds i true) { tmps:=a.tmps.setIfInBounds d v,defers:=a.defers } w):wpAnyH P md ops Q S (fuel+1) listed a w:=
 wpAnyH_take hi hs hf hr hQ hy hS (by rw[hd];exact h)
/-! The same in few words. -/
theorem Qx {P:Program} {ops:Array Oper} {Q:Exit->Act->World->Prop} {md:Region.Mode} {S:World->Prop} (i d:Nat) {oi:Oper} {v:Value} {fuel:Nat} {listed:Array Bool} {a:Act} {w:World} {b:Array Value} (hS:S w)
  (h:wpAnyH P md ops Q S fuel (listed.setIfInBounds i true) { tmps:=b,defers:=a.defers } w)
  (hi:ops[i]?=some oi:=by exact rfl) (hd:oi.dst=some d:=by exact rfl)
  (hs:Region.noSelect ops=true:=by kernel_rfl) (hf:Region.free md ops listed i=true:=by kernel_rfl) (hr:(Region.ready md ops listed).contains i=true:=by kernel_rfl)
  (hQ:∀c a w,Q (.panic c) (a.put oi.dst v) w->Q (.panic c) a w:=by exact fun _ _ _ h=>h) (hw:Region.wanted oi (yielded ops a.tmps)=true:=by kernel_rfl)
  (hy:∀w,S w->(execOp a.eval oi).run P w=.ok (.value v) w:=by (intro w hS;(try dsimp only at hS);go_simp<;>with_reducible rfl))
  (hb:a.tmps.setIfInBounds d v=b:=by (first | (simp only[Jq,Jo,Jp];done) | (simp only[Jq,Jo,Jp];exact rfl) | exact rfl)):wpAnyH P md ops Q S (fuel+1) listed a w:=
 UP hi hd hs hf hr hQ (.inl ⟨hw,hy⟩) hS (hb ▸ h)
theorem Jc {P:Program} {ops:Array Oper} {Q:Exit->Act->World->Prop} {md:Region.Mode} {S:World->Prop} (i d i2 d2:Nat) {oi o2:Oper} {v v2:Value} {fuel:Nat} {listed:Array Bool} {a:Act} {w:World} {b b2:Array Value} (hS:S w)
 (h:wpAnyH P md ops Q S fuel ((listed.setIfInBounds i true).setIfInBounds i2 true) {tmps:=b2,defers:=a.defers} w)
 (hi:ops[i]?=some oi:=by exact rfl) (hd:oi.dst=some d:=by exact rfl) (hs:Region.noSelect ops=true:=by kernel_rfl) (hf:Region.free md ops listed i=true:=by kernel_rfl) (hr:(Region.ready md ops listed).contains i=true:=by kernel_rfl) (hQ:∀c a w,Q (.panic c) (a.put oi.dst v) w->Q (.panic c) a w:=by exact fun _ _ _ h=>h) (hw:Region.wanted oi (yielded ops a.tmps)=true:=by kernel_rfl)
 (hy:∀w,S w->(execOp a.eval oi).run P w=.ok (.value v) w:=by (intro w hS;(try dsimp only at hS);go_simp <;> with_reducible rfl))
 (hb:a.tmps.setIfInBounds d v=b:=by (first | (simp only[Jq,Jo,Jp];done) | (simp only[Jq,Jo,Jp];exact rfl) | exact rfl))
 (hi2:ops[i2]?=some o2:=by exact rfl) (hd2:o2.dst=some d2:=by exact rfl) (hf2:Region.free md ops (listed.setIfInBounds i true) i2=true:=by kernel_rfl) (hr2:(Region.ready md ops (listed.setIfInBounds i true)).contains i2=true:=by kernel_rfl) (hQ2:∀c a w,Q (.panic c) (a.put o2.dst v2) w->Q (.panic c) a w:=by exact fun _ _ _ h=>h) (hw2:Region.wanted o2 (yielded ops b)=true:=by kernel_rfl)
 (hy2:∀w,S w->(execOp (Act.eval {tmps:=b,defers:=a.defers}) o2).run P w=.ok (.value v2) w:=by (intro w hS;(try dsimp only at hS);go_simp <;> with_reducible rfl))
 (hb2:b.setIfInBounds d2 v2=b2:=by (first | (simp only[Jq,Jo,Jp];done) | (simp only[Jq,Jo,Jp];exact rfl) | exact rfl)):wpAnyH P md ops Q S (fuel+2) listed a w:=Qx i d hS (Qx (a:={tmps:=b,defers:=a.defers}) i2 d2 hS h hi2 hd2 hs hf2 hr2 hQ2 hw2 hy2 hb2) hi hd hs hf hr hQ hw hy hb
theorem puB {P:Program} {ops:Array Oper} {Q:Exit->Act->World->Prop} {md:Region.Mode} {S:World->Prop} (i d:Nat) (v:Value) {oi:Oper} {fuel:Nat} {listed:Array Bool} {a:Act} {w:World} {b:Array Value} (hS:S w)
  (h:wpAnyH P md ops Q S fuel (listed.setIfInBounds i true) { tmps:=b,defers:=a.defers } w)
  (hi:ops[i]?=some oi:=by exact rfl) (hd:oi.dst=some d:=by exact rfl)
  (hs:Region.noSelect ops=true:=by kernel_rfl) (hf:Region.free md ops listed i=true:=by kernel_rfl) (hr:(Region.ready md ops listed).contains i=true:=by kernel_rfl)
  (hQ:∀c a w,Q (.panic c) (a.put oi.dst v) w->Q (.panic c) a w:=by exact fun _ _ _ h=>h) (hw:Region.wanted oi (yielded ops a.tmps)=true:=by kernel_rfl)
  (hy:∀w,S w->(execOp a.eval oi).run P w=.ok (.value v) w:=by (intro w hS;(try dsimp only at hS);go_simp<;>with_reducible rfl))
  (hb:a.tmps.setIfInBounds d v=b:=by (first | (simp only[Jq,Jo,Jp];done) | (simp only[Jq,Jo,Jp];exact rfl) | exact rfl)):wpAnyH P md ops Q S (fuel+1) listed a w:=
 UP hi hd hs hf hr hQ (.inl ⟨hw,hy⟩) hS (hb ▸ h)
theorem JB {P:Program} {ops:Array Oper} {Q:Exit->Act->World->Prop} {md:Region.Mode} {S:World->Prop} (i d:Nat) {oi:Oper} {fuel:Nat} {listed:Array Bool} {a:Act} {w:World} {b:Array Value} (hS:S w)
  (h:wpAnyH P md ops Q S fuel (listed.setIfInBounds i true) { tmps:=b,defers:=a.defers } w)
  (hi:ops[i]?=some oi:=by exact rfl) (hd:oi.dst=some d:=by exact rfl)
  (hs:Region.noSelect ops=true:=by kernel_rfl) (hf:Region.free md ops listed i=true:=by kernel_rfl) (hr:(Region.ready md ops listed).contains i=true:=by kernel_rfl)
  (hQ:∀c a w,Q (.panic c) (a.put oi.dst undef) w->Q (.panic c) a w:=by exact fun _ _ _ h=>h) (hw:Region.wanted oi (yielded ops a.tmps)=false:=by kernel_rfl)
  (hb:a.tmps.setIfInBounds d undef=b:=by (first | (simp only[Jq,Jo,Jp];done) | (simp only[Jq,Jo,Jp];exact rfl) | exact rfl)):wpAnyH P md ops Q S (fuel+1) listed a w:=
 UP hi hd hs hf hr hQ (.inr ⟨hw,rfl⟩) hS (hb ▸ h)
theorem Qa {P:Program} {ops:Array Oper} {Q:Exit->Act->World->Prop} {md:Region.Mode} {S:World->Prop} (i:Nat) {o:Oper} {fuel:Nat} {listed:Array Bool} {a:Act} {w:World}
  (h:∀K':Act->World->Prop,Shut (∀a w,S w->(S w->wpAnyH P md ops Q S fuel (listed.setIfInBounds i true) a w)->K' a w)->if Region.wanted o (yielded ops a.tmps)=true then Oper.wp P o a w K' Q else K' (a.put o.dst undef) w)
  (hr:Region.ready md ops listed=[i]:=by kernel_rfl) (ho:ops[i]?=some o:=by exact rfl):wpAnyH P md ops Q S (fuel+1) listed a w:=
 EO hr (by simp) (Ee ho h EH)
def Jaw:Option (List UInt8)->Nat
 | none=>0
 | some l=>match Wq.pN l with | none=>0 | some (x,_)=>x
def UD:Option (List UInt8)->Option (List UInt8)
 | none=>none
 | some l=>match Wq.pN l with | none=>none | some (_,r)=>some r
theorem Jbk {l r:List UInt8} {x:Nat} (h:Wq.pN l=some (x,r)):Jaw (some l)=x:=by simp only[Jaw,h]
theorem KN {l r:List UInt8} {x:Nat} (h:Wq.pN l=some (x,r)):UD (some l)=some r:=by simp only[UD,h]
theorem JaL {l:List UInt8} (h:Wq.pN l=none):UD (some l)=none:=by simp only[UD,h]
theorem JnG (s:Option (List UInt8)):Jaw s < 9223372036854775808:=by
 cases s with
 | none=>show 0 < _;omega
 | some l=>
  unfold Jaw;simp only;split
  ·omega
  ·rename_i x r h;exact(Wq.Jcc h).2
def PR (w:World) (g T:Nat):Option (List UInt8)->Prop
 | some l=>∃A n c,Jm w g 156 #[.slice A n c,.int .i64 (((T - l.length:Nat)):Int),.bool false]/\Rd w g 1 A n c (bv l)/\l.length=n/\l.length<=T/\T<=maxLen
 | none=>∃A n c k,Jm w g 156 #[.slice A n c,.int .i64 k,.bool true]
theorem PR.lt {w:World} {g T:Nat} {s:Option (List UInt8)} (h:PR w g T s):g < w.heap.size:=by
 cases s with
 | none=>obtain⟨A,n,c,k,h⟩:=h;exact h.lt
 | some l=>obtain⟨A,n,c,h,_⟩:=h;exact h.lt
theorem PR.go {w w':World} {g T:Nat} {s:Option (List UInt8)} (h:PR w g T s) (hb:Bz w w'):PR w' g T s:=by
 cases s with
 | none=>obtain⟨A,n,c,k,h⟩:=h;exact⟨A,n,c,k,h.go hb⟩
 | some l=>obtain⟨A,n,c,h,h2,h3⟩:=h;exact⟨A,n,c,h.go hb,h2.below (hb.mono (NF h.lt)),h3⟩
theorem PR.below {w w':World} {g T B:Nat} {s:Option (List UInt8)} (h:PR w g T s) (hb:Below B w w') (hg:g < B):PR w' g T s:=by
 cases s with
 | none=>obtain⟨A,n,c,k,h⟩:=h;exact⟨A,n,c,k,h.below hb hg⟩
 | some l=>obtain⟨A,n,c,h,h2,h3⟩:=h;exact⟨A,n,c,h.below hb hg,h2.below (hb.mono (by omega)),h3⟩
theorem Jna (g k n c:Nat) (A:OA) (z:Int) (w:World) (hB:Jm w g 156 #[.slice A n c,.int .i64 z,.bool false]) (hk:k<=n) (h0:0<=z) (hz:z+k<=9223372036854775807):
  Calls prog 176 #[.pointer (some ⟨g,0,none⟩),.int .i64 k,.int .i64 0] w fun e w'=>e=.returned (.bool true) /\
   Jm w' g 156 #[.slice (Qu 1 A c k) (n - k) (c - k),.int .i64 (z+k),.bool false]/\JF g w w':=by
 have hs:=fun W=>Yh (P:=prog) W 29 5 1 underlying29 JaB A n c .i64 k k rfl hk;have f0:=hB.frozen 0;have c0:=hB.cell 0;have f1:=hB.frozen 1;have c1:=hB.cell 1;have HB:=Ja hB;clear hB;go_enter func176,ntmps176;go_wp2;go_region;go_wp2;go_ret;exact⟨rfl,((HB.out.set_ 0 (.slice (Qu 1 A c k) (n - k) (c - k))).set_ 1 (.int .i64 (z+k))),((JF.set_ w (p:=⟨g,0,none⟩) rfl _).trans (JF.set_ _ (p:=⟨g,1,none⟩) rfl _)).trans (JF.drew _)⟩
theorem JkX (g:Nat) (v z:Value) (k er:Int) (w:World) (hB:Jm w g 156 #[v,z,.bool false]) (he:er≠0):
  Calls prog 176 #[.pointer (some ⟨g,0,none⟩),.int .i64 k,.int .i64 er] w fun e w'=>e=.returned (.bool false) /\
   Jm w' g 156 #[v,z,.bool true]/\JF g w w':=by
 have f2:=hB.frozen 2;have c2:=hB.cell 2;have HB:=Ja hB;clear hB;go_enter func176,ntmps176;go_wp2;go_ret;exact⟨rfl,HB.out.set_ 2 (.bool true),JF.set_ w (p:=⟨g,2,none⟩) rfl _⟩
theorem JkA (g T:Nat) (s:Option (List UInt8)) (w:World) (h:PR w g T s):
  Calls prog 124 #[.pointer (some ⟨g,0,none⟩)] w fun e w'=>e=.returned (.int .i64 (Jaw s))/\PR w' g T (UD s)/\JF g w w':=by
 rcases s with _ | l
 ·have h':=h;obtain⟨A,n,c,k,hB⟩:=h;have c2:=hB.cell 2;have H:=Ja h';clear hB h';go_enter func124,ntmps124;go_wp2;go_ret;exact⟨rfl,H.out,JF.refl _ _⟩
 ·obtain⟨A,n,c,hB,hR,hl,hT,hm⟩:=h;obtain⟨x,k,er,hx⟩:∃x k er,Pk.Kj l 0 l=(x,k,er):=⟨_,_,_,rfl⟩;have H1:=Ja (JdW hx hl (hR.more (NF hB.lt)));have c0:=hB.cell 0;have c2:=hB.cell 2;unfold maxLen at hm;by_cases he:er=0
  ·subst he;obtain⟨b1,b2,b3,b4,b5⟩:=Pk.Ja0 hx;have hp:=Wq.JeI hx;have hv:Jaw (some l)=x:=by simp only[Jaw,hp]
   have hss:UD (some l)=some (l.drop k):=by simp only[UD,hp]
   rw[hv,hss];have H2:=Ja (Jna g k n c A ((T - l.length:Nat):Int) w hB (by omega) (by omega) (by omega));have HR:=Ja (hR.from_ (k:=k) (by omega));have HE:=Ja (show (((T - l.length:Nat):Int)+k)=((T - (l.drop k).length:Nat):Int) by rw[EP];omega);have HL:=Ja (show (l.drop k).length=n - k by rw[EP];omega);have HM:=Ja (show (l.drop k).length<=T by rw[EP];omega);clear hR hl hx hp hv hss b1 b2 b3 b4 b5 hT;go_enter func124,ntmps124;go_wp2_with fail;refine H1.out.mono ?_;rintro e w1 ⟨rfl,rfl⟩;go_wp2_with fail;refine H2.out.mono ?_;rintro e w2 ⟨rfl,hB2,hb2⟩;go_wp2;go_ret;have h2:=HR.out;rw[Nat.mul_one,<-JiV] at h2;rw[HE.out] at hB2;exact⟨rfl,⟨_,_,_,hB2,(h2.but hb2 (NF hB.lt) Zl),HL.out,HM.out,by unfold maxLen;exact hm⟩,hb2⟩
  ·have hp:=Wq.Ji6 hx he;have hv:Jaw (some l)=0:=by simp only[Jaw,hp]
   have hss:UD (some l)=none:=by simp only[UD,hp]
   rw[hv,hss];have he2:(er:Int)≠0:=by omega
   have hx0:x=0:=by
    rcases Pk.JiD l l 0 with h3 | h3 | h3<;>rw[hx] at h3
    ·exact absurd h3 he
    ·exact(Prod.mk.inj h3).1
    ·exact(Prod.mk.inj h3).1
   subst hx0;have H2:=Ja (JkX g (.slice A n c) (.int .i64 ((T - l.length:Nat):Int)) k er w hB he2);clear hR hl hx hp hv hss hT he he2;go_enter func124,ntmps124;go_wp2_with fail;refine H1.out.mono ?_;rintro e w1 ⟨rfl,rfl⟩;go_wp2_with fail;refine H2.out.mono ?_;rintro e w2 ⟨rfl,hB2,hb2⟩;go_wp2;go_ret;exact⟨rfl,⟨_,_,_,_,hB2⟩,hb2⟩
def Xv (p:Nat->Bool):Array Value:=((List.range 256).map fun n=>.bool (p n)).toArray
theorem YB (p:Nat->Bool):(Xv p).size=256:=by simp[Xv]
theorem YJ (p:Nat->Bool) (n:Nat) (hn:n < 256):(Xv p)[n]?=some (.bool (p n)):=by simp[Xv,hn]
def JaD (p:Nat->Bool) (m:Nat) (b:Bool):Nat->Bool:=fun n=>if n=m then b else p n
theorem JcM (p:Nat->Bool) (m:Nat) (b:Bool) (hm:m < 256):(Xv p).setIfInBounds m (.bool b)=Xv (JaD p m b):=by
 apply NO;intro i;rw[Gw];by_cases hi:i < 256
 ·rw[YJ (JaD p m b) i hi];by_cases he:m=i
  ·subst he;simp[YB,JaD,hm]
  ·rw[Ef he,YJ p i hi,JaD,Ef (by omega)]
 ·rw[Ef (by omega),FP (by rw[YB];omega),FP (by rw[YB];omega)]
theorem Ug {p q:Nat->Bool} (e:∀n,n < 256->p n=q n):Xv p=Xv q:=by
 unfold Xv;congr 1;exact NH fun n hn=>by rw[e n (by simpa using hn)]
theorem JaH (p:Nat->Bool):(Xv p).all (·.oneCell')=true:=by
 rw[NP];intro x hx;simp only[Xv,List.mem_toArray,Gp] at hx;obtain⟨n,_,rfl⟩:=hx;rfl
theorem Uk:(prog.info? 149).map (fun i=>(i.zero,i.size))=some (some (.agg (Xv (fun _=>false))),256):=by kernel_rfl
theorem Jbn:(prog.info? 63).map (fun i=>(i.zero,i.size,i.bytes))=some (some (.agg #[.int .i64 0,.int .i64 0]),2,16):=by kernel_rfl
theorem Jhi (l:List Sn.Sp) (k:Nat) (h:k < l.length) (o:Nat):Sn.Qp (l.take (k+1)) o=(Sn.Qp (l.take k) o || (decide (l[k].1<=(o:Int)) && decide ((o:Int)<=l[k].2))):=by
 unfold Sn.Qp;rw[Eq h,Sn.XI];simp[Sn.Xs]
def part (p:Nat->Bool) (lo o:Nat):Nat->Bool:=fun n=>p n || (decide (lo<=n) && decide (n < o))
theorem Jib (p:Nat->Bool) (lo:Nat):∀n,part p lo lo n=p n:=fun n=>by
 unfold part;have:(decide (lo<=n) && decide (n < lo))=false:=by simp
 rw[this,FN]
theorem Jkq (p:Nat->Bool) (lo o:Nat) (h:lo<=o):∀n,JaD (part p lo o) o true n=part p lo (o+1) n:=fun n=>by
 unfold JaD part;by_cases e:n=o
 ·subst e;simp;exact .inr h
 ·rw[Ef e];have:decide (n < o+1)=decide (n < o):=by simp;omega
  rw[this]
theorem Jaq (A:OA) (n c:Nat) (l:List Sn.Sp) (w:World) (hl:l.length=n) (hR:Rd w w.heap.size 2 A n c (sv l)):
  Calls prog 118 #[.slice A n c] w fun e w'=>e=.returned (.agg (Xv (Sn.Qp l)))/\Bz w w':=by
 obtain⟨hz,hi⟩:=FG Uk;have HI:=Ja hi;clear hi;have hmax:n<=9223372036854775807:=by have h1:=hR.cap;have h2:=hR.max;unfold maxLen at h2;omega
 go_enter func118,ntmps118;go_wp2;go_loopw [4] (fun i wr=>∃k:Nat,k<=n/\i=.int .i64 k/\Bz w wr/\Jm wr w.heap.size 149 (Xv fun _=>false)/\Jm wr (w.heap.size+1) 149 (Xv (Sn.Qp (l.take k)))) (fun i _=>n - (intOf i).toNat)
 case atStart=>
  refine⟨0,by omega,rfl,(Zr.alloc Zl _).alloc (by simp) _,(Jm.new _ _ _).alloc _,?_⟩;have:=Jm.new (w.alloc (.cells (Xv fun _=>false) 149)) 149 (Xv fun _=>false);rw[El] at this;exact this
 case round=>
  obtain⟨k,hk,rfl,hb,hz2,hblk⟩:=hrel;have HB:=Ja hb;have HZ:=Ja hz2;by_cases hlt:k < n
  ·have hkl:k < l.length:=by omega
   obtain⟨b,o,rfl,hab,g0,g1⟩:=hR.stamp hl hlt;have h0:=(hb.cell (p:=⟨b,o+k * 2,none⟩) hab).trans g0;have h1:=(hb.cell (p:=⟨b,o+k * 2+1,none⟩) hab).trans g1;have HS:=Ja (Jhi l k hkl);have HK:=Ja hblk;generalize hlo:(l[k]'hkl).1=lo at h0 g0 HS;generalize hhi:(l[k]'hkl).2=hi at h1 g1 HS;clear hlo hhi hblk hb hz2;by_cases hp:0 < lo
   all_goals
    obtain⟨lo',hlo',HL⟩:∃lo':Nat,(lo=(lo':Int)\/(¬ 0 < lo/\lo'=0))/\Hid (∀m:Nat,lo<=(m:Int)↔lo'<=m):=by
     by_cases h:0 < lo
     ·exact⟨lo.toNat,.inl (by omega),fun m=>by omega⟩
     ·exact⟨0,.inr ⟨h,rfl⟩,fun m=>by omega⟩
    have hst:Hid (∀x:Int,(x=lo/\0 < lo\/x=0/\¬ 0 < lo)->x=(lo':Int)):=fun x hx=>by omega
    clear hlo';go_wp2;go_loopw [5] (fun x wr=>∃j:Nat,lo'<=j/\j<=max lo' 256/\x=.int .i64 j/\Bz w wr/\Jm wr w.heap.size 149 (Xv fun _=>false) /\
     Jm wr (w.heap.size+1) 149 (Xv (part (Sn.Qp (l.take k)) lo' j))/\Hid (lo' < j->(j:Int) - 1<=hi)) (fun x _=>256 - (intOf x).toNat)
    case atStart=>
     refine⟨lo',Ek _,by omega,?_,HB.out,HZ.out,?_,fun h=>absurd h (by omega)⟩
     ·have:=hst.out _ (by first | exact .inl ⟨rfl,hp⟩ | exact .inr ⟨rfl,hp⟩)
      first | (rw[this];done) | (rw[<-this];done) | exact congrArg _ this
     ·rw[Ug fun n _=>Jib _ lo' n];exact HK.out
    case round=>
     obtain⟨j,hj1,hj2,rfl,hb5,q1,q2,hq⟩:=hrel;have HB5:=Ja hb5;have Q1:=Ja q1;have Q2:=Ja q2;have hsz:=q2.lt;have k1:=(hb5.cell (p:=⟨b,o+k * 2+1,none⟩) hab).trans g1;have fj:=q2.frozen j;clear hb5 q1 q2;by_cases hm:hi < 255
     all_goals
      by_cases hj:(j:Int)<=255/\(j:Int)<=hi
      ·obtain⟨hja,hjb⟩:=hj;have gj:=Q2.out.cell j;rw[YJ _ _ (by omega)] at gj;go_wp2;go_roundw
       case rel=>
        refine⟨j+1,by omega,by omega,by go_num,HB5.out.setCell (p:=⟨w.heap.size+1,j,none⟩) (by show _<=w.heap.size+1;omega) _,Jm.far Q1.out (by simp) _,?_,fun _=>by omega⟩;have h5:=Q2.out.set_ j (.bool true);rw[JcM _ _ _ (by omega),Ug (fun n _=>Jkq _ _ _ hj1 n)] at h5;exact h5
       case measure=>simp[intOf];omega
      ·go_wp2;go_roundw
       case rel=>
        refine⟨k+1,by omega,by go_num,HB5.out,Q1.out,?_⟩;have hh:∀n:Nat,n < 256->part (Sn.Qp (l.take k)) lo' j n=Sn.Qp (l.take (k+1)) n:=fun n hn=>by
         rw[HS.out n,part];congr 1;have e1:=HL.out n;have e2:=hq.out;rw[EM];simp only[Ea,Ej];omega
        rw[<-Ug hh];exact Q2.out
       case measure=>simp[intOf];omega
  ·obtain rfl:k=n:=by omega
   have ht:l.take k=l:=Eo (by omega);rw[ht] at hblk;have HK:=Ja hblk;clear hR hblk hz2 ht hl;go_wp2_with (first
    | (refine FA rfl 149 _ rfl (w.heap.size+1) rfl 149 _ _ _ HK.out underlying149 rfl (by rw[YB];exact HI.out) ?_)
    | (refine Je rfl 149 _ _ rfl w.heap.size 149 _ (Xv (Sn.Qp l)) rfl rfl HZ.out (by rw[YB];exact HI.out) rfl (JaH _) ?_;intro w4 hk4 hg4))
   refine EF (Gc rfl _ _ w.heap.size 149 _ _ _ rfl hk4 underlying149 rfl (by rw[YB];exact HI.out)) rfl ⟨rfl,HB.out.trans (Jb hg4 HB.out.size (fun k hk=>by cases hk;exact Ek _))⟩
theorem Jnq (l:List Sn.Sp) (x:Int):(Sn.ext l x).length=l.length:=by
 rcases FT l with rfl | ⟨r,s,rfl⟩
 ·rfl
 ·rw[FU,Sn.JcY];simp
theorem Joa (l:List Sn.Sp) (x:Int) (h:l≠[]):sv (Sn.ext l x)=(sv l).set ((l.length - 1) * 2+1) (.int .i64 x):=by
 rcases FT l with rfl | ⟨r,s,rfl⟩
 ·exact absurd rfl h
 ·rw[FU,Sn.JcY,Xb,Xb,Eb,List.length_singleton,Gb,Fk _ _ (by rw[JeG];omega),JeG,FL];rfl
theorem JlX (p:Nat->Bool) (k:Nat) (h:p k=true) (h2:¬ (k≠0/\p (k - 1)=true)):Sn.Xc p (k+1)=Sn.Xc p k++[((k:Int),(k:Int))]:=by rw[Sn.Xc,Ei h,Ef h2]
theorem Jmf (p:Nat->Bool) (k:Nat) (h:p k=true) (h2:k≠0/\p (k - 1)=true):Sn.Xc p (k+1)=Sn.ext (Sn.Xc p k) k:=by rw[Sn.Xc,Ei h,Ei h2]
theorem Jju (p:Nat->Bool) (k:Nat) (h:p k=false):Sn.Xc p (k+1)=Sn.Xc p k:=by rw[Sn.Xc,Ef (by simp[h])]
theorem Jhn (p:Nat->Bool) (w:World):
  Calls prog 117 #[.agg (Xv p)] w fun e w'=>∃A' c',e=.returned (.slice A' (Sn.of p).length c') /\
   w'.ownsRow w.heap.size 63 2 (.slice A' (Sn.of p).length c') (Sn.of p).length (sv (Sn.of p))/\Bz w w':=by
 obtain⟨i0,hi0,hz0,hz1,hz2⟩:=EN Jbn;go_enter func117,ntmps117;go_wp2;go_loopw [3,4] (fun s i wr=>∃(k m c':Nat) (A':OA),k<=256/\i=.int .i64 k/\s=.slice A' m c'/\m<=k/\Bz w wr/\Jm wr w.heap.size 149 (Xv p) /\
  Hid ((Sn.Xc p k).length=m)/\wr.ownsRow (w.heap.size+1) 63 2 (.slice A' m c') m (sv (Sn.Xc p k))) (fun _ i _=>256 - (intOf i).toNat)
 case atStart=>exact⟨0,0,0,none,by omega,rfl,rfl,by omega,Zr.alloc Zl _,Jm.new _ _ _,rfl,ED _ _ _ _⟩
 case round=>
  obtain⟨k,m,c',A',hk,rfl,rfl,hm,hb,hblk,hlen,ho⟩:=hrel;have HO:=Ja ho;have HK:=Ja hblk;have HB:=Ja hb;have hsz:=hblk.lt;clear ho hb;by_cases hlt:k < 256
  ·have gk:=hblk.cell k;rw[YJ _ _ hlt] at gk;rcases hp:p k with _ | _
   ·have HN:=Ja (Jju p k hp);rw[hp] at gk;clear hblk hp;go_wp2;go_roundw
    case rel=>exact⟨k+1,m,c',A',by omega,by go_num,rfl,by omega,HB.out,HK.out,by show _=_;rw[HN.out,hlen.out],by rw[HN.out];exact HO.out⟩
    case measure=>simp[intOf];omega
   ·rw[hp] at gk;by_cases hext:k≠0/\p (k - 1)=true
    ·have hn1:Sn.Xc p k≠[]:=(Sn.Je6 p k hk).2.2.2 hext;have hm0:0 < m:=by rw[<-hlen.out];exact List.length_pos_iff.2 hn1
     have HN:=Ja (Jmf p k hp hext);have HX:=Ja (Joa (Sn.Xc p k) k hn1);obtain⟨hk0,hp1⟩:=hext;have gk1:=hblk.cell (k - 1);rw[YJ _ _ (by omega),hp1] at gk1;obtain⟨j,hj⟩:∃j,k=j+1:=⟨k - 1,by omega⟩;subst hj;rw[Gb] at gk1;obtain⟨i,rfl⟩:∃i,m=i+1:=⟨m - 1,by omega⟩;obtain⟨g,cap,hv,hbg,hlg⟩:=HO.out.form (by omega);obtain⟨rfl,rfl⟩:A'=some ⟨g,0,none⟩/\c'=cap:=by injection hv with a1 a2 a3;exact⟨a1,a3⟩
     have fz:=HO.out.frozenAt (i * 2+1);have hcl:=HO.out.cellAt (i * 2+1) (by have:=HO.out.1;omega);obtain⟨u,hu⟩:∃u,(sv (Sn.Xc p (j+1)))[i * 2+1]?=some u:=⟨_,Em (by have:=HO.out.1;omega)⟩;rw[hu] at hcl;have e1:(((j+1:Nat):Int) - 1)=(j:Int):=by omega
     have e2:(((i+1:Nat):Int) - 1)=(i:Int):=by omega
     have hst:=HO.out.stored (i * 2+1) (.int .i64 ((j+1:Nat):Int));have HST:=Ja hst;clear hblk hp hp1 hv hu hst;go_wp2;go_roundw
     case rel=>
      refine⟨j+1+1,i+1,c',some ⟨g,0,none⟩,by omega,by go_num,rfl,by omega,HB.out.setCell (p:=⟨g,i * 2+1,none⟩) (by show _<=g;omega) _,Jm.far HK.out (by show _≠g;omega) _,?_,?_⟩
      ·show _=_;rw[HN.out,Jnq,hlen.out]
      ·rw[HN.out,HX.out,hlen.out,Gb];exact HST.out.1
     case measure=>simp[intOf];omega
    ·have HN:=Ja (JlX p k hp hext);have h63:m+1<=maxLen:=by unfold maxLen;omega
     have h1max:1<=maxLen:=by unfold maxLen;omega
     by_cases hk0:k=0
     ·subst hk0;clear hblk hp hext;go_wp2_with (at_builtin;go_must (refine Jh _ rfl (.tmp 28) (.tmp 32) _ rfl (w.heap.size+1) 63 i0 _ 2 16 underlying23 hi0 hz0 hz1 hz2 rfl (by decide) (.slice A' m c') m _ rfl (HO.out.alloc _) (wr.heap.size+1) (some ⟨wr.heap.size,0,none⟩) 1 1 [.int .i64 ((0:Nat):Int),.int .i64 ((0:Nat):Int)] rfl (Rd.new wr _ 2 1 #[.int .i64 ((0:Nat):Int),.int .i64 ((0:Nat):Int)] rfl h1max) (Ju [(((0:Nat):Int),((0:Nat):Int))]) h63 (by omega) (by simp;omega) ?_);intro A3 c3 w3 ho3 hg3 hat3);go_roundw
      case rel=>
       refine⟨0+1,m+1,c3,A3,by omega,by go_num,rfl,by omega,(HB.out.alloc (by omega) _).trans (Jb hg3 (by simp;omega) (fun g hg=>by have:=JM HO.out g hg;omega)),(HK.out.alloc _).grown hg3 (fun e=>by have:=JM HO.out _ e.symm;omega),?_,?_⟩
       ·show _=_;rw[HN.out,Eb,hlen.out];rfl
       ·rw[HN.out,Xb];exact ho3
      case measure=>simp[intOf]
     ·have hp1:p (k - 1)=false:=by
       rcases hh:p (k - 1) with _ | _
       ·rfl
       ·exact absurd ⟨hk0,hh⟩ hext
      have gk1:=hblk.cell (k - 1);rw[YJ _ _ (by omega),hp1] at gk1;obtain⟨j,hj⟩:∃j,k=j+1:=⟨k - 1,by omega⟩;subst hj;rw[Gb] at gk1;have e1:(((j+1:Nat):Int) - 1)=(j:Int):=by omega
      clear hblk hp hp1 hext;go_wp2_with (at_builtin;go_must (refine Jh _ rfl (.tmp 28) (.tmp 32) _ rfl (w.heap.size+1) 63 i0 _ 2 16 underlying23 hi0 hz0 hz1 hz2 rfl (by decide) (.slice A' m c') m _ rfl (HO.out.alloc _) (wr.heap.size+1) (some ⟨wr.heap.size,0,none⟩) 1 1 [.int .i64 ((j+1:Nat):Int),.int .i64 ((j+1:Nat):Int)] rfl (Rd.new wr _ 2 1 #[.int .i64 ((j+1:Nat):Int),.int .i64 ((j+1:Nat):Int)] rfl h1max) (Ju [(((j+1:Nat):Int),((j+1:Nat):Int))]) h63 (by omega) (by simp;omega) ?_);intro A3 c3 w3 ho3 hg3 hat3);go_roundw
      case rel=>
       refine⟨j+1+1,m+1,c3,A3,by omega,by go_num,rfl,by omega,(HB.out.alloc (by omega) _).trans (Jb hg3 (by simp;omega) (fun g hg=>by have:=JM HO.out g hg;omega)),(HK.out.alloc _).grown hg3 (fun e=>by have:=JM HO.out _ e.symm;omega),?_,?_⟩
       ·show _=_;rw[HN.out,Eb,hlen.out];rfl
       ·rw[HN.out,Xb];exact ho3
      case measure=>simp[intOf];omega
  ·obtain rfl:k=256:=by omega
   clear hblk;go_wp2;go_ret;have hl:(Sn.of p).length=m:=hlen.out;exact⟨A',c',by rw[hl];rfl,by rw[hl];exact Jk HO.out (by omega),HB.out⟩
theorem JdR (A:OA) (n c:Nat) (xs:List Value) (w:World) (hR:Rd w w.heap.size 2 A n c xs) (h1:∀u∈xs,u.oneCell'=true) (hn:n<=8796093022208):
  Calls prog 66 #[.slice A n c] w fun e w'=>∃A' c',e=.returned (.slice A' n c')/\w'.ownsRow w.heap.size 63 2 (.slice A' n c') n xs/\Bz w w':=by
 have hmax:=hR.max;have hcap:=hR.cap;obtain⟨i0,hi0,hz0,hz1,hz2⟩:=EN Jbn;have h63:0+n<=maxLen:=by omega
 go_enter func66,ntmps66;go_wp2_with (at_builtin;go_must (refine Jh _ rfl (.tmp 3) (.tmp 4) _ rfl w.heap.size 63 i0 _ 2 16 underlying23 hi0 hz0 hz1 hz2 rfl (by decide) (.slice (some ⟨w.heap.size,0,none⟩) 0 0) 0 [] rfl (QT w _ _) w.heap.size A n c xs rfl (hR.alloc Zl _) h1 h63 (by omega) (by simp) ?_);intro A' c' w1 hown hg hat);go_ret;exact⟨A',c',rfl,by simpa using hown,(Zr.alloc Zl _).trans (Jb hg (by simp) (by simp[Value.ownBlock]))⟩
theorem Oo (A D:OA) (n c m d:Nat) (u v:List Vc.St) (w:World) (hl:u.length=n) (hl2:v.length=m) (hR:Rd w w.heap.size 2 A n c (sv u)) (hR2:Rd w w.heap.size 2 D m d (sv v)):
  Calls prog 62 #[.slice A n c,.slice D m d] w fun e w'=>e=.returned (.bool (decide (u=v)))/\Bz w w':=by
 have hmax:n<=9223372036854775807:=by have h1:=hR.cap;have h2:=hR.max;unfold maxLen at h2;omega
 by_cases hnm:n=m
 ·subst hnm;go_enter func62,ntmps62;go_wp2;go_loopw [5] (fun i wr=>∃(k:Nat),k<=n/\i=.int .i64 k/\decide (u=v)=decide (u.drop k=v.drop k)/\Bz w wr) (fun i _=>n - (intOf i).toNat)
  case atStart=>exact⟨0,by omega,rfl,rfl,Ec _ _⟩
  case round=>
   obtain⟨k,hk,rfl,hdd,hb⟩:=hrel;by_cases hlt:k < n
   ·have hk1:k < u.length:=by omega
    have hk2:k < v.length:=by omega
    obtain⟨b,o,rfl,hab,h0,h1⟩:=(hR.below hb).stamp hl hlt;obtain⟨b2,o2,rfl,hab2,h02,h12⟩:=(hR2.below hb).stamp hl2 hlt;have HD:=Ja hdd;have HE:=Ja (show u[k]=((u[k]'hk1).1,(u[k]'hk1).2) from rfl);have HE2:=Ja (show v[k]=((v[k]'hk2).1,(v[k]'hk2).2) from rfl);generalize (u[k]'hk1).1=sc at h0 HE;generalize (u[k]'hk1).2=sn at h1 HE;generalize (v[k]'hk2).1=tc at h02 HE2;generalize (v[k]'hk2).2=tn at h12 HE2;have HB:=Ja hb;clear hdd hb hR hR2;by_cases e1:sc=tc
    ·subst e1;by_cases e2:sn=tn
     ·subst e2;have HN:=Ja (JaT hk1 hk2 (by rw[HE.out,HE2.out]));go_wp2;go_quiet (fail);go_wp2;go_roundw
      case rel=>exact⟨k+1,by omega,by go_num,by rw[HD.out,HN.out],Jr HB.out _⟩
      case measure=>simp[intOf];omega
     ·have HN:=Ja (show decide (u=v)=false by
       rw[EI];intro h;subst h;exact e2 (congrArg Prod.snd (HE.out.symm.trans HE2.out)))
      go_wp2;go_quiet (fail);go_wp2;go_ret;exact⟨by rw[HN.out];rfl,Jr HB.out _⟩
    ·have HN:=Ja (show decide (u=v)=false by
      rw[EI];intro h;subst h;exact e1 (congrArg Prod.fst (HE.out.symm.trans HE2.out)))
     go_wp2;go_quiet (fail);go_wp2;go_ret;exact⟨by rw[HN.out];rfl,Jr HB.out _⟩
   ·obtain rfl:k=n:=by omega
    have HX:=Ja (show decide (u=v)=true by rw[hdd,Ed (by omega),Ed (by omega)];simp);clear hdd;go_wp2;go_ret;exact⟨by rw[HX.out];rfl,hb⟩
 ·have HN:=Ja (show decide (u=v)=false by rw[EI];intro h;subst h;omega);have hne:¬ ((n:Int)=(m:Int)):=by omega
  go_enter func62,ntmps62;go_wp2
  all_goals first
   | (exfalso;omega)
   | (go_ret;exact⟨by rw[HN.out];rfl,Ec _ _⟩)
theorem Zy (A:OA) (n c:Nat) (l:List Sn.Sp) (w:World) (hl:l.length=n) (hR:Rd w w.heap.size 2 A n c (sv l)):
  Calls prog 46 #[.slice A n c] w fun e w'=>e=.returned (.bool (Sn.Xp (-2) l))/\Bz w w':=by
 have HF:=Ja (Sn.Jgy l);by_cases h128:n<=128
 ·have HR:=Ja hR;have H1:=Ja (Jaq A n c l w hl hR);obtain⟨r,hr⟩:∃r,r=Sn.of (Sn.Qp l):=⟨_,rfl⟩;have H2:=fun W=>Jhn (Sn.Qp l) W;rw[<-hr] at H2;obtain⟨m,hm⟩:∃m,m=r.length:=⟨_,rfl⟩;rw[<-hm] at H2;have H3:=Ja fun (W:World) D d hR hD=>Oo A D n c m d l r W hl hm.symm hR hD;have HX:=Ja (show decide (l=r)=Sn.Xp (-2) l by rw[HF.out,hl,Eu h128,Fb,hr]);rw[HX.out] at H3;have H2:=Ja H2;generalize Sn.Xp (-2) l=z at H3 ⊢;generalize Sn.Qp l=q at H1 H2;clear hR hl hr hm HF HX;go_enter func46,ntmps46;go_wp2_with fail;refine Jd H1.out fun w1 hb1=>?_;go_wp2_with fail;refine(H2.out w1).mono ?_;rintro e w2 ⟨D,d,rfl,ho,hb2⟩;have hb:=Jg hb1 hb2;go_wp2_with fail;refine Jd (H3.out w2 D d (HR.out.go hb) (Rd.of_own ho)) fun w3 hb3=>?_;go_wp2;go_ret;exact⟨rfl,Jg hb hb3⟩
 ·have HN:=Ja (show Sn.Xp (-2) l=false by rw[HF.out,hl,Ew h128];rfl);have hd:decide ((n:Int)<=128)=false:=by simp;omega
  clear HF hR hl;go_enter func46,ntmps46;go_wp2;go_ret;exact⟨by rw[HN.out];rfl,Ec _ _⟩
theorem JfU (A:OA) (n c:Nat) (l:List Sn.Sp) (x:Int) (w:World) (hl:l.length=n) (hR:Rd w w.heap.size 2 A n c (sv l)):
  Calls prog 115 #[.slice A n c,.int .i64 x] w fun e w'=>e=.returned (.bool (Yx l x))/\Bz w w':=by
 by_cases h:0<=x/\x<=255
 ·have HX:=Ja (show Yx l x=Sn.Xs l x by unfold Yx;simp[h.1,h.2]);obtain⟨h1,h2⟩:=h;obtain⟨k,rfl⟩:=Fd h1;have H1:=Jaq A n c l w hl hR;have hY:Sn.Xs l (k:Int)=Sn.Qp l k:=rfl;rw[hY] at HX;generalize Sn.Qp l=q at H1 HX;have H1:=Ja H1;have hix:∀W,(Instr.index 149 (.agg (Xv q)) (.int .i64 (k:Int))).run prog W=.ok (.bool (q k)) W:=by
   intro W;have hk:k < 256:=by omega
   have hk2:0<=(k:Int)/\(k:Int) < ((256:Nat):Int):=by omega
   have hat:=YJ q k hk;simp[Instr.index,FR underlying149,asIntOf,hk,hk2,hat,go_sem]
  clear hY hl hR;go_enter func115,ntmps115;go_wp2_with (go_at_call 118;go_must (refine Jd H1.out fun w1 hb1=>?_));go_ret;exact⟨by rw[HX.out];rfl,hb1⟩
 ·have HX:=Ja (show Yx l x=false by unfold Yx;simp;omega);clear hl hR;by_cases h1:0<=x
  ·have h2:255 < x:=by omega
   have hd:decide (x<=255)=false:=by simp;omega
   clear h;go_enter func115,ntmps115;go_wp2;go_ret;exact⟨by rw[HX.out];rfl,Ec _ _⟩
  ·have hd:decide (0<=x)=false:=by simp;omega
   clear h;go_enter func115,ntmps115;go_wp2;go_ret;exact⟨by rw[HX.out];rfl,Ec _ _⟩
theorem JkV (e:Int) (l:List Sn.Sp) (k:Nat) (h:k < l.length):Sn.Xp e (l.drop k)=(decide (l[k].1<=l[k].2) && (decide (l[k].2<=255) && (decide (0<=l[k].1) && (decide (e+1 < l[k].1) && Sn.Xp l[k].2 (l.drop (k+1)))))):=by
 rw[Eh h,Sn.Xp]
theorem YX (A:OA) (n c:Nat) (l:List Sn.Sp) (w:World) (hl:l.length=n) (hR:Rd w w.heap.size 2 A n c (sv l)):
  Calls prog 41 #[.slice A n c] w fun e w'=>e=.returned (.bool (Sn.Xp (-2) l))/\Bz w w':=by
 have hmax:n<=9223372036854775807:=by have h1:=hR.cap;have h2:=hR.max;unfold maxLen at h2;omega
 go_enter func41,ntmps41;go_wp2;go_loopw [3,8] (fun x i wr=>∃(k:Nat) (e:Int),k<=n/\i=.int .i64 k/\x=.int .i64 e/\-2<=e/\e<=255/\Bz w wr/\Hid (Sn.Xp (-2) l=Sn.Xp e (l.drop k))) (fun _ i _=>n - (intOf i).toNat)
 case atStart=>exact⟨0,-2,by omega,rfl,rfl,by omega,by omega,Ec _ _,rfl⟩
 case round=>
  obtain⟨k,e,hk,rfl,rfl,he1,he2,hb,hf⟩:=hrel;by_cases hlt:k < n
  ·have hkl:k < l.length:=by omega
   obtain⟨b,o,rfl,hab,h0,h1⟩:=(hR.below hb).stamp hl hlt;have HD:=Ja (JkV e l k hkl);generalize hlo:(l[k]'hkl).1=lo at h0 HD;generalize hhi:(l[k]'hkl).2=hi at h1 HD;have HB:=Ja (hb.alloc hb.size (.cells #[.int .i64 lo,.int .i64 hi] 63));have HF:=Ja (hf.out.trans HD.out);clear hlo hhi hb hf HD hR hl;by_cases c1:lo<=hi
   ·by_cases c2:hi<=255
    ·by_cases c3:0<=lo
     ·by_cases c4:e+1 < lo
      ·have HN:=Ja (show Sn.Xp (-2) l=Sn.Xp hi (l.drop (k+1)) by rw[HF.out];simp[c1,c2,c3,c4]);have d1:decide (lo > hi)=false:=by simp;omega
       have d2:decide (hi > 255)=false:=by simp;omega
       have d3:decide (lo < 0)=false:=by simp;omega
       go_wp2;go_roundw
       case rel=>exact⟨k+1,hi,by omega,by go_num,rfl,by omega,by omega,HB.out,HN.out⟩
       case measure=>simp[intOf];omega
      ·have HN:=Ja (show Sn.Xp (-2) l=false by rw[HF.out];simp[c4]);go_wp2;go_ret;exact⟨by rw[HN.out];rfl,HB.out⟩
     ·have HN:=Ja (show Sn.Xp (-2) l=false by rw[HF.out];simp[c3]);have d3:decide (lo < 0)=true:=by simp;omega
      go_wp2;go_ret;exact⟨by rw[HN.out];rfl,HB.out⟩
    ·have HN:=Ja (show Sn.Xp (-2) l=false by rw[HF.out];simp[c2]);have d3:decide (hi > 255)=true:=by simp;omega
     go_wp2;go_ret;exact⟨by rw[HN.out];rfl,HB.out⟩
   ·have HN:=Ja (show Sn.Xp (-2) l=false by rw[HF.out];simp[c1]);have d3:decide (lo > hi)=true:=by simp;omega
    go_wp2;go_ret;exact⟨by rw[HN.out];rfl,HB.out⟩
  ·obtain rfl:k=n:=by omega
   have HN:=Ja (show Sn.Xp (-2) l=true by rw[hf.out,Ed (by omega)];rfl);have HB:=Ja hb;clear hb hf hR hl;go_wp2;go_ret;exact⟨by rw[HN.out];rfl,HB.out⟩
theorem JgG (lo hi x:Int) (Bx:Nat) (w:World) (hx:w.cell? ⟨Bx,0,none⟩=some (.int .i64 x)):
  Calls prog 172 #[.agg #[.int .i64 lo,.int .i64 hi],.pointer (some ⟨Bx,0,none⟩)] w fun e w'=>e=.returned (.bool (decide (lo<=x) && decide (x<=hi)))/\Bz w w':=by
 have hlt:=Ep _ _ hx;have hb:Bz w (w.alloc (.cells #[.int .i64 lo,.int .i64 hi] 63)):=Zr.alloc Zl _;by_cases c1:lo<=x
 ·have HX:=Ja (show (decide (lo<=x) && decide (x<=hi))=decide (x<=hi) by simp[c1]);rw[HX.out];go_enter func172,ntmps172;go_wp2;go_ret;exact⟨rfl,hb⟩
 ·have HX:=Ja (show (decide (lo<=x) && decide (x<=hi))=false by simp[c1]);rw[HX.out];have hd:decide (lo<=x)=false:=by simpa using c1
  go_enter func172,ntmps172;go_wp2;go_ret;exact⟨rfl,hb⟩
def Jdp (k:Nat) (s:Option (List UInt8)) (acc:List (Int×Int)) (F:Option (List (Int×Int)×List UInt8)):Prop:=match s with
 | none=>F=none
 | some l=>F=match Wq.pP k l with | none=>none | some (v,r)=>some (acc++v,r)
def JdI (l:List UInt8):Option (List (Int×Int)×List UInt8):=match Wq.pN l with | none=>none | some (n,r)=>Wq.pP n r
theorem Jdp.start (l:List UInt8):Jdp (Jaw (some l)) (UD (some l)) [] (JdI l):=by
 rcases h:Wq.pN l with _ | ⟨n,r⟩
 ·rw[JaL h];show JdI l=none;unfold JdI;rw[h]
 ·rw[KN h,Jbk h];show JdI l=match Wq.pP n r with | none=>none | some (v,r)=>some ([]++v,r)
  unfold JdI;rw[h];simp only[List.nil_append];rcases Wq.pP n r with _ | ⟨v,q⟩<;>rfl
theorem Jdp.next {k:Nat} {l:List UInt8} {acc:List (Int×Int)} {F:Option (List (Int×Int)×List UInt8)} (h:Jdp (k+1) (some l) acc F):
  Jdp k (UD (UD (some l))) (acc++[((Jaw (some l):Int),(Jaw (UD (some l)):Int))]) F:=by
 have h':F=match Wq.pP (k+1) l with | none=>none | some (v,r)=>some (acc++v,r):=h
 rw[Wq.pP] at h';rcases h1:Wq.pN l with _ | ⟨a,r⟩
 ·rw[JaL h1];rw[h1] at h';exact h'
 ·rw[KN h1,Jbk h1];rw[h1] at h';rcases h2:Wq.pN r with _ | ⟨b,q⟩
  ·rw[JaL h2];simp only[h2] at h';exact h'
  ·rw[KN h2,Jbk h2];simp only[h2] at h';show F=match Wq.pP k q with | none=>none | some (v,r)=>some (_++v,r)
   rw[h'];rcases Wq.pP k q with _ | ⟨v,t⟩
   ·rfl
   ·simp
theorem Jdp.done {l:List UInt8} {acc:List (Int×Int)} {F:Option (List (Int×Int)×List UInt8)} (h:Jdp 0 (some l) acc F):F=some (acc,l):=by
 have:F=some (acc++[],l):=h
 rwa [EG] at this
def Jir (m:Nat) (s:Option (List UInt8)) (N:Nat):Prop:=match s with | none=>m<=N+1 | some l=>m+l.length<=N
theorem JfF {s:Option (List UInt8)} {m N:Nat} (h:Jir m s N):Jir m (UD s) N:=by
 cases s with
 | none=>exact h
 | some l=>
  have h':m+l.length<=N:=h;rcases h1:Wq.pN l with _ | ⟨a,r⟩
  ·rw[JaL h1];show m<=N+1;omega
  ·have:=Wq.JmC h1;rw[KN h1];show m+r.length<=N;omega
theorem Jj1 {l:List UInt8} {m N:Nat} (h:Jir m (some l) N):Jir (m+1) (UD (some l)) N:=by
 have h':m+l.length<=N:=h;rcases h1:Wq.pN l with _ | ⟨a,r⟩
 ·rw[JaL h1];show m+1<=N+1;omega
 ·have:=Wq.JmC h1;rw[KN h1];show m+1+r.length<=N;omega
def JdG (l:List UInt8):List Sn.Sp:=match Wq.pS l with | none=>[] | some (v,_)=>v
def JhB (l:List UInt8):Nat:=match Wq.pS l with | none=>0 | some (_,r)=>l.length - r.length
def Jh8 (l:List UInt8):Nat:=match Wq.pS l with | none=>4 | some _=>0
theorem Jk7 {l:List UInt8} (h:Wq.pS l=none):JdG l=[]/\JhB l=0/\Jh8 l=4:=by unfold JdG JhB Jh8;rw[h];exact⟨rfl,rfl,rfl⟩
theorem JmU {l r:List UInt8} {v:List Sn.Sp} (h:Wq.pS l=some (v,r)):JdG l=v/\JhB l=l.length - r.length/\Jh8 l=0:=by unfold JdG JhB Jh8;rw[h];exact⟨rfl,rfl,rfl⟩
theorem Jin {l:List UInt8}:Wq.pS l=match JdI l with | none=>none | some (v,q)=>if Sn.Xp (-2) v=true then some (v,q) else none:=by
 unfold Wq.pS JdI;rcases Wq.pN l with _ | ⟨n,r⟩<;>rfl
theorem Jnj (g T:Nat) (v:Value) (l:List UInt8) (w:World) (h:PR w g T (some l)):
  Calls prog 131 #[.pointer (some ⟨g,0,none⟩),v,.bool true] w fun e w'=>e=.returned (.tuple #[v,.int .i64 ((T - l.length:Nat):Int),.int .i64 0])/\∃n,w'=w.drewN n:=by
 obtain⟨A,n,c,hB,hq⟩:=h;have c1:=hB.cell 1;have c2:=hB.cell 2;clear hB hq;go_enter func131,ntmps131;go_wp2;go_quiet (fail);go_wp2;go_ret3;exact⟨rfl,_,rfl⟩
theorem JgA (g T:Nat) (v:Value) (f:Bool) (s:Option (List UInt8)) (w:World) (h:PR w g T s) (hs:s=none\/f=false):
  Calls prog 131 #[.pointer (some ⟨g,0,none⟩),v,.bool f] w fun e w'=>e=.returned (.tuple #[.slice none 0 0,.int .i64 0,.int .i64 4])/\PR w' g T none/\JF g w w':=by
 rcases s with _ | l
 ·obtain⟨A,n,c,k,hB⟩:=h;have c2:=hB.cell 2;have f2:=hB.frozen 2;have HB:=Ja hB;clear hB hs;go_enter func131,ntmps131;go_wp2;go_ret3;exact⟨rfl,⟨A,n,c,k,HB.out.set_ 2 (.bool true)⟩,JF.set_ w (p:=⟨g,2,none⟩) rfl _⟩
 ·obtain rfl:f=false:=by
   rcases hs with h | h
   ·cases h
   ·exact h
  obtain⟨A,n,c,hB,_⟩:=h;have c2:=hB.cell 2;have f2:=hB.frozen 2;have HB:=Ja hB;clear hB hs;go_enter func131,ntmps131;go_wp2;go_ret3;exact⟨rfl,⟨A,n,c,_,HB.out.set_ 2 (.bool true)⟩,JF.set_ w (p:=⟨g,2,none⟩) rfl _⟩
theorem JgP (A:OA) (n c:Nat) (l:List UInt8) (w:World) (hl:l.length=n) (hR:Rd w w.heap.size 1 A n c (bv l)) (hn:n<=4294967296):
  Calls prog 54 #[.slice A n c] w fun e w'=>∃A' c',e=.returned (.tuple #[.slice A' (JdG l).length c',.int .i64 (JhB l),.int .i64 (Jh8 l)]) /\
   w'.ownsRow w.heap.size 63 2 (.slice A' (JdG l).length c') (JdG l).length (sv (JdG l))/\Bz w w':=by
 obtain⟨i0,hi0,hz0,hz1,hz2⟩:=EN Jbn;have hP0:PR (w.alloc (.cells #[.slice A n c,.int .i64 0,.bool false] 156)) w.heap.size n (some l):=by
  refine⟨A,n,c,?_,hR.alloc Zl _,hl,by omega,by have:=hR.cap;have:=hR.max;omega⟩;rw[hl,GT];exact Jm.new w _ _
 have hb0:Bz w (w.alloc (.cells #[.slice A n c,.int .i64 0,.bool false] 156)):=Zr.alloc Zl _;obtain⟨w0,hw0⟩:∃w0,w0=w.alloc (.cells #[.slice A n c,.int .i64 0,.bool false] 156):=⟨_,rfl⟩;rw[<-hw0] at hP0 hb0;have HW:=Ja hw0.symm;have HL:=Ja hl;have hcap:=Ja (show Jir 0 (UD (some l)) n from JfF (show 0+l.length<=n by omega));have hinv:=Ja (Jdp.start l);have hk0:=JnG (some l);obtain⟨k0,hk0e⟩:∃k0,k0=Jaw (some l):=⟨_,rfl⟩;have H1:=Ja fun (W:World) (s:Option (List UInt8)) (h:PR W w.heap.size n s)=>JkA w.heap.size n s W h;have H10:=H1.out w0 (some l) hP0;rw[<-hk0e] at H10 hk0 hinv;have H0:=Ja H10;clear H10 hk0e hl hR hw0;go_enter func54,ntmps54;go_wp2_with fail;rw[HW.out];refine H0.out.mono ?_;rintro e w1 ⟨rfl,hP1,hu1⟩;have hs0:=hP0.lt;have hs1:=hu1.size;have hb1:=JJ hb0 hu1 (by omega) Zl;clear H0 hu1 hP0 hb0;go_wp2_with fail;go_loopw [6,7,8] (fun v6 v7 _ wr=>∃(k m c':Nat) (A':OA) (s:Option (List UInt8)) (acc:List (Int×Int)),v7=.int .i64 k/\v6=.slice A' m c'/\k<=k0/\PR wr w.heap.size n s/\Bz w wr /\
  wr.ownsRow (w.heap.size+1) 63 2 (.slice A' m c') m (sv acc)/\Hid (acc.length=m)/\Hid (Jir m s n)/\Hid (Jdp k s acc (JdI l))) (fun _ v7 _ _=>(intOf v7).toNat)
 case atStart=>exact⟨k0,0,0,none,_,[],rfl,rfl,Ek _,hP1,hb1,ED _ _ _ _,rfl,hcap,hinv⟩
 case round=>
  obtain⟨k,m,c',A',s,acc,rfl,rfl,hk,hP,hb,ho,hacc,hca,hin⟩:=hrel;have hlt:=hP.lt;have HP:=Ja hP;have HO:=Ja ho;clear hP ho;by_cases hgo:0 < k/\s≠none
  ·obtain⟨hk1,hs⟩:=hgo;obtain⟨l1,rfl⟩:∃l1,s=some l1:=by
    cases s with
    | none=>exact absurd rfl hs
    | some l1=>exact⟨l1,rfl⟩
   obtain⟨Ar,nr,cr,hBr,hqr⟩:=HP.out;have c2:=hBr.cell 2;clear hBr hqr hs;obtain⟨lo,hlo⟩:∃lo,lo=Jaw (some l1):=⟨_,rfl⟩;obtain⟨s1,hs1⟩:∃s1,s1=UD (some l1):=⟨_,rfl⟩;obtain⟨hi,hhi⟩:∃hi,hi=Jaw s1:=⟨_,rfl⟩;obtain⟨s2,hs2⟩:∃s2,s2=UD s1:=⟨_,rfl⟩;have hcap1:m+l1.length<=n:=hca.out;have HIN:=Ja (show Jdp (k - 1) s2 (acc++[((lo:Int),(hi:Int))]) (JdI l) by
    have h:=hin.out;rw[show k=(k - 1)+1 by omega] at h;rw[hs2,hlo,hhi,hs1];exact h.next)
   have HCA:=Ja (show Jir (m+1) s2 n by rw[hs2];exact JfF (by rw[hs1];exact Jj1 hca.out));have C1:=H1.out wr (some l1) HP.out;rw[<-hlo,<-hs1] at C1;have C2:=H1.out;have G1:=Ja C1;have G2:=Ja fun (W:World) (h:PR W w.heap.size n s1)=>H1.out W s1 h;rw[<-hhi,<-hs2] at G2;have h63:m+1<=maxLen:=by unfold maxLen;omega
   have h1max:1<=maxLen:=by unfold maxLen;omega
   have hbs:=hb.size;have hm32:m<=4294967296:=by omega
   clear C1 C2 hlo hs1 hhi hs2 hin hca hcap1;go_wp2_with fail;refine G1.out.mono ?_;rintro e w2 ⟨rfl,hP2,hu2⟩;have hs2:=hu2.size;go_wp2_with fail;refine(G2.out w2 hP2).mono ?_;rintro e w3 ⟨rfl,hP3,hu3⟩;have hs3:=hu3.size;have ho3:=Qf (Qf HO.out hu2 (by omega)) hu3 (by omega);have hb3:=JJ (JJ hb hu2 (by omega) Zl) hu3 (by omega) Zl;clear hu2 hu3 hP2 HO hb HP c2 G1 G2;go_wp2_with (at_builtin;go_must (refine Jh _ rfl (.tmp 27) (.tmp 32) _ rfl (w.heap.size+1) 63 i0 _ 2 16 underlying23 hi0 hz0 hz1 hz2 rfl (by decide) (.slice A' m c') m _ rfl (ho3.alloc _) (w3.heap.size+1) (some ⟨w3.heap.size,0,none⟩) 1 1 [.int .i64 (lo:Int),.int .i64 (hi:Int)] rfl (Rd.new w3 _ 2 1 #[.int .i64 (lo:Int),.int .i64 (hi:Int)] rfl h1max) (Ju [((lo:Int),(hi:Int))]) h63 (by omega) (by simp;omega) ?_);intro A3 c3 w4 ho4 hg4 hat4);have hbg:Below (w.heap.size+1) w3 w4:=(Zr.alloc (by omega) _).trans (Jb hg4 (by simp;omega) (fun g hg=>JM ho3 g hg));go_roundw
   case rel=>
    exact⟨k - 1,m+1,c3,A3,s2,acc++[((lo:Int),(hi:Int))],by rw[show ((k:Int) - 1)=((k - 1:Nat):Int) by omega],rfl,by omega,hP3.below hbg (by omega),hb3.trans (hbg.mono (by omega)),by rw[Xb];exact ho4,
     by show _=_;rw[Eb,hacc.out];rfl,HCA,HIN⟩
   case measure=>simp[intOf];omega
  ·have HF:=Ja fun (W:World) (hR:Rd W W.heap.size 2 A' m c' (sv acc))=>YX A' m c' acc W hacc.out hR;have hbs:=hb.size;rcases s with _ | r
   ·have hpS:Wq.pS l=none:=by
     have h:JdI l=none:=hin.out;rw[Jin,h]
    have HE:=Ja (Jk7 hpS);obtain⟨Ar,nr,cr,kr,hBr⟩:=HP.out;have c2:=hBr.cell 2;clear hBr hpS hgo hinv hcap;by_cases hk0:0 < k
    all_goals
     go_wp2_with fail;refine Jd (HF.out wr (Rd.of_own HO.out)) fun w5 hb5=>?_;go_wp2_with fail;refine(JgA w.heap.size n (.slice A' m c') (Sn.Xp (-2) acc) none w5 (HP.out.go hb5) (.inl rfl)).mono ?_;rintro e w6 ⟨rfl,hP6,hu6⟩;go_wp2;go_ret3;obtain⟨e1,e2,e3⟩:=HE.out;rw[e1,e2,e3];exact⟨none,0,rfl,ED _ _ _ _,JJ (Jg hb hb5) hu6 (by have:=hb5.size;omega) Zl⟩
   ·obtain rfl:k=0:=by
     rcases NN k with h | h
     ·exact h
     ·exact absurd ⟨h,by simp⟩ hgo
    have hF:=hin.out.done;obtain⟨Ar,nr,cr,hBr,hqr⟩:=HP.out;have c2:=hBr.cell 2;by_cases hf:Sn.Xp (-2) acc=true
    ·have hpS:Wq.pS l=some (acc,r):=by rw[Jin,hF];simp only;rw[Ei hf]
     have HE:=Ja (JmU hpS);have HA:=Ja hacc.out;rw[hf] at HF;clear hBr hqr hpS hgo hinv hcap hF hf;go_wp2_with fail;refine Jd (HF.out wr (Rd.of_own HO.out)) fun w5 hb5=>?_;have ho5:=Jf HO.out hb5 Zl;go_wp2_with fail;refine(Jnj w.heap.size n (.slice A' m c') r w5 (HP.out.go hb5)).mono ?_;rintro e w6 ⟨rfl,n6,rfl⟩;go_wp2;go_ret3;obtain⟨e1,e2,e3⟩:=HE.out;rw[e1,e2,e3,HL.out,HA.out];exact⟨A',c',rfl,Jk (Ks ho5 n6) (by omega),Jr (Jg hb hb5) n6⟩
    ·have hf':Sn.Xp (-2) acc=false:=by simpa using hf
     have hpS:Wq.pS l=none:=by rw[Jin,hF];simp only;rw[Ef hf]
     have HE:=Ja (Jk7 hpS);rw[hf'] at HF;clear hBr hqr hpS hgo hinv hcap hF hf hf';go_wp2_with fail;refine Jd (HF.out wr (Rd.of_own HO.out)) fun w5 hb5=>?_;go_wp2_with fail;refine(JgA w.heap.size n (.slice A' m c') false (some r) w5 (HP.out.go hb5) (.inr rfl)).mono ?_;rintro e w6 ⟨rfl,hP6,hu6⟩;go_wp2;go_ret3;obtain⟨e1,e2,e3⟩:=HE.out;rw[e1,e2,e3];exact⟨none,0,rfl,ED _ _ _ _,JJ (Jg hb hb5) hu6 (by have:=hb5.size;omega) Zl⟩
end Go.Proofs.YtmbeahbgafkjfaaGreatDoor
namespace Go.Proofs.YtmbeahbgafkjfaaGreatDoor.Wq
def lL (v:List Nt):List UInt8:=v.flatMap lNt
structure Ms where
 k:Int
 f:Int
 t:Int
 n:Int
 q:Int
 i:List Sn.Sp
 v:List Vc.St
 l:List Nt
 b:Bd
def lK (m:Ms):List UInt8:=
 if m.k=1 then Pk.lay m.n.toNat++(lS m.i++lV m.v)
 else if m.k=3 then Pk.lay m.n.toNat++(Pk.lay m.q.toNat++(Pk.lay m.l.length++lL m.l))
 else if m.k=4 then Pk.lay m.b.o.toNat
 else if m.k=5 then lB m.b
 else []
def enc (m:Ms):List UInt8:=Pk.lay m.k.toNat++(Pk.lay m.f.toNat++(Pk.lay m.t.toNat++lK m))
end Go.Proofs.YtmbeahbgafkjfaaGreatDoor.Wq
namespace Go.Proofs.YtmbeahbgafkjfaaGreatDoor.Wq
def st {α:Type} (p:List UInt8->Option (α×List UInt8)):Option (List UInt8)->Option (List UInt8)
 | none=>none
 | some l=>match p l with | none=>none | some (_,r)=>some r
end Go.Proofs.YtmbeahbgafkjfaaGreatDoor.Wq
namespace Go.Proofs.YtmbeahbgafkjfaaGreatDoor
def gV {α:Type} (p:List UInt8->Option (α×List UInt8)) (d:α) (l:List UInt8):α:=match p l with | none=>d | some (v,_)=>v
def gK {α:Type} (p:List UInt8->Option (α×List UInt8)) (l:List UInt8):Nat:=match p l with | none=>0 | some (_,r)=>l.length - r.length
def gE {α:Type} (p:List UInt8->Option (α×List UInt8)) (l:List UInt8):Nat:=match p l with | none=>4 | some _=>0
theorem JpQ {α:Type} {p:List UInt8->Option (α×List UInt8)} {d:α} {l:List UInt8} (h:p l=none):gV p d l=d/\gK p l=0/\gE p l=4:=by unfold gV gK gE;rw[h];exact⟨rfl,rfl,rfl⟩
theorem JoV {α:Type} {p:List UInt8->Option (α×List UInt8)} {d:α} {l r:List UInt8} {v:α} (h:p l=some (v,r)):gV p d l=v/\gK p l=l.length - r.length/\gE p l=0:=by unfold gV gK gE;rw[h];exact⟨rfl,rfl,rfl⟩
theorem Jkv {l x r:List UInt8} (h:l=x++r):l.drop (l.length - r.length)=r/\r.length<=l.length:=by
 subst h;exact⟨by simp,by simp⟩
theorem JjX (A:OA) (n c:Nat) (l:List UInt8) (w:World) (hl:l.length=n) (hR:Rd w w.heap.size 1 A n c (bv l)) (hn:n<=4294967296):
  Calls prog 54 #[.slice A n c] w fun e w'=>∃A' c',e=.returned (.tuple #[.slice A' (gV Wq.pS [] l).length c',.int .i64 (gK Wq.pS l),.int .i64 (gE Wq.pS l)]) /\
   w'.ownsRow w.heap.size 63 2 (.slice A' (gV Wq.pS [] l).length c') (gV Wq.pS [] l).length (sv (gV Wq.pS [] l))/\Bz w w':=by
 have h:=JgP A n c l w hl hR hn;have e1:JdG l=gV Wq.pS [] l:=by unfold JdG gV;rcases Wq.pS l with _ | ⟨_,_⟩<;>rfl
 have e2:JhB l=gK Wq.pS l:=by unfold JhB gK;rcases Wq.pS l with _ | ⟨_,_⟩<;>rfl
 have e3:Jh8 l=gE Wq.pS l:=by unfold Jh8 gE;rcases Wq.pS l with _ | ⟨_,_⟩<;>rfl
 rw[e1,e2,e3] at h;exact h
def ixS (x:Int):Nat->List Sn.Sp->Int
 | _,[]=>-1
 | k,s :: r=>if (decide (s.1<=x) && decide (x<=s.2))=true then (k:Int) else ixS x (k+1) r
theorem Jmk (x:Int) (k:Nat) (l:List Sn.Sp) (h:k < l.length):ixS x k (l.drop k)=if (decide (l[k].1<=x) && decide (x<=l[k].2))=true then (k:Int) else ixS x (k+1) (l.drop (k+1)):=by
 rw[Eh h,ixS]
theorem Jn4 (x:Int) (k:Nat) (l:List Sn.Sp):decide (0<=ixS x k l)=Sn.Xs l x:=by
 induction l generalizing k with
 | nil=>rfl
 | cons s r ih=>
  rw[ixS,Sn.Qi];cases decide (s.1<=x) && decide (x<=s.2)
  ·simpa using ih (k+1)
  ·simp
theorem Jit (A:OA) (n c:Nat) (l:List Sn.Sp) (x:Int) (Bx:Nat) (w:World) (hx:w.cell? ⟨Bx,0,none⟩=some (.int .i64 x)) (hl:l.length=n) (hR:Rd w w.heap.size 2 A n c (sv l)):
  Calls prog 204 #[.slice A n c,.func (.func 172) #[] #[.pointer (some ⟨Bx,0,none⟩)]] w fun e w'=>e=.returned (.int .i64 (ixS x 0 l))/\Bz w w':=by
 have hmax:n<=9223372036854775807:=by have h1:=hR.cap;have h2:=hR.max;unfold maxLen at h2;omega
 have hBx:=Ep _ _ hx;have HXC:=Ja hx;clear hx;go_enter func204,ntmps204;go_wp2;go_loopw [8] (fun i wr=>∃(k:Nat),k<=n/\i=.int .i64 k/\Bz w wr/\Hid (ixS x 0 l=ixS x k (l.drop k))) (fun i _=>n - (intOf i).toNat)
 case atStart=>exact⟨0,by omega,rfl,Ec _ _,rfl⟩
 case round=>
  obtain⟨k,hk,rfl,hb,hf⟩:=hrel;by_cases hlt:k < n
  ·have hkl:k < l.length:=by omega
   obtain⟨b,o,rfl,hab,h0,h1⟩:=(hR.below hb).stamp hl hlt;have HD:=Ja (Jmk x k l hkl);generalize hlo:(l[k]'hkl).1=lo at h0 HD;generalize hhi:(l[k]'hkl).2=hi at h1 HD;have H1:=JgG lo hi x Bx wr ((hb.cell (p:=⟨Bx,0,none⟩) hBx).trans HXC.out);have HB:=Ja hb;have HF:=hf.out.trans HD.out;generalize (decide (lo<=x) && decide (x<=hi))=z at H1 HF;have H1:=Ja H1;have HF:=Ja HF;clear hlo hhi hb hf HD hR hl;cases z
   ·go_wp2_with (go_at_call 172;go_must (refine Jd H1.out fun w1 hb1=>?_));go_roundw
    case rel=>exact⟨k+1,by omega,by go_num,Jg HB.out hb1,by show _=_;rw[HF.out];rfl⟩
    case measure=>simp[intOf];omega
   ·go_wp2_with (go_at_call 172;go_must (refine Jd H1.out fun w1 hb1=>?_));go_ret;exact⟨by rw[HF.out];rfl,Jg HB.out hb1⟩
  ·obtain rfl:k=n:=by omega
   have HN:=Ja (show ixS x 0 l=-1 by rw[hf.out,Ed (by omega)];rfl);have HB:=Ja hb;clear hb hf hR hl;go_wp2;go_ret;exact⟨by rw[HN.out];rfl,HB.out⟩
theorem JdL (A:OA) (n c:Nat) (l:List Sn.Sp) (x:Int) (Bx:Nat) (w:World) (hx:w.cell? ⟨Bx,0,none⟩=some (.int .i64 x)) (hl:l.length=n) (hR:Rd w w.heap.size 2 A n c (sv l)):
  Calls prog 171 #[.slice A n c,.func (.func 172) #[] #[.pointer (some ⟨Bx,0,none⟩)]] w fun e w'=>e=.returned (.bool (Sn.Xs l x))/\Bz w w':=by
 have H1:=Jit A n c l x Bx w hx hl hR;have HN:=Ja (Jn4 x 0 l);generalize ixS x 0 l=z at H1 HN;have H1:=Ja H1;clear hx hl hR;go_enter func171,ntmps171;go_wp2_with (go_at_call 204;go_must (refine Jd H1.out fun w1 hb1=>?_));go_ret;exact⟨Jn HN.out,hb1⟩
theorem Jlo (A:OA) (n c:Nat) (l:List Sn.Sp) (x:Int) (w:World) (hl:l.length=n) (hR:Rd w w.heap.size 2 A n c (sv l)):
  Calls prog 111 #[.slice A n c,.int .i64 x] w fun e w'=>e=.returned (.bool (Yx l x))/\Bz w w':=by
 have hb0:Bz w (w.alloc (.cells #[.int .i64 x] 3)):=Zr.alloc Zl _;have hBx:=Jm.new w 3 #[.int .i64 x];by_cases h1:0<=x
 ·by_cases h2:x<=255
  ·have HX:=Ja (show Yx l x=Sn.Xs l x by unfold Yx;simp[h1,h2]);have H1:=Ja (JdL A n c l x w.heap.size _ (hBx.cell 0) hl (hR.go hb0));generalize Sn.Xs l x=z at H1 HX;clear hl hR hBx;go_enter func111,ntmps111;go_wp2_with (go_at_call 171;go_must (refine Jd H1.out fun w1 hb1=>?_));go_ret;exact⟨by rw[HX.out];rfl,Jg hb0 hb1⟩
  ·have HX:=Ja (show Yx l x=false by unfold Yx;simp[h2]);have hd:decide (x<=255)=false:=by simpa using h2
   clear hl hR hBx;go_enter func111,ntmps111;go_wp2;go_ret;exact⟨by rw[HX.out];rfl,hb0⟩
 ·have HX:=Ja (show Yx l x=false by unfold Yx;simp[h1]);have hd:decide (0<=x)=false:=by simpa using h1
  clear hl hR hBx;go_enter func111,ntmps111;go_wp2;go_ret;exact⟨by rw[HX.out];rfl,hb0⟩
open Go.ChangeShapes Go.WideShapes Go.ChangeAt Go.RowKit
section
variable {H:Type} {enc:TypeId×Value->H} {P:Program}
theorem OV (hl:laidOutB P=true) {W W':World} (hb:Bz W W'):∀(ts:List TypeId) (vs:List Value) (ds:List (DataW H)) (ps:List MemPlace),
  (ts.all fun t=>P.readableRec t && decide (t < P.types.size))=true->DataW.TrodAll enc P W 0 (fun _=>true) true ts vs ds ps->(∀x∈ps,x.block < W.heap.size) ->
  DataW.TrodAll enc P W' 0 (fun b=>decide (b < W.heap.size)) true ts vs ds ps
 | [],[],[],ps,_,h,_=>h
 | t :: ts,v :: vs,d :: ds,ps,hr,h,hlt=>by
  obtain⟨p,q,h1,h2,rfl⟩:=h;simp only[List.all_cons,Ea,Ej] at hr;exact⟨p,q,Below.trod hl hr.1.1 hr.1.2 h1 hb fun x hx=>hlt x (Fc _ hx),
   OV hl hb ts vs ds q hr.2 h2 (fun x hx=>hlt x (Np _ hx)),rfl⟩
 | [],_ :: _,_,_,_,h,_=>absurd h (by simp[DataW.TrodAll])
 | [],[],_ :: _,_,_,h,_=>absurd h (by simp[DataW.TrodAll])
 | _ :: _,[],_,_,_,h,_=>absurd h (by simp[DataW.TrodAll])
 | _ :: _,_ :: _,[],_,_,h,_=>absurd h (by simp[DataW.TrodAll])
theorem Jmd {f:Func} {s:ChangeSpec} {tb:TypeId} {W W':World} {args:Array Value} {ds gs:List (DataW H)} {before:List MemPlace} (hl:laidOutB P=true)
  (hr:(f.params.toList.all fun t=>P.readableRec t && decide (t < P.types.size))=true) (hres:f.resultTypes=#[tb]) (hbool:P.underlying tb=some .bool) (hv:s.vars=[])
  (hW:DataW.Whole enc P f.params.toList s.vars false W args.toList ds gs before) (hfn:s.fn H (ds++gs)={ results:=[.lit (.bool true)],args:=ds }) (hb:Bz W W'):
  s.post enc P f false true false false W args (.bool true) W':=by
 have hlt:=hW.lt;have hW':=hW;obtain⟨p,q,hA,hV,rfl,_,_⟩:=hW;refine⟨ds,gs,p++q,[],p,[],hW',?_,?_,?_,hb.frame _,fun h=>by cases h⟩
 ·rw[hfn,hres];exact trodAll_mk1 (shut_bool hbool true)
 ·rw[hfn];exact OV hl hb _ _ _ _ hr hA fun x hx=>hlt x (Fc _ hx)
 ·rw[hfn,hv];rfl
theorem JlW {x:Int} (h:(Lit.int .u8 x).wf=true):0<=x/\x < 256:=by
 have h1:IntKind.u8.min=0:=rfl;have h2:IntKind.u8.max=255:=rfl;simp only[Lit.wf,Ea,Ej] at h;omega
theorem Jbf {x:Int} (h:(Lit.int .i64 x).wf=true):-9223372036854775808<=x/\x<=9223372036854775807:=by
 have h1:IntKind.i64.min=-9223372036854775808:=rfl;have h2:IntKind.i64.max=9223372036854775807:=rfl;simp only[Lit.wf,Ea,Ej] at h;omega
def u8s (zs:List Int):List UInt8:=zs.map fun z=>UInt8.ofNat z.toNat
theorem JoH {zs:List Int} (h:∀z∈zs,0<=z/\z < 256):bv (u8s zs)=zs.map (Value.int .u8):=by
 simp only[bv,u8s,List.map_map];refine NH fun z hz=>?_;have:=h z hz;simp only[Function.comp_apply,UInt8.toNat_ofNat'];congr 1;omega
def KH:DataW H->Nat
 | .slice elems spare=>elems.length+spare.length
 | _=>0
end
end Go.Proofs.YtmbeahbgafkjfaaGreatDoor
