/- Lemmas, layer 13. -/
import Derived.Test.YtmbeahbgafkjfaaGreatDoorKp11
import Derived.Test.YtmbeahbgafkjfaaGreatDoorKp12
set_option linter.unusedSimpArgs false
set_option maxRecDepth 100000
namespace Go.Proofs.YtmbeahbgafkjfaaGreatDoor
open Go.Proofs.Tryz Go.RowKit
theorem OL {last:Int} {s:Vc.St} {r:List Vc.St} (h:fm last (s :: r)=true):(0 < s.1/\0<=s.2/\s.2 < 64)/\last < s.2/\fm s.2 r=true:=by
 simp only[fm,Ea,Ej] at h;exact⟨(Vc.JT s).1 h.1,h.2.1,h.2.2⟩
theorem Jc4:∀(v:List Vc.St) (last:Int),fm last v=true->∀n:Nat,(n:Int)<=last->Vc.Jz v n=0
 | [],_,_,_,_=>rfl
 | s :: r,last,h,n,hn=>by
  obtain⟨_,h2,h3⟩:=OL h;rw[Vc.Jz,Ef (fun e=>by omega)];exact Jc4 r s.2 h3 n (by omega)
theorem UL {last:Int} {s:Vc.St} {r:List Vc.St} (h:fm last (s :: r)=true) (n:Nat) (hn:s.2=n):Vc.Jz (s :: r) n=s.1:=by
 rw[Vc.Jz,Ei ⟨(Vc.JT s).2 (OL h).1,hn⟩]
theorem JaW {s:Vc.St} {r:List Vc.St} (n:Nat) (hn:s.2≠n):Vc.Jz (s :: r) n=Vc.Jz r n:=by
 rw[Vc.Jz,Ef (fun e=>hn e.2)]
theorem Jif:∀(u v:List Vc.St) (last:Int),fm last u=true->fm last v=true->(∀n:Nat,n < 64->Vc.Jz u n=Vc.Jz v n)->u=v
 | [],[],_,_,_,_=>rfl
 | [],t :: r,last,_,hv,he=>by
  obtain⟨h1,_,_⟩:=OL hv;have h:=he t.2.toNat (by omega);rw[UL hv _ (by omega)] at h;simp only[Vc.Jz] at h;omega
 | s :: r,[],last,hu,_,he=>by
  obtain⟨h1,_,_⟩:=OL hu;have h:=he s.2.toNat (by omega);rw[UL hu _ (by omega)] at h;simp only[Vc.Jz] at h;omega
 | s :: r,t :: q,last,hu,hv,he=>by
  obtain⟨h1,_,k1⟩:=OL hu;obtain⟨h2,_,k2⟩:=OL hv;have a:=he s.2.toNat (by omega);have b:=he t.2.toNat (by omega);rw[UL hu _ (by omega)] at a;rw[UL hv _ (by omega)] at b;have e2:s.2=t.2:=by
   rcases Nv s.2 t.2 with h | h | h
   ·rw[JaW _ (by omega),Jc4 q _ k2 _ (by omega)] at a;omega
   ·exact h
   ·rw[JaW _ (by omega),Jc4 r _ k1 _ (by omega)] at b;omega
  rw[UL hv _ (by omega)] at a;have e:s=t:=Prod.ext a e2;subst e;refine congrArg _ (Jif r q s.2 k1 k2 fun n hn=>?_);by_cases hs:s.2=n
  ·rw[Jc4 r _ k1 _ (by omega),Jc4 q _ k2 _ (by omega)]
  ·have:=he n hn
   rwa [JaW _ hs,JaW _ hs] at this
theorem Jgb (r s e:List Vc.St) (n:Nat):0<=YG r s e n:=by
 have:=Vc.Qv r n;have:=Vc.Qv e n;unfold YG;split<;>omega
theorem ZQ (r s e:List Vc.St) {n:Nat} (hn:n < 64):Vc.Jz (XM (YG r s e)) n=YG r s e n:=Ji8 (Jgb r s e) hn
theorem Jkb {r:List Vc.St} (s e:List Vc.St) (hr:fm (-1) r=true):Xa r s e 64=XM (YG r s e):=by
 obtain⟨h1,h2⟩:=UM r s e hr 64 Zl;exact Jif _ _ (-1) h1 (YF _) fun n hn=>by rw[h2 n hn,Ei hn,ZQ r s e hn]
def Jed (b:Bool) (f v:List Vc.St):List Vc.St:=if b=true then f else v
def Jbz (v:List Vc.St) (x:Nt) (o:Int):List Vc.St:=
 match Xy x.w o with
 | some w=>Jed (QD (XM (YG v x.s x.e)) w.1) (XM (YG v x.s x.e)) v
 | none=>XM (YG v x.s x.e)
def Kl (z:List Zn) (known:List Vc.St) (x:Nt) (o:Int):List Vc.St:=if Yx x.b o=true then Qd z known o else Jbz (Qd z known o) x o
def Qj (known:List Vc.St) (x:Nt):List Vc.St:=XM (jn [known,x.e])
def tkF (z:List Zn) (known:List Vc.St) (x:Nt) (o:Int):Option (List Vc.St):=if Xj (Kl z known x o) (Qj known x)=true then none else some (Kl z known x o)
def tkZ (z:List Zn) (known:List Vc.St) (x:Nt):List Zn:=UF (tkF z known x) 256
theorem Yr (u v:List Vc.St):Xj u v=true↔∀n,n < 64->Vc.Jz v n<=Vc.Jz u n:=UU _ _
theorem Ow (known:List Vc.St) (x:Nt) {n:Nat} (hn:n < 64):Vc.Jz (Qj known x) n=max (Vc.Jz known n) (Vc.Jz x.e n):=Jgh known x.e hn
theorem JfO {f g:Int->Option (List Vc.St)}:∀k:Nat,(∀o:Nat,o < k->f o=g o)->rl f k=rl g k
 | 0,_=>rfl
 | k+1,h=>by
  rw[rl,rl,JfO k fun o ho=>h o (by omega),h k (by omega)]
theorem Jj9 {f g:Int->Option (List Vc.St)} {k:Nat} (h:∀o:Nat,o < k->f o=g o):UF f k=UF g k:=by unfold UF;rw[JfO k h]
def UC (x:Nt) (v:List Vc.St) (w:Wr):Bool:=!QD (Xa v x.s x.e 64) w.1
def stP (x:Nt) (v:List Vc.St) (o:Nat):Bool:=Sn.Qp (XX (UC x v) x.b x.w) o
theorem Jot {z:List Zn} {known:List Vc.St} {x:Nt} (h:zF (-1) none z=true) (hk:fm (-1) known=true) (hx:Yw x=true) (o:Nat) (ho:o < 256):
  Jgl (fun v=>Xa v x.s x.e 64) (stP x) z known (o:Int)=Kl z known x (o:Int):=by
 have hf:=ZJ h hk (o:Int);unfold Jgl Kl;generalize Qd z known (o:Int)=v at hf ⊢;unfold Yw at hx;rw[Ea] at hx;have hw:=((JiB _ _ _ _).1 hx.2);have hp:=((Jf1 _ _).1 hw.1).2;have e1:stP x v ((o:Int).toNat)=(Sn.Xs x.b (o:Int) || match x.w.find? (fun w=>decide (w.2.1=(o:Int))) with | some w=>UC x v w | none=>false):=by
  rw[Int.toNat_natCast];unfold stP Sn.Qp;rw[Jg8 _ _ (by omega) (by omega),JlT _ _ hp];rcases x.w.find? (fun w=>decide (w.2.1=(o:Int))) with _ | w<;>rfl
 have e2:Yx x.b (o:Int)=Sn.Xs x.b (o:Int):=by
  unfold Yx;rw[show (decide (0<=(o:Int)) && decide ((o:Int)<=255))=true by simp;omega,Fb]
 rw[e1,e2];rcases hb:Sn.Xs x.b (o:Int) with _ | _
 ·rw[Rq,Ef (show ¬ false=true by simp)];unfold Jbz Xy UC;dsimp only;rw[Jkb x.s x.e hf];generalize x.w.find? (fun w=>decide (w.2.1=(o:Int)))=a;rcases a with _ | w
  ·rfl
  ·show (if (!QD (XM (YG v x.s x.e)) w.1)=true then v else XM (YG v x.s x.e))=Jed (QD (XM (YG v x.s x.e)) w.1) _ _;unfold Jed;by_cases hz:QD (XM (YG v x.s x.e)) w.1=true
   ·rw[Ef (by rw[hz];simp),Ei hz]
   ·rw[Ei (by simpa using hz),Ef hz]
 ·rfl
theorem Jne {z:List Zn} {known:List Vc.St} {x:Nt} (h:zF (-1) none z=true) (hk:fm (-1) known=true) (hx:Yw x=true) (o:Nat) (ho:o < 256):
  JdK (fun v=>Xj v (Qj known x)) (fun v=>Xa v x.s x.e 64) (stP x) z known (o:Int)=tkF z known x (o:Int):=by
 unfold JdK tkF;rw[Jot h hk hx o ho]
theorem JmS {z:List Zn} {known:List Vc.St} {x:Nt} (h:zF (-1) none z=true) (hk:fm (-1) known=true) (hx:Yw x=true) {m:List Zn}
  (hp:(Jcp (fun v=>Xj v (Qj known x)) (fun v=>Xa v x.s x.e 64) (stP x) z known).Perm m) (hs:m.Pairwise fun a b=>a.1.1<=b.1.1):YM m=tkZ z known x:=by
 obtain⟨e,_⟩:=Jjy _ (fun v=>Xa v x.s x.e 64) (fun v hv=>(UM v x.s x.e hv 64 Zl).1) _ h hk hp hs;rw[e];exact Jj9 fun o ho=>Jne h hk hx o ho
theorem JeL (Q:List Vc.St->Prop) {v:List Vc.St} {x:Nt} (o:Int) (h1:Q (XM (YG v x.s x.e))) (h2:Q v):Q (Jbz v x o):=by
 unfold Jbz;rcases Xy x.w o with _ | w
 ·exact h1
 ·show Q (Jed _ _ _);unfold Jed;split
  ·exact h1
  ·exact h2
theorem Jns {v:List Vc.St} (h:fm (-1) v=true) (x:Nt) (o:Int):fm (-1) (Jbz v x o)=true:=JeL (fun u=>fm (-1) u=true) o (YF _) h
theorem JnN {z:List Zn} {known:List Vc.St} (h:zF (-1) none z=true) (hk:fm (-1) known=true) (x:Nt) (o:Int):fm (-1) (Kl z known x o)=true:=by
 unfold Kl;split
 ·exact ZJ h hk o
 ·exact Jns (ZJ h hk o) x o
theorem JeR {z:List Zn} {known:List Vc.St} (h:zF (-1) none z=true) (hk:fm (-1) known=true) (x:Nt) (o:Int) (v:List Vc.St) (e:tkF z known x o=some v):fm (-1) v=true:=by
 unfold tkF at e
 split at e
 ·cases e
 ·rw[<-Fq e];exact JnN h hk x o
theorem Joo {z:List Zn} {known:List Vc.St} (h:zF (-1) none z=true) (hk:fm (-1) known=true) (x:Nt):zF (-1) none (tkZ z known x)=true:=(JbP _ (fun o v e=>JeR h hk x o v e) 256 Zl).fm
theorem Jek {z:List Zn} {known:List Vc.St} (h:zF (-1) none z=true) (hk:fm (-1) known=true) (x:Nt) (o:Int):JD (tkZ z known x) o=if 0<=o/\o < ((256:Nat):Int) then tkF z known x o else none:=(JbP _ (fun o v e=>JeR h hk x o v e) 256 Zl).tell o
theorem Og (z:List Zn) (known:List Vc.St) (o:Int):Qd z known o=(JD z o).getD known:=by
 unfold Qd JD;rcases z.find? (Xg o) with _ | y<;>rfl
theorem JlC {z:List Zn} {known:List Vc.St} (h:zF (-1) none z=true) (hk:fm (-1) known=true) (x:Nt) (o:Nat) (ho:o < 256):
  Qd (tkZ z known x) (Qj known x) (o:Int)=if Xj (Kl z known x o) (Qj known x)=true then Qj known x else Kl z known x o:=by
 rw[Og,Jek h hk,Ei (by omega)];unfold tkF;split<;>rfl
theorem JoB {f:Int->Option (List Vc.St)} {z:List Zn} (h:zF (-1) none z=true) (hf:∀o v,f o=some v->fm (-1) v=true) (ht:∀o:Nat,o < 256->f o=JD z o):UF f 256=z:=by
 have h3:=JbP f hf 256 Zl;refine Jhz h3.fm h fun o=>?_;refine(h3.tell o).trans ?_;split
 ·rename_i ho;obtain⟨k,rfl⟩:=Fd ho.1;exact ht k (by omega)
 ·rename_i ho;symm;unfold JD;rcases hz:z.find? (Xg o) with _ | y
  ·rfl
  ·have hm:=List.mem_of_find?_eq_some hz;have hi:=Qc.1 (List.find?_some hz);have:=zF_in h y hm;omega
where zF_in:∀{e:Int} {p:Option (List Vc.St)} {z:List Zn},zF e p z=true->∀y∈z,e < y.1.1/\y.1.2<=255
 | _,_,[],_,_,hy=>by cases hy
 | e,p,x :: r,h,y,hy=>by
  rw[zF,Ea] at h;obtain⟨h1,h2,h3,_⟩:=Qo h.1;rcases EE.1 hy with rfl | hy
  ·exact⟨h1,h3⟩
  ·have:=zF_in h.2 y hy;omega
theorem JiH {u v:List Vc.St} (hu:fm (-1) u=true) (hv:fm (-1) v=true) (h:∀n,n < 64->Vc.Jz u n=Vc.Jz v n):u=v:=Jif u v (-1) hu hv h
theorem Jm5 {u v:List Vc.St} (h:∀n,n < 64->Vc.Jz u n<=Vc.Jz v n) {s:Vc.St} (hs:QD u s=true):QD v s=true:=by
 unfold QD at hs ⊢;rw[Ea,Ej] at hs ⊢;refine⟨hs.1,?_⟩;obtain⟨h1,h2,h3⟩:=(Vc.JT _).1 hs.1;have e:=hs.2;unfold Zg at e ⊢;rw[Ei ⟨h2,h3⟩] at e ⊢;have:=h s.2.toNat (by omega);omega
theorem JhP {z:List Zn} {known:List Vc.St} {x:Nt} (h:zF (-1) none z=true) (hk:fm (-1) known=true) (o:Nat) (ho:o < 256) (hc:Xj known (Qd z known (o:Int))=true):
  Xj (Qd (tkZ z known x) (Qj known x) (o:Int)) (Qd z known (o:Int))=true/\Xj (Qj known x) (Qd (tkZ z known x) (Qj known x) (o:Int))=true:=by
 rw[JlC h hk x o ho];have k:=(Yr _ _).1 hc;have hN:∀n,n < 64->Vc.Jz (Qd z known (o:Int)) n<=Vc.Jz (Kl z known x (o:Int)) n/\Vc.Jz (Kl z known x (o:Int)) n<=Vc.Jz (Qj known x) n:=by
  intro n hn;have kn:=k n hn;have hfar:Vc.Jz (Qd z known (o:Int)) n<=Vc.Jz (XM (YG (Qd z known (o:Int)) x.s x.e)) n/\Vc.Jz (XM (YG (Qd z known (o:Int)) x.s x.e)) n<=Vc.Jz (Qj known x) n:=by
   rw[ZQ _ _ _ hn,Ow _ _ hn];unfold YG;split<;>omega
  have hself:Vc.Jz (Qd z known (o:Int)) n<=Vc.Jz (Qd z known (o:Int)) n/\Vc.Jz (Qd z known (o:Int)) n<=Vc.Jz (Qj known x) n:=by
   rw[Ow _ _ hn];omega
  unfold Kl;split
  ·exact hself
  ·exact JeL (fun u=>Vc.Jz (Qd z known (o:Int)) n<=Vc.Jz u n/\Vc.Jz u n<=Vc.Jz (Qj known x) n) _ hfar hself
 split
 ·refine⟨(Yr _ _).2 fun n hn=>?_,(Yr _ _).2 fun n _=>Gt _⟩;have:=k n hn;rw[Ow _ _ hn];omega
 ·exact⟨(Yr _ _).2 fun n hn=>(hN n hn).1,(Yr _ _).2 fun n hn=>(hN n hn).2⟩
theorem JjA (x:Int) (w:World):Calls prog 149 #[.int .i64 x] w fun e w'=>e=.returned (.bool false)/\w=w':=by
 go_enter func149,ntmps149;go_wp2;go_ret;exact⟨rfl,rfl⟩
def Xn (x y:Int):Int:=if x < y then -1 else if y < x then 1 else 0
theorem UJ (x y:Int) (w:World):Calls prog 73 #[.int .i64 x,.int .i64 y] w fun e w'=>e=.returned (.int .i64 (Xn x y))/\w=w':=by
 have H1:=Ja JjA;by_cases h1:x < y
 ·have HX:=Ja (show Xn x y=-1 by unfold Xn;rw[Ei h1]);go_enter func73,ntmps73;go_wp2_with (go_at_call 149;go_must (refine(H1.out _ _).mono ?_);rintro e w' ⟨rfl,rfl⟩);go_ret;exact⟨by rw[HX.out];rfl,rfl⟩
 ·by_cases h2:y < x
  ·have HX:=Ja (show Xn x y=1 by unfold Xn;rw[Ef h1,Ei h2]);go_enter func73,ntmps73;go_wp2_with (go_at_call 149;go_must (refine(H1.out _ _).mono ?_);rintro e w' ⟨rfl,rfl⟩);go_ret;exact⟨by rw[HX.out];rfl,rfl⟩
  ·have HX:=Ja (show Xn x y=0 by unfold Xn;rw[Ef h1,Ef h2]);go_enter func73,ntmps73;go_wp2_with (go_at_call 149;go_must (refine(H1.out _ _).mono ?_);rintro e w' ⟨rfl,rfl⟩);go_ret;exact⟨by rw[HX.out];rfl,rfl⟩
end Go.Proofs.YtmbeahbgafkjfaaGreatDoor
