/- Lemmas for the claim, layer 15. -/
import Derived.Test.YtmbeahbgafkjfaaGreatDoorKc14
set_option maxRecDepth 100000
namespace Go.Proofs.YtmbeahbgafkjfaaGreatDoor
open Go.RowKit
theorem join2_any (A D:Option Addr) (n c m d:Nat) (u v:List Vc.St) (W:World) (hT:Tab W) (hl:u.length=n) (hl2:v.length=m) (hR:Rd W W.heap.size 2 A n c (sv u)) (hR2:Rd W W.heap.size 2 D m d (sv v)):
  Calls Tryz.prog 180 #[.slice (some ⟨W.heap.size,0,none⟩) 2 2] (W.alloc (.cells #[.slice A n c,.slice D m d] 22)) fun e w'=>∃A' c',e=.returned (.slice A' (vec (jn [u,v])).length c')/\Rd w' w'.heap.size 2 A' (vec (jn [u,v])).length c' (sv (vec (jn [u,v])))/\Below W.heap.size W w':=by
 have hb:Below W.heap.size W (W.alloc (.cells #[.slice A n c,.slice D m d] 22)):=Zr.alloc Zl _;refine(join_any _ 2 2 [u,v] _ (hT.below hb) (RdL.two hl hl2 hR hR2 22)).mono ?_;rintro e w1 ⟨A',c',rfl,ho,hb1⟩;exact⟨A',c',rfl,Rd.of_own ho,btn hb hb1⟩
theorem fm_cons {last:Int} {s:Vc.St} {r:List Vc.St} (h:fm last (s :: r)=true):(0 < s.1/\0<=s.2/\s.2 < 64)/\last < s.2/\fm s.2 r=true:=by
 simp only[fm,Bool.and_eq_true,decide_eq_true_eq] at h;exact⟨(Vc.right_iff s).1 h.1,h.2.1,h.2.2⟩
theorem fm_low:∀(v:List Vc.St) (last:Int),fm last v=true->∀n:Nat,(n:Int)<=last->Vc.cnt v n=0
 | [],_,_,_,_=>rfl
 | s :: r,last,h,n,hn=>by
  obtain⟨_,h2,h3⟩:=fm_cons h;rw[Vc.cnt,if_neg (fun e=>by omega)];exact fm_low r s.2 h3 n (by omega)
theorem cnt_head {last:Int} {s:Vc.St} {r:List Vc.St} (h:fm last (s :: r)=true) (n:Nat) (hn:s.2=n):Vc.cnt (s :: r) n=s.1:=by
 rw[Vc.cnt,if_pos ⟨(Vc.right_iff s).2 (fm_cons h).1,hn⟩]
theorem cnt_tail {s:Vc.St} {r:List Vc.St} (n:Nat) (hn:s.2≠n):Vc.cnt (s :: r) n=Vc.cnt r n:=by
 rw[Vc.cnt,if_neg (fun e=>hn e.2)]
theorem fm_ext:∀(u v:List Vc.St) (last:Int),fm last u=true->fm last v=true->(∀n:Nat,n < 64->Vc.cnt u n=Vc.cnt v n)->u=v
 | [],[],_,_,_,_=>rfl
 | [],t :: r,last,_,hv,he=>by
  obtain⟨h1,_,_⟩:=fm_cons hv;have h:=he t.2.toNat (by omega);rw[cnt_head hv _ (by omega)] at h;simp only[Vc.cnt] at h;omega
 | s :: r,[],last,hu,_,he=>by
  obtain⟨h1,_,_⟩:=fm_cons hu;have h:=he s.2.toNat (by omega);rw[cnt_head hu _ (by omega)] at h;simp only[Vc.cnt] at h;omega
 | s :: r,t :: q,last,hu,hv,he=>by
  obtain⟨h1,_,k1⟩:=fm_cons hu;obtain⟨h2,_,k2⟩:=fm_cons hv;have a:=he s.2.toNat (by omega);have b:=he t.2.toNat (by omega);rw[cnt_head hu _ (by omega)] at a;rw[cnt_head hv _ (by omega)] at b;have e2:s.2=t.2:=by
   rcases Int.lt_trichotomy s.2 t.2 with h | h | h
   ·rw[cnt_tail _ (by omega),fm_low q _ k2 _ (by omega)] at a;omega
   ·exact h
   ·rw[cnt_tail _ (by omega),fm_low r _ k1 _ (by omega)] at b;omega
  rw[cnt_head hv _ (by omega)] at a;have e:s=t:=Prod.ext a e2;subst e;refine congrArg _ (fm_ext r q s.2 k1 k2 fun n hn=>?_);by_cases hs:s.2=n
  ·rw[fm_low r _ k1 _ (by omega),fm_low q _ k2 _ (by omega)]
  ·have:=he n hn
   rwa [cnt_tail _ hs,cnt_tail _ hs] at this
theorem farC_nonneg (r s e:List Vc.St) (n:Nat):0<=farC r s e n:=by
 have:=Vc.cnt_nonneg r n;have:=Vc.cnt_nonneg e n;unfold farC;split<;>omega
theorem cnt_far_vec (r s e:List Vc.St) {n:Nat} (hn:n < 64):Vc.cnt (vec (farC r s e)) n=farC r s e n:=cnt_vec (farC_nonneg r s e) hn
theorem farTo_vec {r:List Vc.St} (s e:List Vc.St) (hr:fm (-1) r=true):farTo r s e 64=vec (farC r s e):=by
 obtain⟨h1,h2⟩:=farTo_ok r s e hr 64 Zl;exact fm_ext _ _ (-1) h1 (formed_vec _) fun n hn=>by rw[h2 n hn,if_pos hn,cnt_far_vec r s e hn]
def pickL (b:Bool) (f v:List Vc.St):List Vc.St:=if b=true then f else v
def strD (v:List Vc.St) (x:Nt) (o:Int):List Vc.St:=
 match atO x.w o with
 | some w=>pickL (hasB (vec (farC v x.s x.e)) w.1) (vec (farC v x.s x.e)) v
 | none=>vec (farC v x.s x.e)
def newD (z:List Zn) (known:List Vc.St) (x:Nt) (o:Int):List Vc.St:=if hasO x.b o=true then reach z known o else strD (reach z known o) x o
def nowOf (known:List Vc.St) (x:Nt):List Vc.St:=vec (jn [known,x.e])
def tkF (z:List Zn) (known:List Vc.St) (x:Nt) (o:Int):Option (List Vc.St):=if cov2 (newD z known x o) (nowOf known x)=true then none else some (newD z known x o)
def tkZ (z:List Zn) (known:List Vc.St) (x:Nt):List Zn:=rls (tkF z known x) 256
theorem cov2_iff (u v:List Vc.St):cov2 u v=true↔∀n,n < 64->Vc.cnt v n<=Vc.cnt u n:=covB_iff _ _
theorem cnt_now (known:List Vc.St) (x:Nt) {n:Nat} (hn:n < 64):Vc.cnt (nowOf known x) n=max (Vc.cnt known n) (Vc.cnt x.e n):=cnt_join known x.e hn
theorem rl_congr {f g:Int->Option (List Vc.St)}:∀k:Nat,(∀o:Nat,o < k->f o=g o)->rl f k=rl g k
 | 0,_=>rfl
 | k+1,h=>by
  rw[rl,rl,rl_congr k fun o ho=>h o (by omega),h k (by omega)]
theorem rls_congr {f g:Int->Option (List Vc.St)} {k:Nat} (h:∀o:Nat,o < k->f o=g o):rls f k=rls g k:=by unfold rls;rw[rl_congr k h]
def missP (x:Nt) (v:List Vc.St) (w:Wr):Bool:=!hasB (farTo v x.s x.e 64) w.1
def stP (x:Nt) (v:List Vc.St) (o:Nat):Bool:=Sn.setOf (staysL (missP x v) x.b x.w) o
theorem newR_D {z:List Zn} {known:List Vc.St} {x:Nt} (h:zF (-1) none z=true) (hk:fm (-1) known=true) (hx:ntF x=true) (o:Nat) (ho:o < 256):
  newR (fun v=>farTo v x.s x.e 64) (stP x) z known (o:Int)=newD z known x (o:Int):=by
 have hf:=reach_fm h hk (o:Int);unfold newR newD;generalize reach z known (o:Int)=v at hf ⊢;unfold ntF at hx;rw[Bool.and_eq_true] at hx;have hw:=((ntW_iff _ _ _ _).1 hx.2);have hp:=((rise_iff _ _).1 hw.1).2;have e1:stP x v ((o:Int).toNat)=(Sn.inB x.b (o:Int) || match x.w.find? (fun w=>decide (w.2.1=(o:Int))) with | some w=>missP x v w | none=>false):=by
  rw[Int.toNat_natCast];unfold stP Sn.setOf;rw[stays_in _ _ (by omega) (by omega),any_at _ _ hp];rcases x.w.find? (fun w=>decide (w.2.1=(o:Int))) with _ | w<;>rfl
 have e2:hasO x.b (o:Int)=Sn.inB x.b (o:Int):=by
  unfold hasO;rw[show (decide (0<=(o:Int)) && decide ((o:Int)<=255))=true by simp;omega,Bool.true_and]
 rw[e1,e2];rcases hb:Sn.inB x.b (o:Int) with _ | _
 ·rw[Bool.false_or,if_neg (show ¬ false=true by simp)];unfold strD atO missP;dsimp only;rw[farTo_vec x.s x.e hf];generalize x.w.find? (fun w=>decide (w.2.1=(o:Int)))=a;rcases a with _ | w
  ·rfl
  ·show (if (!hasB (vec (farC v x.s x.e)) w.1)=true then v else vec (farC v x.s x.e))=pickL (hasB (vec (farC v x.s x.e)) w.1) _ _;unfold pickL;by_cases hz:hasB (vec (farC v x.s x.e)) w.1=true
   ·rw[if_neg (by rw[hz];simp),if_pos hz]
   ·rw[if_pos (by simpa using hz),if_neg hz]
 ·rfl
theorem newF_tk {z:List Zn} {known:List Vc.St} {x:Nt} (h:zF (-1) none z=true) (hk:fm (-1) known=true) (hx:ntF x=true) (o:Nat) (ho:o < 256):
  newF (fun v=>cov2 v (nowOf known x)) (fun v=>farTo v x.s x.e 64) (stP x) z known (o:Int)=tkF z known x (o:Int):=by
 unfold newF tkF;rw[newR_D h hk hx o ho]
theorem take_is {z:List Zn} {known:List Vc.St} {x:Nt} (h:zF (-1) none z=true) (hk:fm (-1) known=true) (hx:ntF x=true) {m:List Zn}
  (hp:(allP (fun v=>cov2 v (nowOf known x)) (fun v=>farTo v x.s x.e 64) (stP x) z known).Perm m) (hs:m.Pairwise fun a b=>a.1.1<=b.1.1):joinedZ m=tkZ z known x:=by
 obtain⟨e,_⟩:=take_runs _ (fun v=>farTo v x.s x.e 64) (fun v hv=>(farTo_ok v x.s x.e hv 64 Zl).1) _ h hk hp hs;rw[e];exact rls_congr fun o ho=>newF_tk h hk hx o ho
theorem strD_or (Q:List Vc.St->Prop) {v:List Vc.St} {x:Nt} (o:Int) (h1:Q (vec (farC v x.s x.e))) (h2:Q v):Q (strD v x o):=by
 unfold strD;rcases atO x.w o with _ | w
 ·exact h1
 ·show Q (pickL _ _ _);unfold pickL;split
  ·exact h1
  ·exact h2
theorem strD_fm {v:List Vc.St} (h:fm (-1) v=true) (x:Nt) (o:Int):fm (-1) (strD v x o)=true:=strD_or (fun u=>fm (-1) u=true) o (formed_vec _) h
theorem newD_fm {z:List Zn} {known:List Vc.St} (h:zF (-1) none z=true) (hk:fm (-1) known=true) (x:Nt) (o:Int):fm (-1) (newD z known x o)=true:=by
 unfold newD;split
 ·exact reach_fm h hk o
 ·exact strD_fm (reach_fm h hk o) x o
theorem tkF_fm {z:List Zn} {known:List Vc.St} (h:zF (-1) none z=true) (hk:fm (-1) known=true) (x:Nt) (o:Int) (v:List Vc.St) (e:tkF z known x o=some v):fm (-1) v=true:=by
 unfold tkF at e
 split at e
 ·cases e
 ·rw[<-Option.some.inj e];exact newD_fm h hk x o
theorem tkZ_fm {z:List Zn} {known:List Vc.St} (h:zF (-1) none z=true) (hk:fm (-1) known=true) (x:Nt):zF (-1) none (tkZ z known x)=true:=(rl_ok _ (fun o v e=>tkF_fm h hk x o v e) 256 Zl).fm
theorem tkZ_tells {z:List Zn} {known:List Vc.St} (h:zF (-1) none z=true) (hk:fm (-1) known=true) (x:Nt) (o:Int):tells (tkZ z known x) o=if 0<=o/\o < ((256:Nat):Int) then tkF z known x o else none:=(rl_ok _ (fun o v e=>tkF_fm h hk x o v e) 256 Zl).tell o
theorem reach_tells (z:List Zn) (known:List Vc.St) (o:Int):reach z known o=(tells z o).getD known:=by
 unfold reach tells;rcases z.find? (inZ o) with _ | y<;>rfl
theorem reach_tk {z:List Zn} {known:List Vc.St} (h:zF (-1) none z=true) (hk:fm (-1) known=true) (x:Nt) (o:Nat) (ho:o < 256):
  reach (tkZ z known x) (nowOf known x) (o:Int)=if cov2 (newD z known x o) (nowOf known x)=true then nowOf known x else newD z known x o:=by
 rw[reach_tells,tkZ_tells h hk,if_pos (by omega)];unfold tkF;split<;>rfl
theorem rls_is {f:Int->Option (List Vc.St)} {z:List Zn} (h:zF (-1) none z=true) (hf:∀o v,f o=some v->fm (-1) v=true) (ht:∀o:Nat,o < 256->f o=tells z o):rls f 256=z:=by
 have h3:=rl_ok f hf 256 Zl;refine zF_ext h3.fm h fun o=>?_;refine(h3.tell o).trans ?_;split
 ·rename_i ho;obtain⟨k,rfl⟩:=Int.eq_ofNat_of_zero_le ho.1;exact ht k (by omega)
 ·rename_i ho;symm;unfold tells;rcases hz:z.find? (inZ o) with _ | y
  ·rfl
  ·have hm:=List.mem_of_find?_eq_some hz;have hi:=inZ_iff.1 (List.find?_some hz);have:=zF_in h y hm;omega
where zF_in:∀{e:Int} {p:Option (List Vc.St)} {z:List Zn},zF e p z=true->∀y∈z,e < y.1.1/\y.1.2<=255
 | _,_,[],_,_,hy=>by cases hy
 | e,p,x :: r,h,y,hy=>by
  rw[zF,Bool.and_eq_true] at h;obtain⟨h1,h2,h3,_⟩:=zStep_iff h.1;rcases List.mem_cons.1 hy with rfl | hy
  ·exact⟨h1,h3⟩
  ·have:=zF_in h.2 y hy;omega
theorem vec_ext {u v:List Vc.St} (hu:fm (-1) u=true) (hv:fm (-1) v=true) (h:∀n,n < 64->Vc.cnt u n=Vc.cnt v n):u=v:=fm_ext u v (-1) hu hv h
theorem cntZ_le {u v:List Vc.St} (h:∀n,n < 64->Vc.cnt u n<=Vc.cnt v n) {s:Vc.St} (hs:hasB u s=true):hasB v s=true:=by
 unfold hasB at hs ⊢;rw[Bool.and_eq_true,decide_eq_true_eq] at hs ⊢;refine⟨hs.1,?_⟩;obtain⟨h1,h2,h3⟩:=(Vc.right_iff _).1 hs.1;have e:=hs.2;unfold cntZ at e ⊢;rw[if_pos ⟨h2,h3⟩] at e ⊢;have:=h s.2.toNat (by omega);omega
theorem take_reach {z:List Zn} {known:List Vc.St} {x:Nt} (h:zF (-1) none z=true) (hk:fm (-1) known=true) (o:Nat) (ho:o < 256) (hc:cov2 known (reach z known (o:Int))=true):
  cov2 (reach (tkZ z known x) (nowOf known x) (o:Int)) (reach z known (o:Int))=true/\cov2 (nowOf known x) (reach (tkZ z known x) (nowOf known x) (o:Int))=true:=by
 rw[reach_tk h hk x o ho];have k:=(cov2_iff _ _).1 hc;have hN:∀n,n < 64->Vc.cnt (reach z known (o:Int)) n<=Vc.cnt (newD z known x (o:Int)) n/\Vc.cnt (newD z known x (o:Int)) n<=Vc.cnt (nowOf known x) n:=by
  intro n hn;have kn:=k n hn;have hfar:Vc.cnt (reach z known (o:Int)) n<=Vc.cnt (vec (farC (reach z known (o:Int)) x.s x.e)) n/\Vc.cnt (vec (farC (reach z known (o:Int)) x.s x.e)) n<=Vc.cnt (nowOf known x) n:=by
   rw[cnt_far_vec _ _ _ hn,cnt_now _ _ hn];unfold farC;split<;>omega
  have hself:Vc.cnt (reach z known (o:Int)) n<=Vc.cnt (reach z known (o:Int)) n/\Vc.cnt (reach z known (o:Int)) n<=Vc.cnt (nowOf known x) n:=by
   rw[cnt_now _ _ hn];omega
  unfold newD;split
  ·exact hself
  ·exact strD_or (fun u=>Vc.cnt (reach z known (o:Int)) n<=Vc.cnt u n/\Vc.cnt u n<=Vc.cnt (nowOf known x) n) _ hfar hself
 split
 ·refine⟨(cov2_iff _ _).2 fun n hn=>?_,(cov2_iff _ _).2 fun n _=>Int.le_refl _⟩;have:=k n hn;rw[cnt_now _ _ hn];omega
 ·exact⟨(cov2_iff _ _).2 fun n hn=>(hN n hn).1,(cov2_iff _ _).2 fun n hn=>(hN n hn).2⟩
theorem isNaN_any (x:Int) (w:World):Calls Tryz.prog 149 #[.int .i64 x] w fun e w'=>e=.returned (.bool false)/\w=w':=by
 go_enter Tryz.func149,Tryz.ntmps149;go_wp2;go_ret;exact⟨rfl,rfl⟩
def cmpI (x y:Int):Int:=if x < y then -1 else if y < x then 1 else 0
theorem cmpI_any (x y:Int) (w:World):Calls Tryz.prog 73 #[.int .i64 x,.int .i64 y] w fun e w'=>e=.returned (.int .i64 (cmpI x y))/\w=w':=by
 have H1:=Hz_ isNaN_any;by_cases h1:x < y
 ·have HX:=Hz_ (show cmpI x y=-1 by unfold cmpI;rw[if_pos h1]);go_enter Tryz.func73,Tryz.ntmps73;go_wp2_with (go_at_call 149;go_must (refine(H1.out _ _).mono ?_);rintro e w' ⟨rfl,rfl⟩);go_ret;exact⟨by rw[HX.out];rfl,rfl⟩
 ·by_cases h2:y < x
  ·have HX:=Hz_ (show cmpI x y=1 by unfold cmpI;rw[if_neg h1,if_pos h2]);go_enter Tryz.func73,Tryz.ntmps73;go_wp2_with (go_at_call 149;go_must (refine(H1.out _ _).mono ?_);rintro e w' ⟨rfl,rfl⟩);go_ret;exact⟨by rw[HX.out];rfl,rfl⟩
  ·have HX:=Hz_ (show cmpI x y=0 by unfold cmpI;rw[if_neg h1,if_neg h2]);go_enter Tryz.func73,Tryz.ntmps73;go_wp2_with (go_at_call 149;go_must (refine(H1.out _ _).mono ?_);rintro e w' ⟨rfl,rfl⟩);go_ret;exact⟨by rw[HX.out];rfl,rfl⟩
end Go.Proofs.YtmbeahbgafkjfaaGreatDoor
