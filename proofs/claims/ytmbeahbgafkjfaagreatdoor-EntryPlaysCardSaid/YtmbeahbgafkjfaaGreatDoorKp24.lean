/- Lemmas, layer 24. -/
import Derived.Test.YtmbeahbgafkjfaaGreatDoorKp06
set_option linter.unusedSimpArgs false
set_option maxRecDepth 100000
set_option maxHeartbeats 16000000
namespace Go.Proofs.YtmbeahbgafkjfaaGreatDoor
open Go.Proofs.Tryz Go.RowKit
def iv (l:List Int):List Value:=l.map fun x=>.int .i64 x
theorem JnX (l:List Int) (k:Nat) (h:k < l.length):(iv l)[k]?=some (.int .i64 l[k]):=by simp[iv,Nu,Em h]
def JP (xs:List Int):List UInt8:=xs.flatMap fun x=>Pk.lay x.toNat
theorem JbE (xs:List Int) (k:Nat) (h:k < xs.length):JP (xs.take (k+1))=JP (xs.take k)++Pk.lay (xs[k]).toNat:=by
 unfold JP;rw[Eq h,List.flatMap_append];simp
theorem JgJ (x:Int) (xs:List Int):JP (x :: xs)=Pk.lay x.toNat++JP xs:=by simp[JP]
theorem Jnx {x:Int} (h:Wq.Ua x):(Pk.lay x.toNat).length<=9:=Pk.UR (by have:=h.1;have:=h.2;omega)
theorem XB:∀(xs:List Int),(∀x∈xs,Wq.Ua x)->(JP xs).length<=9 * xs.length
 | [],_=>by simp[JP]
 | x :: r,h=>by
  have:=XB r fun y hy=>h y (by simp[hy]);have:=Jnx (h x (by simp));rw[JgJ,Eb,List.length_cons];omega
def Zw (base:Nat) (w:World) (bs:List UInt8) (v:Value) (w':World):Prop:=
 ∃A' c',v=.slice A' bs.length c'/\w'.ownsRow base 5 1 (.slice A' bs.length c') bs.length (bv bs)/\Below base w w'
theorem Jfi (A A2:OA) (n c m c2:Nat) (l:List UInt8) (xs:List Int) (w:World) (hl:l.length=n) (hR:Rd w w.heap.size 1 A n c (bv l)) (hx:xs.length=m) (hR2:Rd w w.heap.size 1 A2 m c2 (iv xs))
  (hu:∀x∈xs,Wq.Ua x) (h0:0 < m) (hn:n+9 * m<=140737488355328):
  Calls prog 103 #[.slice A n c,.slice A2 m c2] w fun e w'=>∃v,e=.returned v/\Zw w.heap.size w (l++JP xs) v w':=by
 have hmax:m<=9223372036854775807:=by have h1:=hR2.cap;have h2:=hR2.max;unfold maxLen at h2;omega
 have HLA:=Ja (XB);have HL:=Ja hl;have HX:=Ja hx;have HU:=Ja hu;have HR:=Ja hR;clear hl hu hR;go_enter func103,ntmps103;go_wp2;go_loopw [0,6,9] (fun v0 _ v9 wr=>∃(k N c':Nat) (A':OA),v9=.int .i64 k/\v0=.slice A' N c'/\k<=m/\N<=n+9 * k/\Rd wr wr.heap.size 1 A' N c' (bv (l++JP (xs.take k)))/\Bz w wr /\
  Hid ((l++JP (xs.take k)).length=N/\(0 < k->wr.ownsRow w.heap.size 5 1 (.slice A' N c') N (bv (l++JP (xs.take k)))))) (fun _ _ v9 _=>m - (intOf v9).toNat)
 case atStart=>exact⟨0,n,c,A,rfl,rfl,by omega,by omega,by simpa[JP] using HR.out,Ec _ _,by simp[JP,HL.out],fun h=>absurd h (by omega)⟩
 case round=>
  obtain⟨k,N,c',A',rfl,rfl,hk,hN,hR1,hb,hq⟩:=hrel;have hbs:=hb.size;by_cases hlt:k < m
  ·have hkx:k < xs.length:=by rw[HX.out];exact hlt
   obtain⟨ad,u,rfl,hab,hu1,hc1⟩:=hR2.at_ hlt;rw[JnX xs k hkx] at hu1;obtain⟨y,hy⟩:∃y:Nat,xs[k]=(y:Int):=⟨xs[k].toNat,by have:=(HU.out _ (En hkx)).1;omega⟩;have hylt:y < 9223372036854775808:=by have:=(HU.out _ (En hkx)).2;omega
   have hy9:=Pk.UR hylt;have ht:=JbE xs k hkx;rw[hy,Int.toNat_natCast] at ht;have HT:=Ja ht;rw[hy] at hu1;simp only[Gg] at hu1;subst hu1;have q1:=(hb.cell (p:=ad.add k) (by rw[QK];exact hab)).trans hc1;have G:=Ja (YE A' N c' y (l++JP (xs.take k)) wr hq.out.1 hR1 (by omega) hy9);have HY9:=Ja hy9;obtain⟨ly,hly⟩:∃ly,ly=(Pk.lay y).length:=⟨_,rfl⟩;rw[<-hly] at G hy9;have HLY:=Ja hly;clear hR1 ht hy hkx hylt hly hc1 hR2;go_wp2_with fail;refine G.out.mono ?_;rintro e w2 ⟨A2,c3,rfl,ho2,hb2⟩;go_wp2;go_roundw
   case rel=>
    have e1:l++JP (xs.take (k+1))=l++JP (xs.take k)++Pk.lay y:=by rw[HT.out,Er]
    refine⟨k+1,N+ly,c3,A2,by go_num,rfl,by omega,by omega,by rw[e1];exact Rd.of_own ho2,Jg hb hb2,?_,fun _=>?_⟩
    ·rw[e1,Eb,hq.out.1,HLY.out]
    ·rw[e1];exact Jk ho2 hbs
   case measure=>simp[intOf];omega
  ·obtain rfl:k=m:=by omega
   clear hR1 hR2;go_wp2;go_ret;have e0:xs.take k=xs:=Eo (by rw[HX.out];exact Ek _);obtain⟨q1,q2⟩:=hq.out;have q3:=q2 h0;rw[e0] at q1 q3;exact⟨_,rfl,A',c',by rw[q1];rfl,by rw[q1];exact q3,hb⟩
theorem JnH (sp:List Sn.Sp) (k:Nat) (h:k < sp.length):Wq.lP (sp.take (k+1))=Wq.lP (sp.take k)++JP [sp[k].1,sp[k].2]:=by
 unfold Wq.lP;rw[Eq h,List.flatMap_append];simp[JP]
theorem Jdr (A D:OA) (n c m d:Nat) (l:List UInt8) (sp:List Sn.Sp) (w:World) (hl:l.length=n) (hR:Rd w w.heap.size 1 A n c (bv l)) (hl2:sp.length=m) (hR2:Rd w w.heap.size 2 D m d (sv sp)) (hf:Sn.Xp (-2) sp=true) (hn:n+2400<=140737488355328):
  Calls prog 30 #[.slice A n c,.slice D m d] w fun e w'=>∃v,e=.returned (.tuple #[v,.int .i64 0])/\Zw w.heap.size w (l++Wq.lS sp) v w':=by
 have H1:=YX D m d sp w hl2 hR2;rw[hf] at H1;have G1:=Ja H1;have hm:=Sn.XV hf;rw[hl2] at hm;have HU:=Ja (Wq.JiZ hf);have HL2:=Ja hl2;have HR:=Ja hR;have HL:=Ja hl;have hum:Wq.Ua (m:Int):=⟨by omega,by omega⟩;have h1max:1<=maxLen:=by unfold maxLen;omega
 have h2max:2<=maxLen:=by unfold maxLen;omega
 clear H1 hl2 hR hl hf;go_enter func30,ntmps30;go_wp2_with fail;refine Jd G1.out fun w1 hb1=>?_;have hs1:=hb1.size;have hbA:Bz w (w1.alloc (.cells #[.int .i64 m] 3)):=hb1.alloc hs1 _;have hRn:=Rd.new w1 3 1 1 #[.int .i64 m] rfl h1max;have hRb:=HR.out.go hbA;have G2:=Ja (Jfi A (some ⟨w1.heap.size,0,none⟩) n c 1 1 l [(m:Int)] (w1.alloc (.cells #[.int .i64 m] 3)) HL.out hRb rfl (by rw[El];exact hRn) (by simpa using hum) (by omega) (by omega));clear G1 hRn hRb hb1;go_wp2_with fail;refine G2.out.mono ?_;rintro e w2 ⟨v2,rfl,A2,c2,rfl,ho2,hb2⟩;have hbw2:=Jg hbA hb2;have HHL:=Ja (show (l++JP [(m:Int)]).length<=n+9 by
  rw[Eb,HL.out];have:=XB [(m:Int)] (by simpa using hum);simp at this;omega)
 obtain⟨l2,hl2⟩:∃l2,l2=l++JP [(m:Int)]:=⟨_,rfl⟩;rw[<-hl2] at ho2 HHL;obtain⟨n2,hn2⟩:∃n2,n2=l2.length:=⟨_,rfl⟩;rw[<-hn2] at ho2 HHL;have hn2le:=HHL.out;have HL22:=Ja hl2;have HN2:=Ja hn2;rw[<-hl2,<-hn2];clear G2 hb2 hbA hl2 hn2;go_wp2_with fail;go_loopw [6,8,19] (fun v6 _ v19 wr=>∃(k N c':Nat) (A':OA),v19=.int .i64 k/\v6=.slice A' N c'/\k<=m/\N<=n2+18 * k/\wr.ownsRow w.heap.size 5 1 (.slice A' N c') N (bv (l2++Wq.lP (sp.take k)))/\Bz w wr /\
  Hid ((l2++Wq.lP (sp.take k)).length=N)) (fun _ _ v19 _=>m - (intOf v19).toNat)
 case atStart=>exact⟨0,n2,c2,A2,rfl,rfl,by omega,by omega,by simpa[Wq.lP] using Jk ho2 (by simp;omega),hbw2,by show _=_;simp[Wq.lP,HN2.out]⟩
 case round=>
  obtain⟨k,N,c',A',rfl,rfl,hk,hN,ho,hb,hq⟩:=hrel;have hbs:=hb.size;have HO:=Ja ho;by_cases hlt:k < m
  ·have hks:k < sp.length:=by rw[HL2.out];exact hlt
   obtain⟨b,o,rfl,hab,g0,g1⟩:=hR2.stamp HL2.out hlt;have h0:=(hb.cell (p:=⟨b,o+k * 2,none⟩) hab).trans g0;have h1:=(hb.cell (p:=⟨b,o+k * 2+1,none⟩) hab).trans g1;have HT:=Ja (JnH sp k hks);have HUk:=Ja (HU.out _ (En hks));generalize hlo:(sp[k]'hks).1=lo at h0 g0 HT HUk;generalize hhi:(sp[k]'hks).2=hi at h1 g1 HT HUk;have hbA:Bz w ((wr.alloc (.cells #[.int .i64 lo,.int .i64 hi] 63)).alloc (.cells #[.int .i64 lo,.int .i64 hi] 3)):=(hb.alloc hbs _).alloc (by simp;omega) _;have hRn:=Rd.new (wr.alloc (.cells #[.int .i64 lo,.int .i64 hi] 63)) 3 1 2 #[.int .i64 lo,.int .i64 hi] rfl h2max;have hRb:=((Rd.of_own ho).alloc Zl (.cells #[.int .i64 lo,.int .i64 hi] 63)).alloc (by simp) (.cells #[.int .i64 lo,.int .i64 hi] 3);have hu2:∀x∈[lo,hi],Wq.Ua x:=by
    intro x hx;simp only[EE,Gd,Rb] at hx;rcases hx with rfl | rfl
    ·exact HUk.out.1
    ·exact HUk.out.2
   have G3:=Ja (Jfi A' (some ⟨wr.heap.size+1,0,none⟩) N c' 2 2 (l2++Wq.lP (sp.take k)) [lo,hi] _ hq.out (hRb.more (by simp;omega)) rfl (by rw[El] at hRn;rw[El,El];exact hRn) hu2 (by omega) (by omega));have HE:=Ja (XB [lo,hi] hu2);have HBA:=Ja hbA;clear hlo hhi ho hRn hRb hu2 hks hb hbA g0 g1 hR2 HUk;go_wp2_with fail;refine G3.out.mono ?_;rintro e w3 ⟨v3,rfl,A3,c3,rfl,ho3,hb3⟩;have hb4:=Jg HBA.out hb3;have e1:l2++Wq.lP (sp.take k)++JP [lo,hi]=l2++Wq.lP (sp.take (k+1)):=by rw[HT.out,Er]
   have hlen:(l2++Wq.lP (sp.take k)++JP [lo,hi]).length<=N+18:=by
    have:=HE.out;rw[Eb,hq.out];simp at this;omega
   obtain⟨N3,hN3⟩:∃N3,N3=(l2++Wq.lP (sp.take k)++JP [lo,hi]).length:=⟨_,rfl⟩;rw[<-hN3] at ho3 hlen ⊢;rw[e1] at hN3 ho3;have HN3:=Ja hN3;clear G3 hb3 e1 hN3;go_wp2;go_roundw
   case rel=>
    exact⟨k+1,N3,c3,A3,by go_num,rfl,by omega,by omega,Jk ho3 (by simp;omega),hb4,HN3.out.symm⟩
   case measure=>simp[intOf];omega
  ·obtain rfl:k=m:=by omega
   clear hR2 ho;go_wp2;go_ret2;have e0:sp.take k=sp:=Eo (by rw[HL2.out];exact Ek _);have q1:=hq.out;have q3:=HO.out;rw[e0,HL22.out] at q1 q3;have e2:l++JP [(k:Int)]++Wq.lP sp=l++Wq.lS sp:=by
    unfold Wq.lS;rw[HL2.out];simp[JP]
   rw[e2] at q1 q3;exact⟨_,rfl,A',c',by rw[q1];rfl,by rw[q1];exact q3,hb⟩
theorem Jdz (A:OA) (n c:Nat) (x:Wq.Bd) (Av:OA) (cv:Nat) (w:World) (hf:Wq.bdF x=false):
  Calls prog 29 #[.slice A n c,.agg (JO x Av cv)] w fun e w'=>e=.returned (.tuple #[.slice none 0 0,.int .i64 1])/\Bz w w':=by
 have hb0:Bz w (w.alloc (.cells (JO x Av cv) 31)):=Zr.alloc Zl _;have G1:=Jaa x Av cv (w.alloc (.cells (JO x Av cv) 31));rw[hf] at G1;unfold JO at G1 hb0 ⊢;have G1:=Ja G1;have HB:=Ja hb0;clear hf hb0;go_enter func29,ntmps29;go_wp2_with (go_at_call 104;go_must (refine Jd G1.out fun w1 hb1=>?_));go_ret2;exact⟨rfl,Jg HB.out hb1⟩
theorem JcH (A:OA) (n c:Nat) (l:List UInt8) (x:Wq.Bd) (Av:OA) (cv:Nat) (w:World) (hl:l.length=n) (hR:Rd w w.heap.size 1 A n c (bv l)) (hR2:Rd w w.heap.size 1 Av x.v.length cv (bv x.v)) (hf:Wq.bdF x=true) (hc:x.s.1 < 9223372036854775808) (hn:n+2400<=140737488355328):
  Calls prog 29 #[.slice A n c,.agg (JO x Av cv)] w fun e w'=>∃v,e=.returned (.tuple #[v,.int .i64 0])/\Zw w.heap.size w (l++Wq.lB x) v w':=by
 obtain⟨f1,f2,f3,f4,f5,f6⟩:=(Wq.Zs x).1 hf;have hb0:Bz w (w.alloc (.cells (JO x Av cv) 31)):=Zr.alloc Zl _;have hX:=Jm.new w 31 (JO x Av cv);have G1:=Jaa x Av cv (w.alloc (.cells (JO x Av cv) 31));rw[hf] at G1;have h3max:3<=maxLen:=by unfold maxLen;omega
 have hu3:∀z∈[x.o,x.s.2,x.s.1],Wq.Ua z:=by
  intro z hz;simp only[EE,Gd,Rb] at hz;rcases hz with rfl | rfl | rfl
  ·exact⟨f1,by omega⟩
  ·exact⟨f4,by omega⟩
  ·exact⟨by omega,hc⟩
 have G2:=Ja fun (W:World) (D:OA) (d:Nat) (h1:Rd W W.heap.size 1 A n c (bv l)) (h2:Rd W W.heap.size 1 D 3 d (iv [x.o,x.s.2,x.s.1]))=>Jfi A D n c 3 d l [x.o,x.s.2,x.s.1] W hl h1 rfl h2 hu3 (by omega) (by omega);have hE:=XB [x.o,x.s.2,x.s.1] hu3;have hl3:(l++JP [x.o,x.s.2,x.s.1]).length<=n+27:=by rw[Eb,hl];simp at hE;omega
 have HL3:=Ja (show (l++JP [x.o,x.s.2,x.s.1])++Pk.lay x.v.length++x.v=l++Wq.lB x by unfold Wq.lB Wq.lR;simp[JP]);obtain⟨l3,hl3e⟩:∃q,q=l++JP [x.o,x.s.2,x.s.1]:=⟨_,rfl⟩;rw[<-hl3e] at G2 hl3 HL3;have G3:=Ja fun (W:World) (D:OA) (d:Nat) (h1:Rd W W.heap.size 1 D l3.length d (bv l3)) (h2:Rd W W.heap.size 1 Av x.v.length cv (bv x.v))=>Jdv D Av l3.length d x.v.length cv l3 x.v W rfl h1 h2 (by omega);obtain⟨o,⟨ct,nd⟩,v⟩:=x;dsimp only at *;unfold JO at G1 hb0 hX ⊢;dsimp only at G1 hb0 hX ⊢;have HR:=Ja (hR.go hb0);have HR2:=Ja (hR2.go hb0);have G1:=Ja G1;have HB:=Ja hb0;have HX:=Ja hX;clear hl hR hR2 hf hc f1 f2 f3 f4 f5 f6 hu3 hE hl3e hb0 hX;go_enter func29,ntmps29;go_wp2_with (go_at_call 104;go_must (refine Jd G1.out fun w1 hb1=>?_));obtain⟨q0,q1,q2,q3⟩:w1.drew.cell? ⟨w.heap.size,0,none⟩=some (.int .i64 o)/\w1.drew.cell? ⟨w.heap.size,1,none⟩=some (.int .i64 ct)/\w1.drew.cell? ⟨w.heap.size,2,none⟩=some (.int .i64 nd)/\w1.drew.cell? ⟨w.heap.size,3,none⟩=some (.slice Av v.length cv):=(HX.out.go hb1).four;have HXX:=Ja (show Jm w1 w.heap.size 31 #[.int .i64 o,.int .i64 ct,.int .i64 nd,.slice Av v.length cv] from HX.out.go hb1);have HR1:=Ja (HR.out.go hb1);have HS1:=Ja (HR2.out.go hb1);have HB1:=Ja (Jg HB.out hb1);have hs1:=HB1.out.size;have HBD:=Ja (show Bz w1 (w1.alloc (.cells #[.int .i64 o,.int .i64 nd,.int .i64 ct] 3)).drew from (Zr.alloc Zl _).drew);have HRn:=Ja (show Rd (w1.alloc (.cells #[.int .i64 o,.int .i64 nd,.int .i64 ct] 3)).drew (w1.heap.size+1) 1 (some ⟨w1.heap.size,0,none⟩) 3 3 (iv [o,nd,ct]) from (Rd.new w1 3 1 3 #[.int .i64 o,.int .i64 nd,.int .i64 ct] rfl h3max).drew);refine Jl fun K hK=>?_;go_region_held3 (fun w'=>w'.cell? ⟨w.heap.size,0,none⟩=some (.int .i64 o)/\w'.cell? ⟨w.heap.size,1,none⟩=some (.int .i64 ct)/\w'.cell? ⟨w.heap.size,2,none⟩=some (.int .i64 nd)/\w'.cell? ⟨w.heap.size,3,none⟩=some (.slice Av v.length cv)) (first | exact⟨u0,u1,u2,u3⟩ | exact⟨t0,t1,t2,t3⟩ | exact⟨q0,q1,q2,q3⟩ | exact(HXX.out.go HBD.out).four | go_keep) (first
  | (go_at_call 103;go_must (refine(G2.out _ _ _ (HR1.out.go HBD.out) (by have h:=HRn.out;exact h.more (by simp))).mono ?_);rintro e w2 ⟨v2,rfl,A2,c2,rfl,ho2,hb2⟩;obtain⟨t0,t1,t2,t3⟩:=((HXX.out.go HBD.out).go hb2).four)
  | (go_at_call 105;go_must (refine(G3.out _ _ _ (Rd.of_own ho2) ((HS1.out.go HBD.out).go hb2)).mono ?_);rintro e w3 ⟨A3,c3,rfl,ho3,hb3⟩;obtain⟨u0,u1,u2,u3⟩:=(((HXX.out.go HBD.out).go hb2).go hb3).four))
 refine QQ.out (hK _ _ ?_);go_wp2;go_ret2;have hlen:(l++Wq.lB ⟨o,(ct,nd),v⟩).length=l3.length+(Pk.lay v.length).length+v.length:=by rw[<-HL3.out,Eb,Eb]
 refine⟨_,rfl,A3,c3,by rw[hlen]<;>rfl,?_,Qg (Qg (Jg HB1.out HBD.out) Zl hb2) Zl hb3⟩;rw[hlen,<-HL3.out];exact Jk ho3 (by have:=hb2.size;simp at this;omega)
end Go.Proofs.YtmbeahbgafkjfaaGreatDoor
