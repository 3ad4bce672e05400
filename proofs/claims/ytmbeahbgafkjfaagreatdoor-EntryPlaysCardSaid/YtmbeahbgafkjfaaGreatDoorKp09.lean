/- Lemmas, layer 9. -/
import Derived.Deep.DeepCutAuto
import Derived.Test.YtmbeahbgafkjfaaGreatDoorKp08
set_option maxRecDepth 100000
set_option linter.unusedSimpArgs false
set_option maxHeartbeats 16000000
namespace Go.Proofs.YtmbeahbgafkjfaaGreatDoor
open Go.Proofs.Tryz Go.RowKit
section
theorem JgE (g:Nat) {B:Nat} (l:List UInt8) (w:World) (h:TR w g B l):
  Calls prog 53 #[.pointer (some ⟨g,0,none⟩),.func (.func 54) #[] #[]] w fun e w'=>TkP Wq.pS w g B l (fun x e w'=>∃A' c',e=.returned (.slice A' x.length c')/\w'.ownsRow w.heap.size 63 2 (.slice A' x.length c') x.length (sv x)) e w':=by
 obtain⟨⟨A,c,hB,hR⟩,hle,hl⟩:=h;have hlt:=hB.lt;have H1:=JjX A l.length c l w rfl (hR.more (by omega)) (by omega);have c0:=hB.cell 0;have f0:=hB.frozen 0;rcases hp:Wq.pS l with _ | ⟨x,r⟩
 ·obtain⟨e1,e2,e3⟩:=JpQ (d:=[]) hp;rw[e1,e2,e3] at H1;have G1:=Ja H1;have HP:=Ja hp;generalize l.length=n at *;clear H1 hR hp hB e1 e2 e3;go_enter func53,ntmps53;go_wp2_with fail;refine G1.out.mono ?_;rintro e w1 ⟨A4,c4,rfl,-,hb1⟩;have HK:=Ja hb1;clear hb1;go_wp2;exact⟨rfl,.inl ⟨HP.out,rfl,JF.of HK.out⟩⟩
 ·obtain⟨e1,e2,e3⟩:=JoV (d:=[]) hp;obtain⟨d1,d2⟩:=Jkv (Wq.JnL hp).1;rw[e1,e2,e3] at H1;obtain⟨k,hk⟩:∃k,k=l.length - r.length:=⟨_,rfl⟩;rw[<-hk] at H1 d1;obtain⟨m4,hm4⟩:∃m,m=x.length:=⟨_,rfl⟩;rw[<-hm4] at H1;have HM4:=Ja hm4;have G1:=Ja H1;have HP:=Ja hp;have HB:=Ja hB;have hkl:k<=l.length:=by omega
  have hs:=fun W=>Yh (P:=prog) W 29 5 1 underlying29 JaB A l.length c .i64 k k rfl hkl;have HR:=Ja (JiP hR hkl);have HD:=Ja d1;have HL:=Ja (show r.length=l.length - k by omega);obtain⟨n,hn⟩:∃n,n=l.length:=⟨_,rfl⟩;rw[<-hn] at hs HR HL HB G1 c0 hl;generalize Qu 1 A c k=A9 at hs HR;generalize c - k=c9 at hs HR;obtain⟨n9,hn9⟩:∃m,m=n - k:=⟨_,rfl⟩;rw[<-hn9] at hs HR HL;have hr32:r.length<=4294967296:=by omega
  clear H1 hR hp hB e1 e2 e3 d1 d2 hk hn hn9 hkl hm4 f0;go_enter func53,ntmps53;go_wp2_with fail;refine G1.out.mono ?_;rintro e w1 ⟨A4,c4,rfl,hno,hb1⟩;have hB1:=HB.out.go hb1;have HB1:=Ja hB1;have b0:=hB1.cell 0;have f0:=hB1.frozen 0;have HNO:=Ja hno;have HK:=Ja hb1;clear c0 hB1 hno hb1;go_wp2;go_ret;have hu:=JF.set_ w1 (p:=⟨g,0,none⟩) (g:=g) rfl (.slice A9 n9 c9);have h2:=HR.out;rw[HD.out] at h2;have hl2:=HL.out;have hB3:=HB1.out.set_ 0 (.slice A9 n9 c9);have h3:=(h2.below (HK.out.mono (by omega))).but hu (by have:=HB1.out.lt;omega) hle;refine .inr ⟨x,r,HP.out,⟨A4,c4,by rw[<-HM4.out];rfl,by rw[<-HM4.out];exact Qf HNO.out hu hlt⟩,⟨⟨A9,c9,by rw[hl2];exact hB3,by rw[hl2];exact h3⟩,hle,hr32⟩,(JF.of HK.out).trans hu⟩
theorem Jm.quad {W:World} {g:Nat} {t:TypeId} {a b c d:Value} (h:Jm W g t #[a,b,c,d]):W.cell? ⟨g,0,none⟩=some a/\W.cell? ⟨g,1,none⟩=some b/\W.cell? ⟨g,2,none⟩=some c/\W.cell? ⟨g,3,none⟩=some d:=⟨h.cell 0,h.cell 1,h.cell 2,h.cell 3⟩
theorem Jar {H:Type} {P:Program} {e:TypeId} (he:P.underlying e=some .bool) {v:Value} {z:DataW H×List MemPlace} (h:plainElem P e v=some z):∃b,v=.bool b/\z=(.lit (.bool b),[]):=by
 unfold plainElem at h;rw[he] at h;cases v<;>simp at h;obtain rfl:=h;exact⟨_,rfl,rfl⟩
theorem Xf {H:Type} {P:Program} (w:World) {ops:Array Oper} {rest:List Oper} {o:Oper} {a:Act} {Q:Exit->Act->World->Prop}
  (hg:o.guard=none) (m x:Operand) (t:TypeId) (hop:o.op=Op.lookup t m x false)
  (k e:TypeId) (K:Maps.Keyed P k) (ht:P.underlying t=some (.map k e)) (he:P.underlying e=some .bool) (hz:(zeroValue e).run P w=.ok (.bool false) w) (b n:Nat) (D:DataW H)
  (hm:a.eval m=.map (some b)) (hown:w.ownsMap P k (plainElem P e) b n D) (key:Value) (kl:Lit) (hx:a.eval x=key) (hkey:keyOf P k key=some kl)
  (hK:∀c:Bool,D.atKey kl (.lit (.bool false))=.lit (.bool c)->wpList P ops Q rest (a.put o.dst (.bool c)) w):
  wpList P ops Q (o :: rest) a w:=by
 refine Re hg fun K' hK'=>?_;obtain⟨v,ps,hrun,hv⟩:=hown.lookup K ht hz (plainElem_bool he false) hkey;obtain⟨c,rfl,hc⟩:=Jar he hv;simp only[Nn] at hc;unfold Oper.wp;simp[execOp,hop,hm,hx,hrun,Result.andThen];exact hK' _ _ (hK c hc.1)
theorem UQ (sc sn ob:Int) (gn:Bool) (w:World):Calls prog 161 #[.agg #[.int .i64 sc,.int .i64 sn,.int .i64 ob,.bool gn]] w fun e w'=>e=.returned (.bool ((decide (0<=ob) && decide (ob<=255)) && Vc.right (sc,sn)))/\Bz w w':=by
 have H1:=Ja fun (W:World)=>Yz sc sn W;have hb0:Bz w (w.alloc (.cells #[.int .i64 sc,.int .i64 sn,.int .i64 ob,.bool gn] 70)):=Zr.alloc Zl _;have HB:=Ja hb0;generalize Vc.right (sc,sn)=z at H1 ⊢;clear hb0;by_cases h1:0<=ob
 ·by_cases h2:ob<=255
  ·have d1:decide (ob ≥ 0)=true:=Eu h1;have d2:decide (ob < 256)=true:=Eu (by omega);have HX:=Ja (show ((decide (0<=ob) && decide (ob<=255)) && z)=z by simp[h1,h2]);rw[HX.out];go_enter func161,ntmps161;go_wp2_with (go_at_call 159;go_must (refine Jd (H1.out _) fun w1 hb1=>?_));go_ret;exact⟨rfl,Jg HB.out hb1⟩
  ·have d2:decide (ob < 256)=false:=Ew (by omega);have HX:=Ja (show ((decide (0<=ob) && decide (ob<=255)) && z)=false by simp[h2]);rw[HX.out];go_enter func161,ntmps161;go_wp2;go_ret;exact⟨rfl,HB.out⟩
 ·have d1:decide (ob ≥ 0)=false:=Ew (by omega);have HX:=Ja (show ((decide (0<=ob) && decide (ob<=255)) && z)=false by simp[h1]);rw[HX.out];go_enter func161,ntmps161;go_wp2;go_ret;exact⟨rfl,HB.out⟩
theorem Oe (sc sn ob:Int) (gn:Bool) (w:World):Calls prog 155 #[.agg #[.int .i64 sc,.int .i64 sn,.int .i64 ob,.bool gn]] w fun e w'=>e=.returned (.bool ((decide (0<=ob) && decide (ob<=255)) && Vc.right (sc,sn)))/\Bz w w':=by
 have H1:=Ja fun (W:World)=>Ym sc sn W;have hb0:Bz w (w.alloc (.cells #[.int .i64 sc,.int .i64 sn,.int .i64 ob,.bool gn] 70)):=Zr.alloc Zl _;have HB:=Ja hb0;generalize Vc.right (sc,sn)=z at H1 ⊢;clear hb0;by_cases h1:0<=ob
 ·by_cases h2:ob<=255
  ·have HX:=Ja (show ((decide (0<=ob) && decide (ob<=255)) && z)=z by simp[h1,h2]);rw[HX.out];go_enter func155,ntmps155;go_wp2_with (go_at_call 116;go_must (refine Jd (H1.out _) fun w1 hb1=>?_));go_ret;exact⟨rfl,Jg HB.out hb1⟩
  ·have HX:=Ja (show ((decide (0<=ob) && decide (ob<=255)) && z)=false by simp[h2]);rw[HX.out];go_enter func155,ntmps155;go_wp2;go_ret;exact⟨rfl,HB.out⟩
 ·have HX:=Ja (show ((decide (0<=ob) && decide (ob<=255)) && z)=false by simp[h1]);rw[HX.out];go_enter func155,ntmps155;go_wp2;go_ret;exact⟨rfl,HB.out⟩
theorem XU (A:OA) (n c:Nat) (l:List Wr) (w:World) (hl:l.length=n) (hR:Rd w w.heap.size 4 A n c (wv l)):
  Calls prog 93 #[.slice A n c] w fun e w'=>e=.returned (.bool (Xu (-1) l))/\Bz w w':=by
 have hmax:n<=9223372036854775807:=by have h1:=hR.cap;have h2:=hR.max;unfold maxLen at h2;omega
 have HW:=Ja fun (W:World) (hb:Bz w W) k (hk:k < l.length)=>(hR.below hb).write hl hk;have HL:=Ja hl;clear hR hl;go_enter func93,ntmps93;go_wp2;go_loopw [3,8] (fun a i wr=>∃(j:Nat) (last:Int),j<=n/\i=.int .i64 j/\a=.int .i64 last/\Bz w wr/\Hid (Xu (-1) l=Xu last (l.drop j))) (fun _ i _=>n - (intOf i).toNat)
 case atStart=>exact⟨0,-1,by omega,rfl,rfl,Ec _ _,rfl⟩
 case round=>
  obtain⟨j,last,hj,rfl,rfl,hb,hr⟩:=hrel;by_cases hlt:j < n
  ·have hjl:j < l.length:=by rw[HL.out];exact hlt
   obtain⟨b,o,rfl,hbb,g0,g1,g2,g3⟩:=HW.out wr hb j hjl;have HD:=hr.out.trans (JgC last l j hjl);generalize hc:l[j].1.1=sc at g0;generalize hn:l[j].1.2=sn at g1;generalize ho:l[j].2.1=ob at g2 HD;generalize hg:l[j].2.2=gn at g3;have hst:l[j].1=(sc,sn):=by rw[<-hc,<-hn]
   rw[hst] at HD;have G0:=fun W=>UQ sc sn ob gn W;generalize ((decide (0<=ob) && decide (ob<=255)) && Vc.right (sc,sn))=z at G0 HD;have G:=Ja G0;have HDD:=Ja HD;have HB:=Ja (hb.alloc hb.size (.cells #[.int .i64 sc,.int .i64 sn,.int .i64 ob,.bool gn] 70));have HX:=Ja (Jm.new wr 70 #[.int .i64 sc,.int .i64 sn,.int .i64 ob,.bool gn]);clear hc hn ho hg hst G0 HD hr hb hbb;cases z
   ·have HN:=Ja (show Xu (-1) l=false by rw[HDD.out];rfl);go_wp2_with (go_at_call 161;go_must (refine Jd (G.out _) fun w1 hb1=>?_);have HB1:=Ja (Jg HB.out hb1);clear hb1);go_ret;exact⟨by rw[HN.out];rfl,HB1.out⟩
   ·by_cases c1:last < ob
    ·have HN:=Ja (show Xu (-1) l=Xu ob (l.drop (j+1)) by rw[HDD.out,Eu c1];rfl);have d1:decide (ob<=last)=false:=by simp;omega
     clear c1;go_wp2_with (go_at_call 161;go_must (refine Jd (G.out _) fun w1 hb1=>?_);have HB1:=Ja (Jg HB.out hb1);obtain⟨x0,x1,x2,x3⟩:=(HX.out.go hb1).quad;clear hb1);go_roundw
     case rel=>exact⟨j+1,ob,by omega,by go_num,rfl,HB1.out,HN⟩
     case measure=>simp[intOf];omega
    ·have HN:=Ja (show Xu (-1) l=false by rw[HDD.out,Ew c1];rfl);have d1:decide (ob<=last)=true:=by simp;omega
     clear c1;go_wp2_with (go_at_call 161;go_must (refine Jd (G.out _) fun w1 hb1=>?_);have HB1:=Ja (Jg HB.out hb1);obtain⟨x0,x1,x2,x3⟩:=(HX.out.go hb1).quad;clear hb1);go_ret;exact⟨by rw[HN.out];rfl,HB1.out⟩
  ·obtain rfl:j=n:=by omega
   have HN:=Ja (show Xu (-1) l=true by rw[hr.out,Ed (by rw[HL.out];exact Ek _)];rfl);clear hr;go_wp2;go_ret;exact⟨by rw[HN.out];rfl,hb⟩
theorem Uy (A:OA) (n c:Nat) (l:List Wr) (w:World) (hl:l.length=n) (hR:Rd w w.heap.size 4 A n c (wv l)):
  Calls prog 86 #[.slice A n c] w fun e w'=>e=.returned (.bool (Xu (-1) l))/\Bz w w':=by
 have hmax:n<=9223372036854775807:=by have h1:=hR.cap;have h2:=hR.max;unfold maxLen at h2;omega
 have HW:=Ja fun (W:World) (hb:Bz w W) k (hk:k < l.length)=>(hR.below hb).write hl hk;have HL:=Ja hl;clear hR hl;go_enter func86,ntmps86;go_wp2;go_loopw [3] (fun i wr=>∃(j:Nat),j<=n/\i=.int .i64 j/\Bz w wr/\Hid (Xu (-1) l=Xu (ZI l j) (l.drop j))) (fun i _=>n - (intOf i).toNat)
 case atStart=>exact⟨0,by omega,rfl,Ec _ _,by rw[Ol];rfl⟩
 case round=>
  obtain⟨j,hj,rfl,hb,hr⟩:=hrel;by_cases hlt:j < n
  ·have hjl:j < l.length:=by rw[HL.out];exact hlt
   obtain⟨b,o,rfl,hbb,g0,g1,g2,g3⟩:=HW.out wr hb j hjl;have HD:=hr.out.trans (JgC (ZI l j) l j hjl);have HE1:=Ja (YY l j hjl);have HP:=Ja fun (W:World) (hw:Bz wr W)=>HW.out W (Jg hb hw) j hjl;have HPi:=Ja fun (W:World) (hw:Bz wr W) i hi=>HW.out W (Jg hb hw) i hi;generalize hc:l[j].1.1=sc at g0 HP;generalize hn:l[j].1.2=sn at g1 HP;generalize ho:l[j].2.1=ob at g2 HD HP HE1;generalize hg:l[j].2.2=gn at g3 HP;have hst:l[j].1=(sc,sn):=by rw[<-hc,<-hn]
   rw[hst] at HD;have HQ:=Ja fun (W:World) (hw:Bz wr W)=>(show W.cell? ⟨b,o+j * 4,none⟩=some (.int .i64 sc)/\W.cell? ⟨b,o+j * 4+1,none⟩=some (.int .i64 sn)/\W.cell? ⟨b,o+j * 4+2,none⟩=some (.int .i64 ob)/\W.cell? ⟨b,o+j * 4+3,none⟩=some (.bool gn) from by
    obtain⟨b2,o2,e2,_,f0,f1,f2,f3⟩:=HP.out W hw;obtain⟨rfl,rfl⟩:b=b2/\o=o2:=by injection e2 with e2;injection e2 with e3 e4;exact⟨e3,e4⟩
    exact⟨f0,f1,f2,f3⟩)
   have G0:=fun W=>Oe sc sn ob gn W;have hpos:((decide (0<=ob) && decide (ob<=255)) && Vc.right (sc,sn))=true->decide (-1 < ob)=true:=by intro h;simp at h;simp;omega
   generalize ((decide (0<=ob) && decide (ob<=255)) && Vc.right (sc,sn))=z at G0 HD hpos;have G:=Ja G0;have HDD:=Ja HD;have HB:=Ja hb;clear hc hn ho hg hst G0 HD hr hb hbb HP;cases z
   ·have HN:=Ja (show Xu (-1) l=false by rw[HDD.out];rfl);clear hpos;have k:Bz w wr.drew:=HB.out.drew;have kk:Bz wr wr.drew:=(Ec _ wr).drew;go_wp2;have HS:=HQ;refine Jl fun KK hKK=>?_;refine Eg (S:=(fun W=>W.cell? ⟨b,o+j * 4,none⟩=some (.int .i64 sc)/\W.cell? ⟨b,o+j * 4+1,none⟩=some (.int .i64 sn)/\W.cell? ⟨b,o+j * 4+2,none⟩=some (.int .i64 ob)/\W.cell? ⟨b,o+j * 4+3,none⟩=some (.bool gn))) (by kernel_rfl) (by first | exact HS.out _ kk) (fun hHeld=>?_);refine Jc 0 10 1 11 (HS.out _ kk) ?_;refine Jc 2 12 3 13 (HS.out _ kk) ?_;refine Qa 4 fun K hK=>?_;go_simp;refine Jj (G.out _) k kk fun w' k kk=>?_;refine hK.out _ _ (HS.out _ kk) fun hHeld=>?_;clear hK K;refine Jc 5 15 6 16 (HS.out _ kk) ?_;refine JB 7 17 (HS.out _ kk) ?_;refine JB 8 18 (HS.out _ kk) ?_;refine JB 9 19 (HS.out _ kk) ?_;refine JB 10 20 (HS.out _ kk) ?_;refine JB 11 21 (HS.out _ kk) ?_;refine JB 12 22 (HS.out _ kk) ?_;refine JB 13 23 (HS.out _ kk) ?_;refine JB 14 24 (HS.out _ kk) ?_;refine JB 15 25 (HS.out _ kk) ?_;refine JB 16 26 (HS.out _ kk) ?_;refine JB 17 27 (HS.out _ kk) ?_;refine JB 18 28 (HS.out _ kk) ?_;refine JB 19 29 (HS.out _ kk) ?_;refine JB 20 30 (HS.out _ kk) ?_;refine JB 21 31 (HS.out _ kk) ?_;refine JB 22 32 (HS.out _ kk) ?_;refine Qx 23 33 (HS.out _ kk) ?_;refine Es (by kernel_rfl) ?_ _;refine QQ.out (hKK _ _ ?_);go_wp2;go_ret;exact⟨by rw[HN.out];rfl,k⟩
   ·have hp:=hpos rfl;clear hpos;have k:Bz w wr.drew:=HB.out.drew;have kk:Bz wr wr.drew:=(Ec _ wr).drew;by_cases hj0:j=0
    ·have HN:=Ja (show Xu (-1) l=Xu ob (l.drop (j+1)) by rw[HDD.out,hj0,Ol,hp];rfl);have dj:decide (0 < j)=false:=by simp;omega
     clear hj0 hp;have HS:=HQ;go_wp2;refine Jl fun KK hKK=>?_;refine Eg (S:=(fun W=>W.cell? ⟨b,o+j * 4,none⟩=some (.int .i64 sc)/\W.cell? ⟨b,o+j * 4+1,none⟩=some (.int .i64 sn)/\W.cell? ⟨b,o+j * 4+2,none⟩=some (.int .i64 ob)/\W.cell? ⟨b,o+j * 4+3,none⟩=some (.bool gn))) (by kernel_rfl) (by first | exact HS.out _ kk) (fun hHeld=>?_);refine Jc 0 10 1 11 (HS.out _ kk) ?_;refine Jc 2 12 3 13 (HS.out _ kk) ?_;refine Qa 4 fun K hK=>?_;go_simp;refine Jj (G.out _) k kk fun w' k kk=>?_;refine hK.out _ _ (HS.out _ kk) fun hHeld=>?_;clear hK K;refine Jc 5 15 6 16 (HS.out _ kk) ?_;refine Qx 7 17 (HS.out _ kk) ?_;refine puB 8 18 ((.bool false)) (HS.out _ kk) ?_;refine Qx 9 19 (HS.out _ kk) ?_;refine JB 10 20 (HS.out _ kk) ?_;refine JB 11 21 (HS.out _ kk) ?_;refine JB 12 22 (HS.out _ kk) ?_;refine JB 13 23 (HS.out _ kk) ?_;refine JB 14 24 (HS.out _ kk) ?_;refine JB 15 25 (HS.out _ kk) ?_;refine JB 16 26 (HS.out _ kk) ?_;refine JB 17 27 (HS.out _ kk) ?_;refine JB 18 28 (HS.out _ kk) ?_;refine JB 19 29 (HS.out _ kk) ?_;refine JB 20 30 (HS.out _ kk) ?_;refine JB 21 31 (HS.out _ kk) ?_;refine Jc 22 32 23 33 (HS.out _ kk) ?_;refine Es (by kernel_rfl) ?_ _;refine QQ.out (hKK _ _ ?_);go_wp2;go_roundw
     case rel=>exact⟨j+1,by omega,by go_num,k,by show _=_;rw[HN.out,HE1.out]⟩
     case measure=>simp[intOf];omega
    ·obtain⟨i,hji⟩:∃i,j=i+1:=⟨j - 1,by omega⟩;have hil:i < l.length:=by omega
     have HAH:=Ja (show ZI l j=l[i].2.1 by subst hji;exact YY l i hil);have HR2:=Ja fun (W:World) (hw:Bz wr W)=>(show W.cell? ⟨b,o+i * 4+2,none⟩=some (.int .i64 l[i].2.1) from by
      obtain⟨b2,o2,e2,_,f0,f1,f2,f3⟩:=HPi.out W hw i hil;obtain⟨rfl,rfl⟩:b=b2/\o=o2:=by injection e2 with e2;injection e2 with e3 e4;exact⟨e3,e4⟩
      exact f2)
     generalize l[i].2.1=pv at HR2 HAH;have HS:=Ja fun W (hw:Bz wr W)=>(⟨HR2.out W hw,HQ.out W hw⟩:_/\_);have dj:decide (0 < j)=true:=by simp;omega
     have e9:((j:Int) - 1)=(i:Int):=by omega
     have e8:IntKind.i64.wrap (i:Int)=(i:Int):=EJ _ (by omega);have hi4:(0:Int)<=(i:Int)/\(i:Int) < (n:Int):=by omega
     clear hji hj0 hp;by_cases c1:pv < ob
     ·have HN:=Ja (show Xu (-1) l=Xu ob (l.drop (j+1)) by rw[HDD.out,HAH.out,Eu c1];rfl);have d1:decide (pv ≥ ob)=false:=by simp;omega
      clear c1;go_wp2;refine Jl fun KK hKK=>?_;refine Eg (S:=(fun W=>W.cell? ⟨b,o+i * 4+2,none⟩=some (.int .i64 pv)/\W.cell? ⟨b,o+j * 4,none⟩=some (.int .i64 sc)/\W.cell? ⟨b,o+j * 4+1,none⟩=some (.int .i64 sn)/\W.cell? ⟨b,o+j * 4+2,none⟩=some (.int .i64 ob)/\W.cell? ⟨b,o+j * 4+3,none⟩=some (.bool gn))) (by kernel_rfl) (by first | exact HS.out _ kk) (fun hHeld=>?_);refine Jc 0 10 1 11 (HS.out _ kk) ?_;refine Jc 2 12 3 13 (HS.out _ kk) ?_;refine Qa 4 fun K hK=>?_;go_simp;refine Jj (G.out _) k kk fun w' k kk=>?_;refine hK.out _ _ (HS.out _ kk) fun hHeld=>?_;clear hK K;refine Jc 5 15 6 16 (HS.out _ kk) ?_;refine Qx 7 17 (HS.out _ kk) ?_;refine puB 8 18 ((.bool true)) (HS.out _ kk) ?_;refine Jc 9 19 10 20 (HS.out _ kk) ?_;refine Jc 11 21 12 22 (HS.out _ kk) ?_;refine Jc 13 23 14 24 (HS.out _ kk) ?_;refine Jc 15 25 16 26 (HS.out _ kk) ?_;refine Jc 17 27 18 28 (HS.out _ kk) ?_;refine Jc 19 29 20 30 (HS.out _ kk) ?_;refine puB 21 31 ((.bool false)) (HS.out _ kk) ?_;refine Jc 22 32 23 33 (HS.out _ kk) ?_;refine Es (by kernel_rfl) ?_ _;refine QQ.out (hKK _ _ ?_);go_wp2;go_roundw
      case rel=>exact⟨j+1,by omega,by go_num,k,by show _=_;rw[HN.out,HE1.out]⟩
      case measure=>simp[intOf];omega
     ·have HN:=Ja (show Xu (-1) l=false by rw[HDD.out,HAH.out,Ew c1];rfl);have d1:decide (pv ≥ ob)=true:=by simp;omega
      clear c1;go_wp2;refine Jl fun KK hKK=>?_;refine Eg (S:=(fun W=>W.cell? ⟨b,o+i * 4+2,none⟩=some (.int .i64 pv)/\W.cell? ⟨b,o+j * 4,none⟩=some (.int .i64 sc)/\W.cell? ⟨b,o+j * 4+1,none⟩=some (.int .i64 sn)/\W.cell? ⟨b,o+j * 4+2,none⟩=some (.int .i64 ob)/\W.cell? ⟨b,o+j * 4+3,none⟩=some (.bool gn))) (by kernel_rfl) (by first | exact HS.out _ kk) (fun hHeld=>?_);refine Jc 0 10 1 11 (HS.out _ kk) ?_;refine Jc 2 12 3 13 (HS.out _ kk) ?_;refine Qa 4 fun K hK=>?_;go_simp;refine Jj (G.out _) k kk fun w' k kk=>?_;refine hK.out _ _ (HS.out _ kk) fun hHeld=>?_;clear hK K;refine Jc 5 15 6 16 (HS.out _ kk) ?_;refine Qx 7 17 (HS.out _ kk) ?_;refine puB 8 18 ((.bool true)) (HS.out _ kk) ?_;refine Jc 9 19 10 20 (HS.out _ kk) ?_;refine Jc 11 21 12 22 (HS.out _ kk) ?_;refine Jc 13 23 14 24 (HS.out _ kk) ?_;refine Jc 15 25 16 26 (HS.out _ kk) ?_;refine Jc 17 27 18 28 (HS.out _ kk) ?_;refine Jc 19 29 20 30 (HS.out _ kk) ?_;refine puB 21 31 ((.bool true)) (HS.out _ kk) ?_;refine Jc 22 32 23 33 (HS.out _ kk) ?_;refine Es (by kernel_rfl) ?_ _;refine QQ.out (hKK _ _ ?_);go_wp2;go_ret;exact⟨by rw[HN.out];rfl,k⟩
  ·obtain rfl:j=n:=by omega
   have HN:=Ja (show Xu (-1) l=true by rw[hr.out,Ed (by rw[HL.out];exact Ek _)];rfl);clear hr;go_wp2;go_ret;exact⟨by rw[HN.out];rfl,hb⟩
def JiX {α:Type} (F:Fence) (n:Nat) (P:Program) (g:Nat) (lb:Array Value) (encs:α->Array Value) (T:α->World->Prop) (Kp:World->World->Prop) (S Sp:List α->Prop) (N:Nat) (w:World):Prop:=
 ∀(l:Nat) (J Jx:List α->World->Prop) (W:World),Bz w W->AbidesFrom W.heap.size J->AbidesFrom W.heap.size Jx ->
  (∀pre x W1,J pre W1->T x W1->pre.length < N->YieldAt F (n - 1) P l (encs x) W1 fun e W'=>
   (e=.returned (.bool true)/\J (pre++[x]) W'/\Kp W1 W')\/(e=.returned (.bool false)/\Jx (pre++[x]) W')) ->
  J [] W ->
  CallsIn F n P g (#[.func (.yield l) #[] #[]]++lb) W fun e W'=>(∃v,e=.returned v)/\((∃xs,S xs/\J xs W')\/(∃pre,Sp pre/\Jx pre W'))
def JjV {α:Type} (B:Nat) (Kp:World->World->Prop) (I:List α->World->Prop) (Ix:Code->List α->World->Prop) (xs:List α) (W:World):Exit->Act->World->Prop
 | .normal,_,V=>KeepsFrom B W V/\Kp W V/\I xs V
 | .ret,_,V=>KeepsFrom B W V/\Ix .ret xs V
 | .exit id,_,V=>KeepsFrom B W V/\Ix (.exit id) xs V
 | .goto t,_,V=>KeepsFrom B W V/\Ix (.goto t) xs V
 | .panic _,_,_=>False
 | .outgrown,_,_=>False
variable {F:Fence} {n:Nat} {P:Program}
theorem ON {α:Type} {g:Operand} {ps:Array Tmp} {assign body:Code} {Q:Exit->Act->World->Prop} {a:Act} {w:World}
  (hro:F.round=none) (h1:1<=n) {gf:Nat} {lb:Array Value} (hg:a.eval g=.func (.func gf) #[] lb) (hFg:F.fn gf) (eg:∀args w,(callFunc gf args).run P w=.ok (.enter gf args) w)
  {encs:α->Array Value} {T:α->World->Prop} {Kp:World->World->Prop} {S Sp:List α->Prop} {N:Nat} {w0:World} (hseq:JiX F (n - 1) P gf lb encs T Kp S Sp N w0)
  (hKt:∀{A B C:World},Kp A B->Kp B C->Kp A C) (hKb:∀(W:World) (l:Nat) (o o':Obj),w.heap.size<=l->W.heap[l]?=some o->o.isCells=false->o.isWalk=false->Kp W (W.putObj l o')) (hb0:Bz w0 w) (hps:∀x,(encs x).size=ps.size)
  (I:List α->World->Prop) (Ix:Code->List α->World->Prop) (hI:OwnFrom w.heap.size I) (hIx:∀c,OwnFrom w.heap.size (Ix c)) (h0:I [] w)
  (Ax:α->Act->World->Prop) (hAx:∀a₁,OwnFrom w.heap.size (fun x V=>Ax x a₁ V))
  (hassign:∀(l:Nat) (pre:List α) (x:α) (W:World) (K:Act->World->Prop),I pre W->T x W->(∀a₁ V,KeepsFrom w.heap.size W V->Kp W V->I pre V->Ax x a₁ V->K a₁ V) ->
   assign.wpIn (F.inRound l) (n - 1 - 1) P (Exit.then K (fun _ _ _=>False)) { tmps:=(ps.zip (encs x)).foldl (fun t (p,v)=>t.setIfInBounds p v) a.tmps,defers:=[] } W)
  (hbody:∀(l:Nat) (pre:List α) (x:α) (a₁:Act) (W:World),w.heap.size<=l->I pre W->Ax x a₁ W->pre.length < N->body.wpIn (F.inRound l) (n - 1 - 1) P (JjV w.heap.size Kp I Ix (pre++[x]) W) a₁ W)
  (hdone:∀(D:Nat) (xs:List α) (W:World),w.heap.size<=D->S xs->I xs W->W.heap[D]?=some (.deferred (some []))->Q .normal { a with defers:={ target:=.collected D,args:=#[] } :: a.defers } W)
  (hstop:∀(D:Nat) (c:Code) (pre:List α) (W:World),w.heap.size<=D->Sp pre->Ix c pre W->W.heap[D]?=some (.deferred (some []))->c.wpIn F n P Q { a with defers:={ target:=.collected D,args:=#[] } :: a.defers } W):
  (Code.rangeFunc g ps assign body).wpIn F n P Q a w:=by
 refine wpIn_rangeFunc fun fn hfn=>?_;rw[hro]
 -- the loop's record,in each of its states
 let R:LoopState->Option Code->Obj:=fun st pe=>.loop { state:=st,pending:=pe,fn,tmps:=a.tmps,params:=ps,assign,body,defers:=w.heap.size };have hsz:(w.alloc (.deferred (some []))).heap.size=w.heap.size+1:=by simp
 obtain⟨W1,hW1⟩:∃W1,W1=(w.alloc (.deferred (some []))).alloc (R .ready none):=⟨_,rfl⟩;have rec1:W1.heap[w.heap.size+1]?=some (R .ready none):=by
  have h:=Nz (w.alloc (.deferred (some []))) (R .ready none)
  rwa [hsz,<-hW1] at h
 have mark1:W1.heap[w.heap.size]?=some (.deferred (some [])):=by
  rw[hW1];exact(Below.heap_alloc _ _ _ (by omega)).trans (Nz w _)
 have i1:I [] W1:=by rw[hW1];exact hI.alloc _ (hI.alloc _ h0)
 have below1:Bz w0 W1:=by
  rw[hW1];exact hb0.trans ((((Ec _ w).alloc Zl _).alloc (by simp) _).mono hb0.size)
 have size1:w.heap.size+2<=W1.heap.size:=by rw[hW1];simp
 refine⟨w.heap.size+1,[{ target:=.collected w.heap.size,args:=#[] }],W1,{ target:=.fn (.func gf) lb,args:=#[.func (.yield (w.heap.size+1)) #[] #[]] },W1,gf,#[.func (.yield (w.heap.size+1)) #[] #[]]++lb,W1,
  by rw[hW1];exact run_enterLoop_outer _ _ _ _ _,by simp only[resolve,hg];simp[go_sem],fun f' hf'=>by simp[Target.leads] at hf';subst hf';exact hFg,by simp[invoke,go_sem,eg],fun _=>h1,?_⟩
 have stays:∀{A B:World} {row:Option Nat} {k:Nat} {o:Obj},A.grownBy B row->(∀r,row=some r->W1.heap.size<=r/\∃o:Obj,A.heap[r]?=some o/\o.isWalk=true)->k < W1.heap.size->A.heap[k]?=some o->B.heap[k]?=some o:=
  fun {A B row k o} hg' hr hk h=>(hg'.block k (EA.1 h).1 (fun e=>by have:=(hr k e.symm).1;omega)).trans h
 have asOwn:∀{A:World} {row:Option Nat},(∀r,row=some r->W1.heap.size<=r/\∃o:Obj,A.heap[r]?=some o/\o.isWalk=true)->(∀r,row=some r->w.heap.size<=r/\∃o:Obj,A.heap[r]?=some o/\o.isCells=false):=
  fun hr r e=>by obtain⟨hle,o,ho,hwk⟩:=hr r e;exact⟨by omega,o,ho,Obj.not_cells_of_walk hwk⟩
 refine(hseq (w.heap.size+1) (fun pre W=>I pre W/\W.heap[w.heap.size+1]?=some (R .ready none)/\W.heap[w.heap.size]?=some (.deferred (some [])))
  (fun pre W=>∃c,Ix c pre W/\W.heap[w.heap.size+1]?=some (R .done (some c))/\W.heap[w.heap.size]?=some (.deferred (some []))) W1 below1
  (fun s A B row hs hg' hr=>⟨hI s A B row hs.1 hg' (asOwn hr),stays hg' hr (by omega) hs.2.1,stays hg' hr (by omega) hs.2.2⟩)
  (fun s A B row hs hg' hr=>by
   obtain⟨c,hc,hl,hk⟩:=hs;exact⟨c,hIx c s A B row hc hg' (asOwn hr),stays hg' hr (by omega) hl,stays hg' hr (by omega) hk⟩) ?_ ⟨i1,rec1,mark1⟩).mono ?_
 ·-- one round
  rintro pre x W ⟨hi,hl,hk⟩ hx hlen;refine⟨fn,_,assign,body,run_yield (P:=P) (args:=encs x) hl (hps x),roundIn_of_wpIn hfn ?_⟩;refine hassign _ pre x W _ hi hx fun a₁ V hkV hpV iV axV=>?_
  ·have lV:=hkV.same _ _ (by omega) hl rfl;have kV:=hkV.same _ _ Zl hk rfl;have hltV:=(EA.1 lV).1;refine⟨_,run_beginRound lV rfl,wpIn_mono (hbody _ pre x a₁ _ (by omega) (hI.putObj _ iV (by omega) lV rfl) ((hAx a₁).putObj _ axV (by omega) lV rfl) hlen) ?_⟩;have l2:(V.putObj (w.heap.size+1) (R .busy none)).heap[w.heap.size+1]?=some (R .busy none):=Ni hltV;have k2:(V.putObj (w.heap.size+1) (R .busy none)).heap[w.heap.size]?=some (.deferred (some [])):=(Fj (by omega)).trans kV;have kp2:Kp W (V.putObj (w.heap.size+1) (R .busy none)):=hKt hpV (hKb _ _ _ _ (by omega) lV rfl rfl);have shut:∀(jump:Option Code) (Z:World),KeepsFrom w.heap.size (V.putObj (w.heap.size+1) (R .busy none)) Z →
     (Instr.endRound (w.heap.size+1) jump).run P Z=.ok (.bool jump.isNone) (Z.putObj (w.heap.size+1) (R (if jump.isNone then .ready else .done) jump))/\Z.heap[w.heap.size+1]?=some (R .busy none) /\
     (Z.putObj (w.heap.size+1) (R (if jump.isNone then .ready else .done) jump)).heap[w.heap.size+1]?=some (R (if jump.isNone then .ready else .done) jump) /\
     (Z.putObj (w.heap.size+1) (R (if jump.isNone then .ready else .done) jump)).heap[w.heap.size]?=some (.deferred (some [])):=fun jump Z hz=>by
    have lz:=hz.same _ _ (by omega) l2 rfl;exact⟨run_endRound (P:=P) jump lz,lz,Ni (EA.1 lz).1,(Fj (by omega)).trans (hz.same _ _ Zl k2 rfl)⟩
   rintro e2 a2 Z hq
   cases e2 with
   | normal=>
    obtain⟨hz,kpz,iz⟩:=hq;obtain⟨hrun,lz,l4,k4⟩:=shut none Z hz;exact⟨_,_,hrun,.inl ⟨rfl,⟨hI.putObj _ iz (by omega) lz rfl,l4,k4⟩,hKt (hKt kp2 kpz) (hKb _ _ _ _ (by omega) lz rfl rfl)⟩⟩
   | ret=>
    obtain⟨hz,iz⟩:=hq;obtain⟨hrun,lz,l4,k4⟩:=shut (some .ret) Z hz;exact⟨_,_,hrun,.inr ⟨rfl,.ret,(hIx _).putObj _ iz (by omega) lz rfl,l4,k4⟩⟩
   | exit id=>
    obtain⟨hz,iz⟩:=hq;obtain⟨hrun,lz,l4,k4⟩:=shut (some (.exit id)) Z hz;exact⟨_,_,hrun,.inr ⟨rfl,.exit id,(hIx _).putObj _ iz (by omega) lz rfl,l4,k4⟩⟩
   | goto t=>
    obtain⟨hz,iz⟩:=hq;obtain⟨hrun,lz,l4,k4⟩:=shut (some (.goto t)) Z hz;exact⟨_,_,hrun,.inr ⟨rfl,.goto t,(hIx _).putObj _ iz (by omega) lz rfl,l4,k4⟩⟩
   | panic ch=>exact hq.elim
   | outgrown=>exact hq.elim
 ·-- behind the iterator
  rintro e W2 ⟨⟨v,rfl⟩,(⟨xs,hS,hi,hl,hk⟩ | ⟨pre,hSp,c,hi,hl,hk⟩)⟩
  ·exact⟨none,_,run_endLoop (P:=P) hl (by simp),hdone _ xs _ Zl hS (hI.putObj _ hi (by omega) hl rfl) ((Fj (by omega)).trans hk)⟩
  ·exact⟨some c,_,run_endLoop (P:=P) hl (by simp),hstop _ c pre _ Zl hSp ((hIx c).putObj _ hi (by omega) hl rfl) ((Fj (by omega)).trans hk)⟩
end
theorem Jba {W W':World} {row:Option Nat} {B size n c:Nat} {A:OA} {xs:List Value} (h:Rd W B size A n c xs) (hg:W.grownBy W' row) (hr:∀r,row=some r->∃o:Obj,W.heap[r]?=some o/\o.isCells=false):Rd W' B size A n c xs:=
 ⟨h.len,h.cap,h.max,h.nil,fun hn=>by
  obtain⟨ad,e,hb,hc⟩:=h.at0 hn;exact⟨ad,e,hb,fun j u hu=>cell_kept (hc j u hu) hg hr⟩⟩
structure JdF (w0 W:World):Prop where
 size:w0.heap.size<=W.heap.size
 cell:∀p u,w0.cell? p=some u->W.cell? p=some u
theorem JdF.refl (w:World):JdF w w:=⟨Ek _,fun _ _ h=>h⟩
theorem JdF.below {w0 W V:World} (h:JdF w0 W) (hb:Bz W V):JdF w0 V:=
 ⟨EY h.size hb.size,fun p u hp=>(hb.cell (p:=p) (FC (Ep _ _ hp) h.size)).trans (h.cell p u hp)⟩
theorem JdF.of_below {w0 W:World} (h:Bz w0 W):JdF w0 W:=(JdF.refl w0).below h
end Go.Proofs.YtmbeahbgafkjfaaGreatDoor
