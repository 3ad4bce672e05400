/- Lemmas, layer 6. -/
import Derived.Test.YtmbeahbgafkjfaaGreatDoorKp05
set_option linter.unusedSimpArgs false
set_option maxRecDepth 100000
set_option maxHeartbeats 16000000
namespace Go.Proofs.YtmbeahbgafkjfaaGreatDoor
open Go.Proofs.Tryz Go.RowKit
def wc (w:Wr):List Value:=[.int .i64 w.1.1,.int .i64 w.1.2,.int .i64 w.2.1,.bool w.2.2]
def wv (l:List Wr):List Value:=l.flatMap wc
theorem Yp (l:List Wr):(wv l).length=l.length * 4:=Xw wc 4 l fun _ _=>rfl
theorem Jbu (l r:List Wr):wv (l++r)=wv l++wv r:=by simp[wv]
theorem JiO (l:List Wr) (k:Nat) (h:k < l.length) (j:Nat) (hj:j < 4):(wv l)[k * 4+j]?=(wc l[k])[j]?:=ZZ wc 4 (by decide) l (fun _ _=>rfl) k h j hj
theorem XY (l:List Wr):∀u∈wv l,u.oneCell'=true:=by
 intro u hu;simp only[wv,wc,Gy,EE,Gd,Rb] at hu;obtain⟨s,_,h | h | h | h⟩:=hu<;>subst h<;>rfl
theorem Rd.write {w:World} {B n c k:Nat} {A:OA} {l:List Wr} (h:Rd w B 4 A n c (wv l)) (hl:l.length=n) (hk:k < l.length):
  ∃b o,A=some ⟨b,o,none⟩/\b < B/\w.cell? ⟨b,o+k * 4,none⟩=some (.int .i64 l[k].1.1)/\w.cell? ⟨b,o+k * 4+1,none⟩=some (.int .i64 l[k].1.2) /\
   w.cell? ⟨b,o+k * 4+2,none⟩=some (.int .i64 l[k].2.1)/\w.cell? ⟨b,o+k * 4+3,none⟩=some (.bool l[k].2.2):=by
 obtain⟨b,o,rfl,hb,hc⟩:=h.plain (by omega) (by decide);have e:∀j,j < 4->∀u,(wc l[k])[j]?=some u->w.cell? ⟨b,o+k * 4+j,none⟩=some u:=fun j hj u hu=>by
  rw[NK];exact hc (k * 4+j) u (by rw[JiO l k (by omega) j hj,hu])
 exact⟨b,o,rfl,hb,e 0 (by decide) _ rfl,e 1 (by decide) _ rfl,e 2 (by decide) _ rfl,e 3 (by decide) _ rfl⟩
structure NV where
 A1:OA
 n1:Nat
 c1:Nat
 A2:OA
 n2:Nat
 c2:Nat
 A3:OA
 n3:Nat
 c3:Nat
 A4:OA
 n4:Nat
 c4:Nat
abbrev NV.val (v:NV):Array Value:=#[.slice v.A1 v.n1 v.c1,.slice v.A2 v.n2 v.c2,.slice v.A3 v.n3 v.c3,.slice v.A4 v.n4 v.c4]
structure Yf (w:World) (B:Nat) (v:NV) (x:Nt):Prop where
 l1:x.s.length=v.n1
 r1:Rd w B 2 v.A1 v.n1 v.c1 (sv x.s)
 l2:x.e.length=v.n2
 r2:Rd w B 2 v.A2 v.n2 v.c2 (sv x.e)
 l3:x.b.length=v.n3
 r3:Rd w B 2 v.A3 v.n3 v.c3 (sv x.b)
 l4:x.w.length=v.n4
 r4:Rd w B 4 v.A4 v.n4 v.c4 (wv x.w)
theorem Yf.go {w w':World} {v:NV} {x:Nt} (h:Yf w w.heap.size v x) (hb:Bz w w'):Yf w' w'.heap.size v x:=
 ⟨h.l1,h.r1.go hb,h.l2,h.r2.go hb,h.l3,h.r3.go hb,h.l4,h.r4.go hb⟩
theorem Yf.more {w:World} {B B':Nat} {v:NV} {x:Nt} (h:Yf w B v x) (hB:B<=B'):Yf w B' v x:=
 ⟨h.l1,h.r1.more hB,h.l2,h.r2.more hB,h.l3,h.r3.more hB,h.l4,h.r4.more hB⟩
theorem Yf.below {w w':World} {B:Nat} {v:NV} {x:Nt} (h:Yf w B v x) (hb:Below B w w'):Yf w' B v x:=
 ⟨h.l1,h.r1.below hb,h.l2,h.r2.below hb,h.l3,h.r3.below hb,h.l4,h.r4.below hb⟩
theorem Jie (o:Int) (w:World):Calls prog 110 #[.int .i64 o] w fun e w'=>e=.returned (.bool (decide (0<=o) && decide (o<=255)))/\w=w':=by
 by_cases c1:0<=o
 ·have HX:=Ja (show (decide (0<=o) && decide (o<=255))=decide (o<=255) by simp[c1]);rw[HX.out];by_cases c2:o<=255
  ·have HX:=Ja (show decide (o<=255)=true by simp[c2]);rw[HX.out];go_enter func110,ntmps110;go_wp2;go_ret;exact⟨Jn (by simp;omega),rfl⟩
  ·have HX:=Ja (show decide (o<=255)=false by simp[c2]);rw[HX.out];go_enter func110,ntmps110;go_wp2;go_ret;exact⟨Jn (by simp;omega),rfl⟩
 ·have HX:=Ja (show (decide (0<=o) && decide (o<=255))=false by simp[c1]);rw[HX.out];have hd:decide (0<=o)=false:=by simpa using c1
  go_enter func110,ntmps110;go_wp2;go_ret;exact⟨rfl,rfl⟩
theorem UK (v:NV) (x:Nt) (w:World) (hT:UW w) (hN:Yf w w.heap.size v x):
  Calls prog 37 #[.agg v.val] w fun e w'=>e=.returned (.bool (Yw x))/\Bz w w':=by
 obtain⟨A1,n1,c1,A2,n2,c2,A3,n3,c3,A4,n4,c4⟩:=v;have hb0:Bz w (w.alloc (.cells #[.slice A1 n1 c1,.slice A2 n2 c2,.slice A3 n3 c3,.slice A4 n4 c4] 26)):=Zr.alloc Zl _;have hBx:=Jm.new w 26 #[.slice A1 n1 c1,.slice A2 n2 c2,.slice A3 n3 c3,.slice A4 n4 c4];obtain⟨w0,hw0⟩:∃w0,w0=w.alloc (.cells #[.slice A1 n1 c1,.slice A2 n2 c2,.slice A3 n3 c3,.slice A4 n4 c4] 26):=⟨_,rfl⟩;rw[<-hw0] at hb0 hBx;have hN0:=hN.go hb0;obtain⟨l1,m1,l2,m2,l3,m3,l4,m4⟩:=hN0;dsimp only at l1 m1 l2 m2 l3 m3 l4 m4;have hT0:=hT.below hb0;have hQ:∀W,Bz w0 W->(W.cell? ⟨w.heap.size,0,none⟩=some (.slice A1 n1 c1)/\W.cell? ⟨w.heap.size,1,none⟩=some (.slice A2 n2 c2)/\W.cell? ⟨w.heap.size,2,none⟩=some (.slice A3 n3 c3)/\W.cell? ⟨w.heap.size,3,none⟩=some (.slice A4 n4 c4)):=
  fun W hb=>⟨(hBx.go hb).cell 0,(hBx.go hb).cell 1,(hBx.go hb).cell 2,(hBx.go hb).cell 3⟩
 have HQ:=Ja hQ;have H1:=Ja fun (W:World) (hb:Bz w0 W)=>YD A1 n1 c1 x.s W l1 (m1.go hb);have H2:=Ja fun (W:World) (hb:Bz w0 W)=>YD A2 n2 c2 x.e W l2 (m2.go hb);have H3:=Ja fun (W:World) (hb:Bz w0 W)=>ZG A2 A1 n2 c2 n1 c1 x.e x.s W (hT0.below hb) l2 l1 (m2.go hb) (m1.go hb);have H4:=Ja fun (W:World) (hb:Bz w0 W)=>YX A3 n3 c3 x.b W l3 (m3.go hb);have H5:=Ja fun (W:World) (hb:Bz w0 W) o=>Jlo A3 n3 c3 x.b o W l3 (m3.go hb);have H6:=Ja fun (W:World) (hb:Bz w0 W) sc sn=>Jfe A2 n2 c2 x.e (sc,sn) W l2 (m2.go hb);have HW4:=Ja fun (W:World) (hb:Bz w0 W) k (hk:k < x.w.length)=>(m4.go hb).write l4 hk;have HL4:=Ja l4;have hmax:n4<=9223372036854775807:=by have h1:=m4.cap;have h2:=m4.max;unfold maxLen at h2;omega
 have hf0:Yw x=((fm (-1) x.s && (fm (-1) x.e && (QL (Vc.Jz x.e) (Vc.Jz x.s) && Sn.Xp (-2) x.b))) && ntW x.e x.b (-1) x.w):=rfl;have HDrop:=Ja fun last k h=>JgS x.e x.b last x.w k h;have HNil:=Ja fun last k (h:n4<=k)=>show ntW x.e x.b last (x.w.drop k)=true by rw[Ed (by rw[HL4.out];exact h)];rfl
 generalize fm (-1) x.s=f1 at H1 hf0;generalize fm (-1) x.e=f2 at H2 hf0;generalize QL (Vc.Jz x.e) (Vc.Jz x.s)=f3 at H3 hf0;generalize Sn.Xp (-2) x.b=f4 at H4 hf0;have HF:=Ja hf0;have HW:=Ja hw0.symm;have k:=Ec w0.heap.size w0;obtain⟨q0,q1,q2,q3⟩:=hQ w0 k;clear hN hT l1 m1 l2 m2 l3 m3 l4 m4 hT0 hBx hQ hf0 hw0;go_enter func37,ntmps37;go_wp2_with fail;rw[HW.out];cases f1<;>cases f2<;>cases f3<;>cases f4
 all_goals
  go_wp2_with (first
   | (go_at_call 91;(first
    | ((with_reducible refine Qt (H1.out _ k) k fun w' k=>?_);obtain⟨q0,q1,q2,q3⟩:=HQ.out _ k)
    | ((with_reducible refine Qt (H2.out _ k) k fun w' k=>?_);obtain⟨q0,q1,q2,q3⟩:=HQ.out _ k)))
   | (go_at_call 109;go_must (with_reducible refine Qt (H3.out _ k) k fun w' k=>?_);obtain⟨q0,q1,q2,q3⟩:=HQ.out _ k)
   | (go_at_call 41;go_must (with_reducible refine Qt (H4.out _ k) k fun w' k=>?_);obtain⟨q0,q1,q2,q3⟩:=HQ.out _ k))
  first
  | (go_ret;exact⟨by rw[HF.out];rfl,Jg hb0 k⟩)
  | skip
 have hbw:=Jg hb0 k;go_loopw [3,33] (fun a i wr=>∃(j:Nat) (last:Int),j<=n4/\i=.int .i64 j/\a=.int .i64 last/\Bz w0 wr/\Hid (ntW x.e x.b (-1) x.w=ntW x.e x.b last (x.w.drop j))) (fun _ i _=>n4 - (intOf i).toNat)
 case atStart=>exact⟨0,-1,by omega,rfl,rfl,k,rfl⟩
 case round=>
  obtain⟨j,last,hj,rfl,rfl,hb,hr⟩:=hrel;clear q0 q1 q2 q3 k hbw;by_cases hlt:j < n4
  ·have hjl:j < x.w.length:=by rw[HL4.out];exact hlt
   obtain⟨b,o,rfl,hbb,g0,g1,g2,g3⟩:=HW4.out wr hb j hjl;obtain⟨q0,q1,q2,q3⟩:=HQ.out _ hb;have HD:=hr.out.trans (HDrop.out last j hjl);unfold wOk at HD;generalize hc:x.w[j].1.1=sc at g0;generalize hn:x.w[j].1.2=sn at g1;generalize ho:x.w[j].2.1=ob at g2 HD;generalize hg:x.w[j].2.2=gn at g3;have hst:x.w[j].1=(sc,sn):=by rw[<-hc,<-hn]
   rw[hst] at HD;have H5':=H5.out;have H6':=H6.out;have H7:=Jie ob;have H5'':=fun W hb=>H5' W hb ob;have H6'':=fun W hb=>H6' W hb sc sn;generalize Yx x.b ob=z2 at H5'' HD;generalize QD x.e (sc,sn)=z3 at H6'' HD;generalize (decide (0<=ob) && decide (ob<=255))=z1 at H7 HD;have G5:=Ja H5'';have G6:=Ja H6'';have G7:=Ja H7;have HB:=Ja hb;have hB1:=Jm.new wr 70 #[.int .i64 sc,.int .i64 sn,.int .i64 ob,.bool gn];have k1:Bz w0 (wr.alloc (.cells #[.int .i64 sc,.int .i64 sn,.int .i64 ob,.bool gn] 70)):=hb.alloc hb.size _;obtain⟨w1,hw1⟩:∃w1,w1=wr.alloc (.cells #[.int .i64 sc,.int .i64 sn,.int .i64 ob,.bool gn] 70):=⟨_,rfl⟩;rw[<-hw1] at hB1 k1;have hR:∀W,Bz w1 W->(W.cell? ⟨wr.heap.size,0,none⟩=some (.int .i64 sc)/\W.cell? ⟨wr.heap.size,1,none⟩=some (.int .i64 sn)/\W.cell? ⟨wr.heap.size,2,none⟩=some (.int .i64 ob)/\W.cell? ⟨wr.heap.size,3,none⟩=some (.bool gn)):=
    fun W hb=>⟨(hB1.go hb).cell 0,(hB1.go hb).cell 1,(hB1.go hb).cell 2,(hB1.go hb).cell 3⟩
   have HR:=Ja hR;have HW1:=Ja hw1.symm;have K1:=Ja k1;clear hc hn ho hg hst H5' H6' H5'' H6'' H7 hb hr hB1 hR k1 hw1;by_cases c1:last < ob
   ·have HD':ntW x.e x.b (-1) x.w=((z1 && (!z2 && z3)) && ntW x.e x.b ob (x.w.drop (j+1))):=by rw[HD,Eu c1,Fb]
    have HD':=Ja HD';have hd:decide (ob<=last)=false:=by simp;omega
    clear HD;go_wp2_with fail;rw[HW1.out];refine(G7.out _).mono ?_;rintro e w' ⟨rfl,rfl⟩;have k:=K1.out;have kk:=Ec w1.heap.size w1;clear q0 q1 q2 q3;obtain⟨q0,q1,q2,q3⟩:=HQ.out _ k;obtain⟨r0,r1,r2,r3⟩:=HR.out _ kk;cases z1<;>cases z2<;>cases z3
    all_goals
     go_wp2_with (first
      | (go_at_call 111;go_must (with_reducible refine Jj (G5.out _ k) k kk fun w' k kk=>?_);obtain⟨q0,q1,q2,q3⟩:=HQ.out _ k;obtain⟨r0,r1,r2,r3⟩:=HR.out _ kk)
      | (go_at_call 112;go_must (with_reducible refine Jj (G6.out _ k) k kk fun w' k kk=>?_);obtain⟨q0,q1,q2,q3⟩:=HQ.out _ k;obtain⟨r0,r1,r2,r3⟩:=HR.out _ kk))
     first
     | (go_ret;exact⟨by rw[HF.out,HD'.out];rfl,Jg hb0 k⟩)
     | skip
    go_roundw
    case rel=>exact⟨j+1,ob,by omega,by go_num,rfl,k,by show _=_;rw[HD'.out];rfl⟩
    case measure=>simp[intOf];omega
   ·have HN:=Ja (show Yw x=false by rw[HF.out,HD,Ew c1];rfl);have hd:decide (ob<=last)=true:=by simp;omega
    clear HD;go_wp2;go_ret;exact⟨by rw[HN.out];rfl,by rw[HW1.out];exact Jg hb0 K1.out⟩
  ·obtain rfl:j=n4:=by omega
   have HN:=Ja (show Yw x=true by rw[HF.out,hr.out,HNil.out _ _ Zl];rfl);clear hr;go_wp2;go_ret;exact⟨by rw[HN.out];rfl,Jg hb0 hb⟩
theorem XC:(prog.info? 70).map (fun i=>(i.zero,i.size,i.bytes))=some (some (.agg #[.int .i64 0,.int .i64 0,.int .i64 0,.bool false]),4,32):=by kernel_rfl
theorem Qe {P:Program} {op:Oper} {a:Act} {w:World} {K:Act->World->Prop} {Q:Exit->Act->World->Prop} (ty:TypeId) (x y:Operand) (ho:op.op=.store ty x y)
  (g:Nat) (t:TypeId) (old cells:Array Value) (hx:a.eval x=.pointer (some ⟨g,0,none⟩)) (hy:a.eval y=.agg cells) (hg:Jm w g t old)
  (hi:(P.info? ty).map (·.size)=some cells.size) (hs:old.size=cells.size) (h1:cells.all (·.oneCell')=true)
  (h:∀w',Jm w' g t cells->w.grownBy w' (some g)->K (a.put op.dst undef) w'):op.wp P a w K Q:=by
 unfold Oper.wp execOp;simp only[ho,hx,hy,Instr.storeAt,Instr.sureAddr,Sem.run_bind,Sem.run_pure,Result.andThen_ok,run_storeVar_row w g t ty old cells hg hi hs h1];exact h _ (setRow_heap w g old _ t _ hg) ⟨rfl,rfl,rfl,by simp,fun k _ hk=>setRow_other w g k _ (fun e=>hk (by rw[e]))⟩
theorem Qb {w:World} {b1 b2:Nat} {e1 e2:TypeId} {s1 s2 n1 n2:Nat} {v1 v2:Value} {xs1 xs2:List Value} (h1:w.ownsRow b1 e1 s1 v1 n1 xs1) (h2:w.ownsRow b2 e2 s2 v2 n2 xs2) (he:e1≠e2):v1.ownBlock=none\/v1.ownBlock≠v2.ownBlock:=by
 rcases h1.2 with ⟨rfl,_⟩ | ⟨g,cap,cur,rfl,_,hh,_⟩
 ·exact .inl rfl
 ·refine .inr ?_;rcases h2.2 with ⟨rfl,_⟩ | ⟨g',cap',cur',rfl,_,hh',_⟩
  ·exact fun h=>by cases h
  ·intro h;obtain rfl:g=g':=by simpa[Value.ownBlock] using h
   rw[hh] at hh';injection hh' with hh';injection hh' with _ h2;exact he h2
theorem JnZ {w:World} {base g:Nat} {e:TypeId} {size n:Nat} {v:Value} {xs:List Value} (h:w.ownsRow base e size v n xs) (hg:g < base):v.ownBlock=none\/v.ownBlock≠some g:=by
 refine .inr fun e=>?_;have:=(h.lt g e).1;omega
theorem Ji {B:Nat} {a W:World} (_:Below B a W) (o:Obj):Bz W (W.alloc o):=Zr.alloc Zl _
theorem Je3 {W:World} {t:TypeId} (_:Bz W (W.alloc (.cells #[] t))) (size:Nat):(W.alloc (.cells #[] t)).ownsRow W.heap.size t size (.slice (some ⟨W.heap.size,0,none⟩) 0 0) 0 []:=QT W t size
def At (w:World) (size:Nat) (A:OA) (n c:Nat) (xs:List Value):Prop:=Rd w w.heap.size size A n c xs
theorem YQ (A:OA) (n c:Nat) (xs:List Value) (w:World) (hR:Rd w w.heap.size 2 A n c xs) (h1:∀u∈xs,u.oneCell'=true) (hn:n<=8796093022208):
  Calls prog 148 #[.slice A n c] w fun e w'=>∃A' c',e=.returned (.slice A' n c')/\w'.ownsRow w.heap.size 28 2 (.slice A' n c') n xs/\Bz w w':=by
 have hmax:=hR.max;have hcap:=hR.cap;rcases A with _ | ad
 ·have hc0:=hR.nil rfl;obtain rfl:n=0:=by omega
  subst hc0;have hx:xs=[]:=Ey (by simpa using hR.len);subst hx;have ht:=fun W=>Fh (P:=prog) W 22 28 none 0 0 0 0 underlying22;clear hR h1;go_enter func148,ntmps148;go_wp2;go_ret;exact⟨none,0,rfl,ED _ _ _ _,Ec _ _⟩
 ·have ht:=fun W=>Fh (P:=prog) W 22 28 (some ad) n c 0 0 underlying22;obtain⟨i0,hi0,hz0,hz1,hz2⟩:=EN Uh;have h63:0+n<=maxLen:=by omega
  go_enter func148,ntmps148;go_wp2_with (at_builtin;go_must (refine Jh _ rfl (.tmp 5) (.tmp 6) _ rfl w.heap.size 28 i0 _ 2 16 underlying22 hi0 hz0 hz1 hz2 rfl (by decide) (.slice (some ⟨w.heap.size,0,none⟩) 0 0) 0 [] rfl (QT w _ _) w.heap.size (some ad) n c xs rfl (hR.alloc Zl _) h1 h63 (by omega) (by simp) ?_);intro A' c' w1 hown hg hat);go_ret;exact⟨A',c',rfl,by simpa using hown,(Zr.alloc Zl _).trans (Jb hg (by simp) (by simp[Value.ownBlock]))⟩
def Za (x:Nt) (known:List Vc.St):Bool:=QL (Vc.Jz known) (Vc.Jz x.s)
theorem Jmb (v:NV) (x:Nt) (A:OA) (n c:Nat) (u:List Vc.St) (w:World) (hT:UW w) (hN:Yf w w.heap.size v x) (hl:u.length=n) (hR:Rd w w.heap.size 2 A n c (sv u)):
  Calls prog 179 #[.agg v.val,.slice A n c] w fun e w'=>e=.returned (.bool (Za x u))/\Bz w w':=by
 obtain⟨A1,n1,c1,A2,n2,c2,A3,n3,c3,A4,n4,c4⟩:=v;have hb0:Bz w (w.alloc (.cells #[.slice A1 n1 c1,.slice A2 n2 c2,.slice A3 n3 c3,.slice A4 n4 c4] 26)):=Zr.alloc Zl _;have H1:=Ja (ZG A A1 n c n1 c1 u x.s _ (hT.below hb0) hl hN.l1 (hR.go hb0) (hN.go hb0).r1);have HX:=Ja (show Za x u=QL (Vc.Jz u) (Vc.Jz x.s) from rfl);generalize QL (Vc.Jz u) (Vc.Jz x.s)=z at H1 HX;have HB:=Ja hb0;clear hN hl hR hb0 hT;go_enter func179,ntmps179;go_wp2_with (go_at_call 109;go_must (refine Jd H1.out fun w1 hb1=>?_));go_ret;exact⟨by rw[HX.out];rfl,Jg HB.out hb1⟩
theorem JgQ (v:NV) (x:Nt) (A:OA) (n c:Nat) (u:List Vc.St) (w:World) (hN:Yf w w.heap.size v x) (hl:u.length=n) (hR:Rd w w.heap.size 2 A n c (sv u)):
  Calls prog 197 #[.agg v.val,.slice A n c] w fun e w'=>e=.returned (.bool (Za x u))/\Bz w w':=by
 obtain⟨A1,n1,c1,A2,n2,c2,A3,n3,c3,A4,n4,c4⟩:=v;have hb0:Bz w (w.alloc (.cells #[.slice A1 n1 c1,.slice A2 n2 c2,.slice A3 n3 c3,.slice A4 n4 c4] 26)):=Zr.alloc Zl _;have H1:=Ja (QB A A1 n c n1 c1 u x.s _ hl hN.l1 (hR.go hb0) (hN.go hb0).r1);have HX:=Ja (show Za x u=QL (Vc.Jz u) (Vc.Jz x.s) from rfl);generalize QL (Vc.Jz u) (Vc.Jz x.s)=z at H1 HX;have HB:=Ja hb0;clear hN hl hR hb0;go_enter func197,ntmps197;go_wp2_with (go_at_call 113;go_must (refine Jd H1.out fun w1 hb1=>?_));go_ret;exact⟨by rw[HX.out];rfl,Jg HB.out hb1⟩
theorem Jks {u v:List Wr} {k:Nat} (h1:k < u.length) (h2:k < v.length) (h:u[k]=v[k]):decide (u.drop k=v.drop k)=decide (u.drop (k+1)=v.drop (k+1)):=by
 refine NC.2 ?_;rw[Eh h1,Eh h2,h];exact⟨fun e=>(List.cons.inj e).2,fun e=>by rw[e]⟩
theorem Jea (A D:OA) (n c m d:Nat) (u v:List Wr) (w:World) (hl:u.length=n) (hl2:v.length=m) (hR:Rd w w.heap.size 4 A n c (wv u)) (hR2:Rd w w.heap.size 4 D m d (wv v)):
  Calls prog 82 #[.slice A n c,.slice D m d] w fun e w'=>e=.returned (.bool (decide (u=v)))/\Bz w w':=by
 have hmax:n<=9223372036854775807:=by have h1:=hR.cap;have h2:=hR.max;unfold maxLen at h2;omega
 by_cases hnm:n=m
 ·subst hnm;go_enter func82,ntmps82;go_wp2;go_loopw [5] (fun i wr=>∃(k:Nat),k<=n/\i=.int .i64 k/\Hid (decide (u=v)=decide (u.drop k=v.drop k))/\Bz w wr) (fun i _=>n - (intOf i).toNat)
  case atStart=>exact⟨0,by omega,rfl,rfl,Ec _ _⟩
  case round=>
   obtain⟨k,hk,rfl,hdd,hb⟩:=hrel;by_cases hlt:k < n
   ·have hk1:k < u.length:=by omega
    have hk2:k < v.length:=by omega
    obtain⟨b,o,rfl,hab,g0,g1,g2,g3⟩:=(hR.below hb).write hl hk1;obtain⟨b2,o2,rfl,hab2,p0,p1,p2,p3⟩:=(hR2.below hb).write hl2 hk2;have HE:=Ja (show u[k]=(((u[k]'hk1).1.1,(u[k]'hk1).1.2),(u[k]'hk1).2.1,(u[k]'hk1).2.2) from rfl);have HE2:=Ja (show v[k]=(((v[k]'hk2).1.1,(v[k]'hk2).1.2),(v[k]'hk2).2.1,(v[k]'hk2).2.2) from rfl);generalize (u[k]'hk1).1.1=sc at g0 HE;generalize (u[k]'hk1).1.2=sn at g1 HE;generalize (u[k]'hk1).2.1=so at g2 HE;generalize (u[k]'hk1).2.2=sg at g3 HE;generalize (v[k]'hk2).1.1=tc at p0 HE2;generalize (v[k]'hk2).1.2=tn at p1 HE2;generalize (v[k]'hk2).2.1=to at p2 HE2;generalize (v[k]'hk2).2.2=tg at p3 HE2;have HB:=Ja hb;clear hb hR hR2;by_cases e0:sc=tc/\sn=tn/\so=to/\sg=tg
    ·obtain⟨rfl,rfl,rfl,rfl⟩:=e0;have HN:=Ja (Jks hk1 hk2 (by rw[HE.out,HE2.out]));clear hl hl2;go_wp2;go_quiet (fail);go_wp2;go_roundw
     case rel=>exact⟨k+1,by omega,by go_num,by show _=_;rw[hdd.out,HN.out],Jr HB.out _⟩
     case measure=>simp[intOf];omega
    ·have HN:=Ja (show decide (u=v)=false by
      rw[EI];intro h;subst h;have h2:=HE.out.symm.trans HE2.out;simp only[Nn] at h2;exact e0 ⟨h2.1.1,h2.1.2,h2.2.1,h2.2.2⟩)
     clear hl hl2;by_cases e1:sc=tc
     ·by_cases e2:sn=tn
      ·by_cases e3:so=to
       ·have e4:¬ sg=tg:=fun h=>e0 ⟨e1,e2,e3,h⟩;subst e1 e2 e3;clear e0;cases sg<;>cases tg<;>first | exact absurd rfl e4 | skip
        all_goals
         clear e4;go_wp2;go_quiet (fail);go_wp2;go_ret;exact⟨by rw[HN.out];rfl,Jr HB.out _⟩
       ·subst e1 e2;clear e0;go_wp2;go_quiet (fail);go_wp2;go_ret;exact⟨by rw[HN.out];rfl,Jr HB.out _⟩
      ·subst e1;clear e0;go_wp2;go_quiet (fail);go_wp2;go_ret;exact⟨by rw[HN.out];rfl,Jr HB.out _⟩
     ·clear e0;go_wp2;go_quiet (fail);go_wp2;go_ret;exact⟨by rw[HN.out];rfl,Jr HB.out _⟩
   ·obtain rfl:k=n:=by omega
    have HX:=Ja (show decide (u=v)=true by rw[hdd.out,Ed (by omega),Ed (by omega)];simp);clear hdd;go_wp2;go_ret;exact⟨by rw[HX.out];rfl,hb⟩
 ·have HN:=Ja (show decide (u=v)=false by rw[EI];intro h;subst h;omega);have hne:¬ ((n:Int)=(m:Int)):=by omega
  clear hl hl2;go_enter func82,ntmps82;go_wp2
  all_goals first
   | (exfalso;omega)
   | (go_ret;exact⟨by rw[HN.out];rfl,Ec _ _⟩)
def Jbg (x y:Nt):Bool:=decide (x.s=y.s) && (decide (x.e=y.e) && (decide (x.b=y.b) && decide (x.w=y.w)))
theorem JhR (x y:Nt):Jbg x y=true↔x=y:=by
 cases x;cases y;simp[Jbg]
theorem Jds (v v':NV) (x y:Nt) (w:World) (hN:Yf w w.heap.size v x) (hM:Yf w w.heap.size v' y):
  Calls prog 61 #[.agg v.val,.agg v'.val] w fun e w'=>e=.returned (.bool (Jbg x y))/\Bz w w':=by
 obtain⟨A1,n1,c1,A2,n2,c2,A3,n3,c3,A4,n4,c4⟩:=v;obtain⟨D1,m1,d1,D2,m2,d2,D3,m3,d3,D4,m4,d4⟩:=v';have hb1:Bz w (w.alloc (.cells #[.slice A1 n1 c1,.slice A2 n2 c2,.slice A3 n3 c3,.slice A4 n4 c4] 26)):=Zr.alloc Zl _;have hb0:Bz w ((w.alloc (.cells #[.slice A1 n1 c1,.slice A2 n2 c2,.slice A3 n3 c3,.slice A4 n4 c4] 26)).alloc (.cells #[.slice D1 m1 d1,.slice D2 m2 d2,.slice D3 m3 d3,.slice D4 m4 d4] 26)):=hb1.alloc hb1.size _;have hB1:=(Jm.new w 26 #[.slice A1 n1 c1,.slice A2 n2 c2,.slice A3 n3 c3,.slice A4 n4 c4]).alloc (.cells #[.slice D1 m1 d1,.slice D2 m2 d2,.slice D3 m3 d3,.slice D4 m4 d4] 26);have hB2:=Jm.new (w.alloc (.cells #[.slice A1 n1 c1,.slice A2 n2 c2,.slice A3 n3 c3,.slice A4 n4 c4] 26)) 26 #[.slice D1 m1 d1,.slice D2 m2 d2,.slice D3 m3 d3,.slice D4 m4 d4];rw[El] at hB2;obtain⟨w0,hw0⟩:∃w0,w0=(w.alloc (.cells #[.slice A1 n1 c1,.slice A2 n2 c2,.slice A3 n3 c3,.slice A4 n4 c4] 26)).alloc (.cells #[.slice D1 m1 d1,.slice D2 m2 d2,.slice D3 m3 d3,.slice D4 m4 d4] 26):=⟨_,rfl⟩;rw[<-hw0] at hb0 hB1 hB2;obtain⟨l1,r1,l2,r2,l3,r3,l4,r4⟩:=hN.go hb0;obtain⟨k1,s1,k2,s2,k3,s3,k4,s4⟩:=hM.go hb0;dsimp only at l1 r1 l2 r2 l3 r3 l4 r4 k1 s1 k2 s2 k3 s3 k4 s4;have hQ:∀W,Bz w0 W->(W.cell? ⟨w.heap.size,0,none⟩=some (.slice A1 n1 c1)/\W.cell? ⟨w.heap.size,1,none⟩=some (.slice A2 n2 c2)/\W.cell? ⟨w.heap.size,2,none⟩=some (.slice A3 n3 c3)/\W.cell? ⟨w.heap.size,3,none⟩=some (.slice A4 n4 c4) /\
   W.cell? ⟨w.heap.size+1,0,none⟩=some (.slice D1 m1 d1)/\W.cell? ⟨w.heap.size+1,1,none⟩=some (.slice D2 m2 d2)/\W.cell? ⟨w.heap.size+1,2,none⟩=some (.slice D3 m3 d3)/\W.cell? ⟨w.heap.size+1,3,none⟩=some (.slice D4 m4 d4)):=
  fun W hb=>⟨(hB1.go hb).cell 0,(hB1.go hb).cell 1,(hB1.go hb).cell 2,(hB1.go hb).cell 3,(hB2.go hb).cell 0,(hB2.go hb).cell 1,(hB2.go hb).cell 2,(hB2.go hb).cell 3⟩
 have HQ:=Ja hQ;have H1:=Ja fun (W:World) (hb:Bz w0 W)=>Jdc A1 D1 n1 c1 m1 d1 x.s y.s W l1 k1 (r1.go hb) (s1.go hb);have H2:=Ja fun (W:World) (hb:Bz w0 W)=>Jdc A2 D2 n2 c2 m2 d2 x.e y.e W l2 k2 (r2.go hb) (s2.go hb);have H3:=Ja fun (W:World) (hb:Bz w0 W)=>Oo A3 D3 n3 c3 m3 d3 x.b y.b W l3 k3 (r3.go hb) (s3.go hb);have H4:=Ja fun (W:World) (hb:Bz w0 W)=>Jea A4 D4 n4 c4 m4 d4 x.w y.w W l4 k4 (r4.go hb) (s4.go hb);have hf0:Jbg x y=(decide (x.s=y.s) && (decide (x.e=y.e) && (decide (x.b=y.b) && decide (x.w=y.w)))):=rfl;generalize decide (x.s=y.s)=f1 at H1 hf0;generalize decide (x.e=y.e)=f2 at H2 hf0;generalize decide (x.b=y.b)=f3 at H3 hf0;generalize decide (x.w=y.w)=f4 at H4 hf0;have HF:=Ja hf0;have HW:=Ja hw0.symm;have k:=Ec w0.heap.size w0;obtain⟨q0,q1,q2,q3,q4,q5,q6,q7⟩:=hQ w0 k;clear hN hM l1 r1 l2 r2 l3 r3 l4 r4 k1 s1 k2 s2 k3 s3 k4 s4 hB1 hB2 hQ hf0 hw0 hb1;go_enter func61,ntmps61;go_wp2_with fail;rw[HW.out];cases f1<;>cases f2<;>cases f3<;>cases f4
 all_goals
  go_wp2_with (first
   | (go_at_call 80;(first
    | ((with_reducible refine Qt (H1.out _ k) k fun w' k=>?_);obtain⟨q0,q1,q2,q3,q4,q5,q6,q7⟩:=HQ.out _ k)
    | ((with_reducible refine Qt (H2.out _ k) k fun w' k=>?_);obtain⟨q0,q1,q2,q3,q4,q5,q6,q7⟩:=HQ.out _ k)))
   | (go_at_call 62;go_must (with_reducible refine Qt (H3.out _ k) k fun w' k=>?_);obtain⟨q0,q1,q2,q3,q4,q5,q6,q7⟩:=HQ.out _ k)
   | (go_at_call 82;go_must (with_reducible refine Qt (H4.out _ k) k fun w' k=>?_);obtain⟨q0,q1,q2,q3,q4,q5,q6,q7⟩:=HQ.out _ k))
  go_ret;exact⟨by rw[HF.out];rfl,Jg hb0 k⟩
theorem Js {P:Program} {fn:Func} {p q:Tmp} {ty:TypeId} (h:fn.results=#[.cell p ty,.tmp q]) (tmps:Array Value) (w:World) (g:Nat) (t:TypeId) (cs:Array Value) (fr:Nat×Nat) (d:TypeDesc)
  (hp:tmps.getD p undef=.pointer (some ⟨g,0,none⟩)) (hg:w.heap[g]?=some (.cells cs t fr))
  (hu:P.underlying ty=some d) (hd:(match d with | .struct _ | .array _ _=>true | _=>false)=true) (hi:(P.info? ty).map (·.size)=some cs.size):
  (results fn tmps).run P w=.ok (.tuple #[.agg cs,tmps.getD q undef]) w:=by
 have hp':tmps[p]?.getD undef=.pointer (some ⟨g,0,none⟩):=by simpa using hp
 simp[results,h,hp',asAddr,run_loadVar_row w g t ty cs fr d hg hu hd hi]
structure Zd (w:World) (base:Nat) (v:NV) (x:Nt):Prop where
 l1:x.s.length=v.n1
 o1:w.ownsRow base 28 2 (.slice v.A1 v.n1 v.c1) v.n1 (sv x.s)
 l2:x.e.length=v.n2
 o2:w.ownsRow base 28 2 (.slice v.A2 v.n2 v.c2) v.n2 (sv x.e)
 l3:x.b.length=v.n3
 o3:w.ownsRow base 63 2 (.slice v.A3 v.n3 v.c3) v.n3 (sv x.b)
 l4:x.w.length=v.n4
 o4:w.ownsRow base 70 4 (.slice v.A4 v.n4 v.c4) v.n4 (wv x.w)
theorem Zd.rd {w:World} {base:Nat} {v:NV} {x:Nt} (h:Zd w base v x):Yf w w.heap.size v x:=⟨h.l1,Rd.of_own h.o1,h.l2,Rd.of_own h.o2,h.l3,Rd.of_own h.o3,h.l4,Rd.of_own h.o4⟩
theorem Zd.below {w w':World} {base:Nat} {v:NV} {x:Nt} (h:Zd w base v x) (hb:Bz w w'):Zd w' base v x:=
 ⟨h.l1,Jf h.o1 hb Zl,h.l2,Jf h.o2 hb Zl,h.l3,Jf h.o3 hb Zl,h.l4,Jf h.o4 hb Zl⟩
theorem JiY {w:World} {base g:Nat} {e t:TypeId} {size n:Nat} {v:Value} {xs:List Value} {cs:Array Value} (h:w.ownsRow base e size v n xs) (hg:Jm w g t cs) (he:e≠t):v.ownBlock=none\/v.ownBlock≠some g:=by
 rcases h.2 with ⟨rfl,_⟩ | ⟨g',cap,cur,rfl,_,hh,_⟩
 ·exact .inl rfl
 ·refine .inr fun e'=>?_;obtain rfl:g'=g:=by simpa[Value.ownBlock] using e'
  unfold Jm at hg;rw[hh] at hg;injection hg with hg;injection hg with _ h2;exact he h2
def JO (x:Wq.Bd) (A:OA) (c:Nat):Array Value:=#[.int .i64 x.o,.int .i64 x.s.1,.int .i64 x.s.2,.slice A x.v.length c]
theorem Jaa (x:Wq.Bd) (A:OA) (c:Nat) (w:World):
  Calls prog 104 #[.agg (JO x A c)] w fun e w'=>e=.returned (.bool (Wq.bdF x))/\Bz w w':=by
 obtain⟨o,⟨a,b⟩,v⟩:=x;unfold JO Wq.bdF;dsimp only;generalize v.length=n;have hX:=Jm.new w 31 #[.int .i64 o,.int .i64 a,.int .i64 b,.slice A n c];have hb0:Bz w (w.alloc (.cells #[.int .i64 o,.int .i64 a,.int .i64 b,.slice A n c] 31)):=Zr.alloc Zl _;have HX:=Ja hX;have HB:=Ja hb0;have HG:=Ja fun W=>Yz a b W;have e2:decide (n<=256)=decide ((n:Int)<=256):=by rw[EM];simp;omega
 rw[e2];clear hX hb0 e2;generalize Vc.right (a,b)=z at HG;by_cases h0:0<=o
 ·by_cases h1:o < 256
  ·have e1:decide (o<=255)=true:=by simp;omega
   have h2:o<=255:=by omega
   rw[Eu h0,e1];simp only[Fb];rcases z with _ | _
   all_goals
    go_enter func104,ntmps104;go_wp2_with (go_at_call 159;go_must (refine Jd (HG.out _) fun w1 hb1=>?_);have q2:=(HX.out.go hb1).cell 3);go_ret;exact⟨rfl,Jg HB.out hb1⟩
  ·have e1:decide (o<=255)=false:=by simp;omega
   have h2:¬ o<=255:=by omega
   rw[Eu h0,e1];simp only[Fb,FZ];go_enter func104,ntmps104;go_wp2;go_ret;exact⟨rfl,HB.out⟩
 ·rw[Ew h0];simp only[FZ];go_enter func104,ntmps104;go_wp2;go_ret;exact⟨rfl,HB.out⟩
theorem QE (x:Wq.Bd) (A:OA) (c:Nat) (w:World):
  Calls prog 44 #[.agg (JO x A c)] w fun e w'=>e=.returned (.bool (Wq.bdF x))/\Bz w w':=by
 obtain⟨o,⟨a,b⟩,v⟩:=x;unfold JO Wq.bdF;dsimp only;generalize v.length=n;have hX:=Jm.new w 31 #[.int .i64 o,.int .i64 a,.int .i64 b,.slice A n c];have hb0:Bz w (w.alloc (.cells #[.int .i64 o,.int .i64 a,.int .i64 b,.slice A n c] 31)):=Zr.alloc Zl _;have HX:=Ja hX;have HB:=Ja hb0;have HG:=Ja fun W=>Ym a b W;have e2:decide (n<=256)=decide ((n:Int)<=256):=by rw[EM];simp;omega
 rw[e2];clear hX hb0 e2;generalize Vc.right (a,b)=z at HG;by_cases h0:0<=o
 ·by_cases h1:o < 256
  ·have e1:decide (o<=255)=true:=by simp;omega
   have h2:o<=255:=by omega
   rw[Eu h0,e1];simp only[Fb];rcases z with _ | _
   all_goals
    go_enter func44,ntmps44;go_wp2_with (go_at_call 116;go_must (refine Jd (HG.out _) fun w1 hb1=>?_);have q2:=(HX.out.go hb1).cell 3);go_ret;exact⟨rfl,Jg HB.out hb1⟩
  ·have e1:decide (o<=255)=false:=by simp;omega
   have h2:¬ o<=255:=by omega
   rw[Eu h0,e1];simp only[Fb,FZ];go_enter func44,ntmps44;go_wp2;go_ret;exact⟨rfl,HB.out⟩
 ·rw[Ew h0];simp only[FZ];go_enter func44,ntmps44;go_wp2;go_ret;exact⟨rfl,HB.out⟩
theorem Jm.four {W:World} {g:Nat} {t:TypeId} {a b c d:Value} (h:Jm W g t #[a,b,c,d]):W.cell? ⟨g,0,none⟩=some a/\W.cell? ⟨g,1,none⟩=some b/\W.cell? ⟨g,2,none⟩=some c/\W.cell? ⟨g,3,none⟩=some d:=
 ⟨h.cell 0,h.cell 1,h.cell 2,h.cell 3⟩
end Go.Proofs.YtmbeahbgafkjfaaGreatDoor
