/- Lemmas, layer 16. -/
import Derived.Test.YtmbeahbgafkjfaaGreatDoorKp15
set_option linter.unusedSimpArgs false
set_option maxRecDepth 100000
set_option maxHeartbeats 16000000
namespace Go.Proofs.YtmbeahbgafkjfaaGreatDoor
open Go.Proofs.Tryz Go.RowKit
section
structure VV where
 kA:OA
 kc:Nat
 zA:OA
 zc:Nat
 hA:OA
 hc:Nat
 bA:OA
 bc:Nat
def Jy (v:Vw) (u:VV):Array Value:=#[.slice u.kA v.known.length u.kc,.slice u.zA v.zones.length u.zc,.slice u.hA v.held.length u.hc,.slice u.bA v.bods.length u.bc,.int .i64 v.room]
structure JU (w:World) (B:Nat) (u:VV) (v:Vw) (L:List (ZV×Zn)) (M:List (BV×Wq.Bd)):Prop where
 k:Rd w B 2 u.kA v.known.length u.kc (sv v.known)
 z:Zc w B u.zA v.zones.length u.zc L
 nz:Jv L=v.zones
 h:Rd w B 4 u.hA v.held.length u.hc (wv v.held)
 b:QI w B u.bA v.bods.length u.bc M
 nb:JG M=v.bods
theorem JU.go {w w':World} {u:VV} {v:Vw} {L:List (ZV×Zn)} {M:List (BV×Wq.Bd)} (h:JU w w.heap.size u v L M) (hb:Bz w w'):JU w' w'.heap.size u v L M:=⟨h.k.go hb,h.z.go hb,h.nz,h.h.go hb,h.b.go hb,h.nb⟩
theorem JU.below {w w':World} {B:Nat} {u:VV} {v:Vw} {L:List (ZV×Zn)} {M:List (BV×Wq.Bd)} (h:JU w B u v L M) (hb:Below B w w'):JU w' B u v L M:=⟨h.k.below hb,h.z.below hb,h.nz,h.h.below hb,h.b.below hb,h.nb⟩
theorem JU.more {w:World} {B B':Nat} {u:VV} {v:Vw} {L:List (ZV×Zn)} {M:List (BV×Wq.Bd)} (h:JU w B u v L M) (hb:B<=B'):JU w B' u v L M:=⟨h.k.more hb,h.z.more hb,h.nz,h.h.more hb,h.b.more hb,h.nb⟩
theorem Jm.five {w:World} {g:Nat} {t:TypeId} {a b c d e:Value} (h:Jm w g t #[a,b,c,d,e]):w.cell? ⟨g,0,none⟩=some a/\w.cell? ⟨g,1,none⟩=some b/\w.cell? ⟨g,2,none⟩=some c/\w.cell? ⟨g,3,none⟩=some d/\w.cell? ⟨g,4,none⟩=some e:=⟨h.cell 0,h.cell 1,h.cell 2,h.cell 3,h.cell 4⟩
theorem Uw (A D:OA) (n c m d:Nat) (L:List (ZV×Zn)) (u0:List Vc.St) (x:Wr) (w:World) (hR:Zc w w.heap.size A n c L) (hl:u0.length=m) (hR2:Rd w w.heap.size 2 D m d (sv u0)):
  Calls prog 97 #[.slice A n c,.slice D m d,.agg #[.int .i64 x.1.1,.int .i64 x.1.2,.int .i64 x.2.1,.bool x.2.2]] w fun e w'=>e=.returned (.bool (QD (JQ (Jv L) u0 x.2.1) x.1))/\Bz w w':=by
 obtain⟨⟨sc,sn⟩,ob,gn⟩:=x;dsimp only;have G1:=Ja fun (W:World) (hb:Bz w W)=>Jc0 A D n c m d L u0 ob W (hR.go hb) hl (hR2.go hb);have G2:=Ja fun (W:World) (A':OA) (c':Nat) (hR:Rd W W.heap.size 2 A' (JQ (Jv L) u0 ob).length c' (sv (JQ (Jv L) u0 ob)))=>Jfe A' _ c' (JQ (Jv L) u0 ob) (sc,sn) W rfl hR;generalize JQ (Jv L) u0 ob=r at G1 G2 ⊢;generalize QD r (sc,sn)=q at G2 ⊢;have hb0:Bz w (w.alloc (.cells #[.int .i64 sc,.int .i64 sn,.int .i64 ob,.bool gn] 70)):=Zr.alloc Zl _;have hX:=Jm.new w 70 #[.int .i64 sc,.int .i64 sn,.int .i64 ob,.bool gn];clear hR hR2 hl;go_enter func97,ntmps97;go_wp2;generalize hW0:w.alloc (.cells #[.int .i64 sc,.int .i64 sn,.int .i64 ob,.bool gn] 70)=W0 at hb0 hX ⊢;have HX:=Ja fun (W:World) (hk:Bz W0 W)=>(hX.go hk).quad;have HB:=Ja hb0;have k:Bz w W0.drew:=hb0.drew;have kk:Bz W0 W0.drew:=Zr.drew;clear hX hb0 hW0;refine Jl fun KK hKK=>?_;refine Eg (S:=(fun W=>W.cell? ⟨w.heap.size,0,none⟩=some (.int .i64 sc)/\W.cell? ⟨w.heap.size,1,none⟩=some (.int .i64 sn)/\W.cell? ⟨w.heap.size,2,none⟩=some (.int .i64 ob)/\W.cell? ⟨w.heap.size,3,none⟩=some (.bool gn))) (by kernel_rfl) (by first | exact HX.out _ kk) (fun hHeld=>?_);refine Jc 0 7 1 8 (HX.out _ kk) ?_;refine Jc 2 9 3 10 (HX.out _ kk) ?_;refine Jc 5 12 6 13 (HX.out _ kk) ?_;refine Qa 4 fun K hK=>?_;go_simp;refine(G1.out _ k).mono ?_;rintro e w' ⟨A',c',rfl,ho,hb'⟩;have k:=Jg k hb';have kk:=Jg kk hb';have hr1:=Ja (Rd.of_own ho);clear hb' ho;refine hK.out _ _ (HX.out _ kk) fun hHeld=>?_;clear hK K;refine Qa 7 fun K hK=>?_;go_simp;refine(G2.out _ A' c' hr1.out).mono ?_;rintro e w'' ⟨rfl,hb'⟩;have k:=Jg k hb';have kk:=Jg kk hb';clear hb';refine hK.out _ _ (HX.out _ kk) fun hHeld=>?_;clear hK K;refine Qx 8 6 (HX.out _ kk) ?_;refine Es (by kernel_rfl) ?_ _;refine QQ.out (hKK _ _ ?_);go_wp2;go_ret;exact⟨rfl,k⟩
theorem Oi (u:VV) (v:Vw) (L:List (ZV×Zn)) (M:List (BV×Wq.Bd)) (x:Wr) (w:World) (hV:JU w w.heap.size u v L M):
  Calls prog 89 #[.agg (Jy v u),.agg #[.int .i64 x.1.1,.int .i64 x.1.2,.int .i64 x.2.1,.bool x.2.2]] w fun e w'=>e=.returned (.bool (QD (JQ v.zones v.known x.2.1) x.1))/\Bz w w':=by
 obtain⟨⟨sc,sn⟩,ob,gn⟩:=x;obtain⟨kA,kc,zA,zc,hA,hc,bA,bc⟩:=u;obtain⟨known,zones,held,bods,room⟩:=v;obtain⟨h1,h2,h3,h4,h5,h6⟩:=hV;unfold Jy;dsimp only at h1 h2 h3 h4 h5 h6 ⊢;have G1:=Ja fun (W:World) (hb:Bz w W)=>Ja7 zA kA zones.length zc known.length kc L known ob W (h2.go hb) rfl (h1.go hb);rw[h3] at G1;have G2:=Ja fun (W:World) (A':OA) (c':Nat) (hR:Rd W W.heap.size 2 A' (JQ zones known ob).length c' (sv (JQ zones known ob)))=>Jaj A' _ c' (JQ zones known ob) (sc,sn) W rfl hR;generalize JQ zones known ob=r at G1 G2 ⊢;generalize QD r (sc,sn)=q at G2 ⊢;generalize known.length=nk at G1 ⊢;generalize zones.length=nz at G1 ⊢;generalize held.length=nh at ⊢;generalize bods.length=nb at ⊢;clear h1 h2 h3 h4 h5 h6;have hb0:Bz w ((w.alloc (.cells #[.slice kA nk kc,.slice zA nz zc,.slice hA nh hc,.slice bA nb bc,.int .i64 room] 35)).alloc (.cells #[.int .i64 sc,.int .i64 sn,.int .i64 ob,.bool gn] 70)):=(Zr.alloc Zl _).alloc (by simp) _;have hY:=(Jm.new w 35 #[.slice kA nk kc,.slice zA nz zc,.slice hA nh hc,.slice bA nb bc,.int .i64 room]).alloc (.cells #[.int .i64 sc,.int .i64 sn,.int .i64 ob,.bool gn] 70);have hX:=Jm.new (w.alloc (.cells #[.slice kA nk kc,.slice zA nz zc,.slice hA nh hc,.slice bA nb bc,.int .i64 room] 35)) 70 #[.int .i64 sc,.int .i64 sn,.int .i64 ob,.bool gn];rw[El] at hX;go_enter func89,ntmps89;go_wp2;generalize hW0:(w.alloc (.cells #[.slice kA nk kc,.slice zA nz zc,.slice hA nh hc,.slice bA nb bc,.int .i64 room] 35)).alloc (.cells #[.int .i64 sc,.int .i64 sn,.int .i64 ob,.bool gn] 70)=W0 at hb0 hX hY ⊢;have HX:=Ja fun (W:World) (hk:Bz W0 W)=>(⟨(hY.go hk).five,(hX.go hk).quad⟩:_/\_);have HB:=Ja hb0;have k:Bz w W0.drew:=hb0.drew;have kk:Bz W0 W0.drew:=Zr.drew;clear hX hY hb0 hW0;refine Jl fun KK hKK=>?_;refine Eg (S:=(fun W=>(W.cell? ⟨w.heap.size,0,none⟩=some (.slice kA nk kc)/\W.cell? ⟨w.heap.size,1,none⟩=some (.slice zA nz zc)/\W.cell? ⟨w.heap.size,2,none⟩=some (.slice hA nh hc)/\W.cell? ⟨w.heap.size,3,none⟩=some (.slice bA nb bc)/\W.cell? ⟨w.heap.size,4,none⟩=some (.int .i64 room))/\(W.cell? ⟨w.heap.size+1,0,none⟩=some (.int .i64 sc)/\W.cell? ⟨w.heap.size+1,1,none⟩=some (.int .i64 sn)/\W.cell? ⟨w.heap.size+1,2,none⟩=some (.int .i64 ob)/\W.cell? ⟨w.heap.size+1,3,none⟩=some (.bool gn)))) (by kernel_rfl) (by first | exact HX.out _ kk) (fun hHeld=>?_);refine Jc 0 5 1 6 (HX.out _ kk) ?_;refine Jc 2 7 3 8 (HX.out _ kk) ?_;refine Jc 4 9 5 10 (HX.out _ kk) ?_;refine Jc 7 12 8 13 (HX.out _ kk) ?_;refine Qa 6 fun K hK=>?_;go_simp;refine(G1.out _ k).mono ?_;rintro e w' ⟨A',c',rfl,ho,hb'⟩;have k:=Jg k hb';have kk:=Jg kk hb';have hr1:=Ja (Rd.of_own ho);clear hb' ho;refine hK.out _ _ (HX.out _ kk) fun hHeld=>?_;clear hK K;refine Qa 9 fun K hK=>?_;go_simp;refine(G2.out _ A' c' hr1.out).mono ?_;rintro e w'' ⟨rfl,hb'⟩;have k:=Jg k hb';have kk:=Jg kk hb';clear hb';refine hK.out _ _ (HX.out _ kk) fun hHeld=>?_;clear hK K;refine Qx 10 4 (HX.out _ kk) ?_;refine Es (by kernel_rfl) ?_ _;refine QQ.out (hKK _ _ ?_);go_wp2;go_ret;exact⟨rfl,k⟩
def w0_:Wr:=((0,0),0,false)
def wcA (q:Wr):Array Value:=#[.int .i64 q.1.1,.int .i64 q.1.2,.int .i64 q.2.1,.bool q.2.2]
theorem Ja3 (q:Wr):(wcA q).all (·.oneCell')=true:=by simp[wcA,Value.oneCell']
theorem Jao:(prog.info? 70).map (fun i=>(i.zero,i.size))=some (some (.agg (wcA w0_)),4):=by kernel_rfl
def AtP (w:World) (q:Wr) (b:Bool) (e:Ending) (w':World):Prop:=e=.returned (.tuple #[.agg (wcA q),.bool b])/\Bz w w'
theorem AtP.mk {w w':World} {q:Wr} {b:Bool} {e:Ending} (h1:e=.returned (.tuple #[.agg (wcA q),.bool b])) (h2:Bz w w'):AtP w q b e w':=⟨h1,h2⟩
def atQ (l:List Wr) (o:Int):Wr:=(Xy l o).getD w0_
def atB (l:List Wr) (o:Int):Bool:=(Xy l o).isSome
theorem JdY (A:OA) (n c:Nat) (l:List Wr) (o:Int) (w:World) (hl:l.length=n) (hR:Rd w w.heap.size 4 A n c (wv l)):
  Calls prog 158 #[.slice A n c,.int .i64 o] w (AtP w (atQ l o) (atB l o)):=by
 obtain⟨hzz,hi⟩:=FG Jao;have HI:=Ja hi;have hmax:n<=9223372036854775807:=by have h1:=hR.cap;have h2:=hR.max;unfold maxLen at h2;omega
 have hq:atQ l o=(Xy l o).getD w0_:=rfl;have hB:atB l o=(Xy l o).isSome:=rfl;generalize atQ l o=Q at hq ⊢;generalize atB l o=B at hB ⊢;have HQ:=Ja hq;have HB:=Ja hB;have HL:=Ja hl;have HR:=Ja hR;clear hq hB hl hR hi;go_enter func158,ntmps158;go_wp2;go_loopw [6] (fun i wr=>∃k:Nat,k<=n/\i=.int .i64 k/\Bz w wr/\Jm wr w.heap.size 70 (wcA w0_)/\Hid (Xy l o=Xy (l.drop k) o)) (fun i _=>n - (intOf i).toNat)
 case atStart=>exact⟨0,by omega,rfl,Zr.alloc Zl _,Jm.new _ _ _,rfl⟩
 case round=>
  obtain⟨k,hk,rfl,hb,hblk,hf⟩:=hrel;have HK:=Ja hblk;have HBw:=Ja hb;by_cases hlt:k < n
  ·have hkl:k < l.length:=by rw[HL.out];exact hlt
   obtain⟨b,off,rfl,hbb,g0,g1,g2,g3⟩:=(HR.out.below hb).write HL.out hkl;have hd:=JlI l o k hkl;have hst:l[k]=((l[k].1.1,l[k].1.2),l[k].2.1,l[k].2.2):=rfl;generalize l[k].1.1=sc at g0 hst;generalize l[k].1.2=sn at g1 hst;generalize l[k].2.1=ob at g2 hst hd;generalize l[k].2.2=gn at g3 hst;by_cases he:ob=o
   ·subst he;rw[Ei rfl,hst] at hd;have HD:=Ja (hf.out.trans hd);clear hd hst hb hblk hf;go_wp2_with (refine Je rfl 70 _ _ rfl w.heap.size 70 _ (wcA ((sc,sn),ob,gn)) rfl rfl HK.out HI.out rfl (Ja3 _) ?_;intro w4 hk4 hg4);refine EF (Js rfl _ _ w.heap.size 70 _ _ _ rfl hk4 underlying70 rfl HI.out) rfl (AtP.mk ?_ (HBw.out.trans (Jb hg4 HBw.out.size (fun k hk=>by cases hk;exact Ek _))));rw[HQ.out,HB.out,HD.out];rfl
   ·rw[Ef he] at hd;have HD:=Ja (hf.out.trans hd);clear hd hst hb hblk hf;go_wp2;go_roundw
    case rel=>exact⟨k+1,by omega,by go_num,HBw.out,HK.out,HD.out⟩
    case measure=>simp[intOf];omega
  ·obtain rfl:k=n:=by omega
   have HN:=Ja (show Xy l o=none by rw[hf.out,Ed (by rw[HL.out];exact Ek _)];rfl);clear hb hblk hf;go_wp2_with (refine Je rfl 70 _ _ rfl w.heap.size 70 _ (wcA w0_) rfl rfl HK.out HI.out rfl (Ja3 _) ?_;intro w4 hk4 hg4);refine EF (Js rfl _ _ w.heap.size 70 _ _ _ rfl hk4 underlying70 rfl HI.out) rfl (AtP.mk ?_ (HBw.out.trans (Jb hg4 HBw.out.size (fun k hk=>by cases hk;exact Ek _))));rw[HQ.out,HB.out,HN.out];rfl
theorem Ob (q:Wr) (o:Int) (w:World):Calls prog 214 #[.agg #[.int .i64 q.1.1,.int .i64 q.1.2,.int .i64 q.2.1,.bool q.2.2],.int .i64 o] w fun e w'=>e=.returned (.int .i64 (Xn q.2.1 o))/\Bz w w':=by
 have H1:=Ja UJ;generalize hz:Xn q.2.1 o=z;have HZ:=Ja hz;clear hz;go_enter func214,ntmps214;go_wp2_with (go_at_call 73;go_must (refine(H1.out _ _ _).mono ?_);rintro e w' ⟨rfl,rfl⟩);go_ret;exact⟨by rw[<-HZ.out];rfl,Zr.alloc Zl _⟩
def Ki (l:List Wr) (o:Int) (w:World) (e:Ending) (w':World):Prop:=∃(i:Nat) (b:Bool),e=.returned (.tuple #[.int .i64 i,.bool b])/\i<=l.length/\(b=true->∃h:i < l.length,l[i].2.1=o/\Xy l o=some l[i])/\(b=false->Xy l o=none)/\((∀t (ht:t < l.length),t < i->l[t].2.1 < o)/\(∀t (ht:t < l.length),i<=t->o<=l[t].2.1))/\Bz w w'
theorem Jfk (A:OA) (n c:Nat) (l:List Wr) (o:Int) (w:World) (hl:l.length=n) (hR:Rd w w.heap.size 4 A n c (wv l)) (hr:UY (-1) l=true) (hn:n<=4398046511104):
  Calls prog 213 #[.slice A n c,.int .i64 o,.func (.func 214) #[] #[]] w (Ki l o w):=by
 have hmax:n<=9223372036854775807:=by have h1:=hR.cap;have h2:=hR.max;unfold maxLen at h2;omega
 have HL:=Ja hl;have HR:=Ja hR;have HI:=Ja (Jfg (-1) l hr);have HRI:=Ja hr;clear hl hR hr;go_enter func213,ntmps213;go_wp2;go_loopw [9,10,11] (fun x y _ wr=>∃i j:Nat,i<=j/\j<=n/\x=.int .i64 i/\y=.int .i64 j/\Bz w wr/\Hid (∀t (ht:t < l.length),t < i->l[t].2.1 < o)/\Hid (∀t (ht:t < l.length),j<=t->o<=l[t].2.1)) (fun x y _ _=>(intOf y).toNat - (intOf x).toNat)
 case atStart=>exact⟨0,n,by omega,by omega,rfl,rfl,Ec _ _,(fun t ht h=>by omega),(fun t ht h=>by have:=HL.out;omega)⟩
 case round=>
  obtain⟨i,j,hij,hj,rfl,rfl,hb,h1,h2⟩:=hrel;by_cases hlt:i < j
  ·obtain⟨m,hm⟩:∃m:Nat,((i:Int)+(j:Int)) / 2=(m:Int):=⟨(i+j) / 2,by omega⟩;have hm1:i<=m:=by omega
   have hm2:m < j:=by omega
   have hml:m < l.length:=by rw[HL.out];omega
   obtain⟨b,off,rfl,hbb,g0,g1,g2,g3⟩:=(HR.out.below hb).write HL.out hml;have HC:=Ob l[m] o wr;have HO:=Ja (show l[m].2.1=l[m].2.1 from rfl);generalize hob:l[m].2.1=ob at g2 HC;generalize l[m].1.1=sc at g0 HC;generalize l[m].1.2=sn at g1 HC;generalize l[m].2.2=gn at g3 HC;have HB:=Ja hb;have HOB:=Ja hob;have hin:(0:Int)<=(m:Int)/\(m:Int) < (n:Int):=by omega
   clear hob hb HO;by_cases hc:ob < o
   ·rw[show Xn ob o=-1 by unfold Xn;rw[Ei hc]] at HC;have HC:=Ja HC;go_wp2_with (go_at_call 214;go_must (refine Jd HC.out fun w' hb'=>?_));go_roundw
    case rel=>
     refine⟨m+1,j,by omega,hj,by go_num,rfl,Jg HB.out hb',fun t ht h=>?_,h2⟩;rcases FI t m with h3 | h3
     ·have:=HI.out t m h3 hml;have:=HOB.out;omega
     ·obtain rfl:t=m:=by omega
      rw[HOB.out];exact hc
    case measure=>simp[intOf];omega
   ·obtain⟨z,hz⟩:∃z,Xn ob o=z:=⟨_,rfl⟩;have hz0:0<=z:=by rw[<-hz];unfold Xn;rw[Ef hc];split<;>omega
    rw[hz] at HC;have HC:=Ja HC;clear hz;go_wp2_with (go_at_call 214;go_must (refine Jd HC.out fun w' hb'=>?_));go_roundw
    case rel=>
     refine⟨i,m,by omega,by omega,rfl,rfl,Jg HB.out hb',h1,fun t ht h=>?_⟩;rcases FI m t with h3 | h3
     ·have:=HI.out m t h3 ht;have:=HOB.out;omega
     ·obtain rfl:t=m:=by omega
      rw[HOB.out];omega
    case measure=>simp[intOf];omega
  ·obtain rfl:i=j:=by omega
   have HB:=Ja hb;by_cases hin:i < n
   ·have hil:i < l.length:=by rw[HL.out];exact hin
    obtain⟨b,off,rfl,hbb,g0,g1,g2,g3⟩:=(HR.out.below hb).write HL.out hil;have HC:=Ob l[i] o wr;generalize hob:l[i].2.1=ob at g2 HC;generalize l[i].1.1=sc at g0 HC;generalize l[i].1.2=sn at g1 HC;generalize l[i].2.2=gn at g3 HC;have HOB:=Ja hob;have hge:o<=ob:=by rw[<-hob];exact h2.out i hil Zl
    clear hob hb;by_cases he:ob=o
    ·have hF:Ki l o w (.returned (.tuple #[.int .i64 (i:Int),.bool true]))=fun w'=>Bz w w':=by
      funext w'
      refine propext ⟨fun ⟨_,_,_,_,_,_,_,h⟩=>h,fun h=>⟨i,true,rfl,by omega,fun _=>⟨hil,HOB.out.trans he,Jm1 HRI.out hil (HOB.out.trans he)⟩,(fun h=>by cases h),⟨h1.out,h2.out⟩,h⟩⟩
     have HF:=Ja hF;rw[show Xn ob o=0 by unfold Xn;rw[Ef (by omega),Ef (by omega)]] at HC;have HC:=Ja HC;clear he hF;go_wp2_with (go_at_call 214;go_must (refine Jd HC.out fun w' hb'=>?_));go_ret2;show Ki l o w (.returned (.tuple #[.int .i64 (i:Int),.bool true])) _;rw[HF.out];exact Jg HB.out hb'
    ·have hno:Xy l o=none:=JfW (k:=i) (fun t ht h=>h1.out t ht h) (fun t ht h=>by
      rcases FI i t with h3 | h3
      ·have:=HI.out i t h3 ht;have:=HOB.out;omega
      ·obtain rfl:t=i:=by omega
       rw[HOB.out];omega)
     have hF:Ki l o w (.returned (.tuple #[.int .i64 (i:Int),.bool false]))=fun w'=>Bz w w':=by
      funext w'
      refine propext ⟨fun ⟨_,_,_,_,_,_,_,h⟩=>h,fun h=>⟨i,false,rfl,by omega,(fun h=>by cases h),(fun _=>hno),⟨h1.out,h2.out⟩,h⟩⟩
     have HF:=Ja hF;rw[show Xn ob o=1 by unfold Xn;rw[Ef (by omega),Ei (by omega)]] at HC;have HC:=Ja HC;clear he hF hno;go_wp2_with (go_at_call 214;go_must (refine Jd HC.out fun w' hb'=>?_));go_ret2;show Ki l o w (.returned (.tuple #[.int .i64 (i:Int),.bool false])) _;rw[HF.out];exact Jg HB.out hb'
   ·have hno:Xy l o=none:=JfW (k:=i) (fun t ht h=>h1.out t ht h) (fun t ht h=>by have:=HL.out;omega);have hF:Ki l o w (.returned (.tuple #[.int .i64 (i:Int),.bool false]))=fun w'=>Bz w w':=by
     funext w'
     refine propext ⟨fun ⟨_,_,_,_,_,_,_,h⟩=>h,fun h=>⟨i,false,rfl,by have:=HL.out;omega,(fun h=>by cases h),(fun _=>hno),⟨h1.out,h2.out⟩,h⟩⟩
    have HF:=Ja hF;clear hF hno;go_wp2;go_ret2;show Ki l o w (.returned (.tuple #[.int .i64 (i:Int),.bool false])) _;rw[HF.out];exact HB.out
theorem JbW (A:OA) (n c:Nat) (l:List Wr) (o:Int) (w:World) (hl:l.length=n) (hR:Rd w w.heap.size 4 A n c (wv l)) (hr:UY (-1) l=true) (hn:n<=4398046511104):
  Calls prog 190 #[.slice A n c,.int .i64 o] w (Ki l o w):=by
 have H1:=Ja (Jfk A n c l o w hl hR hr hn);have hF:∀(i:Nat) (b:Bool) (w':World),Ki l o w (.returned (.tuple #[.int .i64 i,.bool b])) w'->Ki l o w (.returned (.tuple #[.int .i64 i,.bool b])) w':=fun _ _ _ h=>h;have HF:=Ja hF;clear hR hl hr hF;go_enter func190,ntmps190;go_wp2_with fail;refine H1.out.mono ?_;rintro e w1 ⟨i,b,rfl,h1,h2,h3,h4,h5⟩;have HX:=Ja (HF.out i b w1 ⟨i,b,rfl,h1,h2,h3,h4,h5⟩);clear h1 h2 h3 h4 h5;go_wp2;go_ret2;exact HX.out
def Jjn (l:List Wr) (o:Int):Int:=if Xu (-1) l=true then (if atB l o=true then 0 else 8) else 1
def Jho (l:List Wr) (o:Int):Wr:=if Xu (-1) l=true then atQ l o else w0_
def Jkx (w:World) (q:Wr) (b:Int) (e:Ending) (w':World):Prop:=e=.returned (.tuple #[.agg (wcA q),.int .i64 b])/\Bz w w'
theorem Jkx.mk {w w':World} {q:Wr} {b:Int} {e:Ending} (h1:e=.returned (.tuple #[.agg (wcA q),.int .i64 b])) (h2:Bz w w'):Jkx w q b e w':=⟨h1,h2⟩
theorem Jjp (A:OA) (n c:Nat) (l:List Wr) (o:Int) (w:World) (hl:l.length=n) (hR:Rd w w.heap.size 4 A n c (wv l)):
  Calls prog 166 #[.slice A n c,.int .i64 o] w (Jkx w (Jho l o) (Jjn l o)):=by
 obtain⟨hzz,hi⟩:=FG Jao;have HI:=Ja hi;have hq:Jho l o=if Xu (-1) l=true then atQ l o else w0_:=rfl;have hB:Jjn l o=if Xu (-1) l=true then (if atB l o=true then 0 else 8) else 1:=rfl;generalize Jho l o=Q at hq ⊢;generalize Jjn l o=B at hB ⊢;have HK:=Ja (Jm.new w 70 (wcA w0_));have hb0:Bz w (w.alloc (.cells (wcA w0_) 70)):=Zr.alloc Zl _;have H1:=Ja (XU A n c l _ hl (hR.go hb0));have HR:=Ja fun (W:World) (hb:Bz w W)=>hR.go hb;have HL:=Ja hl;rcases hf:Xu (-1) l with _ | _
 ·rw[hf] at H1 hq hB;simp only[Nm,if_false] at hq hB;subst hq hB;clear hR hl hi;go_enter func166,ntmps166;go_wp2_with (first
   | (go_at_call 93;go_must (refine Jd H1.out fun w1 hb1=>?_);have HK1:=Ja (HK.out.go hb1);have HB1:=Ja (Jg hb0 hb1);clear hb1)
   | (refine Je rfl 70 _ _ rfl w.heap.size 70 _ (wcA w0_) rfl rfl HK1.out HI.out rfl (Ja3 _) ?_;intro w4 hk4 hg4))
  refine EF (Js rfl _ _ w.heap.size 70 _ _ _ rfl hk4 underlying70 rfl HI.out) rfl (Jkx.mk rfl (HB1.out.trans (Jb hg4 HB1.out.size (fun k hk=>by cases hk;exact Ek _))))
 ·rw[hf] at H1 hq hB;simp only[Nf] at hq hB;have hln:n<=4398046511104:=by
   rcases Wq.ZW hf (by omega) with h | h
   ·omega
   ·rw[<-hl,h];simp
  have H2:=Ja fun (W:World) (hb:Bz w W)=>JbW A n c l o W hl (hR.go hb) (JcA hf) hln;have HA:=Ja (show atQ l o=(Xy l o).getD w0_ from rfl);have HAB:=Ja (show atB l o=(Xy l o).isSome from rfl);have HQ:=Ja hq;have HBB:=Ja hB;clear hR hl hi hq hB hln;go_enter func166,ntmps166;go_wp2_with (first
   | (go_at_call 93;go_must (refine Jd H1.out fun w1 hb1=>?_);have HK1:=Ja (HK.out.go hb1);have HB1:=Ja (Jg hb0 hb1);clear hb1)
   | fail)
  refine(H2.out _ HB1.out).mono ?_;rintro e w2 ⟨i,b,rfl,h1,h2,h3,_,hb2⟩;have HK2:=Ja (HK1.out.go hb2);have HB2:=Ja (Jg HB1.out hb2);clear hb2;cases b
  ·have hno:=h3 rfl;have hq:=HQ.out;have hB:=HBB.out;rw[HA.out,hno] at hq;rw[HAB.out,hno] at hB;simp only[Option.getD_none,Option.isSome_none,Nm,if_false] at hq hB;clear HQ HBB HA HAB;subst hq hB;clear h1 h2 h3 hno;go_wp2_with (refine Je rfl 70 _ _ rfl w.heap.size 70 _ (wcA w0_) rfl rfl HK2.out HI.out rfl (Ja3 _) ?_;intro w4 hk4 hg4);refine EF (Js rfl _ _ w.heap.size 70 _ _ _ rfl hk4 underlying70 rfl HI.out) rfl (Jkx.mk rfl (HB2.out.trans (Jb hg4 HB2.out.size (fun k hk=>by cases hk;exact Ek _))))
  ·obtain⟨hil,he,ha⟩:=h2 rfl;have hq:=HQ.out;have hB:=HBB.out;rw[HA.out,ha] at hq;rw[HAB.out,ha] at hB;simp only[Option.getD_some,Option.isSome_some,Nf] at hq hB;obtain⟨b,off,rfl,hbb,g0,g1,g2,g3⟩:=((HR.out w2 HB2.out)).write HL.out hil;have hst:l[i]=((l[i].1.1,l[i].1.2),l[i].2.1,l[i].2.2):=rfl;rw[hst] at hq;have hin:(i:Int) < (n:Int):=by have:=HL.out;omega
   generalize l[i].1.1=sc at g0 hq;generalize l[i].1.2=sn at g1 hq;generalize l[i].2.1=ob at g2 hq;generalize l[i].2.2=gn at g3 hq;clear HQ HBB HA HAB;subst hq hB;clear h1 h2 h3 he ha hst;go_wp2_with (refine Je rfl 70 _ _ rfl w.heap.size 70 _ (wcA ((sc,sn),ob,gn)) rfl rfl HK2.out HI.out rfl (Ja3 _) ?_;intro w4 hk4 hg4);refine EF (Js rfl _ _ w.heap.size 70 _ _ _ rfl hk4 underlying70 rfl HI.out) rfl (Jkx.mk rfl (HB2.out.trans (Jb hg4 HB2.out.size (fun k hk=>by cases hk;exact Ek _))))
theorem JgK (l:List Wr) (x:Wq.Bd):JV l x=(atB l x.o && (decide ((atQ l x.o).1=x.s) && !(atQ l x.o).2.2)):=by
 unfold JV atB atQ;rcases Xy l x.o with _ | q<;>rfl
theorem Jka (l:List Wr) (x:Wq.Bd):(Xu (-1) l && JV l x)=(decide (Jjn l x.o=0) && (decide ((Jho l x.o).1=x.s) && !(Jho l x.o).2.2)):=by
 rw[JgK];unfold Jjn Jho;by_cases h:Xu (-1) l=true
 ·rw[Ei h,Ei h,h];by_cases h2:atB l x.o=true
  ·rw[Ei h2,h2];simp
  ·rw[Ef h2,(Bool.not_eq_true _).mp h2];simp
 ·rw[Ef h,Ef h,(Bool.not_eq_true _).mp h];simp
theorem Zv (A X:OA) (n c xc:Nat) (l:List Wr) (x:Wq.Bd) (w:World) (hl:l.length=n) (hR:Rd w w.heap.size 4 A n c (wv l)):
  Calls prog 100 #[.slice A n c,.agg (JO x X xc)] w fun e w'=>e=.returned (.bool (Xu (-1) l && JV l x))/\Bz w w':=by
 rw[Jka];obtain⟨o,⟨a,b⟩,v⟩:=x;unfold JO;dsimp only;generalize v.length=m;have hb0:Bz w (w.alloc (.cells #[.int .i64 o,.int .i64 a,.int .i64 b,.slice X m xc] 31)):=Zr.alloc Zl _;have HX:=Ja (Jm.new w 31 #[.int .i64 o,.int .i64 a,.int .i64 b,.slice X m xc]);have H1:=Ja (Jjp A n c l o _ hl (hR.go hb0));have HB:=Ja hb0;clear hR hl hb0;generalize Jjn l o=E at H1 ⊢;generalize Jho l o=Q at H1 ⊢;obtain⟨⟨sc,sn⟩,ob,gn⟩:=Q;dsimp only;by_cases hE:E=0
 ·subst hE;by_cases e1:sc=a
  ·subst e1;by_cases e2:sn=b
   ·subst e2;have HN:=Ja (show (decide ((0:Int)=0) && (decide ((sc,sn)=(sc,sn)) && !gn))=!gn by simp);rw[HN.out];cases gn
    all_goals
     go_enter func100,ntmps100;go_wp2_with (go_at_call 166;go_must (refine Jd H1.out fun w1 hb1=>?_);dsimp only[wcA];have HB1:=Ja (Jg HB.out hb1);have y1:=(HX.out.go hb1).cell 1;have y2:=(HX.out.go hb1).cell 2;have hlt:=(HX.out.go hb1).lt;clear hb1);go_ret;exact⟨rfl,HB1.out.alloc HB1.out.size _⟩
   ·have HN:=Ja (show (decide ((0:Int)=0) && (decide ((sc,sn)=(sc,b)) && !gn))=false by simp[e2]);rw[HN.out];go_enter func100,ntmps100;go_wp2_with (go_at_call 166;go_must (refine Jd H1.out fun w1 hb1=>?_);dsimp only[wcA];have HB1:=Ja (Jg HB.out hb1);have y1:=(HX.out.go hb1).cell 1;have y2:=(HX.out.go hb1).cell 2;have hlt:=(HX.out.go hb1).lt;clear hb1);go_ret;exact⟨rfl,HB1.out.alloc HB1.out.size _⟩
  ·have HN:=Ja (show (decide ((0:Int)=0) && (decide ((sc,sn)=(a,b)) && !gn))=false by simp[e1]);rw[HN.out];go_enter func100,ntmps100;go_wp2_with (go_at_call 166;go_must (refine Jd H1.out fun w1 hb1=>?_);dsimp only[wcA];have HB1:=Ja (Jg HB.out hb1);have y1:=(HX.out.go hb1).cell 1;have y2:=(HX.out.go hb1).cell 2;have hlt:=(HX.out.go hb1).lt;clear hb1);go_ret;exact⟨rfl,HB1.out.alloc HB1.out.size _⟩
 ·have HN:=Ja (show (decide (E=0) && (decide ((sc,sn)=(a,b)) && !gn))=false by simp[hE]);rw[HN.out];have hE':(E == 0)=false:=by simpa using hE
  go_enter func100,ntmps100;go_wp2_with (go_at_call 166;go_must (refine Jd H1.out fun w1 hb1=>?_);dsimp only[wcA];have HB1:=Ja (Jg HB.out hb1);have hlt:=(HX.out.go hb1).lt;clear hb1);go_ret;exact⟨rfl,HB1.out.alloc HB1.out.size _⟩
theorem Kg (u:VV) (v:Vw) (L:List (ZV×Zn)) (M:List (BV×Wq.Bd)) (X:OA) (xc:Nat) (x:Wq.Bd) (w:World) (hV:JU w w.heap.size u v L M):
  Calls prog 90 #[.agg (Jy v u),.agg (JO x X xc)] w fun e w'=>e=.returned (.bool (JV v.held x))/\Bz w w':=by
 rw[JgK];obtain⟨o,⟨a,b⟩,bb⟩:=x;obtain⟨kA,kc,zA,zc,hA,hc,bA,bc⟩:=u;obtain⟨known,zones,held,bods,room⟩:=v;obtain⟨h1,h2,h3,h4,h5,h6⟩:=hV;unfold Jy JO;dsimp only at h1 h2 h3 h4 h5 h6 ⊢;generalize bb.length=m;have hb0:Bz w ((w.alloc (.cells #[.slice kA known.length kc,.slice zA zones.length zc,.slice hA held.length hc,.slice bA bods.length bc,.int .i64 room] 35)).alloc (.cells #[.int .i64 o,.int .i64 a,.int .i64 b,.slice X m xc] 31)):=(Zr.alloc Zl _).alloc (by simp) _;have H1:=Ja (JdY hA held.length hc held o _ rfl (h4.go hb0));generalize known.length=nk at H1 hb0 ⊢;generalize zones.length=nz at H1 hb0 ⊢;generalize held.length=nh at H1 hb0 ⊢;generalize bods.length=nb at H1 hb0 ⊢;have hX:=Jm.new (w.alloc (.cells #[.slice kA nk kc,.slice zA nz zc,.slice hA nh hc,.slice bA nb bc,.int .i64 room] 35)) 31 #[.int .i64 o,.int .i64 a,.int .i64 b,.slice X m xc];rw[El] at hX;have HX:=Ja hX;have HB:=Ja hb0;clear h1 h2 h3 h4 h5 h6 hb0 hX;generalize atB held o=B at H1 ⊢;generalize atQ held o=Q at H1 ⊢;obtain⟨⟨sc,sn⟩,ob,gn⟩:=Q;dsimp only;cases B
 ·have HN:=Ja (show (false && (decide ((sc,sn)=(a,b)) && !gn))=false from rfl);rw[HN.out];go_enter func90,ntmps90;go_wp2_with (go_at_call 158;go_must (refine Jd H1.out fun w1 hb1=>?_);dsimp only[wcA];have HB1:=Ja (Jg HB.out hb1);have hlt:=(HX.out.go hb1).lt;clear hb1);go_ret;exact⟨rfl,HB1.out.alloc HB1.out.size _⟩
 ·by_cases e1:sc=a
  ·subst e1;by_cases e2:sn=b
   ·subst e2;have HN:=Ja (show (true && (decide ((sc,sn)=(sc,sn)) && !gn))=!gn by simp);rw[HN.out];cases gn
    all_goals
     go_enter func90,ntmps90;go_wp2_with (go_at_call 158;go_must (refine Jd H1.out fun w1 hb1=>?_);dsimp only[wcA];have HB1:=Ja (Jg HB.out hb1);have y1:=(HX.out.go hb1).cell 1;have y2:=(HX.out.go hb1).cell 2;have hlt:=(HX.out.go hb1).lt;clear hb1);go_ret;exact⟨rfl,HB1.out.alloc HB1.out.size _⟩
   ·have HN:=Ja (show (true && (decide ((sc,sn)=(sc,b)) && !gn))=false by simp[e2]);rw[HN.out];go_enter func90,ntmps90;go_wp2_with (go_at_call 158;go_must (refine Jd H1.out fun w1 hb1=>?_);dsimp only[wcA];have HB1:=Ja (Jg HB.out hb1);have y1:=(HX.out.go hb1).cell 1;have y2:=(HX.out.go hb1).cell 2;have hlt:=(HX.out.go hb1).lt;clear hb1);go_ret;exact⟨rfl,HB1.out.alloc HB1.out.size _⟩
  ·have HN:=Ja (show (true && (decide ((sc,sn)=(a,b)) && !gn))=false by simp[e1]);rw[HN.out];go_enter func90,ntmps90;go_wp2_with (go_at_call 158;go_must (refine Jd H1.out fun w1 hb1=>?_);dsimp only[wcA];have HB1:=Ja (Jg HB.out hb1);have y1:=(HX.out.go hb1).cell 1;have y2:=(HX.out.go hb1).cell 2;have hlt:=(HX.out.go hb1).lt;clear hb1);go_ret;exact⟨rfl,HB1.out.alloc HB1.out.size _⟩
def ixB (t:Wq.Bd->Bool):Nat->List Wq.Bd->Int
 | _,[]=>-1
 | k,x :: r=>if t x=true then (k:Int) else ixB t (k+1) r
theorem Jgk (t:Wq.Bd->Bool) (k:Nat) (l:List Wq.Bd) (h:k < l.length):ixB t k (l.drop k)=if t l[k]=true then (k:Int) else ixB t (k+1) (l.drop (k+1)):=by
 rw[Eh h,ixB]
theorem JnR (t:Wq.Bd->Bool) (k:Nat) (l:List Wq.Bd):decide (0<=ixB t k l)=l.any t:=by
 induction l generalizing k with
 | nil=>rfl
 | cons s r ih=>
  rw[ixB,List.any_cons];cases t s
  ·simpa using ih (k+1)
  ·simp
theorem Jdf (A X:OA) (n c xc:Nat) (l:List Wr) (x:Wq.Bd) (Bx:Nat) (w:World) (hx:w.cell? ⟨Bx,2,none⟩=some (.slice A n c)) (hl:l.length=n) (hR:Rd w w.heap.size 4 A n c (wv l)):
  Calls prog 99 #[.agg (JO x X xc),.pointer (some ⟨Bx,0,none⟩)] w fun e w'=>e=.returned (.bool (!(Xu (-1) l && JV l x)))/\Bz w w':=by
 have hlt:=Ep _ _ hx;have hb0:Bz w (w.alloc (.cells (JO x X xc) 31)):=Zr.alloc Zl _;have H1:=Zv A X n c xc l x _ hl (hR.go hb0);have hc:=(hb0.cell (p:=⟨Bx,2,none⟩) hlt).trans hx;obtain⟨o,⟨a,b⟩,v⟩:=x;generalize (Xu (-1) l && JV l ⟨o,(a,b),v⟩)=z at H1 ⊢;unfold JO at H1 hc hb0 ⊢;dsimp only at H1 hc hb0 ⊢;generalize v.length=m at H1 hc hb0 ⊢;have H1:=Ja H1;have HB:=Ja hb0;clear hR hl hb0;cases z
 all_goals
  go_enter func99,ntmps99;go_wp2_with (go_at_call 100;go_must (refine Jd H1.out fun w1 hb1=>?_));go_ret;exact⟨rfl,Jg HB.out hb1⟩
theorem JhS (A D:OA) (n c m d:Nat) (l:List Wr) (M:List (BV×Wq.Bd)) (Bx:Nat) (w:World) (hx:w.cell? ⟨Bx,2,none⟩=some (.slice A n c)) (hl:l.length=n) (hR:Rd w w.heap.size 4 A n c (wv l)) (hM:QI w w.heap.size D m d M):
  Calls prog 144 #[.slice D m d,.func (.func 99) #[] #[.pointer (some ⟨Bx,0,none⟩)]] w fun e w'=>e=.returned (.int .i64 (ixB (fun x=>!(Xu (-1) l && JV l x)) 0 (JG M)))/\Bz w w':=by
 have hmax:=hM.max;have hBx:=Ep _ _ hx;have HXC:=Ja hx;have HL:=Ja hM.len;have HW:=Ja fun (W:World) (hb:Bz w W) k (hk:k < M.length)=>(hM.below hb).body hk;have HT:=Ja fun (W:World) (hb:Bz w W) (X:OA) (xc:Nat) (x:Wq.Bd)=>Jdf A X n c xc l x Bx W ((hb.cell (p:=⟨Bx,2,none⟩) hBx).trans hx) hl (hR.go hb);clear hx hM hR hl;generalize ht:(fun x=>!(Xu (-1) l && JV l x))=t;have ht2:∀x,(!(Xu (-1) l && JV l x))=t x:=fun x=>by rw[<-ht]
 simp only[ht2] at HT;clear ht ht2;have HD:=Ja fun k h=>Jgk t k (JG M) h;go_enter func144,ntmps144;go_wp2;go_loopw [8] (fun i wr=>∃(k:Nat),k<=m/\i=.int .i64 k/\Bz w wr/\Hid (ixB t 0 (JG M)=ixB t k ((JG M).drop k))) (fun i _=>m - (intOf i).toNat)
 case atStart=>exact⟨0,by omega,rfl,Ec _ _,rfl⟩
 case round=>
  obtain⟨k,hk,rfl,hb,hf⟩:=hrel;by_cases hlt:k < m
  ·have hkl:k < M.length:=by rw[HL.out];omega
   have hkb:k < (JG M).length:=by rw[Jt];exact hkl
   obtain⟨b,o,rfl,hab,g0,g1,g2,g3⟩:=HW.out wr hb k hkl;have HF:=hf.out.trans (HD.out k hkb);rw[Xr M k hkl] at HF;have H1:=HT.out wr hb M[k].1.A M[k].1.c M[k].2;generalize t M[k].2=z at H1 HF;unfold JO at H1;generalize M[k].2.o=x0 at g0 H1;generalize M[k].2.s.1=x1 at g1 H1;generalize M[k].2.s.2=x2 at g2 H1;generalize M[k].2.v.length=q at g3 H1;generalize M[k].1.A=x3 at g3 H1;generalize M[k].1.c=x4 at g3 H1;have HB:=Ja hb;have H1:=Ja H1;have HF:=Ja HF;clear hb hf;cases z
   ·go_wp2_with (go_at_call 99;go_must (refine Jd H1.out fun w1 hb1=>?_));go_roundw
    case rel=>exact⟨k+1,by omega,by go_num,Jg HB.out hb1,by show _=_;rw[HF.out];rfl⟩
    case measure=>simp[intOf];omega
   ·go_wp2_with (go_at_call 99;go_must (refine Jd H1.out fun w1 hb1=>?_));go_ret;exact⟨by rw[HF.out];rfl,Jg HB.out hb1⟩
  ·obtain rfl:k=m:=by omega
   have HN:=Ja (show ixB t 0 (JG M)=-1 by rw[hf.out,Ed (by rw[Jt,HL.out];omega)];rfl);have HB:=Ja hb;clear hb hf;go_wp2;go_ret;exact⟨by rw[HN.out];rfl,HB.out⟩
theorem Jdx (A D:OA) (n c m d:Nat) (l:List Wr) (M:List (BV×Wq.Bd)) (Bx:Nat) (w:World) (hx:w.cell? ⟨Bx,2,none⟩=some (.slice A n c)) (hl:l.length=n) (hR:Rd w w.heap.size 4 A n c (wv l)) (hM:QI w w.heap.size D m d M):
  Calls prog 98 #[.slice D m d,.func (.func 99) #[] #[.pointer (some ⟨Bx,0,none⟩)]] w fun e w'=>e=.returned (.bool ((JG M).any fun x=>!(Xu (-1) l && JV l x)))/\Bz w w':=by
 have H1:=JhS A D n c m d l M Bx w hx hl hR hM;have HN:=Ja (JnR (fun x=>!(Xu (-1) l && JV l x)) 0 (JG M));generalize ixB (fun x=>!(Xu (-1) l && JV l x)) 0 (JG M)=z at H1 HN;have H1:=Ja H1;clear hx hl hR hM;go_enter func98,ntmps98;go_wp2_with (go_at_call 144;go_must (refine Jd H1.out fun w1 hb1=>?_));go_ret;exact⟨by rw[<-HN.out];rfl,hb1⟩
def Ji4 {α:Type} (F:Fence) (n:Nat) (P:Program) (g:Nat) (lb:Array Value) (encs:α->Array Value) (T:List α->α->Prop) (Kp:World->World->Prop) (S Sp:List α->Prop) (N:Nat) (w:World):Prop:=
 ∀(l:Nat) (J Jx:List α->World->Prop) (W:World),Bz w W->AbidesFrom W.heap.size J->AbidesFrom W.heap.size Jx ->
  (∀pre x W1,J pre W1->T pre x->pre.length < N->YieldAt F (n - 1) P l (encs x) W1 fun e W'=>
   (e=.returned (.bool true)/\J (pre++[x]) W'/\Kp W1 W')\/(e=.returned (.bool false)/\Jx (pre++[x]) W')) ->
  J [] W ->
  CallsIn F n P g (#[.func (.yield l) #[] #[]]++lb) W fun e W'=>(∃v,e=.returned v)/\((∃xs,S xs/\J xs W')\/(∃pre,Sp pre/\Jx pre W'))
def JjZ {α:Type} (B:Nat) (Kp:World->World->Prop) (I:List α->World->Prop) (Ix:Code->List α->World->Prop) (xs:List α) (W:World):Exit->Act->World->Prop
 | .normal,_,V=>KeepsFrom B W V/\Kp W V/\I xs V
 | .ret,_,V=>KeepsFrom B W V/\Ix .ret xs V
 | .exit id,_,V=>KeepsFrom B W V/\Ix (.exit id) xs V
 | .goto t,_,V=>KeepsFrom B W V/\Ix (.goto t) xs V
 | .panic _,_,_=>False
 | .outgrown,_,_=>False
variable {F:Fence} {n:Nat} {P:Program}
theorem OQ {α:Type} {g:Operand} {ps:Array Tmp} {assign body:Code} {Q:Exit->Act->World->Prop} {a:Act} {w:World}
  (hro:F.round=none) (h1:1<=n) {gf:Nat} {lb:Array Value} (hg:a.eval g=.func (.func gf) #[] lb) (hFg:F.fn gf) (eg:∀args w,(callFunc gf args).run P w=.ok (.enter gf args) w)
  {encs:α->Array Value} {T:List α->α->Prop} {Kp:World->World->Prop} {S Sp:List α->Prop} {N:Nat} {w0:World} (hseq:Ji4 F (n - 1) P gf lb encs T Kp S Sp N w0)
  (hKt:∀{A B C:World},Kp A B->Kp B C->Kp A C) (hKb:∀(W:World) (l:Nat) (o o':Obj),w.heap.size<=l->W.heap[l]?=some o->o.isCells=false->o.isWalk=false->Kp W (W.putObj l o')) (hb0:Bz w0 w) (hps:∀x,(encs x).size=ps.size)
  (I:List α->World->Prop) (Ix:Code->List α->World->Prop) (hI:OwnFrom w.heap.size I) (hIx:∀c,OwnFrom w.heap.size (Ix c)) (h0:I [] w)
  (Ax:α->Act->World->Prop) (hAx:∀a₁,OwnFrom w.heap.size (fun x V=>Ax x a₁ V))
  (hassign:∀(l:Nat) (pre:List α) (x:α) (W:World) (K:Act->World->Prop),I pre W->T pre x->(∀a₁ V,KeepsFrom w.heap.size W V->Kp W V->I pre V->Ax x a₁ V->K a₁ V) ->
   assign.wpIn (F.inRound l) (n - 1 - 1) P (Exit.then K (fun _ _ _=>False)) { tmps:=(ps.zip (encs x)).foldl (fun t (p,v)=>t.setIfInBounds p v) a.tmps,defers:=[] } W)
  (hbody:∀(l:Nat) (pre:List α) (x:α) (a₁:Act) (W:World),w.heap.size<=l->I pre W->T pre x->Ax x a₁ W->pre.length < N->body.wpIn (F.inRound l) (n - 1 - 1) P (JjZ w.heap.size Kp I Ix (pre++[x]) W) a₁ W)
  (hdone:∀(D:Nat) (xs:List α) (W:World),w.heap.size<=D->S xs->I xs W->W.heap[D]?=some (.deferred (some []))->Q .normal { a with defers:={ target:=.collected D,args:=#[] } :: a.defers } W)
  (hstop:∀(D:Nat) (c:Code) (pre:List α) (W:World),w.heap.size<=D->Sp pre->Ix c pre W->W.heap[D]?=some (.deferred (some []))->c.wpIn F n P Q { a with defers:={ target:=.collected D,args:=#[] } :: a.defers } W):
  (Code.rangeFunc g ps assign body).wpIn F n P Q a w:=by
 refine wpIn_rangeFunc fun fn hfn=>?_;rw[hro]
 -- the loop's record,in each of its states
 let R:LoopState->Option Code->Obj:=fun st pe=>.loop { state:=st,pending:=pe,fn,tmps:=a.tmps,params:=ps,assign,body,defers:=w.heap.size };have hsz:(w.alloc (.deferred (some []))).heap.size=w.heap.size+1:=by simp
 obtain⟨W1,hW1⟩:∃W1,W1=(w.alloc (.deferred (some []))).alloc (R .ready none):=⟨_,rfl⟩;have rec1:W1.heap[w.heap.size+1]?=some (R .ready none):=by
  have h:=Nz (w.alloc (.deferred (some []))) (R .ready none)
  rwa [hsz,<-hW1] at h
 have mark1:W1.heap[w.heap.size]?=some (.deferred (some [])):=by
  rw[hW1];exact(Below.heap_alloc _ _ _ (by omega)).trans (Nz w _)
 have i1:I [] W1:=by rw[hW1];exact hI.alloc _ (hI.alloc _ h0)
 have below1:Bz w0 W1:=by
  rw[hW1];exact hb0.trans ((((Ec _ w).alloc Zl _).alloc (by simp) _).mono hb0.size)
 have size1:w.heap.size+2<=W1.heap.size:=by rw[hW1];simp
 refine⟨w.heap.size+1,[{ target:=.collected w.heap.size,args:=#[] }],W1,{ target:=.fn (.func gf) lb,args:=#[.func (.yield (w.heap.size+1)) #[] #[]] },W1,gf,#[.func (.yield (w.heap.size+1)) #[] #[]]++lb,W1,
  by rw[hW1];exact run_enterLoop_outer _ _ _ _ _,by simp only[resolve,hg];simp[go_sem],fun f' hf'=>by simp[Target.leads] at hf';subst hf';exact hFg,by simp[invoke,go_sem,eg],fun _=>h1,?_⟩
 have stays:∀{A B:World} {row:Option Nat} {k:Nat} {o:Obj},A.grownBy B row->(∀r,row=some r->W1.heap.size<=r/\∃o:Obj,A.heap[r]?=some o/\o.isWalk=true)->k < W1.heap.size->A.heap[k]?=some o->B.heap[k]?=some o:=
  fun {A B row k o} hg' hr hk h=>(hg'.block k (EA.1 h).1 (fun e=>by have:=(hr k e.symm).1;omega)).trans h
 have asOwn:∀{A:World} {row:Option Nat},(∀r,row=some r->W1.heap.size<=r/\∃o:Obj,A.heap[r]?=some o/\o.isWalk=true)->(∀r,row=some r->w.heap.size<=r/\∃o:Obj,A.heap[r]?=some o/\o.isCells=false):=
  fun hr r e=>by obtain⟨hle,o,ho,hwk⟩:=hr r e;exact⟨by omega,o,ho,Obj.not_cells_of_walk hwk⟩
 refine(hseq (w.heap.size+1) (fun pre W=>I pre W/\W.heap[w.heap.size+1]?=some (R .ready none)/\W.heap[w.heap.size]?=some (.deferred (some [])))
  (fun pre W=>∃c,Ix c pre W/\W.heap[w.heap.size+1]?=some (R .done (some c))/\W.heap[w.heap.size]?=some (.deferred (some []))) W1 below1
  (fun s A B row hs hg' hr=>⟨hI s A B row hs.1 hg' (asOwn hr),stays hg' hr (by omega) hs.2.1,stays hg' hr (by omega) hs.2.2⟩)
  (fun s A B row hs hg' hr=>by
   obtain⟨c,hc,hl,hk⟩:=hs;exact⟨c,hIx c s A B row hc hg' (asOwn hr),stays hg' hr (by omega) hl,stays hg' hr (by omega) hk⟩) ?_ ⟨i1,rec1,mark1⟩).mono ?_
 ·-- one round
  rintro pre x W ⟨hi,hl,hk⟩ hx hlen;refine⟨fn,_,assign,body,run_yield (P:=P) (args:=encs x) hl (hps x),roundIn_of_wpIn hfn ?_⟩;refine hassign _ pre x W _ hi hx fun a₁ V hkV hpV iV axV=>?_
  ·have lV:=hkV.same _ _ (by omega) hl rfl;have kV:=hkV.same _ _ Zl hk rfl;have hltV:=(EA.1 lV).1;refine⟨_,run_beginRound lV rfl,wpIn_mono (hbody _ pre x a₁ _ (by omega) (hI.putObj _ iV (by omega) lV rfl) hx ((hAx a₁).putObj _ axV (by omega) lV rfl) hlen) ?_⟩;have l2:(V.putObj (w.heap.size+1) (R .busy none)).heap[w.heap.size+1]?=some (R .busy none):=Ni hltV;have k2:(V.putObj (w.heap.size+1) (R .busy none)).heap[w.heap.size]?=some (.deferred (some [])):=(Fj (by omega)).trans kV;have kp2:Kp W (V.putObj (w.heap.size+1) (R .busy none)):=hKt hpV (hKb _ _ _ _ (by omega) lV rfl rfl);have shut:∀(jump:Option Code) (Z:World),KeepsFrom w.heap.size (V.putObj (w.heap.size+1) (R .busy none)) Z →
     (Instr.endRound (w.heap.size+1) jump).run P Z=.ok (.bool jump.isNone) (Z.putObj (w.heap.size+1) (R (if jump.isNone then .ready else .done) jump))/\Z.heap[w.heap.size+1]?=some (R .busy none) /\
     (Z.putObj (w.heap.size+1) (R (if jump.isNone then .ready else .done) jump)).heap[w.heap.size+1]?=some (R (if jump.isNone then .ready else .done) jump) /\
     (Z.putObj (w.heap.size+1) (R (if jump.isNone then .ready else .done) jump)).heap[w.heap.size]?=some (.deferred (some [])):=fun jump Z hz=>by
    have lz:=hz.same _ _ (by omega) l2 rfl;exact⟨run_endRound (P:=P) jump lz,lz,Ni (EA.1 lz).1,(Fj (by omega)).trans (hz.same _ _ Zl k2 rfl)⟩
   rintro e2 a2 Z hq
   cases e2 with
   | normal=>
    obtain⟨hz,kpz,iz⟩:=hq;obtain⟨hrun,lz,l4,k4⟩:=shut none Z hz;exact⟨_,_,hrun,.inl ⟨rfl,⟨hI.putObj _ iz (by omega) lz rfl,l4,k4⟩,hKt (hKt kp2 kpz) (hKb _ _ _ _ (by omega) lz rfl rfl)⟩⟩
   | ret=>
    obtain⟨hz,iz⟩:=hq;obtain⟨hrun,lz,l4,k4⟩:=shut (some .ret) Z hz;exact⟨_,_,hrun,.inr ⟨rfl,.ret,(hIx _).putObj _ iz (by omega) lz rfl,l4,k4⟩⟩
   | exit id=>
    obtain⟨hz,iz⟩:=hq;obtain⟨hrun,lz,l4,k4⟩:=shut (some (.exit id)) Z hz;exact⟨_,_,hrun,.inr ⟨rfl,.exit id,(hIx _).putObj _ iz (by omega) lz rfl,l4,k4⟩⟩
   | goto t=>
    obtain⟨hz,iz⟩:=hq;obtain⟨hrun,lz,l4,k4⟩:=shut (some (.goto t)) Z hz;exact⟨_,_,hrun,.inr ⟨rfl,.goto t,(hIx _).putObj _ iz (by omega) lz rfl,l4,k4⟩⟩
   | panic ch=>exact hq.elim
   | outgrown=>exact hq.elim
 ·-- behind the iterator
  rintro e W2 ⟨⟨v,rfl⟩,(⟨xs,hS,hi,hl,hk⟩ | ⟨pre,hSp,c,hi,hl,hk⟩)⟩
  ·exact⟨none,_,run_endLoop (P:=P) hl (by simp),hdone _ xs _ Zl hS (hI.putObj _ hi (by omega) hl rfl) ((Fj (by omega)).trans hk)⟩
  ·exact⟨some c,_,run_endLoop (P:=P) hl (by simp),hstop _ c pre _ Zl hSp ((hIx c).putObj _ hi (by omega) hl rfl) ((Fj (by omega)).trans hk)⟩
end
section
open Go.RowKit Go.Shelf
attribute [local go_sem] Oper.semAt_some
structure KA (B:Nat) (W W':World):Prop where
 size:W.heap.size<=W'.heap.size
 same:∀k o,B<=k->W.heap[k]?=some o->o.isCells=true->W'.heap[k]?=some o
section
variable {B:Nat} {W V X:World}
theorem KA.trans (h:KA B W V) (k:KA B V X):KA B W X:=⟨EY h.size k.size,fun i o hB hi ho=>k.same i o hB (h.same i o hB hi ho) ho⟩
theorem KA.of_below (h:Bz W V):KA B W V:=⟨h.size,fun k _ _ hk _=>(h.block k (EA.1 hk).1).trans hk⟩
theorem KA.putObj {l:Nat} {o o':Obj} (hl:W.heap[l]?=some o) (h1:o.isCells=false):KA B W (W.putObj l o'):=
 ⟨by simp,fun k x _ hk hx=>by
  by_cases hkl:k=l
  ·subst hkl;rw[hl] at hk;injection hk with hk;subst hk;rw[h1] at hx;cases hx
  ·exact(Fj (by omega)).trans hk⟩
theorem KA.cell (h:KA B W V) {p:Addr} {u:Value} (hB:B<=p.block) (hc:W.cell? p=some u):V.cell? p=some u:=by
 obtain⟨o,ho,hx⟩:=cells_of_cell hc;exact(GQ ((h.same _ o hB ho hx).trans ho.symm)).trans hc
theorem KA.blk (h:KA B W V) {g:Nat} {t:TypeId} {cs:Array Value} (hB:B<=g) (hc:Jm W g t cs):Jm V g t cs:=h.same g _ hB hc rfl
end
theorem Jb4 {W W':World} (h:Bz W W'):W.grownBy W' none:=⟨h.os,h.tape,h.output,h.size,fun k hk _=>h.block k hk⟩
theorem Jl4 {β:Type} {B:Nat} {J:β->World->Prop} (h:AbidesFrom B J) {s:β} {W W':World} (hb:Bz W W') (hs:J s W):J s W':=h s W W' none hs (Jb4 hb) (fun r e=>by cases e)
end
end Go.Proofs.YtmbeahbgafkjfaaGreatDoor
