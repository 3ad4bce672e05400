/- Lemmas, layer 33. -/
import Derived.Test.YtmbeahbgafkjfaaGreatDoorKp31
import Derived.Test.YtmbeahbgafkjfaaGreatDoorKp32
set_option maxRecDepth 100000
set_option linter.unusedSimpArgs false
set_option maxHeartbeats 16000000
namespace Go.Proofs.YtmbeahbgafkjfaaGreatDoor
open Go.Proofs.Tryz Go.RowKit
section
theorem JfC.some_ {w w':World} {l:List UInt8} {e:Ending} {x:Qw} (hd:Wq.Jip l=some x) (h:JfC l w e w'):∃u,e=.returned (.tuple #[.agg (eval x u),.int .i64 0])/\(∃L M S,QP w' w'.heap.size u x L M S)/\Bz w w':=by
 rcases h with ⟨h1,_⟩ | ⟨y,u,h1,h2,h3,h4⟩
 ·rw[hd] at h1;cases h1
 ·rw[hd] at h1;cases h1;exact⟨u,h2,h3,h4⟩
def xal:Qw:=⟨4,Wq.ntz,Wq.bdz,2,[(1,3)],Wq.vw0,[]⟩
theorem QP.below {w w':World} {B:Nat} {u:EV} {x:Qw} {L:List (ZV×Zn)} {M:List (BV×Wq.Bd)} {S:List (SV×Sb)} (h:QP w B u x L M S) (hb:Below B w w'):QP w' B u x L M S:=⟨h.nt.below hb,h.bd.below hb,h.it.below hb,h.vw.below hb,h.sb.below hb,h.ns⟩
theorem QP.more {w:World} {B B':Nat} {u:EV} {x:Qw} {L:List (ZV×Zn)} {M:List (BV×Wq.Bd)} {S:List (SV×Sb)} (h:QP w B u x L M S) (hb:B<=B'):QP w B' u x L M S:=⟨h.nt.more hb,h.bd.more hb,h.it.more hb,h.vw.more hb,h.sb.more hb,h.ns⟩
def Oc (w:World) (B:Nat) (u:EV) (x:Qw):Prop:=∃L M S,QP w B u x L M S
theorem Oc.below {w w':World} {B:Nat} {u:EV} {x:Qw} (h:Oc w B u x) (hb:Below B w w'):Oc w' B u x:=by
 obtain⟨L,M,S,h⟩:=h;exact⟨L,M,S,h.below hb⟩
theorem Oc.more {w:World} {B B':Nat} {u:EV} {x:Qw} (h:Oc w B u x) (hb:B<=B'):Oc w B' u x:=by
 obtain⟨L,M,S,h⟩:=h;exact⟨L,M,S,h.more hb⟩
theorem Oc.go {w w':World} {u:EV} {x:Qw} (h:Oc w w.heap.size u x) (hb:Bz w w'):Oc w' w'.heap.size u x:=(h.below hb).more hb.size
def JhA (w:World) (e:Ending) (w':World):Prop:=∃B1 m1 d1 B2 m2 d2 B3 m3 d3 B4 m4 d4 A c,e=.returned (.tuple #[.agg #[.slice B1 m1 d1,.slice B2 m2 d2,.slice B3 m3 d3,.slice B4 m4 d4,.int .i64 0],.slice A 1 c,.int .i64 0])/\∃ys,Rd w' w'.heap.size 7 A 1 c (.int .i64 2 :: ys)/\Bz w w'
theorem JdN (S:List (SV×Sb)) (j:Nat) (hj:j < S.length):Yg S=Yg (S.take j)++(KI S[j]++Yg (S.drop (j+1))):=by
 have h:S=S.take j++(S[j] :: S.drop (j+1)):=by rw[<-Eh hj,EZ]
 have h2:=congrArg Yg h;rw[KX] at h2;rw[h2];rfl
theorem Jiw (S:List (SV×Sb)) (j:Nat) (hj:j < S.length) (A:OA) (c:Nat):Yg (S.set j (⟨A,c⟩,S[j].2))=(Yg S).set (j * 7+1) (.slice A S[j].2.int.length c):=by
 have hl:(Yg (S.take j)).length=j * 7:=by rw[Xe,Et,FK (NF hj)]
 rw[JdN S j hj,JdN (S.set j (⟨A,c⟩,S[j].2)) j (by rw[Gk];exact hj),Fk _ _ (by omega),hl,show j * 7+1 - j * 7=1 by omega];rw[List.take_set_of_le (Ek j),List.drop_set_of_lt (Nat.lt_succ_self j),List.getElem_set_self];rfl
theorem Jf3 {w:World} {base G n c:Nat} {S:List (SV×Sb)} (h:w.ownsRow base 65 7 (.slice (some ⟨G,0,none⟩) n c) n (Yg S)) {k:Nat} (hk:k < S.length) (j:Nat) (hj:j < 7) (u:Value) (hu:(KI S[k])[j]?=some u):w.cell? ⟨G,k * 7+j,none⟩=some u:=by
 have hl:=h.1;rw[Xe] at hl;obtain⟨b,o,e,_,hc⟩:=(Rd.of_own h).plain (by omega) (by decide);injection e with e;injection e with e1 e2;have h2:=hc (k * 7+j) u (by rw[Jcl S k hk j hj,hu]);rw[<-e1,<-e2,EU] at h2;exact h2
theorem Jim (A:OA) (n c:Nat) (S:List (SV×Sb)) (w:World) (hR:QM w w.heap.size A n c S) (hn:n<=1000000) (hi:∀p∈S,p.2.int.length<=1000000):
  Calls prog 67 #[.slice A n c] w fun e w'=>∃A' c',e=.returned (.slice A' n c')/\(∃S',JY w' w.heap.size A' n c' S'/\JK S'=JK S)/\Bz w w':=by
 have G1:=Ja (JfY A n c (Yg S) w hR.rd (ZU S) (by omega));have HR:=Ja hR;have HI:=Ja hi;clear hR hi;go_enter func67,ntmps67;go_wp2_with fail;refine G1.out.mono ?_;rintro e w1 ⟨A',c',rfl,ho,hb1⟩;have HO:=Ja ho;have HSL:=Ja (show S.length=n from HR.out.len);clear ho G1;go_wp2_with fail;go_loopw [4,9] (fun _ v9 wr=>∃(j:Nat) (S':List (SV×Sb)),v9=.int .i64 j/\j<=n/\Hid (wr.ownsRow w.heap.size 65 7 (.slice A' n c') n (Yg S'))/\Hid (JK S'=JK S)/\Hid (∀k (hk:k < S'.length),k < j->wr.ownsRow w.heap.size 63 2 (.slice S'[k].1.A S'[k].2.int.length S'[k].1.c) S'[k].2.int.length (sv S'[k].2.int))/\Hid (∀k,j<=k->S'[k]?=S[k]?)/\Bz w wr) (fun _ v9 _=>n - (intOf v9).toNat)
 case atStart=>exact⟨0,S,rfl,FB _,HO,Ja rfl,Ja (fun k _ h=>by omega),Ja (fun _ _=>rfl),hb1⟩
 case round=>
  clear HO hb1;obtain⟨j,S',rfl,hj,HO,HE,HEL,HSM,hb⟩:=hrel;by_cases hlt:j < n
  ·have hlen:S'.length=n:=by have:=congrArg List.length HE.out;rw[JX,JX,HSL.out] at this;exact this
   have hjs:j < S.length:=by rw[HSL.out];exact hlt
   have hj':j < S'.length:=by rw[hlen];exact hlt
   have hx:S'[j]=S[j]:=by
    have h:=HSM.out j Zl;rw[Em hj',Em hjs] at h;exact Fq h
   obtain⟨G,rfl⟩:∃G,A'=some ⟨G,0,none⟩:=by
    rcases YN HO.out with ⟨_,h,_⟩ | h
    ·omega
    ·exact h
   have g1:=Jf3 HO.out hj' 1 (by decide) _ rfl;have f1:=HO.out.frozenAt (j * 7+1);have hrd:=(HR.out.go hb).each _ (En hjs);have GC:=UX S[j].1.A S[j].2.int.length S[j].1.c (sv S[j].2.int) wr hrd (Ju _) (by have:=HI.out _ (En hjs);omega);have hset:=Jiw S' j hj';have hx2:S'[j]?=some S[j]:=by rw[Em hj',hx]
   rw[hx] at g1 hset;have HJ:=Ja hj';have HJS:=Ja hjs;have HLN:=Ja hlen;generalize S[j]=x at g1 GC hset hx2;have HXX:=Ja hx2;have HST:=Ja hset;clear hrd hset hx hx2 hlen;obtain⟨⟨xA,xc⟩,⟨f,i,s1,s2,l1,l2,l3⟩⟩:=x;dsimp only at g1 GC;obtain⟨m,hm⟩:∃m,m=i.length:=⟨_,rfl⟩;rw[<-hm] at g1 GC;have GC:=Ja GC;have HM:=Ja hm;clear hm;go_wp2_with fail;refine GC.out.mono ?_;rintro e w2 ⟨D,d,rfl,hd,hb2⟩;have HO:=Ja (Jf HO.out hb2 Zl);have g2:=(hb2.cell (p:=⟨G,j * 7+1,none⟩) (Ep _ _ g1)).trans g1;have f2:=HO.out.frozenAt (j * 7+1);have hd:=Jk hd hb.size;have hst:=HO.out.stored (j * 7+1) (.slice D m d);have hkb:=(Jg hb hb2).trans (Jb hst.2 (by have:=hb.size;have:=hb2.size;omega) (fun r hr=>(HO.out.lt r hr).1));have HD:=Ja (hd.kept hst.2 (Qb hd HO.out (by decide)));have HEL2:=Ja (fun k (hk:k < S'.length) (h:k < j)=>(Jf (HEL.out k hk h) hb2 Zl).kept hst.2 (Qb (Jf (HEL.out k hk h) hb2 Zl) HO.out (by decide)));have HST2:=Ja hst.1;have HKB:=Ja hkb;clear hd hst hkb hb2 g1 f1;go_wp2_with fail;go_roundw
   case rel=>
    have hst:=HST.out D d;rw[<-HM.out] at hst;refine⟨j+1,S'.set j (⟨D,d⟩,⟨f,i,s1,s2,l1,l2,l3⟩),by go_num,by omega,Ja (by rw[hst];exact HST2.out),Ja ?_,Ja (fun k hk h=>?_),Ja (fun k hk=>?_),HKB.out⟩
    ·rw[<-HE.out];unfold JK;rw[List.map_set];refine GX fun q=>?_;rw[List.getElem?_set];split
     ·rename_i e;subst e;rw[Nu,HXX.out,Gl,Ei hj'];rfl
     ·rfl
    ·rw[Gk] at hk;by_cases hkj:k=j
     ·subst hkj;rw[List.getElem_set_self];dsimp only;rw[<-HM.out];exact HD.out
     ·rw[List.getElem_set_ne (fun e=>hkj e.symm)];exact HEL2.out k hk (by omega)
    ·rw[List.getElem?_set_ne (by omega)];exact HSM.out k (by omega)
   case measure=>simp[intOf];omega
  ·obtain rfl:n=j:=by omega
   go_wp2;go_ret;refine⟨A',c',rfl,⟨S',⟨HO.out,fun p hp=>?_⟩,HE.out⟩,hb⟩;obtain⟨k,hk,rfl⟩:=Fv.1 hp;have hlen:S'.length=n:=by have:=congrArg List.length HE.out;rw[JX,JX,HSL.out] at this;exact this
   exact HEL.out k hk (by omega)
theorem JhH {v:Vw} (h:Ut v=true):Ql v Wq.ntz=0:=by
 unfold Ql;rw[h,show Yw Wq.ntz=true by decide +kernel,Ei (by decide),Ei (show Za Wq.ntz v.known=true from (UU _ _).2 fun n _=>Vc.Qv _ n)]
def nvz:NV:=⟨none,0,0,none,0,0,none,0,0,none,0,0⟩
theorem Jon (w:World) (B:Nat):Yf w B nvz Wq.ntz:=⟨rfl,Rd.none_,rfl,Rd.none_,rfl,Rd.none_,rfl,Rd.none_⟩
theorem Rd.offV {w w':World} {B size n c g:Nat} {A:OA} {xs:List Value} {t:TypeId} {a1 a2 a3 a4:OA} {m1 m2 m3 m4 d1 d2 d3 d4:Nat} {r:Int} (h:Rd w B size A n c xs) (hs:2<=size) (hx:0 < n->∃y,xs[0]?=some (.int .i64 y)) (hB:Jm w g t #[.slice a1 m1 d1,.slice a2 m2 d2,.slice a3 m3 d3,.slice a4 m4 d4,.int .i64 r]) (hb:JF g w w'):Rd w' B size A n c xs:=by
 refine⟨h.len,h.cap,h.max,h.nil,fun hn=>?_⟩;obtain⟨b,o,rfl,hlt,hc⟩:=h.plain hn (by omega);have hne:b≠g:=by
  rintro rfl;obtain⟨y,hy⟩:=hx hn;have h0:=hc 0 _ hy;have hl:=h.len;have h1l:1 < xs.length:=by
   have:1 * size<=n * size:=Ff _ hn;omega
  have h1:=hc 1 _ (Em h1l);rw[hB.cell] at h0 h1;rcases o with _ | _ | _ | _ | _ | o
  ·simp at h0
  ·simp at h0
  ·simp at h0
  ·simp at h0
  ·simp at h1
  ·simp at h0
 refine⟨_,rfl,hlt,fun j u hj=>?_⟩;have h2:=hc j u hj;have hblk:=hb.block b (Ep _ _ h2) hne;rw[FQ];unfold World.cell? at h2 ⊢;dsimp only at h2 ⊢;rw[hblk];exact h2
theorem Rd.offB {w w':World} {B n c g:Nat} {A:OA} {l:List UInt8} {t:TypeId} {a1 a2 a3 a4:OA} {m1 m2 m3 m4 d1 d2 d3 d4:Nat} {r:Int} (h:Rd w B 1 A n c (bv l)) (hB:Jm w g t #[.slice a1 m1 d1,.slice a2 m2 d2,.slice a3 m3 d3,.slice a4 m4 d4,.int .i64 r]) (hb:JF g w w'):Rd w' B 1 A n c (bv l):=by
 refine⟨h.len,h.cap,h.max,h.nil,fun hn=>?_⟩;obtain⟨b,o,rfl,hlt,hc⟩:=h.plain hn (by omega);have hne:b≠g:=by
  rintro rfl;have hl:=h.len;obtain⟨x,l',rfl⟩:∃x l',l=x :: l':=by
   cases l with
   | nil=>simp[bv] at hl;omega
   | cons x l'=>exact⟨x,l',rfl⟩
  have h0:=hc 0 _ rfl;rw[hB.cell] at h0;rcases o with _ | _ | _ | _ | _ | o
  ·simp at h0
  ·simp at h0
  ·simp at h0
  ·simp at h0
  ·simp at h0
  ·simp at h0
 refine⟨_,rfl,hlt,fun j u hj=>?_⟩;have h2:=hc j u hj;have hblk:=hb.block b (Ep _ _ h2) hne;rw[FQ];unfold World.cell? at h2 ⊢;dsimp only at h2 ⊢;rw[hblk];exact h2
section
variable {w w':World} {B n c g:Nat} {A:OA} {t:TypeId} {a1 a2 a3 a4:OA} {m1 m2 m3 m4 d1 d2 d3 d4:Nat} {r:Int}
theorem Zc.offV {L:List (ZV×Zn)} (h:Zc w B A n c L) (hB:Jm w g t #[.slice a1 m1 d1,.slice a2 m2 d2,.slice a3 m3 d3,.slice a4 m4 d4,.int .i64 r]) (hb:JF g w w'):Zc w' B A n c L:=
 ⟨h.len,h.rd.offV (by decide) (fun hn=>by
  have hl:=h.len
  match L,hl with
  | [],hl=>simp at hl;omega
  | p :: r,_=>exact⟨_,rfl⟩) hB hb,fun p hp=>⟨(h.each p hp).1,(h.each p hp).2.offV (by decide) (fun hn=>Jbl (by rw[(h.each p hp).1];exact hn)) hB hb⟩⟩
theorem QI.offV {L:List (BV×Wq.Bd)} (h:QI w B A n c L) (hB:Jm w g t #[.slice a1 m1 d1,.slice a2 m2 d2,.slice a3 m3 d3,.slice a4 m4 d4,.int .i64 r]) (hb:JF g w w'):QI w' B A n c L:=
 ⟨h.len,h.rd.offV (by decide) (fun hn=>by
  have hl:=h.len
  match L,hl with
  | [],hl=>simp at hl;omega
  | p :: r,_=>exact⟨_,rfl⟩) hB hb,fun p hp=>(h.each p hp).offB hB hb,h.wf⟩
theorem JU.offV {u:VV} {v:Vw} {L:List (ZV×Zn)} {M:List (BV×Wq.Bd)} (h:JU w B u v L M) (hB:Jm w g t #[.slice a1 m1 d1,.slice a2 m2 d2,.slice a3 m3 d3,.slice a4 m4 d4,.int .i64 r]) (hb:JF g w w'):JU w' B u v L M:=
 ⟨h.k.offV (by decide) (fun hn=>Jbl hn) hB hb,h.z.offV hB hb,h.nz,h.h.offV (by decide) (fun hn=>Jc5 hn) hB hb,h.b.offV hB hb,h.nb⟩
end
def OwV (w:World) (V:Vw) (e:Ending) (w':World):Prop:=∃u',e=.returned (.agg (Jy V u'))/\(∃L M,JU w' w'.heap.size u' V L M)/\Bz w w'
theorem JbC (u:VV) (v:Vw) (L:List (ZV×Zn)) (M:List (BV×Wq.Bd)) (w:World) (hT:UW w) (hV:JU w w.heap.size u v L M) (hbz:∀p∈M,p.2.v.length<=140737488355328) (hv:Ut v=true):
  Calls prog 70 #[.agg (Jy v u)] w (OwV w v):=by
 have hvv:Jy v u=#[.slice u.kA v.known.length u.kc,.slice u.zA v.zones.length u.zc,.slice u.hA v.held.length u.hc,.slice u.bA v.bods.length u.bc,.int .i64 v.room]:=rfl;have hzv:Jy Wq.vw0 UE=#[.slice none 0 0,.slice none 0 0,.slice none 0 0,.slice none 0 0,.int .i64 0]:=rfl;obtain⟨W0,hW0⟩:∃W,W=(w.alloc (.cells (Jy v u) 35)).alloc (.cells (Jy Wq.vw0 UE) 35):=⟨_,rfl⟩;have k0:Bz w W0:=by rw[hW0];exact(Zr.alloc Zl _).alloc (by simp) _
 have b0:Jm W0 w.heap.size 35 (Jy v u):=by rw[hW0];exact(Jm.new w _ _).alloc _
 have b1:Jm W0 (w.heap.size+1) 35 (Jy Wq.vw0 UE):=by
  rw[hW0];have h:=Jm.new (w.alloc (.cells (Jy v u) 35)) 35 (Jy Wq.vw0 UE);rw[El] at h;exact h
 have G1:=fun (W:World) (hb:Bz w W)=>Ja9 u v L M nvz Wq.ntz W (hT.below hb) (hV.go hb) (Jon W _) hbz;rw[JhH hv,Ei rfl,Jjs hv,hvv,show nvz.val=#[.slice none 0 0,.slice none 0 0,.slice none 0 0,.slice none 0 0] from rfl] at G1;rw[hvv] at b0 hW0 ⊢;rw[hzv] at b1 hW0;have G1:=Ja G1;have HW0:=Ja hW0.symm;have K0:=Ja k0;have HB1:=Ja (fun (W:World) (hb:Bz W0 W)=>b1.go hb);obtain⟨p0,p1,p2,p3,p4⟩:=b0.five;have hi:(prog.info? 35).map (·.size)=some 5:=by kernel_rfl
 have HI:=Ja hi;clear hT k0 b0 b1 hW0 hi hvv hzv hV hbz hv;go_enter func70,ntmps70;go_upto_region 1 with fail;rw[HW0.out];go_wp2_with fail;refine(G1.out _ K0.out).mono ?_;rintro e w1 ⟨⟨A1,c1,A2,c2,A3,c3,A4,c4⟩,rfl,hr,hb1⟩;have HR:=Ja hr;have kk:=Jg K0.out hb1;have hvv:Jy v ⟨A1,c1,A2,c2,A3,c3,A4,c4⟩=#[.slice A1 v.known.length c1,.slice A2 v.zones.length c2,.slice A3 v.held.length c3,.slice A4 v.bods.length c4,.int .i64 v.room]:=rfl;rw[hvv];have HVV:=Ja hvv;have hB:=(HB1.out _ hb1).alloc (.cells #[.slice A1 v.known.length c1,.slice A2 v.zones.length c2,.slice A3 v.held.length c3,.slice A4 v.bods.length c4,.int .i64 v.room] 35);clear p0 p1 p2 p3 p4 hb1 hr hvv;go_wp2_with (refine Je rfl 35 _ _ rfl (w.heap.size+1) 35 _ #[.slice A1 v.known.length c1,.slice A2 v.zones.length c2,.slice A3 v.held.length c3,.slice A4 v.bods.length c4,.int .i64 v.room] rfl rfl hB HI.out rfl (by simp[Value.oneCell']) ?_;intro Wd hblk hg);refine EF (Gc rfl _ _ (w.heap.size+1) 35 _ _ _ rfl hblk underlying35 rfl HI.out) rfl ?_;have ka:Bz w (w1.alloc (.cells #[.slice A1 v.known.length c1,.slice A2 v.zones.length c2,.slice A3 v.held.length c3,.slice A4 v.bods.length c4,.int .i64 v.room] 35)):=kk.alloc kk.size _;obtain⟨L',M',hr⟩:=HR.out;have hbut:JF (w.heap.size+1) _ Wd:=JF.grown hg;refine⟨⟨A1,c1,A2,c2,A3,c3,A4,c4⟩,by rw[HVV.out],⟨L',M',?_⟩,ka.trans (Jb hg ka.size (fun k hk=>by cases hk;omega))⟩;exact((hr.go (Zr.alloc Zl _)).offV hB hbut).more hbut.size
theorem JcF (p:SV×Sb) (o:Int) (w:World):Calls prog 72 #[.agg (KI p).toArray,.int .i64 o] w fun e w'=>e=.returned (.int .i64 (Xn p.2.from_ o))/\Bz w w':=by
 have H1:=Ja UJ;obtain⟨⟨A,c⟩,⟨f,i,s1,s2,l1,l2,l3⟩⟩:=p;show Calls _ _ #[.agg #[.int .i64 f,.slice A i.length c,.int .i64 s1,.int .i64 s2,.bool l1,.bool l2,.bool l3],.int .i64 o] w _;dsimp only;generalize hz:Xn f o=z;have HZ:=Ja hz;clear hz;go_enter func72,ntmps72;go_wp2_with (go_at_call 73;go_must (refine(H1.out _ _ _).mono ?_);rintro e w' ⟨rfl,rfl⟩);go_ret;exact⟨by rw[<-HZ.out];rfl,Zr.alloc Zl _⟩
def Jae (l:List Sb) (o:Int) (w:World) (e:Ending) (w':World):Prop:=∃(i:Nat) (b:Bool),e=.returned (.tuple #[.int .i64 i,.bool b])/\i<=l.length/\(b=true->∃h:i < l.length,l[i].from_=o)/\(b=false->∀h:i < l.length,l[i].from_≠o)/\((∀t (ht:t < l.length),t < i->l[t].from_ < o)/\(∀t (ht:t < l.length),i<=t->o<=l[t].from_))/\Bz w w'
theorem JdE (A:OA) (n c:Nat) (S:List (SV×Sb)) (l:List Sb) (o:Int) (w:World) (hl:l.length=n) (hS:JK S=l) (hR:QM w w.heap.size A n c S) (hr:l.Pairwise fun a b=>a.from_ < b.from_) (hn:n<=4398046511104):
  Calls prog 71 #[.slice A n c,.int .i64 o,.func (.func 72) #[] #[]] w (Jae l o w):=by
 have hmax:n<=9223372036854775807:=hR.max;have HL:=Ja hl;have HSN:=Ja hR.len;have HS:=Ja (fun (k:Nat) (h1:k < S.length) (h2:k < l.length)=>show S[k].2=l[k] from by subst hS;exact(KY S k h1).symm);have HR:=Ja hR;have HI:=Ja (fun (i j:Nat) (hij:i < j) (hj:j < l.length)=>show (l[i]'(Nat.lt_trans hij hj)).from_ < l[j].from_ from Gm.1 hr i j _ hj hij);clear hl hR hr hS;go_enter func71,ntmps71;go_wp2;go_loopw [9,10,11] (fun x y _ wr=>∃i j:Nat,i<=j/\j<=n/\x=.int .i64 i/\y=.int .i64 j/\Bz w wr/\Hid (∀t (ht:t < l.length),t < i->l[t].from_ < o)/\Hid (∀t (ht:t < l.length),j<=t->o<=l[t].from_)) (fun x y _ _=>(intOf y).toNat - (intOf x).toNat)
 case atStart=>exact⟨0,n,by omega,by omega,rfl,rfl,Ec _ _,(fun t ht h=>by omega),(fun t ht h=>by have:=HL.out;omega)⟩
 case round=>
  obtain⟨i,j,hij,hj,rfl,rfl,hb,h1,h2⟩:=hrel;by_cases hlt:i < j
  ·obtain⟨m,hm⟩:∃m:Nat,((i:Int)+(j:Int)) / 2=(m:Int):=⟨(i+j) / 2,by omega⟩;have hm1:i<=m:=by omega
   have hm2:m < j:=by omega
   have hml:m < l.length:=by rw[HL.out];omega
   have hms:m < S.length:=by rw[HSN.out];omega
   obtain⟨b,off,rfl,hbb,g0,g1,g2,g3,g4,g5,g6⟩:=(HR.out.below hb).sub hms;have HC:=JcF S[m] o wr;have HSF:=Ja (show S[m].2.from_=l[m].from_ by rw[HS.out m hms hml]);generalize S[m]=q at g0 g1 g2 g3 g4 g5 g6 HC HSF;obtain⟨⟨qA,qc⟩,⟨ob,qi,q1,q2,q3,q4,q5⟩⟩:=q;dsimp only at g0 g1 g2 g3 g4 g5 g6 HSF;have HC:Calls prog 72 #[.agg #[.int .i64 ob,.slice qA qi.length qc,.int .i64 q1,.int .i64 q2,.bool q3,.bool q4,.bool q5],.int .i64 o] wr fun e w'=>e=.returned (.int .i64 (Xn ob o))/\Bz wr w':=HC;generalize qi.length=qn at g1 HC;have HOB:=Ja HSF.out.symm;clear HSF;have HB:=Ja hb;have hin:(0:Int)<=(m:Int)/\(m:Int) < (n:Int):=by omega
   clear hb;by_cases hc:ob < o
   ·rw[show Xn ob o=-1 by unfold Xn;rw[Ei hc]] at HC;have HC:=Ja HC;go_wp2_with (go_at_call 72;go_must (refine Jd HC.out fun w' hb'=>?_));go_roundw
    case rel=>
     refine⟨m+1,j,by omega,hj,by go_num,rfl,Jg HB.out hb',fun t ht h=>?_,h2⟩;rcases FI t m with h3 | h3
     ·have:=HI.out t m h3 hml;have:=HOB.out;omega
     ·obtain rfl:t=m:=by omega
      rw[HOB.out];exact hc
    case measure=>simp[intOf];omega
   ·obtain⟨z,hz⟩:∃z,Xn ob o=z:=⟨_,rfl⟩;have hz0:0<=z:=by rw[<-hz];unfold Xn;rw[Ef hc];split<;>omega
    rw[hz] at HC;have HC:=Ja HC;clear hz;go_wp2_with (go_at_call 72;go_must (refine Jd HC.out fun w' hb'=>?_));go_roundw
    case rel=>
     refine⟨i,m,by omega,by omega,rfl,rfl,Jg HB.out hb',h1,fun t ht h=>?_⟩;rcases FI m t with h3 | h3
     ·have:=HI.out m t h3 ht;have:=HOB.out;omega
     ·obtain rfl:t=m:=by omega
      rw[HOB.out];omega
    case measure=>simp[intOf];omega
  ·obtain rfl:i=j:=by omega
   have HB:=Ja hb;by_cases hin:i < n
   ·have hil:i < l.length:=by rw[HL.out];exact hin
    have his:i < S.length:=by rw[HSN.out];exact hin
    obtain⟨b,off,rfl,hbb,g0,g1,g2,g3,g4,g5,g6⟩:=(HR.out.below hb).sub his;have HC:=JcF S[i] o wr;have HSF:=Ja (show S[i].2.from_=l[i].from_ by rw[HS.out i his hil]);generalize S[i]=q at g0 g1 g2 g3 g4 g5 g6 HC HSF;obtain⟨⟨qA,qc⟩,⟨ob,qi,q1,q2,q3,q4,q5⟩⟩:=q;dsimp only at g0 g1 g2 g3 g4 g5 g6 HSF;have HC:Calls prog 72 #[.agg #[.int .i64 ob,.slice qA qi.length qc,.int .i64 q1,.int .i64 q2,.bool q3,.bool q4,.bool q5],.int .i64 o] wr fun e w'=>e=.returned (.int .i64 (Xn ob o))/\Bz wr w':=HC;generalize qi.length=qn at g1 HC;have HOB:=Ja HSF.out.symm;clear HSF;have hge:o<=ob:=by have:=h2.out i hil Zl;have:=HOB.out;omega
    clear hb;by_cases he:ob=o
    ·have hF:Jae l o w (.returned (.tuple #[.int .i64 (i:Int),.bool true]))=fun w'=>Bz w w':=by
      funext w'
      refine propext ⟨fun ⟨_,_,_,_,_,_,_,h⟩=>h,fun h=>⟨i,true,rfl,by omega,fun _=>⟨hil,HOB.out.trans he⟩,(fun h=>by cases h),⟨h1.out,h2.out⟩,h⟩⟩
     have HF:=Ja hF;rw[show Xn ob o=0 by unfold Xn;rw[Ef (by omega),Ef (by omega)]] at HC;have HC:=Ja HC;clear he hF;go_wp2_with (go_at_call 72;go_must (refine Jd HC.out fun w' hb'=>?_));go_ret2;show Jae l o w (.returned (.tuple #[.int .i64 (i:Int),.bool true])) _;rw[HF.out];exact Jg HB.out hb'
    ·have hF:Jae l o w (.returned (.tuple #[.int .i64 (i:Int),.bool false]))=fun w'=>Bz w w':=by
      funext w'
      refine propext ⟨fun ⟨_,_,_,_,_,_,_,h⟩=>h,fun h=>⟨i,false,rfl,by omega,(fun h=>by cases h),(fun _ _=>by rw[HOB.out];exact he),⟨h1.out,h2.out⟩,h⟩⟩
     have HF:=Ja hF;rw[show Xn ob o=1 by unfold Xn;rw[Ef (by omega),Ei (by omega)]] at HC;have HC:=Ja HC;clear he hF;go_wp2_with (go_at_call 72;go_must (refine Jd HC.out fun w' hb'=>?_));go_ret2;show Jae l o w (.returned (.tuple #[.int .i64 (i:Int),.bool false])) _;rw[HF.out];exact Jg HB.out hb'
   ·have hF:Jae l o w (.returned (.tuple #[.int .i64 (i:Int),.bool false]))=fun w'=>Bz w w':=by
     funext w'
     refine propext ⟨fun ⟨_,_,_,_,_,_,_,h⟩=>h,fun h=>⟨i,false,rfl,by have:=HL.out;omega,(fun h=>by cases h),(fun _ h=>by have:=HL.out;omega),⟨h1.out,h2.out⟩,h⟩⟩
    have HF:=Ja hF;clear hF;go_wp2;go_ret2;show Jae l o w (.returned (.tuple #[.int .i64 (i:Int),.bool false])) _;rw[HF.out];exact HB.out
end
section
def zsb:SV×Sb:=(⟨none,0⟩,⟨0,[],0,0,false,false,false⟩)
theorem JlA (k:Nat):(Builtin.zeroCells #[.int .i64 0,.slice none 0 0,.int .i64 0,.int .i64 0,.bool false,.bool false,.bool false] k).toList=Yg (List.replicate k zsb):=by
 refine GX fun i=>?_;by_cases hi:i < k * 7
 ·have hq:i / 7 < (List.replicate k zsb).length:=by rw[Nq];omega
  have h:=Jcl (List.replicate k zsb) (i / 7) hq (i % 7) (Ri _ (by decide));rw[show i / 7 * 7+i % 7=i by omega] at h;rw[h,List.getElem_replicate];unfold Builtin.zeroCells;have hm:i % 7 < 7:=Ri _ (by decide);rw[Nr,Array.getElem?_map,Array.getElem?_range];simp only[show (#[Value.int .i64 0,.slice none 0 0,.int .i64 0,.int .i64 0,.bool false,.bool false,.bool false]:Array Value).size=7 from rfl];rw[Ei hi,Option.map_some];generalize i % 7=r at hm
  match r,hm with
  | 0,_=>rfl
  | 1,_=>rfl
  | 2,_=>rfl
  | 3,_=>rfl
  | 4,_=>rfl
  | 5,_=>rfl
  | 6,_=>rfl
 ·have h1:(Yg (List.replicate k zsb))[i]?=none:=Fy (by rw[Xe,Nq];omega);have h2:=Rg #[Value.int .i64 0,.slice none 0 0,.int .i64 0,.int .i64 0,.bool false,.bool false,.bool false] k;rw[h1];refine Fy ?_;rw[Array.length_toList,h2];show k * 7<=i;omega
theorem JbX {P:Program} (w:World) (t ty e:TypeId) (i:TypeInfo) (z:Value) (ht:P.underlying t=some (.slice e)) (hi:P.info? e=some i) (hz:i.zero=some z)
  (b ad:Addr) (m c:Nat) (news:List Value) (hl:news.length=m * i.size) (hnews:∀j v,news[j]?=some v->w.cell? (ad.add j)=some v) (hm:0 < m) (h63:m<=maxLen) (hbytes:m * i.bytes<=140737488355328):
  (Builtin.append_ #[t,t] ty #[.slice (some b) 0 0,.slice (some ad) m c]).run P w =
   .ok (.slice (some ⟨w.heap.size,0,none⟩) m (grownCap w m 0 e)) (w.drew.alloc (.cells (news.toArray++Builtin.zeroCells z.cells (grownCap w m 0 e - m)) e)):=by
 have h:=run_append_grow (P:=P) w t ty e i z ht hi hz b 0 0 [] (by simp) (by simp) ad m c news hl hnews (by omega) (by unfold maxLen at h63;omega) (NQ (by omega) (by rw[EU];exact hbytes));simpa using h
structure QF (w:World) (base:Nat) (A:OA) (n c:Nat) (F:List (SV×Sb)):Prop where
 row:w.ownsRow base 65 7 (.slice A c c) c (Yg F)
 le:n<=c
theorem QF.len {w:World} {base n c:Nat} {A:OA} {F:List (SV×Sb)} (h:QF w base A n c F):F.length=c:=by
 have:=h.row.1;rw[Xe] at this;omega
theorem Jcz (F:List (SV×Sb)) (n:Nat) (h:n<=F.length):Yg (F.take n)=(Yg F).take (n * 7):=by
 have e:Yg F=Yg (F.take n)++Yg (F.drop n):=by rw[<-KX,EZ]
 rw[e,NL (by rw[Xe,Et,FK h])]
theorem QF.own {w:World} {base n c:Nat} {A:OA} {F:List (SV×Sb)} (h:QF w base A n c F):w.ownsRow base 65 7 (.slice A n c) n (Yg (F.take n)):=by
 rw[Jcz F n (by rw[h.len];exact h.le)];rcases YN h.row with ⟨rfl,rfl,_,hx⟩ | ⟨G,rfl⟩
 ·obtain rfl:n=0:=by have:=h.le;omega
  rw[hx];exact ED _ _ _ _
 ·exact Jfs h.row h.le
theorem Jb1 {P:Program} (w:World) (t ty e:TypeId) (i:TypeInfo) (ht:P.underlying t=some (.slice e)) (hi:P.info? e=some i) (b ad:Addr) (c:Nat):
  (Builtin.append_ #[t,t] ty #[.slice (some b) 0 0,.slice (some ad) 0 c]).run P w=.ok (.slice (some b) 0 0) w:=by
 simp[Builtin.append_,FR ht,sizeOf,typeInfo,hi,Builtin.lenOf,Builtin.firstCells,loadCells,loadCellsFrom,storeCells]
theorem wpList_append_run {P:Program} {w w':World} {ops:Array Oper} {rest:List Oper} {o:Oper} {a:Act} {Q:Exit->Act->World->Prop} (hgd:o.guard=none) (s x:Operand) (t:TypeId)
  (ho:o.op=.call { callee:=.builtin .append,args:=#[s,x],argTypes:=#[t,t] }) (v1 v2 v:Value) (hs:a.eval s=v1) (hx:a.eval x=v2)
  (hr:(Builtin.append_ #[t,t] o.type #[v1,v2]).run P w=.ok v w') (h:wpList P ops Q rest (a.put o.dst v) w'):wpList P ops Q (o :: rest) a w:=
 Re hgd fun K hK=>by
  unfold Oper.wp execOp;simp only[ho,resolve,invoke,builtin,Sem.run_bind,Sem.run_pure,Result.andThen_ok,NX,Rp,Rf,hs,hx,hr];exact hK _ _ h
theorem Jfx (A:OA) (n c:Nat) (S:List (SV×Sb)) (w:World) (hR:Rd w w.heap.size 7 A n c (Yg S)) (hn:n<=2513169434916):
  Calls prog 137 #[.slice A n c] w fun e w'=>∃A' c',e=.returned (.slice A' n c')/\QF w' w.heap.size A' n c' (S++List.replicate (c' - n) zsb)/\Bz w w':=by
 have hmax:=hR.max;have hcap:=hR.cap;rcases A with _ | ad
 ·have hc0:=hR.nil rfl;obtain rfl:n=0:=by omega
  subst hc0;have hx:S=[]:=Ey (by have:=hR.len;rw[Xe] at this;omega);subst hx;have ht:=fun W=>Fh (P:=prog) W 36 65 none 0 0 0 0 underlying36;clear hR;go_enter func137,ntmps137;go_wp2;go_ret;exact⟨none,0,rfl,⟨ED _ _ _ _,Ek _⟩,Ec _ _⟩
 ·have ht:=fun W=>Fh (P:=prog) W 36 65 (some ad) n c 0 0 underlying36;obtain⟨i0,hi0,hz0,hz1,hz2⟩:=EN Yk;have hSn:S.length=n:=by have:=hR.len;rw[Xe] at this;omega
  rcases NN n with h0 | h0
  ·subst h0;have hx:S=[]:=Ey hSn;subst hx;clear hR;go_enter func137,ntmps137;go_wp2_with (at_builtin;go_must (refine wpList_append_run rfl (.tmp 5) (.tmp 6) _ rfl _ _ _ rfl rfl (Jb1 _ _ _ 65 i0 underlying36 hi0 ⟨w.heap.size,0,none⟩ ad c) ?_));go_ret;exact⟨some ⟨w.heap.size,0,none⟩,0,rfl,⟨QT w _ _,Ek _⟩,Zr.alloc Zl _⟩
  ·have hc:∀j u,(Yg S)[j]?=some u->(w.alloc (.cells #[] 65)).cell? (ad.add j)=some u:=by
    obtain⟨ad',h,_,hc⟩:=(hR.alloc Zl (.cells #[] 65)).at0 h0;injection h with h;subst h;exact hc
   have hrun:=fun ty=>JbX (w.alloc (.cells #[] 65)) 36 ty 65 i0 _ underlying36 hi0 hz0 ⟨w.heap.size,0,none⟩ ad n c (Yg S) (by rw[hz1];exact hR.len) hc h0 (by omega) (by rw[hz2];omega);have hcm:=Ng (w.alloc (.cells #[] 65)) n 0 65 (by omega);have hge:=Rl (w.alloc (.cells #[] 65)) n 0 65;generalize grownCap (w.alloc (.cells #[] 65)) n 0 65=c' at hrun hcm hge;obtain⟨W1,hW1⟩:∃W1,W1=(w.alloc (.cells #[] 65)).drew.alloc (.cells ((Yg S).toArray++Builtin.zeroCells #[.int .i64 0,.slice none 0 0,.int .i64 0,.int .i64 0,.bool false,.bool false,.bool false] (c' - n)) 65):=⟨_,rfl⟩;have hrun:∀ty,(Builtin.append_ #[36,36] ty #[.slice (some ⟨w.heap.size,0,none⟩) 0 0,.slice (some ad) n c]).run prog (w.alloc (.cells #[] 65))=.ok (.slice (some ⟨w.heap.size+1,0,none⟩) n c') W1:=fun ty=>by
    rw[hW1,hrun ty,El];rfl
   have hF:QF W1 w.heap.size (some ⟨w.heap.size+1,0,none⟩) n c' (S++List.replicate (c' - n) zsb):=by
    refine⟨⟨by rw[Xe,Eb,Nq];congr 1;omega,.inr ⟨w.heap.size+1,c',(Yg S).toArray++Builtin.zeroCells #[.int .i64 0,.slice none 0 0,.int .i64 0,.int .i64 0,.bool false,.bool false,.bool false] (c' - n),rfl,by omega,?_,Ek _,hcm,?_,?_⟩⟩,hge⟩
    ·rw[hW1];have h:=Nb (w.alloc (.cells #[] 65)).drew (.cells ((Yg S).toArray++Builtin.zeroCells #[.int .i64 0,.slice none 0 0,.int .i64 0,.int .i64 0,.bool false,.bool false,.bool false] (c' - n)) 65);rw[show (w.alloc (.cells #[] 65)).drew.heap.size=w.heap.size+1 from El ..] at h;exact h
    ·rw[Array.size_append,Rg];show (Yg S).length+(c' - n) * 7=c' * 7;rw[Xe,hSn,<-Gq];congr 1;omega
    ·rw[NI,JlA,KX];refine Eo ?_;rw[Eb,Xe];rw[Xe,hSn,Nq,<-Gq];exact Ff _ (by omega)
   have hB:Bz w W1:=by
    rw[hW1];exact((Zr.alloc Zl _).drew).alloc (by simp) _
   have HF:=Ja hF;have HB:=Ja hB;clear hR hc hW1 hF hB hSn hcm hge;go_enter func137,ntmps137;go_wp2_with (at_builtin;go_must (refine wpList_append_run rfl (.tmp 5) (.tmp 6) _ rfl _ _ _ rfl rfl (hrun _) ?_));go_ret;exact⟨_,c',rfl,HF.out,HB.out⟩
def OwF (w:World) (n:Nat) (T:List Sb) (e:Ending) (w':World):Prop:=∃A' c' F,e=.returned (.slice A' n c')/\QF w' w.heap.size A' n c' F/\(∀p∈F.take n,w'.ownsRow w.heap.size 63 2 (.slice p.1.A p.2.int.length p.1.c) p.2.int.length (sv p.2.int))/\JK F=T++List.replicate (c' - n) zsb.2/\Bz w w'
theorem JgW (A:OA) (n c:Nat) (S:List (SV×Sb)) (w:World) (hR:QM w w.heap.size A n c S) (hn:n<=1000000) (hi:∀p∈S,p.2.int.length<=1000000):
  Calls prog 67 #[.slice A n c] w (OwF w n (JK S)):=by
 have G1:=Ja (Jfx A n c S w hR.rd (by omega));have HR:=Ja hR;have HI:=Ja hi;clear hR hi;go_enter func67,ntmps67;go_wp2_with fail;refine G1.out.mono ?_;rintro e w1 ⟨A',c',rfl,ho,hb1⟩;have HSL:=Ja (show S.length=n from HR.out.len);obtain⟨F0,hF0⟩:∃F0,F0=S++List.replicate (c' - n) zsb:=⟨_,rfl⟩;rw[<-hF0] at ho;have HO:=Ja ho;have HFS:=Ja (fun k (hk:k < n)=>show F0[k]?=S[k]? from by rw[hF0,List.getElem?_append_left (by rw[HSL.out];exact hk)]);have HF0:=Ja (show JK F0=JK S++List.replicate (c' - n) zsb.2 from by rw[hF0,Uo];unfold JK;rw[List.map_replicate]);have HLE:=Ja ho.le;clear ho G1 hF0;go_wp2_with fail;go_loopw [4,9] (fun _ v9 wr=>∃(j:Nat) (S':List (SV×Sb)),v9=.int .i64 j/\j<=n/\Hid (QF wr w.heap.size A' n c' S')/\Hid (JK S'=JK F0)/\Hid (∀k (hk:k < S'.length),k < j->wr.ownsRow w.heap.size 63 2 (.slice S'[k].1.A S'[k].2.int.length S'[k].1.c) S'[k].2.int.length (sv S'[k].2.int))/\Hid (∀k,j<=k->S'[k]?=F0[k]?)/\Bz w wr) (fun _ v9 _=>n - (intOf v9).toNat)
 case atStart=>exact⟨0,F0,rfl,FB _,HO,Ja rfl,Ja (fun k _ h=>by omega),Ja (fun _ _=>rfl),hb1⟩
 case round=>
  clear HO hb1;obtain⟨j,S',rfl,hj,HOO,HE,HEL,HSM,hb⟩:=hrel;have HO:=Ja HOO.out.row;have hlen:S'.length=c':=HOO.out.len;have HLE2:=Ja HOO.out.le;clear HOO;by_cases hlt:j < n
  ·have hjs:j < S.length:=by rw[HSL.out];exact hlt
   have hj':j < S'.length:=by rw[hlen];have:=HLE2.out;omega
   have hx:S'[j]=S[j]:=by
    have h:=HSM.out j Zl;rw[HFS.out j hlt,Em hj',Em hjs] at h;exact Fq h
   obtain⟨G,rfl⟩:∃G,A'=some ⟨G,0,none⟩:=by
    rcases YN HO.out with ⟨_,h,_⟩ | h
    ·have:=HLE2.out;omega
    ·exact h
   have g1:=Jf3 HO.out hj' 1 (by decide) _ rfl;have f1:=HO.out.frozenAt (j * 7+1);have hrd:=(HR.out.go hb).each _ (En hjs);have GC:=UX S[j].1.A S[j].2.int.length S[j].1.c (sv S[j].2.int) wr hrd (Ju _) (by have:=HI.out _ (En hjs);omega);have hset:=Jiw S' j hj';have hx2:S'[j]?=some S[j]:=by rw[Em hj',hx]
   rw[hx] at g1 hset;have HJ:=Ja hj';have HJS:=Ja hjs;have HLN:=Ja hlen;generalize S[j]=x at g1 GC hset hx2;have HXX:=Ja hx2;have HST:=Ja hset;clear hrd hset hx hx2 hlen;obtain⟨⟨xA,xc⟩,⟨f,i,s1,s2,l1,l2,l3⟩⟩:=x;dsimp only at g1 GC;obtain⟨m,hm⟩:∃m,m=i.length:=⟨_,rfl⟩;rw[<-hm] at g1 GC;have GC:=Ja GC;have HM:=Ja hm;clear hm;go_wp2_with fail;refine GC.out.mono ?_;rintro e w2 ⟨D,d,rfl,hd,hb2⟩;have HO:=Ja (Jf HO.out hb2 Zl);have g2:=(hb2.cell (p:=⟨G,j * 7+1,none⟩) (Ep _ _ g1)).trans g1;have f2:=HO.out.frozenAt (j * 7+1);have hd:=Jk hd hb.size;have hst:=HO.out.stored (j * 7+1) (.slice D m d);have hkb:=(Jg hb hb2).trans (Jb hst.2 (by have:=hb.size;have:=hb2.size;omega) (fun r hr=>(HO.out.lt r hr).1));have HD:=Ja (hd.kept hst.2 (Qb hd HO.out (by decide)));have HEL2:=Ja (fun k (hk:k < S'.length) (h:k < j)=>(Jf (HEL.out k hk h) hb2 Zl).kept hst.2 (Qb (Jf (HEL.out k hk h) hb2 Zl) HO.out (by decide)));have HST2:=Ja hst.1;have HKB:=Ja hkb;clear hd hst hkb hb2 g1 f1;go_wp2_with fail;go_roundw
   case rel=>
    have hst:=HST.out D d;rw[<-HM.out] at hst;refine⟨j+1,S'.set j (⟨D,d⟩,⟨f,i,s1,s2,l1,l2,l3⟩),by go_num,by omega,Ja ⟨by rw[hst];exact HST2.out,HLE2.out⟩,Ja ?_,Ja (fun k hk h=>?_),Ja (fun k hk=>?_),HKB.out⟩
    ·rw[<-HE.out];unfold JK;rw[List.map_set];refine GX fun q=>?_;rw[List.getElem?_set];split
     ·rename_i e;subst e;rw[Nu,HXX.out,Gl,Ei hj'];rfl
     ·rfl
    ·rw[Gk] at hk;by_cases hkj:k=j
     ·subst hkj;rw[List.getElem_set_self];dsimp only;rw[<-HM.out];exact HD.out
     ·rw[List.getElem_set_ne (fun e=>hkj e.symm)];exact HEL2.out k hk (by omega)
    ·rw[List.getElem?_set_ne (by omega)];exact HSM.out k (by omega)
   case measure=>simp[intOf];omega
  ·obtain rfl:n=j:=by omega
   have HLN:=Ja hlen;clear hlen;go_wp2;go_ret;refine⟨A',c',S',rfl,⟨HO.out,HLE2.out⟩,fun p hp=>?_,HE.out.trans HF0.out,hb⟩;obtain⟨k,hk,rfl⟩:=Fv.1 hp;have hk2:k < n:=by rw[Et] at hk;omega
   rw[List.getElem_take];exact HEL.out k (by rw[HLN.out];have:=HLE2.out;omega) hk2
structure Jg2 (W:World) (G:Nat):Prop where
 two:∀o a b,W.cell? ⟨G,o,none⟩=some (.int .i64 a)->W.cell? ⟨G,o+1,none⟩=some (.int .i64 b)->a=0/\∃t,W.cell? ⟨G,o+2,none⟩=some (.bool t)
 no8:∀o a,W.cell? ⟨G,o,none⟩≠some (.int .u8 a)
theorem JjN {w:World} {base G c:Nat} {F:List (SV×Sb)} (h:w.ownsRow base 65 7 (.slice (some ⟨G,0,none⟩) c c) c (Yg F)) {o:Nat} {v:Value} (hv:w.cell? ⟨G,o,none⟩=some v):(Yg F)[o]?=some v:=by
 obtain⟨hlen,h | ⟨g,cap,cur,e,hb,hg,hnc,hcm,hcs,hx⟩⟩:=h
 ·exact absurd h.1 (by simp)
 ·injection e with e1 _ e3;injection e1 with e1;injection e1 with e1;subst e1 e3;rw[Eo (by rw[Array.length_toList,hcs];exact Ek _)] at hx;rw[Nx w G o cur _ _ hg] at hv;rw[<-hx,Nr];exact hv
theorem Jg2.of {w:World} {base G c:Nat} {F:List (SV×Sb)} (h:w.ownsRow base 65 7 (.slice (some ⟨G,0,none⟩) c c) c (Yg F)) (hz:∀p∈F,p.2.ses=0/\p.2.seq=0):Jg2 w G:=by
 have hl:F.length=c:=by have:=h.1;rw[Xe] at this;omega
 have cut:∀(o:Nat) (v:Value),w.cell? ⟨G,o,none⟩=some v->∃(hq:o / 7 < F.length),(KI F[o / 7])[o % 7]?=some v:=fun o v hv=>by
  have h1:=JjN h hv;have ho:o < (Yg F).length:=by
   rcases FI o (Yg F).length with h2 | h2
   ·exact h2
   ·rw[Fy h2] at h1;cases h1
  rw[Xe] at ho;have hq:o / 7 < F.length:=by omega
  refine⟨hq,?_⟩;rw[<-Jcl F (o / 7) hq (o % 7) (Ri _ (by decide)),show o / 7 * 7+o % 7=o by omega];exact h1
 refine⟨fun o a b ha hb=>?_,fun o a ha=>?_⟩
 ·obtain⟨hq,h1⟩:=cut o _ ha;have hzz:=hz _ (En hq);by_cases h6:o % 7=6
  ·rw[h6] at h1;simp[KI] at h1
  obtain⟨hq2,h2⟩:=cut (o+1) _ hb;rw[show (o+1) % 7=o % 7+1 by omega] at h2;simp only[show (o+1) / 7=o / 7 by omega] at h2;have hm:o % 7 < 6:=by omega
  by_cases h22:o % 7=2
  ·rw[h22] at h1;refine⟨by simp[KI] at h1;rw[<-h1];exact hzz.1,F[o / 7].2.live,?_⟩;have e:(⟨G,o+2,none⟩:Addr)=⟨G,o / 7 * 7+4,none⟩:=by congr 1;omega
   rw[e];obtain⟨b',o',e2,_,hc⟩:=(Rd.of_own h).plain (by omega) (by decide);injection e2 with e2;injection e2 with e3 e4;have h5:=hc (o / 7 * 7+4) (.bool F[o / 7].2.live) (by rw[Jcl F (o / 7) hq 4 (by decide)];rfl);rw[<-e3,<-e4,EU] at h5;exact h5
  ·exfalso;generalize o % 7=r at h1 h2 hm h22
   match r,hm with
   | 0,_=>simp[KI] at h2
   | 1,_=>simp[KI] at h1
   | 2,_=>exact h22 rfl
   | 3,_=>simp[KI] at h2
   | 4,_=>simp[KI] at h1
   | 5,_=>simp[KI] at h1
 ·obtain⟨hq,h1⟩:=cut o _ ha;have hm:o % 7 < 7:=Ri _ (by decide);generalize o % 7=r at h1 hm
  match r,hm with
  | 0,_=>simp[KI] at h1
  | 1,_=>simp[KI] at h1
  | 2,_=>simp[KI] at h1
  | 3,_=>simp[KI] at h1
  | 4,_=>simp[KI] at h1
  | 5,_=>simp[KI] at h1
  | 6,_=>simp[KI] at h1
theorem Rd.offBlk {w w':World} {B size n c g:Nat} {A:OA} {xs:List Value} (h:Rd w B size A n c xs) (hs:0 < size) (hne:0 < n->∀o,(∀j u,xs[j]?=some u->w.cell? ⟨g,o+j,none⟩=some u)->False) (hb:JF g w w'):Rd w' B size A n c xs:=by
 refine⟨h.len,h.cap,h.max,h.nil,fun hn=>?_⟩;obtain⟨b,o,rfl,hlt,hc⟩:=h.plain hn hs;have hbg:b≠g:=by rintro rfl;exact hne hn o hc
 refine⟨_,rfl,hlt,fun j u hj=>?_⟩;have h2:=hc j u hj;have hblk:=hb.block b (Ep _ _ h2) hbg;rw[FQ];unfold World.cell? at h2 ⊢;dsimp only at h2 ⊢;rw[hblk];exact h2
section
variable {w w':World} {B n c g:Nat} {A:OA}
theorem Rd.offS {l:List Vc.St} (h:Rd w B 2 A n c (sv l)) (hf:fm (-1) l=true) (hP:Jg2 w g) (hb:JF g w w'):Rd w' B 2 A n c (sv l):=
 h.offBlk (by decide) (fun hn o hc=>by
  have hl:=h.len
  match l,hl,hf,hc with
  | [],hl,_,_=>simp[sv] at hl;omega
  | s :: r,_,hf,hc=>
   have h1:=(hP.two o s.1 s.2 (hc 0 _ rfl) (hc 1 _ rfl)).1;unfold fm at hf;rw[Ea] at hf;have:=((Vc.JT s).1 hf.1).1;omega) hb
theorem Rd.offW {l:List Wr} (h:Rd w B 4 A n c (wv l)) (hP:Jg2 w g) (hb:JF g w w'):Rd w' B 4 A n c (wv l):=
 h.offBlk (by decide) (fun hn o hc=>by
  have hl:=h.len
  match l,hl,hc with
  | [],hl,_=>simp[wv] at hl;omega
  | s :: r,_,hc=>
   obtain⟨_,t,h1⟩:=hP.two o _ _ (hc 0 _ rfl) (hc 1 _ rfl);rw[hc 2 _ rfl] at h1;cases h1) hb
theorem Zc.offG {L:List (ZV×Zn)} (h:Zc w B A n c L) (hf:∀p∈L,fm (-1) p.2.2=true) (hP:Jg2 w g) (hb:JF g w w'):Zc w' B A n c L:=
 ⟨h.len,h.rd.offBlk (by decide) (fun hn o hc=>by
  have hl:=h.len
  match L,hl,hc with
  | [],hl,_=>simp at hl;omega
  | p :: r,_,hc=>
   obtain⟨_,t,h1⟩:=hP.two o _ _ (hc 0 _ rfl) (hc 1 _ rfl);rw[hc 2 _ rfl] at h1;cases h1) hb,fun p hp=>⟨(h.each p hp).1,(h.each p hp).2.offS (hf p hp) hP hb⟩⟩
theorem QI.offG {L:List (BV×Wq.Bd)} (h:QI w B A n c L) (hP:Jg2 w g) (hb:JF g w w'):QI w' B A n c L:=
 ⟨h.len,h.rd.offBlk (by decide) (fun hn o hc=>by
  have hl:=h.len
  match L,hl,hc with
  | [],hl,_=>simp at hl;omega
  | p :: r,_,hc=>
   obtain⟨_,t,h1⟩:=hP.two o _ _ (hc 0 _ rfl) (hc 1 _ rfl);rw[hc 2 _ rfl] at h1;cases h1) hb,fun p hp=>(h.each p hp).offBlk (by decide) (fun hn o hc=>by
  generalize p.2.v=l at hc hn
  match l,hn,hc with
  | [],hn,_=>simp at hn
  | x :: r,_,hc=>exact hP.no8 o _ (hc 0 _ rfl)) hb,h.wf⟩
theorem JU.offG {u:VV} {v:Vw} {L:List (ZV×Zn)} {M:List (BV×Wq.Bd)} (h:JU w B u v L M) (hv:Ut v=true) (hP:Jg2 w g) (hb:JF g w w'):JU w' B u v L M:=by
 obtain⟨f1,f2,_,_⟩:=Wq.QY hv;exact⟨h.k.offS (by first | exact f1 | exact f2) hP hb,h.z.offG (fun p hp=>JbJ (by first | exact f2 | exact f1) p.2 (by rw[<-h.nz];exact EL hp)) hP hb,h.nz,h.h.offW hP hb,h.b.offG hP hb,h.nb⟩
end
end
end Go.Proofs.YtmbeahbgafkjfaaGreatDoor
