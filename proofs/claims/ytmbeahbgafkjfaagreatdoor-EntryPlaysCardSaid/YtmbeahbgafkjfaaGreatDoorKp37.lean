/- Lemmas, layer 37. -/
import Derived.Test.YtmbeahbgafkjfaaGreatDoorKp31
set_option maxRecDepth 100000
set_option linter.unusedSimpArgs false
set_option maxHeartbeats 16000000
namespace Go.Proofs.YtmbeahbgafkjfaaGreatDoor
open Go.Proofs.Tryz Go.RowKit
theorem Jic {L M:List (BV×Wq.Bd)} (h:∀p∈L,(Lit.int .i64 p.2.o).wf=true) (e:JG M=JG L):∀p∈M,(Lit.int .i64 p.2.o).wf=true:=fun p hp=>by
 have h1:p.2∈JG L:=e ▸ EL hp;obtain⟨q,hq,e⟩:=Gp.1 h1;rw[<-e];exact h q hq
theorem Ov (x:Wq.Bd) (A:OA) (c:Nat) (w:World) (hR:Rd w w.heap.size 1 A x.v.length c (bv x.v)) (hz:x.v.length<=140737488355328):
  Calls prog 136 #[.agg (JO x A c)] w fun e w'=>∃A' c',e=.returned (.agg (JO x A' c'))/\w'.ownsRow w.heap.size 5 1 (.slice A' x.v.length c') x.v.length (bv x.v)/\Bz w w':=by
 obtain⟨o_,⟨a_,b_⟩,xv⟩:=x;dsimp only at hR hz;unfold JO;dsimp only;have hi:(prog.info? 31).map (·.size)=some 4:=by kernel_rfl
 have HI:=Ja hi;have h1:Bz w (w.alloc (.cells #[.int .i64 o_,.int .i64 a_,.int .i64 b_,.slice A xv.length c] 31)):=Zr.alloc Zl _;have h2:Bz w ((w.alloc (.cells #[.int .i64 o_,.int .i64 a_,.int .i64 b_,.slice A xv.length c] 31)).alloc (.cells #[.int .i64 0,.int .i64 0,.int .i64 0,.slice none 0 0] 31)):=h1.alloc (by simp) _;have b1:=(Jm.new w 31 #[.int .i64 o_,.int .i64 a_,.int .i64 b_,.slice A xv.length c]).alloc (.cells #[.int .i64 0,.int .i64 0,.int .i64 0,.slice none 0 0] 31);have b2:=Jm.new (w.alloc (.cells #[.int .i64 o_,.int .i64 a_,.int .i64 b_,.slice A xv.length c] 31)) 31 #[.int .i64 0,.int .i64 0,.int .i64 0,.slice none 0 0];rw[El] at b2;obtain⟨P,hP⟩:∃P,P=w.heap.size:=⟨_,rfl⟩;have G:=fun (W:World) (hb:Bz w W)=>JkN A xv.length c (bv xv) W (hR.go hb) (Un _) hz;generalize hW0:(w.alloc (.cells #[.int .i64 o_,.int .i64 a_,.int .i64 b_,.slice A xv.length c] 31)).alloc (.cells #[.int .i64 0,.int .i64 0,.int .i64 0,.slice none 0 0] 31)=W0 at h2 b1 b2;obtain⟨m,hm⟩:∃m,m=xv.length:=⟨_,rfl⟩;rw[<-hm] at G b1 hW0 ⊢;rw[<-hP] at b1 b2;have hsz:W0.heap.size=P+1+1:=by rw[<-hW0,hP];simp
 have HW0:=Ja hW0;have HP:=Ja hP;have HSZ:=Ja hsz;have G:=Ja G;have HB1:=Ja (fun (W:World) (hb:Bz W0 W)=>(show W.cell? ⟨P,0,none⟩=some (.int .i64 o_)/\W.cell? ⟨P,1,none⟩=some (.int .i64 a_)/\W.cell? ⟨P,2,none⟩=some (.int .i64 b_)/\W.cell? ⟨P,3,none⟩=some (.slice A m c) from (show Jm W P 31 #[.int .i64 o_,.int .i64 a_,.int .i64 b_,.slice A m c] from b1.go hb).quad));have HBB:=Ja (fun (W:World) (hb:Bz W0 W)=>(show Jm W P 31 #[.int .i64 o_,.int .i64 a_,.int .i64 b_,.slice A m c] from b1.go hb));have HB2:=Ja (fun (W:World) (hb:Bz W0 W)=>b2.go hb);have kw:Bz W0 W0.drew:=Zr.drew;have kk:Bz w W0.drew:=h2.drew;clear h1 h2 b1 b2 hW0 hR hm hz hi hsz;go_enter func136,ntmps136;go_upto_region 1 with fail;rw[HW0.out,<-HP.out];clear hP;refine Jl fun KK hKK=>?_;refine Eg (S:=(fun W=>W.cell? ⟨P,0,none⟩=some (.int .i64 o_)/\W.cell? ⟨P,1,none⟩=some (.int .i64 a_)/\W.cell? ⟨P,2,none⟩=some (.int .i64 b_)/\W.cell? ⟨P,3,none⟩=some (.slice A m c))) (by kernel_rfl) (by first | exact HB1.out _ kw) (fun hHeld=>?_);refine Jc 0 3 1 4 (HB1.out _ kw) ?_;refine Jc 2 5 3 6 (HB1.out _ kw) ?_;refine Jc 4 7 5 8 (HB1.out _ kw) ?_;refine Qa 6 fun K hK=>?_;go_simp;refine(G.out _ kk).mono ?_;rintro e w1 ⟨D,d,rfl,ho,hb⟩;have HO:=Ja (Jk ho (show W0.heap.size<=_ from kw.size));have kw:=Jg kw hb;have kk:=Jg kk hb;clear ho hb;refine hK.out _ _ (HB1.out _ kw) fun hHeld=>?_;clear hK K;refine Qx 7 10 (HB1.out _ kw) ?_;have hZ:=HB2.out _ kw;refine Qa 8 fun K hK=>?_;refine Qe 31 _ _ rfl (P+1) 31 _ #[.int .i64 o_,.int .i64 a_,.int .i64 b_,.slice D m d] rfl rfl hZ HI.out rfl (by simp[Value.oneCell']) ?_;intro W6 hblk hg;have HBL:=Ja hblk;have hbut:JF (P+1) _ W6:=JF.grown hg;have HO:=Ja (Qf HO.out hbut (by rw[HSZ.out];omega));have hs4:=(show W6.cell? ⟨P,0,none⟩=some (.int .i64 o_)/\W6.cell? ⟨P,1,none⟩=some (.int .i64 a_)/\W6.cell? ⟨P,2,none⟩=some (.int .i64 b_)/\W6.cell? ⟨P,3,none⟩=some (.slice A m c) from (show Jm W6 P 31 #[.int .i64 o_,.int .i64 a_,.int .i64 b_,.slice A m c] from (HBB.out _ kw).but hbut (by omega)).quad);have kk:=kk.trans (Jb hg kk.size (fun k hk=>by cases hk;rw[HP.out];omega));clear hblk hg hbut kw;refine hK.out _ _ hs4 fun hHeld=>?_;clear hK K;refine Es (by kernel_rfl) ?_ _;refine QQ.out (hKK _ _ ?_);go_wp2;refine EF (Gc rfl _ _ (P+1) 31 _ _ _ rfl HBL.out underlying31 rfl HI.out) rfl ⟨D,d,rfl,Jk HO.out (by rw[HSZ.out,HP.out];omega),kk⟩
theorem Jch (A:OA) (n c:Nat) (L:List (BV×Wq.Bd)) (w:World) (hR:QI w w.heap.size A n c L) (hn:n<=2932031007317) (hz:∀p∈L,p.2.v.length<=140737488355328):
  Calls prog 65 #[.slice A n c] w fun e w'=>∃A' k c' M,e=.returned (.slice A' k c')/\k<=n/\JZ w' w.heap.size A' k c' M/\JG M=JG L/\Bz w w':=by
 obtain⟨i0,hi0,hz0,hz1,hz2⟩:=EN Ye;have h1max:1<=maxLen:=by unfold maxLen;omega
 have hmax:=hR.max;have HL:=Ja hR.len;have HR:=Ja hR;have HZ:=Ja hz;clear hR hz;go_enter func65,ntmps65;go_wp2;go_loopw [3,4] (fun v3 v4 wr=>∃(j k c':Nat) (A':OA),v4=.int .i64 j/\v3=.slice A' k c'/\j<=n/\k<=j/\Bz w wr/\Hid (∃M,JZ wr w.heap.size A' k c' M/\JG M=(JG L).take j)) (fun _ v4 _=>n - (intOf v4).toNat)
 case atStart=>exact⟨0,0,0,none,rfl,rfl,by omega,by omega,Ec _ _,Ja ⟨[],JZ.nil _ _,rfl⟩⟩
 case round=>
  obtain⟨j,k,c',A',rfl,rfl,hj,hkj,hb,hq⟩:=hrel;obtain⟨M,hM,hMz⟩:=hq.out;have HO:=Ja hM;have HMZ:=Ja hMz;clear hq hM hMz;by_cases hlt:j < n
  ·have hjl:j < L.length:=by rw[HL.out];exact hlt
   have hjb:j < (JG L).length:=by rw[Jt];exact hjl
   obtain⟨b,oo,rfl,hab,g0,g1,g2,g3⟩:=(HR.out.below hb).body hjl;have hre:=HR.out.each _ (En hjl);have hze:=HZ.out _ (En hjl);have hnx:=Eq hjb;rw[Xr L j hjl] at hnx;generalize L[j]=q at g0 g1 g2 g3 hre hze hnx;obtain⟨⟨Av,cv⟩,⟨o_,⟨a_,b_⟩,xv⟩⟩:=q;dsimp only at g0 g1 g2 g3 hre hze hnx;have G:=fun (V:World) (hv:Bz w V)=>Ov ⟨o_,(a_,b_),xv⟩ Av cv V (hre.go hv) hze;unfold JO at G;dsimp only at G;have HN0:=Ja hnx;obtain⟨m,hm⟩:∃m,m=xv.length:=⟨_,rfl⟩;rw[<-hm] at G g3;have HM:=Ja hm;have G:=Ja G;have h63:k+1<=maxLen:=by unfold maxLen;omega
   clear hre hze hnx hjl hjb hm;have HNX:=HN0;go_wp2_with fail;refine(G.out _ hb).mono ?_;rintro e w1 ⟨D,d,rfl,ho,hb1⟩;have kk:=Jg hb hb1;have ka:=Ji kk (.cells #[.int .i64 o_,.int .i64 a_,.int .i64 b_,.slice D m d] 31);have CV:=Ja (Jf (Jk ho (show w.heap.size<=_ from hb.size)) ka Zl);have CZ:=Ja ((HO.out.below hb1).below ka);have HRN:=Ja (Rd.new w1 31 4 1 #[.int .i64 o_,.int .i64 a_,.int .i64 b_,.slice D m d] rfl h1max);have kk:=Jg kk ka;have hsz:=kk.size;clear ho hb1 ka;go_wp2_with (at_builtin;go_must (refine Jh _ rfl (.tmp 11) (.tmp 17) _ rfl w.heap.size 31 i0 _ 4 48 underlying33 hi0 hz0 hz1 hz2 rfl (by decide) (.slice A' k c') k _ rfl CZ.out.row _ (some ⟨_,0,none⟩) 1 1 _ rfl HRN.out (UO (⟨D,d⟩,⟨o_,(a_,b_),xv⟩) |> fun h=>by rw[HM.out];exact h) h63 (by omega) (by omega) ?_);intro A3 c3 W3 ho3 hg3 hat3);have CP:=Ja (JZ.push (p:=(⟨D,d⟩,⟨o_,(a_,b_),xv⟩)) CZ.out (by rw[<-HM.out];exact CV.out) hg3 (by rw[HM.out] at ho3;exact ho3));have kz:=Ja (kk.trans (Jb hg3 kk.size (fun g hg'=>JM CZ.out.row g hg')));clear hg3 ho3 hat3 kk;go_wp2_with fail;go_roundw
   case rel=>exact⟨j+1,k+1,c3,A3,by go_num,rfl,by omega,by omega,kz.out,Ja ⟨M++[(⟨D,d⟩,⟨o_,(a_,b_),xv⟩)],CP.out,by rw[Kb,HMZ.out,HNX.out];rfl⟩⟩
   case measure=>simp[intOf];omega
  ·obtain rfl:j=n:=by omega
   have HN:=Ja (show (JG L).take j=JG L from Eo (by rw[Jt,HL.out];exact Ek _));go_wp2;go_ret;exact⟨A',k,c',M,rfl,by omega,HO.out,by rw[HMZ.out,HN.out],hb⟩
theorem Jdt (A:OA) (n c:Nat) (o:Int) (L:List (BV×Wq.Bd)) (w:World) (hR:QI w w.heap.size A n c L) (hn:n<=2932031007317) (hz:∀p∈L,p.2.v.length<=140737488355328):
  Calls prog 202 #[.slice A n c,.int .i64 o] w fun e w'=>∃A' k c' M,e=.returned (.slice A' k c')/\k<=n/\JZ w' w.heap.size A' k c' M/\JG M=((JG L).filter fun y=>!decide (y.o=o))/\Bz w w':=by
 obtain⟨i0,hi0,hz0,hz1,hz2⟩:=EN Ye;have h1max:1<=maxLen:=by unfold maxLen;omega
 have hmax:=hR.max;have HL:=Ja hR.len;have HR:=Ja hR;have HZ:=Ja hz;clear hR hz;go_enter func202,ntmps202;go_wp2;go_loopw [5,6] (fun v3 v4 wr=>∃(j k c':Nat) (A':OA),v4=.int .i64 j/\v3=.slice A' k c'/\j<=n/\k<=j/\Bz w wr/\Hid (∃M,JZ wr w.heap.size A' k c' M/\JG M=(((JG L).take j).filter fun y=>!decide (y.o=o)))) (fun _ v4 _=>n - (intOf v4).toNat)
 case atStart=>exact⟨0,0,0,none,rfl,rfl,by omega,by omega,Ec _ _,Ja ⟨[],JZ.nil _ _,rfl⟩⟩
 case round=>
  obtain⟨j,k,c',A',rfl,rfl,hj,hkj,hb,hq⟩:=hrel;obtain⟨M,hM,hMz⟩:=hq.out;have HO:=Ja hM;have HMZ:=Ja hMz;clear hq hM hMz;by_cases hlt:j < n
  ·have hjl:j < L.length:=by rw[HL.out];exact hlt
   have hjb:j < (JG L).length:=by rw[Jt];exact hjl
   obtain⟨b,oo,rfl,hab,g0,g1,g2,g3⟩:=(HR.out.below hb).body hjl;have hre:=HR.out.each _ (En hjl);have hze:=HZ.out _ (En hjl);have hnx:=Eq hjb;rw[Xr L j hjl] at hnx;generalize L[j]=q at g0 g1 g2 g3 hre hze hnx;obtain⟨⟨Av,cv⟩,⟨o_,⟨a_,b_⟩,xv⟩⟩:=q;dsimp only at g0 g1 g2 g3 hre hze hnx;have G:=fun (V:World) (hv:Bz w V)=>Ov ⟨o_,(a_,b_),xv⟩ Av cv V (hre.go hv) hze;unfold JO at G;dsimp only at G;have HN0:=Ja hnx;obtain⟨m,hm⟩:∃m,m=xv.length:=⟨_,rfl⟩;rw[<-hm] at G g3;have HM:=Ja hm;have G:=Ja G;have h63:k+1<=maxLen:=by unfold maxLen;omega
   clear hre hze hnx hjl hjb hm;by_cases hq:o_=o
   ·have HNX:=Ja (show ((JG L).take (j+1)).filter (fun y=>!decide (y.o=o))=((JG L).take j).filter (fun y=>!decide (y.o=o)) by rw[HN0.out,FD];simp[hq]);subst hq;go_wp2_with fail;go_roundw
    case rel=>exact⟨j+1,k,c',A',by go_num,rfl,by omega,by omega,hb,Ja ⟨M,HO.out,by rw[HNX.out,HMZ.out]⟩⟩
    case measure=>simp[intOf];omega
   ·have HNX:=Ja (show ((JG L).take (j+1)).filter (fun y=>!decide (y.o=o))=((JG L).take j).filter (fun y=>!decide (y.o=o))++[⟨o_,(a_,b_),xv⟩] by rw[HN0.out,FD];simp[hq]);have hqb:(o_ != o)=true:=by simpa using hq
    go_wp2_with fail;refine(G.out _ hb).mono ?_;rintro e w1 ⟨D,d,rfl,ho,hb1⟩;have kk:=Jg hb hb1;have ka:=Ji kk (.cells #[.int .i64 o_,.int .i64 a_,.int .i64 b_,.slice D m d] 31);have CV:=Ja (Jf (Jk ho (show w.heap.size<=_ from hb.size)) ka Zl);have CZ:=Ja ((HO.out.below hb1).below ka);have HRN:=Ja (Rd.new w1 31 4 1 #[.int .i64 o_,.int .i64 a_,.int .i64 b_,.slice D m d] rfl h1max);have kk:=Jg kk ka;have hsz:=kk.size;clear ho hb1 ka;go_wp2_with (at_builtin;go_must (refine Jh _ rfl (.tmp 20) (.tmp 26) _ rfl w.heap.size 31 i0 _ 4 48 underlying33 hi0 hz0 hz1 hz2 rfl (by decide) (.slice A' k c') k _ rfl CZ.out.row _ (some ⟨_,0,none⟩) 1 1 _ rfl HRN.out (UO (⟨D,d⟩,⟨o_,(a_,b_),xv⟩) |> fun h=>by rw[HM.out];exact h) h63 (by omega) (by omega) ?_);intro A3 c3 W3 ho3 hg3 hat3);have CP:=Ja (JZ.push (p:=(⟨D,d⟩,⟨o_,(a_,b_),xv⟩)) CZ.out (by rw[<-HM.out];exact CV.out) hg3 (by rw[HM.out] at ho3;exact ho3));have kz:=Ja (kk.trans (Jb hg3 kk.size (fun g hg'=>JM CZ.out.row g hg')));clear hg3 ho3 hat3 kk;go_wp2_with fail;go_roundw
    case rel=>exact⟨j+1,k+1,c3,A3,by go_num,rfl,by omega,by omega,kz.out,Ja ⟨M++[(⟨D,d⟩,⟨o_,(a_,b_),xv⟩)],CP.out,by rw[Kb,HMZ.out,HNX.out];rfl⟩⟩
    case measure=>simp[intOf];omega
  ·obtain rfl:j=n:=by omega
   have HN:=Ja (show (JG L).take j=JG L from Eo (by rw[Jt,HL.out];exact Ek _));go_wp2;go_ret;exact⟨A',k,c',M,rfl,by omega,HO.out,by rw[HMZ.out,HN.out],hb⟩
structure Joq (v:Vw) (L:List (ZV×Zn)) (M:List (BV×Wq.Bd)):Prop where
 k:v.known.length<=8796093022208
 z:Jov v.zones.length L
 h:v.held.length<=4398046511104
 b:v.bods.length<=2932031007317
 y:∀p∈M,p.2.v.length<=140737488355328
theorem YK (u:VV) (v:Vw) (L:List (ZV×Zn)) (M:List (BV×Wq.Bd)) (w:World) (hV:JU w w.heap.size u v L M) (hs:Joq v L M):
  Calls prog 18 #[.agg (Jy v u)] w fun e w'=>∃u',e=.returned (.agg (Jy v u'))/\(∃L' M',JU w' w'.heap.size u' v L' M')/\Bz w w':=by
 have hi:(prog.info? 35).map (·.size)=some 5:=by kernel_rfl
 have HI:=Ja hi;obtain⟨i0,hi0,hz0,hz1,hz2⟩:=EN XC;obtain⟨kA,kc,zA,zc,hA,hc,vA,vc⟩:=u;obtain⟨known,zones,held,bods,room⟩:=v;obtain⟨s1,s2,s3,s4,s5⟩:=hs;unfold Jy;dsimp only at s1 s2 s3 s4 ⊢;obtain⟨nk,hnk⟩:∃m,m=known.length:=⟨_,rfl⟩;obtain⟨nz,hnz⟩:∃m,m=zones.length:=⟨_,rfl⟩;obtain⟨nh,hnh⟩:∃m,m=held.length:=⟨_,rfl⟩;obtain⟨nb,hnb⟩:∃m,m=bods.length:=⟨_,rfl⟩;have hb1:Bz w (w.alloc (.cells #[.slice kA nk kc,.slice zA nz zc,.slice hA nh hc,.slice vA nb vc,.int .i64 room] 35)):=Zr.alloc Zl _;have hb0:Bz w ((w.alloc (.cells #[.slice kA nk kc,.slice zA nz zc,.slice hA nh hc,.slice vA nb vc,.int .i64 room] 35)).alloc (.cells #[.slice none 0 0,.slice none 0 0,.slice none 0 0,.slice none 0 0,.int .i64 0] 35)):=hb1.alloc hb1.size _;have hB1:=(Jm.new w 35 #[.slice kA nk kc,.slice zA nz zc,.slice hA nh hc,.slice vA nb vc,.int .i64 room]).alloc (.cells #[.slice none 0 0,.slice none 0 0,.slice none 0 0,.slice none 0 0,.int .i64 0] 35);have hB2:=Jm.new (w.alloc (.cells #[.slice kA nk kc,.slice zA nz zc,.slice hA nh hc,.slice vA nb vc,.int .i64 room] 35)) 35 #[.slice none 0 0,.slice none 0 0,.slice none 0 0,.slice none 0 0,.int .i64 0];rw[El] at hB2;obtain⟨w0,hw0⟩:∃w0,w0=(w.alloc (.cells #[.slice kA nk kc,.slice zA nz zc,.slice hA nh hc,.slice vA nb vc,.int .i64 room] 35)).alloc (.cells #[.slice none 0 0,.slice none 0 0,.slice none 0 0,.slice none 0 0,.int .i64 0] 35):=⟨_,rfl⟩;rw[<-hw0] at hb0 hB1 hB2;obtain⟨m1,m2,e2,m3,m4,e4⟩:=hV.go hb0;dsimp only at m1 m2 e2 m3 m4 e4;rw[<-hnk] at m1 s1;rw[<-hnz] at m2 s2;rw[<-hnh] at m3 s3;rw[<-hnb] at m4 s4;rw[<-hnk,<-hnz,<-hnh,<-hnb];have h63:0+nh<=maxLen:=by have h1:=m3.cap;have h2:=m3.max;omega
 have hsz:w.heap.size+1 < w0.heap.size:=hB2.lt;have HS:=Ja fun W (hb:Bz w0 W)=>(show (W.cell? ⟨w.heap.size,0,none⟩=some (.slice kA nk kc)/\W.cell? ⟨w.heap.size,1,none⟩=some (.slice zA nz zc)/\W.cell? ⟨w.heap.size,2,none⟩=some (.slice hA nh hc)/\W.cell? ⟨w.heap.size,3,none⟩=some (.slice vA nb vc)/\W.cell? ⟨w.heap.size,4,none⟩=some (.int .i64 room)) from
  ⟨(hB1.go hb).cell 0,(hB1.go hb).cell 1,(hB1.go hb).cell 2,(hB1.go hb).cell 3,(hB1.go hb).cell 4⟩)
 have HS9:=Ja fun W (hb:Bz w0 W) W' (hg:W.grownBy W' (some (w.heap.size+1)))=>(show (W'.cell? ⟨w.heap.size,0,none⟩=some (.slice kA nk kc)/\W'.cell? ⟨w.heap.size,1,none⟩=some (.slice zA nz zc)/\W'.cell? ⟨w.heap.size,2,none⟩=some (.slice hA nh hc)/\W'.cell? ⟨w.heap.size,3,none⟩=some (.slice vA nb vc)/\W'.cell? ⟨w.heap.size,4,none⟩=some (.int .i64 room)) from
  ⟨((hB1.go hb).grown hg (by simp)).cell 0,((hB1.go hb).grown hg (by simp)).cell 1,((hB1.go hb).grown hg (by simp)).cell 2,((hB1.go hb).grown hg (by simp)).cell 3,((hB1.go hb).grown hg (by simp)).cell 4⟩)
 have HB2:=Ja fun W (hb:Bz w0 W)=>hB2.go hb;have H1:=Ja fun (W:World) (hb:Bz w0 W)=>Qn kA nk kc (sv known) W (m1.go hb) (Ju _) s1;have H2:=Ja fun (W:World) (hb:Bz w0 W)=>JbB zA nz zc L W (m2.go hb) s2;have H3:=Ja fun (W:World) (hb:Bz w0 W)=>m3.go hb;have H5:=Ja fun (W:World) (hb:Bz w0 W)=>(Jch vA nb vc M W (m4.go hb) s4 s5).mono fun e W' h=>(show ∃A' c' M',e=.returned (.slice A' nb c')/\JZ W' W.heap.size A' nb c' M'/\JG M'=JG M/\Bz W W' from by
  obtain⟨A',k,c',M',rfl,_,h2,h3,h4⟩:=h;obtain rfl:k=nb:=by rw[<-h2.len,<-Jt M',h3,Jt,m4.len]
  exact⟨A',c',M',rfl,h2,h3,h4⟩)
 have HWF:=Ja m4.wf;have E2:=Ja e2;have E4:=Ja e4;have L1:=Ja hnk;have L2:=Ja hnz;have L3:=Ja hnh;have L4:=Ja hnb;have HW:=Ja hw0.symm;have HB0:=Ja hb0;have k:Bz w0 w0.drew:=(Ec _ w0).drew;clear hV m1 m2 m3 m4 e2 e4 hB1 hB2 hw0 hb1 hb0 hi s1 s2 s4 s5 hnk hnz hnh hnb;go_enter func18,ntmps18;go_wp2_with fail;rw[HW.out];refine Jl fun KK hKK=>?_;refine Eg (S:=(fun W=>W.cell? ⟨w.heap.size,0,none⟩=some (.slice kA nk kc)/\W.cell? ⟨w.heap.size,1,none⟩=some (.slice zA nz zc)/\W.cell? ⟨w.heap.size,2,none⟩=some (.slice hA nh hc)/\W.cell? ⟨w.heap.size,3,none⟩=some (.slice vA nb vc)/\W.cell? ⟨w.heap.size,4,none⟩=some (.int .i64 room))) (by kernel_rfl) (by first | exact HS.out _ k | exact hS9) (fun hHeld=>?_);refine Jc 0 3 1 4 (by first | exact HS.out _ k | exact hS9) ?_;refine Jc 3 6 4 7 (by first | exact HS.out _ k | exact hS9) ?_;refine Jc 7 10 8 11 (by first | exact HS.out _ k | exact hS9) ?_;refine Jc 10 13 11 14 (by first | exact HS.out _ k | exact hS9) ?_;refine Jc 13 16 14 17 (by first | exact HS.out _ k | exact hS9) ?_;refine EO (rs:=[2,6]) (by kernel_rfl) (by simp) ?_;refine Ee rfl (fun K hK=>?_) (Ee rfl (fun K hK=>?_) EH)
 ·go_simp;refine(H1.out _ k).mono ?_;rintro e W ⟨D1,d1,rfl,ho,hb'⟩;have k':=k.size;have k:=Jg k hb'
  try (have C1:=Ja (Jf C1.out hb' Zl))
  try (have C2:=Ja (C2.out.below hb'))
  try (have C3:=Ja (Jf C3.out hb' Zl))
  try (have C5:=Ja (C5.out.below hb'))
  try (have E:=Ja (Jf E.out hb' Zl))
  have C1:=Ja (Jk ho k');clear ho hb' k';refine hK.out _ _ (by first | exact HS.out _ k | exact hS9) (fun hHeld=>?_);clear hK K;refine EO (rs:=[5,6]) (by kernel_rfl) (by simp) ?_;refine Ee rfl (fun K hK=>?_) (Ee rfl (fun K hK=>?_) EH)
  ·go_simp;refine(H2.out _ k).mono ?_;rintro e W ⟨D2,d2,L2_,rfl,ho,he2,hb'⟩;have k':=k.size;have k:=Jg k hb'
   try (have C1:=Ja (Jf C1.out hb' Zl))
   try (have C2:=Ja (C2.out.below hb'))
   try (have C3:=Ja (Jf C3.out hb' Zl))
   try (have C5:=Ja (C5.out.below hb'))
   try (have E:=Ja (Jf E.out hb' Zl))
   have C2:=Ja (Qk.less ho k');have F2:=Ja he2;clear ho hb' k' he2;refine hK.out _ _ (by first | exact HS.out _ k | exact hS9) (fun hHeld=>?_);clear hK K;refine Qa 6 fun K hK=>?_;go_simp;have hb':=Ji k (.cells #[] 70);have E0:=Ja (Jk (Je3 hb' 4) k.size);have k:=Jg k hb'
   try (have C1:=Ja (Jf C1.out hb' Zl))
   try (have C2:=Ja (C2.out.below hb'))
   try (have C3:=Ja (Jf C3.out hb' Zl))
   try (have C5:=Ja (C5.out.below hb'))
   have E:=E0;clear hb' E0;refine hK.out _ _ (by first | exact HS.out _ k | exact hS9) (fun hHeld=>?_);clear hK K;refine Qa 9 fun K hK=>?_;rw[Ei (by kernel_rfl)];refine JS _ (.tmp 9) (.tmp 11) _ rfl w0.heap.size 70 i0 _ 4 32 underlying24 hi0 hz0 hz1 hz2 rfl (by decide) _ 0 [] rfl E.out _ hA nh hc (wv held) rfl (H3.out _ k) (XY _) h63 (by omega) k.size ?_;intro D3 d3 W ho hg hat;simp only[EU,List.nil_append] at ho ⊢
   try (have C1:=Ja (C1.out.kept hg (Qb C1.out E.out (by decide))))
   try (have C2:=Ja (C2.out.row_ E.out (by decide) (by decide) hg))
   try (have C5:=Ja (C5.out.row_ E.out (by decide) (by decide) hg))
   have k:=k.trans (Jb hg k.size (fun g hg'=>(E.out.lt g hg').1));have C3:=Ja ho;clear ho hg hat E;refine hK.out _ _ (by first | exact HS.out _ k | exact hS9) (fun hHeld=>?_);clear hK K;refine Qa 12 fun K hK=>?_;go_simp;refine(H5.out _ k).mono ?_;rintro e W ⟨D5,d5,M5,rfl,ho,he5,hb'⟩;have k':=k.size;have k:=Jg k hb'
   try (have C1:=Ja (Jf C1.out hb' Zl))
   try (have C2:=Ja (C2.out.below hb'))
   try (have C3:=Ja (Jf C3.out hb' Zl))
   try (have C5:=Ja (C5.out.below hb'))
   try (have E:=Ja (Jf E.out hb' Zl))
   have C5:=Ja (JZ.less ho k');have F5:=Ja he5;clear ho hb' k' he5;refine hK.out _ _ (by first | exact HS.out _ k | exact hS9) (fun hHeld=>?_);clear hK K;refine Qx 15 18 (by first | exact HS.out _ k | exact hS9) ?_;refine Qa 16 fun K hK=>?_;rw[Ei (by kernel_rfl)];refine Qe 35 (.tmp 2) (.tmp 18) rfl (w.heap.size+1) 35 _ #[.slice D1 nk d1,.slice D2 nz d2,.slice D3 nh d3,.slice D5 nb d5,.int .i64 room] rfl rfl (HB2.out _ k) HI.out rfl (by simp[Value.oneCell']) ?_;intro W hblk hg;have hS9:=HS9.out _ k _ hg;have kw:=(HB0.out.trans (k.mono HB0.out.size)).trans (Jb hg (EY HB0.out.size k.size) (fun g hg'=>by cases hg';exact GV _));have hbut:JF (w.heap.size+1) _ W:=JF.grown hg;have C1:=Ja (Qf C1.out hbut hsz);have C2:=Ja (C2.out.but hbut hsz);have C3:=Ja (Qf C3.out hbut hsz);have C5:=Ja (C5.out.but hbut hsz);clear hg k hbut;refine hK.out _ _ (by first | exact HS.out _ k | exact hS9) (fun hHeld=>?_);clear hK K;refine Es (by kernel_rfl) ?_ _;refine QQ.out (hKK _ _ ?_);go_wp2;refine EF (Gc rfl _ _ (w.heap.size+1) 35 _ _ _ rfl hblk underlying35 rfl HI.out) rfl ⟨⟨D1,d1,D2,d2,D3,d3,D5,d5⟩,by simp only[L1.out,L2.out,L3.out,L4.out],⟨L2_,M5,?_⟩,kw⟩;have q1:=Rd.of_own C1.out;have q2:=C2.out.rd;have q3:=Rd.of_own C3.out;have q5:=C5.out.rd (Jic HWF.out F5.out);simp only[L1.out,L2.out,L3.out,L4.out] at q1 q2 q3 q5;exact⟨q1,q2,by rw[F2.out,E2.out],q3,q5,by rw[F5.out,E4.out]⟩
  ·go_simp;have hb':=Ji k (.cells #[] 70);have E0:=Ja (Jk (Je3 hb' 4) k.size);have k:=Jg k hb'
   try (have C1:=Ja (Jf C1.out hb' Zl))
   try (have C2:=Ja (C2.out.below hb'))
   try (have C3:=Ja (Jf C3.out hb' Zl))
   try (have C5:=Ja (C5.out.below hb'))
   have E:=E0;clear hb' E0;refine hK.out _ _ (by first | exact HS.out _ k | exact hS9) (fun hHeld=>?_);clear hK K;refine Qa 5 fun K hK=>?_;go_simp;refine(H2.out _ k).mono ?_;rintro e W ⟨D2,d2,L2_,rfl,ho,he2,hb'⟩;have k':=k.size;have k:=Jg k hb'
   try (have C1:=Ja (Jf C1.out hb' Zl))
   try (have C2:=Ja (C2.out.below hb'))
   try (have C3:=Ja (Jf C3.out hb' Zl))
   try (have C5:=Ja (C5.out.below hb'))
   try (have E:=Ja (Jf E.out hb' Zl))
   have C2:=Ja (Qk.less ho k');have F2:=Ja he2;clear ho hb' k' he2;refine hK.out _ _ (by first | exact HS.out _ k | exact hS9) (fun hHeld=>?_);clear hK K;refine Qa 9 fun K hK=>?_;rw[Ei (by kernel_rfl)];refine JS _ (.tmp 9) (.tmp 11) _ rfl w0.heap.size 70 i0 _ 4 32 underlying24 hi0 hz0 hz1 hz2 rfl (by decide) _ 0 [] rfl E.out _ hA nh hc (wv held) rfl (H3.out _ k) (XY _) h63 (by omega) k.size ?_;intro D3 d3 W ho hg hat;simp only[EU,List.nil_append] at ho ⊢
   try (have C1:=Ja (C1.out.kept hg (Qb C1.out E.out (by decide))))
   try (have C2:=Ja (C2.out.row_ E.out (by decide) (by decide) hg))
   try (have C5:=Ja (C5.out.row_ E.out (by decide) (by decide) hg))
   have k:=k.trans (Jb hg k.size (fun g hg'=>(E.out.lt g hg').1));have C3:=Ja ho;clear ho hg hat E;refine hK.out _ _ (by first | exact HS.out _ k | exact hS9) (fun hHeld=>?_);clear hK K;refine Qa 12 fun K hK=>?_;go_simp;refine(H5.out _ k).mono ?_;rintro e W ⟨D5,d5,M5,rfl,ho,he5,hb'⟩;have k':=k.size;have k:=Jg k hb'
   try (have C1:=Ja (Jf C1.out hb' Zl))
   try (have C2:=Ja (C2.out.below hb'))
   try (have C3:=Ja (Jf C3.out hb' Zl))
   try (have C5:=Ja (C5.out.below hb'))
   try (have E:=Ja (Jf E.out hb' Zl))
   have C5:=Ja (JZ.less ho k');have F5:=Ja he5;clear ho hb' k' he5;refine hK.out _ _ (by first | exact HS.out _ k | exact hS9) (fun hHeld=>?_);clear hK K;refine Qx 15 18 (by first | exact HS.out _ k | exact hS9) ?_;refine Qa 16 fun K hK=>?_;rw[Ei (by kernel_rfl)];refine Qe 35 (.tmp 2) (.tmp 18) rfl (w.heap.size+1) 35 _ #[.slice D1 nk d1,.slice D2 nz d2,.slice D3 nh d3,.slice D5 nb d5,.int .i64 room] rfl rfl (HB2.out _ k) HI.out rfl (by simp[Value.oneCell']) ?_;intro W hblk hg;have hS9:=HS9.out _ k _ hg;have kw:=(HB0.out.trans (k.mono HB0.out.size)).trans (Jb hg (EY HB0.out.size k.size) (fun g hg'=>by cases hg';exact GV _));have hbut:JF (w.heap.size+1) _ W:=JF.grown hg;have C1:=Ja (Qf C1.out hbut hsz);have C2:=Ja (C2.out.but hbut hsz);have C3:=Ja (Qf C3.out hbut hsz);have C5:=Ja (C5.out.but hbut hsz);clear hg k hbut;refine hK.out _ _ (by first | exact HS.out _ k | exact hS9) (fun hHeld=>?_);clear hK K;refine Es (by kernel_rfl) ?_ _;refine QQ.out (hKK _ _ ?_);go_wp2;refine EF (Gc rfl _ _ (w.heap.size+1) 35 _ _ _ rfl hblk underlying35 rfl HI.out) rfl ⟨⟨D1,d1,D2,d2,D3,d3,D5,d5⟩,by simp only[L1.out,L2.out,L3.out,L4.out],⟨L2_,M5,?_⟩,kw⟩;have q1:=Rd.of_own C1.out;have q2:=C2.out.rd;have q3:=Rd.of_own C3.out;have q5:=C5.out.rd (Jic HWF.out F5.out);simp only[L1.out,L2.out,L3.out,L4.out] at q1 q2 q3 q5;exact⟨q1,q2,by rw[F2.out,E2.out],q3,q5,by rw[F5.out,E4.out]⟩
 ·go_simp;have hb':=Ji k (.cells #[] 70);have E0:=Ja (Jk (Je3 hb' 4) k.size);have k:=Jg k hb'
  try (have C1:=Ja (Jf C1.out hb' Zl))
  try (have C2:=Ja (C2.out.below hb'))
  try (have C3:=Ja (Jf C3.out hb' Zl))
  try (have C5:=Ja (C5.out.below hb'))
  have E:=E0;clear hb' E0;refine hK.out _ _ (by first | exact HS.out _ k | exact hS9) (fun hHeld=>?_);clear hK K;refine Qa 2 fun K hK=>?_;go_simp;refine(H1.out _ k).mono ?_;rintro e W ⟨D1,d1,rfl,ho,hb'⟩;have k':=k.size;have k:=Jg k hb'
  try (have C1:=Ja (Jf C1.out hb' Zl))
  try (have C2:=Ja (C2.out.below hb'))
  try (have C3:=Ja (Jf C3.out hb' Zl))
  try (have C5:=Ja (C5.out.below hb'))
  try (have E:=Ja (Jf E.out hb' Zl))
  have C1:=Ja (Jk ho k');clear ho hb' k';refine hK.out _ _ (by first | exact HS.out _ k | exact hS9) (fun hHeld=>?_);clear hK K;refine Qa 5 fun K hK=>?_;go_simp;refine(H2.out _ k).mono ?_;rintro e W ⟨D2,d2,L2_,rfl,ho,he2,hb'⟩;have k':=k.size;have k:=Jg k hb'
  try (have C1:=Ja (Jf C1.out hb' Zl))
  try (have C2:=Ja (C2.out.below hb'))
  try (have C3:=Ja (Jf C3.out hb' Zl))
  try (have C5:=Ja (C5.out.below hb'))
  try (have E:=Ja (Jf E.out hb' Zl))
  have C2:=Ja (Qk.less ho k');have F2:=Ja he2;clear ho hb' k' he2;refine hK.out _ _ (by first | exact HS.out _ k | exact hS9) (fun hHeld=>?_);clear hK K;refine Qa 9 fun K hK=>?_;rw[Ei (by kernel_rfl)];refine JS _ (.tmp 9) (.tmp 11) _ rfl w0.heap.size 70 i0 _ 4 32 underlying24 hi0 hz0 hz1 hz2 rfl (by decide) _ 0 [] rfl E.out _ hA nh hc (wv held) rfl (H3.out _ k) (XY _) h63 (by omega) k.size ?_;intro D3 d3 W ho hg hat;simp only[EU,List.nil_append] at ho ⊢
  try (have C1:=Ja (C1.out.kept hg (Qb C1.out E.out (by decide))))
  try (have C2:=Ja (C2.out.row_ E.out (by decide) (by decide) hg))
  try (have C5:=Ja (C5.out.row_ E.out (by decide) (by decide) hg))
  have k:=k.trans (Jb hg k.size (fun g hg'=>(E.out.lt g hg').1));have C3:=Ja ho;clear ho hg hat E;refine hK.out _ _ (by first | exact HS.out _ k | exact hS9) (fun hHeld=>?_);clear hK K;refine Qa 12 fun K hK=>?_;go_simp;refine(H5.out _ k).mono ?_;rintro e W ⟨D5,d5,M5,rfl,ho,he5,hb'⟩;have k':=k.size;have k:=Jg k hb'
  try (have C1:=Ja (Jf C1.out hb' Zl))
  try (have C2:=Ja (C2.out.below hb'))
  try (have C3:=Ja (Jf C3.out hb' Zl))
  try (have C5:=Ja (C5.out.below hb'))
  try (have E:=Ja (Jf E.out hb' Zl))
  have C5:=Ja (JZ.less ho k');have F5:=Ja he5;clear ho hb' k' he5;refine hK.out _ _ (by first | exact HS.out _ k | exact hS9) (fun hHeld=>?_);clear hK K;refine Qx 15 18 (by first | exact HS.out _ k | exact hS9) ?_;refine Qa 16 fun K hK=>?_;rw[Ei (by kernel_rfl)];refine Qe 35 (.tmp 2) (.tmp 18) rfl (w.heap.size+1) 35 _ #[.slice D1 nk d1,.slice D2 nz d2,.slice D3 nh d3,.slice D5 nb d5,.int .i64 room] rfl rfl (HB2.out _ k) HI.out rfl (by simp[Value.oneCell']) ?_;intro W hblk hg;have hS9:=HS9.out _ k _ hg;have kw:=(HB0.out.trans (k.mono HB0.out.size)).trans (Jb hg (EY HB0.out.size k.size) (fun g hg'=>by cases hg';exact GV _));have hbut:JF (w.heap.size+1) _ W:=JF.grown hg;have C1:=Ja (Qf C1.out hbut hsz);have C2:=Ja (C2.out.but hbut hsz);have C3:=Ja (Qf C3.out hbut hsz);have C5:=Ja (C5.out.but hbut hsz);clear hg k hbut;refine hK.out _ _ (by first | exact HS.out _ k | exact hS9) (fun hHeld=>?_);clear hK K;refine Es (by kernel_rfl) ?_ _;refine QQ.out (hKK _ _ ?_);go_wp2;refine EF (Gc rfl _ _ (w.heap.size+1) 35 _ _ _ rfl hblk underlying35 rfl HI.out) rfl ⟨⟨D1,d1,D2,d2,D3,d3,D5,d5⟩,by simp only[L1.out,L2.out,L3.out,L4.out],⟨L2_,M5,?_⟩,kw⟩;have q1:=Rd.of_own C1.out;have q2:=C2.out.rd;have q3:=Rd.of_own C3.out;have q5:=C5.out.rd (Jic HWF.out F5.out);simp only[L1.out,L2.out,L3.out,L4.out] at q1 q2 q3 q5;exact⟨q1,q2,by rw[F2.out,E2.out],q3,q5,by rw[F5.out,E4.out]⟩
def Jmn:Value->Nat
 | .slice _ n _=>n
 | _=>0
theorem Jfh (A xA:OA) (n c xc:Nat) (L:List (BV×Wq.Bd)) (room:Int) (x:Wq.Bd) (w:World) (hR:QI w w.heap.size A n c L) (hX:Rd w w.heap.size 1 xA x.v.length xc (bv x.v)) (hca:caF (JG L) room=true) (hbd:Wq.bdF x=true):
  Calls prog 154 #[.slice A n c,.int .i64 room,.agg (JO x xA xc)] w fun e w'=>∃A' k' c',e=.returned (.tuple #[.slice A' k' c',.int .i64 0])/\(∃M,QI w' w'.heap.size A' k' c' M/\JG M=Jgv (JG L) room x)/\Bz w w':=by
 obtain⟨ib0,hbi0,hbz0,hbz1,hbz2⟩:=EN Ye;have h1max:1<=maxLen:=by unfold maxLen;omega
 have k0:Bz w (w.alloc (.cells (JO x xA xc) 31)):=Zr.alloc Zl _;have b0:=Jm.new w 31 (JO x xA xc);have hs0:(w.alloc (.cells (JO x xA xc) 31)).heap.size=w.heap.size+1:=by simp
 have hca':=hca;unfold caF at hca';simp only[Ea,Ej] at hca';obtain⟨⟨r0,r1,hn⟩,hnw,hus⟩:=hca';rw[Jt,hR.len] at hn;have hea:=Jah hnw;have hx1:=(Wq.Zs x).1 hbd;have hxl:x.v.length<=256:=hx1.2.2.2.2.2;have hxw:=Je2 hx1.1 hx1.2.1;have G1:=Uv A n c L room _ (hR.go k0);rw[hca] at G1;have G2:=fun W=>QE x xA xc W;rw[hbd] at G2;have G3:=fun (W:World) (hb:Bz w W)=>Jdt A n c x.o L W (hR.go hb) (by omega) (fun p hp=>by have:=(hea p.2 (EL hp)).1;omega);have G4:=fun (W:World) (hb:Bz w W)=>Ov x xA xc W (hX.go hb) (by omega);have hall:∀y∈(JG L).filter (fun y=>!decide (y.o=x.o))++[x],y.v.length<=256/\(Lit.int .i64 y.o).wf=true:=fun y hy=>by
  rcases EB.1 hy with hy | hy
  ·exact hea y (Ga.1 hy).1
  ·rw[Ez.1 hy];exact⟨hxl,hxw⟩
 have hfl:((JG L).filter (fun y=>!decide (y.o=x.o))).length<=256:=by
  have:=GJ (fun y:Wq.Bd=>!decide (y.o=x.o)) (JG L);rw[Jt,hR.len] at this;omega
 obtain⟨W0,hW0⟩:∃W,W=w.alloc (.cells (JO x xA xc) 31):=⟨_,rfl⟩;rw[<-hW0] at k0 b0 G1 hs0;have HW0:=Ja hW0.symm;have HB:=Ja fun (W:World) (hb:Bz W0 W)=>b0.go hb;have K0:=Ja k0;have HS0:=Ja hs0;have HALL:=Ja hall;have HFL:=Ja hfl;clear hW0 b0 k0 hR hX hca hbd hea hx1 hnw hall hfl hs0 hus;unfold Jgv;obtain⟨o_,⟨a_,b_⟩,xv⟩:=x;unfold JO at G2 HW0 HB G4 ⊢;dsimp only at hxl hxw G2 HW0 HB G3 G4 HALL HFL ⊢;obtain⟨fl,hfl⟩:∃y,y=(JG L).filter fun y=>!decide (y.o=o_):=⟨_,rfl⟩;rw[<-hfl] at G3 HALL HFL ⊢;obtain⟨xn,hxn⟩:∃y,y=xv.length:=⟨_,rfl⟩;rw[<-hxn] at G2 HW0 HB G4 ⊢;have HXN:=Ja hxn;obtain⟨l,hl⟩:∃l,l=fl++[⟨o_,(a_,b_),xv⟩]:=⟨_,rfl⟩;rw[<-hl] at HALL ⊢;have HLQ:=Ja hl;clear hl;have G1:=Ja G1;have G2:=Ja G2;have G3:=Ja G3;have G4:=Ja G4;clear hfl hxn;go_enter func154,ntmps154;go_upto_region 1 with fail;rw[HW0.out];go_wp2_with fail;refine Jd G1.out fun w1 hb1=>?_;obtain⟨p0,p1,p2,p3⟩:=(HB.out _ hb1).quad;go_wp2_with fail;refine Jd (G2.out _) fun w2 hb2=>?_;have kk:=Jg hb1 hb2;have kw:=Jg K0.out kk;clear p0 p1 p2 p3 hb1 hb2;go_upto_region 3 with fail;have kk:=kk.drew;have kw:=kw.drew;have HS:=Ja fun (W:World) (hb:Bz W0 W)=>(show W.cell? ⟨w.heap.size,0,none⟩=some (.int .i64 o_)/\W.cell? ⟨w.heap.size,1,none⟩=some (.int .i64 a_)/\W.cell? ⟨w.heap.size,2,none⟩=some (.int .i64 b_)/\W.cell? ⟨w.heap.size,3,none⟩=some (.slice xA xn xc) from (HB.out W hb).quad);go_cut [8] from 18 to 25 (fun v8 wx=>∃(A9:OA) (k9 c9:Nat) (N:List (BV×Wq.Bd)),v8=.slice A9 k9 c9/\Hid (JZ wx W0.heap.size A9 k9 c9 N)/\Hid (JG N=l)/\Hid (Bz W0 wx))
 case first=>
  refine Jl fun KK hKK=>?_;refine Eg (S:=(fun W=>W.cell? ⟨w.heap.size,0,none⟩=some (.int .i64 o_)/\W.cell? ⟨w.heap.size,1,none⟩=some (.int .i64 a_)/\W.cell? ⟨w.heap.size,2,none⟩=some (.int .i64 b_)/\W.cell? ⟨w.heap.size,3,none⟩=some (.slice xA xn xc))) (by kernel_rfl) (by first | exact HS.out _ kk) (fun hHeld=>?_);refine Jc 0 18 1 19 (HS.out _ kk) ?_;refine Jc 2 20 4 22 (HS.out _ kk) ?_;refine Qa 3 fun K hK=>?_;go_simp;refine(G3.out _ kw).mono ?_;rintro e V ⟨A1,k1,c1,M,rfl,_,hM,hMz,hb'⟩;have KM:=Ja (hM.less kk.size);have HMZ:=Ja hMz;have kk:=Jg kk hb';have kw:=Jg kw hb';clear hM hMz hb';refine hK.out _ _ (HS.out _ kk) fun hHeld=>?_;clear hK K;refine Qa 5 fun K hK=>?_;go_simp;refine(G4.out _ kw).mono ?_;rintro e V ⟨D,d,rfl,hd,hb'⟩;have HD:=Ja (Jk hd kk.size);have KM:=Ja (KM.out.below hb');have kk:=Jg kk hb';have kw:=Jg kw hb';clear hd hb';refine hK.out _ _ (HS.out _ kk) fun hHeld=>?_;clear hK K;refine Qa 6 fun K hK=>?_;go_simp;have hb':=Ji kw (.cells #[.int .i64 o_,.int .i64 a_,.int .i64 b_,.slice D xn d] 31);have C:=Ja (ZK hb' (size:=4) (n:=1) rfl h1max);have HD:=Ja (Jf HD.out hb' Zl);have KM:=Ja (KM.out.below hb');have kk:=Jg kk hb';have kw:=Jg kw hb';clear hb';refine hK.out _ _ (HS.out _ kk) fun hHeld=>?_;clear hK K;refine Qa 7 fun K hK=>?_;rw[Ei (by kernel_rfl)];have hk1:k1<=256:=by have h1:=KM.out.len;have h2:=congrArg List.length HMZ.out;rw[Jt] at h2;have:=HFL.out;omega
  refine JS _ (.tmp 21) (.tmp 24) _ rfl W0.heap.size 31 ib0 _ 4 48 underlying33 hbi0 hbz0 hbz1 hbz2 rfl (by decide) _ k1 (KU M) rfl KM.out.row _ _ 1 1 [.int .i64 o_,.int .i64 a_,.int .i64 b_,.slice D xn d] rfl C.out (by simp[Value.oneCell']) (by unfold maxLen;omega) (by omega) kk.size ?_;intro A9 c9 W9 ho hg hat;have KZ:=Ja (KM.out.push (p:=(⟨D,d⟩,⟨o_,(a_,b_),xv⟩)) (by dsimp only;rw[<-HXN.out];exact HD.out) hg (by unfold bvl;dsimp only;rw[<-HXN.out];exact ho));have HZZ:=Ja (show JG (M++[(⟨D,d⟩,⟨o_,(a_,b_),xv⟩)])=l by rw[Kb,HMZ.out,HLQ.out];rfl);have kk:=kk.trans (Jb hg kk.size (fun g hg'=>(KM.out.row.lt g hg').1));clear ho hg hat KM C HD HMZ kw;refine hK.out _ _ (HS.out _ kk) fun hHeld=>?_;clear hK K;refine Qx 8 8 (HS.out _ kk) ?_;refine Es (by kernel_rfl) ?_ _;refine QQ.out (hKK _ _ ?_);clear hHeld;go_wp2_with fail;go_meet;exact⟨A9,k1+1,c9,_,rfl,KZ,HZZ,Ja kk⟩
 obtain⟨A9,k9,c9,N,rfl,KZ,HZZ,HKW⟩:=hcut;have hN:=KZ.out.len;have hlen:k9=fl.length+1:=by rw[<-hN,<-Jt,HZZ.out,HLQ.out,Eb];rfl
 have hall:=HALL.out;have hzz:=HZZ.out;have hwf:∀p∈N,(Lit.int .i64 p.2.o).wf=true:=fun p hp=>(hall p.2 (by rw[<-hzz];exact EL hp)).2;have hll:l.length=k9:=by rw[<-hzz,Jt];exact hN
 have hk9:k9<=257:=by have:=HFL.out;omega
 have hub:=Jbi l fun y hy=>(hall y hy).1;have HRB:=Ja (KZ.out.rd hwf);have HK0:=Ja (K0.out.trans (HKW.out.mono K0.out.size));have HRM:=Ja (show QI wc wc.heap.size A9 k9 c9 N from HRB.out);have hbig:∀q:List Wq.Bd,q.Sublist l->JC q<=65792:=fun q hq=>by have:=Kt hq;omega
 have HBIG:=Ja hbig;have HZZ2:=Ja hzz;clear hN hlen hall hzz hwf hll hub hbig;go_wp2;go_loopw [8] (fun v8 wr=>∃(A8:OA) (k8 c8:Nat) (N8:List (BV×Wq.Bd)),v8=.slice A8 k8 c8/\k8<=257/\Hid (QI wr wr.heap.size A8 k8 c8 N8)/\Hid (YS room (JG N8)=YS room l)/\Hid ((JG N8).Sublist l)/\Hid (Bz w wr)) (fun v8 _=>Jmn v8)
 case atStart=>exact⟨A9,k9,c9,N,rfl,hk9,HRM,Ja (by rw[HZZ2.out]),Ja (by rw[HZZ2.out];exact List.Sublist.refl _),HK0⟩
 case round=>
  obtain⟨A8,k8,c8,N8,rfl,hk8,HR8,HT8,HS8,HK8⟩:=hrel;have hu8:=HBIG.out _ HS8.out;have GU:=Ja (OR A8 k8 c8 N8 wr HR8.out (by omega));go_wp2_with fail;refine Jd GU.out fun w6 hb6=>?_;have HK8:=Ja (Jg HK8.out hb6);have HR8:=Ja (HR8.out.go hb6);clear hb6 GU;by_cases hgt:room < ((JC (JG N8):Nat):Int)
  ·have hd:decide (((JC (JG N8):Nat):Int) > room)=true:=Eu hgt;have hlen:=HR8.out.len;obtain⟨p,N',rfl⟩:∃p N',N8=p :: N':=by
    rcases N8 with _ | ⟨p,N'⟩
    ·simp only[JG,Rf,JC] at hgt;omega
    ·exact⟨p,N',rfl⟩
   rw[List.length_cons] at hlen;have hsl:∀W,(Instr.slice 33 (.slice A8 k8 c8) (some (.int .i64 1)) none none).run prog W=.ok (.slice (Qu 4 A8 c8 1) (k8 - 1) (c8 - 1)) W:=fun W=>Yh W 33 31 4 underlying33 (fun w=>by kernel_rfl) A8 k8 c8 .i64 1 1 rfl (by omega);have HC:=Ja (show QI w6 w6.heap.size (Qu 4 A8 c8 1) (k8 - 1) (c8 - 1) N' from ⟨by omega,by
    have h:=HR8.out.rd.from_ (k:=1) (by omega);exact h,fun q hq=>HR8.out.each q (ER _ hq),fun q hq=>HR8.out.wf q (ER _ hq)⟩)
   have HT:=Ja (show YS room (JG N')=YS room l from by
    rw[<-HT8.out];show _=YS room (p.2 :: JG N');rw[YS];exact(Ei hgt).symm)
   have HS:=Ja (show (JG N').Sublist l from (List.sublist_cons_self p.2 (JG N')).trans HS8.out);generalize Qu 4 A8 c8 1=A7 at hsl HC;obtain⟨u8,hu⟩:∃u,u=JC (JG (p :: N')):=⟨_,rfl⟩;rw[<-hu] at hd hu8 ⊢;clear hgt hu HR8 HT8 HS8;go_wp2;go_roundw
   case rel=>exact⟨A7,k8 - 1,c8 - 1,N',rfl,by omega,HC,HT,HS,HK8⟩
   case measure=>simp[Jmn];omega
  ·have hd:decide (((JC (JG N8):Nat):Int) > room)=false:=Ew hgt;have HT:=Ja (show JG N8=YS room l from by rw[<-HT8.out,JgT hgt]);obtain⟨u8,hu⟩:∃u,u=JC (JG N8):=⟨_,rfl⟩;rw[<-hu] at hd hu8 ⊢;clear hgt hu;go_wp2;go_ret2;exact⟨A8,k8,c8,rfl,⟨N8,HR8.out,HT.out⟩,HK8.out⟩
theorem Jk5:(prog.info? 232).map (fun i=>(i.zero,i.size))=some (some (.agg (wv (List.replicate 256 ((0,0),0,false))).toArray),1024):=by kernel_rfl
theorem Jfl (a1 a2 b1 b2:Int) (w:World):Calls prog 201 #[.agg #[.int .i64 a1,.int .i64 a2],.agg #[.int .i64 b1,.int .i64 b2]] w fun e w'=>∃z:Int,e=.returned (.int .i64 z)/\decide (z < 0)=Kz (a1,a2) (b1,b2)/\Bz w w':=by
 have hb0:Bz w ((w.alloc (.cells #[.int .i64 a1,.int .i64 a2] 28)).alloc (.cells #[.int .i64 b1,.int .i64 b2] 28)):=(Zr.alloc Zl _).alloc (by simp) _;have HB:=Ja hb0;clear hb0;by_cases h1:a1 < b1
 ·have HX:=Ja (show Kz (a1,a2) (b1,b2)=true by simp[Kz,h1]);go_enter func201,ntmps201;go_wp2;go_ret;exact⟨-1,rfl,by rw[HX.out];rfl,HB.out⟩
 ·by_cases h2:a1=b1
  ·subst h2;have hq:(a1 == a1)=true:=by simp
   by_cases h3:a2 < b2
   ·have HX:=Ja (show Kz (a1,a2) (a1,b2)=true by simp[Kz,h3]);go_enter func201,ntmps201;go_wp2;go_ret;exact⟨-1,rfl,by rw[HX.out];rfl,HB.out⟩
   ·have HX:=Ja (show Kz (a1,a2) (a1,b2)=false by simp[Kz];omega);by_cases h4:a2=b2
    ·subst h4;have hq2:(a2 == a2)=true:=by simp
     go_enter func201,ntmps201;go_wp2;go_ret;exact⟨0,rfl,by rw[HX.out];rfl,HB.out⟩
    ·have hq2:(a2 == b2)=false:=FX.2 h4;go_enter func201,ntmps201;go_wp2;go_ret;exact⟨1,rfl,by rw[HX.out];rfl,HB.out⟩
  ·have hq:(a1 == b1)=false:=FX.2 h2;have HX:=Ja (show Kz (a1,a2) (b1,b2)=false by simp[Kz,h1,h2]);go_enter func201,ntmps201;go_wp2;go_ret;exact⟨1,rfl,by rw[HX.out];rfl,HB.out⟩
/-! ### Plain -/
theorem JmK (l:List Wr) (i:Nat) (h:i < l.length) (x:Wr):((((wv l).set (i * 4) (.int .i64 x.1.1)).set (i * 4+1) (.int .i64 x.1.2)).set (i * 4+2) (.int .i64 x.2.1)).set (i * 4+3) (.bool x.2.2)=wv (l.set i x):=by
 have e:l=l.take i++l[i] :: l.drop (i+1):=by rw[<-Eh h,EZ]
 have hP:(l.take i).length=i:=by rw[Et];omega
 generalize l.take i=P at *;generalize l.drop (i+1)=Q at *;generalize l[i]=y at *;subst e;have e2:(P++y :: Q).set i x=P++x :: Q:=by rw[Fk _ _ (by omega),hP,GT];rfl
 have e3:∀z:Wr,wv (P++z :: Q)=wv P++(wc z++wv Q):=fun z=>by simp[wv]
 have hl:(wv P).length=i * 4:=by rw[Yp,hP]
 rw[e2,e3,e3];rw[Fk _ _ (by omega),Fk _ _ (by omega),Fk _ _ (by omega),Fk _ _ (by omega),hl,GT,FL,FL,FL];rfl
theorem Jmm {l:List Wr} (h:l.Pairwise fun a b=>a.2.1 < b.2.1) (k:Nat) (hk:k < l.length) (o:Int):Xy (l.take (k+1)) o=if o=l[k].2.1 then some l[k] else Xy (l.take k) o:=by
 have e:=Eq hk;have h1:(l.take (k+1)).Pairwise fun a b=>a.2.1 < b.2.1:=h.sublist (List.take_sublist _ _);have h2:(l.take k).Pairwise fun a b=>a.2.1 < b.2.1:=h.sublist (List.take_sublist _ _);have h3:=h1;rw[e,NA] at h3;have h4:∀w∈l.take k,w.2.1 < l[k].2.1:=fun w hw=>h3.2.2 w hw _ (Ez.2 rfl);refine Option.ext fun w=>?_;rw[QA h1,e];by_cases q:o=l[k].2.1
 ·rw[Ei q];constructor
  ·rintro⟨hw,ho⟩;rcases EB.1 hw with hw | hw
   ·have:=h4 w hw;omega
   ·rw[Ez.1 hw]
  ·intro hw;injection hw with hw;subst hw;exact⟨EB.2 (.inr (Ez.2 rfl)),q.symm⟩
 ·rw[Ef q,QA h2];constructor
  ·rintro⟨hw,ho⟩;rcases EB.1 hw with hw | hw
   ·exact⟨hw,ho⟩
   ·rw[Ez.1 hw] at ho;exact absurd ho.symm q
  ·rintro⟨hw,ho⟩;exact⟨EB.2 (.inl hw),ho⟩
structure PI (wr:World) (g:Nat) (p:Nat->Bool) (AL:List Wr) (f:Int->Option Wr):Prop where
 has:Jm wr g 149 (Xv p)
 at_:Jm wr (g+1) 232 (wv AL).toArray
 len:AL.length=256
 rel:∀o:Nat,o < 256->f o=if p o=true then AL[o]? else none
theorem PI.go {wr wr':World} {g:Nat} {p:Nat->Bool} {AL:List Wr} {f:Int->Option Wr} (h:PI wr g p AL f) (hb:Bz wr wr'):PI wr' g p AL f:=⟨h.has.go hb,h.at_.go hb,h.len,h.rel⟩
theorem PI.flag {wr:World} {g:Nat} {p:Nat->Bool} {AL:List Wr} {f:Int->Option Wr} (h:PI wr g p AL f) {o:Nat} (ho:o < 256):wr.cell? ⟨g,o,none⟩=some (.bool (p o)):=(h.has.cell o).trans (YJ p o ho)
theorem PI.wr {wr:World} {g:Nat} {p:Nat->Bool} {AL:List Wr} {f:Int->Option Wr} (h:PI wr g p AL f) {o:Nat} (ho:o < 256):∃x,AL[o]?=some x/\wr.cell? ⟨g+1,o * 4,none⟩=some (.int .i64 x.1.1)/\wr.cell? ⟨g+1,o * 4+1,none⟩=some (.int .i64 x.1.2)/\wr.cell? ⟨g+1,o * 4+2,none⟩=some (.int .i64 x.2.1)/\wr.cell? ⟨g+1,o * 4+3,none⟩=some (.bool x.2.2):=by
 have hl:o < AL.length:=by rw[h.len];exact ho
 have e:∀j,j < 4->∀u,(wc AL[o])[j]?=some u->wr.cell? ⟨g+1,o * 4+j,none⟩=some u:=fun j hj u hu=>by
  rw[h.at_.cell,FE,JiO AL o hl j hj,hu]
 exact⟨AL[o],Em hl,e 0 (by decide) _ rfl,e 1 (by decide) _ rfl,e 2 (by decide) _ rfl,e 3 (by decide) _ rfl⟩
theorem PI.put {wr w1:World} {g:Nat} {p:Nat->Bool} {AL:List Wr} {f f':Int->Option Wr} (h:PI wr g p AL f) {u:Nat} (hu:u < 256) (x:Wr) (hf:∀o:Nat,o < 256->f' o=if o=u then some x else f o) (h1:Jm w1 g 149 (Xv (JaD p u true))) (h2:Jm w1 (g+1) 232 (wv AL).toArray):
  PI ((((w1.setCell ⟨g+1,u * 4,none⟩ (.int .i64 x.1.1)).setCell ⟨g+1,u * 4+1,none⟩ (.int .i64 x.1.2)).setCell ⟨g+1,u * 4+2,none⟩ (.int .i64 x.2.1)).setCell ⟨g+1,u * 4+3,none⟩ (.bool x.2.2)) g (JaD p u true) (AL.set u x) f':=by
 have hl:u < AL.length:=by rw[h.len];exact hu
 refine⟨(((h1.far (by simp) _).far (by simp) _).far (by simp) _).far (by simp) _,?_,by rw[Gk];exact h.len,fun o ho=>?_⟩
 ·have h3:=(((h2.set_ (u * 4) (.int .i64 x.1.1)).set_ (u * 4+1) (.int .i64 x.1.2)).set_ (u * 4+2) (.int .i64 x.2.1)).set_ (u * 4+3) (.bool x.2.2);simp only[List.setIfInBounds_toArray] at h3;rw[JmK AL u hl x] at h3;exact h3
 ·rw[hf o ho,h.rel o ho];unfold JaD;by_cases q:o=u
  ·subst q;rw[Ei rfl,Ei rfl,Ei rfl,List.getElem?_set_self hl]
  ·rw[Ef q,Ef q,List.getElem?_set_ne (fun e=>q e.symm)]
theorem PI.flagged {wr:World} {g:Nat} {p:Nat->Bool} {AL:List Wr} {f:Int->Option Wr} (h:PI wr g p AL f) {u:Nat} (hu:u < 256):Jm (wr.setCell ⟨g,u,none⟩ (.bool true)) g 149 (Xv (JaD p u true))/\Jm (wr.setCell ⟨g,u,none⟩ (.bool true)) (g+1) 232 (wv AL).toArray:=by
 have h1:=h.has.set_ u (.bool true);rw[JcM _ _ _ hu] at h1;exact⟨h1,h.at_.far (by simp) _⟩
theorem at4 {w1:World} {g:Nat} {AL:List Wr} (h2:Jm w1 (g+1) 232 (wv AL).toArray) (hl:AL.length=256) {u:Nat} (hu:u < 256):∃y:Wr,w1.cell? ⟨g+1,u * 4,none⟩=some (.int .i64 y.1.1)/\w1.cell? ⟨g+1,u * 4+1,none⟩=some (.int .i64 y.1.2)/\w1.cell? ⟨g+1,u * 4+2,none⟩=some (.int .i64 y.2.1)/\w1.cell? ⟨g+1,u * 4+3,none⟩=some (.bool y.2.2):=by
 have hl':u < AL.length:=by rw[hl];exact hu
 have e:∀j,j < 4->∀v,(wc AL[u])[j]?=some v->w1.cell? ⟨g+1,u * 4+j,none⟩=some v:=fun j hj v hv=>by
  rw[h2.cell,FE,JiO AL u hl' j hj,hv]
 exact⟨AL[u],e 0 (by decide) _ rfl,e 1 (by decide) _ rfl,e 2 (by decide) _ rfl,e 3 (by decide) _ rfl⟩
theorem PI.drew {wr:World} {g:Nat} {p:Nat->Bool} {AL:List Wr} {f:Int->Option Wr} (h:PI wr g p AL f):PI wr.drew g p AL f:=⟨h.has,h.at_,h.len,h.rel⟩
theorem PI.same {wr:World} {g:Nat} {p:Nat->Bool} {AL:List Wr} {f f':Int->Option Wr} (h:PI wr g p AL f) (e:∀o:Nat,o < 256->f' o=f o):PI wr g p AL f':=⟨h.has,h.at_,h.len,fun o ho=>(e o ho).trans (h.rel o ho)⟩
theorem Jci {f:Int->Option Wr} {x:Wr} {o:Int} (h:¬ o=x.2.1):QZ f x o=f o:=by unfold QZ;rw[Ef h]
theorem JnJ {f:Int->Option Wr} {x:Wr} (h:f x.2.1=none):QZ f x x.2.1=some x:=by unfold QZ;rw[Ei rfl,h]
theorem Jng {f:Int->Option Wr} {x y:Wr} (h:f x.2.1=some y) (hl:Kz y.1 x.1=true):QZ f x x.2.1=some x:=by unfold QZ;rw[Ei rfl,h];simp[hl]
theorem JnK {f:Int->Option Wr} {x y:Wr} (h:f x.2.1=some y) (hl:Kz y.1 x.1=false):QZ f x x.2.1=f x.2.1:=by unfold QZ;rw[Ei rfl,h];simp[hl]
theorem JeY (A D:OA) (n c m d:Nat) (l t:List Wr) (w:World) (hl:l.length=n) (hl2:t.length=m) (hR:Rd w w.heap.size 4 A n c (wv l)) (hR2:Rd w w.heap.size 4 D m d (wv t)) (hf:Xu (-1) l=true) (ht:∀x∈t,wrR x=true):
  Calls prog 153 #[.slice A n c,.slice D m d] w fun e w'=>∃A' c',e=.returned (.tuple #[.slice A' (XJ l t).length c',.int .i64 0])/\Rd w' w'.heap.size 4 A' (XJ l t).length c' (wv (XJ l t))/\Bz w w':=by
 obtain⟨hz,hi⟩:=FG Uk;obtain⟨hz2,hi2⟩:=FG Jk5;obtain⟨i0,hi0,hzz0,hzz1,hzz2⟩:=EN XC;have h1max:1<=maxLen:=by unfold maxLen;omega
 have hmax:n<=9223372036854775807:=by have h1:=hR.cap;have h2:=hR.max;unfold maxLen at h2;omega
 have hmax2:m<=9223372036854775807:=by have h1:=hR2.cap;have h2:=hR2.max;unfold maxLen at h2;omega
 have G1:=Uy A n c l w hl hR;rw[hf] at G1;have G1:=Ja G1;have G2:=Ja fun (sc sn ob:Int) (gn:Bool) (W:World)=>Oe sc sn ob gn W;have G3:=Ja fun (a1 a2 b1 b2:Int) (W:World)=>Jfl a1 a2 b1 b2 W;have hsf:=(YL _ _).1 hf;have HO1:=Ja (show ∀x∈l,0<=x.2.1/\x.2.1<=255 from fun x hx=>((Zi x).1 (hsf.1 x hx).1).1);have HO2:=Ja (show ∀x∈t,0<=x.2.1/\x.2.1<=255 from fun x hx=>((Zi x).1 (ht x hx)).1);have HRt:=Ja (show ∀x∈t,((decide (0<=x.2.1) && decide (x.2.1<=255)) && Vc.right x.1)=true from ht);have HTK:=Ja fun k hk o=>Jmm hsf.2 k hk o;have HW1:=Ja fun (W:World) (hb:Bz w W) k (hk:k < l.length)=>(hR.below hb).write hl hk;have HW2:=Ja fun (W:World) (hb:Bz w W) k (hk:k < t.length)=>(hR2.below hb).write hl2 hk;have HL1:=Ja hl;have HL2:=Ja hl2;have HOK:=Ja (Ja5 (Jdi hf) ht);clear hR hR2 hl hl2 hf ht hsf;go_enter func153,ntmps153;go_wp2_with fail;refine Jd G1.out fun w1 hb1=>?_;have hA1:Jm ((w1.alloc (.cells (Xv fun _=>false) 149)).alloc (.cells (wv (List.replicate 256 ((0,0),0,false))).toArray 232)) w1.heap.size 149 (Xv fun _=>false):=(Jm.new w1 _ _).alloc _;have hA2:Jm ((w1.alloc (.cells (Xv fun _=>false) 149)).alloc (.cells (wv (List.replicate 256 ((0,0),0,false))).toArray 232)) (w1.heap.size+1) 232 (wv (List.replicate 256 ((0,0),0,false))).toArray:=by
  have h:=Jm.new (w1.alloc (.cells (Xv fun _=>false) 149)) 232 (wv (List.replicate 256 ((0,0),0,false))).toArray;rw[El] at h;exact h
 have hP0:=Ja (show PI _ w1.heap.size (fun _=>false) (List.replicate 256 ((0,0),0,false)) (Xy (l.take 0)) from ⟨hA1,hA2,by simp,fun o ho=>rfl⟩);have hB0:=Ja (show Bz w ((w1.alloc (.cells (Xv fun _=>false) 149)).alloc (.cells (wv (List.replicate 256 ((0,0),0,false))).toArray 232)) from (hb1.alloc hb1.size _).alloc (by have:=hb1.size;simp;omega) _);obtain⟨g,hg⟩:∃g,g=w1.heap.size:=⟨_,rfl⟩;have HGW:=Ja (show w.heap.size<=g from by rw[hg];exact hb1.size);rw[<-hg] at hP0;clear hA1 hA2 hb1;go_wp2_with fail;rw[<-hg];clear hg;go_loopw [8] (fun v8 wr=>∃(k:Nat) (p:Nat->Bool) (AL:List Wr),v8=.int .i64 k/\k<=n/\Hid (Bz w wr)/\Hid (PI wr g p AL (Xy (l.take k)))) (fun v8 _=>n - (intOf v8).toNat)
 case atStart=>exact⟨0,_,_,rfl,FB _,hB0,hP0⟩
 case round=>
  clear hB0 hP0;obtain⟨k,p,AL,rfl,hk,HB,HP⟩:=hrel;by_cases hlt:k < n
  ·have hkl:k < l.length:=by rw[HL1.out];exact hlt
   obtain⟨b,oo,rfl,hbb,g0,g1,g2,g3⟩:=HW1.out wr HB.out k hkl;have hobj:=HO1.out _ (En hkl);have HA:=(show ∀W,Bz w W->W.cell? ⟨b,oo+k * 4,none⟩=some (.int .i64 l[k].1.1)/\W.cell? ⟨b,oo+k * 4+1,none⟩=some (.int .i64 l[k].1.2)/\W.cell? ⟨b,oo+k * 4+2,none⟩=some (.int .i64 l[k].2.1)/\W.cell? ⟨b,oo+k * 4+3,none⟩=some (.bool l[k].2.2) from fun W hw=>by
    obtain⟨b2,o2,e2,_,h0,h1,h2,h3⟩:=HW1.out W hw k hkl;injection e2 with e2;injection e2 with e3 e4;subst e3 e4;exact⟨h0,h1,h2,h3⟩)
   have htk:=HTK.out k hkl;generalize l[k]=x at HA hobj htk g0 g1 g2 g3;obtain⟨⟨sc,sn⟩,ob,gn⟩:=x;dsimp only at HA hobj htk g0 g1 g2 g3;obtain⟨u,rfl⟩:∃u:Nat,ob=(u:Int):=⟨ob.toNat,by omega⟩;have hu:u < 256:=by omega
   have hu2:(u:Int) < 256:=by omega
   have HA:=Ja HA;have hf':∀o:Nat,o < 256->Xy (l.take (k+1)) o=if o=u then some ((sc,sn),(u:Int),gn) else Xy (l.take k) o:=fun o ho=>by
    rw[htk];by_cases q:o=u
    ·subst q;rw[Ei rfl,Ei rfl]
    ·rw[Ef (by omega),Ef q]
   have cz:=HP.out.flag hu;have fz:=HP.out.has.frozen u;have HF:=Ja hf';clear hobj htk hkl hbb hf';go_upto_region 9 with fail;obtain⟨h1,h2⟩:=HP.out.flagged hu;have hb1:=HB.out.setCell (p:=⟨g,u,none⟩) HGW.out (.bool true);generalize wr.setCell ⟨g,u,none⟩ (.bool true)=w3 at h1 h2 hb1 ⊢;obtain⟨y,c0,c1,c2,c3⟩:=at4 h2 HP.out.len hu;have f0:=h2.frozen (u * 4);have f1:=h2.frozen (u * 4+1);have f2:=h2.frozen (u * 4+2);have f3:=h2.frozen (u * 4+3);have HP4:=Ja (HP.out.put hu ((sc,sn),(u:Int),gn) HF.out h1 h2).drew;have kw:=hb1.drew;have KW4:=Ja (((((hb1.setCell (p:=⟨g+1,u * 4,none⟩) (by have:=HGW.out;show w.heap.size<=g+1;omega) (.int .i64 sc)).setCell (p:=⟨g+1,u * 4+1,none⟩) (by have:=HGW.out;show w.heap.size<=g+1;omega) (.int .i64 sn)).setCell (p:=⟨g+1,u * 4+2,none⟩) (by have:=HGW.out;show w.heap.size<=g+1;omega) (.int .i64 (u:Int))).setCell (p:=⟨g+1,u * 4+3,none⟩) (by have:=HGW.out;show w.heap.size<=g+1;omega) (.bool gn)).drew);clear g0 g1 g2 g3 cz fz h1 hb1;refine Jl fun KK hKK=>?_;refine Eg (S:=(fun W=>W.cell? ⟨b,oo+k * 4,none⟩=some (.int .i64 sc)/\W.cell? ⟨b,oo+k * 4+1,none⟩=some (.int .i64 sn)/\W.cell? ⟨b,oo+k * 4+2,none⟩=some (.int .i64 (u:Int))/\W.cell? ⟨b,oo+k * 4+3,none⟩=some (.bool gn))) (by kernel_rfl) (by first | exact HA.out _ kw) (fun hHeld=>?_);refine Jc 0 28 1 29 (HA.out _ kw) ?_;refine Jc 2 30 3 31 (HA.out _ kw) ?_;refine Jc 4 32 5 33 (HA.out _ kw) ?_;refine Jc 6 34 7 35 (HA.out _ kw) ?_;refine Jc 8 36 9 37 (HA.out _ kw) ?_;refine Qa 10 fun K hK=>?_;go_simp;refine hK.out _ _ (HA.out _ KW4.out) fun hHeld=>?_;clear hK K;refine Es (by kernel_rfl) ?_ _;refine QQ.out (hKK _ _ ?_);clear hHeld;go_wp2;go_roundw
   case rel=>exact⟨k+1,_,_,by go_num,by omega,KW4,HP4⟩
   case measure=>simp[intOf];omega
  ·obtain rfl:k=n:=by omega
   have HP:=Ja (HP.out.same (f':=Xy l) fun o ho=>by rw[Eo (by rw[HL1.out];exact Ek _)]);go_wp2_with fail;go_loopw [9,10] (fun v9 _ wr=>∃(k:Nat) (p:Nat->Bool) (AL:List Wr),v9=.int .i64 k/\k<=m/\Hid (Bz w wr)/\Hid (PI wr g p AL ((t.take k).foldl QZ (Xy l)))) (fun v9 _ _=>m - (intOf v9).toNat)
   case atStart=>exact⟨0,p,AL,rfl,FB _,HB,HP⟩
   case round=>
    clear HB HP hlt;obtain⟨j,p,AL,rfl,hj,HB,HP⟩:=hrel;by_cases hlt:j < m
    ·have hkl:j < t.length:=by rw[HL2.out];exact hlt
     obtain⟨b,oo,rfl,hbb,g0,g1,g2,g3⟩:=HW2.out wr HB.out j hkl;have hobj:=HO2.out _ (En hkl);have HA:=(show ∀W,Bz w W->W.cell? ⟨b,oo+j * 4,none⟩=some (.int .i64 t[j].1.1)/\W.cell? ⟨b,oo+j * 4+1,none⟩=some (.int .i64 t[j].1.2)/\W.cell? ⟨b,oo+j * 4+2,none⟩=some (.int .i64 t[j].2.1)/\W.cell? ⟨b,oo+j * 4+3,none⟩=some (.bool t[j].2.2) from fun W hw=>by
      obtain⟨b2,o2,e2,_,h0,h1,h2,h3⟩:=HW2.out W hw j hkl;injection e2 with e2;injection e2 with e3 e4;subst e3 e4;exact⟨h0,h1,h2,h3⟩)
     have hr:=HRt.out _ (En hkl);have htk:(t.take (j+1)).foldl QZ (Xy l)=QZ ((t.take j).foldl QZ (Xy l)) t[j]:=by rw[Eq hkl,FM];rfl
     generalize t[j]=x at HA hobj htk g0 g1 g2 g3 hr;generalize (t.take j).foldl QZ (Xy l)=f at HP htk;obtain⟨⟨sc,sn⟩,ob,gn⟩:=x;dsimp only at HA hobj g0 g1 g2 g3 hr;obtain⟨u,rfl⟩:∃u:Nat,ob=(u:Int):=⟨ob.toNat,by omega⟩;have hu:u < 256:=by omega
     have hu2:(u:Int) < 256:=by omega
     have HA:=Ja HA;have GR:=fun (W:World)=>G2.out sc sn (u:Int) gn W;rw[hr] at GR;have GR:=Ja GR;have HTF:=Ja htk;clear hobj htk hkl hbb hr;go_wp2_with fail;refine Jd (GR.out _) fun w2 hb2=>?_;have HB:=Ja (Jg HB.out hb2);have HP:=Ja (HP.out.go hb2);obtain⟨g0,g1,g2,g3⟩:=HA.out _ HB.out;clear hb2;obtain⟨y,hy,_⟩:=HP.out.wr hu;have HY:=Ja hy;have hfu:=HP.out.rel u hu;clear hy;cases hpu:p u
     ·have hf':∀o:Nat,o < 256->QZ f ((sc,sn),(u:Int),gn) o=if o=u then some ((sc,sn),(u:Int),gn) else f o:=fun o ho=>by
       by_cases q:o=u
       ·subst q;rw[Ei rfl];exact JnJ (x:=((sc,sn),(o:Int),gn)) (by rw[hfu,hpu];rfl)
       ·rw[Ef q];exact Jci (x:=((sc,sn),(u:Int),gn)) (fun e=>q (by exact Int.ofNat.inj e))
      have HPU:=Ja hpu;clear hfu hpu;have HXX:=Ja (fun (W:World) (hb:Bz w2 W)=>(show (W.cell? ⟨b,oo+j * 4,none⟩=some (.int .i64 sc)/\W.cell? ⟨b,oo+j * 4+1,none⟩=some (.int .i64 sn)/\W.cell? ⟨b,oo+j * 4+2,none⟩=some (.int .i64 (u:Int))/\W.cell? ⟨b,oo+j * 4+3,none⟩=some (.bool gn))/\W.cell? ⟨g,u,none⟩=some (.bool false)/\W.cell? ⟨g+1,u * 4,none⟩=some (.int .i64 y.1.1)/\W.cell? ⟨g+1,u * 4+1,none⟩=some (.int .i64 y.1.2) from ⟨HA.out _ (Jg HB.out hb),by
       obtain⟨y',e,c0,c1,_⟩:=(HP.out.go hb).wr hu;have e2:=HY.out;rw[e] at e2;injection e2 with e2;subst e2;exact⟨by rw[(HP.out.go hb).flag hu,HPU.out],c0,c1⟩⟩))
      have kx:Bz w2 w2.drew:=Zr.drew;go_upto_region 16 with fail;clear g0 g1 g2 g3;refine Jl fun KK hKK=>?_;refine Eg (S:=(fun W=>(W.cell? ⟨b,oo+j * 4,none⟩=some (.int .i64 sc)/\W.cell? ⟨b,oo+j * 4+1,none⟩=some (.int .i64 sn)/\W.cell? ⟨b,oo+j * 4+2,none⟩=some (.int .i64 (u:Int))/\W.cell? ⟨b,oo+j * 4+3,none⟩=some (.bool gn))/\W.cell? ⟨g,u,none⟩=some (.bool false)/\W.cell? ⟨g+1,u * 4,none⟩=some (.int .i64 y.1.1)/\W.cell? ⟨g+1,u * 4+1,none⟩=some (.int .i64 y.1.2))) (by kernel_rfl) (by first | exact HXX.out _ kx) (fun hHeld=>?_);refine Jc 0 55 1 56 (HXX.out _ kx) ?_;refine Jc 2 57 3 58 (HXX.out _ kx) ?_;refine Qx 4 59 (HXX.out _ kx) ?_;refine JB 5 60 (HXX.out _ kx) ?_;refine JB 6 61 (HXX.out _ kx) ?_;refine JB 7 62 (HXX.out _ kx) ?_;refine JB 8 63 (HXX.out _ kx) ?_;refine JB 9 64 (HXX.out _ kx) ?_;refine JB 10 65 (HXX.out _ kx) ?_;refine JB 11 66 (HXX.out _ kx) ?_;refine JB 12 67 (HXX.out _ kx) ?_;refine JB 13 68 (HXX.out _ kx) ?_;refine JB 14 69 (HXX.out _ kx) ?_;refine JB 15 70 (HXX.out _ kx) ?_;refine Qx 16 71 (HXX.out _ kx) ?_;refine Es (by kernel_rfl) ?_ _;refine QQ.out (hKK _ _ ?_);clear hHeld;have cz:=HP.out.flag hu;have fz:=HP.out.has.frozen u;go_upto_region 18 with fail;obtain⟨h1,h2⟩:=(show Jm (w2.setCell ⟨g,u,none⟩ (.bool true)).drew g 149 (Xv (JaD p u true))/\Jm (w2.setCell ⟨g,u,none⟩ (.bool true)).drew (g+1) 232 (wv AL).toArray from HP.out.flagged hu);have hb1:Bz w (w2.setCell ⟨g,u,none⟩ (.bool true)).drew:=(HB.out.setCell (p:=⟨g,u,none⟩) HGW.out (.bool true)).drew;have HP4:=Ja (fun w3 h1 h2=>HP.out.put (w1:=w3) hu ((sc,sn),(u:Int),gn) hf' h1 h2);generalize (w2.setCell ⟨g,u,none⟩ (.bool true)).drew=w3 at h1 h2 hb1 ⊢;obtain⟨y3,c0,c1,c2,c3⟩:=at4 h2 HP.out.len hu;have f0:=h2.frozen (u * 4);have f1:=h2.frozen (u * 4+1);have f2:=h2.frozen (u * 4+2);have f3:=h2.frozen (u * 4+3);have HP4:=Ja (HP4.out w3 h1 h2);have KW4:=Ja ((((hb1.setCell (p:=⟨g+1,u * 4,none⟩) (by have:=HGW.out;show w.heap.size<=g+1;omega) (.int .i64 sc)).setCell (p:=⟨g+1,u * 4+1,none⟩) (by have:=HGW.out;show w.heap.size<=g+1;omega) (.int .i64 sn)).setCell (p:=⟨g+1,u * 4+2,none⟩) (by have:=HGW.out;show w.heap.size<=g+1;omega) (.int .i64 (u:Int))).setCell (p:=⟨g+1,u * 4+3,none⟩) (by have:=HGW.out;show w.heap.size<=g+1;omega) (.bool gn));obtain⟨g0,g1,g2,g3⟩:=HA.out _ hb1;clear cz fz h1 hb1 hf';go_wp2;go_roundw
      case rel=>exact⟨j+1,_,_,by go_num,by omega,KW4,by rw[HTF.out];exact HP4⟩
      case measure=>simp[intOf];omega
     ·have hfy:f (u:Int)=some y:=by rw[hfu,hpu,Ei rfl];exact HY.out
      have GC:=Ja (G3.out y.1.1 y.1.2 sc sn);have HPU:=Ja hpu;clear hfu hpu;have HXX:=Ja (fun (W:World) (hb:Bz w2 W)=>(show (W.cell? ⟨b,oo+j * 4,none⟩=some (.int .i64 sc)/\W.cell? ⟨b,oo+j * 4+1,none⟩=some (.int .i64 sn)/\W.cell? ⟨b,oo+j * 4+2,none⟩=some (.int .i64 (u:Int))/\W.cell? ⟨b,oo+j * 4+3,none⟩=some (.bool gn))/\W.cell? ⟨g,u,none⟩=some (.bool true)/\W.cell? ⟨g+1,u * 4,none⟩=some (.int .i64 y.1.1)/\W.cell? ⟨g+1,u * 4+1,none⟩=some (.int .i64 y.1.2) from ⟨HA.out _ (Jg HB.out hb),by
       obtain⟨y',e,c0,c1,_⟩:=(HP.out.go hb).wr hu;have e2:=HY.out;rw[e] at e2;injection e2 with e2;subst e2;exact⟨by rw[(HP.out.go hb).flag hu,HPU.out],c0,c1⟩⟩))
      have kx:Bz w2 w2.drew:=Zr.drew;go_upto_region 16 with fail;clear g0 g1 g2 g3;refine Jl fun KK hKK=>?_;refine Eg (S:=(fun W=>(W.cell? ⟨b,oo+j * 4,none⟩=some (.int .i64 sc)/\W.cell? ⟨b,oo+j * 4+1,none⟩=some (.int .i64 sn)/\W.cell? ⟨b,oo+j * 4+2,none⟩=some (.int .i64 (u:Int))/\W.cell? ⟨b,oo+j * 4+3,none⟩=some (.bool gn))/\W.cell? ⟨g,u,none⟩=some (.bool true)/\W.cell? ⟨g+1,u * 4,none⟩=some (.int .i64 y.1.1)/\W.cell? ⟨g+1,u * 4+1,none⟩=some (.int .i64 y.1.2))) (by kernel_rfl) (by first | exact HXX.out _ kx) (fun hHeld=>?_);refine Jc 0 55 1 56 (HXX.out _ kx) ?_;refine Jc 2 57 3 58 (HXX.out _ kx) ?_;refine Jc 4 59 5 60 (HXX.out _ kx) ?_;refine Jc 6 61 7 62 (HXX.out _ kx) ?_;refine Jc 8 63 9 64 (HXX.out _ kx) ?_;refine Jc 10 65 11 66 (HXX.out _ kx) ?_;refine Jc 12 67 13 68 (HXX.out _ kx) ?_;refine Qa 14 fun K hK=>?_;go_simp;refine(GC.out _).mono ?_;rintro e w5 ⟨z,rfl,hz5,hb5⟩;have kx:=Jg kx hb5;refine hK.out _ _ (HXX.out _ kx) fun hHeld=>?_;clear hK K hb5;refine Jc 15 70 16 71 (HXX.out _ kx) ?_;refine Es (by kernel_rfl) ?_ _;refine QQ.out (hKK _ _ ?_);clear hHeld;clear hz5;cases hst:Kz (y.1.1,y.1.2) (sc,sn)
      ·have hf':∀o:Nat,o < 256->QZ f ((sc,sn),(u:Int),gn) o=f o:=fun o ho=>by
        by_cases q:o=u
        ·subst q;exact JnK (x:=((sc,sn),(o:Int),gn)) hfy hst
        ·exact Jci (x:=((sc,sn),(u:Int),gn)) (fun e=>q (by exact Int.ofNat.inj e))
       have HP4:=Ja ((HP.out.go kx).same hf');have KW4:=Ja (Jg HB.out kx);clear hfy hf';go_wp2;go_roundw
       case rel=>exact⟨j+1,_,_,by go_num,by omega,KW4,by rw[HTF.out];exact HP4⟩
       case measure=>simp[intOf];omega
      ·have hf':∀o:Nat,o < 256->QZ f ((sc,sn),(u:Int),gn) o=if o=u then some ((sc,sn),(u:Int),gn) else f o:=fun o ho=>by
        by_cases q:o=u
        ·subst q;rw[Ei rfl];exact Jng (x:=((sc,sn),(o:Int),gn)) hfy hst
        ·rw[Ef q];exact Jci (x:=((sc,sn),(u:Int),gn)) (fun e=>q (by exact Int.ofNat.inj e))
       clear hfy;have HP:=Ja (HP.out.go kx);have HB:=Ja (Jg HB.out kx);have cz:=HP.out.flag hu;have fz:=HP.out.has.frozen u;go_upto_region 18 with fail;obtain⟨h1,h2⟩:=(show Jm (w5.setCell ⟨g,u,none⟩ (.bool true)) g 149 (Xv (JaD p u true))/\Jm (w5.setCell ⟨g,u,none⟩ (.bool true)) (g+1) 232 (wv AL).toArray from HP.out.flagged hu);have hb1:Bz w (w5.setCell ⟨g,u,none⟩ (.bool true)):=(HB.out.setCell (p:=⟨g,u,none⟩) HGW.out (.bool true));have HP4:=Ja (fun w3 h1 h2=>HP.out.put (w1:=w3) hu ((sc,sn),(u:Int),gn) hf' h1 h2);generalize (w5.setCell ⟨g,u,none⟩ (.bool true))=w3 at h1 h2 hb1 ⊢;obtain⟨y3,c0,c1,c2,c3⟩:=at4 h2 HP.out.len hu;have f0:=h2.frozen (u * 4);have f1:=h2.frozen (u * 4+1);have f2:=h2.frozen (u * 4+2);have f3:=h2.frozen (u * 4+3);have HP4:=Ja (HP4.out w3 h1 h2);have KW4:=Ja ((((hb1.setCell (p:=⟨g+1,u * 4,none⟩) (by have:=HGW.out;show w.heap.size<=g+1;omega) (.int .i64 sc)).setCell (p:=⟨g+1,u * 4+1,none⟩) (by have:=HGW.out;show w.heap.size<=g+1;omega) (.int .i64 sn)).setCell (p:=⟨g+1,u * 4+2,none⟩) (by have:=HGW.out;show w.heap.size<=g+1;omega) (.int .i64 (u:Int))).setCell (p:=⟨g+1,u * 4+3,none⟩) (by have:=HGW.out;show w.heap.size<=g+1;omega) (.bool gn));obtain⟨g0,g1,g2,g3⟩:=HA.out _ hb1;clear cz fz h1 hb1 hf';go_wp2;go_roundw
       case rel=>exact⟨j+1,_,_,by go_num,by omega,KW4,by rw[HTF.out];exact HP4⟩
       case measure=>simp[intOf];omega
    ·obtain rfl:j=m:=by omega
     have HP:=Ja (HP.out.same (f':=t.foldl QZ (Xy l)) fun o ho=>by rw[Eo (by rw[HL2.out];exact Ek _)]);have HPS:=Ja (show XJ l t=lsO (t.foldl QZ (Xy l)) from rfl);generalize t.foldl QZ (Xy l)=f at HP HPS;have HO:=Ja (ED wr (g+1+1) 70 4);clear hlt;go_wp2_with fail;go_loopw [11,12] (fun v11 v12 wr=>∃(k q c':Nat) (A':OA) (Y:List Wr),v12=.int .i64 k/\v11=.slice A' q c'/\k<=256/\q<=k/\Hid (Y.length=q)/\Hid (Y=(List.range k).filterMap fun n:Nat=>f (n:Int))/\Hid (wr.ownsRow (g+1+1) 70 4 (.slice A' q c') q (wv Y))/\Hid (PI wr g p AL f)/\Hid (Bz w wr)) (fun _ v12 _=>256 - (intOf v12).toNat)
     case atStart=>exact⟨0,0,0,none,[],rfl,rfl,by omega,by omega,Ja rfl,Ja rfl,HO,HP,HB⟩
     case round=>
      clear HB HP HO;obtain⟨k,q,c',A',Y,rfl,rfl,hk,hqk,HYL,HY,HO,HP,HB⟩:=hrel;by_cases hlt:k < 256
      ·have hk2:(k:Int) < 256:=by omega
       have cz:=HP.out.flag hlt;obtain⟨y,hy,c0,c1,c2,c3⟩:=HP.out.wr hlt;have hf:=HP.out.rel k hlt;have hYs:(List.range (k+1)).filterMap (fun n:Nat=>f (n:Int))=(List.range k).filterMap (fun n:Nat=>f (n:Int))++(f (k:Int)).toList:=by
        rw[NM,List.filterMap_append];congr 1
       rw[hy] at hf;cases hpk:p k
       ·rw[hpk] at cz hf;have HN:=Ja (show Y=(List.range (k+1)).filterMap (fun n:Nat=>f (n:Int)) from by rw[hYs,hf,HY.out];simp);clear hy hf hYs hpk c0 c1 c2 c3;go_wp2;go_roundw
        case rel=>exact⟨k+1,q,c',A',Y,by go_num,rfl,by omega,by omega,HYL,HN,HO,HP,HB⟩
        case measure=>simp[intOf];omega
       ·rw[hpk] at cz hf;have HN:=Ja (show Y++[y]=(List.range (k+1)).filterMap (fun n:Nat=>f (n:Int)) from by rw[hYs,hf,HY.out];rfl);have ka:=(Ec wr.heap.size wr).alloc Zl (.cells #[.int .i64 y.1.1,.int .i64 y.1.2,.int .i64 y.2.1,.bool y.2.2] 70);have hg2:g+1+1<=wr.heap.size:=HP.out.at_.lt;have HO1:=Ja (Jf HO.out ka Zl);have HP1:=Ja (HP.out.go ka);have HB1:=Ja (Jg HB.out ka);have HRN:=Ja (Rd.new wr 70 4 1 #[.int .i64 y.1.1,.int .i64 y.1.2,.int .i64 y.2.1,.bool y.2.2] rfl h1max);have hgw:=HGW.out;have h63:q+1<=maxLen:=by unfold maxLen;omega
        clear hy hf hYs hpk ka;go_wp2_with (at_builtin;go_must (refine Jh _ rfl (.tmp 87) (.tmp 91) _ rfl (g+1+1) 70 i0 _ 4 32 underlying24 hi0 hzz0 hzz1 hzz2 rfl (by decide) (.slice A' q c') q (wv Y) rfl HO1.out _ (some ⟨wr.heap.size,0,none⟩) 1 1 _ rfl HRN.out (by simp[Value.oneCell']) h63 (by omega) (by simp;omega) ?_);intro A3 c3' w3 ho3 hg3 hat3);have HP3:=Ja (show PI w3 g p AL f from ⟨HP1.out.has.grown hg3 (fun e=>by have:=(HO1.out.lt _ e.symm).1;omega),HP1.out.at_.grown hg3 (fun e=>by have:=(HO1.out.lt _ e.symm).1;omega),HP1.out.len,HP1.out.rel⟩);have HB3:=Ja (HB1.out.trans (Jb hg3 HB1.out.size (fun r hr=>by have:=(HO1.out.lt r hr).1;omega)));have HO3:=Ja (show w3.ownsRow (g+1+1) 70 4 (.slice A3 (q+1) c3') (q+1) (wv (Y++[y])) from by rw[Jbu];exact ho3);clear ho3 hg3 hat3 c0 c1 c2 c3;go_wp2;go_roundw
        case rel=>exact⟨k+1,q+1,c3',A3,Y++[y],by go_num,rfl,by omega,by omega,Ja (by rw[Eb,HYL.out];rfl),HN,HO3,HP3,HB3⟩
        case measure=>simp[intOf];omega
      ·obtain rfl:k=256:=by omega
       have HE:=Ja (show Y=XJ l t from by rw[HY.out,HPS.out];rfl);go_wp2;go_ret2;have e:=HE.out;subst e;have e2:=HYL.out;subst e2;exact⟨A',c',rfl,Rd.of_own HO.out,HB.out⟩
end Go.Proofs.YtmbeahbgafkjfaaGreatDoor
