/- Lemmas, layer 28. -/
import Derived.Test.YtmbeahbgafkjfaaGreatDoorKp27
set_option maxRecDepth 100000
set_option linter.unusedSimpArgs false
set_option maxHeartbeats 16000000
open Go.Proofs.Tryz Go.RowKit
namespace Go.Proofs.YtmbeahbgafkjfaaGreatDoor
section
theorem Jhh (w:World) (G m c:Nat) (hc:∀j,j < (m+1) * 4->(w.cell? ⟨G,j,none⟩).isSome=true) (hf:∀j,w.frozen? ⟨G,j,none⟩=false):
  ∃vs,∀ty,(Builtin.clear_ #[33] ty #[.slice (some ⟨G,m * 4,none⟩) 1 c]).run prog w=.ok (.tuple #[]) (w.setCells G (m * 4) vs):=by
 have hz:∀w,(zeroValue 31).run prog w=.ok (.agg #[.int .i64 0,.int .i64 0,.int .i64 0,.slice none 0 0]) w:=fun _=>by kernel_rfl
 obtain⟨vs,hvs⟩:∃vs,vs=(Builtin.zeroCells (Value.agg #[.int .i64 0,.int .i64 0,.int .i64 0,.slice none 0 0]).cells 1).toList:=⟨_,rfl⟩;have hv2:vs=#[.int .i64 0,.int .i64 0,.int .i64 0,.slice none 0 0].toList:=by rw[hvs];first | kernel_rfl | (simp[Builtin.zeroCells,Value.cells];done) | rfl
 have hlen:vs.length=4:=by rw[hv2];rfl
 have hone:∀v∈vs,v.oneCell'=true:=by
  rw[hv2];intro v hv;simp only[EE,Gd,Rb] at hv;rcases hv with rfl | rfl | rfl | rfl<;>rfl
 have hst:=Nw (P:=prog) G (m * 4) vs 0 w (by rw[hlen];intro j hj;exact hc (m * 4+j) (by omega)) (fun j _=>hf _) hone;simp only[Nat.add_zero] at hst;refine⟨vs,fun ty=>?_⟩;simp[Builtin.clear_,FR underlying33,hz,<-hvs,hst]
theorem Jf5 (base G m c i:Nat) (xs:List Value) (w:World) (ho:w.ownsRow base 31 4 (.slice (some ⟨G,0,none⟩) (m+1) c) (m+1) xs) (h1:∀u∈xs,u.oneCell'=true) (hi:i<=m) (hn:m<=1000000):
  Calls prog 146 #[.slice (some ⟨G,0,none⟩) (m+1) c,.int .i64 i,.int .i64 ((i:Int)+1)] w fun e w'=>e=.returned (.slice (some ⟨G,0,none⟩) m c)/\w'.ownsRow base 31 4 (.slice (some ⟨G,0,none⟩) m c) m (xs.take (i * 4)++xs.drop ((i+1) * 4))/\w.grownBy w' (some G):=by
 obtain⟨i0,hi0,hz0,hz1,hz2⟩:=EN Ye;have hcap:=XP ho;have hlen:=ho.1;obtain⟨m1,hm1⟩:∃m1,m1=m+1:=⟨_,rfl⟩;rw[<-hm1] at ho hcap hlen ⊢;obtain⟨F1,hF1⟩:∃F1,F1=Qu 4 (some ⟨G,0,none⟩) c (i+1):=⟨_,rfl⟩;have hF2:F1=if c=i+1 then some ⟨G,0,none⟩ else some ⟨G,(i+1) * 4,none⟩:=by rw[hF1];unfold Qu;split<;>simp[Addr.add]
 have hmk:m * 4<=m1 * 4:=Ff _ (by omega);have hik:(i+1) * 4<=m1 * 4:=Ff _ (by omega);have hdl:(xs.drop ((i+1) * 4)).length=(m1 - (i+1)) * 4:=by rw[EP,hlen,<-Ft]
 have hsrc:Src prog 4 33 (.slice F1 (m1 - (i+1)) (c - (i+1))) (m1 - (i+1)) (xs.drop ((i+1) * 4)) w.drew:=by
  have hr:=(Rd.of_own ho).from_ (k:=i+1) (by omega);rw[<-hF1] at hr;by_cases hz:m1 - (i+1)=0
  ·have h0:xs.drop ((i+1) * 4)=[]:=FV.1 (by rw[hdl,hz,NE]);rw[hz,h0];obtain⟨a,ha⟩:∃a,F1=some a:=by
    rw[hF1];unfold Qu;split
    ·exact⟨_,rfl⟩
    ·exact⟨_,rfl⟩
   rw[ha];exact Src.ofSlice _ underlying33 a 0 _ [] rfl (fun j u hj=>by cases hj) (fun u hu=>by cases hu)
  ·obtain⟨ad,e1,_,hc⟩:=hr.at0 (by omega);rw[e1];exact Src.ofSlice _ underlying33 ad _ _ _ hdl (fun j u hj=>hc j u hj) (fun u hu=>h1 u (Fu hu))
 have hA:=XD (xs.drop ((i+1) * 4)) (i * 4) w.drew xs ho (by rw[hdl,hlen,Ft];omega);have hcs:∀j,j < (xs.drop ((i+1) * 4)).length->(w.drew.cell? ⟨G,0+i * i0.size+j,none⟩).isSome=true:=fun j hj=>by
  rw[hz1,EU];rw[hdl,Ft] at hj;have:=ho.cellAt (i * 4+j) (by omega);show (w.cell? _).isSome=true;rw[this,Em (by omega)];rfl
 have hfs:∀j,j < (xs.drop ((i+1) * 4)).length->w.drew.frozen? ⟨G,0+i * i0.size+j,none⟩=false:=fun j _=>ho.frozenAt _;obtain⟨W1,hW1⟩:∃W1,W1=w.drew.setCells G (i * 4) (xs.drop ((i+1) * 4)):=⟨_,rfl⟩;rw[<-hW1] at hA;obtain⟨vs,hcl⟩:=Jhh W1 G m (c - m) (fun j hj=>by
  have:=hA.1.cellAt j (by rw[hm1];exact hj);rw[this,Em (by rw[hA.1.1,hm1];exact hj)];rfl) (fun j=>hA.1.frozenAt j)
 rw[show 1=m1 - m by omega] at hcl;have hB:=Jc3 vs (m * 4) W1 _ (Jfs hA.1 (m:=m) (by omega)) (by rw[Et];exact Nat.min_le_left _ _);have hne:¬ (i:Int)=(i:Int)+1:=by omega
 have hneb:((i:Int) == (i:Int)+1)=false:=FX.2 hne;have hsum:i+(m1 - (i+1))=m:=by omega
 have hic:i<=c:=by omega
 have hi0':(0:Int)<=(i:Int)+1:=by omega
 have hcm:¬ c=m:=by omega
 have him:i+1<=m1:=by omega
 have hmm:m<=m1:=by omega
 have him':(i:Int)+1<=(m1:Int):=by omega
 have hF3:=hF2.symm;have HB:=Ja hB;have HA:=Ja hA.2;have HSRC:=Ja hsrc;have HCS:=Ja hcs;have HFS:=Ja hfs;have HCL:=Ja hcl;have HW1:=Ja hW1.symm;have HLEN:=Ja hlen;have HM1:=Ja hm1;have cw:IntKind.i64.wrap ((i:Int)+1)=(i:Int)+1:=by rw[IntKind.wrap_i64];omega
 clear hB hA hsrc hcs hfs hW1 hlen hF1 hF2 hm1 hdl hmk hik h1 hcl;go_enter func146,ntmps146;go_upto_region 5 with fail;refine Jl fun KK hKK=>?_;refine Eg (S:=(fun _=>True)) (by kernel_rfl) (by first | trivial) (fun hHeld=>?_);refine Jc 0 20 1 21 trivial ?_;refine Jc 2 22 3 23 trivial ?_;refine Qx 4 24 trivial ?_;refine puB 5 25 ((.slice F1 (m1 - (i+1)) (c - (i+1)))) trivial ?_;refine Qa 6 fun K hK=>?_;rw[Ei (by kernel_rfl)];refine Ux _ (.tmp 22) (.tmp 25) 33 33 rfl 31 i0 underlying33 hi0 G 0 i c rfl _ rfl (m1 - (i+1)) _ (by rw[hz1];exact HSRC.out) (by omega) HCS.out HFS.out ?_;rw[show 0+i * i0.size=i * 4 by rw[hz1,EU],HW1.out,hsum];refine hK.out _ _ trivial fun hHeld=>?_;clear hK K;refine Qx 7 0 trivial ?_;refine Es (by kernel_rfl) ?_ _;refine QQ.out (hKK _ _ ?_);have hcl:=HCL.out;go_wp2;go_ret;refine⟨rfl,?_,Ud (HA.out.trans HB.out.2)⟩;have h:=HB.out.1;rw[ET (by rw[Eb,Et,EP,HLEN.out,HM1.out];simp only[Gq];omega),Eo (by rw[Eb,Et,EP,HLEN.out,HM1.out];simp only[Gq];omega)] at h;exact h
theorem Jf0:∀w,(Go.sizeOf 65).run prog w=.ok 7 w:=fun _=>by kernel_rfl
theorem JjK (w:World) (G m c:Nat) (hc:∀j,j < (m+1) * 7->(w.cell? ⟨G,j,none⟩).isSome=true) (hf:∀j,w.frozen? ⟨G,j,none⟩=false):
  ∃vs,∀ty,(Builtin.clear_ #[36] ty #[.slice (some ⟨G,m * 7,none⟩) 1 c]).run prog w=.ok (.tuple #[]) (w.setCells G (m * 7) vs):=by
 have hz:∀w,(zeroValue 65).run prog w=.ok (.agg #[.int .i64 0,.slice none 0 0,.int .i64 0,.int .i64 0,.bool false,.bool false,.bool false]) w:=fun _=>by kernel_rfl
 obtain⟨vs,hvs⟩:∃vs,vs=(Builtin.zeroCells (Value.agg #[.int .i64 0,.slice none 0 0,.int .i64 0,.int .i64 0,.bool false,.bool false,.bool false]).cells 1).toList:=⟨_,rfl⟩;have hv2:vs=#[.int .i64 0,.slice none 0 0,.int .i64 0,.int .i64 0,.bool false,.bool false,.bool false].toList:=by rw[hvs];first | kernel_rfl | (simp[Builtin.zeroCells,Value.cells];done) | rfl
 have hlen:vs.length=7:=by rw[hv2];rfl
 have hone:∀v∈vs,v.oneCell'=true:=by
  rw[hv2];intro v hv;simp only[EE,Gd,Rb] at hv;rcases hv with rfl | rfl | rfl | rfl | rfl | rfl | rfl<;>rfl
 have hst:=Nw (P:=prog) G (m * 7) vs 0 w (by rw[hlen];intro j hj;exact hc (m * 7+j) (by omega)) (fun j _=>hf _) hone;simp only[Nat.add_zero] at hst;refine⟨vs,fun ty=>?_⟩;simp[Builtin.clear_,FR underlying36,hz,<-hvs,hst]
theorem Jis (base G m c i:Nat) (xs:List Value) (w:World) (ho:w.ownsRow base 65 7 (.slice (some ⟨G,0,none⟩) (m+1) c) (m+1) xs) (h1:∀u∈xs,u.oneCell'=true) (hi:i<=m) (hn:m<=1000000):
  Calls prog 74 #[.slice (some ⟨G,0,none⟩) (m+1) c,.int .i64 i,.int .i64 ((i:Int)+1)] w fun e w'=>e=.returned (.slice (some ⟨G,0,none⟩) m c)/\w'.ownsRow base 65 7 (.slice (some ⟨G,0,none⟩) m c) m (xs.take (i * 7)++xs.drop ((i+1) * 7))/\w.grownBy w' (some G):=by
 obtain⟨i0,hi0,hz0,hz1,hz2⟩:=EN Yk;have hcap:=XP ho;have hlen:=ho.1;obtain⟨m1,hm1⟩:∃m1,m1=m+1:=⟨_,rfl⟩;rw[<-hm1] at ho hcap hlen ⊢;obtain⟨F1,hF1⟩:∃F1,F1=Qu 7 (some ⟨G,0,none⟩) c (i+1):=⟨_,rfl⟩;have hF2:F1=if c=i+1 then some ⟨G,0,none⟩ else some ⟨G,(i+1) * 7,none⟩:=by rw[hF1];unfold Qu;split<;>simp[Addr.add]
 have hmk:m * 7<=m1 * 7:=Ff _ (by omega);have hik:(i+1) * 7<=m1 * 7:=Ff _ (by omega);have hdl:(xs.drop ((i+1) * 7)).length=(m1 - (i+1)) * 7:=by rw[EP,hlen,<-Ft]
 have hsrc:Src prog 7 36 (.slice F1 (m1 - (i+1)) (c - (i+1))) (m1 - (i+1)) (xs.drop ((i+1) * 7)) w.drew:=by
  have hr:=(Rd.of_own ho).from_ (k:=i+1) (by omega);rw[<-hF1] at hr;by_cases hz:m1 - (i+1)=0
  ·have h0:xs.drop ((i+1) * 7)=[]:=FV.1 (by rw[hdl,hz,NE]);rw[hz,h0];obtain⟨a,ha⟩:∃a,F1=some a:=by
    rw[hF1];unfold Qu;split
    ·exact⟨_,rfl⟩
    ·exact⟨_,rfl⟩
   rw[ha];exact Src.ofSlice _ underlying36 a 0 _ [] rfl (fun j u hj=>by cases hj) (fun u hu=>by cases hu)
  ·obtain⟨ad,e1,_,hc⟩:=hr.at0 (by omega);rw[e1];exact Src.ofSlice _ underlying36 ad _ _ _ hdl (fun j u hj=>hc j u hj) (fun u hu=>h1 u (Fu hu))
 have hA:=XD (xs.drop ((i+1) * 7)) (i * 7) w.drew xs ho (by rw[hdl,hlen,Ft];omega);have hcs:∀j,j < (xs.drop ((i+1) * 7)).length->(w.drew.cell? ⟨G,0+i * i0.size+j,none⟩).isSome=true:=fun j hj=>by
  rw[hz1,EU];rw[hdl,Ft] at hj;have:=ho.cellAt (i * 7+j) (by omega);show (w.cell? _).isSome=true;rw[this,Em (by omega)];rfl
 have hfs:∀j,j < (xs.drop ((i+1) * 7)).length->w.drew.frozen? ⟨G,0+i * i0.size+j,none⟩=false:=fun j _=>ho.frozenAt _;obtain⟨W1,hW1⟩:∃W1,W1=w.drew.setCells G (i * 7) (xs.drop ((i+1) * 7)):=⟨_,rfl⟩;rw[<-hW1] at hA;obtain⟨vs,hcl⟩:=JjK W1 G m (c - m) (fun j hj=>by
  have:=hA.1.cellAt j (by rw[hm1];exact hj);rw[this,Em (by rw[hA.1.1,hm1];exact hj)];rfl) (fun j=>hA.1.frozenAt j)
 rw[show 1=m1 - m by omega] at hcl;have hB:=Jc3 vs (m * 7) W1 _ (Jfs hA.1 (m:=m) (by omega)) (by rw[Et];exact Nat.min_le_left _ _);have hne:¬ (i:Int)=(i:Int)+1:=by omega
 have hneb:((i:Int) == (i:Int)+1)=false:=FX.2 hne;have hsum:i+(m1 - (i+1))=m:=by omega
 have hic:i<=c:=by omega
 have hi0':(0:Int)<=(i:Int)+1:=by omega
 have hcm:¬ c=m:=by omega
 have him:i+1<=m1:=by omega
 have hmm:m<=m1:=by omega
 have him':(i:Int)+1<=(m1:Int):=by omega
 have hF3:=hF2.symm;have HB:=Ja hB;have HA:=Ja hA.2;have HSRC:=Ja hsrc;have HCS:=Ja hcs;have HFS:=Ja hfs;have HCL:=Ja hcl;have HW1:=Ja hW1.symm;have HLEN:=Ja hlen;have HM1:=Ja hm1;have cw:IntKind.i64.wrap ((i:Int)+1)=(i:Int)+1:=by rw[IntKind.wrap_i64];omega
 clear hB hA hsrc hcs hfs hW1 hlen hF1 hF2 hm1 hdl hmk hik h1 hcl;go_enter func74,ntmps74;go_upto_region 5 with fail;refine Jl fun KK hKK=>?_;refine Eg (S:=(fun _=>True)) (by kernel_rfl) (by first | trivial) (fun hHeld=>?_);refine Jc 0 20 1 21 trivial ?_;refine Jc 2 22 3 23 trivial ?_;refine Qx 4 24 trivial ?_;refine puB 5 25 ((.slice F1 (m1 - (i+1)) (c - (i+1)))) trivial ?_;refine Qa 6 fun K hK=>?_;rw[Ei (by kernel_rfl)];refine Ux _ (.tmp 22) (.tmp 25) 36 36 rfl 65 i0 underlying36 hi0 G 0 i c rfl _ rfl (m1 - (i+1)) _ (by rw[hz1];exact HSRC.out) (by omega) HCS.out HFS.out ?_;rw[show 0+i * i0.size=i * 7 by rw[hz1,EU],HW1.out,hsum];refine hK.out _ _ trivial fun hHeld=>?_;clear hK K;refine Qx 7 0 trivial ?_;refine Es (by kernel_rfl) ?_ _;refine QQ.out (hKK _ _ ?_);have hcl:=HCL.out;go_wp2;go_ret;refine⟨rfl,?_,Ud (HA.out.trans HB.out.2)⟩;have h:=HB.out.1;rw[ET (by rw[Eb,Et,EP,HLEN.out,HM1.out];simp only[Gq];omega),Eo (by rw[Eb,Et,EP,HLEN.out,HM1.out];simp only[Gq];omega)] at h;exact h
theorem Ke:∀w,(Go.sizeOf 70).run prog w=.ok 4 w:=fun _=>by kernel_rfl
theorem JhE (base n c g d:Nat) (A:OA) (xs ys:List Value) (w:World) (ho:w.ownsRow base 70 4 (.slice A n c) n xs) (hb:base<=w.heap.size) (hn:n<=1000000)
  (hB:Jm w g 70 ys.toArray) (hyl:ys.length=4) (hy:∀u∈ys,u.oneCell'=true) (hd:1<=d) (hdm:d<=maxLen):
  Calls prog 191 #[.slice A n c,.int .i64 n,.slice (some ⟨g,0,none⟩) 1 d] w fun e w'=>∃A' c',e=.returned (.slice A' (n+1) c')/\w'.ownsRow base 70 4 (.slice A' (n+1) c') (n+1) (xs++ys)/\w.grownBy w' (Value.slice A n c).ownBlock:=by
 obtain⟨is0,hsi0,hsz0,hsz1,hsz2⟩:=EN XC;have hnm:n+1<=maxLen:=by unfold maxLen;omega
 have hcap:=XP ho;have HR:=Ja (show Rd w w.heap.size 4 (some ⟨g,0,none⟩) 1 d ys from ⟨by rw[hyl,Rn],hd,hdm,(fun h=>by cases h),fun _=>⟨_,rfl,hB.lt,fun j u hj=>by
  show w.cell? ((⟨g,0,none⟩:Addr).add j)=_;rw[FQ,EU,hB.cell j,FE];exact hj⟩⟩)
 have HO:=Ja ho;have HY:=Ja hy;clear ho hB hyl hy;have c0:=fun W=>Yh (P:=prog) W 24 70 4 underlying24 Ke A n c .i64 n n rfl (Ek n);go_enter func191,ntmps191;go_wp2_with (at_builtin;go_must (refine Jh _ rfl (.tmp 23) (.tmp 24) _ rfl base 70 is0 _ 4 32 underlying24 hsi0 hsz0 hsz1 hsz2 rfl (by decide) (.slice A n c) n xs rfl HO.out w.heap.size (some ⟨g,0,none⟩) 1 d ys rfl HR.out HY.out hnm (by omega) hb ?_);intro A' c' w1 hown hg hat);go_ret;exact⟨A',c',rfl,hown,hg⟩
theorem JhI (base G n c i g d:Nat) (xs ys:List Value) (w:World) (ho:w.ownsRow base 70 4 (.slice (some ⟨G,0,none⟩) n c) n xs) (h1:∀u∈xs,u.oneCell'=true) (hn:n<=1000000) (hi:i < n) (hroom:n < c)
  (hB:Jm w g 70 ys.toArray) (hyl:ys.length=4) (hy:∀u∈ys,u.oneCell'=true) (hgG:g≠G):
  Calls prog 191 #[.slice (some ⟨G,0,none⟩) n c,.int .i64 i,.slice (some ⟨g,0,none⟩) 1 d] w fun e w'=>e=.returned (.slice (some ⟨G,0,none⟩) (n+1) c)/\w'.ownsRow base 70 4 (.slice (some ⟨G,0,none⟩) (n+1) c) (n+1) (xs.take (i * 4)++(ys++xs.drop (i * 4)))/\w.grownBy w' (some G):=by
 have hcap:=XP ho;obtain⟨zs,hzl,hM⟩:=Jgr ho hroom;have hlen:=ho.1;have hnk:(n+1) * 4=n * 4+4:=by omega
 have hik:i * 4+4<=n * 4:=by omega
 have hdl:(xs.drop (i * 4)).length=(n - i) * 4:=by rw[EP,hlen,<-Ft]
 have hs1:(prog.info? 70).map (·.size)=some 4:=by
  obtain⟨i0,hi0,_,h,_⟩:=EN XC;rw[hi0];simp[h]
 have hA:=XD (xs.drop (i * 4)) ((i+1) * 4) w.drew (xs++zs) hM (by rw[hdl,Eb,hlen,hzl,Ft];omega);obtain⟨W1,hW1⟩:∃W1,W1=w.drew.setCells G ((i+1) * 4) (xs.drop (i * 4)):=⟨_,rfl⟩;rw[<-hW1] at hA;have hcp1:∀ty dl dc sl sc,dl=n - i->sl=n+1 - i->(Builtin.copy_ #[24,24] ty #[.slice (some ⟨G,(i+1) * 4,none⟩) dl dc,.slice (some ⟨G,i * 4,none⟩) sl sc]).run prog w.drew=.ok (goInt (n - i:Nat)) W1:=fun ty dl dc sl sc e1 e2=>by
  subst e1 e2;rw[hW1];exact Xx w.drew _ _ ty 70 4 G ((i+1) * 4) (n - i) dc ⟨G,i * 4,none⟩ (n+1 - i) sc (n - i) (xs.drop (i * 4)) underlying24 hs1 (by simp only[Nat.min_def];split<;>omega) hdl
   (fun j v hj=>by
    rw[FQ];rw[Nk] at hj;have hjl:i * 4+j < xs.length:=by
     rcases FI (i * 4+j) xs.length with h | h
     ·exact h
     ·rw[Fy h] at hj;cases hj
    exact(ho.cellAt (i * 4+j) (by omega)).trans hj)
   (fun j hj=>by
    rw[hdl,Ft] at hj;have:=hM.cellAt ((i+1) * 4+j) (by omega);show (w.cell? _).isSome=true;rw[this,Em (by rw[Eb,hlen,hzl];omega)];rfl)
   (fun j _=>hM.frozenAt _) (fun v hv=>h1 v (Fu hv))
 have hg1:W1.heap[g]?=w.heap[g]?:=hA.2.block g hB.lt (fun e=>hgG (Fq e));have hB1:Jm W1 g 70 ys.toArray:=hg1.trans hB;have hB2:=XD ys (i * 4) W1 _ hA.1 (by
  rw[hA.1.1,hyl];omega)
 have hcp2:∀ty dl dc,dl=n+1 - i->(Builtin.copy_ #[24,24] ty #[.slice (some ⟨G,i * 4,none⟩) dl dc,.slice (some ⟨g,0,none⟩) 1 d]).run prog W1=.ok (goInt (1:Nat)) (W1.setCells G (i * 4) ys):=fun ty dl dc e1=>
  Xx W1 _ _ ty 70 4 G (i * 4) dl dc ⟨g,0,none⟩ 1 d 1 ys underlying24 hs1 (by simp only[Nat.min_def];split<;>omega) (by rw[hyl])
   (fun j v hj=>by rw[FQ,EU,hB1.cell j,FE];exact hj)
   (fun j hj=>by
    have:=hA.1.cellAt (i * 4+j) (by omega);rw[this,Em (by rw[hA.1.1];omega)];rfl)
   (fun j _=>hA.1.frozenAt _) hy
 have hov:∀lb cb,(callFunc 215 #[.slice (some ⟨g,0,none⟩) 1 d,.slice (some ⟨G,(i+1) * 4,none⟩) lb cb]).run prog w=.ok (.value (.bool false)) w:=fun lb cb=>by
  have hsh:∀{b:Nat} {cs:Array Value} {t:TypeId},w.heap[b]?=some (.cells cs t (0,0))->w.shape? b=some (t,cs.size):=fun h=>by unfold World.shape?;rw[h]
  obtain⟨cur,hG,hcs⟩:∃cur,w.heap[G]?=some (.cells cur 70 (0,0))/\cur.size=c * 4:=by
   obtain⟨_,h | ⟨g',cap,cur,hv,_,hg',_,_,hcs,_⟩⟩:=ho
   ·exact absurd h.1 (by simp)
   ·injection hv with e1 _ e3;injection e1 with e1;injection e1 with e1;subst e1 e3;exact⟨cur,hg',hcs⟩
  rw[run_callFunc_extern func215 (by kernel_rfl) (by kernel_rfl) (by kernel_rfl) (e:=Extern.SlicesOverlaps.overlaps #[24,24] #[4]) (by kernel_rfl),
   Lib.run_overlaps_apart w 24 4 70 underlying24 4 Ke ⟨g,0,none⟩ ⟨G,(i+1) * 4,none⟩ 1 d lb cb hgG _ _ _ _ (hsh hB) (hsh hG) (by omega) (hB.frozen _) (hB.frozen _)]
  rfl
 have hE:=hB2.1;have e0:((xs++zs).take ((i+1) * 4)++xs.drop (i * 4)++(xs++zs).drop ((i+1) * 4+(xs.drop (i * 4)).length)).take (i * 4)++ys++((xs++zs).take ((i+1) * 4)++xs.drop (i * 4)++(xs++zs).drop ((i+1) * 4+(xs.drop (i * 4)).length)).drop (i * 4+ys.length)=xs.take (i * 4)++ys++xs.drop (i * 4):=by
  have a1:((xs++zs).take ((i+1) * 4)).length=(i+1) * 4:=by rw[Et,Eb,hlen];omega
  have a2:(xs++zs).drop ((i+1) * 4+(xs.drop (i * 4)).length)=[]:=Nl (by rw[Eb,hdl,hlen,hzl,Ft];omega);rw[a2,EG,hyl,show i * 4+4=(i+1) * 4 by omega,ET (by rw[a1];omega),GE,FK (by omega),ET (by omega),FY (by rw[a1];omega),Ed (by rw[a1];omega),List.nil_append]
 rw[e0] at hE;have HE:=Ja hE;have HA:=Ja (Ud (hA.2.trans hB2.2));have HC1:=Ja hcp1;have HC2:=Ja hcp2;have HOV:=Ja hov;have hz2:¬ ((i:Int)=(n:Int)):=by omega
 have hw1:IntKind.i64.wrap ((i:Int)+1)=(i:Int)+1:=by rw[IntKind.wrap_i64];omega
 have hw2:IntKind.i64.wrap ((n:Int)+1)=(n:Int)+1:=by rw[IntKind.wrap_i64];omega
 have hb1:(0:Int)<=(i:Int)+1:=by omega
 have hin:i<=n:=by omega
 have hin1:i<=n+1:=by omega
 have hb3:(i:Int)+1<=(n:Int)+1:=by omega
 have hb4:¬ (c=i):=by omega
 have hb5:¬ (c=i+1):=by omega
 have hb6:¬ ((c:Int) < (n:Int)+1):=by omega
 have hb7:n+1<=c:=hroom;have hb8:(n:Int)+1<=(c:Int):=by omega
 have hb9:(0:Int)<=(n:Int)+1:=by omega
 have hb10:(i:Int)<=(n:Int)+1:=by omega
 clear ho hM hA hE hB hB1 hB2 hcp1 hcp2 hov hW1 e0 hdl hlen h1 hy hs1 hg1 hyl hzl hcap hnk hik;go_enter func191,ntmps191;go_upto_region 15 with (simp only[HOV.out]);refine Jl fun KK hKK=>?_;refine Eg (S:=(fun _=>True)) (by kernel_rfl) (by first | trivial) (fun hHeld=>?_);refine Jc 0 69 1 70 trivial ?_;refine Jc 2 71 3 72 trivial ?_;refine Jc 4 73 5 74 trivial ?_;refine Jc 6 75 7 76 trivial ?_;refine Qa 8 fun K hK=>?_;rw[Ei (by kernel_rfl)];refine Zq _ (.tmp 73) (.tmp 76) 24 24 rfl _ _ rfl rfl (HC1.out _ _ _ _ _ (by omega) (by omega)) ?_;refine hK.out _ _ trivial fun hHeld=>?_;clear hK K;refine Es (by kernel_rfl) ?_ _;refine QQ.out (hKK _ _ ?_);have hcp2:=fun ty=>HC2.out ty (n+1 - i) (c - i) rfl;go_wp2;go_ret;exact⟨rfl,by have h:=HE.out;rw[Er] at h;exact h,HA.out⟩
theorem JhK (base G n c i g d:Nat) (xs ys:List Value) (w:World) (ho:w.ownsRow base 70 4 (.slice (some ⟨G,0,none⟩) n c) n xs) (h1:∀u∈xs,u.oneCell'=true) (hn:n<=1000000) (hi:i < n) (hroom:c < n+1)
  (hB:Jm w g 70 ys.toArray) (hyl:ys.length=4) (hy:∀u∈ys,u.oneCell'=true):
  Calls prog 191 #[.slice (some ⟨G,0,none⟩) n c,.int .i64 i,.slice (some ⟨g,0,none⟩) 1 d] w fun e w'=>∃G' c',e=.returned (.slice (some ⟨G',0,none⟩) (n+1) c')/\w'.ownsRow base 70 4 (.slice (some ⟨G',0,none⟩) (n+1) c') (n+1) (xs.take (i * 4)++(ys++xs.drop (i * 4)))/\Bz w w':=by
 obtain⟨i0,hi0,hz0,hz1,hz2⟩:=EN XC;have hcap:=XP ho;have hlen:=ho.1;have hGl:=(ho.lt G rfl);have hnk:(n+1) * 4=n * 4+4:=by omega
 have hik:i * 4+4<=n * 4:=by omega
 have hdl:(xs.drop (i * 4)).length=(n - i) * 4:=by rw[EP,hlen,<-Ft]
 have hs1:(prog.info? 70).map (·.size)=some 4:=by rw[hi0];simp[hz1]
 have hkk:(n:Int)+1 - (i:Int)=((n+1 - i:Nat):Int):=by omega
 have hiq:i+(n+1 - i)=n+1:=by omega
 have hold:(Builtin.firstCells i0.size i (.slice (some ⟨G,0,none⟩) i c)).run prog w.drew=.ok (xs.take (i * 4)).toArray w.drew:=by
  rw[hz1];exact run_firstCells_some w.drew 4 i ⟨G,0,none⟩ i c (xs.take (i * 4)) (by rw[Et];omega) (fun j v hj=>by
   rw[FQ,EU];rw[Fx] at hj
   split at hj
   ·exact(ho.cellAt j (by omega)).trans hj
   ·cases hj)
 have hrz:∀ty,(Builtin.append_ #[24,3] ty #[.slice (some ⟨G,0,none⟩) i c,.int .i64 ((n:Int)+1 - (i:Int))]).run prog w=.ok (.slice (some ⟨w.heap.size,0,none⟩) (n+1) (grownCap w (n+1) c 70)) (w.drew.alloc (.cells ((xs.take (i * 4)).toArray++Builtin.zeroCells (Value.agg #[.int .i64 0,.int .i64 0,.int .i64 0,.bool false]).cells (n+1 - i)++Builtin.zeroCells (Value.agg #[.int .i64 0,.int .i64 0,.int .i64 0,.bool false]).cells (grownCap w (n+1) c 70 - (n+1))) 70)):=fun ty=>by
  have h:=GK w 24 3 ty 70 i0 _ .i64 .i64 underlying24 underlying3 hi0 hz0 (some ⟨G,0,none⟩) i c (xs.take (i * 4)) hold (n+1 - i) (by omega) (by omega) (by omega) (by omega) (by rw[hz2];omega) (by rw[hz2,hiq];exact NQ hroom (by omega));rw[hiq] at h;rw[hkk];exact h
 obtain⟨C,hC⟩:∃C,C=grownCap w (n+1) c 70:=⟨_,rfl⟩;have hC1:n+1<=C:=by rw[hC];exact Rl w _ _ _
 have hC2:C<=maxLen:=by rw[hC];exact Ng w (n+1) c 70 (by unfold maxLen;omega)
 obtain⟨ROW,hROW⟩:∃ROW:Array Value,ROW=(xs.take (i * 4)).toArray++Builtin.zeroCells (Value.agg #[.int .i64 0,.int .i64 0,.int .i64 0,.bool false]).cells (n+1 - i)++Builtin.zeroCells (Value.agg #[.int .i64 0,.int .i64 0,.int .i64 0,.bool false]).cells (C - (n+1)):=⟨_,rfl⟩;rw[<-hC] at hrz;rw[<-hROW] at hrz;have hRl:ROW.size=C * 4:=by
  rw[hROW];simp[Builtin.zeroCells,Value.cells,hlen];omega
 obtain⟨W1,hW1⟩:∃W1,W1=w.drew.alloc (.cells ROW 70):=⟨_,rfl⟩;rw[<-hW1] at hrz;have hR:W1.ownsRow base 70 4 (.slice (some ⟨w.heap.size,0,none⟩) (n+1) C) (n+1) (ROW.toList.take ((n+1) * 4)):=by
  rw[hW1];exact Jjl w.drew ROW base (EY hGl.1 (NF hGl.2)) _ rfl hC1 hC2 hRl
 have hb1':Bz w W1:=by rw[hW1];exact Zr.drew.alloc Zl _
 have hB1:Jm W1 g 70 ys.toArray:=hB.below hb1' hB.lt;have ho1:=Jf ho hb1' Zl;have hgN:g≠w.heap.size:=by have:=hB.lt;omega
 have hGN:G≠w.heap.size:=by omega
 have hXl:=hR.1;have hB2:=XD ys (i * 4) W1 _ hR (by rw[hXl,hyl];omega);obtain⟨W2,hW2⟩:∃W2,W2=W1.setCells w.heap.size (i * 4) ys:=⟨_,rfl⟩;rw[<-hW2] at hB2;have hcpA:∀ty,(Builtin.copy_ #[24,24] ty #[.slice (some ⟨w.heap.size,i * 4,none⟩) (n+1 - i) (C - i),.slice (some ⟨g,0,none⟩) 1 d]).run prog W1=.ok (goInt (1:Nat)) W2:=fun ty=>by
  rw[hW2];exact Xx W1 _ _ ty 70 4 w.heap.size (i * 4) (n+1 - i) (C - i) ⟨g,0,none⟩ 1 d 1 ys underlying24 hs1 (by simp only[Nat.min_def];split<;>omega) (by rw[hyl])
   (fun j v hj=>by rw[FQ,EU,hB1.cell j,FE];exact hj)
   (fun j hj=>by
    have:=hR.cellAt (i * 4+j) (by omega);rw[this,Em (by rw[hXl];omega)];rfl)
   (fun j _=>hR.frozenAt _) hy
 have ho2:W2.ownsRow base 70 4 (.slice (some ⟨G,0,none⟩) n c) n xs:=ho1.kept hB2.2 (.inr (fun e=>hGN (Fq e)));have hXl2:=hB2.1.1;have hB3:=XD (xs.drop (i * 4)) ((i+1) * 4) W2.drew _ hB2.1 (by rw[hXl2,hdl,Ft];omega);have hcpB:∀ty dl dc sl sc,dl=n - i->sl=n - i->(Builtin.copy_ #[24,24] ty #[.slice (some ⟨w.heap.size,(i+1) * 4,none⟩) dl dc,.slice (some ⟨G,i * 4,none⟩) sl sc]).run prog W2.drew=.ok (goInt (n - i:Nat)) (W2.drew.setCells w.heap.size ((i+1) * 4) (xs.drop (i * 4))):=fun ty dl dc sl sc e1 e2=>by
  subst e1 e2;exact Xx W2.drew _ _ ty 70 4 w.heap.size ((i+1) * 4) (n - i) dc ⟨G,i * 4,none⟩ (n - i) sc (n - i) (xs.drop (i * 4)) underlying24 hs1 (by simp only[Nat.min_def];split<;>omega) hdl
   (fun j v hj=>by
    rw[FQ];rw[Nk] at hj;have hjl:i * 4+j < xs.length:=by
     rcases FI (i * 4+j) xs.length with h | h
     ·exact h
     ·rw[Fy h] at hj;cases hj
    exact(ho2.cellAt (i * 4+j) (by omega)).trans hj)
   (fun j hj=>by
    rw[hdl,Ft] at hj;have:=hB2.1.cellAt ((i+1) * 4+j) (by omega);show (W2.cell? _).isSome=true;rw[this,Em (by rw[hXl2];omega)];rfl)
   (fun j _=>hB2.1.frozenAt _) (fun v hv=>h1 v (Fu hv))
 have hE:=hB3.1;have e0:∀X:List Value,X.length=(n+1) * 4->X.take (i * 4)=xs.take (i * 4)->(X.take (i * 4)++ys++X.drop (i * 4+ys.length)).take ((i+1) * 4)++xs.drop (i * 4)++(X.take (i * 4)++ys++X.drop (i * 4+ys.length)).drop ((i+1) * 4+(xs.drop (i * 4)).length)=xs.take (i * 4)++(ys++xs.drop (i * 4)):=by
  intro X hX hXt;have a1:(X.take (i * 4)++ys).length=(i+1) * 4:=by rw[Eb,Et,hX,hyl];omega
  have a2:(X.take (i * 4)++ys++X.drop (i * 4+ys.length)).drop ((i+1) * 4+(xs.drop (i * 4)).length)=[]:=Nl (by rw[Eb,a1,EP,hX,hdl,hyl,Ft];omega);rw[a2,EG,<-a1,List.take_left,hXt,Er]
 rw[e0 _ hXl (by
  rw[GE,FK (by omega),hROW];simp only[NI,Er];rw[ET (by rw[Et];omega),GE,Nat.min_self])] at hE
 have HE:=Ja hE;have HK:=Ja (show Bz w (W2.drew.setCells w.heap.size ((i+1) * 4) (xs.drop (i * 4))) from (hb1'.trans ((Jb hB2.2 hb1'.size (fun k hk=>by cases hk;exact Ek _)).drew)).trans (Jb hB3.2 (by have:=hB2.2.size;have:=hb1'.size;show _<=W2.heap.size;omega) (fun k hk=>by cases hk;exact Ek _)));have HCA:=Ja hcpA;have HCB:=Ja hcpB;have HRZ:=Ja hrz;have hz2':¬ ((i:Int)=(n:Int)):=by omega
 have hw1:IntKind.i64.wrap ((i:Int)+1)=(i:Int)+1:=by rw[IntKind.wrap_i64];omega
 have hw2:IntKind.i64.wrap ((n:Int)+1)=(n:Int)+1:=by rw[IntKind.wrap_i64];omega
 have hw3:IntKind.i64.wrap ((n:Int)+1 - (i:Int))=(n:Int)+1 - (i:Int):=by rw[IntKind.wrap_i64];omega
 have hb1:(0:Int)<=(i:Int)+1:=by omega
 have hin:i<=n:=by omega
 have hin1:i<=n+1:=by omega
 have hb3:(i:Int)+1<=(n:Int)+1:=by omega
 have hb4:¬ (C=i):=by omega
 have hb5:¬ (C=i+1):=by omega
 have hb6:(c:Int) < (n:Int)+1:=by omega
 have hb7:¬ (c=i):=by omega
 have hb8:i<=c:=by omega
 have hb10:(i:Int)<=(n:Int)+1:=by omega
 obtain⟨N,hN⟩:∃N,N=w.heap.size:=⟨_,rfl⟩;have HN:=Ja hN;clear ho hR hE hB hB1 hB2 hB3 hcpA hcpB hrz hW1 hW2 e0 hdl hlen h1 hy hs1 hyl hcap hnk hik hROW hRl hold ho1 ho2 hXl hXl2 hC hkk hN hC1 hC2 hGl;go_enter func191,ntmps191;go_wp2_with (at_builtin;go_must (refine ZM _ rfl (.tmp 34) (.tmp 39) 24 3 rfl _ _ rfl rfl (HRZ.out _) ?_);have hca:=HCA.out);refine Jl fun KK hKK=>?_;refine Eg (S:=(fun _=>True)) (by kernel_rfl) (by first | trivial) (fun hHeld=>?_);refine Jc 0 46 1 47 trivial ?_;refine Jc 2 48 3 49 trivial ?_;refine Jc 4 50 5 51 trivial ?_;refine Jc 6 52 7 53 trivial ?_;refine Qa 8 fun K hK=>?_;rw[Ei (by kernel_rfl)];refine Zq _ (.tmp 50) (.tmp 53) 24 24 rfl _ _ rfl rfl (HCB.out _ _ _ _ _ (by omega) (by omega)) ?_;refine hK.out _ _ trivial fun hHeld=>?_;clear hK K;refine Es (by kernel_rfl) ?_ _;refine QQ.out (hKK _ _ ?_);go_wp2;go_ret;exact⟨_,_,rfl,HE.out,HK.out⟩
theorem JjG (base n c i g d:Nat) (A:OA) (xs ys:List Value) (w:World) (ho:w.ownsRow base 70 4 (.slice A n c) n xs) (hb:base<=w.heap.size) (h1:∀u∈xs,u.oneCell'=true) (hn:n<=1000000) (hi:i<=n)
  (hB:Jm w g 70 ys.toArray) (hyl:ys.length=4) (hy:∀u∈ys,u.oneCell'=true) (hd:1<=d) (hdm:d<=maxLen) (hg:(Value.slice A n c).ownBlock≠some g):
  Calls prog 191 #[.slice A n c,.int .i64 i,.slice (some ⟨g,0,none⟩) 1 d] w fun e w'=>∃A' c',e=.returned (.slice A' (n+1) c')/\w'.ownsRow base 70 4 (.slice A' (n+1) c') (n+1) (xs.take (i * 4)++(ys++xs.drop (i * 4)))/\w.grownBy w' (Value.slice A n c).ownBlock:=by
 have hlen:=ho.1;by_cases he:i=n
 ·subst he;rw[<-hlen,List.take_length,List.drop_length,EG];exact JhE base i c g d A xs ys w ho hb hn hB hyl hy hd hdm
 ·rcases YN ho with ⟨rfl,rfl,rfl,rfl⟩ | ⟨G,rfl⟩
  ·omega
  ·have hgG:g≠G:=fun e=>hg (by rw[e];rfl);by_cases hr:n < c
   ·refine(JhI base G n c i g d xs ys w ho h1 hn (by omega) hr hB hyl hy hgG).mono ?_;rintro e w' ⟨rfl,h2,h3⟩;exact⟨_,_,rfl,h2,h3⟩
   ·refine(JhK base G n c i g d xs ys w ho h1 hn (by omega) (by omega) hB hyl hy).mono ?_;rintro e w' ⟨G',c',rfl,h2,h3⟩;exact⟨_,_,rfl,h2,Zk h3 _⟩
theorem Jh5 (base n c g d:Nat) (A:OA) (xs ys:List Value) (w:World) (ho:w.ownsRow base 65 7 (.slice A n c) n xs) (hb:base<=w.heap.size) (hn:n<=1000000)
  (hB:Jm w g 65 ys.toArray) (hyl:ys.length=7) (hy:∀u∈ys,u.oneCell'=true) (hd:1<=d) (hdm:d<=maxLen):
  Calls prog 75 #[.slice A n c,.int .i64 n,.slice (some ⟨g,0,none⟩) 1 d] w fun e w'=>∃A' c',e=.returned (.slice A' (n+1) c')/\w'.ownsRow base 65 7 (.slice A' (n+1) c') (n+1) (xs++ys)/\w.grownBy w' (Value.slice A n c).ownBlock:=by
 obtain⟨is0,hsi0,hsz0,hsz1,hsz2⟩:=EN Yk;have hnm:n+1<=maxLen:=by unfold maxLen;omega
 have hcap:=XP ho;have HR:=Ja (show Rd w w.heap.size 7 (some ⟨g,0,none⟩) 1 d ys from ⟨by rw[hyl,Rn],hd,hdm,(fun h=>by cases h),fun _=>⟨_,rfl,hB.lt,fun j u hj=>by
  show w.cell? ((⟨g,0,none⟩:Addr).add j)=_;rw[FQ,EU,hB.cell j,FE];exact hj⟩⟩)
 have HO:=Ja ho;have HY:=Ja hy;clear ho hB hyl hy;have c0:=fun W=>Yh (P:=prog) W 36 65 7 underlying36 Jf0 A n c .i64 n n rfl (Ek n);go_enter func75,ntmps75;go_wp2_with (at_builtin;go_must (refine Jh _ rfl (.tmp 23) (.tmp 24) _ rfl base 65 is0 _ 7 56 underlying36 hsi0 hsz0 hsz1 hsz2 rfl (by decide) (.slice A n c) n xs rfl HO.out w.heap.size (some ⟨g,0,none⟩) 1 d ys rfl HR.out HY.out hnm (by omega) hb ?_);intro A' c' w1 hown hg hat);go_ret;exact⟨A',c',rfl,hown,hg⟩
theorem Jhp (base G n c i g d:Nat) (xs ys:List Value) (w:World) (ho:w.ownsRow base 65 7 (.slice (some ⟨G,0,none⟩) n c) n xs) (h1:∀u∈xs,u.oneCell'=true) (hn:n<=1000000) (hi:i < n) (hroom:n < c)
  (hB:Jm w g 65 ys.toArray) (hyl:ys.length=7) (hy:∀u∈ys,u.oneCell'=true) (hgG:g≠G):
  Calls prog 75 #[.slice (some ⟨G,0,none⟩) n c,.int .i64 i,.slice (some ⟨g,0,none⟩) 1 d] w fun e w'=>e=.returned (.slice (some ⟨G,0,none⟩) (n+1) c)/\w'.ownsRow base 65 7 (.slice (some ⟨G,0,none⟩) (n+1) c) (n+1) (xs.take (i * 7)++(ys++xs.drop (i * 7)))/\w.grownBy w' (some G):=by
 have hcap:=XP ho;obtain⟨zs,hzl,hM⟩:=Jgr ho hroom;have hlen:=ho.1;have hnk:(n+1) * 7=n * 7+7:=by omega
 have hik:i * 7+7<=n * 7:=by omega
 have hdl:(xs.drop (i * 7)).length=(n - i) * 7:=by rw[EP,hlen,<-Ft]
 have hs1:(prog.info? 65).map (·.size)=some 7:=by
  obtain⟨i0,hi0,_,h,_⟩:=EN Yk;rw[hi0];simp[h]
 have hA:=XD (xs.drop (i * 7)) ((i+1) * 7) w.drew (xs++zs) hM (by rw[hdl,Eb,hlen,hzl,Ft];omega);obtain⟨W1,hW1⟩:∃W1,W1=w.drew.setCells G ((i+1) * 7) (xs.drop (i * 7)):=⟨_,rfl⟩;rw[<-hW1] at hA;have hcp1:∀ty dl dc sl sc,dl=n - i->sl=n+1 - i->(Builtin.copy_ #[36,36] ty #[.slice (some ⟨G,(i+1) * 7,none⟩) dl dc,.slice (some ⟨G,i * 7,none⟩) sl sc]).run prog w.drew=.ok (goInt (n - i:Nat)) W1:=fun ty dl dc sl sc e1 e2=>by
  subst e1 e2;rw[hW1];exact Xx w.drew _ _ ty 65 7 G ((i+1) * 7) (n - i) dc ⟨G,i * 7,none⟩ (n+1 - i) sc (n - i) (xs.drop (i * 7)) underlying36 hs1 (by simp only[Nat.min_def];split<;>omega) hdl
   (fun j v hj=>by
    rw[FQ];rw[Nk] at hj;have hjl:i * 7+j < xs.length:=by
     rcases FI (i * 7+j) xs.length with h | h
     ·exact h
     ·rw[Fy h] at hj;cases hj
    exact(ho.cellAt (i * 7+j) (by omega)).trans hj)
   (fun j hj=>by
    rw[hdl,Ft] at hj;have:=hM.cellAt ((i+1) * 7+j) (by omega);show (w.cell? _).isSome=true;rw[this,Em (by rw[Eb,hlen,hzl];omega)];rfl)
   (fun j _=>hM.frozenAt _) (fun v hv=>h1 v (Fu hv))
 have hg1:W1.heap[g]?=w.heap[g]?:=hA.2.block g hB.lt (fun e=>hgG (Fq e));have hB1:Jm W1 g 65 ys.toArray:=hg1.trans hB;have hB2:=XD ys (i * 7) W1 _ hA.1 (by
  rw[hA.1.1,hyl];omega)
 have hcp2:∀ty dl dc,dl=n+1 - i->(Builtin.copy_ #[36,36] ty #[.slice (some ⟨G,i * 7,none⟩) dl dc,.slice (some ⟨g,0,none⟩) 1 d]).run prog W1=.ok (goInt (1:Nat)) (W1.setCells G (i * 7) ys):=fun ty dl dc e1=>
  Xx W1 _ _ ty 65 7 G (i * 7) dl dc ⟨g,0,none⟩ 1 d 1 ys underlying36 hs1 (by simp only[Nat.min_def];split<;>omega) (by rw[hyl])
   (fun j v hj=>by rw[FQ,EU,hB1.cell j,FE];exact hj)
   (fun j hj=>by
    have:=hA.1.cellAt (i * 7+j) (by omega);rw[this,Em (by rw[hA.1.1];omega)];rfl)
   (fun j _=>hA.1.frozenAt _) hy
 have hov:∀lb cb,(callFunc 150 #[.slice (some ⟨g,0,none⟩) 1 d,.slice (some ⟨G,(i+1) * 7,none⟩) lb cb]).run prog w=.ok (.value (.bool false)) w:=fun lb cb=>by
  have hsh:∀{b:Nat} {cs:Array Value} {t:TypeId},w.heap[b]?=some (.cells cs t (0,0))->w.shape? b=some (t,cs.size):=fun h=>by unfold World.shape?;rw[h]
  obtain⟨cur,hG,hcs⟩:∃cur,w.heap[G]?=some (.cells cur 65 (0,0))/\cur.size=c * 7:=by
   obtain⟨_,h | ⟨g',cap,cur,hv,_,hg',_,_,hcs,_⟩⟩:=ho
   ·exact absurd h.1 (by simp)
   ·injection hv with e1 _ e3;injection e1 with e1;injection e1 with e1;subst e1 e3;exact⟨cur,hg',hcs⟩
  rw[run_callFunc_extern func150 (by kernel_rfl) (by kernel_rfl) (by kernel_rfl) (e:=Extern.SlicesOverlaps.overlaps #[36,36] #[4]) (by kernel_rfl),
   Lib.run_overlaps_apart w 36 4 65 underlying36 7 Jf0 ⟨g,0,none⟩ ⟨G,(i+1) * 7,none⟩ 1 d lb cb hgG _ _ _ _ (hsh hB) (hsh hG) (by omega) (hB.frozen _) (hB.frozen _)]
  rfl
 have hE:=hB2.1;have e0:((xs++zs).take ((i+1) * 7)++xs.drop (i * 7)++(xs++zs).drop ((i+1) * 7+(xs.drop (i * 7)).length)).take (i * 7)++ys++((xs++zs).take ((i+1) * 7)++xs.drop (i * 7)++(xs++zs).drop ((i+1) * 7+(xs.drop (i * 7)).length)).drop (i * 7+ys.length)=xs.take (i * 7)++ys++xs.drop (i * 7):=by
  have a1:((xs++zs).take ((i+1) * 7)).length=(i+1) * 7:=by rw[Et,Eb,hlen];omega
  have a2:(xs++zs).drop ((i+1) * 7+(xs.drop (i * 7)).length)=[]:=Nl (by rw[Eb,hdl,hlen,hzl,Ft];omega);rw[a2,EG,hyl,show i * 7+7=(i+1) * 7 by omega,ET (by rw[a1];omega),GE,FK (by omega),ET (by omega),FY (by rw[a1];omega),Ed (by rw[a1];omega),List.nil_append]
 rw[e0] at hE;have HE:=Ja hE;have HA:=Ja (Ud (hA.2.trans hB2.2));have HC1:=Ja hcp1;have HC2:=Ja hcp2;have HOV:=Ja hov;have hz2:¬ ((i:Int)=(n:Int)):=by omega
 have hw1:IntKind.i64.wrap ((i:Int)+1)=(i:Int)+1:=by rw[IntKind.wrap_i64];omega
 have hw2:IntKind.i64.wrap ((n:Int)+1)=(n:Int)+1:=by rw[IntKind.wrap_i64];omega
 have hb1:(0:Int)<=(i:Int)+1:=by omega
 have hin:i<=n:=by omega
 have hin1:i<=n+1:=by omega
 have hb3:(i:Int)+1<=(n:Int)+1:=by omega
 have hb4:¬ (c=i):=by omega
 have hb5:¬ (c=i+1):=by omega
 have hb6:¬ ((c:Int) < (n:Int)+1):=by omega
 have hb7:n+1<=c:=hroom;have hb8:(n:Int)+1<=(c:Int):=by omega
 have hb9:(0:Int)<=(n:Int)+1:=by omega
 have hb10:(i:Int)<=(n:Int)+1:=by omega
 clear ho hM hA hE hB hB1 hB2 hcp1 hcp2 hov hW1 e0 hdl hlen h1 hy hs1 hg1 hyl hzl hcap hnk hik;go_enter func75,ntmps75;go_upto_region 15 with (simp only[HOV.out]);refine Jl fun KK hKK=>?_;refine Eg (S:=(fun _=>True)) (by kernel_rfl) (by first | trivial) (fun hHeld=>?_);refine Jc 0 69 1 70 trivial ?_;refine Jc 2 71 3 72 trivial ?_;refine Jc 4 73 5 74 trivial ?_;refine Jc 6 75 7 76 trivial ?_;refine Qa 8 fun K hK=>?_;rw[Ei (by kernel_rfl)];refine Zq _ (.tmp 73) (.tmp 76) 36 36 rfl _ _ rfl rfl (HC1.out _ _ _ _ _ (by omega) (by omega)) ?_;refine hK.out _ _ trivial fun hHeld=>?_;clear hK K;refine Es (by kernel_rfl) ?_ _;refine QQ.out (hKK _ _ ?_);have hcp2:=fun ty=>HC2.out ty (n+1 - i) (c - i) rfl;go_wp2;go_ret;exact⟨rfl,by have h:=HE.out;rw[Er] at h;exact h,HA.out⟩
theorem Jhe (base G n c i g d:Nat) (xs ys:List Value) (w:World) (ho:w.ownsRow base 65 7 (.slice (some ⟨G,0,none⟩) n c) n xs) (h1:∀u∈xs,u.oneCell'=true) (hn:n<=1000000) (hi:i < n) (hroom:c < n+1)
  (hB:Jm w g 65 ys.toArray) (hyl:ys.length=7) (hy:∀u∈ys,u.oneCell'=true):
  Calls prog 75 #[.slice (some ⟨G,0,none⟩) n c,.int .i64 i,.slice (some ⟨g,0,none⟩) 1 d] w fun e w'=>∃G' c',e=.returned (.slice (some ⟨G',0,none⟩) (n+1) c')/\w'.ownsRow base 65 7 (.slice (some ⟨G',0,none⟩) (n+1) c') (n+1) (xs.take (i * 7)++(ys++xs.drop (i * 7)))/\Bz w w':=by
 obtain⟨i0,hi0,hz0,hz1,hz2⟩:=EN Yk;have hcap:=XP ho;have hlen:=ho.1;have hGl:=(ho.lt G rfl);have hnk:(n+1) * 7=n * 7+7:=by omega
 have hik:i * 7+7<=n * 7:=by omega
 have hdl:(xs.drop (i * 7)).length=(n - i) * 7:=by rw[EP,hlen,<-Ft]
 have hs1:(prog.info? 65).map (·.size)=some 7:=by rw[hi0];simp[hz1]
 have hkk:(n:Int)+1 - (i:Int)=((n+1 - i:Nat):Int):=by omega
 have hiq:i+(n+1 - i)=n+1:=by omega
 have hold:(Builtin.firstCells i0.size i (.slice (some ⟨G,0,none⟩) i c)).run prog w.drew=.ok (xs.take (i * 7)).toArray w.drew:=by
  rw[hz1];exact run_firstCells_some w.drew 7 i ⟨G,0,none⟩ i c (xs.take (i * 7)) (by rw[Et];omega) (fun j v hj=>by
   rw[FQ,EU];rw[Fx] at hj
   split at hj
   ·exact(ho.cellAt j (by omega)).trans hj
   ·cases hj)
 have hrz:∀ty,(Builtin.append_ #[36,3] ty #[.slice (some ⟨G,0,none⟩) i c,.int .i64 ((n:Int)+1 - (i:Int))]).run prog w=.ok (.slice (some ⟨w.heap.size,0,none⟩) (n+1) (grownCap w (n+1) c 65)) (w.drew.alloc (.cells ((xs.take (i * 7)).toArray++Builtin.zeroCells (Value.agg #[.int .i64 0,.slice none 0 0,.int .i64 0,.int .i64 0,.bool false,.bool false,.bool false]).cells (n+1 - i)++Builtin.zeroCells (Value.agg #[.int .i64 0,.slice none 0 0,.int .i64 0,.int .i64 0,.bool false,.bool false,.bool false]).cells (grownCap w (n+1) c 65 - (n+1))) 65)):=fun ty=>by
  have h:=GK w 36 3 ty 65 i0 _ .i64 .i64 underlying36 underlying3 hi0 hz0 (some ⟨G,0,none⟩) i c (xs.take (i * 7)) hold (n+1 - i) (by omega) (by omega) (by omega) (by omega) (by rw[hz2];omega) (by rw[hz2,hiq];exact NQ hroom (by omega));rw[hiq] at h;rw[hkk];exact h
 obtain⟨C,hC⟩:∃C,C=grownCap w (n+1) c 65:=⟨_,rfl⟩;have hC1:n+1<=C:=by rw[hC];exact Rl w _ _ _
 have hC2:C<=maxLen:=by rw[hC];exact Ng w (n+1) c 65 (by unfold maxLen;omega)
 obtain⟨ROW,hROW⟩:∃ROW:Array Value,ROW=(xs.take (i * 7)).toArray++Builtin.zeroCells (Value.agg #[.int .i64 0,.slice none 0 0,.int .i64 0,.int .i64 0,.bool false,.bool false,.bool false]).cells (n+1 - i)++Builtin.zeroCells (Value.agg #[.int .i64 0,.slice none 0 0,.int .i64 0,.int .i64 0,.bool false,.bool false,.bool false]).cells (C - (n+1)):=⟨_,rfl⟩;rw[<-hC] at hrz;rw[<-hROW] at hrz;have hRl:ROW.size=C * 7:=by
  rw[hROW];simp[Builtin.zeroCells,Value.cells,hlen];omega
 obtain⟨W1,hW1⟩:∃W1,W1=w.drew.alloc (.cells ROW 65):=⟨_,rfl⟩;rw[<-hW1] at hrz;have hR:W1.ownsRow base 65 7 (.slice (some ⟨w.heap.size,0,none⟩) (n+1) C) (n+1) (ROW.toList.take ((n+1) * 7)):=by
  rw[hW1];exact Jjl w.drew ROW base (EY hGl.1 (NF hGl.2)) _ rfl hC1 hC2 hRl
 have hb1':Bz w W1:=by rw[hW1];exact Zr.drew.alloc Zl _
 have hB1:Jm W1 g 65 ys.toArray:=hB.below hb1' hB.lt;have ho1:=Jf ho hb1' Zl;have hgN:g≠w.heap.size:=by have:=hB.lt;omega
 have hGN:G≠w.heap.size:=by omega
 have hXl:=hR.1;have hB2:=XD ys (i * 7) W1 _ hR (by rw[hXl,hyl];omega);obtain⟨W2,hW2⟩:∃W2,W2=W1.setCells w.heap.size (i * 7) ys:=⟨_,rfl⟩;rw[<-hW2] at hB2;have hcpA:∀ty,(Builtin.copy_ #[36,36] ty #[.slice (some ⟨w.heap.size,i * 7,none⟩) (n+1 - i) (C - i),.slice (some ⟨g,0,none⟩) 1 d]).run prog W1=.ok (goInt (1:Nat)) W2:=fun ty=>by
  rw[hW2];exact Xx W1 _ _ ty 65 7 w.heap.size (i * 7) (n+1 - i) (C - i) ⟨g,0,none⟩ 1 d 1 ys underlying36 hs1 (by simp only[Nat.min_def];split<;>omega) (by rw[hyl])
   (fun j v hj=>by rw[FQ,EU,hB1.cell j,FE];exact hj)
   (fun j hj=>by
    have:=hR.cellAt (i * 7+j) (by omega);rw[this,Em (by rw[hXl];omega)];rfl)
   (fun j _=>hR.frozenAt _) hy
 have ho2:W2.ownsRow base 65 7 (.slice (some ⟨G,0,none⟩) n c) n xs:=ho1.kept hB2.2 (.inr (fun e=>hGN (Fq e)));have hXl2:=hB2.1.1;have hB3:=XD (xs.drop (i * 7)) ((i+1) * 7) W2.drew _ hB2.1 (by rw[hXl2,hdl,Ft];omega);have hcpB:∀ty dl dc sl sc,dl=n - i->sl=n - i->(Builtin.copy_ #[36,36] ty #[.slice (some ⟨w.heap.size,(i+1) * 7,none⟩) dl dc,.slice (some ⟨G,i * 7,none⟩) sl sc]).run prog W2.drew=.ok (goInt (n - i:Nat)) (W2.drew.setCells w.heap.size ((i+1) * 7) (xs.drop (i * 7))):=fun ty dl dc sl sc e1 e2=>by
  subst e1 e2;exact Xx W2.drew _ _ ty 65 7 w.heap.size ((i+1) * 7) (n - i) dc ⟨G,i * 7,none⟩ (n - i) sc (n - i) (xs.drop (i * 7)) underlying36 hs1 (by simp only[Nat.min_def];split<;>omega) hdl
   (fun j v hj=>by
    rw[FQ];rw[Nk] at hj;have hjl:i * 7+j < xs.length:=by
     rcases FI (i * 7+j) xs.length with h | h
     ·exact h
     ·rw[Fy h] at hj;cases hj
    exact(ho2.cellAt (i * 7+j) (by omega)).trans hj)
   (fun j hj=>by
    rw[hdl,Ft] at hj;have:=hB2.1.cellAt ((i+1) * 7+j) (by omega);show (W2.cell? _).isSome=true;rw[this,Em (by rw[hXl2];omega)];rfl)
   (fun j _=>hB2.1.frozenAt _) (fun v hv=>h1 v (Fu hv))
 have hE:=hB3.1;have e0:∀X:List Value,X.length=(n+1) * 7->X.take (i * 7)=xs.take (i * 7)->(X.take (i * 7)++ys++X.drop (i * 7+ys.length)).take ((i+1) * 7)++xs.drop (i * 7)++(X.take (i * 7)++ys++X.drop (i * 7+ys.length)).drop ((i+1) * 7+(xs.drop (i * 7)).length)=xs.take (i * 7)++(ys++xs.drop (i * 7)):=by
  intro X hX hXt;have a1:(X.take (i * 7)++ys).length=(i+1) * 7:=by rw[Eb,Et,hX,hyl];omega
  have a2:(X.take (i * 7)++ys++X.drop (i * 7+ys.length)).drop ((i+1) * 7+(xs.drop (i * 7)).length)=[]:=Nl (by rw[Eb,a1,EP,hX,hdl,hyl,Ft];omega);rw[a2,EG,<-a1,List.take_left,hXt,Er]
 rw[e0 _ hXl (by
  rw[GE,FK (by omega),hROW];simp only[NI,Er];rw[ET (by rw[Et];omega),GE,Nat.min_self])] at hE
 have HE:=Ja hE;have HK:=Ja (show Bz w (W2.drew.setCells w.heap.size ((i+1) * 7) (xs.drop (i * 7))) from (hb1'.trans ((Jb hB2.2 hb1'.size (fun k hk=>by cases hk;exact Ek _)).drew)).trans (Jb hB3.2 (by have:=hB2.2.size;have:=hb1'.size;show _<=W2.heap.size;omega) (fun k hk=>by cases hk;exact Ek _)));have HCA:=Ja hcpA;have HCB:=Ja hcpB;have HRZ:=Ja hrz;have hz2':¬ ((i:Int)=(n:Int)):=by omega
 have hw1:IntKind.i64.wrap ((i:Int)+1)=(i:Int)+1:=by rw[IntKind.wrap_i64];omega
 have hw2:IntKind.i64.wrap ((n:Int)+1)=(n:Int)+1:=by rw[IntKind.wrap_i64];omega
 have hw3:IntKind.i64.wrap ((n:Int)+1 - (i:Int))=(n:Int)+1 - (i:Int):=by rw[IntKind.wrap_i64];omega
 have hb1:(0:Int)<=(i:Int)+1:=by omega
 have hin:i<=n:=by omega
 have hin1:i<=n+1:=by omega
 have hb3:(i:Int)+1<=(n:Int)+1:=by omega
 have hb4:¬ (C=i):=by omega
 have hb5:¬ (C=i+1):=by omega
 have hb6:(c:Int) < (n:Int)+1:=by omega
 have hb7:¬ (c=i):=by omega
 have hb8:i<=c:=by omega
 have hb10:(i:Int)<=(n:Int)+1:=by omega
 obtain⟨N,hN⟩:∃N,N=w.heap.size:=⟨_,rfl⟩;have HN:=Ja hN;clear ho hR hE hB hB1 hB2 hB3 hcpA hcpB hrz hW1 hW2 e0 hdl hlen h1 hy hs1 hyl hcap hnk hik hROW hRl hold ho1 ho2 hXl hXl2 hC hkk hN hC1 hC2 hGl;go_enter func75,ntmps75;go_wp2_with (at_builtin;go_must (refine ZM _ rfl (.tmp 34) (.tmp 39) 36 3 rfl _ _ rfl rfl (HRZ.out _) ?_);have hca:=HCA.out);refine Jl fun KK hKK=>?_;refine Eg (S:=(fun _=>True)) (by kernel_rfl) (by first | trivial) (fun hHeld=>?_);refine Jc 0 46 1 47 trivial ?_;refine Jc 2 48 3 49 trivial ?_;refine Jc 4 50 5 51 trivial ?_;refine Jc 6 52 7 53 trivial ?_;refine Qa 8 fun K hK=>?_;rw[Ei (by kernel_rfl)];refine Zq _ (.tmp 50) (.tmp 53) 36 36 rfl _ _ rfl rfl (HCB.out _ _ _ _ _ (by omega) (by omega)) ?_;refine hK.out _ _ trivial fun hHeld=>?_;clear hK K;refine Es (by kernel_rfl) ?_ _;refine QQ.out (hKK _ _ ?_);go_wp2;go_ret;exact⟨_,_,rfl,HE.out,HK.out⟩
theorem Jj8 (base n c i g d:Nat) (A:OA) (xs ys:List Value) (w:World) (ho:w.ownsRow base 65 7 (.slice A n c) n xs) (hb:base<=w.heap.size) (h1:∀u∈xs,u.oneCell'=true) (hn:n<=1000000) (hi:i<=n)
  (hB:Jm w g 65 ys.toArray) (hyl:ys.length=7) (hy:∀u∈ys,u.oneCell'=true) (hd:1<=d) (hdm:d<=maxLen) (hg:(Value.slice A n c).ownBlock≠some g):
  Calls prog 75 #[.slice A n c,.int .i64 i,.slice (some ⟨g,0,none⟩) 1 d] w fun e w'=>∃A' c',e=.returned (.slice A' (n+1) c')/\w'.ownsRow base 65 7 (.slice A' (n+1) c') (n+1) (xs.take (i * 7)++(ys++xs.drop (i * 7)))/\w.grownBy w' (Value.slice A n c).ownBlock:=by
 have hlen:=ho.1;by_cases he:i=n
 ·subst he;rw[<-hlen,List.take_length,List.drop_length,EG];exact Jh5 base i c g d A xs ys w ho hb hn hB hyl hy hd hdm
 ·rcases YN ho with ⟨rfl,rfl,rfl,rfl⟩ | ⟨G,rfl⟩
  ·omega
  ·have hgG:g≠G:=fun e=>hg (by rw[e];rfl);by_cases hr:n < c
   ·refine(Jhp base G n c i g d xs ys w ho h1 hn (by omega) hr hB hyl hy hgG).mono ?_;rintro e w' ⟨rfl,h2,h3⟩;exact⟨_,_,rfl,h2,h3⟩
   ·refine(Jhe base G n c i g d xs ys w ho h1 hn (by omega) (by omega) hB hyl hy).mono ?_;rintro e w' ⟨G',c',rfl,h2,h3⟩;exact⟨_,_,rfl,h2,Zk h3 _⟩
open Go.Sort
namespace St
variable {α:Type}
/-! ### Exchanges in lists -/
variable [Inhabited α]
/-! ### What the symmetric merge finds -/
structure Cut (lt:α->α->Bool) (L R:List α) (s e:Nat):Prop where
 ls:s<=L.length
 le:e<=R.length
 up:∀i j,s<=i->i < L.length->j < e->lt R[j]! L[i]! = true
 lo:∀i j,i < s->e<=j->j < R.length->lt R[j]! L[i]! = false
end St
end
section
open Go.Sort
def Kz (a b:Vc.St):Bool:=decide (a.1 < b.1) || (decide (a.1=b.1) && decide (a.2 < b.2))
open Go.RowKit Go.Shelf Go.Sort Go.Lib
def Gr (w w':World):Prop:=∃q os,w'=grow (w.drewN q) os
theorem Gr.drew1 (w:World):Gr w w.drew:=⟨1,#[],by rw[grow_empty];rfl⟩
theorem Gr.alloc1 (w:World) (o:Obj):Gr w (w.alloc o):=⟨0,#[o],by rw[alloc_eq_grow];rfl⟩
theorem Gr.trans {a b c:World} (h:Gr a b) (h':Gr b c):Gr a c:=by
 obtain⟨q,os,rfl⟩:=h;obtain⟨q',os',rfl⟩:=h';exact⟨q+q',os++os',by show grow (grow ((a.drewN q).drewN q') os) os'=_;rw[grow_grow,World.drewN_drewN]⟩
theorem Gr.cell {a b:World} (h:Gr a b) {p:Addr} {v:Value} (hp:p.block < a.heap.size) (hc:a.cell? p=some v):b.cell? p=some v:=by
 obtain⟨q,os,rfl⟩:=h;exact cell_grown hp hc q os
def orI (x y:Int):Int:=if x=0 then y else x
theorem JoG (G:Nat) (x y:Int) (w:World) (h0:w.cell? ⟨G,0,none⟩=some (.int .i64 x)) (h1:w.cell? ⟨G,1,none⟩=some (.int .i64 y)):
  Calls prog 217 #[.slice (some ⟨G,0,none⟩) 2 2] w fun e w'=>e=.returned (.int .i64 (orI x y))/\w=w':=by
 have HO:=Ja (show orI x y=if x=0 then y else x from rfl);generalize orI x y=z at HO ⊢;go_enter func217,ntmps217;go_wp2;go_loopw [5,8] (fun v5 v8 wr=>∃k:Nat,v8=.int .i64 k/\k<=2/\w=wr/\Hid (1<=k->x=0)/\Hid (2<=k->y=0)) (fun _ v8 _=>2 - (intOf v8).toNat)
 case atStart=>exact⟨0,rfl,by omega,rfl,fun h=>by omega,fun h=>by omega⟩
 case round=>
  obtain⟨k,rfl,hk,rfl,HX,HY⟩:=hrel;rcases FI k 1 with hk1 | hk1
  ·obtain rfl:k=0:=by omega
   by_cases hx:x=0
   ·have hxb:(x != 0)=false:=by rw[hx];rfl
    have HZ:=Ja hx;clear hx;go_wp2;go_roundw
    case rel=>exact⟨1,rfl,by omega,by first | rfl | trivial,fun _=>HZ.out,fun h=>by omega⟩
    case measure=>simp[intOf]
   ·have hxb:(x != 0)=true:=Rr.2 hx;have HZ:=Ja (HO.out.trans (Ef hx));clear hx;go_wp2;go_ret;exact⟨by rw[HZ.out];rfl,rfl⟩
  ·rcases FI k 2 with hk2 | hk2
   ·obtain rfl:k=1:=by omega
    have HX0:=Ja (HO.out.trans (Ei (HX.out hk1)));by_cases hy:y=0
    ·have hyb:(y != 0)=false:=by rw[hy];rfl
     have HZ:=Ja hy;clear hy;go_wp2;go_roundw
     case rel=>exact⟨2,rfl,by omega,by first | rfl | trivial,fun _=>HX.out hk1,fun h=>HZ.out⟩
     case measure=>simp[intOf]
    ·have hyb:(y != 0)=true:=Rr.2 hy;clear hy;go_wp2;go_ret;exact⟨by rw[HX0.out];rfl,rfl⟩
   ·obtain rfl:k=2:=by omega
    have HX0:=Ja ((HO.out.trans (Ei (HX.out hk1))).trans (HY.out hk2));go_wp2;go_ret;exact⟨by rw[HX0.out];rfl,rfl⟩
def stC (a b:Vc.St):Int:=orI (Xn a.1 b.1) (Xn a.2 b.2)
theorem Jor (a b:Vc.St):decide (stC a b < 0)=Kz a b:=by
 unfold stC orI Xn Kz;by_cases h1:a.1 < b.1
 ·simp[h1]
 ·by_cases h2:b.1 < a.1
  ·have:¬ a.1=b.1:=by omega
   simp[h1,h2,this]
  ·have:a.1=b.1:=by omega
   by_cases h3:a.2 < b.2
   ·simp[this,h3]
   ·by_cases h4:b.2 < a.2<;>simp[this,h3,h4]
theorem Jcr {a1 a2 b1 b2 z1 z2:Int} (H1:∀W,Calls prog 73 #[.int .i64 a1,.int .i64 b1] W fun e w'=>e=.returned (.int .i64 z1)/\W=w') (H2:∀W,Calls prog 73 #[.int .i64 a2,.int .i64 b2] W fun e w'=>e=.returned (.int .i64 z2)/\W=w') (w:World):Calls prog 192 #[.agg #[.int .i64 a1,.int .i64 a2],.agg #[.int .i64 b1,.int .i64 b2]] w fun e w'=>e=.returned (.int .i64 (orI z1 z2))/\Gr w w':=by
 have H1:=Ja H1;have H2:=Ja H2;obtain⟨w0,hw0⟩:∃w0,w0=(w.alloc (.cells #[.int .i64 a1,.int .i64 a2] 28)).alloc (.cells #[.int .i64 b1,.int .i64 b2] 28):=⟨_,rfl⟩;have HG:=Ja (show Gr w w0 from by rw[hw0];exact(Gr.alloc1 _ _).trans (Gr.alloc1 _ _));have HS:=Ja (show ∀W,Gr w0 W->(W.cell? ⟨w.heap.size,0,none⟩=some (.int .i64 a1)/\W.cell? ⟨w.heap.size,1,none⟩=some (.int .i64 a2)/\W.cell? ⟨w.heap.size+1,0,none⟩=some (.int .i64 b1)/\W.cell? ⟨w.heap.size+1,1,none⟩=some (.int .i64 b2)) from fun W h=>by
  have hsz:w0.heap.size=w.heap.size+2:=by rw[hw0];simp
  refine⟨h.cell (by dsimp only;omega) (by rw[hw0];simp),h.cell (by dsimp only;omega) (by rw[hw0];simp),h.cell (by dsimp only;omega) (by rw[hw0];simp),h.cell (by dsimp only;omega) (by rw[hw0];simp)⟩)
 have H3:=Ja fun G W h0 h1=>JoG G z1 z2 W h0 h1;generalize orI z1 z2=z at H3 ⊢;have HW:=Ja hw0.symm;clear hw0;have k:=Gr.drew1 w0;go_enter func192,ntmps192;go_wp2_with fail;rw[HW.out];refine Jl fun KK hKK=>?_;refine Eg (S:=(fun W=>W.cell? ⟨w.heap.size,0,none⟩=some (.int .i64 a1)/\W.cell? ⟨w.heap.size,1,none⟩=some (.int .i64 a2)/\W.cell? ⟨w.heap.size+1,0,none⟩=some (.int .i64 b1)/\W.cell? ⟨w.heap.size+1,1,none⟩=some (.int .i64 b2))) (by kernel_rfl) (by first | exact HS.out _ k) (fun hHeld=>?_);refine Jc 0 5 1 6 (HS.out _ k) ?_;refine Jc 2 7 3 8 (HS.out _ k) ?_;refine Jc 5 10 6 11 (HS.out _ k) ?_;refine Jc 7 12 8 13 (HS.out _ k) ?_;refine Qa 4 fun K hK=>?_;go_simp;refine(H1.out _).mono ?_;rintro e V ⟨rfl,rfl⟩;refine hK.out _ _ (HS.out _ k) fun hHeld=>?_;clear hK K;refine Qa 9 fun K hK=>?_;go_simp;refine(H2.out _).mono ?_;rintro e V ⟨rfl,rfl⟩;refine hK.out _ _ (HS.out _ k) fun hHeld=>?_;clear hK K;refine Qa 10 fun K hK=>?_;go_simp;have k:=k.trans (Gr.alloc1 _ (.cells #[.int .i64 z1,.int .i64 z2] 3));refine hK.out _ _ (HS.out _ k) fun hHeld=>?_;clear hK K;refine Qa 11 fun K hK=>?_;go_simp;refine(H3.out _ _ (by simp) (by simp)).mono ?_;rintro e w3 ⟨rfl,rfl⟩;refine hK.out _ _ (HS.out _ k) fun hHeld=>?_;clear hK K;refine Qx 12 4 (HS.out _ k) ?_;refine Es (by kernel_rfl) ?_ _;refine QQ.out (hKK _ _ ?_);go_wp2;go_ret;exact⟨by simp,HG.out.trans k⟩
theorem Jbt (a b:Vc.St) (w:World):Calls prog 192 #[.agg #[.int .i64 a.1,.int .i64 a.2],.agg #[.int .i64 b.1,.int .i64 b.2]] w fun e w'=>e=.returned (.int .i64 (stC a b))/\Gr w w':=
 Jcr (fun W=>UJ _ _ W) (fun W=>UJ _ _ W) w
theorem JfG:(prog.info? 63).map (fun i=>(i.zero,i.size,i.bytes))=some (some (.agg #[.int .i64 0,.int .i64 0]),2,16):=by kernel_rfl
theorem UX (A:OA) (n c:Nat) (xs:List Value) (w:World) (hR:Rd w w.heap.size 2 A n c xs) (h1:∀u∈xs,u.oneCell'=true) (hn:n<=8796093022208):
  Calls prog 76 #[.slice A n c] w fun e w'=>∃A' c',e=.returned (.slice A' n c')/\w'.ownsRow w.heap.size 63 2 (.slice A' n c') n xs/\Bz w w':=by
 have hmax:=hR.max;have hcap:=hR.cap;rcases A with _ | ad
 ·have hc0:=hR.nil rfl;obtain rfl:n=0:=by omega
  subst hc0;have hx:xs=[]:=Ey (by simpa using hR.len);subst hx;have ht:=fun W=>Fh (P:=prog) W 23 63 none 0 0 0 0 underlying23;clear hR h1;go_enter func76,ntmps76;go_wp2;go_ret;exact⟨none,0,rfl,ED _ _ _ _,Ec _ _⟩
 ·have ht:=fun W=>Fh (P:=prog) W 23 63 (some ad) n c 0 0 underlying23;obtain⟨i0,hi0,hz0,hz1,hz2⟩:=EN JfG;have h63:0+n<=maxLen:=by omega
  go_enter func76,ntmps76;go_wp2_with (at_builtin;go_must (refine Jh _ rfl (.tmp 5) (.tmp 6) _ rfl w.heap.size 63 i0 _ 2 16 underlying23 hi0 hz0 hz1 hz2 rfl (by decide) (.slice (some ⟨w.heap.size,0,none⟩) 0 0) 0 [] rfl (QT w _ _) w.heap.size (some ad) n c xs rfl (hR.alloc Zl _) h1 h63 (by omega) (by simp) ?_);intro A' c' w1 hown hg hat);go_ret;exact⟨A',c',rfl,by simpa using hown,(Zr.alloc Zl _).trans (Jb hg (by simp) (by simp[Value.ownBlock]))⟩
theorem UN (A:OA) (n c:Nat) (xs:List Value) (w:World) (hR:Rd w w.heap.size 4 A n c xs) (h1:∀u∈xs,u.oneCell'=true) (hn:n<=4398046511104):
  Calls prog 140 #[.slice A n c] w fun e w'=>∃A' c',e=.returned (.slice A' n c')/\w'.ownsRow w.heap.size 70 4 (.slice A' n c') n xs/\Bz w w':=by
 have hmax:=hR.max;have hcap:=hR.cap;rcases A with _ | ad
 ·have hc0:=hR.nil rfl;obtain rfl:n=0:=by omega
  subst hc0;have hx:xs=[]:=Ey (by simpa using hR.len);subst hx;have ht:=fun W=>Fh (P:=prog) W 24 70 none 0 0 0 0 underlying24;clear hR h1;go_enter func140,ntmps140;go_wp2;go_ret;exact⟨none,0,rfl,ED _ _ _ _,Ec _ _⟩
 ·have ht:=fun W=>Fh (P:=prog) W 24 70 (some ad) n c 0 0 underlying24;obtain⟨i0,hi0,hz0,hz1,hz2⟩:=EN XC;have h63:0+n<=maxLen:=by omega
  go_enter func140,ntmps140;go_wp2_with (at_builtin;go_must (refine Jh _ rfl (.tmp 5) (.tmp 6) _ rfl w.heap.size 70 i0 _ 4 32 underlying24 hi0 hz0 hz1 hz2 rfl (by decide) (.slice (some ⟨w.heap.size,0,none⟩) 0 0) 0 [] rfl (QT w _ _) w.heap.size (some ad) n c xs rfl (hR.alloc Zl _) h1 h63 (by omega) (by simp) ?_);intro A' c' w1 hown hg hat);go_ret;exact⟨A',c',rfl,by simpa using hown,(Zr.alloc Zl _).trans (Jb hg (by simp) (by simp[Value.ownBlock]))⟩
end
end Go.Proofs.YtmbeahbgafkjfaaGreatDoor
