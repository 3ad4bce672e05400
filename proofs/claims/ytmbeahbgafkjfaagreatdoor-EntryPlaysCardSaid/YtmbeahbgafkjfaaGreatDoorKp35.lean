/- Lemmas, layer 35. -/
import Derived.Test.YtmbeahbgafkjfaaGreatDoorKp34
set_option maxRecDepth 100000
set_option linter.unusedSimpArgs false
set_option maxHeartbeats 16000000
namespace Go.Proofs.YtmbeahbgafkjfaaGreatDoor
open Go.Proofs.Tryz Go.RowKit
def Jo5 (w:World) (T:List Sb) (e:Ending) (w':World):Prop:=∃A' c',e=.returned (.tuple #[.slice A' T.length c',.bool (decide (T.length<=16))])/\(∃M,JY w' w.heap.size A' T.length c' M/\JK M=T)/\Bz w w'
theorem JfL (A iA:OA) (n c ic:Nat) (L:List (SV×Sb)) (fr:Int) (I:List Sn.Sp) (w:World) (hR:QM w w.heap.size A n c L) (hI:Rd w w.heap.size 2 iA I.length ic (sv I)) (hn:n<=16) (hz:∀p∈L,p.2.int.length<=8796093022208) (hi:I.length<=8796093022208):
  Calls prog 79 #[.slice A n c,.int .i64 fr,.slice iA I.length ic] w (Jo5 w (Ka (JK L) fr I)):=by
 obtain⟨i0,hi0,hz0,hz1,hz2⟩:=EN Yk;have h1max:1<=maxLen:=by unfold maxLen;omega
 have GI:=fun (W:World) (hb:Bz w W)=>JdR iA I.length ic (sv I) W (hI.go hb) (Ju _) hi;have hem:((I.length:Int) == 0)=I.isEmpty:=by
  cases I
  ·rfl
  ·simp;omega
 obtain⟨T,hT⟩:∃T,T=Ka (JK L) fr I:=⟨_,rfl⟩;have hT0:ZP fr I I.isEmpty (JK L)=T:=hT.symm;rw[<-hT];obtain⟨m,hm⟩:∃m,m=I.length:=⟨_,rfl⟩;rw[<-hm] at GI hem ⊢;generalize I.isEmpty=p0 at hem hT0;have HL:=Ja hR.len;have HR:=Ja hR;have HZ:=Ja hz;have GI:=Ja GI;have HM:=Ja hm;have HE:=Ja hem;have HT0:=Ja hT0;clear hR hI hz hi hem hT hT0 hm;go_enter func79,ntmps79;go_wp2;go_loopw [8,9,10] (fun v8 v9 v10 wr=>∃(j q c':Nat) (A':OA) (p:Bool),v10=.int .i64 j/\v9=.bool p/\v8=.slice A' q c'/\j<=n/\q<=2 * j/\Bz w wr/\Hid (∃M,JY wr w.heap.size A' q c' M/\JK M++ZP fr I p ((JK L).drop j)=T)) (fun _ _ v10 _=>n - (intOf v10).toNat)
 case atStart=>exact⟨0,0,0,none,p0,rfl,by rw[<-HE.out],rfl,by omega,by omega,Ec _ _,Ja ⟨[],JY.nil _ _,HT0.out⟩⟩
 case round=>
  obtain⟨j,q,c',A',p,rfl,rfl,rfl,hj,hq,hb,hM⟩:=hrel;obtain⟨M,hM,hMz⟩:=hM.out;have HO:=Ja hM;by_cases hlt:j < n
  ·have hjl:j < L.length:=by rw[HL.out];exact hlt
   have hjb:j < (JK L).length:=by rw[JX];exact hjl
   have hA:=(show ∀V,Bz w V->∃b o,A=some ⟨b,o,none⟩/\V.cell? ⟨b,o+j * 7,none⟩=some (.int .i64 L[j].2.from_) from fun V hv=>by
    obtain⟨b,o,e,_,g,_⟩:=(HR.out.go hv).sub hjl;exact⟨b,o,e,g⟩)
   have hre:=fun (V:World) (hv:Bz w V)=>(show QM V V.heap.size (Qu 7 A c j) 1 (c - j) [L[j]] from ⟨rfl,by
     have h:=(HR.out.go hv).rd.cut (show j<=j+1 by omega) (show j+1<=n by omega);rw[show j+1 - j=1 by omega] at h;have e:Yg [L[j]]=((Yg L).drop (j * 7)).take (1 * 7):=by
      rw[<-Jdg _ _ (by omega),Eh hjl];show _=(KI L[j]++Yg (L.drop (j+1))).take 7;rw[NL (show (KI L[j]).length=7 from rfl)];show KI L[j]++[]=_;rw[EG]
     rw[e];exact h,fun p hp=>by
     rw[Ez.1 hp];exact(HR.out.go hv).each _ (En hjl)⟩)
   have hze:=HZ.out _ (En hjl);have hwd:=Jkg fr I p (JK L) j hjb;rw[KY L j hjl] at hwd;generalize L[j]=y at hA hre hze hwd;have GO:=Ja fun (V:World) (hv:Bz w V)=>(Jan (Qu 7 A c j) 1 (c - j) [y] V (hre V hv) (by omega) (fun p hp=>by rw[Ez.1 hp];exact hze)).mono fun e W' h=>(show ∃A' c' z,e=.returned (.slice A' 1 c')/\JY W' V.heap.size A' 1 c' [z]/\z.2=y.2/\Bz V W' from by
    obtain⟨A5,c5,M5,h1,h2,h3,h4⟩:=h;obtain⟨z,rfl⟩:∃z,M5=[z]:=by
     have:=h2.len;rcases M5 with _ | ⟨z,r⟩
     ·simp at this
     ·rcases r with _ | ⟨_,_⟩
      ·exact⟨z,rfl⟩
      ·simp at this
    exact⟨A5,c5,z,h1,h2,by simpa[JK] using h3,h4⟩)
   have hcap:=HR.out.rd.cap;have HSL:=Ja (show ∀W,(Instr.slice 36 (.slice A n c) (some (.int .i64 j)) (some (.int .i64 ((j:Int)+1))) none).run prog W=.ok (.slice (Qu 7 A c j) 1 (c - j)) W from fun W=>by
    have h:=JmO W 36 65 7 underlying36 (fun w=>by kernel_rfl) A n c .i64 .i64 j ((j:Int)+1) j (j+1) rfl (by omega) (by omega) (by omega);rw[show j+1 - j=1 by omega] at h;exact h)
   obtain⟨b,o,rfl,g0⟩:=hA _ hb;have HA:=Ja (show ∀V,Bz w V->V.cell? ⟨b,o+j * 7,none⟩=some (.int .i64 y.2.from_) from fun V hv=>by
    obtain⟨b2,o2,e,h⟩:=hA V hv;injection e with e;injection e with e1 e2;subst e1 e2;exact h)
   generalize Qu 7 (some (⟨b,o,none⟩:Addr)) c j=A9 at GO HSL;generalize c - j=c9 at GO HSL;generalize hf:y.2.from_=f at HA hwd g0;obtain⟨b3,hb3⟩:∃b3,b3=(!p && decide (f ≥ fr)):=⟨_,rfl⟩;have HX1:=Ja (fun (h:b3=true)=>(show JK M++([XQ fr I]++((if f=fr then [] else [y.2])++ZP fr I true ((JK L).drop (j+1))))=T from by
    rw[hb3,Ea,Ej] at h;have hp:p=false:=by simpa using h.1
    rw[<-hMz,hwd,Ei (show p=false/\fr<=f from ⟨hp,h.2⟩),Eu (show fr<=f from h.2),Rt]))
   have HX2:=Ja (fun (h:b3=false)=>(show JK M++((if f=fr then [] else [y.2])++ZP fr I p ((JK L).drop (j+1)))=T from by
    rw[hb3] at h;rw[<-hMz,hwd,Ef (show ¬ (p=false/\fr<=f) from fun q=>by rw[q.1,Eu (show f ≥ fr from q.2)] at h;cases h),List.nil_append];cases p
    ·have h2:decide (fr<=f)=false:=by simpa using h
     rw[h2,FN]
    ·rw[Bool.true_or]))
   have HB3:=Ja hb3;clear hA hre hze hwd hjb hjl hcap hMz hM hf HR HZ hb3;go_upto_region 6 with fail;go_cut [30] from 20 to 30 (fun v30 wx=>v30=.bool b3/\wr=wx)
   case first=>
    rcases p with _ | _
    ·by_cases hge:f ≥ fr
     ·have hgd:decide (f ≥ fr)=true:=Eu hge;have h3:b3=true:=by rw[HB3.out,hgd];rfl
      go_wp2_with fail;go_meet;exact⟨by rw[h3],rfl⟩
     ·have hgd:decide (f ≥ fr)=false:=Ew hge;have h3:b3=false:=by rw[HB3.out,hgd];rfl
      go_wp2_with fail;go_meet;exact⟨by rw[h3],rfl⟩
    ·have h3:b3=false:=by rw[HB3.out];rfl
     go_wp2_with fail;go_meet;exact⟨by rw[h3],rfl⟩
   case rest=>
    obtain⟨rfl,rfl⟩:=hcut;go_upto_if 30 with fail;go_cut [8,9] from 31 to 37 (fun v8 v9 wx=>∃(q' c2:Nat) (A2:OA) (p':Bool),v8=.slice A2 q' c2/\v9=.bool p'/\q'<=2 * j+1/\Hid (Bz w wx)/\Hid (∃M,JY wx w.heap.size A2 q' c2 M/\JK M++((if f=fr then [] else [y.2])++ZP fr I p' ((JK L).drop (j+1)))=T))
    case first=>
     cases b3
     ·have HX:=Ja (HX2.out (by trivial));clear HX1 HX2;go_wp2_with fail;go_meet;exact⟨q,c',A',p,rfl,rfl,by omega,Ja hb,Ja ⟨_,HO.out,HX.out⟩⟩
     ·go_wp2_with fail;refine(GI.out _ hb).mono ?_;rintro e w5 ⟨D,d,rfl,ho,hb5⟩;have hsz0:=hb.size;have hb:=Jg hb hb5;have HO:=Ja (HO.out.below hb5);have HD:=Ja (Jk ho hsz0);have ka:=Ji hb (.cells #[.int .i64 fr,.slice D m d,.int .i64 0,.int .i64 0,.bool false,.bool false,.bool false] 65);have HO:=Ja (HO.out.below ka);have HD:=Ja (Jf HD.out ka Zl);have HRN:=Ja (Rd.new w5 65 7 1 #[.int .i64 fr,.slice D m d,.int .i64 0,.int .i64 0,.bool false,.bool false,.bool false] rfl h1max);have hb:=Jg hb ka;have hsz:=hb.size;have h63:q+1<=maxLen:=by unfold maxLen;omega
      have HX:=Ja (HX1.out (by trivial));clear ho hb5 ka hsz0 HX1 HX2;go_wp2_with (at_builtin;go_must (refine Jh _ rfl (.tmp 31) (.tmp 36) _ rfl w.heap.size 65 i0 _ 7 56 underlying36 hi0 hz0 hz1 hz2 rfl (by decide) (.slice A' q c') q _ rfl HO.out.row _ (some ⟨_,0,none⟩) 1 1 _ rfl HRN.out (by simp[Value.oneCell']) h63 (by omega) (by omega) ?_);intro A' c' W3 ho3 hg3 hat3);have HOr:=Ja fun r hr=>JM HO.out.row r hr;have HO:=Ja (JY.push (p:=(⟨D,d⟩,XQ fr I)) HO.out (by unfold XQ;dsimp only;rw[<-HM.out];exact HD.out) hg3 (by unfold KI XQ;dsimp only;rw[<-HM.out];exact ho3));have hb:=hb.trans (Jb hg3 hb.size (fun r hr=>(HOr.out r hr)));clear hg3 ho3 hat3 hsz h63;go_meet;exact⟨q+1,c',A',true,rfl,rfl,by omega,Ja hb,Ja ⟨_,HO.out,by rw[Uo,Er];exact HX.out⟩⟩
    case rest=>
     clear HX1 HX2 HO hq hb g0;obtain⟨q,c',A',p,rfl,rfl,hq,hb,hM⟩:=hcut;obtain⟨M,hO,hX⟩:=hM.out;have HO:=Ja hO;have hb:=hb.out;clear hM hO;have g0:=HA.out _ hb;by_cases heq:f=fr
     ·have hgd:(f != fr)=false:=by rw[heq];simp
      have hgd2:(f == fr)=true:=by rw[heq];simp
      have HX:=Ja (by rw[Ei heq,List.nil_append] at hX;exact hX);clear heq hX;go_wp2;go_roundw
      case rel=>exact⟨j+1,q,c',A',_,by go_num,rfl,rfl,by omega,by omega,hb,Ja ⟨M,HO.out,HX.out⟩⟩
      case measure=>simp[intOf];omega
     ·have hgd:(f != fr)=true:=by simpa using heq
      have hgd2:(f == fr)=false:=by simpa using heq
      have HX:=Ja (by rw[Ef heq] at hX;exact hX);have hsl:=HSL.out;clear heq hX;go_wp2_with fail;refine(GO.out _ hb).mono ?_;rintro e w6 ⟨A5,c5,z,rfl,h5,hz5,hb6⟩;have hsz0:=hb.size;have hb:=Jg hb hb6;have HO:=Ja (HO.out.below hb6);have HEL:=Ja (Jk (h5.el z (Ez.2 rfl)) hsz0);have HRN:=Ja h5.rd.rd;have hsz:=hb.size;have h63:q+1<=maxLen:=by unfold maxLen;omega
      have HZ5:=Ja hz5;clear h5 hb6 hsz0 hz5 hsl g0;go_wp2_with (at_builtin;go_must (refine Jh _ rfl (.tmp 45) (.tmp 51) _ rfl w.heap.size 65 i0 _ 7 56 underlying36 hi0 hz0 hz1 hz2 rfl (by decide) (.slice A' q c') q _ rfl HO.out.row _ A5 1 c5 _ rfl HRN.out (ZU _) h63 (by omega) (by omega) ?_);intro A' c' W3 ho3 hg3 hat3);have HOr:=Ja fun r hr=>JM HO.out.row r hr;have HO:=Ja (JY.push (p:=z) HO.out HEL.out hg3 (by have h:=ho3;rwa [show Yg [z]=KI z from EG _] at h));have hb:=hb.trans (Jb hg3 hb.size (fun r hr=>(HOr.out r hr)));clear hg3 ho3 hat3 hsz h63;go_roundw
      case rel=>exact⟨j+1,q+1,c',A',_,by go_num,rfl,rfl,by omega,by omega,hb,Ja ⟨M++[z],HO.out,by rw[Uo,Er,<-HX.out];show _++([z.2]++_)=_;rw[HZ5.out]⟩⟩
      case measure=>simp[intOf];omega
  ·obtain rfl:j=n:=by omega
   have HX:=Ja (show JK M++(if p=true then [] else [XQ fr I])=T from by rw[<-hMz,Jl1 _ _ _ _ _ (by rw[JX];exact Rs HL.out)]);clear hMz hM;rcases p with _ | _
   ·go_wp2_with fail;refine(GI.out _ hb).mono ?_;rintro e w5 ⟨D,d,rfl,ho,hb5⟩;have hsz0:=hb.size;have hb:=Jg hb hb5;have HO:=Ja (HO.out.below hb5);have HD:=Ja (Jk ho hsz0);have ka:=Ji hb (.cells #[.int .i64 fr,.slice D m d,.int .i64 0,.int .i64 0,.bool false,.bool false,.bool false] 65);have HO:=Ja (HO.out.below ka);have HD:=Ja (Jf HD.out ka Zl);have HRN:=Ja (Rd.new w5 65 7 1 #[.int .i64 fr,.slice D m d,.int .i64 0,.int .i64 0,.bool false,.bool false,.bool false] rfl h1max);have hb:=Jg hb ka;have hsz:=hb.size;have h63:q+1<=maxLen:=by unfold maxLen;omega
    clear ho hb5 ka hsz0;go_wp2_with (at_builtin;go_must (refine Jh _ rfl (.tmp 55) (.tmp 60) _ rfl w.heap.size 65 i0 _ 7 56 underlying36 hi0 hz0 hz1 hz2 rfl (by decide) (.slice A' q c') q _ rfl HO.out.row _ (some ⟨_,0,none⟩) 1 1 _ rfl HRN.out (by simp[Value.oneCell']) h63 (by omega) (by omega) ?_);intro A' c' W3 ho3 hg3 hat3);have HOr:=Ja fun r hr=>JM HO.out.row r hr;have HO:=Ja (JY.push (p:=(⟨D,d⟩,XQ fr I)) HO.out (by unfold XQ;dsimp only;rw[<-HM.out];exact HD.out) hg3 (by unfold KI XQ;dsimp only;rw[<-HM.out];exact ho3));have hb:=hb.trans (Jb hg3 hb.size (fun r hr=>(HOr.out r hr)));have hT1:T.length=q+1:=by rw[<-HX.out,<-HO.out.len];simp[JX]
    clear hg3 ho3 hat3 hsz h63;go_wp2;go_ret2;exact⟨A',c',by rw[hT1,<-NC.2 (show ((q:Int)+1<=16)↔(q+1<=16) by omega)];rfl,⟨_,by rw[hT1];exact HO.out,by rw[Uo,<-HX.out];simp[JK]⟩,hb⟩
   ·have hT1:T.length=q:=by rw[<-HX.out,<-HO.out.len];simp[JX]
    go_wp2;go_ret2;exact⟨A',c',by rw[hT1,<-NC.2 (show ((q:Int)<=16)↔(q<=16) by omega)];rfl,⟨M,by rw[hT1];exact HO.out,by rw[<-HX.out];simp⟩,hb⟩
end Go.Proofs.YtmbeahbgafkjfaaGreatDoor
