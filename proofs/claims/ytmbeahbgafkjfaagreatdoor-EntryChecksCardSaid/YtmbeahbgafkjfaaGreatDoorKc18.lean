/- Lemmas for the claim, layer 18. -/
import Derived.Test.YtmbeahbgafkjfaaGreatDoorKc17
set_option maxRecDepth 100000
set_option maxHeartbeats 16000000
namespace Go.Proofs.YtmbeahbgafkjfaaGreatDoor
open Go.RowKit
theorem own_drew_ {w:World} {base:Nat} {e:TypeId} {size n:Nat} {v:Value} {xs:List Value} (h:w.ownsRow base e size v n xs):w.drew.ownsRow base e size v n xs:=h
def slLen:Value->Nat
 | .slice _ n _=>n
 | _=>0
theorem meet_any (A:Option Addr) (n c:Nat) (l:List Sn.Sp) (B:Option Addr) (m d:Nat) (r:List Sn.Sp) (w:World) (hl:l.length=n) (hR:Rd w w.heap.size 2 A n c (sv l)) (hn:n<=8796093022208) (hr:r.length=m) (hR2:Rd w w.heap.size 2 B m d (sv r)) (hm:m<=8796093022208):
  Calls Tryz.prog 186 #[.slice A n c,.slice B m d] w fun e w'=>SpOut w w' e (Sn.meetL l r):=by
 obtain⟨i0,hi0,hz0,hz1,hz2⟩:=info_parts spanE_info;have h1max:1<=maxLen:=by unfold maxLen;omega
 have hx1:=Sn.tidy_len l;have hy1:=Sn.tidy_len r;have HTX:=Hz_ (tidy_any A n c l w hl hR hn);have HTY:=Hz_ (fun (V:World) (hb:Below w.heap.size w V)=>tidy_any B m d r V hr (hR2.go hb) hm);have HMM:=Hz_ (Sn.mtg_meet l r);clear hR hl hR2 hr;generalize Sn.tidy l=X0 at hx1 HTX HMM;generalize Sn.tidy r=Y0 at hy1 HTY HMM;go_enter Tryz.func186,Tryz.ntmps186;have k0:=Below.refl w.heap.size w;go_wp2_with (first
  | (go_at_call 208;have hbx:=hb1;go_must (refine(HTY.out _ hbx).mono ?_);clear hbx;rintro e w2 ⟨A2,c2,rfl,ho2,hb2⟩)
  | (go_at_call 208;go_must (refine HTX.out.mono ?_);rintro e w1 ⟨A1,c1,rfl,ho1,hb1⟩))
 have HX0:=Hz_ ((Rd.of_own ho1).go hb2);have HY0:=Hz_ (Rd.of_own ho2);have HB:=Hz_ (btn hb1 hb2);have hs2:=HB.out.size;clear ho1 hb1 ho2 hb2 k0 HTX HTY;have hsl:∀(A:Option Addr) (n c:Nat),1<=n->∀W,(Instr.slice 23 (.slice A n c) (some (.int .i64 1)) none none).run Tryz.prog W=.ok (.slice (cutAt 2 A c 1) (n - 1) (c - 1)) W:=fun A n c h W=>run_from W 23 63 2 Tryz.underlying23 (fun _=>by kernel_rfl) A n c .i64 1 1 rfl h;have HSL:=Hz_ hsl;clear hsl;go_loopw [5,6,7] (fun v5 v6 v7 wr=>∃(n5 c5 n6 c6 q c':Nat) (A5 A6 A':Option Addr) (X Y u:List Sn.Sp),v5=.slice A5 n5 c5/\v6=.slice A6 n6 c6/\v7=.slice A' q c'/\q+n5+n6<=256/\Below w2.heap.size w2 wr/\Hid (Rd wr w2.heap.size 2 A5 n5 c5 (sv X))/\Hid (Rd wr w2.heap.size 2 A6 n6 c6 (sv Y))/\Hid (X.length=n5)/\Hid (Y.length=n6)/\Hid (wr.ownsRow w2.heap.size 63 2 (.slice A' q c') q (sv u))/\Hid (u.length=q)/\Hid (Sn.meetL l r=u++Sn.mtg X Y)) (fun v5 v6 _ _=>slLen v5+slLen v6)
 case atStart=>exact⟨_,_,_,_,0,0,_,_,none,X0,Y0,[],rfl,rfl,rfl,by omega,Below.refl _ _,HX0,HY0,rfl,rfl,World.ownsRow_nil _ _ _ _,rfl,by rw[<-HMM.out];rfl⟩
 case round=>
  obtain⟨n5,c5,n6,c6,q,c',A5,A6,A',X,Y,u,rfl,rfl,rfl,hq,hb,HX,HY,HXL,HYL,ho,hlen,hr⟩:=hrel;have hbs:=hb.size;have done:(n5=0\/n6=0)->Sn.meetL l r=u:=fun h=>by
   rw[hr.out];rcases h with h | h
   ·rw[List.eq_nil_of_length_eq_zero (HXL.out.trans h),Sn.mtg_nil,List.append_nil]
   ·rw[List.eq_nil_of_length_eq_zero (HYL.out.trans h),Sn.mtg_nil2,List.append_nil]
  by_cases h5:n5=0
  ·have HD:=Hz_ (done (.inl h5));clear done;subst h5;go_wp2;go_ret;refine⟨A',c',by rw[HD.out,hlen.out]<;>rfl,?_,btn HB.out hb⟩;rw[HD.out,hlen.out];exact own_less ho.out hs2
  ·by_cases h6:n6=0
   ·have HD:=Hz_ (done (.inr h6));clear done;subst h6;have h50:0 < n5:=by omega
    go_wp2;go_ret;refine⟨A',c',by rw[HD.out,hlen.out]<;>rfl,?_,btn HB.out hb⟩;rw[HD.out,hlen.out];exact own_less ho.out hs2
   ·clear done;have h50:0 < n5:=by omega
    have h60:0 < n6:=by omega
    obtain⟨bx,ox,rfl,hbx,gx0,gx1⟩:=HX.out.stamp HXL.out h50;obtain⟨bz,oz,rfl,hbz,gz0,gz1⟩:=HY.out.stamp HYL.out h60;obtain⟨⟨s1,s2⟩,X,rfl⟩:∃s X',X=s :: X':=by
     rcases X with _ | ⟨s,X⟩
     ·exact absurd HXL.out.symm h5
     ·exact⟨s,X,rfl⟩
    obtain⟨⟨t1,t2⟩,Y,rfl⟩:∃s X',Y=s :: X':=by
     rcases Y with _ | ⟨s,X⟩
     ·exact absurd HYL.out.symm h6
     ·exact⟨s,X,rfl⟩
    simp only[List.getElem_cons_zero,Nat.zero_mul,Nat.add_zero] at gx0 gx1 gz0 gz1;have hX:=fun (V:World) (hv:Below w2.heap.size wr V)=>(show V.cell? ⟨bx,ox,none⟩=some (.int .i64 s1)/\V.cell? ⟨bx,ox+1,none⟩=some (.int .i64 s2)/\V.cell? ⟨bz,oz,none⟩=some (.int .i64 t1)/\V.cell? ⟨bz,oz+1,none⟩=some (.int .i64 t2) from
     ⟨(hv.cell (p:=⟨bx,ox,none⟩) hbx).trans gx0,(hv.cell (p:=⟨bx,ox+1,none⟩) hbx).trans gx1,(hv.cell (p:=⟨bz,oz,none⟩) hbz).trans gz0,(hv.cell (p:=⟨bz,oz+1,none⟩) hbz).trans gz1⟩)
    have HC:=Hz_ hX;clear hX gx0 gx1 gz0 gz1;have k0:=(Below.refl w2.heap.size wr).drew;have k1:=((Below.refl w2.heap.size wr).drew).alloc hbs (.cells #[.int .i64 0,.int .i64 0] 63);have k2:=(((Below.refl w2.heap.size wr).drew).alloc hbs (.cells #[.int .i64 (max s1 t1),.int .i64 (min s2 t2)] 63));go_wp2_with fail;refine region_nrm fun KK hKK=>?_;refine wp_region_held_drew (S:=(fun V=>V.cell? ⟨bx,ox,none⟩=some (.int .i64 s1)/\V.cell? ⟨bx,ox+1,none⟩=some (.int .i64 s2)/\V.cell? ⟨bz,oz,none⟩=some (.int .i64 t1)/\V.cell? ⟨bz,oz+1,none⟩=some (.int .i64 t2))) (by kernel_rfl) (by first | exact HC.out _ k0 | exact HC.out _ k1 | exact HC.out _ k2) (fun hHeld=>?_);refine puA 0 21 (by first | exact HC.out _ k0 | exact HC.out _ k1 | exact HC.out _ k2) ?_;refine puA 1 22 (by first | exact HC.out _ k0 | exact HC.out _ k1 | exact HC.out _ k2) ?_;refine puA 2 23 (by first | exact HC.out _ k0 | exact HC.out _ k1 | exact HC.out _ k2) ?_;refine puA 3 24 (by first | exact HC.out _ k0 | exact HC.out _ k1 | exact HC.out _ k2) ?_;refine puA 4 25 (by first | exact HC.out _ k0 | exact HC.out _ k1 | exact HC.out _ k2) ?_;refine puA 5 26 (by first | exact HC.out _ k0 | exact HC.out _ k1 | exact HC.out _ k2) ?_;refine puA 6 27 (by first | exact HC.out _ k0 | exact HC.out _ k1 | exact HC.out _ k2) ?_;refine puA 7 28 (by first | exact HC.out _ k0 | exact HC.out _ k1 | exact HC.out _ k2) ?_;refine puA 8 29 (by first | exact HC.out _ k0 | exact HC.out _ k1 | exact HC.out _ k2) ?_;refine puA 9 30 (by first | exact HC.out _ k0 | exact HC.out _ k1 | exact HC.out _ k2) ?_;refine puA 10 31 (by first | exact HC.out _ k0 | exact HC.out _ k1 | exact HC.out _ k2) ?_;refine puA 11 32 (by first | exact HC.out _ k0 | exact HC.out _ k1 | exact HC.out _ k2) ?_;refine puA 12 33 (by first | exact HC.out _ k0 | exact HC.out _ k1 | exact HC.out _ k2) ?_;refine puA 13 34 (by first | exact HC.out _ k0 | exact HC.out _ k1 | exact HC.out _ k2) ?_;refine puA 14 35 (by first | exact HC.out _ k0 | exact HC.out _ k1 | exact HC.out _ k2) ?_;refine puA 15 36 (by first | exact HC.out _ k0 | exact HC.out _ k1 | exact HC.out _ k2) ?_;refine puA 16 37 (by first | exact HC.out _ k0 | exact HC.out _ k1 | exact HC.out _ k2) ?_;refine puA 17 38 (by first | exact HC.out _ k0 | exact HC.out _ k1 | exact HC.out _ k2) ?_;refine puA 18 39 (by first | exact HC.out _ k0 | exact HC.out _ k1 | exact HC.out _ k2) ?_;refine puR 19 fun K hK=>?_;go_simp;refine hK.out _ _ (by first | exact HC.out _ k0 | exact HC.out _ k1 | exact HC.out _ k2) (fun hHeld=>?_);clear hK K;refine puR 20 fun K hK=>?_;go_simp;refine hK.out _ _ (by first | exact HC.out _ k0 | exact HC.out _ k1 | exact HC.out _ k2) (fun hHeld=>?_);clear hK K;refine wpAnyH_done (by kernel_rfl) ?_ _;refine Nrm.out (hKK _ _ ?_);have q5:=HSL.out (some ⟨bx,ox,none⟩) n5 c5 h50;have q6:=HSL.out (some ⟨bz,oz,none⟩) n6 c6 h60;have k3:=(((Below.refl w2.heap.size wr).alloc hbs (.cells #[.int .i64 (max s1 t1),.int .i64 (min s2 t2)] 63)).drew);have h63:q+1<=maxLen:=by unfold maxLen;omega
    clear k0 k1 k2;by_cases hc:max s1 t1<=min s2 t2
    ·have HBO:=Hz_ (show Sn.bothS (s1,s2) (t1,t2)=[(max s1 t1,min s2 t2)] by unfold Sn.bothS;exact if_pos hc);have hRn:Rd ((wr.alloc (.cells #[.int .i64 (max s1 t1),.int .i64 (min s2 t2)] 63)).drew.alloc (.cells #[.int .i64 (max s1 t1),.int .i64 (min s2 t2)] 63)) (wr.heap.size+1+1) 2 (some ⟨wr.heap.size+1,0,none⟩) 1 1 [.int .i64 (max s1 t1),.int .i64 (min s2 t2)]:=by
      have:=Rd.new (wr.alloc (.cells #[.int .i64 (max s1 t1),.int .i64 (min s2 t2)] 63)).drew 63 2 1 #[.int .i64 (max s1 t1),.int .i64 (min s2 t2)] rfl h1max
      rwa [show (wr.alloc (.cells #[.int .i64 (max s1 t1),.int .i64 (min s2 t2)] 63)).drew.heap.size=wr.heap.size+1 from World.size_alloc _ _] at this
     have HRN:=Hz_ hRn;have k4:=k3.alloc (by show w2.heap.size<=(wr.alloc _).heap.size;simp;omega) (.cells #[.int .i64 (max s1 t1),.int .i64 (min s2 t2)] 63);clear hRn;go_wp2_with (at_builtin;go_must (refine wpList_append_rd _ rfl (.tmp 45) (.tmp 47) _ rfl w2.heap.size 63 i0 _ 2 16 Tryz.underlying23 hi0 hz0 hz1 hz2 rfl (by decide) (.slice A' q c') q _ rfl (World.ownsRow.alloc (show (wr.alloc _).drew.ownsRow _ _ _ _ _ _ from ho.out.alloc _) _) _ (some ⟨_,0,none⟩) 1 1 [.int .i64 (max s1 t1),.int .i64 (min s2 t2)] rfl HRN.out (by intro u hu;simp at hu;rcases hu with rfl | rfl<;>rfl) h63 (by omega) (by simp;omega) ?_);intro A3 c3 w3 ho3 hg3 hat3);have kb3:=k4.trans (grown_below hg3 (by simp;omega) (fun j hj=>own_lt ho.out j hj));obtain⟨g0,g1,g2,g3⟩:=HC.out _ kb3;replace ho3:w3.ownsRow w2.heap.size 63 2 (.slice A3 (q+1) c3) (q+1) (sv (u++[(max s1 t1,min s2 t2)])):=by rw[sv_app];exact ho3
     clear hg3 hat3 k4 k3;go_quiet (fail);by_cases hd:s2 < t2
     ·have HM:=Hz_ (show Sn.mtg ((s1,s2) :: X) ((t1,t2) :: Y)=Sn.bothS (s1,s2) (t1,t2)++Sn.mtg X ((t1,t2) :: Y) by rw[Sn.mtg_step,if_pos hd]);go_wp2_with fail;go_roundw
      case rel=>
       refine⟨n5 - 1,c5 - 1,n6,c6,q+1,c3,cutAt 2 (some ⟨bx,ox,none⟩) c5 1,some ⟨bz,oz,none⟩,A3,X,((t1,t2) :: Y),(u++[(max s1 t1,min s2 t2)]),rfl,rfl,rfl,by omega,below_drewN (hb.trans (kb3)) _,?_,?_,?_,?_,?_,?_,?_⟩
       ·exact Rd.drewN ((HX.out.from_ (k:=1) h50).below (kb3)) _
       ·exact Rd.drewN (HY.out.below (kb3)) _
       ·show _=_;rw[<-HXL.out];rfl
       ·exact HYL.out
       ·exact own_drewN ho3 _
       ·show _=_;rw[List.length_append,hlen.out];rfl
       ·show _=_;rw[hr.out,HM.out,HBO.out,List.append_assoc]
      case measure=>simp[slLen];omega
     ·have HM:=Hz_ (show Sn.mtg ((s1,s2) :: X) ((t1,t2) :: Y)=Sn.bothS (s1,s2) (t1,t2)++Sn.mtg ((s1,s2) :: X) Y by rw[Sn.mtg_step,if_neg hd]);go_wp2_with fail;go_roundw
      case rel=>
       refine⟨n5,c5,n6 - 1,c6 - 1,q+1,c3,some ⟨bx,ox,none⟩,cutAt 2 (some ⟨bz,oz,none⟩) c6 1,A3,((s1,s2) :: X),Y,(u++[(max s1 t1,min s2 t2)]),rfl,rfl,rfl,by omega,below_drewN (hb.trans (kb3)) _,?_,?_,?_,?_,?_,?_,?_⟩
       ·exact Rd.drewN (HX.out.below (kb3)) _
       ·exact Rd.drewN ((HY.out.from_ (k:=1) h60).below (kb3)) _
       ·exact HXL.out
       ·show _=_;rw[<-HYL.out];rfl
       ·exact own_drewN ho3 _
       ·show _=_;rw[List.length_append,hlen.out];rfl
       ·show _=_;rw[hr.out,HM.out,HBO.out,List.append_assoc]
      case measure=>simp[slLen];omega
    ·have HBO:=Hz_ (show Sn.bothS (s1,s2) (t1,t2)=[] by unfold Sn.bothS;exact if_neg hc);have ho4:=own_drew_ (ho.out.alloc (.cells #[.int .i64 (max s1 t1),.int .i64 (min s2 t2)] 63));go_wp2;obtain⟨w3,hw3⟩:∃w3,w3=(wr.alloc (.cells #[.int .i64 (max s1 t1),.int .i64 (min s2 t2)] 63)).drew:=⟨_,rfl⟩;rw[<-hw3] at k3 ho4 ⊢;clear hw3;obtain⟨g0,g1,g2,g3⟩:=HC.out _ k3;go_quiet (fail);by_cases hd:s2 < t2
     ·have HM:=Hz_ (show Sn.mtg ((s1,s2) :: X) ((t1,t2) :: Y)=Sn.bothS (s1,s2) (t1,t2)++Sn.mtg X ((t1,t2) :: Y) by rw[Sn.mtg_step,if_pos hd]);go_wp2_with fail;go_roundw
      case rel=>
       refine⟨n5 - 1,c5 - 1,n6,c6,q,c',cutAt 2 (some ⟨bx,ox,none⟩) c5 1,some ⟨bz,oz,none⟩,A',X,((t1,t2) :: Y),u,rfl,rfl,rfl,by omega,below_drewN (hb.trans (k3)) _,?_,?_,?_,?_,?_,?_,?_⟩
       ·exact Rd.drewN ((HX.out.from_ (k:=1) h50).below (k3)) _
       ·exact Rd.drewN (HY.out.below (k3)) _
       ·show _=_;rw[<-HXL.out];rfl
       ·exact HYL.out
       ·exact own_drewN ho4 _
       ·show _=_;exact hlen.out
       ·show _=_;rw[hr.out,HM.out,HBO.out,List.nil_append]
      case measure=>simp[slLen];omega
     ·have HM:=Hz_ (show Sn.mtg ((s1,s2) :: X) ((t1,t2) :: Y)=Sn.bothS (s1,s2) (t1,t2)++Sn.mtg ((s1,s2) :: X) Y by rw[Sn.mtg_step,if_neg hd]);go_wp2_with fail;go_roundw
      case rel=>
       refine⟨n5,c5,n6 - 1,c6 - 1,q,c',some ⟨bx,ox,none⟩,cutAt 2 (some ⟨bz,oz,none⟩) c6 1,A',((s1,s2) :: X),Y,u,rfl,rfl,rfl,by omega,below_drewN (hb.trans (k3)) _,?_,?_,?_,?_,?_,?_,?_⟩
       ·exact Rd.drewN (HX.out.below (k3)) _
       ·exact Rd.drewN ((HY.out.from_ (k:=1) h60).below (k3)) _
       ·exact HXL.out
       ·show _=_;rw[<-HYL.out];rfl
       ·exact own_drewN ho4 _
       ·show _=_;exact hlen.out
       ·show _=_;rw[hr.out,HM.out,HBO.out,List.nil_append]
      case measure=>simp[slLen];omega
theorem restL_len (l:List Sn.Sp):(Sn.restL l).length<=128:=Sn.fmS_128 (Sn.of_fm _)
theorem less_any (A:Option Addr) (n c:Nat) (l:List Sn.Sp) (B:Option Addr) (m d:Nat) (r:List Sn.Sp) (w:World) (hl:l.length=n) (hR:Rd w w.heap.size 2 A n c (sv l)) (hn:n<=8796093022208) (hr:r.length=m) (hR2:Rd w w.heap.size 2 B m d (sv r)) (hm:m<=8796093022208):
  Calls Tryz.prog 187 #[.slice A n c,.slice B m d] w fun e w'=>SpOut w w' e (Sn.lessL l r):=by
 have hq:=restL_len r;have HT:=Hz_ (rest_any B m d r w hr hR2 hm);have HM:=Hz_ (fun (V:World) (hb:Below w.heap.size w V) (A1:Option Addr) (c1:Nat) (h1:Rd V V.heap.size 2 A1 (Sn.restL r).length c1 (sv (Sn.restL r)))=>meet_any A n c l A1 (Sn.restL r).length c1 (Sn.restL r) V hl (hR.go hb) hn rfl h1 (by omega));have HE:=Hz_ (Sn.meet_rest l r);clear hR hl hR2 hr;go_enter Tryz.func187,Tryz.ntmps187;go_wp2_with (first
  | (go_at_call 210;go_must (refine HT.out.mono ?_);rintro e w1 ⟨A1,c1,rfl,ho1,hb1⟩)
  | (go_at_call 186;go_must (refine(HM.out _ hb1 _ _ (Rd.of_own ho1)).mono ?_);rintro e w2 ⟨A2,c2,rfl,ho2,hb2⟩))
 go_ret;refine⟨A2,c2,by rw[HE.out]<;>rfl,?_,btn hb1 hb2⟩;rw[<-HE.out];exact own_less ho2 hb1.size
def zv (L:List Int):List Value:=L.map (Value.int .i64)
def ones (L:List Int):List Sn.Sp:=L.map fun o=>(o,o)
theorem spanOf_any (A:Option Addr) (n c:Nat) (L:List Int) (w:World) (hl:L.length=n) (hR:Rd w w.heap.size 1 A n c (zv L)) (hn:n<=8796093022208):
  Calls Tryz.prog 185 #[.slice A n c] w fun e w'=>SpOut w w' e (Sn.tidy (ones L)):=by
 obtain⟨i0,hi0,hz0,hz1,hz2⟩:=info_parts spanE_info;have h1max:1<=maxLen:=by unfold maxLen;omega
 have hmx:n<=maxLen:=by unfold maxLen;omega
 have HR:=Hz_ hR;have HL:=Hz_ hl;have HT:=Hz_ (fun (V:World) (A1:Option Addr) (c1:Nat) (h:Rd V V.heap.size 2 A1 n c1 (sv (ones L)))=>tidy_any A1 n c1 (ones L) V (by unfold ones;rw[List.length_map];exact hl) h hn);clear hR hl;go_enter Tryz.func185,Tryz.ntmps185;go_wp2;go_loopw [3,8] (fun v3 v8 wr=>∃(k c':Nat) (A':Option Addr),v8=.int .i64 k/\v3=.slice A' k c'/\k<=n/\Below w.heap.size w wr/\Hid (wr.ownsRow w.heap.size 63 2 (.slice A' k c') k (sv (ones (L.take k))))) (fun _ v8 _=>n - (intOf v8).toNat)
 case atStart=>exact⟨0,0,none,rfl,rfl,by omega,Below.refl _ _,World.ownsRow_nil _ _ _ _⟩
 case round=>
  obtain⟨k,c',A',rfl,rfl,hk,hb,ho⟩:=hrel;have hbs:=hb.size;by_cases hlt:k < n
  ·obtain⟨bb,o,rfl,hab,hc⟩:=(HR.out.below hb).plain (by omega) (by omega);have hkl:k < L.length:=by rw[HL.out];exact hlt
   have g0:=hc k (.int .i64 (L[k]'hkl)) (by unfold zv;rw[List.getElem?_map,List.getElem?_eq_getElem hkl];rfl);have HT1:=Hz_ (show ones (L.take (k+1))=ones (L.take k)++[((L[k]'hkl),(L[k]'hkl))] by rw[List.take_succ_eq_append_getElem hkl];unfold ones;rw[List.map_append];rfl);clear hc;generalize (L[k]'hkl)=z at g0 HT1;have h63:k+1<=maxLen:=by omega
   have HRN:=Hz_ (Rd.new wr 63 2 1 #[.int .i64 z,.int .i64 z] rfl h1max);clear hkl;go_wp2_with (at_builtin;go_must (refine wpList_append_rd _ rfl (.tmp 12) (.tmp 16) _ rfl w.heap.size 63 i0 _ 2 16 Tryz.underlying23 hi0 hz0 hz1 hz2 rfl (by decide) (.slice A' k c') k _ rfl (ho.out.alloc _) _ (some ⟨_,0,none⟩) 1 1 [.int .i64 z,.int .i64 z] rfl HRN.out (by intro u hu;simp at hu;subst hu;rfl) h63 (by omega) (by simp;omega) ?_);intro A3 c3 w3 ho3 hg3 hat3);have hb3:=(hb.alloc hbs _).trans (grown_below hg3 (by simp;omega) (fun j hj=>own_lt ho.out j hj));go_roundw
   case rel=>exact⟨k+1,c3,A3,by go_num,rfl,by omega,hb3,by rw[HT1.out,sv_app];exact ho3⟩
   case measure=>simp[intOf];omega
  ·obtain rfl:k=n:=by omega
   have ho2:=ho.out;rw[List.take_of_length_le (by rw[HL.out];exact Nat.le_refl _)] at ho2;go_wp2_with (go_at_call 208;go_must (refine(HT.out _ _ _ (Rd.of_own ho2)).mono ?_);rintro e w2 ⟨A2,c2,rfl,ho3,hb2⟩);go_ret;exact⟨A2,c2,rfl,own_less ho3 hbs,btn hb hb2⟩
theorem growS_any (m:Nat) (hm:m<=8796093022208) (w:World):
  Calls Tryz.prog 225 #[.slice none 0 0,.int .i64 m] w fun e w'=>∃A' c',e=.returned (.slice A' 0 c')/\w'.ownsRow w.heap.size 63 2 (.slice A' 0 c') 0 []/\Below w.heap.size w w':=by
 by_cases h0:m=0
 ·subst h0;go_enter Tryz.func225,Tryz.ntmps225;go_wp2;go_ret;exact⟨none,0,rfl,World.ownsRow_nil _ _ _ _,Below.refl _ _⟩
 ·obtain⟨i0,hi0,hz0,hz1,hz2⟩:=info_parts spanE_info;have hk0:0 < m:=by omega
  have hk1:(0:Int) < (m:Int):=by omega
  have hu:∀W,(Instr.slice 23 (.slice none 0 0) none (some (.int .i64 0)) none).run Tryz.prog W=.ok (.slice none 0 0) W:=
   fun W=>run_upto W 23 63 2 Tryz.underlying23 (fun _=>by kernel_rfl) none 0 0 .i64 0 0 rfl Zl
  have hfit:Builtin.nextslicecap (0+m) 0 * i0.bytes<=281474976710656:=growslice_fits (by omega) (by rw[hz2];omega);have hz:=Lib.run_append_grow_zeros (P:=Tryz.prog) w 23 3 23 63 i0 _ .i64 .i64 Tryz.underlying23 Tryz.underlying3 hi0 hz0 none 0 0 []
   (by simp[Builtin.firstCells]) m hk0 (by rw[hz1];decide) (by omega) (by omega) (by rw[hz2];omega) hfit
  have hge:=grownCap_ge w (0+m) 0 63;have hgm:=grownCap_le_maxLen w (0+m) 0 63 (by unfold maxLen;omega);generalize grownCap w (0+m) 0 63=N at hz hge hgm;rw[Nat.zero_add] at hz hge;have Hz:=Hz_ hz;have HM:=Hz_ hgm;have hnn:0<=N:=Nat.zero_le _;clear hz hfit hgm;go_enter Tryz.func225,Tryz.ntmps225;go_wp2_with (at_builtin;go_must (refine Lib.wpList_append_run _ rfl _ _ _ _ rfl _ _ rfl rfl _ _ Hz.out ?_));go_ret;refine⟨_,_,rfl,⟨rfl,.inr ⟨w.heap.size,N,_,rfl,Nat.le_refl _,heap_alloc_new w.drew _,by omega,HM.out,?_,?_⟩⟩,(Zr.drew).alloc Zl _⟩
  ·simp only[Array.size_append,List.size_toArray,size_zeroCells];simp;omega
  ·simp
theorem flat_take_le (vs:List (List Sn.Sp)) (k:Nat):(vs.take k).flatten.length<=vs.flatten.length:=by
 have e:vs.flatten=(vs.take k).flatten++(vs.drop k).flatten:=by rw[<-List.flatten_append,List.take_append_drop]
 rw[e,List.length_append];omega
theorem flat_next (vs:List (List Sn.Sp)) (k:Nat) (h:k < vs.length):(vs.take (k+1)).flatten=(vs.take k).flatten++vs[k]:=by
 rw[List.take_succ_eq_append_getElem h,List.flatten_append];simp
theorem concatS_any (A:Option Addr) (n c:Nat) (vs:List (List Sn.Sp)) (w:World) (hR:RdL w w.heap.size A n c vs) (hsz:vs.flatten.length<=8796093022208):
  Calls Tryz.prog 209 #[.slice A n c] w fun e w'=>SpOut w w' e vs.flatten:=by
 obtain⟨i0,hi0,hz0,hz1,hz2⟩:=info_parts spanE_info;have hmx:n<=9223372036854775807:=by have h1:=hR.cap;have h2:=hR.max;unfold maxLen at h2;omega
 have HL:=Hz_ hR.len;have HR:=Hz_ hR;have HZ:=Hz_ fun k=>Nat.le_trans (flat_take_le vs k) hsz;clear hR hsz;go_enter Tryz.func209,Tryz.ntmps209;go_wp2;go_loopw [3,11] (fun v3 v11 wr=>∃k:Nat,k<=n/\v11=.int .i64 k/\v3=.int .i64 ((vs.take k).flatten.length:Nat)/\w=wr) (fun _ v11 _=>n - (intOf v11).toNat)
 case atStart=>exact⟨0,by omega,rfl,rfl,rfl⟩
 case round=>
  obtain⟨k,hk,rfl,rfl,rfl⟩:=hrel;have hq:=HZ.out k;have hq2:=HZ.out (k+1);by_cases hlt:k < n
  ·have hkv:k < vs.length:=by rw[HL.out];exact hlt
   obtain⟨b,o,Ak,nk,ck,rfl,hbB,hcell,hvl,hRk⟩:=HR.out.at_ k hkv;rw[flat_next vs k hkv,List.length_append,hvl] at hq2;have HN:=Hz_ (show (vs.take (k+1)).flatten.length=(vs.take k).flatten.length+nk by rw[flat_next vs k hkv,List.length_append,hvl]);clear hRk hvl hkv;generalize (vs.take k).flatten.length=q at hq hq2 HN;go_wp2;go_roundw
   case rel=>exact⟨k+1,by omega,by go_num,by rw[HN.out];go_num,by first | rfl | trivial⟩
   case measure=>simp[intOf];omega
  ·obtain rfl:k=n:=by omega
   generalize (vs.take k).flatten.length=q at hq;go_wp2_with (go_at_call 225;go_must (refine(growS_any q hq _).mono ?_);rintro e w1 ⟨A1,c1,rfl,ho1,hb1⟩);have HO1:=Hz_ ho1;have hs1:=hb1.size;clear ho1;go_loopw [6,27] (fun v6 v27 wx=>∃(j q c':Nat) (A':Option Addr),j<=k/\v27=.int .i64 j/\v6=.slice A' q c'/\Below w.heap.size w wx/\Hid ((vs.take j).flatten.length=q)/\Hid (wx.ownsRow w.heap.size 63 2 (.slice A' q c') q (sv (vs.take j).flatten))) (fun _ v27 _=>k - (intOf v27).toNat)
   case atStart=>exact⟨0,0,c1,A1,by omega,rfl,rfl,hb1,rfl,HO1.out⟩
   case round=>
    obtain⟨j,q,c',A',hj,rfl,rfl,hb,hlen,ho⟩:=hrel;have hbs:=hb.size;have hq2:=HZ.out (j+1);by_cases hlt:j < k
    ·have hkv:j < vs.length:=by rw[HL.out];exact hlt
     obtain⟨b,o,Ak,nk,ck,rfl,hbB,hcell,hvl,hRk⟩:=(HR.out.below hb).at_ j hkv;rw[flat_next vs j hkv,List.length_append,hvl,hlen.out] at hq2;have HN:=Hz_ (flat_next vs j hkv);have HV:=Hz_ hvl;have HRK:=Hz_ hRk;have h63:q+nk<=maxLen:=by unfold maxLen;omega
     clear hRk hvl;go_wp2_with (at_builtin;go_must (refine wpList_append_rd _ rfl (.tmp 31) (.tmp 32) _ rfl w.heap.size 63 i0 _ 2 16 Tryz.underlying23 hi0 hz0 hz1 hz2 rfl (by decide) (.slice A' q c') q _ rfl ho.out w.heap.size Ak nk ck (sv (vs[j]'hkv)) rfl HRK.out (sv_oneCell _) h63 (by omega) (by omega) ?_);intro A3 c3 w3 ho3 hg3 hat3);go_roundw
     case rel=>
      refine⟨j+1,q+nk,c3,A3,by omega,by go_num,rfl,hb.trans (grown_below hg3 hbs (fun j hj=>own_lt ho.out j hj)),by show _=_;rw[HN.out,List.length_append,HV.out,hlen.out],?_⟩;rw[HN.out,sv_app];exact ho3
     case measure=>simp[intOf];omega
    ·obtain rfl:j=k:=by omega
     have ho2:=ho.out;have hl2:=hlen.out;rw[List.take_of_length_le (by rw[HL.out];exact Nat.le_refl _)] at ho2 hl2;subst hl2;go_wp2;go_ret;exact⟨A',c',rfl,ho2,hb⟩
theorem joinS_any (A:Option Addr) (n c:Nat) (vs:List (List Sn.Sp)) (w:World) (hR:RdL w w.heap.size A n c vs) (hsz:vs.flatten.length<=8796093022208):
  Calls Tryz.prog 184 #[.slice A n c] w fun e w'=>SpOut w w' e (Sn.tidy vs.flatten):=by
 have HC:=Hz_ (concatS_any A n c vs w hR hsz);have HT:=Hz_ (fun (V:World) (A1:Option Addr) (c1:Nat) h=>tidy_any A1 vs.flatten.length c1 vs.flatten V rfl h hsz);clear hR;generalize vs.flatten=L at HC HT hsz ⊢;go_enter Tryz.func184,Tryz.ntmps184;go_wp2_with (first
  | (go_at_call 209;go_must (refine HC.out.mono ?_);rintro e w1 ⟨A1,c1,rfl,ho1,hb1⟩)
  | (go_at_call 208;go_must (refine(HT.out _ _ _ (Rd.of_own ho1)).mono ?_);rintro e w2 ⟨A2,c2,rfl,ho2,hb2⟩))
 go_ret;exact⟨A2,c2,rfl,own_less ho2 hb1.size,btn hb1 hb2⟩
def StOut (w w':World) (e:Ending) (u:List Vc.St):Prop:=
 ∃A' c',e=.returned (.slice A' u.length c')/\w'.ownsRow w.heap.size 28 2 (.slice A' u.length c') u.length (sv u)/\Below w.heap.size w w'
theorem StOut.nil {w w':World} (hb:Below w.heap.size w w'):StOut w w' (.returned (.slice none 0 0)) []:=⟨none,0,rfl,World.ownsRow_nil _ _ _ _,hb⟩
def reachF (z:List Zn) (known:List Vc.St) (o:Int):List Vc.St:=if (zF (-1) none z && fm (-1) known)=true/\0<=o/\o<=255 then reach z known o else []
theorem reachF_no1 {z:List Zn} {known:List Vc.St} {o:Int} (h:zF (-1) none z=false):reachF z known o=[]:=by unfold reachF;rw[h];simp
theorem reachF_no2 {z:List Zn} {known:List Vc.St} {o:Int} (h:fm (-1) known=false):reachF z known o=[]:=by unfold reachF;rw[h];simp
theorem reachF_no3 {z:List Zn} {known:List Vc.St} {o:Int} (h:¬ (0<=o/\o<=255)):reachF z known o=[]:=by unfold reachF;rw[if_neg (fun e=>h e.2)]
theorem reachF_yes {z:List Zn} {known:List Vc.St} {o:Int} (h1:zF (-1) none z=true) (h2:fm (-1) known=true) (h3:0<=o/\o<=255):reachF z known o=reach z known o:=by unfold reachF;rw[h1,h2,if_pos ⟨rfl,h3⟩]
theorem reach_some {z:List Zn} {known:List Vc.St} {o:Int} {x:Zn} (h:z.find? (inZ o)=some x):reach z known o=x.2:=by unfold reach;rw[h]
theorem reach_none {z:List Zn} {known:List Vc.St} {o:Int} (h:z.find? (inZ o)=none):reach z known o=known:=by unfold reach;rw[h]
theorem zonesReach_any (A D:Option Addr) (n c m d:Nat) (L:List (ZV×Zn)) (u0:List Vc.St) (o:Int) (w:World) (hR:RdZ w w.heap.size A n c L) (hl:u0.length=m) (hR2:Rd w w.heap.size 2 D m d (sv u0)):
  Calls Tryz.prog 165 #[.slice A n c,.slice D m d,.int .i64 o] w fun e w'=>StOut w w' e (reachF (zns L) u0 o):=by
 have hln:=hR.len;have G:=zonesFormed_any A n c L w hR;have F:=fun (V:World) (hb:Below w.heap.size w V)=>formed_any D m d u0 V hl (hR2.go hb);rcases hf:zF (-1) none (zns L) with _ | _
 ·have HN:=Hz_ (reachF_no1 (known:=u0) (o:=o) hf);rw[hf] at G;have G:=Hz_ G;clear hf hR hR2 hl F;go_enter Tryz.func165,Tryz.ntmps165;go_wp2_with fail;refine G.out.mono ?_;rintro e w1 ⟨rfl,hb1⟩;go_wp2;go_ret;rw[HN.out];exact StOut.nil hb1
 ·rcases hf2:fm (-1) u0 with _ | _
  ·have HN:=Hz_ (reachF_no2 (z:=zns L) (o:=o) hf2);rw[hf] at G;rw[hf2] at F;have G:=Hz_ G;have F:=Hz_ F;clear hf hf2 hR hR2 hl;go_enter Tryz.func165,Tryz.ntmps165;go_wp2_with fail;refine G.out.mono ?_;rintro e w1 ⟨rfl,hb1⟩;go_wp2_with fail;refine(F.out _ hb1).mono ?_;rintro e w2 ⟨rfl,hb2⟩;go_wp2;go_ret;rw[HN.out];exact StOut.nil (btn hb1 hb2)
  ·have HN:=Hz_ fun (h:0<=o/\o<=255)=>reachF_yes hf hf2 h;have HN3:=Hz_ fun (h:¬ (0<=o/\o<=255))=>reachF_no3 (z:=zns L) (known:=u0) h;have hsz:=stl_len hf2;have HZ:=Hz_ fun p (hp:p∈L)=>(show p.1.n<=64 from by
    rw[<-(hR.each p hp).1];exact stl_len (zF_fm hf p.2 (by unfold zns;exact List.mem_map_of_mem hp)))
   rw[hf] at G;rw[hf2] at F;have G:=Hz_ G;have F:=Hz_ F;have HR:=Hz_ hR;have HR2:=Hz_ hR2;have HL:=Hz_ hln;have HL2:=Hz_ hl;have HD:=Hz_ fun k h=>find_drop o (zns L) k h;have hmax:=hR.max;clear hf hf2 hR hR2 hln;by_cases c1:o < 0
   ·have HX:=Hz_ (HN3.out (by omega));go_enter Tryz.func165,Tryz.ntmps165;go_wp2_with fail;refine G.out.mono ?_;rintro e w1 ⟨rfl,hb1⟩;go_wp2_with fail;refine(F.out _ hb1).mono ?_;rintro e w2 ⟨rfl,hb2⟩;go_wp2;go_ret;rw[HX.out];exact StOut.nil (btn hb1 hb2)
   by_cases c2:o > 255
   ·have HX:=Hz_ (HN3.out (by omega));go_enter Tryz.func165,Tryz.ntmps165;go_wp2_with fail;refine G.out.mono ?_;rintro e w1 ⟨rfl,hb1⟩;go_wp2_with fail;refine(F.out _ hb1).mono ?_;rintro e w2 ⟨rfl,hb2⟩;go_wp2;go_ret;rw[HX.out];exact StOut.nil (btn hb1 hb2)
   have HX:=Hz_ (HN.out (by omega));have hlm:m<=8796093022208:=by rw[<-hl];omega
   clear hl hsz;go_enter Tryz.func165,Tryz.ntmps165;go_wp2_with fail;refine G.out.mono ?_;rintro e w1 ⟨rfl,hb1⟩;go_wp2_with fail;refine(F.out _ hb1).mono ?_;rintro e w2 ⟨rfl,hb2⟩;have HB2:=Hz_ (btn hb1 hb2);clear hb1 hb2 G F;go_wp2;go_loopw [27] (fun v27 wr=>∃(k:Nat),k<=n/\v27=.int .i64 k/\Below w.heap.size w wr/\Hid ((zns L).find? (inZ o)=((zns L).drop k).find? (inZ o))) (fun v27 _=>n - (intOf v27).toNat)
   case atStart=>exact⟨0,by omega,rfl,HB2.out,rfl⟩
   case round=>
    obtain⟨k,hk,rfl,hb,hr⟩:=hrel;have hbs:=hb.size;by_cases hlt:k < n
    ·have hkL:k < L.length:=by rw[HL.out];exact hlt
     have hkZ:k < (zns L).length:=by rw[zns_len];exact hkL
     obtain⟨b,oo,rfl,hab,g0,g1,g2⟩:=(HR.out.below hb).zone hkL;obtain⟨hvl,hRv⟩:=HR.out.each _ (List.getElem_mem hkL);have hvz:=HZ.out _ (List.getElem_mem hkL);have hd:=hr.out.trans (HD.out k hkZ);rw[zns_at L k hkL] at hd;generalize L[k]=q at g0 g1 g2 hvl hRv hvz hd;obtain⟨⟨Av,nv,cv⟩,⟨lo,hi⟩,u⟩:=q;dsimp only at g0 g1 g2 hvl hRv hvz hd;have hb1:=hb.alloc hbs (.cells #[.int .i64 lo,.int .i64 hi,.slice Av nv cv] 129);have C:=Hz_ (cloneSt_any Av nv cv (sv u) _ ((hRv.below hb1).more hb1.size) (sv_oneCell _) (by omega));have HDD:=Hz_ hd;have HVL:=Hz_ hvl;have HB:=Hz_ hb1;clear hd hr hab hvl hRv hvz hb;by_cases d1:lo<=o
     ·by_cases d2:o<=hi
      ·have HF:=Hz_ (show reachF (zns L) u0 o=u by rw[HX.out];exact reach_some (HDD.out.trans (if_pos (inZ_yes d1 d2))));go_wp2_with fail;refine C.out.mono ?_;rintro e w3 ⟨A3,c3,rfl,ho3,hb3⟩;have hs3:=HB.out.size;go_wp2;go_ret;rw[HF.out];exact⟨A3,c3,by rw[HVL.out]<;>rfl,by rw[HVL.out];exact own_less ho3 hs3,btn HB.out hb3⟩
      ·have HF:=Hz_ (HDD.out.trans (if_neg (by rw[inZ_no2 d2];simp)));clear C;go_wp2;go_roundw
       case rel=>exact⟨k+1,by omega,by go_num,HB.out,HF.out⟩
       case measure=>simp[intOf];omega
     ·have HF:=Hz_ (HDD.out.trans (if_neg (by rw[inZ_no1 d1];simp)));clear C;go_wp2;go_roundw
      case rel=>exact⟨k+1,by omega,by go_num,HB.out,HF.out⟩
      case measure=>simp[intOf];omega
    ·obtain rfl:k=n:=by omega
     have HF:=Hz_ (show reachF (zns L) u0 o=u0 by rw[HX.out];exact reach_none (hr.out.trans (by rw[List.drop_of_length_le (by rw[zns_len,HL.out];exact Nat.le_refl _)];rfl)));have C:=Hz_ (cloneSt_any D m d (sv u0) _ (HR2.out.go hb) (sv_oneCell _) hlm);clear hr;go_wp2_with fail;refine C.out.mono ?_;rintro e w3 ⟨A3,c3,rfl,ho3,hb3⟩;go_wp2;go_ret;rw[HF.out];exact⟨A3,c3,by rw[HL2.out]<;>rfl,by rw[HL2.out];exact own_less ho3 hbs,btn hb hb3⟩
theorem refZonesReach_any (A D:Option Addr) (n c m d:Nat) (L:List (ZV×Zn)) (u0:List Vc.St) (o:Int) (w:World) (hR:RdZ w w.heap.size A n c L) (hl:u0.length=m) (hR2:Rd w w.heap.size 2 D m d (sv u0)):
  Calls Tryz.prog 157 #[.slice A n c,.slice D m d,.int .i64 o] w fun e w'=>StOut w w' e (reachF (zns L) u0 o):=by
 have hln:=hR.len;have G:=refZonesFormed_any A n c L w hR;have F:=fun (V:World) (hb:Below w.heap.size w V)=>refFormed_any D m d u0 V hl (hR2.go hb);rcases hf:zF (-1) none (zns L) with _ | _
 ·have HN:=Hz_ (reachF_no1 (known:=u0) (o:=o) hf);rw[hf] at G;have G:=Hz_ G;clear hf hR hR2 hl F;go_enter Tryz.func157,Tryz.ntmps157;go_wp2_with fail;refine G.out.mono ?_;rintro e w1 ⟨rfl,hb1⟩;go_wp2;go_ret;rw[HN.out];exact StOut.nil hb1
 ·rcases hf2:fm (-1) u0 with _ | _
  ·have HN:=Hz_ (reachF_no2 (z:=zns L) (o:=o) hf2);rw[hf] at G;rw[hf2] at F;have G:=Hz_ G;have F:=Hz_ F;clear hf hf2 hR hR2 hl;go_enter Tryz.func157,Tryz.ntmps157;go_wp2_with fail;refine G.out.mono ?_;rintro e w1 ⟨rfl,hb1⟩;go_wp2_with fail;refine(F.out _ hb1).mono ?_;rintro e w2 ⟨rfl,hb2⟩;go_wp2;go_ret;rw[HN.out];exact StOut.nil (btn hb1 hb2)
  ·have HN:=Hz_ fun (h:0<=o/\o<=255)=>reachF_yes hf hf2 h;have HN3:=Hz_ fun (h:¬ (0<=o/\o<=255))=>reachF_no3 (z:=zns L) (known:=u0) h;have hsz:=stl_len hf2;have HZ:=Hz_ fun p (hp:p∈L)=>(show p.1.n<=64 from by
    rw[<-(hR.each p hp).1];exact stl_len (zF_fm hf p.2 (by unfold zns;exact List.mem_map_of_mem hp)))
   rw[hf] at G;rw[hf2] at F;have G:=Hz_ G;have F:=Hz_ F;have HR:=Hz_ hR;have HR2:=Hz_ hR2;have HL2:=Hz_ hl;have hmax:=hR.max;have HL:=Hz_ hln;clear hf hf2 hR hR2 hln;by_cases c1:o < 0
   ·have HX:=Hz_ (HN3.out (by omega));go_enter Tryz.func157,Tryz.ntmps157;go_wp2_with fail;refine G.out.mono ?_;rintro e w1 ⟨rfl,hb1⟩;go_wp2_with fail;refine(F.out _ hb1).mono ?_;rintro e w2 ⟨rfl,hb2⟩;go_wp2;go_ret;rw[HX.out];exact StOut.nil (btn hb1 hb2)
   by_cases c2:o > 255
   ·have HX:=Hz_ (HN3.out (by omega));go_enter Tryz.func157,Tryz.ntmps157;go_wp2_with fail;refine G.out.mono ?_;rintro e w1 ⟨rfl,hb1⟩;go_wp2_with fail;refine(F.out _ hb1).mono ?_;rintro e w2 ⟨rfl,hb2⟩;go_wp2;go_ret;rw[HX.out];exact StOut.nil (btn hb1 hb2)
   have HX:=Hz_ (HN.out (by omega));have hlm:m<=8796093022208:=by rw[<-hl];omega
   clear hl hsz;go_enter Tryz.func157,Tryz.ntmps157;go_wp2_with fail;refine G.out.mono ?_;rintro e w1 ⟨rfl,hb1⟩;go_wp2_with fail;refine(F.out _ hb1).mono ?_;rintro e w2 ⟨rfl,hb2⟩;have hb:=btn hb1 hb2;have HB:=Hz_ hb;have hbs:=hb.size;have AT:=Hz_ (refAtZ_any A n c L o w2 (HR.out.go hb));clear hb1 hb2 G F hb;go_wp2_with fail;refine AT.out.mono ?_;rintro e w3 ⟨rfl,hat⟩;rcases hat with ⟨i,hi,rfl,hfd⟩ | ⟨rfl,hfd⟩
   ·obtain⟨b,oo,rfl,hab,g0,g1,g2⟩:=(HR.out.below HB.out).zone hi;obtain⟨hvl,hRv⟩:=HR.out.each _ (List.getElem_mem hi);have hvz:=HZ.out _ (List.getElem_mem hi);have hin:(0:Int)<=(i:Int)/\(i:Int) < (n:Int):=by have:=HL.out;omega
    generalize L[i]=q at g0 g1 g2 hvl hRv hvz hfd;obtain⟨⟨Av,nv,cv⟩,⟨lo,hi2⟩,u⟩:=q;dsimp only at g0 g1 g2 hvl hRv hvz hfd;have HF:=Hz_ (show reachF (zns L) u0 o=u by rw[HX.out];exact reach_some hfd);have C:=Hz_ (vcopy_any Av nv cv (sv u) w2 ((hRv.below HB.out).more hbs) (sv_oneCell _) (by omega));have HVL:=Hz_ hvl;have HLT:=Hz_ (show i < n from by omega);clear hab hvl hRv hvz hfd;go_wp2_with fail;refine C.out.mono ?_;rintro e w3 ⟨A3,c3,rfl,ho3,hb3⟩;go_wp2;go_ret;rw[HF.out];exact⟨A3,c3,by rw[HVL.out]<;>rfl,by rw[HVL.out];exact own_less ho3 hbs,btn HB.out hb3⟩
   ·have HF:=Hz_ (show reachF (zns L) u0 o=u0 by rw[HX.out];exact reach_none hfd);have C:=Hz_ (vcopy_any D m d (sv u0) w2 (HR2.out.go HB.out) (sv_oneCell _) hlm);clear hfd;go_wp2_with fail;refine C.out.mono ?_;rintro e w3 ⟨A3,c3,rfl,ho3,hb3⟩;go_wp2;go_ret;rw[HF.out];exact⟨A3,c3,by rw[HL2.out]<;>rfl,by rw[HL2.out];exact own_less ho3 hbs,btn HB.out hb3⟩
end Go.Proofs.YtmbeahbgafkjfaaGreatDoor
