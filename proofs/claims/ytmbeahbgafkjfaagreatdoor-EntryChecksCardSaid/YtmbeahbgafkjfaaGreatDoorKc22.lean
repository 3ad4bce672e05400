/- Lemmas for the claim, layer 22. -/
import Derived.Test.YtmbeahbgafkjfaaGreatDoorKc21
set_option maxRecDepth 100000
set_option maxHeartbeats 16000000
namespace Go.Proofs.YtmbeahbgafkjfaaGreatDoor
open Go.RowKit Go.Shelf
attribute [local go_sem] Oper.semAt_some
def farS (r s e a:List Vc.St) (k:Nat):List Vc.St:=if Vc.cnt r k < Vc.cnt e k/\Vc.cnt s k<=Vc.cnt r k then vec (jn [a,[(Vc.cnt e k,(k:Int))]]) else a
def farN (r s e:List Vc.St) (l:List Nat):List Vc.St:=l.foldl (farS r s e) r
theorem farN_snoc (r s e:List Vc.St) (l:List Nat) (k:Nat):farN r s e (l++[k])=farS r s e (farN r s e l) k:=by unfold farN;rw[List.foldl_append];rfl
theorem farN_upto (r s e:List Vc.St):∀k,farN r s e (Vc.upto (pos (Vc.cnt e)) k)=farTo r s e k
 | 0=>rfl
 | k+1=>by
  have ih:=farN_upto r s e k;have h0:=Vc.cnt_nonneg r k;unfold Vc.upto at ih ⊢;rw[List.range_succ,List.filter_append];rcases hp:pos (Vc.cnt e) k with _ | _
  ·have h1:¬ 0 < Vc.cnt e k:=by simpa[pos] using hp
   rw[show List.filter (pos (Vc.cnt e)) [k]=[] by simp[hp],List.append_nil,ih,farTo,if_neg (by omega)]
  ·rw[show List.filter (pos (Vc.cnt e)) [k]=[k] by simp[hp],farN_snoc,ih,farTo];rfl
theorem cntZ_nat (v:List Vc.St) {k:Nat} (h:k < 64):cntZ v (k:Int)=Vc.cnt v k:=by unfold cntZ;rw[if_pos (by omega),Int.toNat_natCast]
def NewA (w:World) (A:Option Addr) (u:List Vc.St) (A':Option Addr) (f:List Vc.St):Prop:=(A'=A/\f=u)\/∀a,A'=some a->w.heap.size<=a.block
def FarI (w:World) (A:Option Addr) (u0:List Vc.St) (BF:Nat) (u:List Vc.St) (W:World):Prop:=∃A' c',Boxed W BF 22 (.slice A' u.length c')/\Rd W W.heap.size 2 A' u.length c' (sv u)/\NewA w A u0 A' u
theorem stretched_any (v:NV) (x:Nt) (A:Option Addr) (n c:Nat) (u:List Vc.St) (w:World) (hT:Tab w) (hN:NtRd w w.heap.size v x) (hl:u.length=n) (hR:Rd w w.heap.size 2 A n c (sv u)):
  Calls Tryz.prog 183 #[.slice A n c,.agg v.val] w fun e w'=>∃A' c',e=.returned (.slice A' (farTo u x.s x.e 64).length c')/\Rd w' w'.heap.size 2 A' (farTo u x.s x.e 64).length c' (sv (farTo u x.s x.e 64))/\NewA w A u A' (farTo u x.s x.e 64)/\Below w.heap.size w w':=by
 obtain⟨A1,n1,c1,A2,n2,c2,A3,n3,c3,A4,n4,c4⟩:=v;have h0lt:0 < w.heap.size:=World.block_lt_of_cell? _ _ (hT 0 (by decide));have b1:=((Boxed.new w 22 (.slice A n c)).alloc (.cells #[.slice A1 n1 c1,.slice A2 n2 c2,.slice A3 n3 c3,.slice A4 n4 c4] 26)).alloc (.cells #[.slice A n c] 22);have b2:=(Blk.new (w.alloc (.cells #[.slice A n c] 22)) 26 #[.slice A1 n1 c1,.slice A2 n2 c2,.slice A3 n3 c3,.slice A4 n4 c4]).alloc (.cells #[.slice A n c] 22);have b3:=Boxed.new ((w.alloc (.cells #[.slice A n c] 22)).alloc (.cells #[.slice A1 n1 c1,.slice A2 n2 c2,.slice A3 n3 c3,.slice A4 n4 c4] 26)) 22 (.slice A n c);have hb0:Below w.heap.size w (((w.alloc (.cells #[.slice A n c] 22)).alloc (.cells #[.slice A1 n1 c1,.slice A2 n2 c2,.slice A3 n3 c3,.slice A4 n4 c4] 26)).alloc (.cells #[.slice A n c] 22)):=(((Below.refl _ w).alloc Zl _).alloc (by simp) _).alloc (by simp;omega) _;simp only[World.size_alloc] at b2 b3;obtain⟨W0,hW0⟩:∃W0,W0=(((w.alloc (.cells #[.slice A n c] 22)).alloc (.cells #[.slice A1 n1 c1,.slice A2 n2 c2,.slice A3 n3 c3,.slice A4 n4 c4] 26)).alloc (.cells #[.slice A n c] 22)):=⟨_,rfl⟩;have hs0:W0.heap.size=w.heap.size+1+1+1:=by rw[hW0];simp
 rw[<-hW0] at b1 b2 b3 hb0;have hN0:=hN.go hb0;have HALL:=Hz_ (all_any A2 n2 c2 x.e W0 hN0.l2 hN0.r2);have HC1:=Hz_ fun (V:World) (hb:Below w.heap.size w V) (k:Int)=>count_any A n c u k V hl (hR.go hb);have HC2:=Hz_ fun (V:World) (hb:Below w.heap.size w V) (k:Int)=>count_any A1 n1 c1 x.s k V hN.l1 (hN.go hb).r1;have HW:=Hz_ hW0.symm;have HB0:=Hz_ hb0;have HT:=Hz_ hT;have HR0:=Hz_ (hR.go hb0);have HL:=Hz_ hl;have HBX:=Hz_ (And.intro b1 (And.intro b2 b3));have HS0:=Hz_ hs0;have q1:=b2.cell 1;have q0:=b1.cell;clear hN hN0 hR hl b1 b2 b3 hb0 hW0 hT;refine(callsIn_wide (n:=3)).1 ?_;refine callsIn_of_wp_marks Tryz.func183 rfl trivial ?_ rfl;simp only[Tryz.ntmps183,List.size_toArray,List.length_cons,List.length_nil,Nat.reduceAdd,Nat.reduceSub,Array.replicate_succ,Array.replicate_zero,List.push_toArray,List.append_toArray,List.nil_append,List.cons_append]
 gi_wp2_with fail
 rw[HW.out]
 gi_wp2_with fail
 refine⟨trivial,?_⟩;refine(callsIn_wide.2 HALL.out).mono ?_;rintro e w1 ⟨G,Bx,rfl,hG,hBx,hg1,hx1,hb1⟩;have hbw:=btn HB0.out hb1;have hGood:Good G Bx (fun m k=>k=Vc.cnt x.e m) w1:=⟨HT.out.below hbw,hBx,_,_,hG,fun _ _=>rfl⟩;have hh:=hG.cell 64;rw[cc_has,has_pos] at hh;have hFar:FarI w A u (w.heap.size+1+1) u w1:=⟨A,c,by rw[HL.out];exact(hb1.block _ (by have:=HS0.out;omega)).trans HBX.out.2.2,by rw[HL.out];exact HR0.out.go hb1,.inl ⟨rfl,rfl⟩⟩;have HBW:=Hz_ hbw;have hs1:=hb1.size;have HB1:=Hz_ hb1;clear q0 q1 HALL hb1 hbw
 gi_wp2
 refine wpIn_rangeFunc_ownG rfl (by omega) (gf:=221) (lb:=#[.pointer (some ⟨Bx,0,none⟩)]) rfl trivial (enters_of Tryz.func221 (by kernel_rfl) rfl)
  (each_stops (3 - 1) (by omega) G Bx (pos (Vc.cnt x.e)) (fun m k=>k=Vc.cnt x.e m) _ hGood hh) good_t (good_b hG.lt hBx.lt (by omega)) Zr (fun _=>rfl)
  (fun pre W=>FarI w A u (w.heap.size+1+1) (farN u x.s x.e (nds pre)) W/\Below (w.heap.size+1+1) w1 W)
  (fun _ _ _=>False)
  (OwnFrom.and (fun s X Y row hs hg hr=>by
   obtain⟨A',c',h1,h2,h3⟩:=hs;exact⟨A',c',(show Blk X _ _ _ from h1).kept_ hg (fun r e=>(hr r e).2),(rd_kept h2 hg (fun r e=>(hr r e).2)).more hg.size,h3⟩) (ownFrom_below (by have:=HS0.out;omega) (by have:=HS0.out;omega)))
  (fun _ _ _ _ _ hs _ _=>hs)
  ⟨hFar,Below.refl _ _⟩
  (fun y=>{ tmps:=#[.slice A n c,.agg (NV.val ⟨A1,n1,c1,A2,n2,c2,A3,n3,c3,A4,n4,c4⟩),.pointer (some ⟨w.heap.size,0,none⟩),.pointer (some ⟨w.heap.size+1,0,none⟩),.slice none 0 0,.pointer (some ⟨w.heap.size+1+1,0,none⟩),.int .i64 (y.1.1:Int),.int .i64 y.1.2,undef,.slice A n c,.pointer (some ⟨w.heap.size+1,1,none⟩),.slice A2 n2 c2,.func (.func 221) #[] #[.pointer (some ⟨Bx,0,none⟩)],.int .i64 (y.1.1:Int),.int .i64 y.1.2,undef,undef,undef,undef,undef,undef,undef,undef,undef,undef,undef,undef,undef,undef,undef,undef,undef,undef,undef,undef],defers:=[] }) ?assign ?body ?done ?stop
 case assign=>
  intro l y W K hK;dsimp only[evs]
  gi_wp2
  exact hK
 case body=>
  rintro l pre y W ⟨⟨A',c',hbox,hrd,hna⟩,hB⟩ hlt;have hk64:=y.2.1;have hval:=y.2.2.2;generalize hk:y.1.1=k at hk64 hval ⊢;generalize hct:y.1.2=ct at hval ⊢;have hbW:Below w.heap.size w W:=HBW.out.trans (hB.mono (by omega));have bx0:Boxed W w.heap.size 22 (.slice A n c):=(hB.block _ (by omega)).trans ((HB1.out.block _ (by have:=HS0.out;omega)).trans HBX.out.1);have bx1:Blk W (w.heap.size+1) 26 #[.slice A1 n1 c1,.slice A2 n2 c2,.slice A3 n3 c3,.slice A4 n4 c4]:=(hB.block _ (by omega)).trans ((HB1.out.block _ (by have:=HS0.out;omega)).trans HBX.out.2.1);have q0:=bx0.cell;have hsn:=farN_snoc u x.s x.e (nds pre) k;have hsn2:farN u x.s x.e (nds (pre++[y]))=farS u x.s x.e (farN u x.s x.e (nds pre)) k:=by rw[nds_snoc,hk];exact hsn
  have e1:=HC1.out W hbW (k:Int);rw[cntZ_nat u hk64] at e1;have hfs:farS u x.s x.e (farN u x.s x.e (nds pre)) k=if Vc.cnt u k < Vc.cnt x.e k/\Vc.cnt x.s k<=Vc.cnt u k then vec (jn [farN u x.s x.e (nds pre),[(Vc.cnt x.e k,(k:Int))]]) else farN u x.s x.e (nds pre):=rfl;have e2:=fun V hb=>HC2.out V hb (k:Int);simp only[cntZ_nat x.s hk64] at e2;generalize farN u x.s x.e (nds pre)=f at hbox hrd hsn2 hfs hna;generalize farS u x.s x.e f k=g at hsn2 hfs;generalize Vc.cnt u k=a at e1 hfs;rw[<-hval] at hfs;generalize Vc.cnt x.s k=b at e2 hfs;have E1:=Hz_ e1;have E2:=Hz_ e2;have HFS:=Hz_ hfs;have HSN:=Hz_ hsn2;have HBo:=Hz_ hbox;have HRd:=Hz_ hrd;have HBB:=Hz_ hB;have HX1:=Hz_ bx1;have HBW2:=Hz_ hbW;have hWs:=hB.size;clear e1 e2 hfs hsn hsn2 hk hct hval hbox hrd hB bx0 bx1 hbW
  gi_wp2_with fail
  refine⟨trivial,?_⟩;refine(callsIn_wide.2 E1.out).mono ?_;rintro e w4 ⟨rfl,hb4⟩;have hbx4:Boxed w4 (w.heap.size+1+1) 22 (.slice A' f.length c'):=(hb4.block _ HBo.out.lt).trans HBo.out;have q3:=(HX1.out.go hb4).cell 0;clear q0 E1;by_cases c1:ct > a
  ·have HB4:=Hz_ hb4;have HX4:=Hz_ hbx4;clear hb4 hbx4
   gi_wp2_with fail
   refine⟨trivial,?_⟩;refine(callsIn_wide.2 (E2.out _ (btn HBW2.out HB4.out))).mono ?_;rintro e w5 ⟨rfl,hb5⟩;have hb5:=btn HB4.out hb5;have HB5:=Hz_ hb5;have hbx5:Boxed w5 (w.heap.size+1+1) 22 (.slice A' f.length c'):=(hb5.block _ HBo.out.lt).trans HBo.out;by_cases c2:a ≥ b
   ·have HG:=Hz_ (show g=vec (jn [f,[(ct,(k:Int))]]) by rw[HFS.out,if_pos ⟨c1,c2⟩]);have q4:=hbx5.cell;have WI:=Hz_ (with_any A' f.length c' f (ct,(k:Int)) w5 (HT.out.below (btn HBW2.out hb5)) rfl (HRd.out.go hb5));clear hb5 hbx5 q3 E2
    gi_wp2_with fail
    refine⟨trivial,?_⟩;refine(callsIn_wide.2 WI.out).mono ?_;rintro e w6 hout;rw[<-HG.out] at hout;obtain⟨A6,c6,rfl,ho6,hb6⟩:=hout;have hb6W:=btn HB5.out hb6;have hbx6:Boxed w6 (w.heap.size+1+1) 22 (.slice A' f.length c'):=(hb6W.block _ HBo.out.lt).trans HBo.out;have q5:=hbx6.cell;have f5:=hbx6.frozen;have HB6:=Hz_ hb6W;have HX6:=Hz_ hbx6;have hs5:=HB5.out.size;have hbl:=HBo.out.lt;clear hb6 hb6W hbx6 q4 WI
    gi_wp2
    refine⟨(keeps_below HB6.out).trans ((KeepsOthers.setCell _ _ _).from _),fun hg=>?_,⟨A6,c6,?_,?_,.inr (fun a ha=>?_)⟩,?_⟩
    ·exact(hg.below HB6.out (by obtain⟨_,_,h,_⟩:=hg.cnts;exact h.lt) hg.box.lt (by omega)).set_ _ (by omega) (by omega) (by omega)
    ·rw[HSN.out];exact HX6.out.set _
    ·rw[HSN.out];exact Rd.of_own (ho6.kept (grownBy_setCell' w6 (w.heap.size+1+1) _) (own_ne ho6 (by omega)))
    ·obtain⟨A7,c7,hv,_,hf⟩:=own_form ho6;injection hv with hv1 _ _;subst hv1;obtain⟨g7,rfl,hg7,_⟩:=hf a ha;have:=HBW2.out.size;show w.heap.size<=g7;omega
    ·exact(HBB.out.trans (HB6.out.mono (by omega))).setCell (p:=⟨w.heap.size+1+1,0,none⟩) Zl _
   ·have HG:=Hz_ (show g=f by rw[HFS.out,if_neg (by omega)]);clear hb5 hbx5 q3 E2
    gi_wp2
    refine⟨keeps_below HB5.out,fun hg=>?_,⟨A',c',?_,?_,by rw[HSN.out,HG.out];exact hna⟩,?_⟩
    ·exact hg.below HB5.out (by obtain⟨_,_,h,_⟩:=hg.cnts;exact h.lt) hg.box.lt (by omega)
    ·rw[HSN.out,HG.out];exact(HB5.out.block _ HBo.out.lt).trans HBo.out
    ·rw[HSN.out,HG.out];exact HRd.out.go HB5.out
    ·exact HBB.out.trans (HB5.out.mono (by omega))
  ·have HG:=Hz_ (show g=f by rw[HFS.out,if_neg (by omega)]);have HB4:=Hz_ hb4;clear hb4 hbx4 q3 E2
   gi_wp2
   refine⟨trivial,?_⟩
   gi_wp2
   refine⟨keeps_below HB4.out,fun hg=>?_,⟨A',c',?_,?_,by rw[HSN.out,HG.out];exact hna⟩,?_⟩
   ·exact hg.below HB4.out (by obtain⟨_,_,h,_⟩:=hg.cnts;exact h.lt) hg.box.lt (by omega)
   ·rw[HSN.out,HG.out];exact(HB4.out.block _ HBo.out.lt).trans HBo.out
   ·rw[HSN.out,HG.out];exact HRd.out.go HB4.out
   ·exact HBB.out.trans (HB4.out.mono (by omega))
 case done=>
  rintro D ys W hD hys ⟨⟨A',c',hbox,hrd,hna⟩,hB⟩ hK;have hys':nds ys=Vc.upto (pos (Vc.cnt x.e)) 64:=hys;rw[hys',farN_upto] at hbox hrd hna;have q:=hbox.cell;clear hys hys'
  gi_wp2
  refine⟨by simp,.inl ⟨_,_,rfl,run_takeDeferred hK,?_⟩⟩;exact⟨_,results_tmp rfl _ _ _,A',c',rfl,(rd_kept hrd (grownBy_putObj' W D (.deferred none)) (fun r e=>by cases e;exact⟨_,hK,rfl⟩)).more (by simp),hna,(HBW.out.trans (hB.mono (by omega))).trans (belowK_b (w:=w) Zl W D _ _ (by omega) hK rfl rfl)⟩
 case stop=>
  rintro D c pre W _ _ h _;exact h.elim
end Go.Proofs.YtmbeahbgafkjfaaGreatDoor
namespace Go.Proofs.YtmbeahbgafkjfaaGreatDoor
open Go.RowKit Go.Shelf
theorem OwnZ.setB {w:World} {base BO k c:Nat} {A:Option Addr} {L:List (ZV×Zn)} {v0:Value} (h:OwnZ w base A k c L) (hv:Boxed w BO 32 v0) (v:Value):OwnZ (w.setCell ⟨BO,0,none⟩ v) base A k c L:=
 ⟨h.row.kept (grownBy_setCell' w BO v) (.inr (hv.not_row (by decide) h.row).symm),fun p hp=>⟨(h.el p hp).1,(h.el p hp).2.kept (grownBy_setCell' w BO v) (.inr (hv.not_row (by decide) (h.el p hp).2).symm)⟩⟩
theorem Rd.kz {BO:Nat} {W V:World} {size n c:Nat} {A:Option Addr} {xs:List Value} (h:Rd W W.heap.size size A n c xs) (k:KZ BO W V) (hs:0 < n->∀a,A=some a->a.block≠BO/\pt BO W≠some a.block):Rd V V.heap.size size A n c xs:=
 ⟨h.len,h.cap,h.max,h.nil,fun hn=>by
  obtain⟨ad,e,hb,hc⟩:=h.at0 hn;obtain⟨s1,s2⟩:=hs hn ad e;exact⟨ad,e,Nat.lt_of_lt_of_le hb k.size,fun j u hu=>k.cell (by rw[block_of_add];exact s1) (by rw[block_of_add];exact s2) (hc j u hu)⟩⟩
def SepA (BO:Nat) (W:World) (n:Nat) (A:Option Addr):Prop:=0 < n->∀a,A=some a->a.block≠BO/\pt BO W≠some a.block
theorem KeepsFrom.zero {B:Nat} {W V:World} (h:KeepsFrom 0 W V):KeepsFrom B W V:=⟨h.size,fun k o _ hk ho=>h.same k o (Nat.zero_le _) hk ho⟩
def putL (c:Bool) (l:List Sn.Sp) (u:List Vc.St):List Zn:=if c=true then [] else l.map fun s=>(s,u)
structure PutI (w:World) (BO base:Nat) (Z:List Zn) (W:World):Prop where
 st:∃A k c M,Boxed W BO 32 (.slice A k c)/\OwnZ W base A k c M/\zns M=Z
 kz:KZ BO w W
 kf:KeepsFrom 0 w W
 bl:Below base w W
theorem rdN {W:World} {t:TypeId} {cs:Array Value} (size n:Nat) (_:Below W.heap.size W (W.alloc (.cells cs t))) (hn:cs.size=n * size) (hm:n<=maxLen):Rd (W.alloc (.cells cs t)) (W.alloc (.cells cs t)).heap.size size (some ⟨W.heap.size,0,none⟩) n n cs.toList:=by
 have:=Rd.new W t size n cs hn hm;rw[World.size_alloc];exact this
theorem put_any (BN BO base:Nat) (D A N A0:Option Addr) (m d n c nn nc k0 c0:Nat) (l:List Sn.Sp) (u nw:List Vc.St) (M:List (ZV×Zn)) (w:World) (hT:Tab w) (hbn:Boxed w BN 22 (.slice N nn nc)) (hnn:nw.length=nn) (hRN:Rd w w.heap.size 2 N nn nc (sv nw))
  (hbo:Boxed w BO 32 (.slice A0 k0 c0)) (hM:OwnZ w base A0 k0 c0 M) (hbase:base<=BO) (hl:l.length=m) (hRl:Rd w w.heap.size 2 D m d (sv l)) (sl:SepA BO w m D) (hu:u.length=n) (hRu:Rd w w.heap.size 2 A n c (sv u)) (su:SepA BO w n A) (hn:n<=8796093022208) (hsz:k0+m<=3518437208883):
  Calls Tryz.prog 181 #[.slice D m d,.slice A n c,.pointer (some ⟨BN,0,none⟩),.pointer (some ⟨BO,0,none⟩)] w fun e w'=>e=.returned (.tuple #[])/\PutI w BO base (zns M++putL (cov2 u nw) l u) w':=by
 have hq:=hbn.cell;have C:=covers_any A N n c nn nc u nw w hT hu hnn hRu hRN;rcases hc:covB (Vc.cnt u) (Vc.cnt nw) with _ | _
 ·rw[hc] at C;have HP:=Hz_ (show putL (cov2 u nw) l u=l.map fun s=>(s,u) by unfold cov2;rw[hc];rfl);obtain⟨i0,hi0,hz0,hz1,hz2⟩:=info_parts zone_info;have h1max:1<=maxLen:=by unfold maxLen;omega
  have C:=Hz_ C;have HBO:=Hz_ hbo;have HM0:=Hz_ hM;have HLl:=Hz_ hl;have HRl:=Hz_ hRl;have HRu:=Hz_ hRu;have SL:=Hz_ sl;have SU:=Hz_ su;have HU:=Hz_ hu;have hlm:=hRl.cap;have hlx:=hRl.max;have hmx:m<=9223372036854775807:=by unfold maxLen at hlx;omega
  clear hc hbo hM hRl hRu sl su hT hbn hRN hl hu;go_enter Tryz.func181,Tryz.ntmps181;go_wp2_with fail;refine C.out.mono ?_;rintro e w1 ⟨rfl,hb1⟩;have P1:=Hz_ (show PutI w BO base (zns M++(l.take 0).map fun s=>(s,u)) w1 from ⟨⟨A0,k0,c0,M,(hb1.block _ HBO.out.lt).trans HBO.out,HM0.out.below hb1,by simp⟩,KZ.of_below HBO.out.lt hb1,keeps_below hb1,hb1.mono (by have:=HBO.out.lt;omega)⟩);clear hb1 hq C;go_wp2;go_loopw [13] (fun v13 wr=>∃i:Nat,v13=.int .i64 i/\i<=m/\Hid (PutI w BO base (zns M++(l.take i).map fun s=>(s,u)) wr)) (fun v13 _=>m - (intOf v13).toNat)
  case atStart=>exact⟨0,rfl,Nat.zero_le _,P1.out⟩
  case round=>
   obtain⟨i,rfl,hi,hp⟩:=hrel;by_cases hlt:i < m
   ·obtain⟨⟨A1,k1,c1,M1,hbx,hM1,hz⟩,kz,kf,bl⟩:=hp.out;have hkl:i < l.length:=by rw[HLl.out];exact hlt
    obtain⟨b,oo,rfl,hab,g0,g1⟩:=(HRl.out.kz kz SL.out).stamp HLl.out hlt;have hRu1:=HRu.out.kz kz SU.out;have hnx:=List.take_succ_eq_append_getElem hkl;have hk1:k1=k0+i:=by
     have e1:=congrArg List.length hz;have e2:=hM1.len;have e3:=HM0.out.len;rw[zns_len,List.length_append,zns_len,List.length_map,List.length_take] at e1;omega
    have hk2:k1+1<=3518437208883:=by omega
    clear hk1;generalize (l[i]'hkl)=s at g0 g1 hnx;obtain⟨lo,hi'⟩:=s;dsimp only at g0 g1;have hwb:Below wr.heap.size wr (wr.alloc (.cells #[.int .i64 lo,.int .i64 hi'] 63)):=Zr.alloc Zl _;have XS:=Hz_ ((Blk.new wr 63 #[.int .i64 lo,.int .i64 hi']).go Zr.drew);have hwd:=btn hwb (Below.refl _ (wr.alloc (.cells #[.int .i64 lo,.int .i64 hi'] 63))).drew;have BX:=Hz_ (show Boxed _ BO 32 (.slice A1 k1 c1) from (hwd.block _ hbx.lt).trans hbx);have BX0:=BX;have CZ:=Hz_ (hM1.below hwd);have RU:=Hz_ fun V (hb:Below wr.heap.size wr V)=>cloneSt_any A n c (sv u) V (hRu1.go hb) (sv_oneCell _) hn;have k:=hwd;have h63:k1+1<=maxLen:=by unfold maxLen;omega
    have HNX:=Hz_ (show (l.take (i+1)).map (fun s=>(s,u))=(l.take i).map (fun s=>(s,u))++[((lo,hi'),u)] by rw[hnx,List.map_append];rfl);have HZ:=Hz_ hz;have HBX:=Hz_ hbx;have KZZ:=Hz_ kz;have KF:=Hz_ kf;have BL:=Hz_ bl;have hbs:=bl.size;have hbl:=HBO.out.lt;clear hp hbx hM1 hz kz kf bl hab hRu1 hnx hkl hwb hwd P1;go_wp2_with fail;clear g0 g1;refine region_nrm fun KK hKK=>?_;refine wp_region_held_drew (S:=(fun V=>V.cell? ⟨wr.heap.size,0,none⟩=some (.int .i64 lo)/\V.cell? ⟨wr.heap.size,1,none⟩=some (.int .i64 hi'))) (by kernel_rfl) (by first | exact⟨XS.out.cell 0,XS.out.cell 1⟩) (fun hHeld=>?_);refine puA 1 18 (⟨XS.out.cell 0,XS.out.cell 1⟩) ?_;refine puA 2 19 (⟨XS.out.cell 0,XS.out.cell 1⟩) ?_;refine wpAnyH_ready (rs:=[0,3]) (by kernel_rfl) (by simp) ?_;refine AllReadyH.cons rfl (fun K hK=>?_) (AllReadyH.cons rfl (fun K hK=>?_) AllReadyH.nil)
    ·have qg:=BX0.out.cell;have qg2:=BX.out.cell;go_simp;clear qg qg2;refine hK.out _ _ (⟨XS.out.cell 0,XS.out.cell 1⟩) fun hHeld=>?_;clear hK K;refine puR 3 fun K hK=>?_;go_simp;refine(RU.out _ k).mono ?_;rintro e W1 ⟨Ac,cc,rfl,ho,hb'⟩;have CV:=Hz_ (own_less ho (show base<=_ from by have:=k.size;have:=KZZ.out.size;omega));have CZ:=Hz_ (CZ.out.below hb');have XS:=Hz_ (XS.out.go hb');have BX:=Hz_ (show Boxed W1 BO 32 (.slice A1 k1 c1) from (hb'.block _ BX.out.lt).trans BX.out);have k:=btn k hb';clear ho hb';refine hK.out _ _ (⟨XS.out.cell 0,XS.out.cell 1⟩) fun hHeld=>?_;clear hK K;refine puA 4 21 (⟨XS.out.cell 0,XS.out.cell 1⟩) ?_;refine puR 5 fun K hK=>?_;go_simp;have hb':=then_alloc k (.cells #[.int .i64 lo,.int .i64 hi',.slice Ac n cc] 129);have CV:=Hz_ (own_below CV.out hb' Zl);have CZ:=Hz_ (CZ.out.below hb');have XS:=Hz_ (XS.out.go hb');have BX:=Hz_ (show Boxed _ BO 32 (.slice A1 k1 c1) from (hb'.block _ BX.out.lt).trans BX.out);have RN:=Hz_ (rdN 3 1 hb' rfl h1max);have k:=btn k hb';clear hb';refine hK.out _ _ (⟨XS.out.cell 0,XS.out.cell 1⟩) fun hHeld=>?_;clear hK K;refine puR 6 fun K hK=>?_;rw[if_pos (by kernel_rfl)];refine wp_append_rd _ (.tmp 17) (.tmp 22) _ rfl base 129 i0 _ 3 40 Tryz.underlying32 hi0 hz0 hz1 hz2 rfl (by decide) (.slice A1 k1 c1) k1 _ rfl CZ.out.row _ (some ⟨_,0,none⟩) 1 1 _ rfl RN.out (zvl_oneCell (⟨Ac,n,cc⟩,(lo,hi'),u)) h63 (by omega) (by have:=k.size;have:=KZZ.out.size;omega) ?_;intro A3 c3 W3 ho3 hg3 hat3;have hnr:=BX.out.not_row (show (32:TypeId)≠129 by decide) CZ.out.row;have BX3:=Hz_ (BX.out.kept hg3 hnr);have XS:=Hz_ (XS.out.grown hg3 (Blk.not_row XS.out (show (63:TypeId)≠129 by decide) CZ.out.row));have CZ3:=Hz_ (OwnZ.push (p:=(⟨Ac,n,cc⟩,(lo,hi'),u)) CZ.out ⟨HU.out,CV.out⟩ hg3 ho3);have kz3:=Hz_ (KZ.appended (v':=.slice A3 (k1+1) c3) HBX.out (show (32:TypeId)≠129 by decide) k CZ.out.row hg3 hat3 (fun g hg=>(ho3.lt g hg).2));have kf3:=Hz_ (KeepsFrom.appended (B:=0) (BO:=BO) (v':=.slice A3 (k1+1) c3) k CZ.out.row hg3);have bl3:=Hz_ (((BL.out.trans (k.mono (by have:=KZZ.out.size;omega))).trans (grown_below hg3 (by have:=k.size;have:=KZZ.out.size;omega) (fun g hg=>own_lt CZ.out.row g hg))).setCell (p:=⟨BO,0,none⟩) hbase (.slice A3 (k1+1) c3));clear ho3 hg3 hat3 hnr;refine hK.out _ _ (⟨XS.out.cell 0,XS.out.cell 1⟩) fun hHeld=>?_;clear hK K;refine puR 7 fun K hK=>?_;have qg:=BX3.out.cell;have qf:=BX3.out.frozen;go_simp;clear qg qf;have XS:=Hz_ (XS.out.grown (grownBy_setCell' _ BO (.slice A3 (k1+1) c3)) (fun e=>by injection e with e;omega));refine hK.out _ _ (⟨XS.out.cell 0,XS.out.cell 1⟩) fun hHeld=>?_;clear hK K;refine wpAnyH_done (by kernel_rfl) ?_ _;refine Nrm.out (hKK _ _ ?_);go_wp2;go_roundw
     case rel=>exact⟨i+1,by go_num,by omega,⟨⟨A3,k1+1,c3,_,BX3.out.set _,CZ3.out.setB BX3.out _,by rw[zns_app,HZ.out,HNX.out,List.append_assoc];rfl⟩,KZZ.out.trans kz3.out,KF.out.trans kf3.out,bl3.out⟩⟩
     case measure=>simp[intOf];omega
    ·go_simp;refine(RU.out _ k).mono ?_;rintro e W1 ⟨Ac,cc,rfl,ho,hb'⟩;have CV:=Hz_ (own_less ho (show base<=_ from by have:=k.size;have:=KZZ.out.size;omega));have CZ:=Hz_ (CZ.out.below hb');have XS:=Hz_ (XS.out.go hb');have BX:=Hz_ (show Boxed W1 BO 32 (.slice A1 k1 c1) from (hb'.block _ BX.out.lt).trans BX.out);have k:=btn k hb';clear ho hb';refine hK.out _ _ (⟨XS.out.cell 0,XS.out.cell 1⟩) fun hHeld=>?_;clear hK K;refine puA 4 21 (⟨XS.out.cell 0,XS.out.cell 1⟩) ?_;refine wpAnyH_ready (rs:=[0,5]) (by kernel_rfl) (by simp) ?_;refine AllReadyH.cons rfl (fun K hK=>?_) (AllReadyH.cons rfl (fun K hK=>?_) AllReadyH.nil)
     ·have qg:=BX0.out.cell;have qg2:=BX.out.cell;go_simp;clear qg qg2;refine hK.out _ _ (⟨XS.out.cell 0,XS.out.cell 1⟩) fun hHeld=>?_;clear hK K;refine puR 5 fun K hK=>?_;go_simp;have hb':=then_alloc k (.cells #[.int .i64 lo,.int .i64 hi',.slice Ac n cc] 129);have CV:=Hz_ (own_below CV.out hb' Zl);have CZ:=Hz_ (CZ.out.below hb');have XS:=Hz_ (XS.out.go hb');have BX:=Hz_ (show Boxed _ BO 32 (.slice A1 k1 c1) from (hb'.block _ BX.out.lt).trans BX.out);have RN:=Hz_ (rdN 3 1 hb' rfl h1max);have k:=btn k hb';clear hb';refine hK.out _ _ (⟨XS.out.cell 0,XS.out.cell 1⟩) fun hHeld=>?_;clear hK K;refine puR 6 fun K hK=>?_;rw[if_pos (by kernel_rfl)];refine wp_append_rd _ (.tmp 17) (.tmp 22) _ rfl base 129 i0 _ 3 40 Tryz.underlying32 hi0 hz0 hz1 hz2 rfl (by decide) (.slice A1 k1 c1) k1 _ rfl CZ.out.row _ (some ⟨_,0,none⟩) 1 1 _ rfl RN.out (zvl_oneCell (⟨Ac,n,cc⟩,(lo,hi'),u)) h63 (by omega) (by have:=k.size;have:=KZZ.out.size;omega) ?_;intro A3 c3 W3 ho3 hg3 hat3;have hnr:=BX.out.not_row (show (32:TypeId)≠129 by decide) CZ.out.row;have BX3:=Hz_ (BX.out.kept hg3 hnr);have XS:=Hz_ (XS.out.grown hg3 (Blk.not_row XS.out (show (63:TypeId)≠129 by decide) CZ.out.row));have CZ3:=Hz_ (OwnZ.push (p:=(⟨Ac,n,cc⟩,(lo,hi'),u)) CZ.out ⟨HU.out,CV.out⟩ hg3 ho3);have kz3:=Hz_ (KZ.appended (v':=.slice A3 (k1+1) c3) HBX.out (show (32:TypeId)≠129 by decide) k CZ.out.row hg3 hat3 (fun g hg=>(ho3.lt g hg).2));have kf3:=Hz_ (KeepsFrom.appended (B:=0) (BO:=BO) (v':=.slice A3 (k1+1) c3) k CZ.out.row hg3);have bl3:=Hz_ (((BL.out.trans (k.mono (by have:=KZZ.out.size;omega))).trans (grown_below hg3 (by have:=k.size;have:=KZZ.out.size;omega) (fun g hg=>own_lt CZ.out.row g hg))).setCell (p:=⟨BO,0,none⟩) hbase (.slice A3 (k1+1) c3));clear ho3 hg3 hat3 hnr;refine hK.out _ _ (⟨XS.out.cell 0,XS.out.cell 1⟩) fun hHeld=>?_;clear hK K;refine puR 7 fun K hK=>?_;have qg:=BX3.out.cell;have qf:=BX3.out.frozen;go_simp;clear qg qf;have XS:=Hz_ (XS.out.grown (grownBy_setCell' _ BO (.slice A3 (k1+1) c3)) (fun e=>by injection e with e;omega));refine hK.out _ _ (⟨XS.out.cell 0,XS.out.cell 1⟩) fun hHeld=>?_;clear hK K;refine wpAnyH_done (by kernel_rfl) ?_ _;refine Nrm.out (hKK _ _ ?_);go_wp2;go_roundw
      case rel=>exact⟨i+1,by go_num,by omega,⟨⟨A3,k1+1,c3,_,BX3.out.set _,CZ3.out.setB BX3.out _,by rw[zns_app,HZ.out,HNX.out,List.append_assoc];rfl⟩,KZZ.out.trans kz3.out,KF.out.trans kf3.out,bl3.out⟩⟩
      case measure=>simp[intOf];omega
     ·go_simp;have hb':=then_alloc k (.cells #[.int .i64 lo,.int .i64 hi',.slice Ac n cc] 129);have CV:=Hz_ (own_below CV.out hb' Zl);have CZ:=Hz_ (CZ.out.below hb');have XS:=Hz_ (XS.out.go hb');have BX:=Hz_ (show Boxed _ BO 32 (.slice A1 k1 c1) from (hb'.block _ BX.out.lt).trans BX.out);have RN:=Hz_ (rdN 3 1 hb' rfl h1max);have k:=btn k hb';clear hb';refine hK.out _ _ (⟨XS.out.cell 0,XS.out.cell 1⟩) fun hHeld=>?_;clear hK K;refine puR 0 fun K hK=>?_;have qg:=BX0.out.cell;have qg2:=BX.out.cell;go_simp;clear qg qg2;refine hK.out _ _ (⟨XS.out.cell 0,XS.out.cell 1⟩) fun hHeld=>?_;clear hK K;refine puR 6 fun K hK=>?_;rw[if_pos (by kernel_rfl)];refine wp_append_rd _ (.tmp 17) (.tmp 22) _ rfl base 129 i0 _ 3 40 Tryz.underlying32 hi0 hz0 hz1 hz2 rfl (by decide) (.slice A1 k1 c1) k1 _ rfl CZ.out.row _ (some ⟨_,0,none⟩) 1 1 _ rfl RN.out (zvl_oneCell (⟨Ac,n,cc⟩,(lo,hi'),u)) h63 (by omega) (by have:=k.size;have:=KZZ.out.size;omega) ?_;intro A3 c3 W3 ho3 hg3 hat3;have hnr:=BX.out.not_row (show (32:TypeId)≠129 by decide) CZ.out.row;have BX3:=Hz_ (BX.out.kept hg3 hnr);have XS:=Hz_ (XS.out.grown hg3 (Blk.not_row XS.out (show (63:TypeId)≠129 by decide) CZ.out.row));have CZ3:=Hz_ (OwnZ.push (p:=(⟨Ac,n,cc⟩,(lo,hi'),u)) CZ.out ⟨HU.out,CV.out⟩ hg3 ho3);have kz3:=Hz_ (KZ.appended (v':=.slice A3 (k1+1) c3) HBX.out (show (32:TypeId)≠129 by decide) k CZ.out.row hg3 hat3 (fun g hg=>(ho3.lt g hg).2));have kf3:=Hz_ (KeepsFrom.appended (B:=0) (BO:=BO) (v':=.slice A3 (k1+1) c3) k CZ.out.row hg3);have bl3:=Hz_ (((BL.out.trans (k.mono (by have:=KZZ.out.size;omega))).trans (grown_below hg3 (by have:=k.size;have:=KZZ.out.size;omega) (fun g hg=>own_lt CZ.out.row g hg))).setCell (p:=⟨BO,0,none⟩) hbase (.slice A3 (k1+1) c3));clear ho3 hg3 hat3 hnr;refine hK.out _ _ (⟨XS.out.cell 0,XS.out.cell 1⟩) fun hHeld=>?_;clear hK K;refine puR 7 fun K hK=>?_;have qg:=BX3.out.cell;have qf:=BX3.out.frozen;go_simp;clear qg qf;have XS:=Hz_ (XS.out.grown (grownBy_setCell' _ BO (.slice A3 (k1+1) c3)) (fun e=>by injection e with e;omega));refine hK.out _ _ (⟨XS.out.cell 0,XS.out.cell 1⟩) fun hHeld=>?_;clear hK K;refine wpAnyH_done (by kernel_rfl) ?_ _;refine Nrm.out (hKK _ _ ?_);go_wp2;go_roundw
      case rel=>exact⟨i+1,by go_num,by omega,⟨⟨A3,k1+1,c3,_,BX3.out.set _,CZ3.out.setB BX3.out _,by rw[zns_app,HZ.out,HNX.out,List.append_assoc];rfl⟩,KZZ.out.trans kz3.out,KF.out.trans kf3.out,bl3.out⟩⟩
      case measure=>simp[intOf];omega
   ·obtain rfl:i=m:=by omega
    have HPP:=Hz_ (show PutI w BO base (zns M++putL (cov2 u nw) l u) wr by rw[HP.out];have:=hp.out;rwa [List.take_of_length_le (by rw[HLl.out];exact Nat.le_refl _)] at this);clear hp;go_wp2;go_end0;exact⟨rfl,HPP.out⟩
 ·rw[hc] at C;have HP:=Hz_ (show putL (cov2 u nw) l u=[] by unfold cov2;rw[hc];rfl);have C:=Hz_ C;have HBO:=Hz_ hbo;have HM0:=Hz_ hM;clear hc hbo hM hRl hRu sl su hT hbn hRN;go_enter Tryz.func181,Tryz.ntmps181;go_wp2_with fail;refine C.out.mono ?_;rintro e w1 ⟨rfl,hb1⟩;go_wp2;refine bodyPost_ret (results_none rfl _ _ _) rfl ?_;rw[HP.out,List.append_nil];exact⟨rfl,⟨A0,k0,c0,M,(hb1.block _ HBO.out.lt).trans HBO.out,HM0.out.below hb1,rfl⟩,KZ.of_below HBO.out.lt hb1,keeps_below hb1,hb1.mono (by have:=HBO.out.lt;omega)⟩
open Go.Shelf
def sortZn_ren:Go.Shelf.Ren:=⟨fun | 6=>211 | 15=>227 | 14=>226 | 28=>238 | 29=>239 | 20=>230 | 21=>231 | 22=>232 | 23=>233 | 24=>234 | 25=>235 | 26=>236 | 27=>237 | 46=>249 | 47=>250 | 48=>251 | 49=>252 | 50=>253 | 57=>257 | n=>n,fun | 22=>32 | 24=>129 | 25=>240 | 3=>3 | 39=>186 | 0=>0 | 53=>266 | 55=>201 | 4=>4 | 46=>260 | 45=>259 | 50=>111 | 5=>5 | 9=>9 | 66=>273 | 70=>277 | 76=>281 | 77=>282 | n=>n,fun | n=>n⟩
theorem sortZn:Go.Proofs.SlLaysF0.n6 Tryz.prog sortZn_ren:={
 mixed:=by kernel_rfl
 f6:=⟨Tryz.f211.name,by decide,Tryz.func211.trans (congrArg some (by kernel_rfl))⟩
 f14:=⟨Tryz.f226.name,by decide,Tryz.func226.trans (congrArg some (by kernel_rfl))⟩
 f15:=Tryz.func227.trans (congrArg some (by kernel_rfl))
 f20:=⟨Tryz.f230.name,by decide,Tryz.func230.trans (congrArg some (by kernel_rfl))⟩
 f21:=⟨Tryz.f231.name,by decide,Tryz.func231.trans (congrArg some (by kernel_rfl))⟩
 f22:=⟨Tryz.f232.name,by decide,Tryz.func232.trans (congrArg some (by kernel_rfl))⟩
 f23:=⟨Tryz.f233.name,by decide,Tryz.func233.trans (congrArg some (by kernel_rfl))⟩
 f24:=⟨Tryz.f234.name,by decide,Tryz.func234.trans (congrArg some (by kernel_rfl))⟩
 f25:=⟨Tryz.f235.name,by decide,Tryz.func235.trans (congrArg some (by kernel_rfl))⟩
 f26:=⟨Tryz.f236.name,by decide,Tryz.func236.trans (congrArg some (by kernel_rfl))⟩
 f27:=⟨Tryz.f237.name,by decide,Tryz.func237.trans (congrArg some (by kernel_rfl))⟩
 f28:=Tryz.func238.trans (congrArg some (by kernel_rfl))
 f29:=Tryz.func239.trans (congrArg some (by kernel_rfl))
 f46:=⟨Tryz.f249.name,by decide,Tryz.func249.trans (congrArg some (by kernel_rfl))⟩
 f47:=Tryz.func250.trans (congrArg some (by kernel_rfl))
 f48:=Tryz.func251.trans (congrArg some (by kernel_rfl))
 f49:=⟨Tryz.f252.name,by decide,Tryz.func252.trans (congrArg some (by kernel_rfl))⟩
 f50:=⟨Tryz.f253.name,by decide,Tryz.func253.trans (congrArg some (by kernel_rfl))⟩
 f57:=⟨Tryz.f257.name,by decide,Tryz.func257.trans (congrArg some (by kernel_rfl))⟩
 t0:=Tryz.underlying0
 a0:=Tryz.isAgg0
 z0:=Tryz.sizeOf0
 v0:=Tryz.zeroValue0
 t3:=Tryz.underlying3
 a3:=Tryz.isAgg3
 z3:=Tryz.sizeOf3
 v3:=Tryz.zeroValue3
 t4:=Tryz.underlying4
 a4:=Tryz.isAgg4
 z4:=Tryz.sizeOf4
 v4:=Tryz.zeroValue4
 t5:=Tryz.underlying5
 a5:=Tryz.isAgg5
 z5:=Tryz.sizeOf5
 v5:=Tryz.zeroValue5
 t9:=Tryz.underlying9
 a9:=Tryz.isAgg9
 z9:=Tryz.sizeOf9
 v9:=Tryz.zeroValue9
 t22:=Tryz.underlying32
 a22:=Tryz.isAgg32
 z22:=Tryz.sizeOf32
 v22:=Tryz.zeroValue32
 t25:=Tryz.underlying240
 a25:=Tryz.isAgg240
 z25:=Tryz.sizeOf240
 v25:=Tryz.zeroValue240
 t39:=Tryz.underlying186
 a39:=Tryz.isAgg186
 z39:=Tryz.sizeOf186
 v39:=Tryz.zeroValue186
 t45:=Tryz.underlying259
 a45:=Tryz.isAgg259
 z45:=Tryz.sizeOf259
 v45:=Tryz.zeroValue259
 t46:=Tryz.underlying260
 a46:=Tryz.isAgg260
 z46:=Tryz.sizeOf260
 v46:=Tryz.zeroValue260
 t50:=Tryz.underlying111
 a50:=Tryz.isAgg111
 z50:=Tryz.sizeOf111
 v50:=Tryz.zeroValue111
 t53:=Tryz.underlying266
 a53:=Tryz.isAgg266
 z53:=Tryz.sizeOf266
 v53:=Tryz.zeroValue266
 t55:=Tryz.underlying201
 a55:=Tryz.isAgg201
 z55:=Tryz.sizeOf201
 v55:=Tryz.zeroValue201
 t66:=Tryz.underlying273
 a66:=Tryz.isAgg273
 z66:=Tryz.sizeOf273
 v66:=Tryz.zeroValue273
 t70:=Tryz.underlying277
 a70:=Tryz.isAgg277
 z70:=Tryz.sizeOf277
 v70:=Tryz.zeroValue277
 t76:=Tryz.underlying281
 a76:=Tryz.isAgg281
 z76:=Tryz.sizeOf281
 v76:=Tryz.zeroValue281
 t77:=Tryz.underlying282
 a77:=Tryz.isAgg282
 z77:=Tryz.sizeOf282
 v77:=Tryz.zeroValue282 }
open Go.RowKit Go.Shelf Go.Sort
abbrev ZA:={ p:ZV×Zn // 0<=p.2.1.1/\p.2.1.1<=255 }
instance:Inhabited ZA:=⟨⟨(⟨none,0,0⟩,((0,0),[])),by simp⟩⟩
def encZ (x:ZA):List Value:=zvl x.1
def zav (l:List ZA):List Value:=l.flatMap encZ
theorem zav_get (l:List ZA) (t:Nat) (h:t < l.length * 3):(zav l)[t]?=(encZ (l[t / 3]'(by omega)))[t % 3]?:=by
 have:=flat_at encZ 3 (by decide) l (fun _ _=>rfl) (t / 3) (by omega) (t % 3) (by omega);rw[show t / 3 * 3+t % 3=t by omega] at this;exact this
theorem flatZ_get (l:List ZA) (t:Nat) (h:t < l.length * 3):(zav l)[t]?=some ((flatK encZ 3 l.toArray)[t]!):=by
 rw[zav_get l t h];have e1:(flatK encZ 3 l.toArray)[t]! = (encZ l.toArray[t / 3]!)[t % 3]!:=by
  rw[getElem!_pos _ t (by simp[flatK];omega)];simp[flatK]
 rw[e1,show l.toArray[t / 3]! = l[t / 3]'(by omega) by rw[getElem!_pos _ _ (by simp;omega)];simp];have h3:t % 3=0\/t % 3=1\/t % 3=2:=by omega
 rcases h3 with h3 | h3 | h3<;>rw[h3]<;>rfl
theorem zav_len (l:List ZA):(zav l).length=l.length * 3:=flat_len encZ 3 l (fun _ _=>rfl)
theorem holdsZ {w:World} {base G n c:Nat} {l:List ZA} (h:w.ownsRow base 129 3 (.slice (some ⟨G,0,none⟩) n c) n (zav l)) (hl:l.length=n):HoldsK encZ 3 w G 0 l.toArray:=by
 intro j hj;have hj':j < l.length * 3:=by simpa[flatK] using hj
 obtain⟨_,h | ⟨g,cap,cur,hv,_,hg,_,_,hcs,hx⟩⟩:=h
 ·exact absurd h.1 (by simp)
 ·injection hv with hv1 _ _;injection hv1 with hv1;injection hv1 with hv1;subst hv1;refine⟨?_,by simp[World.frozen?,hg]⟩;rw[Nat.zero_add,cell_of_row w G j cur _ (0,0) hg];have h1:(zav l)[j]?=cur[j]?:=by
   rw[<-hx,List.getElem?_take,if_pos (by omega)];simp
  rw[<-h1,flatZ_get l j hj'];rfl
theorem sortZ_row {w:World} {base G n c:Nat} {l:List ZA} (h:w.ownsRow base 129 3 (.slice (some ⟨G,0,none⟩) n c) n (zav l)) (d:Array ZA) (hd:d.size=n) (m:Nat) (os:Array Obj):
  (sortWorldK encZ 3 w G 0 m d os).ownsRow base 129 3 (.slice (some ⟨G,0,none⟩) n c) n (zav d.toList)/\w.grownBy (sortWorldK encZ 3 w G 0 m d os) (some G):=by
 obtain⟨hl,h | ⟨g,cap,cur,hv,hb,hg,hnc,hcm,hcs,hx⟩⟩:=h
 ·exact absurd h.1 (by simp)
 ·injection hv with hv1 _ hv3;injection hv1 with hv1;injection hv1 with hv1;subst hv1 hv3;have hlt:G < w.heap.size:=(Array.getElem?_eq_some_iff.1 hg).1;have hat:(sortWorldK encZ 3 w G 0 m d os).heap[G]?=some (.cells (putCells id 0 (flatK encZ 3 d) cur) 129 (0,0)):=by
   unfold sortWorldK grow putRowK putRow mapBlock «Sort».ahead;rw[Array.getElem?_append_left (by simpa using hlt)];simp[Array.getElem?_modify,hg,onCells]
  have hother:∀k,k < w.heap.size->k≠G->(sortWorldK encZ 3 w G 0 m d os).heap[k]?=w.heap[k]?:=fun k hk hne=>by
   unfold sortWorldK grow putRowK putRow mapBlock «Sort».ahead;rw[Array.getElem?_append_left (by simpa using hk)];simp[Array.getElem?_modify,Ne.symm hne]
  have hfl:(flatK encZ 3 d).size=n * 3:=by simp[flatK,hd]
  have hnc':n * 3<=c * 3:=Nat.mul_le_mul_right _ hnc;refine⟨⟨by rw[zav_len];simp[hd],.inr ⟨G,c,_,rfl,hb,hat,hnc,hcm,by simp[putCells,hcs],?_⟩⟩,⟨rfl,rfl,rfl,size_sortWorldK_c encZ 3 w G 0 m d os,fun k hk hne=>hother k hk (fun e=>hne (by rw[e]))⟩⟩;apply List.ext_getElem?;intro t;by_cases ht:t < n * 3
  ·rw[List.getElem?_take,if_pos ht];have h1:=flatZ_get d.toList t (by simp[hd];exact ht);rw[h1];have hc:t < cur.size:=by omega
   simp only[putCells,Array.toList_mapIdx,List.getElem?_mapIdx,Array.getElem?_toList,Array.getElem?_eq_getElem hc,Option.map_some,hfl];rw[if_pos ⟨Nat.zero_le _,by omega⟩];simp
  ·rw[List.getElem?_take,if_neg ht,List.getElem?_eq_none (by rw[zav_len];simp[hd];omega)]
def cmpZ (x y:ZA):Int:=x.1.2.1.1 - y.1.2.1.1
theorem closureZ_any (x y:ZA) (W:World):Calls Tryz.prog 212 #[.agg (encZ x).toArray,.agg (encZ y).toArray] W fun e w'=>e=.returned (.int .i64 (cmpZ x y))/\∃q os',w'=grow (W.drewN q) os':=by
 obtain⟨⟨⟨A,n,c⟩,⟨lo,hi⟩,u⟩,h1,h2⟩:=x;obtain⟨⟨⟨D,m,d⟩,⟨lo2,hi2⟩,u2⟩,h3,h4⟩:=y;dsimp only at h1 h2 h3 h4;have hw:IntKind.i64.wrap (lo - lo2)=lo - lo2:=IntWalk.i64_in _ (by omega);show Calls _ _ #[.agg #[.int .i64 lo,.int .i64 hi,.slice A n c],.agg #[.int .i64 lo2,.int .i64 hi2,.slice D m d]] W _;go_enter Tryz.func212,Tryz.ntmps212;go_wp2;go_ret;exact⟨rfl,0,_,by rw[alloc_eq_grow,alloc_eq_grow,grow_grow];rfl⟩
theorem ltZ (x y:ZA):ltOf cmpZ x y=decide (x.1.2.1.1 < y.1.2.1.1):=by
 unfold ltOf cmpZ;by_cases h1:x.1.2.1.1 < y.1.2.1.1
 ·simp[h1];omega
 ·simp[h1];omega
theorem swoZ:SWO (ltOf cmpZ) where
 irrefl x:=by rw[ltZ];simp
 trans x y z h1 h2:=by rw[ltZ] at *;simp at *;omega
 ntrans x y z h1 h2:=by rw[ltZ] at *;simp at *;omega
theorem agg_zone:∀w,(isAgg 129).run Tryz.prog w=.ok true w:=fun _=>by kernel_rfl
theorem size_zone:∀w,(Go.sizeOf 129).run Tryz.prog w=.ok 3 w:=fun _=>by kernel_rfl
theorem encZ_one (x:ZA):∀v∈encZ x,v.oneCell'=true:=zvl_oneCell x.1
theorem sortZA_own (base G n c:Nat) (l:List ZA) (w:World) (ho:w.ownsRow base 129 3 (.slice (some ⟨G,0,none⟩) n c) n (zav l)) (hl:l.length=n) (hn:n < 4611686018427387904):
  Calls Tryz.prog 211 #[.slice (some ⟨G,0,none⟩) n c,.func (.func 212) #[] #[]] w fun e w'=>e=.returned (.tuple #[]) /\
   ∃l',List.Perm l l'/\(l'.Pairwise fun x y=>x.1.2.1.1<=y.1.2.1.1)/\w'.ownsRow base 129 3 (.slice (some ⟨G,0,none⟩) n c) n (zav l')/\w.grownBy w' (some G):=by
 have eg:∀args w,(callFunc 212 args).run Tryz.prog w=.ok (.enter 212 args) w:=enters_of Tryz.func212 (by kernel_rfl) rfl;have hsz:l.toArray.size=n:=by simpa using hl
 have hG:G < w.heap.size:=(ho.lt G rfl).2;have hcon:=AnyQ.slices_SortFunc sortZn 3 agg_zone size_zone encZ (fun _=>rfl) encZ_one cmpZ swoZ 212 #[] G 0 c l.toArray w eg (fun _ _ _ _ x y=>closureZ_any x y _) (holdsZ ho hl) hG (by omega);rw[hsz] at hcon;refine hcon.mono fun e w' ⟨he,d',m,os,hp,hs,hw⟩=>⟨he,d'.toList,?_,?_,?_⟩
 ·obtain⟨h1,_,h3⟩:=hp;have e1:(d'.extract 0 n).toList=d'.toList:=by rw[<-hsz,<-h1];simp
  have e2:(l.toArray.extract 0 n).toList=l:=by rw[<-hsz];simp
  rw[e1,e2] at h3;exact h3.symm
 ·refine List.pairwise_iff_getElem.2 fun i j hi hj hij=>?_;have h1:d'.size=n:=by rw[hp.1,hsz]
  have hj':j < d'.size:=by simpa using hj
  have:=hs i j (Nat.zero_le _) hij (by omega);rw[ltZ,getElem!_pos d' j hj',getElem!_pos d' i (by omega)] at this;simp at this;simpa using this
 ·rw[hw];exact sortZ_row ho d' (by rw[hp.1,hsz]) m os
theorem sortZ_own (base G n c:Nat) (L:List (ZV×Zn)) (hb:∀p∈L,0<=p.2.1.1/\p.2.1.1<=255) (w:World) (ho:OwnZ w base (some ⟨G,0,none⟩) n c L) (hn:n < 4611686018427387904):
  Calls Tryz.prog 211 #[.slice (some ⟨G,0,none⟩) n c,.func (.func 212) #[] #[]] w fun e w'=>e=.returned (.tuple #[]) /\
   ∃L',List.Perm L L'/\(L'.Pairwise fun x y=>x.2.1.1<=y.2.1.1)/\OwnZ w' base (some ⟨G,0,none⟩) n c L'/\w.grownBy w' (some G):=by
 obtain⟨l,hl⟩:∃l:List ZA,l.map (·.1)=L:=⟨L.pmap (fun p h=>⟨p,h⟩) hb,by rw[List.map_pmap];simp⟩;have he:∀k:List ZA,zav k=zvv (k.map (·.1)):=fun k=>by unfold zav zvv;rw[List.flatMap_map];rfl
 subst hl;have hr:=ho.row;rw[<-he] at hr;have hlen:=ho.len;rw[List.length_map] at hlen;refine(sortZA_own base G n c l w hr hlen hn).mono fun e w' ⟨h1,l',h2,h3,h4,h5⟩=>⟨h1,l'.map (·.1),h2.map _,?_,⟨by rw[<-he];exact h4,fun p hp=>?_⟩,h5⟩
 ·rw[List.pairwise_map];exact h3
 ·have hp':p∈l.map (·.1):=(h2.map (·.1)).mem_iff.2 hp;obtain⟨a1,a2⟩:=ho.el p hp';exact⟨a1,a2.kept h5 (own_two a2 hr (by decide))⟩
theorem insNilZ_any (f:Value) (w:World):Calls Tryz.prog 230 #[.slice none 0 0,.int .i64 0,.int .i64 0,f] w fun e w'=>e=.returned (.tuple #[])/\w=w':=by
 go_enter Tryz.func230,Tryz.ntmps230;go_wp2;go_loop [8] (fun v8=>v8=.int .i64 1) (fun _=>0)
 case atStart=>exact rfl
 case round=>
  obtain rfl:=hrel;go_wp2;go_end0;exact⟨rfl,rfl⟩
theorem pdqNilZ_any (f:Value) (w:World):Calls Tryz.prog 226 #[.slice none 0 0,.int .i64 0,.int .i64 0,.int .i64 0,f] w fun e w'=>e=.returned (.tuple #[])/\w=w':=by
 go_enter Tryz.func226,Tryz.ntmps226;go_wp2;go_loop [1,2,3,10] (fun v1 v2 v3 v10=>v1=.int .i64 0/\v2=.int .i64 0/\v3=.int .i64 0/\v10=.bool true) (fun _ _ _ _=>0)
 case atStart=>exact⟨rfl,rfl,rfl,rfl⟩
 case round=>
  obtain⟨rfl,rfl,rfl,rfl⟩:=hrel;go_wp2_with (go_at_call 230;go_must (refine(insNilZ_any _ _).mono ?_);rintro e w' ⟨rfl,rfl⟩);refine bodyPost_ret (results_none rfl _ _ _) rfl ?_;exact⟨rfl,rfl⟩
theorem sortNilZ_any (f:Value) (w:World):Calls Tryz.prog 211 #[.slice none 0 0,f] w fun e w'=>e=.returned (.tuple #[])/\w=w':=by
 have hl:∀W,Calls Tryz.prog 227 #[.int .u64 0] W fun e w'=>e=.returned (.int .i64 0)/\W=w':=fun W=>
  (Any.bits_Len (SlLaysF0.n15.bits (P:=Tryz.prog) (ρ:=sortZn_ren) { sortZn with }) 0 W (by omega) (by omega)).mono fun _ _ ⟨he,hw⟩=>⟨he,hw.symm⟩
 go_enter Tryz.func211,Tryz.ntmps211;go_wp2_with (first
  | (go_at_call 227;go_must (refine(hl _).mono ?_);rintro e w' ⟨rfl,rfl⟩)
  | (go_at_call 226;go_must (refine(pdqNilZ_any _ _).mono ?_);rintro e w' ⟨rfl,rfl⟩))
 go_end0;exact⟨rfl,rfl⟩
open Go.RowKit
theorem jstep_snoc (l:List Zn) (y x:Zn):jstep (l++[y]) x=if y.1.2+1=x.1.1/\y.2=x.2 then l++[((y.1.1,x.1.2),x.2)] else l++[y]++[x]:=by
 unfold jstep;rw[List.getLast?_append];simp
theorem zvv_set_last (u:List (ZV×Zn)) (v:ZV) (lo hi h2:Int) (x:List Vc.St):(zvv (u++[(v,(lo,hi),x)])).set (u.length * 3+1) (.int .i64 h2)=zvv (u++[(v,(lo,h2),x)]):=by
 rw[zvv_app,zvv_app,List.set_append,if_neg (by rw[zvv_len];omega),zvv_len];rw[show u.length * 3+1 - u.length * 3=1 by omega];rfl
structure JoI (w1:World) (A:Option Addr) (k c:Nat) (Z:List Zn) (M:List (ZV×Zn)) (W:World):Prop where
 row:W.ownsRow w1.heap.size 129 3 (.slice A k c) k (zvv M)
 el:∀p∈M,p.2.2.length=p.1.n/\Rd w1 w1.heap.size 2 p.1.A p.1.n p.1.c (sv p.2.2)
 hi:∀p∈M,-1<=p.2.1.2/\p.2.1.2<=255
 z:zns M=Z
theorem JoI.len {w1 W:World} {A:Option Addr} {k c:Nat} {Z:List Zn} {M:List (ZV×Zn)} (h:JoI w1 A k c Z M W):M.length=k:=by
 have:=h.row.1;rw[zvv_len] at this;omega
theorem joined_any (base n c:Nat) (A:Option Addr) (L:List (ZV×Zn)) (w:World) (hL:OwnZ w base A n c L) (hb:∀p∈L,(0<=p.2.1.1/\p.2.1.1<=255)/\(-1<=p.2.1.2/\p.2.1.2<=255)) (hn:n<=3518437208883) (hbase:base<=w.heap.size):
  Calls Tryz.prog 188 #[.slice A n c] w fun e w'=>∃A' k' c' M,e=.returned (.slice A' k' c')/\RdZ w' w'.heap.size A' k' c' M/\(∃m,(zns L).Perm m/\(m.Pairwise fun a b=>a.1.1<=b.1.1)/\zns M=joinedZ m)/\Below base w w'/\KeepsFrom 0 w w':=by
 have hs:Calls Tryz.prog 211 #[.slice A n c,.func (.func 212) #[] #[]] w fun e w'=>e=.returned (.tuple #[])/\Below base w w'/\KeepsFrom 0 w w'/\∃L',List.Perm L L'/\(L'.Pairwise fun x y=>x.2.1.1<=y.2.1.1)/\OwnZ w' base A n c L':=by
  obtain⟨A',c',hv,h1,h2⟩:=own_form hL.row;injection hv with hv1 _ hv3;subst hv1 hv3;rcases A with _ | a
  ·obtain⟨rfl,rfl⟩:=h1 rfl;refine(sortNilZ_any _ w).mono fun e w' ⟨he,hw⟩=>?_;subst hw;obtain rfl:L=[]:=List.eq_nil_of_length_eq_zero hL.len;exact⟨he,Below.refl _ _,KeepsFrom.refl _ _,[],List.Perm.refl _,List.Pairwise.nil,hL⟩
  ·obtain⟨g,rfl,hg,hg2⟩:=h2 a rfl;refine(sortZ_own base g n c L (fun p hp=>(hb p hp).1) w hL (by omega)).mono fun e w' ⟨he,L',p1,p2,p3,p4⟩=>?_;have hcl:∃cur,w.heap[g]?=some (.cells cur 129 (0,0)):=by
    rcases hL.row.2 with h | ⟨g2,cap,cur,hv2,_,hgb,_⟩
    ·exact absurd h.1 (by simp)
    ·injection hv2 with e1 _ _;injection e1 with e1;injection e1 with e1;subst e1;exact⟨cur,hgb⟩
   obtain⟨cur,hcl⟩:=hcl;exact⟨he,grown_below p4 (by omega) (fun k hk=>by cases hk;exact hg),(KeepsOthers.of_grownBy p4 (fun j o ej hj=>by cases ej;rw[hcl] at hj;cases hj;rfl)).from _,L',p1,p2,p3⟩
 obtain⟨i0,hi0,hz0,hz1,hz2⟩:=info_parts zone_info;have h1max:1<=maxLen:=by unfold maxLen;omega
 have HS:=Hz_ hs;have HB:=Hz_ hb;clear hs hL hb;go_enter Tryz.func188,Tryz.ntmps188;go_wp2_with fail;refine HS.out.mono ?_;rintro e w1 ⟨rfl,hb1,hkf,L',hp,hr,hL1⟩;have HKF:=Hz_ hkf;have HP:=Hz_ hp;have HRI:=Hz_ hr;have HB1:=Hz_ hb1;have HL1:=Hz_ hL1;have HLN:=Hz_ hL1.len;have HBL:=Hz_ fun p (h:p∈L')=>HB.out p (hp.mem_iff.2 h);clear hp hr hb1 hL1 hkf HS HB;go_wp2;go_loopw [3,11] (fun v3 v11 wr=>∃(i k c':Nat) (A':Option Addr),v11=.int .i64 i/\v3=.slice A' k c'/\i<=n/\k<=i/\Below w1.heap.size w1 wr/\Hid (∃M,JoI w1 A' k c' (((zns L').take i).foldl jstep []) M wr)) (fun _ v11 _=>n - (intOf v11).toNat)
 case atStart=>exact⟨0,0,0,none,rfl,rfl,by omega,by omega,Below.refl _ _,[],⟨World.ownsRow_nil _ _ _ _,(fun p hp=>by cases hp),(fun p hp=>by cases hp),rfl⟩⟩
 case round=>
  obtain⟨i,k,c',A',rfl,rfl,hi,hki,hb,hq⟩:=hrel;obtain⟨M,hM⟩:=hq.out;have hbs:=hb.size;by_cases hlt:i < n
  ·have hkL:i < L'.length:=by rw[HLN.out];exact hlt
   have hkZ:i < (zns L').length:=by rw[zns_len];exact hkL
   obtain⟨b,oo,rfl,hab,g0,g1,g2⟩:=(HL1.out.rd.below hb).zone hkL;obtain⟨hvl,hRv⟩:=HL1.out.rd.each _ (List.getElem_mem hkL);have hxb:=HBL.out _ (List.getElem_mem hkL);have hnx:((zns L').take (i+1)).foldl jstep []=jstep (((zns L').take i).foldl jstep []) L'[i].2:=by rw[List.take_succ_eq_append_getElem hkZ,zns_at L' i hkL,List.foldl_append];rfl
   generalize L'[i]=x at g0 g1 g2 hvl hRv hxb hnx;obtain⟨⟨Av,nv,cv⟩,⟨lo,hi'⟩,u⟩:=x;dsimp only at g0 g1 g2 hvl hRv hxb hnx;rw[<-hM.z] at hnx;have hml:=hM.len;have hwb:=(Below.refl wr.heap.size wr).alloc Zl (.cells #[.int .i64 lo,.int .i64 hi',.slice Av nv cv] 129);have hX:=Blk.new wr 129 #[.int .i64 lo,.int .i64 hi',.slice Av nv cv];have hrow:=own_below hM.row hwb Zl;have hb2:=btn hb hwb;obtain⟨W,hW⟩:∃W,W=wr.alloc (.cells #[.int .i64 lo,.int .i64 hi',.slice Av nv cv] 129):=⟨_,rfl⟩;have hsW:W.heap.size=wr.heap.size+1:=by rw[hW];simp
   rw[<-hW] at hX hrow hb2;have HW:=Hz_ hW.symm;have HSW:=Hz_ hsW;have HX:=Hz_ hX;have HB2:=Hz_ hb2;have HEL:=Hz_ hM.el;have HHI:=Hz_ hM.hi;have HXE:=Hz_ (And.intro hvl hRv);have h63:k+1<=maxLen:=by unfold maxLen;omega
   have HHB:=Hz_ hxb;clear hvl hRv hX hwb hW hb2 hab hkL hkZ hq hb hsW;have APP:=Hz_ fun (V:World) (q:Nat) (hV:V=W.drewN q) (hj:zns (M++[((⟨Av,nv,cv⟩:ZV),(lo,hi'),u)])=((zns L').take (i+1)).foldl jstep []) (A3:Option Addr) (c3:Nat) (W3:World) (ho:W3.ownsRow w1.heap.size 129 3 (.slice A3 (k+1) c3) (k+1) (zvv M++zvl (⟨Av,nv,cv⟩,(lo,hi'),u)))=>
    (show JoI w1 A3 (k+1) c3 (((zns L').take (i+1)).foldl jstep []) (M++[((⟨Av,nv,cv⟩:ZV),(lo,hi'),u)]) W3 from
    ⟨by rw[zvv_app];simpa[zvv] using ho,fun p hp=>by
     rcases List.mem_append.1 hp with hp | hp
     ·exact HEL.out p hp
     ·rw[List.mem_singleton] at hp;subst hp;exact HXE.out,fun p hp=>by
     rcases List.mem_append.1 hp with hp | hp
     ·exact HHI.out p hp
     ·rw[List.mem_singleton] at hp;subst hp;exact HHB.out.2,hj⟩)
   rcases List.eq_nil_or_concat M with hMn | ⟨M0,y,hMy⟩
   ·have hk0:k=0:=by rw[<-hml,hMn];rfl
    have HJ:=Hz_ (show zns (M++[((⟨Av,nv,cv⟩:ZV),(lo,hi'),u)])=((zns L').take (i+1)).foldl jstep [] by rw[hnx,hMn];rfl);have dk:decide (0 < k)=false:=by simp;omega
    have HROW:=Hz_ hrow;clear hnx hMn hk0 hM hml hrow;go_wp2_with fail;rw[HW.out];obtain⟨x0,x1,x2⟩:=HX.out.three;go_wp2_with fail;go_quiet (fail);go_wp2_with (at_builtin;go_must (refine wpList_append_rd _ rfl (.tmp 53) (.tmp 55) _ rfl w1.heap.size 129 i0 _ 3 40 Tryz.underlying32 hi0 hz0 hz1 hz2 rfl (by decide) (.slice A' k c') k _ rfl (HROW.out.alloc _) _ (some ⟨_,0,none⟩) 1 1 [.int .i64 lo,.int .i64 hi',.slice Av nv cv] rfl (Rd.new _ 129 3 1 #[.int .i64 lo,.int .i64 hi',.slice Av nv cv] rfl h1max) (zvl_oneCell (⟨Av,nv,cv⟩,(lo,hi'),u)) h63 (by omega) (by have:=HB2.out.size;simp;omega) ?_);intro A3 c3 W3 ho3 hg3 hat3);go_roundw
    case rel=>exact⟨i+1,k+1,c3,A3,by go_num,rfl,by omega,by omega,((below_drewN HB2.out _).alloc (by exact HB2.out.size) _).trans (grown_below hg3 (by have:=HB2.out.size;simp;omega) (fun g hg=>own_lt HROW.out g hg)),_,APP.out _ 0 rfl HJ.out A3 c3 W3 ho3⟩
    case measure=>simp[intOf];omega
   ·rw[List.concat_eq_append] at hMy;subst hMy;obtain⟨j,rfl⟩:∃j,k=j+1:=⟨k - 1,by rw[<-hml,List.length_append,List.length_singleton];omega⟩;have hM0:M0.length=j:=by rw[List.length_append,List.length_singleton] at hml;omega
    obtain⟨⟨Ay,ny,cy⟩,⟨ylo,yhi⟩,yu⟩:=y;rw[zns_app,show zns [((⟨Ay,ny,cy⟩:ZV),(ylo,yhi),yu)]=[((ylo,yhi),yu)] from rfl,jstep_snoc] at hnx;dsimp only at hnx;obtain⟨A9,c9,hv9,_,hf9⟩:=own_form hrow;injection hv9 with hv1 _ hv3;subst hv1 hv3;have hrz:RdZ W W.heap.size A' (j+1) c' (M0++[((⟨Ay,ny,cy⟩:ZV),(ylo,yhi),yu)]):=⟨hml,Rd.of_own hrow,fun p hp=>⟨(HEL.out p hp).1,(HEL.out p hp).2.go HB2.out⟩⟩;obtain⟨g',o',hA',hgl,p0,p1,p2⟩:=hrz.zone (k:=j) (by rw[hml];omega);have hgj:(M0++[((⟨Ay,ny,cy⟩:ZV),(ylo,yhi),yu)])[j]'(by rw[hml];omega)=(⟨Ay,ny,cy⟩,(ylo,yhi),yu):=by
     rw[List.getElem_append_right (by omega)];simp[hM0]
    rw[hgj] at p0 p1 p2;dsimp only at p0 p1 p2;obtain⟨g,hga,hg1,_⟩:=hf9 _ hA';injection hga with h1 h2;subst h1 h2;subst hA';have hyE:=HEL.out (⟨Ay,ny,cy⟩,(ylo,yhi),yu) (by simp);have hyH:=HHI.out (⟨Ay,ny,cy⟩,(ylo,yhi),yu) (by simp);dsimp only at hyE hyH;have EQ:=fun m=>equalSt_q Ay Av ny cy nv cv yu u (W.drewN m) hyE.1 HXE.out.1 ((hyE.2.go HB2.out).drewN m) ((HXE.out.2.go HB2.out).drewN m);obtain⟨oc1,oc2,oc3⟩:=own_cell hrow (j:=j * 3+1) (by omega) (.int .i64 hi');rw[<-hM0,zvv_set_last,hM0] at oc1;simp only[Nat.zero_add] at p0 p1 p2;have HROW:=Hz_ hrow;have HM0:=Hz_ hM0;have HOC:=Hz_ (And.intro oc1 (And.intro oc2 oc3));have e8:IntKind.i64.wrap (j:Int)=(j:Int):=IntWalk.i64_in _ (by omega);have e9:(((j+1:Nat):Int) - 1)=(j:Int):=by omega
    have e10:IntKind.i64.wrap (((j+1:Nat):Int) - 1)=(j:Int):=by rw[e9];exact e8
    have hin:(0:Int)<=(j:Int)/\(j:Int) < ((j+1:Nat):Int):=by omega
    have wy:IntKind.i64.wrap (yhi+1)=yhi+1:=IntWalk.i64_in _ (by omega);have dk:decide (0 < j+1)=true:=by simp
    have HG1:=Hz_ hg1;clear hrow hrz hgj hf9 hg1 hM0 hM hml oc1 oc2 hyE;by_cases c4:yhi+1=lo
    ·by_cases c5:yu=u
     ·rw[if_pos ⟨c4,c5⟩] at hnx;have HNX:=Hz_ hnx;subst c4;have HC5:=Hz_ c5;have JEL:=Hz_ (show ∀p∈M0++[((⟨Ay,ny,cy⟩:ZV),(ylo,hi'),yu)],p.2.2.length=p.1.n/\Rd w1 w1.heap.size 2 p.1.A p.1.n p.1.c (sv p.2.2) from fun p hp=>by
       rcases List.mem_append.1 hp with hp | hp
       ·exact HEL.out p (List.mem_append_left _ hp)
       ·rw[List.mem_singleton] at hp;subst hp;exact HEL.out (⟨Ay,ny,cy⟩,(ylo,yhi),yu) (by simp))
      have JHI:=Hz_ (show ∀p∈M0++[((⟨Ay,ny,cy⟩:ZV),(ylo,hi'),yu)],-1<=p.2.1.2/\p.2.1.2<=255 from fun p hp=>by
       rcases List.mem_append.1 hp with hp | hp
       ·exact HHI.out p (List.mem_append_left _ hp)
       ·rw[List.mem_singleton] at hp;subst hp;exact HHB.out.2)
      simp only[decide_eq_true c5] at EQ;have EQ:=Hz_ EQ;clear hnx c5;go_wp2_with fail;rw[HW.out];obtain⟨x0,x1,x2⟩:=HX.out.three;go_wp2_with fail;go_quiet ((go_at_call 160;exact Calls.quiet_of (EQ.out _)));clear EQ;go_wp2;go_roundw
      case rel=>exact⟨i+1,j+1,c',some ⟨g',0,none⟩,by go_num,rfl,by omega,by omega,(below_drewN HB2.out _).setCell (p:=⟨g',j * 3+1,none⟩) HG1.out _,M0++[((⟨Ay,ny,cy⟩:ZV),(ylo,hi'),yu)],⟨HOC.out.1,JEL.out,JHI.out,by rw[HNX.out,zns_app,HC5.out];rfl⟩⟩
      case measure=>simp[intOf];omega
     ·rw[if_neg (fun h=>c5 h.2)] at hnx;have HJ:=Hz_ (show zns ((M0++[((⟨Ay,ny,cy⟩:ZV),(ylo,yhi),yu)])++[((⟨Av,nv,cv⟩:ZV),(lo,hi'),u)])=((zns L').take (i+1)).foldl jstep [] by rw[hnx,zns_app,zns_app];rfl);simp only[decide_eq_false c5] at EQ;have EQ:=Hz_ EQ;subst c4;clear hnx c5;go_wp2_with fail;rw[HW.out];obtain⟨x0,x1,x2⟩:=HX.out.three;go_wp2_with fail;go_quiet ((go_at_call 160;exact Calls.quiet_of (EQ.out _)));clear EQ;go_wp2_with (at_builtin;go_must (refine wpList_append_rd _ rfl (.tmp 53) (.tmp 55) _ rfl w1.heap.size 129 i0 _ 3 40 Tryz.underlying32 hi0 hz0 hz1 hz2 rfl (by decide) (.slice (some ⟨g',0,none⟩) (j+1) c') (j+1) _ rfl (HROW.out.alloc _) _ (some ⟨_,0,none⟩) 1 1 [.int .i64 (yhi+1),.int .i64 hi',.slice Av nv cv] rfl (Rd.new _ 129 3 1 #[.int .i64 (yhi+1),.int .i64 hi',.slice Av nv cv] rfl h1max) (zvl_oneCell (⟨Av,nv,cv⟩,(yhi+1,hi'),u)) h63 (by omega) (by have:=HB2.out.size;simp;omega) ?_);intro A3 c3 W3 ho3 hg3 hat3);go_roundw
      case rel=>exact⟨i+1,j+1+1,c3,A3,by go_num,rfl,by omega,by omega,((below_drewN HB2.out _).alloc (by exact HB2.out.size) _).trans (grown_below hg3 (by have:=HB2.out.size;simp;omega) (fun g hg=>own_lt HROW.out g hg)),_,APP.out _ 0 rfl HJ.out A3 c3 W3 ho3⟩
      case measure=>simp[intOf];omega
    ·rw[if_neg (fun h=>c4 h.1)] at hnx;have HJ:=Hz_ (show zns ((M0++[((⟨Ay,ny,cy⟩:ZV),(ylo,yhi),yu)])++[((⟨Av,nv,cv⟩:ZV),(lo,hi'),u)])=((zns L').take (i+1)).foldl jstep [] by rw[hnx,zns_app,zns_app];rfl);have d4:(yhi+1 == lo)=false:=by simpa using c4
     clear hnx c4 EQ;go_wp2_with fail;rw[HW.out];obtain⟨x0,x1,x2⟩:=HX.out.three;go_wp2_with fail;go_quiet (fail);go_wp2_with (at_builtin;go_must (refine wpList_append_rd _ rfl (.tmp 53) (.tmp 55) _ rfl w1.heap.size 129 i0 _ 3 40 Tryz.underlying32 hi0 hz0 hz1 hz2 rfl (by decide) (.slice (some ⟨g',0,none⟩) (j+1) c') (j+1) _ rfl (HROW.out.alloc _) _ (some ⟨_,0,none⟩) 1 1 [.int .i64 lo,.int .i64 hi',.slice Av nv cv] rfl (Rd.new _ 129 3 1 #[.int .i64 lo,.int .i64 hi',.slice Av nv cv] rfl h1max) (zvl_oneCell (⟨Av,nv,cv⟩,(lo,hi'),u)) h63 (by omega) (by have:=HB2.out.size;simp;omega) ?_);intro A3 c3 W3 ho3 hg3 hat3);go_roundw
     case rel=>exact⟨i+1,j+1+1,c3,A3,by go_num,rfl,by omega,by omega,((below_drewN HB2.out _).alloc (by exact HB2.out.size) _).trans (grown_below hg3 (by have:=HB2.out.size;simp;omega) (fun g hg=>own_lt HROW.out g hg)),_,APP.out _ 0 rfl HJ.out A3 c3 W3 ho3⟩
     case measure=>simp[intOf];omega
  ·obtain rfl:i=n:=by omega
   have HZ:=Hz_ (show zns M=joinedZ (zns L') by rw[hM.z,List.take_of_length_le (by rw[zns_len,HLN.out];exact Nat.le_refl _)];rfl);have HRZ:=Hz_ (show RdZ wr wr.heap.size A' k c' M from ⟨hM.len,Rd.of_own hM.row,fun p hp=>⟨(hM.el p hp).1,(hM.el p hp).2.go hb⟩⟩);clear hq hM;go_wp2;go_ret;exact⟨A',k,c',M,rfl,HRZ.out,⟨zns L',HP.out.map _,by unfold zns;rw[List.pairwise_map];exact HRI.out,HZ.out⟩,HB1.out.trans (hb.mono (by have:=HB1.out.size;omega)),HKF.out.trans (keeps_below hb)⟩
theorem rowsIn_wide {n:Nat} {P:Program} {row:String} {args:Array Value} {w:World} {R:Value->World->Prop} (h:Rows P row args w R):RowsIn Fence.wide n P row args w R:=by
 intro c cs hr;obtain⟨v,w',h1,h2⟩:=h c cs;exact⟨v,w',h1,stepsIn_wide.2 h2⟩
theorem nrm_lets {K:Act->World->Prop} (h:LetsOut (Nrm K)):False:=by
 obtain⟨a,w,h⟩:=h;exact h
theorem oper_round {n l:Nat} {P:Program} {o:Oper} {a:Act} {w:World} {K N:Act->World->Prop} (hd:∀c,o.op≠.defer c) (h:o.wp P a w N (Nrm K)):o.wpIn (Fence.wide.inRound l) n P a w N (Nrm K):=by
 refine⟨fun f _=>trivial,?_⟩;rw[Oper.semAt_eq _ _ _ hd];unfold Oper.wp at h;generalize (execOp a.eval o).run P w=r at *
 cases r with
 | ok x w'=>
  cases x with
  | enter f args=>exact⟨fun hh=>by simp[Fence.wide,Fence.inRound] at hh,CallsIn.inRound l (callsIn_wide.2 h)⟩
  | row row args=>exact⟨fun hh=>by simp[Fence.wide,Fence.inRound] at hh,rowsIn_wide h⟩
  | _=>first | exact h | exact False.elim h
 | halt x w'=>cases x<;>first | exact h | exact False.elim h
theorem any_round {n l:Nat} {P:Program} {ops:Array Oper} {K:Act->World->Prop} {md:Region.Mode} (hd:ops.all (fun o=>match o.op with | .defer _=>false | _=>true)=true):
  ∀(fuel:Nat) (listed:Array Bool) (a:Act) (w:World),wpAny P md ops (Nrm K) fuel listed a w->wpAnyIn (Fence.wide.inRound l) n P md ops (Nrm K) fuel listed a w
 | 0,_,_,_,h=>h
 | fuel+1,listed,a,w,h=>by
  refine⟨h.1,fun i hi=>?_⟩;have h2:=wpOp_mono (fun a w=>any_round (n:=n) (l:=l) hd fuel (listed.setIfInBounds i true) a w) (h.2 i hi);unfold wpOp at h2;unfold wpOpIn;split
  ·rename_i e;rw[e] at h2;exact h2
  ·rename_i o e;rw[e] at h2;simp only at h2 ⊢;have hdo:∀c,o.op≠.defer c:=fun c hc=>by
    have:=Array.all_eq_true'.1 hd o (Array.mem_of_getElem? e);rw[hc] at this;cases this
   split
   ·rename_i hw;rw[if_pos hw] at h2;rcases h2 with h2 | ⟨_,h2⟩
    ·exact oper_round hdo h2
    ·exact(nrm_lets h2).elim
   ·rename_i hw;rw[if_neg hw] at h2;exact⟨fun f _=>trivial,h2⟩
theorem region_round {n l:Nat} {P:Program} {id:Nat} {ops:Array Oper} {Q:Exit->Act->World->Prop} {a:Act} {w:World} {S:World->Prop} (hm:P.follows .mixedOrders=true) (hd:ops.all (fun o=>match o.op with | .defer _=>false | _=>true)=true)
  (hS:S w.drew) (h:∀K:Act->World->Prop,(∀a w,Q .normal a w->K a w)->S w.drew->wpAnyH P .any ops (Nrm K) S ops.size (Array.replicate ops.size false) a w.drew):(Code.region id ops true).wpIn (Fence.wide.inRound l) n P Q a w:=by
 refine wpIn_mono (Q:=Nrm fun a w=>Q .normal a w) (wpIn_region_any hm (any_round hd _ _ _ _ (wpAny_of_held _ _ _ _ (h (fun a w=>Q .normal a w) (fun _ _ hh=>hh) hS)))) fun e a w hh=>?_
 cases e with
 | normal=>exact hh
 | _=>exact False.elim hh
theorem Blk.four4 {W:World} {g:Nat} {t:TypeId} {a b c d:Value} (h:Blk W g t #[a,b,c,d]):W.cell? ⟨g,0,none⟩=some a/\W.cell? ⟨g,1,none⟩=some b/\W.cell? ⟨g,2,none⟩=some c/\W.cell? ⟨g,3,none⟩=some d:=
 ⟨h.cell 0,h.cell 1,h.cell 2,h.cell 3⟩
end Go.Proofs.YtmbeahbgafkjfaaGreatDoor
