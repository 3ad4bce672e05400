/- Lemmas for the claim, layer 26. -/
import Derived.Test.YtmbeahbgafkjfaaGreatDoorKb25
set_option maxRecDepth 100000
set_option maxHeartbeats 16000000
namespace Go.Proofs.YtmbeahbgafkjfaaGreatDoor
open Go.RowKit Go.Shelf
attribute [local go_sem] Oper.semAt_some
def farS (r s e a:List Vc.St) (k:Nat):List Vc.St:=if Vc.cnt r k < Vc.cnt e k∧Vc.cnt s k≤Vc.cnt r k then vec (jn [a,[(Vc.cnt e k,(k:Int))]]) else a
def farN (r s e:List Vc.St) (l:List Nat):List Vc.St:=l.foldl (farS r s e) r
theorem farN_snoc (r s e:List Vc.St) (l:List Nat) (k:Nat):farN r s e (l++[k])=farS r s e (farN r s e l) k:=by unfold farN;rw[List.foldl_append];rfl
theorem farN_upto (r s e:List Vc.St):∀k,farN r s e (Vc.upto (pos (Vc.cnt e)) k)=farTo r s e k
 | 0=>rfl
 | k+1=>by
  have ih:=farN_upto r s e k
  have h0:=Vc.cnt_nonneg r k
  unfold Vc.upto at ih ⊢
  rw[List.range_succ,List.filter_append]
  rcases hp:pos (Vc.cnt e) k with _ | _
  ·have h1:¬ 0 < Vc.cnt e k:=by simpa[pos] using hp
   rw[show List.filter (pos (Vc.cnt e)) [k]=[] by simp[hp],List.append_nil,ih,farTo,if_neg (by omega)]
  ·rw[show List.filter (pos (Vc.cnt e)) [k]=[k] by simp[hp],farN_snoc,ih,farTo];rfl
theorem cntZ_nat (v:List Vc.St) {k:Nat} (h:k < 64):cntZ v (k:Int)=Vc.cnt v k:=by unfold cntZ;rw[if_pos (by omega),Int.toNat_natCast]
def NewA (w:World) (A:Option Addr) (u:List Vc.St) (A':Option Addr) (f:List Vc.St):Prop:=(A'=A∧f=u)∨∀a,A'=some a→w.heap.size≤a.block
def FarI (w:World) (A:Option Addr) (u0:List Vc.St) (BF:Nat) (u:List Vc.St) (W:World):Prop:=∃A' c',Boxed W BF 22 (.slice A' u.length c')∧Rd W W.heap.size 2 A' u.length c' (sv u)∧NewA w A u0 A' u
theorem stretched_any (v:NV) (x:Nt) (A:Option Addr) (n c:Nat) (u:List Vc.St) (w:World) (hT:Tab w) (hN:NtRd w w.heap.size v x) (hl:u.length=n) (hR:Rd w w.heap.size 2 A n c (sv u)):
  Calls Tryz.prog 183 #[.slice A n c,.agg v.val] w fun e w'=>∃A' c',e=.returned (.slice A' (farTo u x.s x.e 64).length c')∧Rd w' w'.heap.size 2 A' (farTo u x.s x.e 64).length c' (sv (farTo u x.s x.e 64))∧NewA w A u A' (farTo u x.s x.e 64)∧Below w.heap.size w w':=by
 obtain⟨A1,n1,c1,A2,n2,c2,A3,n3,c3,A4,n4,c4⟩:=v
 have h0lt:0 < w.heap.size:=World.block_lt_of_cell? _ _ (hT 0 (by decide))
 have b1:=((Boxed.new w 22 (.slice A n c)).alloc (.cells #[.slice A1 n1 c1,.slice A2 n2 c2,.slice A3 n3 c3,.slice A4 n4 c4] 26)).alloc (.cells #[.slice A n c] 22)
 have b2:=(Blk.new (w.alloc (.cells #[.slice A n c] 22)) 26 #[.slice A1 n1 c1,.slice A2 n2 c2,.slice A3 n3 c3,.slice A4 n4 c4]).alloc (.cells #[.slice A n c] 22)
 have b3:=Boxed.new ((w.alloc (.cells #[.slice A n c] 22)).alloc (.cells #[.slice A1 n1 c1,.slice A2 n2 c2,.slice A3 n3 c3,.slice A4 n4 c4] 26)) 22 (.slice A n c)
 have hb0:Below w.heap.size w (((w.alloc (.cells #[.slice A n c] 22)).alloc (.cells #[.slice A1 n1 c1,.slice A2 n2 c2,.slice A3 n3 c3,.slice A4 n4 c4] 26)).alloc (.cells #[.slice A n c] 22)):=(((Below.refl _ w).alloc (Nat.le_refl _) _).alloc (by simp) _).alloc (by simp;omega) _
 simp only[World.size_alloc] at b2 b3
 obtain⟨W0,hW0⟩:∃W0,W0=(((w.alloc (.cells #[.slice A n c] 22)).alloc (.cells #[.slice A1 n1 c1,.slice A2 n2 c2,.slice A3 n3 c3,.slice A4 n4 c4] 26)).alloc (.cells #[.slice A n c] 22)):=⟨_,rfl⟩
 have hs0:W0.heap.size=w.heap.size+1+1+1:=by rw[hW0];simp
 rw[←hW0] at b1 b2 b3 hb0
 have hN0:=hN.go hb0
 have HALL:=Hz_ (all_any A2 n2 c2 x.e W0 hN0.l2 hN0.r2)
 have HC1:=Hz_ fun (V:World) (hb:Below w.heap.size w V) (k:Int)=>count_any A n c u k V hl (hR.go hb)
 have HC2:=Hz_ fun (V:World) (hb:Below w.heap.size w V) (k:Int)=>count_any A1 n1 c1 x.s k V hN.l1 (hN.go hb).r1
 have HW:=Hz_ hW0.symm
 have HB0:=Hz_ hb0
 have HT:=Hz_ hT
 have HR0:=Hz_ (hR.go hb0)
 have HL:=Hz_ hl
 have HBX:=Hz_ (And.intro b1 (And.intro b2 b3))
 have HS0:=Hz_ hs0
 have q1:=b2.cell 1
 have q0:=b1.cell
 clear hN hN0 hR hl b1 b2 b3 hb0 hW0 hT
 refine(callsIn_wide (n:=3)).1 ?_
 refine callsIn_of_wp_marks Tryz.func183 rfl trivial ?_ rfl
 simp only[Tryz.ntmps183,List.size_toArray,List.length_cons,List.length_nil,Nat.reduceAdd,Nat.reduceSub,Array.replicate_succ,Array.replicate_zero,List.push_toArray,List.append_toArray,List.nil_append,List.cons_append]
 gi_wp2_with fail
 rw[HW.out]
 gi_wp2_with fail
 refine⟨trivial,?_⟩
 refine(callsIn_wide.2 HALL.out).mono ?_
 rintro e w1 ⟨G,Bx,rfl,hG,hBx,hg1,hx1,hb1⟩
 have hbw:=btn HB0.out hb1
 have hGood:Good G Bx (fun m k=>k=Vc.cnt x.e m) w1:=⟨HT.out.below hbw,hBx,_,_,hG,fun _ _=>rfl⟩
 have hh:=hG.cell 64
 rw[cc_has,has_pos] at hh
 have hFar:FarI w A u (w.heap.size+1+1) u w1:=⟨A,c,by rw[HL.out];exact(hb1.block _ (by have:=HS0.out;omega)).trans HBX.out.2.2,by rw[HL.out];exact HR0.out.go hb1,.inl ⟨rfl,rfl⟩⟩
 have HBW:=Hz_ hbw
 have hs1:=hb1.size
 have HB1:=Hz_ hb1
 clear q0 q1 HALL hb1 hbw
 gi_wp2
 refine wpIn_rangeFunc_ownG rfl (by omega) (gf:=221) (lb:=#[.pointer (some ⟨Bx,0,none⟩)]) rfl trivial (enters_of Tryz.func221 (by kernel_rfl) rfl)
  (each_stops (3 - 1) (by omega) G Bx (pos (Vc.cnt x.e)) (fun m k=>k=Vc.cnt x.e m) _ hGood hh) good_t (good_b hG.lt hBx.lt (by omega)) (Below.refl _ _) (fun _=>rfl)
  (fun pre W=>FarI w A u (w.heap.size+1+1) (farN u x.s x.e (nds pre)) W∧Below (w.heap.size+1+1) w1 W)
  (fun _ _ _=>False)
  (OwnFrom.and (fun s X Y row hs hg hr=>by
   obtain⟨A',c',h1,h2,h3⟩:=hs
   exact⟨A',c',(show Blk X _ _ _ from h1).kept_ hg (fun r e=>(hr r e).2),(rd_kept h2 hg (fun r e=>(hr r e).2)).more hg.size,h3⟩) (ownFrom_below (by have:=HS0.out;omega) (by have:=HS0.out;omega)))
  (fun _ _ _ _ _ hs _ _=>hs)
  ⟨hFar,Below.refl _ _⟩
  (fun y=>{ tmps:=#[.slice A n c,.agg (NV.val ⟨A1,n1,c1,A2,n2,c2,A3,n3,c3,A4,n4,c4⟩),.pointer (some ⟨w.heap.size,0,none⟩),.pointer (some ⟨w.heap.size+1,0,none⟩),.slice none 0 0,.pointer (some ⟨w.heap.size+1+1,0,none⟩),.int .i64 (y.1.1:Int),.int .i64 y.1.2,undef,.slice A n c,.pointer (some ⟨w.heap.size+1,1,none⟩),.slice A2 n2 c2,.func (.func 221) #[] #[.pointer (some ⟨Bx,0,none⟩)],.int .i64 (y.1.1:Int),.int .i64 y.1.2,undef,undef,undef,undef,undef,undef,undef,undef,undef,undef,undef,undef,undef,undef,undef,undef,undef,undef,undef,undef],defers:=[] }) ?assign ?body ?done ?stop
 case assign=>
  intro l y W K hK
  dsimp only[evs]
  gi_wp2
  exact hK
 case body=>
  rintro l pre y W ⟨⟨A',c',hbox,hrd,hna⟩,hB⟩ hlt
  have hk64:=y.2.1
  have hval:=y.2.2.2
  generalize hk:y.1.1=k at hk64 hval ⊢
  generalize hct:y.1.2=ct at hval ⊢
  have hbW:Below w.heap.size w W:=HBW.out.trans (hB.mono (by omega))
  have bx0:Boxed W w.heap.size 22 (.slice A n c):=(hB.block _ (by omega)).trans ((HB1.out.block _ (by have:=HS0.out;omega)).trans HBX.out.1)
  have bx1:Blk W (w.heap.size+1) 26 #[.slice A1 n1 c1,.slice A2 n2 c2,.slice A3 n3 c3,.slice A4 n4 c4]:=(hB.block _ (by omega)).trans ((HB1.out.block _ (by have:=HS0.out;omega)).trans HBX.out.2.1)
  have q0:=bx0.cell
  have hsn:=farN_snoc u x.s x.e (nds pre) k
  have hsn2:farN u x.s x.e (nds (pre++[y]))=farS u x.s x.e (farN u x.s x.e (nds pre)) k:=by rw[nds_snoc,hk];exact hsn
  have e1:=HC1.out W hbW (k:Int)
  rw[cntZ_nat u hk64] at e1
  have hfs:farS u x.s x.e (farN u x.s x.e (nds pre)) k=if Vc.cnt u k < Vc.cnt x.e k∧Vc.cnt x.s k≤Vc.cnt u k then vec (jn [farN u x.s x.e (nds pre),[(Vc.cnt x.e k,(k:Int))]]) else farN u x.s x.e (nds pre):=rfl
  have e2:=fun V hb=>HC2.out V hb (k:Int)
  simp only[cntZ_nat x.s hk64] at e2
  generalize farN u x.s x.e (nds pre)=f at hbox hrd hsn2 hfs hna
  generalize farS u x.s x.e f k=g at hsn2 hfs
  generalize Vc.cnt u k=a at e1 hfs
  rw[←hval] at hfs
  generalize Vc.cnt x.s k=b at e2 hfs
  have E1:=Hz_ e1
  have E2:=Hz_ e2
  have HFS:=Hz_ hfs
  have HSN:=Hz_ hsn2
  have HBo:=Hz_ hbox
  have HRd:=Hz_ hrd
  have HBB:=Hz_ hB
  have HX1:=Hz_ bx1
  have HBW2:=Hz_ hbW
  have hWs:=hB.size
  clear e1 e2 hfs hsn hsn2 hk hct hval hbox hrd hB bx0 bx1 hbW
  gi_wp2_with fail
  refine⟨trivial,?_⟩
  refine(callsIn_wide.2 E1.out).mono ?_
  rintro e w4 ⟨rfl,hb4⟩
  have hbx4:Boxed w4 (w.heap.size+1+1) 22 (.slice A' f.length c'):=(hb4.block _ HBo.out.lt).trans HBo.out
  have q3:=(HX1.out.go hb4).cell 0
  clear q0 E1
  by_cases c1:ct > a
  ·have HB4:=Hz_ hb4
   have HX4:=Hz_ hbx4
   clear hb4 hbx4
   gi_wp2_with fail
   refine⟨trivial,?_⟩
   refine(callsIn_wide.2 (E2.out _ (btn HBW2.out HB4.out))).mono ?_
   rintro e w5 ⟨rfl,hb5⟩
   have hb5:=btn HB4.out hb5
   have HB5:=Hz_ hb5
   have hbx5:Boxed w5 (w.heap.size+1+1) 22 (.slice A' f.length c'):=(hb5.block _ HBo.out.lt).trans HBo.out
   by_cases c2:a ≥ b
   ·have HG:=Hz_ (show g=vec (jn [f,[(ct,(k:Int))]]) by rw[HFS.out,if_pos ⟨c1,c2⟩])
    have q4:=hbx5.cell
    have WI:=Hz_ (with_any A' f.length c' f (ct,(k:Int)) w5 (HT.out.below (btn HBW2.out hb5)) rfl (HRd.out.go hb5))
    clear hb5 hbx5 q3 E2
    gi_wp2_with fail
    refine⟨trivial,?_⟩
    refine(callsIn_wide.2 WI.out).mono ?_
    rintro e w6 hout
    rw[←HG.out] at hout
    obtain⟨A6,c6,rfl,ho6,hb6⟩:=hout
    have hb6W:=btn HB5.out hb6
    have hbx6:Boxed w6 (w.heap.size+1+1) 22 (.slice A' f.length c'):=(hb6W.block _ HBo.out.lt).trans HBo.out
    have q5:=hbx6.cell
    have f5:=hbx6.frozen
    have HB6:=Hz_ hb6W
    have HX6:=Hz_ hbx6
    have hs5:=HB5.out.size
    have hbl:=HBo.out.lt
    clear hb6 hb6W hbx6 q4 WI
    gi_wp2
    refine⟨(keeps_below HB6.out).trans ((KeepsOthers.setCell _ _ _).from _),fun hg=>?_,⟨A6,c6,?_,?_,.inr (fun a ha=>?_)⟩,?_⟩
    ·exact(hg.below HB6.out (by obtain⟨_,_,h,_⟩:=hg.cnts;exact h.lt) hg.box.lt (by omega)).set_ _ (by omega) (by omega) (by omega)
    ·rw[HSN.out];exact HX6.out.set _
    ·rw[HSN.out];exact Rd.of_own (ho6.kept (grownBy_setCell' w6 (w.heap.size+1+1) _) (own_ne ho6 (by omega)))
    ·obtain⟨A7,c7,hv,_,hf⟩:=own_form ho6
     injection hv with hv1 _ _
     subst hv1
     obtain⟨g7,rfl,hg7,_⟩:=hf a ha
     have:=HBW2.out.size
     show w.heap.size≤g7
     omega
    ·exact(HBB.out.trans (HB6.out.mono (by omega))).setCell (p:=⟨w.heap.size+1+1,0,none⟩) (Nat.le_refl _) _
   ·have HG:=Hz_ (show g=f by rw[HFS.out,if_neg (by omega)])
    clear hb5 hbx5 q3 E2
    gi_wp2
    refine⟨keeps_below HB5.out,fun hg=>?_,⟨A',c',?_,?_,by rw[HSN.out,HG.out];exact hna⟩,?_⟩
    ·exact hg.below HB5.out (by obtain⟨_,_,h,_⟩:=hg.cnts;exact h.lt) hg.box.lt (by omega)
    ·rw[HSN.out,HG.out];exact(HB5.out.block _ HBo.out.lt).trans HBo.out
    ·rw[HSN.out,HG.out];exact HRd.out.go HB5.out
    ·exact HBB.out.trans (HB5.out.mono (by omega))
  ·have HG:=Hz_ (show g=f by rw[HFS.out,if_neg (by omega)])
   have HB4:=Hz_ hb4
   clear hb4 hbx4 q3 E2
   gi_wp2
   refine⟨trivial,?_⟩
   gi_wp2
   refine⟨keeps_below HB4.out,fun hg=>?_,⟨A',c',?_,?_,by rw[HSN.out,HG.out];exact hna⟩,?_⟩
   ·exact hg.below HB4.out (by obtain⟨_,_,h,_⟩:=hg.cnts;exact h.lt) hg.box.lt (by omega)
   ·rw[HSN.out,HG.out];exact(HB4.out.block _ HBo.out.lt).trans HBo.out
   ·rw[HSN.out,HG.out];exact HRd.out.go HB4.out
   ·exact HBB.out.trans (HB4.out.mono (by omega))
 case done=>
  rintro D ys W hD hys ⟨⟨A',c',hbox,hrd,hna⟩,hB⟩ hK
  have hys':nds ys=Vc.upto (pos (Vc.cnt x.e)) 64:=hys
  rw[hys',farN_upto] at hbox hrd hna
  have q:=hbox.cell
  clear hys hys'
  gi_wp2
  refine⟨by simp,.inl ⟨_,_,rfl,run_takeDeferred hK,?_⟩⟩
  exact⟨_,results_tmp rfl _ _ _,A',c',rfl,(rd_kept hrd (grownBy_putObj' W D (.deferred none)) (fun r e=>by cases e;exact⟨_,hK,rfl⟩)).more (by simp),hna,(HBW.out.trans (hB.mono (by omega))).trans (belowK_b (w:=w) (Nat.le_refl _) W D _ _ (by omega) hK rfl rfl)⟩
 case stop=>
  rintro D c pre W _ _ h _
  exact h.elim
end Go.Proofs.YtmbeahbgafkjfaaGreatDoor
namespace Go.Proofs.YtmbeahbgafkjfaaGreatDoor
open Go.RowKit Go.Shelf
theorem OwnZ.setB {w:World} {base BO k c:Nat} {A:Option Addr} {L:List (ZV×Zn)} {v0:Value} (h:OwnZ w base A k c L) (hv:Boxed w BO 32 v0) (v:Value):OwnZ (w.setCell ⟨BO,0,none⟩ v) base A k c L:=
 ⟨h.row.kept (grownBy_setCell' w BO v) (.inr (hv.not_row (by decide) h.row).symm),fun p hp=>⟨(h.el p hp).1,(h.el p hp).2.kept (grownBy_setCell' w BO v) (.inr (hv.not_row (by decide) (h.el p hp).2).symm)⟩⟩
theorem Rd.kz {BO:Nat} {W V:World} {size n c:Nat} {A:Option Addr} {xs:List Value} (h:Rd W W.heap.size size A n c xs) (k:KZ BO W V) (hs:0 < n→∀a,A=some a→a.block≠BO∧pt BO W≠some a.block):Rd V V.heap.size size A n c xs:=
 ⟨h.len,h.cap,h.max,h.nil,fun hn=>by
  obtain⟨ad,e,hb,hc⟩:=h.at0 hn
  obtain⟨s1,s2⟩:=hs hn ad e
  exact⟨ad,e,Nat.lt_of_lt_of_le hb k.size,fun j u hu=>k.cell (by rw[block_of_add];exact s1) (by rw[block_of_add];exact s2) (hc j u hu)⟩⟩
def SepA (BO:Nat) (W:World) (n:Nat) (A:Option Addr):Prop:=0 < n→∀a,A=some a→a.block≠BO∧pt BO W≠some a.block
theorem KeepsFrom.zero {B:Nat} {W V:World} (h:KeepsFrom 0 W V):KeepsFrom B W V:=⟨h.size,fun k o _ hk ho=>h.same k o (Nat.zero_le _) hk ho⟩
def putL (c:Bool) (l:List Sn.Sp) (u:List Vc.St):List Zn:=if c=true then [] else l.map fun s=>(s,u)
structure PutI (w:World) (BO base:Nat) (Z:List Zn) (W:World):Prop where
 st:∃A k c M,Boxed W BO 32 (.slice A k c)∧OwnZ W base A k c M∧zns M=Z
 kz:KZ BO w W
 kf:KeepsFrom 0 w W
 bl:Below base w W
theorem rdN {W:World} {t:TypeId} {cs:Array Value} (size n:Nat) (_:Below W.heap.size W (W.alloc (.cells cs t))) (hn:cs.size=n * size) (hm:n≤maxLen):Rd (W.alloc (.cells cs t)) (W.alloc (.cells cs t)).heap.size size (some ⟨W.heap.size,0,none⟩) n n cs.toList:=by
 have:=Rd.new W t size n cs hn hm
 rw[World.size_alloc];exact this
theorem put_any (BN BO base:Nat) (D A N A0:Option Addr) (m d n c nn nc k0 c0:Nat) (l:List Sn.Sp) (u nw:List Vc.St) (M:List (ZV×Zn)) (w:World) (hT:Tab w) (hbn:Boxed w BN 22 (.slice N nn nc)) (hnn:nw.length=nn) (hRN:Rd w w.heap.size 2 N nn nc (sv nw))
  (hbo:Boxed w BO 32 (.slice A0 k0 c0)) (hM:OwnZ w base A0 k0 c0 M) (hbase:base≤BO) (hl:l.length=m) (hRl:Rd w w.heap.size 2 D m d (sv l)) (sl:SepA BO w m D) (hu:u.length=n) (hRu:Rd w w.heap.size 2 A n c (sv u)) (su:SepA BO w n A) (hn:n≤8796093022208) (hsz:k0+m≤3518437208883):
  Calls Tryz.prog 181 #[.slice D m d,.slice A n c,.pointer (some ⟨BN,0,none⟩),.pointer (some ⟨BO,0,none⟩)] w fun e w'=>e=.returned (.tuple #[])∧PutI w BO base (zns M++putL (cov2 u nw) l u) w':=by
 have hq:=hbn.cell
 have C:=covers_any A N n c nn nc u nw w hT hu hnn hRu hRN
 rcases hc:covB (Vc.cnt u) (Vc.cnt nw) with _ | _
 ·rw[hc] at C
  have HP:=Hz_ (show putL (cov2 u nw) l u=l.map fun s=>(s,u) by unfold cov2;rw[hc];rfl)
  obtain⟨i0,hi0,hz0,hz1,hz2⟩:=info_parts zone_info
  have h1max:1≤maxLen:=by unfold maxLen;omega
  have C:=Hz_ C
  have HBO:=Hz_ hbo
  have HM0:=Hz_ hM
  have HLl:=Hz_ hl
  have HRl:=Hz_ hRl
  have HRu:=Hz_ hRu
  have SL:=Hz_ sl
  have SU:=Hz_ su
  have HU:=Hz_ hu
  have hlm:=hRl.cap
  have hlx:=hRl.max
  have hmx:m≤9223372036854775807:=by unfold maxLen at hlx;omega
  clear hc hbo hM hRl hRu sl su hT hbn hRN hl hu
  go_enter Tryz.func181,Tryz.ntmps181
  go_wp2_with fail
  refine C.out.mono ?_
  rintro e w1 ⟨rfl,hb1⟩
  have P1:=Hz_ (show PutI w BO base (zns M++(l.take 0).map fun s=>(s,u)) w1 from ⟨⟨A0,k0,c0,M,(hb1.block _ HBO.out.lt).trans HBO.out,HM0.out.below hb1,by simp⟩,KZ.of_below HBO.out.lt hb1,keeps_below hb1,hb1.mono (by have:=HBO.out.lt;omega)⟩)
  clear hb1 hq C
  go_wp2
  go_loopw [13] (fun v13 wr=>∃i:Nat,v13=.int .i64 i∧i≤m∧Hid (PutI w BO base (zns M++(l.take i).map fun s=>(s,u)) wr)) (fun v13 _=>m - (intOf v13).toNat)
  case atStart=>exact⟨0,rfl,Nat.zero_le _,P1.out⟩
  case round=>
   obtain⟨i,rfl,hi,hp⟩:=hrel
   by_cases hlt:i < m
   ·obtain⟨⟨A1,k1,c1,M1,hbx,hM1,hz⟩,kz,kf,bl⟩:=hp.out
    have hkl:i < l.length:=by rw[HLl.out];exact hlt
    obtain⟨b,oo,rfl,hab,g0,g1⟩:=(HRl.out.kz kz SL.out).stamp HLl.out hlt
    have hRu1:=HRu.out.kz kz SU.out
    have hnx:=List.take_succ_eq_append_getElem hkl
    have hk1:k1=k0+i:=by
     have e1:=congrArg List.length hz
     have e2:=hM1.len
     have e3:=HM0.out.len
     rw[zns_len,List.length_append,zns_len,List.length_map,List.length_take] at e1
     omega
    have hk2:k1+1≤3518437208883:=by omega
    clear hk1
    generalize (l[i]'hkl)=s at g0 g1 hnx
    obtain⟨lo,hi'⟩:=s
    dsimp only at g0 g1
    have hwb:Below wr.heap.size wr (wr.alloc (.cells #[.int .i64 lo,.int .i64 hi'] 63)):=(Below.refl _ _).alloc (Nat.le_refl _) _
    have XS:=Hz_ ((Blk.new wr 63 #[.int .i64 lo,.int .i64 hi']).go (Below.refl _ _).drew)
    have hwd:=btn hwb (Below.refl _ (wr.alloc (.cells #[.int .i64 lo,.int .i64 hi'] 63))).drew
    have BX:=Hz_ (show Boxed _ BO 32 (.slice A1 k1 c1) from (hwd.block _ hbx.lt).trans hbx)
    have BX0:=BX
    have CZ:=Hz_ (hM1.below hwd)
    have RU:=Hz_ fun V (hb:Below wr.heap.size wr V)=>cloneSt_any A n c (sv u) V (hRu1.go hb) (sv_oneCell _) hn
    have k:=hwd
    have h63:k1+1≤maxLen:=by unfold maxLen;omega
    have HNX:=Hz_ (show (l.take (i+1)).map (fun s=>(s,u))=(l.take i).map (fun s=>(s,u))++[((lo,hi'),u)] by rw[hnx,List.map_append];rfl)
    have HZ:=Hz_ hz
    have HBX:=Hz_ hbx
    have KZZ:=Hz_ kz
    have KF:=Hz_ kf
    have BL:=Hz_ bl
    have hbs:=bl.size
    have hbl:=HBO.out.lt
    clear hp hbx hM1 hz kz kf bl hab hRu1 hnx hkl hwb hwd P1
    go_wp2_with fail
    clear g0 g1
    refine region_nrm fun KK hKK=>?_
    refine wp_region_held_drew (S:=(fun V=>V.cell? ⟨wr.heap.size,0,none⟩=some (.int .i64 lo)∧V.cell? ⟨wr.heap.size,1,none⟩=some (.int .i64 hi'))) (by kernel_rfl) (by first | exact⟨XS.out.cell 0,XS.out.cell 1⟩) (fun hHeld=>?_)
    refine puA 1 18 (⟨XS.out.cell 0,XS.out.cell 1⟩) ?_
    refine puA 2 19 (⟨XS.out.cell 0,XS.out.cell 1⟩) ?_
    refine wpAnyH_ready (rs:=[0,3]) (by kernel_rfl) (by simp) ?_
    refine AllReadyH.cons rfl (fun K hK=>?_) (AllReadyH.cons rfl (fun K hK=>?_) AllReadyH.nil)
    ·have qg:=BX0.out.cell
     have qg2:=BX.out.cell
     go_simp
     clear qg qg2
     refine hK.out _ _ (⟨XS.out.cell 0,XS.out.cell 1⟩) fun hHeld=>?_
     clear hK K
     refine puR 3 fun K hK=>?_
     go_simp
     refine(RU.out _ k).mono ?_
     rintro e W1 ⟨Ac,cc,rfl,ho,hb'⟩
     have CV:=Hz_ (own_less ho (show base≤_ from by have:=k.size;have:=KZZ.out.size;omega))
     have CZ:=Hz_ (CZ.out.below hb')
     have XS:=Hz_ (XS.out.go hb')
     have BX:=Hz_ (show Boxed W1 BO 32 (.slice A1 k1 c1) from (hb'.block _ BX.out.lt).trans BX.out)
     have k:=btn k hb'
     clear ho hb'
     refine hK.out _ _ (⟨XS.out.cell 0,XS.out.cell 1⟩) fun hHeld=>?_
     clear hK K
     refine puA 4 21 (⟨XS.out.cell 0,XS.out.cell 1⟩) ?_
     refine puR 5 fun K hK=>?_
     go_simp
     have hb':=then_alloc k (.cells #[.int .i64 lo,.int .i64 hi',.slice Ac n cc] 129)
     have CV:=Hz_ (own_below CV.out hb' (Nat.le_refl _))
     have CZ:=Hz_ (CZ.out.below hb')
     have XS:=Hz_ (XS.out.go hb')
     have BX:=Hz_ (show Boxed _ BO 32 (.slice A1 k1 c1) from (hb'.block _ BX.out.lt).trans BX.out)
     have RN:=Hz_ (rdN 3 1 hb' rfl h1max)
     have k:=btn k hb'
     clear hb'
     refine hK.out _ _ (⟨XS.out.cell 0,XS.out.cell 1⟩) fun hHeld=>?_
     clear hK K
     refine puR 6 fun K hK=>?_
     rw[if_pos (by kernel_rfl)]
     refine wp_append_rd _ (.tmp 17) (.tmp 22) _ rfl base 129 i0 _ 3 40 Tryz.underlying32 hi0 hz0 hz1 hz2 rfl (by decide) (.slice A1 k1 c1) k1 _ rfl CZ.out.row _ (some ⟨_,0,none⟩) 1 1 _ rfl RN.out (zvl_oneCell (⟨Ac,n,cc⟩,(lo,hi'),u)) h63 (by omega) (by have:=k.size;have:=KZZ.out.size;omega) ?_
     intro A3 c3 W3 ho3 hg3 hat3
     have hnr:=BX.out.not_row (show (32:TypeId)≠129 by decide) CZ.out.row
     have BX3:=Hz_ (BX.out.kept hg3 hnr)
     have XS:=Hz_ (XS.out.grown hg3 (Blk.not_row XS.out (show (63:TypeId)≠129 by decide) CZ.out.row))
     have CZ3:=Hz_ (OwnZ.push (p:=(⟨Ac,n,cc⟩,(lo,hi'),u)) CZ.out ⟨HU.out,CV.out⟩ hg3 ho3)
     have kz3:=Hz_ (KZ.appended (v':=.slice A3 (k1+1) c3) HBX.out (show (32:TypeId)≠129 by decide) k CZ.out.row hg3 hat3 (fun g hg=>(ho3.lt g hg).2))
     have kf3:=Hz_ (KeepsFrom.appended (B:=0) (BO:=BO) (v':=.slice A3 (k1+1) c3) k CZ.out.row hg3)
     have bl3:=Hz_ (((BL.out.trans (k.mono (by have:=KZZ.out.size;omega))).trans (grown_below hg3 (by have:=k.size;have:=KZZ.out.size;omega) (fun g hg=>own_lt CZ.out.row g hg))).setCell (p:=⟨BO,0,none⟩) hbase (.slice A3 (k1+1) c3))
     clear ho3 hg3 hat3 hnr
     refine hK.out _ _ (⟨XS.out.cell 0,XS.out.cell 1⟩) fun hHeld=>?_
     clear hK K
     refine puR 7 fun K hK=>?_
     have qg:=BX3.out.cell
     have qf:=BX3.out.frozen
     go_simp
     clear qg qf
     have XS:=Hz_ (XS.out.grown (grownBy_setCell' _ BO (.slice A3 (k1+1) c3)) (fun e=>by injection e with e;omega))
     refine hK.out _ _ (⟨XS.out.cell 0,XS.out.cell 1⟩) fun hHeld=>?_
     clear hK K
     refine wpAnyH_done (by kernel_rfl) ?_ _
     refine Nrm.out (hKK _ _ ?_)
     go_wp2
     go_roundw
     case rel=>exact⟨i+1,by go_num,by omega,⟨⟨A3,k1+1,c3,_,BX3.out.set _,CZ3.out.setB BX3.out _,by rw[zns_app,HZ.out,HNX.out,List.append_assoc];rfl⟩,KZZ.out.trans kz3.out,KF.out.trans kf3.out,bl3.out⟩⟩
     case measure=>simp[intOf];omega
    ·go_simp
     refine(RU.out _ k).mono ?_
     rintro e W1 ⟨Ac,cc,rfl,ho,hb'⟩
     have CV:=Hz_ (own_less ho (show base≤_ from by have:=k.size;have:=KZZ.out.size;omega))
     have CZ:=Hz_ (CZ.out.below hb')
     have XS:=Hz_ (XS.out.go hb')
     have BX:=Hz_ (show Boxed W1 BO 32 (.slice A1 k1 c1) from (hb'.block _ BX.out.lt).trans BX.out)
     have k:=btn k hb'
     clear ho hb'
     refine hK.out _ _ (⟨XS.out.cell 0,XS.out.cell 1⟩) fun hHeld=>?_
     clear hK K
     refine puA 4 21 (⟨XS.out.cell 0,XS.out.cell 1⟩) ?_
     refine wpAnyH_ready (rs:=[0,5]) (by kernel_rfl) (by simp) ?_
     refine AllReadyH.cons rfl (fun K hK=>?_) (AllReadyH.cons rfl (fun K hK=>?_) AllReadyH.nil)
     ·have qg:=BX0.out.cell
      have qg2:=BX.out.cell
      go_simp
      clear qg qg2
      refine hK.out _ _ (⟨XS.out.cell 0,XS.out.cell 1⟩) fun hHeld=>?_
      clear hK K
      refine puR 5 fun K hK=>?_
      go_simp
      have hb':=then_alloc k (.cells #[.int .i64 lo,.int .i64 hi',.slice Ac n cc] 129)
      have CV:=Hz_ (own_below CV.out hb' (Nat.le_refl _))
      have CZ:=Hz_ (CZ.out.below hb')
      have XS:=Hz_ (XS.out.go hb')
      have BX:=Hz_ (show Boxed _ BO 32 (.slice A1 k1 c1) from (hb'.block _ BX.out.lt).trans BX.out)
      have RN:=Hz_ (rdN 3 1 hb' rfl h1max)
      have k:=btn k hb'
      clear hb'
      refine hK.out _ _ (⟨XS.out.cell 0,XS.out.cell 1⟩) fun hHeld=>?_
      clear hK K
      refine puR 6 fun K hK=>?_
      rw[if_pos (by kernel_rfl)]
      refine wp_append_rd _ (.tmp 17) (.tmp 22) _ rfl base 129 i0 _ 3 40 Tryz.underlying32 hi0 hz0 hz1 hz2 rfl (by decide) (.slice A1 k1 c1) k1 _ rfl CZ.out.row _ (some ⟨_,0,none⟩) 1 1 _ rfl RN.out (zvl_oneCell (⟨Ac,n,cc⟩,(lo,hi'),u)) h63 (by omega) (by have:=k.size;have:=KZZ.out.size;omega) ?_
      intro A3 c3 W3 ho3 hg3 hat3
      have hnr:=BX.out.not_row (show (32:TypeId)≠129 by decide) CZ.out.row
      have BX3:=Hz_ (BX.out.kept hg3 hnr)
      have XS:=Hz_ (XS.out.grown hg3 (Blk.not_row XS.out (show (63:TypeId)≠129 by decide) CZ.out.row))
      have CZ3:=Hz_ (OwnZ.push (p:=(⟨Ac,n,cc⟩,(lo,hi'),u)) CZ.out ⟨HU.out,CV.out⟩ hg3 ho3)
      have kz3:=Hz_ (KZ.appended (v':=.slice A3 (k1+1) c3) HBX.out (show (32:TypeId)≠129 by decide) k CZ.out.row hg3 hat3 (fun g hg=>(ho3.lt g hg).2))
      have kf3:=Hz_ (KeepsFrom.appended (B:=0) (BO:=BO) (v':=.slice A3 (k1+1) c3) k CZ.out.row hg3)
      have bl3:=Hz_ (((BL.out.trans (k.mono (by have:=KZZ.out.size;omega))).trans (grown_below hg3 (by have:=k.size;have:=KZZ.out.size;omega) (fun g hg=>own_lt CZ.out.row g hg))).setCell (p:=⟨BO,0,none⟩) hbase (.slice A3 (k1+1) c3))
      clear ho3 hg3 hat3 hnr
      refine hK.out _ _ (⟨XS.out.cell 0,XS.out.cell 1⟩) fun hHeld=>?_
      clear hK K
      refine puR 7 fun K hK=>?_
      have qg:=BX3.out.cell
      have qf:=BX3.out.frozen
      go_simp
      clear qg qf
      have XS:=Hz_ (XS.out.grown (grownBy_setCell' _ BO (.slice A3 (k1+1) c3)) (fun e=>by injection e with e;omega))
      refine hK.out _ _ (⟨XS.out.cell 0,XS.out.cell 1⟩) fun hHeld=>?_
      clear hK K
      refine wpAnyH_done (by kernel_rfl) ?_ _
      refine Nrm.out (hKK _ _ ?_)
      go_wp2
      go_roundw
      case rel=>exact⟨i+1,by go_num,by omega,⟨⟨A3,k1+1,c3,_,BX3.out.set _,CZ3.out.setB BX3.out _,by rw[zns_app,HZ.out,HNX.out,List.append_assoc];rfl⟩,KZZ.out.trans kz3.out,KF.out.trans kf3.out,bl3.out⟩⟩
      case measure=>simp[intOf];omega
     ·go_simp
      have hb':=then_alloc k (.cells #[.int .i64 lo,.int .i64 hi',.slice Ac n cc] 129)
      have CV:=Hz_ (own_below CV.out hb' (Nat.le_refl _))
      have CZ:=Hz_ (CZ.out.below hb')
      have XS:=Hz_ (XS.out.go hb')
      have BX:=Hz_ (show Boxed _ BO 32 (.slice A1 k1 c1) from (hb'.block _ BX.out.lt).trans BX.out)
      have RN:=Hz_ (rdN 3 1 hb' rfl h1max)
      have k:=btn k hb'
      clear hb'
      refine hK.out _ _ (⟨XS.out.cell 0,XS.out.cell 1⟩) fun hHeld=>?_
      clear hK K
      refine puR 0 fun K hK=>?_
      have qg:=BX0.out.cell
      have qg2:=BX.out.cell
      go_simp
      clear qg qg2
      refine hK.out _ _ (⟨XS.out.cell 0,XS.out.cell 1⟩) fun hHeld=>?_
      clear hK K
      refine puR 6 fun K hK=>?_
      rw[if_pos (by kernel_rfl)]
      refine wp_append_rd _ (.tmp 17) (.tmp 22) _ rfl base 129 i0 _ 3 40 Tryz.underlying32 hi0 hz0 hz1 hz2 rfl (by decide) (.slice A1 k1 c1) k1 _ rfl CZ.out.row _ (some ⟨_,0,none⟩) 1 1 _ rfl RN.out (zvl_oneCell (⟨Ac,n,cc⟩,(lo,hi'),u)) h63 (by omega) (by have:=k.size;have:=KZZ.out.size;omega) ?_
      intro A3 c3 W3 ho3 hg3 hat3
      have hnr:=BX.out.not_row (show (32:TypeId)≠129 by decide) CZ.out.row
      have BX3:=Hz_ (BX.out.kept hg3 hnr)
      have XS:=Hz_ (XS.out.grown hg3 (Blk.not_row XS.out (show (63:TypeId)≠129 by decide) CZ.out.row))
      have CZ3:=Hz_ (OwnZ.push (p:=(⟨Ac,n,cc⟩,(lo,hi'),u)) CZ.out ⟨HU.out,CV.out⟩ hg3 ho3)
      have kz3:=Hz_ (KZ.appended (v':=.slice A3 (k1+1) c3) HBX.out (show (32:TypeId)≠129 by decide) k CZ.out.row hg3 hat3 (fun g hg=>(ho3.lt g hg).2))
      have kf3:=Hz_ (KeepsFrom.appended (B:=0) (BO:=BO) (v':=.slice A3 (k1+1) c3) k CZ.out.row hg3)
      have bl3:=Hz_ (((BL.out.trans (k.mono (by have:=KZZ.out.size;omega))).trans (grown_below hg3 (by have:=k.size;have:=KZZ.out.size;omega) (fun g hg=>own_lt CZ.out.row g hg))).setCell (p:=⟨BO,0,none⟩) hbase (.slice A3 (k1+1) c3))
      clear ho3 hg3 hat3 hnr
      refine hK.out _ _ (⟨XS.out.cell 0,XS.out.cell 1⟩) fun hHeld=>?_
      clear hK K
      refine puR 7 fun K hK=>?_
      have qg:=BX3.out.cell
      have qf:=BX3.out.frozen
      go_simp
      clear qg qf
      have XS:=Hz_ (XS.out.grown (grownBy_setCell' _ BO (.slice A3 (k1+1) c3)) (fun e=>by injection e with e;omega))
      refine hK.out _ _ (⟨XS.out.cell 0,XS.out.cell 1⟩) fun hHeld=>?_
      clear hK K
      refine wpAnyH_done (by kernel_rfl) ?_ _
      refine Nrm.out (hKK _ _ ?_)
      go_wp2
      go_roundw
      case rel=>exact⟨i+1,by go_num,by omega,⟨⟨A3,k1+1,c3,_,BX3.out.set _,CZ3.out.setB BX3.out _,by rw[zns_app,HZ.out,HNX.out,List.append_assoc];rfl⟩,KZZ.out.trans kz3.out,KF.out.trans kf3.out,bl3.out⟩⟩
      case measure=>simp[intOf];omega
   ·obtain rfl:i=m:=by omega
    have HPP:=Hz_ (show PutI w BO base (zns M++putL (cov2 u nw) l u) wr by rw[HP.out];have:=hp.out;rwa [List.take_of_length_le (by rw[HLl.out];exact Nat.le_refl _)] at this)
    clear hp
    go_wp2
    go_end0
    exact⟨rfl,HPP.out⟩
 ·rw[hc] at C
  have HP:=Hz_ (show putL (cov2 u nw) l u=[] by unfold cov2;rw[hc];rfl)
  have C:=Hz_ C
  have HBO:=Hz_ hbo
  have HM0:=Hz_ hM
  clear hc hbo hM hRl hRu sl su hT hbn hRN
  go_enter Tryz.func181,Tryz.ntmps181
  go_wp2_with fail
  refine C.out.mono ?_
  rintro e w1 ⟨rfl,hb1⟩
  go_wp2
  refine bodyPost_ret (results_none rfl _ _ _) rfl ?_
  rw[HP.out,List.append_nil]
  exact⟨rfl,⟨A0,k0,c0,M,(hb1.block _ HBO.out.lt).trans HBO.out,HM0.out.below hb1,rfl⟩,KZ.of_below HBO.out.lt hb1,keeps_below hb1,hb1.mono (by have:=HBO.out.lt;omega)⟩
open Go.Shelf
def sortZn_ren:Go.Shelf.Ren:=⟨fun | 6=>211 | 15=>227 | 14=>226 | 28=>238 | 29=>239 | 20=>230 | 21=>231 | 22=>232 | 23=>233 | 24=>234 | 25=>235 | 26=>236 | 27=>237 | 46=>249 | 47=>250 | 48=>251 | 49=>252 | 50=>253 | 57=>257 | n=>n,fun | 22=>32 | 24=>129 | 25=>240 | 3=>3 | 39=>186 | 0=>0 | 53=>266 | 55=>201 | 4=>4 | 46=>260 | 45=>259 | 50=>111 | 5=>5 | 9=>9 | 66=>273 | 70=>277 | 76=>281 | 77=>282 | n=>n,fun | n=>n⟩
theorem sortZn:Go.Proofs.SlLaysF0.n6 Tryz.prog sortZn_ren:={
 mixed:=by kernel_rfl
 f6:=⟨Tryz.f211.name,by decide,Tryz.func211.trans (congrArg some (by kernel_rfl))⟩
 f14:=⟨Tryz.f226.name,by decide,Tryz.func226.trans (congrArg some (by kernel_rfl))⟩
 f15:=Tryz.func227.trans (congrArg some (by kernel_rfl))
 f20:=⟨Tryz.f230.name,by decide,Tryz.func230.trans (congrArg some (by kernel_rfl))⟩
 f21:=⟨Tryz.f231.name,by decide,Tryz.func231.trans (congrArg some (by kernel_rfl))⟩
 f22:=⟨Tryz.f232.name,by decide,Tryz.func232.trans (congrArg some (by kernel_rfl))⟩
 f23:=⟨Tryz.f233.name,by decide,Tryz.func233.trans (congrArg some (by kernel_rfl))⟩
 f24:=⟨Tryz.f234.name,by decide,Tryz.func234.trans (congrArg some (by kernel_rfl))⟩
 f25:=⟨Tryz.f235.name,by decide,Tryz.func235.trans (congrArg some (by kernel_rfl))⟩
 f26:=⟨Tryz.f236.name,by decide,Tryz.func236.trans (congrArg some (by kernel_rfl))⟩
 f27:=⟨Tryz.f237.name,by decide,Tryz.func237.trans (congrArg some (by kernel_rfl))⟩
 f28:=Tryz.func238.trans (congrArg some (by kernel_rfl))
 f29:=Tryz.func239.trans (congrArg some (by kernel_rfl))
 f46:=⟨Tryz.f249.name,by decide,Tryz.func249.trans (congrArg some (by kernel_rfl))⟩
 f47:=Tryz.func250.trans (congrArg some (by kernel_rfl))
 f48:=Tryz.func251.trans (congrArg some (by kernel_rfl))
 f49:=⟨Tryz.f252.name,by decide,Tryz.func252.trans (congrArg some (by kernel_rfl))⟩
 f50:=⟨Tryz.f253.name,by decide,Tryz.func253.trans (congrArg some (by kernel_rfl))⟩
 f57:=⟨Tryz.f257.name,by decide,Tryz.func257.trans (congrArg some (by kernel_rfl))⟩
 t0:=Tryz.underlying0
 a0:=Tryz.isAgg0
 z0:=Tryz.sizeOf0
 v0:=Tryz.zeroValue0
 t3:=Tryz.underlying3
 a3:=Tryz.isAgg3
 z3:=Tryz.sizeOf3
 v3:=Tryz.zeroValue3
 t4:=Tryz.underlying4
 a4:=Tryz.isAgg4
 z4:=Tryz.sizeOf4
 v4:=Tryz.zeroValue4
 t5:=Tryz.underlying5
 a5:=Tryz.isAgg5
 z5:=Tryz.sizeOf5
 v5:=Tryz.zeroValue5
 t9:=Tryz.underlying9
 a9:=Tryz.isAgg9
 z9:=Tryz.sizeOf9
 v9:=Tryz.zeroValue9
 t22:=Tryz.underlying32
 a22:=Tryz.isAgg32
 z22:=Tryz.sizeOf32
 v22:=Tryz.zeroValue32
 t25:=Tryz.underlying240
 a25:=Tryz.isAgg240
 z25:=Tryz.sizeOf240
 v25:=Tryz.zeroValue240
 t39:=Tryz.underlying186
 a39:=Tryz.isAgg186
 z39:=Tryz.sizeOf186
 v39:=Tryz.zeroValue186
 t45:=Tryz.underlying259
 a45:=Tryz.isAgg259
 z45:=Tryz.sizeOf259
 v45:=Tryz.zeroValue259
 t46:=Tryz.underlying260
 a46:=Tryz.isAgg260
 z46:=Tryz.sizeOf260
 v46:=Tryz.zeroValue260
 t50:=Tryz.underlying111
 a50:=Tryz.isAgg111
 z50:=Tryz.sizeOf111
 v50:=Tryz.zeroValue111
 t53:=Tryz.underlying266
 a53:=Tryz.isAgg266
 z53:=Tryz.sizeOf266
 v53:=Tryz.zeroValue266
 t55:=Tryz.underlying201
 a55:=Tryz.isAgg201
 z55:=Tryz.sizeOf201
 v55:=Tryz.zeroValue201
 t66:=Tryz.underlying273
 a66:=Tryz.isAgg273
 z66:=Tryz.sizeOf273
 v66:=Tryz.zeroValue273
 t70:=Tryz.underlying277
 a70:=Tryz.isAgg277
 z70:=Tryz.sizeOf277
 v70:=Tryz.zeroValue277
 t76:=Tryz.underlying281
 a76:=Tryz.isAgg281
 z76:=Tryz.sizeOf281
 v76:=Tryz.zeroValue281
 t77:=Tryz.underlying282
 a77:=Tryz.isAgg282
 z77:=Tryz.sizeOf282
 v77:=Tryz.zeroValue282 }
end Go.Proofs.YtmbeahbgafkjfaaGreatDoor
