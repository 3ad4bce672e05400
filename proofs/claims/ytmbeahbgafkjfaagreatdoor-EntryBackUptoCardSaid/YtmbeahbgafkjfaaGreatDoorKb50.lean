/- Lemmas for the claim, layer 50. -/
import Derived.Test.YtmbeahbgafkjfaaGreatDoorKb49
set_option maxRecDepth 100000
set_option maxHeartbeats 16000000
namespace Go.Proofs.YtmbeahbgafkjfaaGreatDoor
open Go.RowKit
theorem entryBack_00 (x:Ent) (u:EV) (L:List (ZV×Zn)) (M:List (BV×Wq.Bd)) (S:List (SV×Sb)) (A:Option Addr) (nb cb:Nat) (bs:List UInt8) (w:World) (hT:Tab w) (hE:EntRd w w.heap.size u x L M S) (hc:Wq.EntC x)
  (hs1:u.nv.n1+u.nv.n2+u.nv.n3+u.nv.n4≤9223372036854775807) (hs2:x.view.known.length+x.view.zones.length+x.view.held.length+x.view.bods.length≤9223372036854775807) (hl:bs.length=nb) (hR:Rd w w.heap.size 1 A nb cb (bv bs)) (hn:nb≤1048576)
  (hf:entF x=false) (hd:Wq.decE bs=none):
  Calls Tryz.prog 6 #[.agg (eval x u),.slice A nb cb] w fun e w'=>e=.returned (.bool true)∧Below w.heap.size w w':=by
 obtain⟨i0,hi0,hz0,hz1,hz2⟩:=info_parts u8_info
 have GA:=Hz_ fun (W:World) (hb:Below w.heap.size w W)=>aliveEn_any W (hT.below hb)
 have GF:=fun (W:World) (hb:Below w.heap.size w W)=>entFormed_any u x L M S W (hT.below hb) (hE.go hb) hc.b hs1 hs2
 have GQ:=fun (W:World) (hb:Below w.heap.size w W)=>decode_any A nb cb bs W (hT.below hb) hl (hR.go hb) (by omega)
 have GS:=Hz_ fun (W:World) (D:Option Addr) (d:Nat) (hb:Below w.heap.size w W) (h1:Rd W W.heap.size 1 D nb d (bv bs))=>(sameB_any D A nb d nb cb W.heap.size W.heap.size bs bs W h1 (hR.go hb)).mono fun e W' (h:e=.returned (.bool (bs == bs))∧W=W')=>(show e=.returned (.bool true)∧W=W' from ⟨by rw[h.1,beq_self_eq_true],h.2⟩)
 have GZ:=Hz_ fun (W:World) (hb:Below w.heap.size w W)=>xz0_f W (hT.below hb)
 have GB:=Hz_ fun (W:World) (hb:Below w.heap.size w W)=>(GQ W hb).mono fun e W' h=>DecE.none_ hd h
 have GE:=fun (W:World) (hb:Below w.heap.size w W)=>entEncode_no u x L M S W (hT.below hb) (hE.go hb) hc.b hs1 hs2 hf
 rw[hf] at GF
 have HI:=(show (Tryz.prog.info? 38).map (·.size)=some (eval x u).size from by kernel_rfl)
 have HIZ:=Hz_ (show (Tryz.prog.info? 38).map (·.size)=some entZ.size from by kernel_rfl)
 obtain⟨E,hEq⟩:∃E,E=eval x u:=⟨_,rfl⟩
 rw[←hEq] at GE GF HI ⊢
 clear hEq GQ hd hf hT hE hc hl hR hs1 hs2
 have HI:=Hz_ HI
 have GE:=Hz_ GE
 have GF:=Hz_ GF
 have hb0:Below w.heap.size w (w.alloc (.cells E 38)):=(Below.refl _ _).alloc (Nat.le_refl _) _
 have HX0:=Blk.new w 38 E
 obtain⟨W0,hW0⟩:∃W0,W0=w.alloc (.cells E 38):=⟨_,rfl⟩
 rw[←hW0] at hb0 HX0
 have HW:=Hz_ hW0.symm
 have HB:=Hz_ hb0
 have HX:=Hz_ fun W (hb:Below W0.heap.size W0 W)=>HX0.go hb
 clear hb0 HX0 hW0
 go_enter Tryz.func6,Tryz.ntmps6
 go_wp2_with fail
 rw[HW.out]
 refine(GA.out _ HB.out).mono ?_
 rintro e w1 ⟨rfl,hb1⟩
 have d1:=btn HB.out hb1
 have HK:=Hz_ (HX.out _ hb1)
 go_wp2_with (refine wpList_load_row rfl 38 _ rfl w.heap.size rfl 38 _ _ _ HK.out Tryz.underlying38 rfl HI.out ?_)
 refine(GE.out _ d1).mono ?_
 rintro e w2 ⟨rfl,hb2⟩
 have z2:=btn hb1 hb2
 have d2:=btn d1 hb2
 clear HK
 have HK:=Hz_ (HX.out _ z2)
 go_wp2_with (refine wpList_load_row rfl 38 _ rfl w.heap.size rfl 38 _ _ _ HK.out Tryz.underlying38 rfl HI.out ?_)
 refine(GF.out _ d2).mono ?_
 rintro e w3 ⟨rfl,hb3⟩
 have z3:=btn z2 hb3
 have d3:=btn d2 hb3
 clear HK
 go_wp2_with fail
 refine(GB.out _ d3).mono ?_
 rintro e w10 ⟨rfl,hb10⟩
 go_wp2_with (first | (refine wpList_store_blk rfl 38 _ _ rfl w10.heap.size 38 _ entZ rfl rfl (Blk.new w10 38 _) HIZ.out rfl entZ_one ?_;intro v10 hp10 hg10;have hk10:=below_stored hg10;have HP3:=Hz_ hp10;clear hg10 hp10) | (refine wpList_load_row rfl 38 _ rfl w10.heap.size rfl 38 _ _ _ HP3.out Tryz.underlying38 rfl HIZ.out ?_))
 have d10:=btn d3 (btn hb10 hk10)
 refine(GZ.out _ d10).mono ?_
 rintro e w11 ⟨rfl,hb11⟩
 have d11:=btn d10 hb11
 go_wp2
 go_ret
 exact⟨rfl,d11⟩
theorem entryBack_01 (x:Ent) (u:EV) (L:List (ZV×Zn)) (M:List (BV×Wq.Bd)) (S:List (SV×Sb)) (A:Option Addr) (nb cb:Nat) (bs:List UInt8) (w:World) (hT:Tab w) (hE:EntRd w w.heap.size u x L M S) (hc:Wq.EntC x)
  (hs1:u.nv.n1+u.nv.n2+u.nv.n3+u.nv.n4≤9223372036854775807) (hs2:x.view.known.length+x.view.zones.length+x.view.held.length+x.view.bods.length≤9223372036854775807) (hl:bs.length=nb) (hR:Rd w w.heap.size 1 A nb cb (bv bs)) (hn:nb≤1048576)
  (hf:entF x=false) (x1:Ent) (hd:Wq.decE bs=some x1):
  Calls Tryz.prog 6 #[.agg (eval x u),.slice A nb cb] w fun e w'=>e=.returned (.bool true)∧Below w.heap.size w w':=by
 obtain⟨i0,hi0,hz0,hz1,hz2⟩:=info_parts u8_info
 have GA:=Hz_ fun (W:World) (hb:Below w.heap.size w W)=>aliveEn_any W (hT.below hb)
 have GF:=fun (W:World) (hb:Below w.heap.size w W)=>entFormed_any u x L M S W (hT.below hb) (hE.go hb) hc.b hs1 hs2
 have GQ:=fun (W:World) (hb:Below w.heap.size w W)=>decode_any A nb cb bs W (hT.below hb) hl (hR.go hb) (by omega)
 have GS:=Hz_ fun (W:World) (D:Option Addr) (d:Nat) (hb:Below w.heap.size w W) (h1:Rd W W.heap.size 1 D nb d (bv bs))=>(sameB_any D A nb d nb cb W.heap.size W.heap.size bs bs W h1 (hR.go hb)).mono fun e W' (h:e=.returned (.bool (bs == bs))∧W=W')=>(show e=.returned (.bool true)∧W=W' from ⟨by rw[h.1,beq_self_eq_true],h.2⟩)
 have GZ:=Hz_ fun (W:World) (hb:Below w.heap.size w W)=>xz0_f W (hT.below hb)
 have GB:=Hz_ fun (W:World) (hb:Below w.heap.size w W)=>(GQ W hb).mono fun e W' h=>DecE.is_ hd h
 have GP:=Hz_ fun (W:World) (hb:Below w.heap.size w W)=>isE_back hl (by omega) hd W (hT.below hb)
 have GE:=fun (W:World) (hb:Below w.heap.size w W)=>entEncode_no u x L M S W (hT.below hb) (hE.go hb) hc.b hs1 hs2 hf
 rw[hf] at GF
 have HI:=(show (Tryz.prog.info? 38).map (·.size)=some (eval x u).size from by kernel_rfl)
 have HIZ:=Hz_ (show (Tryz.prog.info? 38).map (·.size)=some entZ.size from by kernel_rfl)
 obtain⟨E,hEq⟩:∃E,E=eval x u:=⟨_,rfl⟩
 rw[←hEq] at GE GF HI ⊢
 clear hEq GQ hd hf hT hE hc hl hR hs1 hs2
 have HI:=Hz_ HI
 have GE:=Hz_ GE
 have GF:=Hz_ GF
 have hb0:Below w.heap.size w (w.alloc (.cells E 38)):=(Below.refl _ _).alloc (Nat.le_refl _) _
 have HX0:=Blk.new w 38 E
 obtain⟨W0,hW0⟩:∃W0,W0=w.alloc (.cells E 38):=⟨_,rfl⟩
 rw[←hW0] at hb0 HX0
 have HW:=Hz_ hW0.symm
 have HB:=Hz_ hb0
 have HX:=Hz_ fun W (hb:Below W0.heap.size W0 W)=>HX0.go hb
 clear hb0 HX0 hW0
 go_enter Tryz.func6,Tryz.ntmps6
 go_wp2_with fail
 rw[HW.out]
 refine(GA.out _ HB.out).mono ?_
 rintro e w1 ⟨rfl,hb1⟩
 have d1:=btn HB.out hb1
 have HK:=Hz_ (HX.out _ hb1)
 go_wp2_with (refine wpList_load_row rfl 38 _ rfl w.heap.size rfl 38 _ _ _ HK.out Tryz.underlying38 rfl HI.out ?_)
 refine(GE.out _ d1).mono ?_
 rintro e w2 ⟨rfl,hb2⟩
 have z2:=btn hb1 hb2
 have d2:=btn d1 hb2
 clear HK
 have HK:=Hz_ (HX.out _ z2)
 go_wp2_with (refine wpList_load_row rfl 38 _ rfl w.heap.size rfl 38 _ _ _ HK.out Tryz.underlying38 rfl HI.out ?_)
 refine(GF.out _ d2).mono ?_
 rintro e w3 ⟨rfl,hb3⟩
 have z3:=btn z2 hb3
 have d3:=btn d2 hb3
 clear HK
 go_wp2_with fail
 refine(GB.out _ d3).mono ?_
 rintro e w10 ⟨E3,rfl,hM3,hb10⟩
 have HI3:=Hz_ hM3.info
 have HS3:=Hz_ hM3.size
 have HO3:=Hz_ hM3.one
 go_wp2_with (first | (refine wpList_store_blk rfl 38 _ _ rfl w10.heap.size 38 _ E3 rfl rfl (Blk.new w10 38 _) HI3.out HS3.out HO3.out ?_;intro v10 hp10 hg10;have hk10:=below_stored hg10;have HP3:=Hz_ hp10;clear hg10 hp10) | (refine wpList_load_row rfl 38 _ rfl w10.heap.size rfl 38 _ _ _ HP3.out Tryz.underlying38 rfl HI3.out ?_))
 have d10:=btn d3 (btn hb10 hk10)
 refine(GP.out _ d10 E3 (hM3.go hk10)).mono ?_
 rintro e w11 ⟨D11,c11,rfl,ho11,hb11⟩
 have d11:=btn d10 hb11
 go_wp2_with fail
 refine(GS.out _ _ _ d11 (Rd.of_own ho11)).mono ?_
 rintro e w12 ⟨rfl,rfl⟩
 go_wp2
 go_ret
 exact⟨rfl,d11⟩
theorem entryBack_10 (x:Ent) (u:EV) (L:List (ZV×Zn)) (M:List (BV×Wq.Bd)) (S:List (SV×Sb)) (A:Option Addr) (nb cb:Nat) (bs:List UInt8) (w:World) (hT:Tab w) (hE:EntRd w w.heap.size u x L M S) (hc:Wq.EntC x)
  (hs1:u.nv.n1+u.nv.n2+u.nv.n3+u.nv.n4≤9223372036854775807) (hs2:x.view.known.length+x.view.zones.length+x.view.held.length+x.view.bods.length≤9223372036854775807) (hl:bs.length=nb) (hR:Rd w w.heap.size 1 A nb cb (bv bs)) (hn:nb≤1048576)
  (hf:entF x=true) (hd:Wq.decE bs=none):
  Calls Tryz.prog 6 #[.agg (eval x u),.slice A nb cb] w fun e w'=>e=.returned (.bool true)∧Below w.heap.size w w':=by
 obtain⟨i0,hi0,hz0,hz1,hz2⟩:=info_parts u8_info
 have GA:=Hz_ fun (W:World) (hb:Below w.heap.size w W)=>aliveEn_any W (hT.below hb)
 have GF:=fun (W:World) (hb:Below w.heap.size w W)=>entFormed_any u x L M S W (hT.below hb) (hE.go hb) hc.b hs1 hs2
 have GQ:=fun (W:World) (hb:Below w.heap.size w W)=>decode_any A nb cb bs W (hT.below hb) hl (hR.go hb) (by omega)
 have GS:=Hz_ fun (W:World) (D:Option Addr) (d:Nat) (hb:Below w.heap.size w W) (h1:Rd W W.heap.size 1 D nb d (bv bs))=>(sameB_any D A nb d nb cb W.heap.size W.heap.size bs bs W h1 (hR.go hb)).mono fun e W' (h:e=.returned (.bool (bs == bs))∧W=W')=>(show e=.returned (.bool true)∧W=W' from ⟨by rw[h.1,beq_self_eq_true],h.2⟩)
 have GZ:=Hz_ fun (W:World) (hb:Below w.heap.size w W)=>xz0_f W (hT.below hb)
 have GB:=Hz_ fun (W:World) (hb:Below w.heap.size w W)=>(GQ W hb).mono fun e W' h=>DecE.none_ hd h
 have hel:=Wq.lEnt_len hf hc
 have hde:=Wq.decE_enc hf hc
 have hdm:=Wq.decE_plus hf hc (t:=[1]) (by simp)
 have GE:=fun (W:World) (hb:Below w.heap.size w W)=>entEncode_any u x L M S W (hT.below hb) (hE.go hb) hc hs1 hs2 hf
 unfold BytesAre at GE
 obtain⟨xs,hxs⟩:∃y,y=lEnt x:=⟨_,rfl⟩
 rw[←hxs] at GE hel hde hdm
 have GX:=Hz_ fun (W:World) (hb:Below w.heap.size w W) (D:Option Addr) (d:Nat) (h:Rd W W.heap.size 1 D xs.length d (bv xs))=>(decode_any D xs.length d xs W (hT.below hb) rfl h (by omega)).mono fun e W' h=>DecE.is_ hde h
 have GY:=fun (W:World) (hb:Below w.heap.size w W) (D:Option Addr) (d:Nat) (h:Rd W W.heap.size 1 D (xs++[1]).length d (bv (xs++[1])))=>(decode_any D (xs++[1]).length d (xs++[1]) W (hT.below hb) rfl h (by rw[List.length_append,List.length_singleton];omega)).mono fun e W' h=>DecE.none_ hdm h
 obtain⟨ys,hys⟩:∃y,y=xs++[(1:UInt8)]:=⟨_,rfl⟩
 have hyl:ys.length=xs.length+1:=by rw[hys];simp
 rw[←hys,hyl] at GY
 have HYS:=Hz_ hys
 have GC:=Hz_ fun (W:World) (D:Option Addr) (d:Nat) (h:Rd W W.heap.size 1 D xs.length d (bv xs))=>copy_any D xs.length d (bv xs) W h (bv_oneCell xs) (by omega)
 have GM:=fun (W:World) (hb:Below w.heap.size w W)=>isE_same W (hE.go hb)
 rw[hf] at GF
 have h63:xs.length+1≤maxLen:=by unfold maxLen;omega
 have h1max:1≤maxLen:=by unfold maxLen;omega
 clear hde hdm hxs hys hyl
 have HI:=(show (Tryz.prog.info? 38).map (·.size)=some (eval x u).size from by kernel_rfl)
 have HIZ:=Hz_ (show (Tryz.prog.info? 38).map (·.size)=some entZ.size from by kernel_rfl)
 obtain⟨E,hEq⟩:∃E,E=eval x u:=⟨_,rfl⟩
 rw[←hEq] at GE GF GM HI ⊢
 clear hEq GQ hd hf hT hE hc hl hR hs1 hs2
 have HI:=Hz_ HI
 have GE:=Hz_ GE
 have GF:=Hz_ GF
 have GM:=Hz_ GM
 have GY:=Hz_ GY
 generalize xs.length=xn at *
 have hb0:Below w.heap.size w (w.alloc (.cells E 38)):=(Below.refl _ _).alloc (Nat.le_refl _) _
 have HX0:=Blk.new w 38 E
 obtain⟨W0,hW0⟩:∃W0,W0=w.alloc (.cells E 38):=⟨_,rfl⟩
 rw[←hW0] at hb0 HX0
 have HW:=Hz_ hW0.symm
 have HB:=Hz_ hb0
 have HX:=Hz_ fun W (hb:Below W0.heap.size W0 W)=>HX0.go hb
 clear hb0 HX0 hW0
 go_enter Tryz.func6,Tryz.ntmps6
 go_wp2_with fail
 rw[HW.out]
 refine(GA.out _ HB.out).mono ?_
 rintro e w1 ⟨rfl,hb1⟩
 have d1:=btn HB.out hb1
 have HK:=Hz_ (HX.out _ hb1)
 go_wp2_with (refine wpList_load_row rfl 38 _ rfl w.heap.size rfl 38 _ _ _ HK.out Tryz.underlying38 rfl HI.out ?_)
 refine(GE.out _ d1).mono ?_
 rintro e w2 ⟨_,rfl,D2,c2,rfl,ho2,hb2⟩
 have z2:=btn hb1 hb2
 have d2:=btn d1 hb2
 clear HK
 have HK:=Hz_ (HX.out _ z2)
 go_wp2_with (refine wpList_load_row rfl 38 _ rfl w.heap.size rfl 38 _ _ _ HK.out Tryz.underlying38 rfl HI.out ?_)
 refine(GF.out _ d2).mono ?_
 rintro e w3 ⟨rfl,hb3⟩
 have z3:=btn z2 hb3
 have d3:=btn d2 hb3
 clear HK
 have h2:=(Rd.of_own ho2).go hb3
 go_wp2_with fail
 refine(GX.out _ d3 _ _ h2).mono ?_
 rintro e w4 ⟨E1,rfl,hM1,hb4⟩
 have HI1:=Hz_ hM1.info
 have HS1:=Hz_ hM1.size
 have HO1:=Hz_ hM1.one
 go_wp2_with (refine wpList_store_blk rfl 38 _ _ rfl w4.heap.size 38 _ E1 rfl rfl (Blk.new w4 38 _) HI1.out HS1.out HO1.out ?_;intro v4 HP1 hg4;have hk4:=below_stored hg4;have hl4:=HP1.lt;clear hg4)
 have hM1:=hM1.go hk4
 have k4:=btn hb4 hk4
 have d4:=btn d3 k4
 have z4:=btn z3 k4
 have h2:=h2.go k4
 refine(GC.out _ _ _ h2).mono ?_
 rintro e w5 ⟨D5,c5,rfl,ho5,hb5⟩
 have d5:=btn d4 hb5
 have z5:=btn z4 hb5
 have HP1:=HP1.go hb5
 have hM1:=hM1.below hb5
 have hs5:=hb5.size
 obtain⟨B5,hB5⟩:∃y,y=v4.heap.size:=⟨_,rfl⟩
 rw[←hB5] at ho5 hs5 hM1
 go_wp2_with (first
  | (at_builtin;go_must (refine wpList_append_rd _ rfl (.tmp 36) (.tmp 37) _ rfl B5 5 i0 _ 1 1 Tryz.underlying29 hi0 hz0 hz1 hz2 rfl (by decide) _ xn (bv xs) rfl (ho5.alloc _) _ (some ⟨w5.heap.size,0,none⟩) 1 1 (bv [1]) rfl (by have:=Rd.new w5 5 1 1 #[.int .u8 1] rfl h1max;simpa[bv] using this) (bv_oneCell _) h63 (by omega) (by simp;omega) ?_);intro A6 c6 w6 ho6 hg6 hat6)
  | fail)
 have kA:Below w5.heap.size w5 (w5.alloc (.cells #[.int .u8 1] 5)):=(Below.refl _ _).alloc (Nat.le_refl _) _
 have kg:=grown_below hg6 (show B5≤_ from by simp;omega) (fun j hj=>own_lt ho5 j hj)
 have k6:Below B5 w5 w6:=(kA.mono hs5).trans kg
 have hXB:w4.heap.size < B5:=by rw[hB5];exact hl4
 have d6:Below w.heap.size w w6:=d5.trans (k6.mono (by rw[hB5];exact d4.size))
 have z6:Below W0.heap.size W0 w6:=z5.trans (k6.mono (by rw[hB5];exact z4.size))
 have HP1:=HP1.below k6 hXB
 refine(GY.out _ d6 _ _ (by have h:=Rd.of_own ho6;rw[←bv_app,←HYS.out] at h;exact h)).mono ?_
 rintro e w7 ⟨rfl,hb7⟩
 have hM1:=(hM1.below k6).more (Nat.le_trans hs5 k6.size)
 go_wp2_with (first | (refine wpList_store_blk rfl 38 _ _ rfl w7.heap.size 38 _ entZ rfl rfl (Blk.new w7 38 _) HIZ.out rfl entZ_one ?_;intro v7 hp7 hg7;have k7:=btn hb7 (below_stored hg7);clear hg7 hp7;have d7:=btn d6 k7;have HP:=Hz_ (HP1.go k7);have HK:=Hz_ (HX.out _ (btn z6 k7));have hM1:=hM1.go k7) | (refine wpList_load_rowg (by exact rfl) 38 _ rfl w.heap.size rfl 38 _ _ HK.out Tryz.underlying38 rfl HI.out ?_) | (refine wpList_load_rowg (by exact rfl) 38 _ rfl w4.heap.size rfl 38 _ _ HP.out Tryz.underlying38 rfl HI1.out ?_))
 refine(GM.out _ d7 E1 hM1).mono ?_
 rintro e w9 ⟨rfl,hb9⟩
 have d3:=btn d7 hb9
 clear HK HP
 go_wp2_with fail
 refine(GB.out _ d3).mono ?_
 rintro e w10 ⟨rfl,hb10⟩
 go_wp2_with (first | (refine wpList_store_blk rfl 38 _ _ rfl w10.heap.size 38 _ entZ rfl rfl (Blk.new w10 38 _) HIZ.out rfl entZ_one ?_;intro v10 hp10 hg10;have hk10:=below_stored hg10;have HP3:=Hz_ hp10;clear hg10 hp10) | (refine wpList_load_row rfl 38 _ rfl w10.heap.size rfl 38 _ _ _ HP3.out Tryz.underlying38 rfl HIZ.out ?_))
 have d10:=btn d3 (btn hb10 hk10)
 refine(GZ.out _ d10).mono ?_
 rintro e w11 ⟨rfl,hb11⟩
 have d11:=btn d10 hb11
 go_wp2
 go_ret
 exact⟨rfl,d11⟩
theorem entryBack_11 (x:Ent) (u:EV) (L:List (ZV×Zn)) (M:List (BV×Wq.Bd)) (S:List (SV×Sb)) (A:Option Addr) (nb cb:Nat) (bs:List UInt8) (w:World) (hT:Tab w) (hE:EntRd w w.heap.size u x L M S) (hc:Wq.EntC x)
  (hs1:u.nv.n1+u.nv.n2+u.nv.n3+u.nv.n4≤9223372036854775807) (hs2:x.view.known.length+x.view.zones.length+x.view.held.length+x.view.bods.length≤9223372036854775807) (hl:bs.length=nb) (hR:Rd w w.heap.size 1 A nb cb (bv bs)) (hn:nb≤1048576)
  (hf:entF x=true) (x1:Ent) (hd:Wq.decE bs=some x1):
  Calls Tryz.prog 6 #[.agg (eval x u),.slice A nb cb] w fun e w'=>e=.returned (.bool true)∧Below w.heap.size w w':=by
 obtain⟨i0,hi0,hz0,hz1,hz2⟩:=info_parts u8_info
 have GA:=Hz_ fun (W:World) (hb:Below w.heap.size w W)=>aliveEn_any W (hT.below hb)
 have GF:=fun (W:World) (hb:Below w.heap.size w W)=>entFormed_any u x L M S W (hT.below hb) (hE.go hb) hc.b hs1 hs2
 have GQ:=fun (W:World) (hb:Below w.heap.size w W)=>decode_any A nb cb bs W (hT.below hb) hl (hR.go hb) (by omega)
 have GS:=Hz_ fun (W:World) (D:Option Addr) (d:Nat) (hb:Below w.heap.size w W) (h1:Rd W W.heap.size 1 D nb d (bv bs))=>(sameB_any D A nb d nb cb W.heap.size W.heap.size bs bs W h1 (hR.go hb)).mono fun e W' (h:e=.returned (.bool (bs == bs))∧W=W')=>(show e=.returned (.bool true)∧W=W' from ⟨by rw[h.1,beq_self_eq_true],h.2⟩)
 have GZ:=Hz_ fun (W:World) (hb:Below w.heap.size w W)=>xz0_f W (hT.below hb)
 have GB:=Hz_ fun (W:World) (hb:Below w.heap.size w W)=>(GQ W hb).mono fun e W' h=>DecE.is_ hd h
 have GP:=Hz_ fun (W:World) (hb:Below w.heap.size w W)=>isE_back hl (by omega) hd W (hT.below hb)
 have hel:=Wq.lEnt_len hf hc
 have hde:=Wq.decE_enc hf hc
 have hdm:=Wq.decE_plus hf hc (t:=[1]) (by simp)
 have GE:=fun (W:World) (hb:Below w.heap.size w W)=>entEncode_any u x L M S W (hT.below hb) (hE.go hb) hc hs1 hs2 hf
 unfold BytesAre at GE
 obtain⟨xs,hxs⟩:∃y,y=lEnt x:=⟨_,rfl⟩
 rw[←hxs] at GE hel hde hdm
 have GX:=Hz_ fun (W:World) (hb:Below w.heap.size w W) (D:Option Addr) (d:Nat) (h:Rd W W.heap.size 1 D xs.length d (bv xs))=>(decode_any D xs.length d xs W (hT.below hb) rfl h (by omega)).mono fun e W' h=>DecE.is_ hde h
 have GY:=fun (W:World) (hb:Below w.heap.size w W) (D:Option Addr) (d:Nat) (h:Rd W W.heap.size 1 D (xs++[1]).length d (bv (xs++[1])))=>(decode_any D (xs++[1]).length d (xs++[1]) W (hT.below hb) rfl h (by rw[List.length_append,List.length_singleton];omega)).mono fun e W' h=>DecE.none_ hdm h
 obtain⟨ys,hys⟩:∃y,y=xs++[(1:UInt8)]:=⟨_,rfl⟩
 have hyl:ys.length=xs.length+1:=by rw[hys];simp
 rw[←hys,hyl] at GY
 have HYS:=Hz_ hys
 have GC:=Hz_ fun (W:World) (D:Option Addr) (d:Nat) (h:Rd W W.heap.size 1 D xs.length d (bv xs))=>copy_any D xs.length d (bv xs) W h (bv_oneCell xs) (by omega)
 have GM:=fun (W:World) (hb:Below w.heap.size w W)=>isE_same W (hE.go hb)
 rw[hf] at GF
 have h63:xs.length+1≤maxLen:=by unfold maxLen;omega
 have h1max:1≤maxLen:=by unfold maxLen;omega
 clear hde hdm hxs hys hyl
 have HI:=(show (Tryz.prog.info? 38).map (·.size)=some (eval x u).size from by kernel_rfl)
 have HIZ:=Hz_ (show (Tryz.prog.info? 38).map (·.size)=some entZ.size from by kernel_rfl)
 obtain⟨E,hEq⟩:∃E,E=eval x u:=⟨_,rfl⟩
 rw[←hEq] at GE GF GM HI ⊢
 clear hEq GQ hd hf hT hE hc hl hR hs1 hs2
 have HI:=Hz_ HI
 have GE:=Hz_ GE
 have GF:=Hz_ GF
 have GM:=Hz_ GM
 have GY:=Hz_ GY
 generalize xs.length=xn at *
 have hb0:Below w.heap.size w (w.alloc (.cells E 38)):=(Below.refl _ _).alloc (Nat.le_refl _) _
 have HX0:=Blk.new w 38 E
 obtain⟨W0,hW0⟩:∃W0,W0=w.alloc (.cells E 38):=⟨_,rfl⟩
 rw[←hW0] at hb0 HX0
 have HW:=Hz_ hW0.symm
 have HB:=Hz_ hb0
 have HX:=Hz_ fun W (hb:Below W0.heap.size W0 W)=>HX0.go hb
 clear hb0 HX0 hW0
 go_enter Tryz.func6,Tryz.ntmps6
 go_wp2_with fail
 rw[HW.out]
 refine(GA.out _ HB.out).mono ?_
 rintro e w1 ⟨rfl,hb1⟩
 have d1:=btn HB.out hb1
 have HK:=Hz_ (HX.out _ hb1)
 go_wp2_with (refine wpList_load_row rfl 38 _ rfl w.heap.size rfl 38 _ _ _ HK.out Tryz.underlying38 rfl HI.out ?_)
 refine(GE.out _ d1).mono ?_
 rintro e w2 ⟨_,rfl,D2,c2,rfl,ho2,hb2⟩
 have z2:=btn hb1 hb2
 have d2:=btn d1 hb2
 clear HK
 have HK:=Hz_ (HX.out _ z2)
 go_wp2_with (refine wpList_load_row rfl 38 _ rfl w.heap.size rfl 38 _ _ _ HK.out Tryz.underlying38 rfl HI.out ?_)
 refine(GF.out _ d2).mono ?_
 rintro e w3 ⟨rfl,hb3⟩
 have z3:=btn z2 hb3
 have d3:=btn d2 hb3
 clear HK
 have h2:=(Rd.of_own ho2).go hb3
 go_wp2_with fail
 refine(GX.out _ d3 _ _ h2).mono ?_
 rintro e w4 ⟨E1,rfl,hM1,hb4⟩
 have HI1:=Hz_ hM1.info
 have HS1:=Hz_ hM1.size
 have HO1:=Hz_ hM1.one
 go_wp2_with (refine wpList_store_blk rfl 38 _ _ rfl w4.heap.size 38 _ E1 rfl rfl (Blk.new w4 38 _) HI1.out HS1.out HO1.out ?_;intro v4 HP1 hg4;have hk4:=below_stored hg4;have hl4:=HP1.lt;clear hg4)
 have hM1:=hM1.go hk4
 have k4:=btn hb4 hk4
 have d4:=btn d3 k4
 have z4:=btn z3 k4
 have h2:=h2.go k4
 refine(GC.out _ _ _ h2).mono ?_
 rintro e w5 ⟨D5,c5,rfl,ho5,hb5⟩
 have d5:=btn d4 hb5
 have z5:=btn z4 hb5
 have HP1:=HP1.go hb5
 have hM1:=hM1.below hb5
 have hs5:=hb5.size
 obtain⟨B5,hB5⟩:∃y,y=v4.heap.size:=⟨_,rfl⟩
 rw[←hB5] at ho5 hs5 hM1
 go_wp2_with (first
  | (at_builtin;go_must (refine wpList_append_rd _ rfl (.tmp 36) (.tmp 37) _ rfl B5 5 i0 _ 1 1 Tryz.underlying29 hi0 hz0 hz1 hz2 rfl (by decide) _ xn (bv xs) rfl (ho5.alloc _) _ (some ⟨w5.heap.size,0,none⟩) 1 1 (bv [1]) rfl (by have:=Rd.new w5 5 1 1 #[.int .u8 1] rfl h1max;simpa[bv] using this) (bv_oneCell _) h63 (by omega) (by simp;omega) ?_);intro A6 c6 w6 ho6 hg6 hat6)
  | fail)
 have kA:Below w5.heap.size w5 (w5.alloc (.cells #[.int .u8 1] 5)):=(Below.refl _ _).alloc (Nat.le_refl _) _
 have kg:=grown_below hg6 (show B5≤_ from by simp;omega) (fun j hj=>own_lt ho5 j hj)
 have k6:Below B5 w5 w6:=(kA.mono hs5).trans kg
 have hXB:w4.heap.size < B5:=by rw[hB5];exact hl4
 have d6:Below w.heap.size w w6:=d5.trans (k6.mono (by rw[hB5];exact d4.size))
 have z6:Below W0.heap.size W0 w6:=z5.trans (k6.mono (by rw[hB5];exact z4.size))
 have HP1:=HP1.below k6 hXB
 refine(GY.out _ d6 _ _ (by have h:=Rd.of_own ho6;rw[←bv_app,←HYS.out] at h;exact h)).mono ?_
 rintro e w7 ⟨rfl,hb7⟩
 have hM1:=(hM1.below k6).more (Nat.le_trans hs5 k6.size)
 go_wp2_with (first | (refine wpList_store_blk rfl 38 _ _ rfl w7.heap.size 38 _ entZ rfl rfl (Blk.new w7 38 _) HIZ.out rfl entZ_one ?_;intro v7 hp7 hg7;have k7:=btn hb7 (below_stored hg7);clear hg7 hp7;have d7:=btn d6 k7;have HP:=Hz_ (HP1.go k7);have HK:=Hz_ (HX.out _ (btn z6 k7));have hM1:=hM1.go k7) | (refine wpList_load_rowg (by exact rfl) 38 _ rfl w.heap.size rfl 38 _ _ HK.out Tryz.underlying38 rfl HI.out ?_) | (refine wpList_load_rowg (by exact rfl) 38 _ rfl w4.heap.size rfl 38 _ _ HP.out Tryz.underlying38 rfl HI1.out ?_))
 refine(GM.out _ d7 E1 hM1).mono ?_
 rintro e w9 ⟨rfl,hb9⟩
 have d3:=btn d7 hb9
 clear HK HP
 go_wp2_with fail
 refine(GB.out _ d3).mono ?_
 rintro e w10 ⟨E3,rfl,hM3,hb10⟩
 have HI3:=Hz_ hM3.info
 have HS3:=Hz_ hM3.size
 have HO3:=Hz_ hM3.one
 go_wp2_with (first | (refine wpList_store_blk rfl 38 _ _ rfl w10.heap.size 38 _ E3 rfl rfl (Blk.new w10 38 _) HI3.out HS3.out HO3.out ?_;intro v10 hp10 hg10;have hk10:=below_stored hg10;have HP3:=Hz_ hp10;clear hg10 hp10) | (refine wpList_load_row rfl 38 _ rfl w10.heap.size rfl 38 _ _ _ HP3.out Tryz.underlying38 rfl HI3.out ?_))
 have d10:=btn d3 (btn hb10 hk10)
 refine(GP.out _ d10 E3 (hM3.go hk10)).mono ?_
 rintro e w11 ⟨D11,c11,rfl,ho11,hb11⟩
 have d11:=btn d10 hb11
 go_wp2_with fail
 refine(GS.out _ _ _ d11 (Rd.of_own ho11)).mono ?_
 rintro e w12 ⟨rfl,rfl⟩
 go_wp2
 go_ret
 exact⟨rfl,d11⟩
theorem entryBack_walk (x:Ent) (u:EV) (L:List (ZV×Zn)) (M:List (BV×Wq.Bd)) (S:List (SV×Sb)) (A:Option Addr) (nb cb:Nat) (bs:List UInt8) (w:World) (hT:Tab w) (hE:EntRd w w.heap.size u x L M S) (hc:Wq.EntC x)
  (hs1:u.nv.n1+u.nv.n2+u.nv.n3+u.nv.n4≤9223372036854775807) (hs2:x.view.known.length+x.view.zones.length+x.view.held.length+x.view.bods.length≤9223372036854775807) (hl:bs.length=nb) (hR:Rd w w.heap.size 1 A nb cb (bv bs)) (hn:nb≤1048576):
  Calls Tryz.prog 6 #[.agg (eval x u),.slice A nb cb] w fun e w'=>e=.returned (.bool true)∧Below w.heap.size w w':=by
 rcases hf:entF x with _ | _
 ·rcases hd:Wq.decE bs with _ | x1
  ·exact entryBack_00 x u L M S A nb cb bs w hT hE hc hs1 hs2 hl hR hn hf hd
  ·exact entryBack_01 x u L M S A nb cb bs w hT hE hc hs1 hs2 hl hR hn hf x1 hd
 ·rcases hd:Wq.decE bs with _ | x1
  ·exact entryBack_10 x u L M S A nb cb bs w hT hE hc hs1 hs2 hl hR hn hf hd
  ·exact entryBack_11 x u L M S A nb cb bs w hT hE hc hs1 hs2 hl hR hn hf x1 hd
theorem own:ownKnob Tryz.prog.godebug=none:=by kernel_rfl
theorem laidOut:laidOutB Tryz.prog=true:=by kernel_rfl
section
variable {H:Type}
theorem one_le (d:DataW H):1≤Rows.uptoBulk d:=by
 cases d with
 | lit l=>cases l<;>simp[Rows.uptoBulk]
 | _=>simp[Rows.uptoBulk]
theorem part_le {d:DataW H} {l:List (DataW H)} (h:d∈l):Rows.uptoBulk d≤Rows.uptoBulkAll l:=by
 induction l with
 | nil=>cases h
 | cons x r ih=>
  simp only[Rows.uptoBulkAll]
  cases List.mem_cons.1 h with
  | inl e=>subst e;omega
  | inr e=>have:=ih e;omega
theorem length_le (l:List (DataW H)):l.length≤Rows.uptoBulkAll l:=by
 induction l with
 | nil=>simp[Rows.uptoBulkAll]
 | cons x r ih=>have:=one_le x;simp only[Rows.uptoBulkAll,List.length_cons];omega
theorem cap_le (d:DataW H):capOf d≤Rows.uptoBulk d:=by
 cases d with
 | slice elems spare=>
  have h1:=length_le elems
  have h2:=length_le spare
  simp only[capOf,Rows.uptoBulk]
  omega
 | _=>simp[capOf]
theorem uptoBound {l:List (DataW H)} (hk:Rows.uptoSmall H l=true):Rows.uptoBulkAll l≤1048576:=of_decide_eq_true hk
end
end Go.Proofs.YtmbeahbgafkjfaaGreatDoor
