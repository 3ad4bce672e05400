/- Lemmas for the claim, layer 36. -/
import Derived.Test.YtmbeahbgafkjfaaGreatDoorKc35
set_option maxRecDepth 100000
set_option linter.unusedSimpArgs false
set_option maxHeartbeats 16000000
namespace Go.Proofs.YtmbeahbgafkjfaaGreatDoor
open Go.RowKit
theorem dropB_none {held:List Wr} {B:List Wq.Bd} {x:Wr} (h:B.findIdx? (fun y=>decide (y.o=x.2.1))=none):dropB held B x=B:=by unfold dropB;rw[h]
theorem dropB_keep {held:List Wr} {B:List Wq.Bd} {x:Wr} {i:Nat} (h:B.findIdx? (fun y=>decide (y.o=x.2.1))=some i) (hi:i < B.length) (hw:wantd held B[i]=true):dropB held B x=B:=by
 unfold dropB;rw[h];simp only[List.getElem?_eq_getElem hi,Option.map_some,Option.getD_some];rw[if_pos hw]
theorem dropB_go {held:List Wr} {B:List Wq.Bd} {x:Wr} {i:Nat} (h:B.findIdx? (fun y=>decide (y.o=x.2.1))=some i) (hi:i < B.length) (hw:wantd held B[i]=false):dropB held B x=B.eraseIdx i:=by
 unfold dropB;rw[h];simp only[List.getElem?_eq_getElem hi,Option.map_some,Option.getD_some];rw[if_neg (by rw[hw];decide)]
theorem dropB_sub (held:List Wr) (B:List Wq.Bd) (x:Wr):∀y∈dropB held B x,y∈B:=by
 intro _ hy;unfold dropB at hy
 split at hy
 ·exact hy
 ·split at hy
  ·exact hy
  ·exact List.mem_of_mem_eraseIdx hy
theorem foldB_sub (held:List Wr):∀(t:List Wr) (B:List Wq.Bd),∀y∈t.foldl (dropB held) B,y∈B
 | [],_,_,h=>h
 | x :: t,B,y,h=>dropB_sub held B x y (foldB_sub held t _ y h)
theorem Rd.off5 {w w':World} {B size n c g:Nat} {A:Option Addr} {xs:List Value} {t:TypeId} (h:Rd w B size A n c xs) (hs:2<=size) (hx:0 < n->∃y,xs[0]?=some (.int .i64 y)) (hB:Blk w g t #[.slice none 0 0,.slice none 0 0,.slice none 0 0,.slice none 0 0,.int .i64 0]) (hb:But g w w'):Rd w' B size A n c xs:=by
 refine⟨h.len,h.cap,h.max,h.nil,fun hn=>?_⟩;obtain⟨b,o,rfl,hlt,hc⟩:=h.plain hn (by omega);have hne:b≠g:=by
  rintro rfl;obtain⟨y,hy⟩:=hx hn;have h0:=hc 0 _ hy;have hl:=h.len;have h1l:1 < xs.length:=by
   have:1 * size<=n * size:=Nat.mul_le_mul_right _ hn;omega
  have h1:=hc 1 _ (List.getElem?_eq_getElem h1l);rw[hB.cell] at h0 h1;rcases o with _ | _ | _ | _ | _ | o
  ·simp at h0
  ·simp at h0
  ·simp at h0
  ·simp at h0
  ·simp at h1
  ·simp at h0
 refine⟨_,rfl,hlt,fun j u hj=>?_⟩;have h2:=hc j u hj;have hblk:=hb.block b (World.block_lt_of_cell? _ _ h2) hne;rw[Addr.add_lit];unfold World.cell? at h2 ⊢;dsimp only at h2 ⊢;rw[hblk];exact h2
theorem RdZ.off5 {w w':World} {B n c g:Nat} {A:Option Addr} {L:List (ZV×Zn)} {t:TypeId} (h:RdZ w B A n c L) (hB:Blk w g t #[.slice none 0 0,.slice none 0 0,.slice none 0 0,.slice none 0 0,.int .i64 0]) (hb:But g w w'):RdZ w' B A n c L:=
 ⟨h.len,h.rd.off5 (by decide) (fun hn=>by
  have hl:=h.len
  match L,hl with
  | [],hl=>simp at hl;omega
  | p :: r,_=>exact⟨_,rfl⟩) hB hb,fun p hp=>⟨(h.each p hp).1,(h.each p hp).2.off5 (by decide) (fun hn=>by
  have hl:=(h.each p hp).1;generalize p.2.2=l at hl
  match l,hl with
  | [],hl=>simp at hl;omega
  | q :: r,_=>exact⟨_,rfl⟩) hB hb⟩⟩
theorem sv_int {l:List Vc.St} (h:0 < l.length):∃y,(sv l)[0]?=some (.int .i64 y):=by
 match l,h with
 | q :: r,_=>exact⟨_,rfl⟩
theorem wv_int {l:List Wr} (h:0 < l.length):∃y,(wv l)[0]?=some (.int .i64 y):=by
 match l,h with
 | q :: r,_=>exact⟨_,rfl⟩
theorem viewTake_any (u:VV) (v:Vw) (L:List (ZV×Zn)) (M:List (BV×Wq.Bd)) (nv:NV) (x:Nt) (w:World) (hT:Tab w) (hV:VwRd w w.heap.size u v L M) (hN:NtRd w w.heap.size nv x) (hbz:∀p∈M,p.2.v.length<=140737488355328):
  Calls Tryz.prog 68 #[.agg (vval v u),.agg nv.val] w (TkV w (takeVE v x) (if takeVE v x=0 then takeV v x else Wq.vw0)):=by
 have hi:(Tryz.prog.info? 35).map (·.size)=some 5:=by kernel_rfl
 have HI:=Hz_ hi;have hp0:=fun (b:Nat) (cs:Array Value) (W:World) (hb:Blk W b 35 cs)=>hb
 -- the three blocks
 have hB0:Blk (((w.alloc (.cells (vval v u) 35)).alloc (.cells nv.val 26)).alloc (.cells (vval Wq.vw0 uv0) 35)) w.heap.size 35 (vval v u):=((Blk.new w _ _).alloc _).alloc _;have hB1:=(Blk.new (w.alloc (.cells (vval v u) 35)) 26 nv.val).alloc (.cells (vval Wq.vw0 uv0) 35);have hB2:=Blk.new ((w.alloc (.cells (vval v u) 35)).alloc (.cells nv.val 26)) 35 (vval Wq.vw0 uv0);have k0:Below w.heap.size w (((w.alloc (.cells (vval v u) 35)).alloc (.cells nv.val 26)).alloc (.cells (vval Wq.vw0 uv0) 35)):=((Zr.alloc Zl _).alloc (by simp) _).alloc (by simp;omega) _;rw[World.size_alloc] at hB1;rw[World.size_alloc,World.size_alloc] at hB2;have hs0:(((w.alloc (.cells (vval v u) 35)).alloc (.cells nv.val 26)).alloc (.cells (vval Wq.vw0 uv0) 35)).heap.size=w.heap.size+1+1+1:=by simp
 obtain⟨W0,hW0⟩:∃W,W=((w.alloc (.cells (vval v u) 35)).alloc (.cells nv.val 26)).alloc (.cells (vval Wq.vw0 uv0) 35):=⟨_,rfl⟩;rw[<-hW0] at hB0 hB1 hB2 k0 hs0;have HW0:=Hz_ hW0.symm;have K0:=Hz_ k0;have HS:=Hz_ hs0;have HB0:=Hz_ (fun (W:World) (hb:Below W0.heap.size W0 W)=>(show Blk W w.heap.size 35 #[.slice u.kA v.known.length u.kc,.slice u.zA v.zones.length u.zc,.slice u.hA v.held.length u.hc,.slice u.bA v.bods.length u.bc,.int .i64 v.room] from hB0.go hb).five);have HB1:=Hz_ (fun (W:World) (hb:Below W0.heap.size W0 W)=>(show Blk W (w.heap.size+1) 26 #[.slice nv.A1 nv.n1 nv.c1,.slice nv.A2 nv.n2 nv.c2,.slice nv.A3 nv.n3 nv.c3,.slice nv.A4 nv.n4 nv.c4] from hB1.go hb).quad);have HB2:=Hz_ (fun (W:World) (hb:Below W0.heap.size W0 W)=>(show Blk W (w.heap.size+1+1) 35 #[.slice none 0 0,.slice none 0 0,.slice none 0 0,.slice none 0 0,.int .i64 0] from hB2.go hb));have G1:=fun (W:World) (hb:Below w.heap.size w W)=>viewFormed_any u v L M W (hT.below hb) (hV.go hb);have G2:=fun (W:World) (hb:Below w.heap.size w W)=>take_any u.zA u.kA v.zones.length u.zc v.known.length u.kc L v.known nv x W (hT.below hb) (hV.z.go hb) rfl (hV.k.go hb) (hN.go hb);rw[hV.nz] at G2;have hvv:vval v u=#[.slice u.kA v.known.length u.kc,.slice u.zA v.zones.length u.zc,.slice u.hA v.held.length u.hc,.slice u.bA v.bods.length u.bc,.int .i64 v.room]:=rfl;have hnv:nv.val=#[.slice nv.A1 nv.n1 nv.c1,.slice nv.A2 nv.n2 nv.c2,.slice nv.A3 nv.n3 nv.c3,.slice nv.A4 nv.n4 nv.c4]:=rfl;have hzv:vval Wq.vw0 uv0=#[.slice none 0 0,.slice none 0 0,.slice none 0 0,.slice none 0 0,.int .i64 0]:=rfl;rw[hvv,hnv,hzv] at HW0;rw[hvv] at G1;rw[hnv] at G2;rw[hvv,hnv];have HV:=Hz_ hV;have HN:=Hz_ hN;have HBZ:=Hz_ hbz;clear hB0 hB1 hB2 k0 hs0 hW0 hvv hnv hzv hi hp0;rcases hv:vwF v with _ | _
 ·have hE:takeVE v x=1:=by unfold takeVE;rw[hv];rfl
  rw[hE,if_neg (by decide)];rw[hv] at G1;have G1:=Hz_ (G1 _ K0.out);clear G2 hE hv hT hV hN hbz;go_enter Tryz.func68,Tryz.ntmps68;go_upto_region 1 with fail;rw[HW0.out];obtain⟨p0,p1,p2,p3,p4⟩:=HB0.out _ Zr;go_wp2_with fail;refine G1.out.mono ?_;rintro e w1 ⟨rfl,hb1⟩;have kk:=btn K0.out hb1;have hZ:=HB2.out _ hb1;go_wp2_with (refine wpList_store_blk rfl 35 _ _ rfl (w.heap.size+1+1) 35 _ #[.slice none 0 0,.slice none 0 0,.slice none 0 0,.slice none 0 0,.int .i64 0] rfl rfl hZ HI.out rfl (by simp[Value.oneCell']) ?_;intro Wd hblk hg);exact bodyPost_ret (results_cell_tmp rfl _ _ (w.heap.size+1+1) 35 _ _ _ rfl hblk Tryz.underlying35 rfl HI.out) rfl (TkV.no (kk.trans (grown_below hg kk.size (fun k hk=>by cases hk;omega))))
 rw[hv] at G1;rw[tkE_of hv x] at G2;have G1:=Hz_ (G1 _ K0.out);by_cases hE:takeVE v x=0;rotate_left
 ·rw[if_neg hE];have G2:=Hz_ G2;have hEb:(takeVE v x != 0)=true:=by simpa using hE
  generalize takeVE v x=E at G2 hE hEb ⊢;clear hv hT hV hN hbz;go_enter Tryz.func68,Tryz.ntmps68;go_upto_region 1 with fail;rw[HW0.out];obtain⟨p0,p1,p2,p3,p4⟩:=HB0.out _ Zr;go_wp2_with fail;refine G1.out.mono ?_;rintro e w1 ⟨rfl,hb1⟩;have kw:=hb1;have kk:=btn K0.out hb1;clear p0 p1 p2 p3 p4 hb1;obtain⟨p0,p1,p2,p3,p4⟩:=HB0.out _ kw;obtain⟨q0,q1,q2,q3⟩:=HB1.out _ kw;go_wp2_with fail;refine(G2.out _ kk).mono ?_;rintro e w2 ⟨A',k',c',Mz,B',m',d',rfl,-,-,-,-,hb2⟩;have kw:=btn kw hb2;have kk:=btn kk hb2;have kA:Below w.heap.size w ((w2.alloc (.cells #[.slice A' k' c'] 32)).alloc (.cells #[.slice B' m' d'] 22)):=(kk.alloc kk.size _).alloc (by simp;have:=kk.size;omega) _;have hZ:=((HB2.out _ kw).alloc (.cells #[.slice A' k' c'] 32)).alloc (.cells #[.slice B' m' d'] 22);clear p0 p1 p2 p3 p4 q0 q1 q2 q3 hb2;go_wp2_with (refine wpList_store_blk rfl 35 _ _ rfl (w.heap.size+1+1) 35 _ #[.slice none 0 0,.slice none 0 0,.slice none 0 0,.slice none 0 0,.int .i64 0] rfl rfl hZ HI.out rfl (by simp[Value.oneCell']) ?_;intro Wd hblk hg);exact bodyPost_ret (results_cell_tmp rfl _ _ (w.heap.size+1+1) 35 _ _ _ rfl hblk Tryz.underlying35 rfl HI.out) rfl (TkV.no (kA.trans (grown_below hg kA.size (fun k hk=>by cases hk;omega))))
 rw[if_pos hE,hE];obtain⟨-,hx⟩:=takeVE_zero hE;have hvf:=vwF_takeV hv hx;obtain⟨f1,f2,f3,f4⟩:=Wq.vwF_parts hv;unfold caF at f4;simp only[Bool.and_eq_true,decide_eq_true_eq] at f4;have hb256:=f4.1.2.2;have hz1:tkZ' v.zones v.known x=tkZ v.zones v.known x:=by unfold tkZ';rw[tkE_of hv,hE,if_pos rfl]
 have hz2:tkK v.zones v.known x=nowOf v.known x:=by unfold tkK;rw[tkE_of hv,hE,if_pos rfl]
 rw[hE,hz1,hz2] at G2;have hn4:nv.n4<=256:=by
  rw[<-hN.l4];exact wrl_len (by have h:=hx;unfold ntF at h;simp only[Bool.and_eq_true] at h;exact h.2)
 have HTOLD:=toldV_is hE;have hTR:∀y∈toldV v x,wrR y=true:=fun y hy=>wrR_note hx y (List.mem_filter.1 hy).1;have hTV:takeV v x=⟨nowOf v.known x,tkZ v.zones v.known x,putS v.held (toldV v x),v.bods.filter (wantd (putS v.held (toldV v x))),v.room⟩:=rfl;have hHF:shF (-1) (putS v.held (toldV v x))=true:=by
  obtain⟨_,_,h,_⟩:=Wq.vwF_parts hvf;exact h
 have hbo:∀y∈v.bods,(Lit.int .i64 y.o).wf=true/\¬ y.o=-1:=fun y hy=>by
  have h:=Wq.newsB_all f4.2.1 y hy;unfold Wq.bdF at h;simp only[Bool.and_eq_true,decide_eq_true_eq] at h;have h1:IntKind.i64.min=-9223372036854775808:=rfl;have h2:IntKind.i64.max=9223372036854775807:=rfl;refine⟨?_,by omega⟩;simp only[Lit.wf,Bool.and_eq_true,decide_eq_true_eq];omega
 have hfin:=bods_law (t:=toldV v x) f3 hTR (newsB_apart f4.2.1).2 (fun y hy=>List.all_eq_true.1 ((vwF_iff _).1 hv).ba y hy);have HWT:=Hz_ hTV;generalize hTd:toldV v x=T at HTOLD hTR hHF hfin HWT;generalize hHd:putS v.held T=H at hHF hfin HWT;generalize hZd:tkZ v.zones v.known x=Z at G2 HTOLD HWT;generalize hKd:nowOf v.known x=K at G2 HTOLD HWT;have HTOLD:=Hz_ HTOLD;have HHD:=Hz_ hHd;have HHF:=Hz_ hHF;have HFIN:=Hz_ hfin;have HBO:=Hz_ hbo;have HTR:=Hz_ hTR;have G2:=Hz_ G2;have G3:=Hz_ fun (W:World) (hb:Below w.heap.size w W)=>cloneWr_any nv.A4 nv.n4 nv.c4 (wv x.w) W (HN.out.r4.go hb) (wv_oneCell _) (by omega);have GD:=Hz_ fun base c A pv qv p w' ho hp=>deleteVO_any base nv.n4 c A x.w pv qv p w' ho HN.out.l4 (by omega) hp;have GP:=Hz_ fun (W:World) (hb:Below w.heap.size w W) (A:Option Addr) (i c:Nat) (hl:T.length=i) (hR:Rd W W.heap.size 4 A i c (wv T)) (hi:i<=1000000)=>shelfPut_any u.hA A v.held.length u.hc i c v.held T W rfl (HV.out.h.go hb) hl hR f3 HTR.out hi;rw[hHd] at GP;have GF:=Hz_ fun (W:World) (hb:Below w.heap.size w W)=>cacheForget_any u.bA v.bods.length u.bc M (-1) W (HV.out.b.go hb) hb256 HBZ.out;have HNB:=Hz_ (show ((bds M).filter fun y=>!decide (y.o=-1))=v.bods by
  rw[HV.out.nb];exact List.filter_eq_self.2 fun y hy=>by rw[decide_eq_false (HBO.out y hy).2];rfl)
 have HB256:=Hz_ hb256;clear hTd hHd hZd hKd hHF hfin hbo hTR hTV hvf f1 f2 f3 f4 hz1 hz2 hv hE hx hT hV hN hbz hb256;generalize takeV v x=TV at HWT ⊢;obtain⟨kA,kc,zA,zc,hA,hc,bA,bc⟩:=u;obtain⟨A1,n1,c1,A2,n2,c2,A3_,n3,c3_,A4,n4,c4⟩:=nv;dsimp only at HB0 HB1 HW0 G1 G2 G3 GD GP GF hn4 ⊢;generalize v.known.length=nk at HB0 HW0 G1 G2 ⊢;generalize v.zones.length=nz at HB0 HW0 G1 G2 ⊢;generalize v.held.length=nh at HB0 HW0 G1 GP ⊢;generalize hnb:v.bods.length=nb at HB0 HW0 G1 GF HB256 ⊢;have HNBL:=Hz_ hnb;clear hnb;go_enter Tryz.func68,Tryz.ntmps68;go_upto_region 1 with fail;rw[HW0.out];obtain⟨p0,p1,p2,p3,p4⟩:=HB0.out _ Zr;go_wp2_with fail;refine G1.out.mono ?_;rintro e w1 ⟨rfl,hb1⟩;have kw:=hb1;have kk:=btn K0.out hb1;clear p0 p1 p2 p3 p4 hb1;obtain⟨p0,p1,p2,p3,p4⟩:=HB0.out _ kw;obtain⟨q0,q1,q2,q3⟩:=HB1.out _ kw;go_wp2_with fail;refine(G2.out _ kk).mono ?_;rintro e w2 ⟨A',k',c',Mz,B',m',d',rfl,hZr,hZn,hKl,hKr,hb2⟩;have kw:=btn kw hb2;have kk:=btn kk hb2;clear p0 p1 p2 p3 p4 q0 q1 q2 q3 hb2;go_upto_region 6 with fail;obtain⟨W3,hW3⟩:∃W,W=(w2.alloc (.cells #[.slice A' k' c'] 32)).alloc (.cells #[.slice B' m' d'] 22):=⟨_,rfl⟩;have k3:Below w2.heap.size w2 W3:=by rw[hW3];exact(Zr.alloc Zl _).alloc (by simp) _
 have z0:Blk W3 w2.heap.size 32 #[.slice A' k' c']:=by rw[hW3];exact(Blk.new w2 _ _).alloc _
 have z1:Blk W3 (w2.heap.size+1) 22 #[.slice B' m' d']:=by
  rw[hW3];have h:=Blk.new (w2.alloc (.cells #[.slice A' k' c'] 32)) 22 #[.slice B' m' d'];rw[World.size_alloc] at h;exact h
 rw[<-hW3];have kw:=btn kw k3;have kk:=btn kk k3;have HZr:=Hz_ (hZr.go k3);have HKr:=Hz_ (hKr.go k3);have HZ0:=Hz_ (fun (W:World) (hb:Below W3.heap.size W3 W)=>(z0.go hb).cell 0);have HZ1:=Hz_ (fun (W:World) (hb:Below W3.heap.size W3 W)=>(z1.go hb).cell 0);generalize w2.heap.size=g2 at HZ0 HZ1 ⊢;clear z0 z1 hW3 k3 hZr hKr;have HZN:=Hz_ hZn;have HKL:=Hz_ hKl;clear hZn hKl;obtain⟨q0,q1,q2,q3⟩:=HB1.out _ kw;go_wp2_with fail;refine(G3.out _ kk).mono ?_;rintro e w3 ⟨A3,c3,rfl,ho3,hb3⟩;clear q0 q1 q2 q3;have hTVt:∀G,A3=some ⟨G,0,none⟩->TestV w3 G (.pointer (some ⟨g2,0,none⟩)) (.pointer (some ⟨g2+1,0,none⟩)) (fun q=>!(hasB (reachF Z K q.2.1) q.1)):=fun G hG W hg sc sn ob gn=>by
  have hGl:=ho3.lt G (by rw[hG];rfl);have kT:=hb3.trans (grown_below hg hb3.size (fun k hk=>by cases hk;exact hGl.1));have h:=takeTest_any g2 (g2+1) A' B' k' c' m' d' Mz K sc sn ob gn W (HZ0.out W kT) (HZ1.out W kT) ((HZr.out.below kT).more kT.size) HKL.out ((HKr.out.below kT).more kT.size);rw[HZN.out] at h;exact h
 have GD2:=GD.out W3.heap.size c3 A3 (.pointer (some ⟨g2,0,none⟩)) (.pointer (some ⟨g2+1,0,none⟩)) (fun q=>!(hasB (reachF Z K q.2.1) q.1)) w3 ho3 hTVt;rw[show (x.w.filter fun q=>!(fun q:Wr=>!(hasB (reachF Z K q.2.1) q.1)) q)=T from HTOLD.out] at GD2;have GD2:=Hz_ GD2;go_wp2_with fail;refine GD2.out.mono ?_;rintro e w4 ⟨i,rfl,hil,ho4,hg4⟩;have k4:Below W3.heap.size W3 w4:=hb3.trans (grown_below hg4 hb3.size (fun k hk=>(ho3.lt k (by cases A3<;>exact hk)).1));have hi4:i<=n4:=by rw[<-hil,<-HTOLD.out,<-show x.w.length=n4 from HN.out.l4];exact List.length_filter_le _ _
 have kw:=btn kw k4;have kk:=btn kk k4;have HIL:=Hz_ hil;have HT4:=Hz_ (Rd.of_own ho4);clear ho3 ho4 hg4 hb3 hTVt GD2 hil;obtain⟨p0,p1,p2,p3,p4⟩:=HB0.out _ kw;go_wp2_with fail;refine(GP.out _ kk A3 i c3 HIL.out HT4.out (by omega)).mono ?_;rintro e w5 ⟨A5,k5,c5,rfl,hHl,hH5,hb5⟩;have k4:=btn k4 hb5;have kw:=btn kw hb5;have kk:=btn kk hb5;have HT5:=Hz_ (HT4.out.go hb5);have HH5:=Hz_ hH5;have HHL:=Hz_ hHl;clear p0 p1 p2 p3 p4 hb5 hH5 hHl;obtain⟨p0,p1,p2,p3,p4⟩:=HB0.out _ kw;go_wp2_with fail;refine(GF.out _ kk).mono ?_;rintro e w6 ⟨A6,k6,c6,rfl,⟨M6,hM6,hz6⟩,hb6⟩;clear p0 p1 p2 p3 p4;have hz6:bds M6=v.bods:=hz6.trans HNB.out;have hk6:k6<=256:=by have h1:=hM6.len;have h2:=congrArg List.length hz6;rw[bds_len,HNBL.out] at h2;have:=HB256.out;omega
 have HC:=Hz_ (fun (W:World) (hb:Below w5.heap.size w5 W)=>(show W.cell? ⟨g2,0,none⟩=some (.slice A' k' c')/\W.cell? ⟨g2+1,0,none⟩=some (.slice B' m' d') from ⟨HZ0.out W (btn k4 hb),HZ1.out W (btn k4 hb)⟩));have HP5:=Hz_ (fun (W:World) (hb:Below w5.heap.size w5 W)=>HB0.out W (btn kw hb));have HR5:=Hz_ (fun (W:World) (hb:Below w5.heap.size w5 W)=>HB2.out W (btn kw hb));have HZ5:=Hz_ (HZr.out.go k4);have HK5:=Hz_ (HKr.out.go k4);have HKK:=Hz_ kk;clear kw kk k4;go_wp2_with fail;go_loopw [13,14,11,54] (fun _ _ v11 v54 wr=>∃(j k c:Nat) (A:Option Addr) (Mm:List (BV×Wq.Bd)),v54=.int .i64 j/\v11=.slice A k c/\j<=i/\k<=256/\Hid (OwnBd wr w5.heap.size A k c Mm)/\Hid (bds Mm=(T.take j).foldl (dropB H) v.bods)/\Below w5.heap.size w5 wr) (fun _ _ _ v54 _=>i - (intOf v54).toNat)
 case atStart=>exact⟨0,k6,c6,A6,M6,rfl,rfl,by omega,hk6,hM6,hz6,hb6⟩
 case round=>
  clear hM6 hz6 hb6 hk6;obtain⟨j,k,c,A,Mm,rfl,rfl,hj,hk,HM,HD,hb⟩:=hrel;by_cases hlt:j < i
  ·have hjl:j < T.length:=by rw[HIL.out];exact hlt
   obtain⟨b,o,rfl,hab,g0,g1,g2_,g3⟩:=(HT5.out.go hb).write HIL.out hjl;have hnx:=List.take_succ_eq_append_getElem hjl;generalize T[j]=y at g0 g1 g2_ g3 hnx;obtain⟨⟨sc,sn⟩,ob,gn⟩:=y;dsimp only at g0 g1 g2_ g3;have hb9:Below wr.heap.size wr (wr.alloc (.cells #[.int .i64 sc,.int .i64 sn,.int .i64 ob,.bool gn] 70)):=Zr.alloc Zl _;have hX9:=Blk.new wr 70 #[.int .i64 sc,.int .i64 sn,.int .i64 ob,.bool gn];obtain⟨W9,hW9⟩:∃W,W=wr.alloc (.cells #[.int .i64 sc,.int .i64 sn,.int .i64 ob,.bool gn] 70):=⟨_,rfl⟩;rw[<-hW9] at hb9 hX9;have HW9:=Hz_ hW9.symm;have kw:=btn hb hb9;have HM:=Hz_ (HM.out.below hb9);have hwf:∀p∈Mm,(Lit.int .i64 p.2.o).wf=true:=fun p hp=>(HBO.out p.2 (foldB_sub H _ _ _ (by rw[<-HD.out];exact List.mem_map_of_mem hp))).1;have GI:=indexB_any A k c ob Mm wr.heap.size W9 (hX9.cell 2) (HM.out.rd hwf);have HNX:=Hz_ hnx;have HMs:=Hz_ (HM.out.len);clear hW9 hX9 hnx hb hb9 hwf;rcases hfi:(bds Mm).findIdx? (fun y:Wq.Bd=>decide (y.o=ob)) with _ | i0
   ·rw[ixB_find,hfi] at GI;have GI:=Hz_ GI;have HDN:=Hz_ (show bds Mm=(T.take (j+1)).foldl (dropB H) v.bods by
     rw[HNX.out,List.foldl_append,<-HD.out];exact(dropB_none (x:=((sc,sn),ob,gn)) hfi).symm)
    clear hfi;go_upto_region 14 with fail;rw[HW9.out];clear g0 g1 g2_ g3;go_wp2_with fail;refine GI.out.mono ?_;rintro e w7 ⟨rfl,hb7⟩;go_wp2_with fail;go_roundw
    case rel=>exact⟨j+1,k,c,A,Mm,by go_num,rfl,by omega,hk,Hz_ (HM.out.below hb7),HDN,btn kw hb7⟩
    case measure=>simp[intOf];omega
   ·rw[ixB_find,hfi] at GI;dsimp only at GI;rw[Nat.zero_add] at GI;have GI:=Hz_ GI;have hi0:i0 < Mm.length:=by
     have:=(List.findIdx?_eq_some_iff_findIdx_eq.1 hfi).1;rw[bds_len] at this;exact this
    have hik:i0 < k:=by rw[<-HMs.out];exact hi0
    obtain⟨G,rfl⟩:∃G,A=some ⟨G,0,none⟩:=by
     rcases own_at0 HM.out.row with ⟨_,h,_⟩ | h
     ·omega
     ·exact h
    have GW:=fun (W:World) (hb:Below w5.heap.size w5 W)=>viewWanted_any A5 Mm[i0].1.A k5 c5 Mm[i0].1.c H Mm[i0].2 W HHL.out (HH5.out.go hb);rw[HHF.out,Bool.true_and] at GW;have hib:i0 < (bds Mm).length:=by rw[bds_len];exact hi0
    have hkeep:=fun h:wantd H Mm[i0].2=true=>dropB_keep (held:=H) (x:=((sc,sn),ob,gn)) hfi hib (by rw[bds_at Mm i0 hi0];exact h);have hgo:=fun h:wantd H Mm[i0].2=false=>dropB_go (held:=H) (x:=((sc,sn),ob,gn)) hfi hib (by rw[bds_at Mm i0 hi0];exact h);have HCL:=Hz_ fun (W:World) (hb:Below W9.heap.size W9 W)=>(HM.out.below hb).cells hi0;generalize wantd H Mm[i0].2=z at GW hkeep hgo;unfold bval at GW;generalize Mm[i0].2.o=x0 at GW HCL;generalize Mm[i0].2.s.1=x1 at GW HCL;generalize Mm[i0].2.s.2=x2 at GW HCL;generalize Mm[i0].2.v.length=x3 at GW HCL;generalize Mm[i0].1.A=x4 at GW HCL;generalize Mm[i0].1.c=x5 at GW HCL;have GW:=Hz_ GW;have HKEEP:=Hz_ hkeep;have HGO:=Hz_ hgo;have hikZ:(i0:Int) < (k:Int):=by omega
    clear hfi hkeep hgo hib;go_upto_region 14 with fail;rw[HW9.out];clear g0 g1 g2_ g3;go_wp2_with fail;refine GI.out.mono ?_;rintro e w7 ⟨rfl,hb7⟩;have kw:=btn kw hb7;have HM:=Hz_ (HM.out.below hb7);obtain⟨a0,a1,a2,a3⟩:=HCL.out _ hb7;go_wp2_with fail;refine(GW.out _ kw).mono ?_;rintro e w8 ⟨rfl,hb8⟩;have kw:=btn kw hb8;have HM:=Hz_ (HM.out.below hb8);clear a0 a1 a2 a3 hb7 hb8;cases z
    ·obtain⟨m,rfl⟩:∃m,k=m+1:=⟨k - 1,by omega⟩;have GDl:=Hz_ (delete_body w5.heap.size G m c i0 (bvv Mm) w8 HM.out.row (bvv_oneCell Mm) (by omega) (by omega));have HDN:=Hz_ (show bds (Mm.eraseIdx i0)=(T.take (j+1)).foldl (dropB H) v.bods by
      rw[HNX.out,List.foldl_append,<-HD.out,bds_erase];exact(HGO.out rfl).symm)
     go_wp2_with fail;refine GDl.out.mono ?_;rintro e w10 ⟨rfl,ho10,hg10⟩;have kz:=kw.trans (grown_below hg10 kw.size (fun r hr=>by cases hr;exact(HM.out.row.lt G rfl).1));have HMz:=Hz_ (HM.out.erase hi0 ho10 hg10);go_wp2_with fail;go_roundw
     case rel=>exact⟨j+1,m,c,some ⟨G,0,none⟩,Mm.eraseIdx i0,by go_num,rfl,by omega,by omega,HMz,HDN,kz⟩
     case measure=>simp[intOf];omega
    ·have HDN:=Hz_ (show bds Mm=(T.take (j+1)).foldl (dropB H) v.bods by
      rw[HNX.out,List.foldl_append,<-HD.out];exact(HKEEP.out rfl).symm)
     go_wp2_with fail;go_roundw
     case rel=>exact⟨j+1,k,c,some ⟨G,0,none⟩,Mm,by go_num,rfl,by omega,hk,HM,HDN,kw⟩
     case measure=>simp[intOf];omega
  ·obtain rfl:i=j:=by omega
   have hD:=HD.out;rw[List.take_of_length_le (by rw[HIL.out];exact Nat.le_refl _),HFIN.out] at hD;have HDD:=Hz_ hD;have hwf:∀p∈Mm,(Lit.int .i64 p.2.o).wf=true:=fun p hp=>(HBO.out p.2 (by have h:p.2∈bds Mm:=List.mem_map_of_mem hp;rw[hD] at h;exact(List.mem_filter.1 h).1)).1;have HWF:=Hz_ hwf;obtain⟨y0,y1⟩:=HC.out _ hb;obtain⟨p0,p1,p2,p3,p4⟩:=HP5.out _ hb;have hR:=HR5.out _ hb;clear hD hwf;go_wp2_with (refine wpList_store_blk rfl 35 _ _ rfl (w.heap.size+1+1) 35 _ #[.slice B' m' d',.slice A' k' c',.slice A5 k5 c5,.slice A k c,.int .i64 v.room] rfl rfl hR HI.out rfl (by simp[Value.oneCell']) ?_;intro Wd hblk hg);refine bodyPost_ret (results_cell_tmp rfl _ _ (w.heap.size+1+1) 35 _ _ _ rfl hblk Tryz.underlying35 rfl HI.out) rfl ?_;have kf:Below w.heap.size w wr:=btn HKK.out hb;have hl5:w.heap.size+1+1 < w5.heap.size:=by
    have:=(HR5.out _ Zr).lt;exact this
   have hbut:But (w.heap.size+1+1) wr Wd:=But.grown hg;have hsz:=hbut.size;have hKr:=((HK5.out.go hb).off5 (by decide) (fun hn=>sv_int (by rw[HKL.out];exact hn)) hR hbut).more hsz;have hZr:=((HZ5.out.go hb).off5 hR hbut).more hsz;have hHr:=((HH5.out.go hb).off5 (by decide) (fun hn=>wv_int (by rw[HHL.out];exact hn)) hR hbut).more hsz;have hBr:=((HM.out.but hbut hl5).rd HWF.out);have e1:Z.length=k':=by rw[<-HZN.out,zns_len];exact HZ5.out.len
   have e2:(v.bods.filter (wantd H)).length=k:=by rw[<-HDD.out,bds_len];exact HM.out.len
   refine⟨⟨B',d',A',c',A5,c5,A,c⟩,?_,⟨Mz,Mm,?_⟩,kf.trans (grown_below hg kf.size (fun r hr=>by cases hr;omega))⟩
   ·rw[HWT.out];unfold vval;dsimp only;rw[HKL.out,HHL.out,e1,e2];rfl
   ·rw[HWT.out];refine⟨?_,?_,HZN.out,?_,?_,HDD.out⟩
    ·dsimp only;rw[HKL.out];exact hKr
    ·dsimp only;rw[e1];exact hZr
    ·dsimp only;rw[HHL.out];exact hHr
    ·dsimp only;rw[e2];exact hBr
theorem lit_wfw {o:Int} (h0:0<=o) (h1:o<=255):(Lit.int .i64 o).wf=true:=by
 unfold Lit.wf;simp only[Bool.and_eq_true,decide_eq_true_eq];constructor
 ·have:IntKind.i64.min<=0:=by decide
  omega
 ·have:255<=IntKind.i64.max:=by decide
  omega
theorem bvv_drop (M:List (BV×Wq.Bd)) (i:Nat) (h:i<=M.length):(bvv M).drop (i * 4)=bvv (M.drop i):=by
 have e:bvv M=bvv (M.take i)++bvv (M.drop i):=by rw[<-bvv_app,List.take_append_drop]
 rw[e,List.drop_append_of_le_length (by rw[bvv_len,List.length_take];omega),List.drop_of_length_le (by rw[bvv_len,List.length_take];omega)];rfl
theorem newsB_each {l:List Wq.Bd} {seen:List Int} (h:newsB seen l=true):∀x∈l,x.v.length<=256/\(Lit.int .i64 x.o).wf=true:=fun x hx=>by
 have h1:=(Wq.bdF_iff x).1 (((newsB_iff l seen).1 h).1 x hx).1;exact⟨h1.2.2.2.2.2,lit_wfw h1.1 h1.2.1⟩
theorem usedB_256:∀(l:List Wq.Bd),(∀x∈l,x.v.length<=256)->usedB l<=256 * l.length
 | [],_=>by simp[usedB]
 | x :: r,h=>by
  have h1:=usedB_256 r fun y hy=>h y (List.mem_cons_of_mem _ hy);have h2:=h x (List.mem_cons_self ..);rw[usedB,List.length_cons];omega
theorem usedB_dropN (l:List Wq.Bd) (k:Nat) (h:k < l.length):usedB (l.drop k)=l[k].v.length+usedB (l.drop (k+1)):=by rw[List.drop_eq_getElem_cons h,usedB]
theorem cachePut_no (A xA:Option Addr) (n c xc:Nat) (L:List (BV×Wq.Bd)) (room:Int) (x:Wq.Bd) (w:World) (hR:RdBs w w.heap.size A n c L) (hno:(caF (bds L) room && Wq.bdF x)=false):
  Calls Tryz.prog 147 #[.slice A n c,.int .i64 room,.agg (bval x xA xc)] w fun e w'=>e=.returned (.tuple #[.slice none 0 0,.int .i64 1])/\Below w.heap.size w w':=by
 have k0:Below w.heap.size w (w.alloc (.cells (bval x xA xc) 31)):=Zr.alloc Zl _;have b0:=Blk.new w 31 (bval x xA xc);have G1:=cacheFormed_any A n c L room _ (hR.go k0);have G2:=cacheRight_any x xA xc;obtain⟨W0,hW0⟩:∃W,W=w.alloc (.cells (bval x xA xc) 31):=⟨_,rfl⟩;rw[<-hW0] at k0 b0 G1;have HW0:=Hz_ hW0.symm;have HB:=Hz_ b0;have K0:=Hz_ k0;clear hW0 b0 k0 hR;generalize caF (bds L) room=z1 at G1 hno;generalize Wq.bdF x=z2 at G2 hno;unfold bval at G2 HW0 HB ⊢;generalize x.v.length=xn at G2 HW0 HB ⊢;have G1:=Hz_ G1;have G2:=Hz_ G2;go_enter Tryz.func147,Tryz.ntmps147;go_upto_region 1 with fail;rw[HW0.out];cases z1
 ·go_wp2_with fail;refine G1.out.mono ?_;rintro e w1 ⟨rfl,hb1⟩;go_wp2;go_ret2;exact⟨rfl,btn K0.out hb1⟩
 ·obtain rfl:z2=false:=by simpa using hno
  go_wp2_with fail;refine G1.out.mono ?_;rintro e w1 ⟨rfl,hb1⟩;obtain⟨p0,p1,p2,p3⟩:=(HB.out.go hb1).quad;have kk:=btn K0.out hb1;clear hb1;go_wp2_with fail;refine(G2.out _).mono ?_;rintro e w2 ⟨rfl,hb2⟩;go_wp2;go_ret2;exact⟨rfl,btn kk hb2⟩
theorem cachePut_any (A xA:Option Addr) (n c xc:Nat) (L:List (BV×Wq.Bd)) (room:Int) (x:Wq.Bd) (w:World) (hR:RdBs w w.heap.size A n c L) (hX:Rd w w.heap.size 1 xA x.v.length xc (bv x.v)) (hca:caF (bds L) room=true) (hbd:Wq.bdF x=true):
  Calls Tryz.prog 147 #[.slice A n c,.int .i64 room,.agg (bval x xA xc)] w fun e w'=>∃A' k' c',e=.returned (.tuple #[.slice A' k' c',.int .i64 0])/\(∃M,OwnBd w' w.heap.size A' k' c' M/\(∀p∈M,(Lit.int .i64 p.2.o).wf=true)/\bds M=putB (bds L) room x)/\Below w.heap.size w w':=by
 obtain⟨ib0,hbi0,hbz0,hbz1,hbz2⟩:=info_parts body_info;have h1max:1<=maxLen:=by unfold maxLen;omega
 have k0:Below w.heap.size w (w.alloc (.cells (bval x xA xc) 31)):=Zr.alloc Zl _;have b0:=Blk.new w 31 (bval x xA xc);have hs0:(w.alloc (.cells (bval x xA xc) 31)).heap.size=w.heap.size+1:=by simp
 have hca':=hca;unfold caF at hca';simp only[Bool.and_eq_true,decide_eq_true_eq] at hca';obtain⟨⟨r0,r1,hn⟩,hnw,hus⟩:=hca';rw[bds_len,hR.len] at hn;have hea:=newsB_each hnw;have hx1:=(Wq.bdF_iff x).1 hbd;have hxl:x.v.length<=256:=hx1.2.2.2.2.2;have hxw:=lit_wfw hx1.1 hx1.2.1;have G1:=cacheFormed_any A n c L room _ (hR.go k0);rw[hca] at G1;have G2:=fun W=>cacheRight_any x xA xc W;rw[hbd] at G2;have G3:=fun (W:World) (hb:Below w.heap.size w W)=>cacheForget_any A n c L x.o W (hR.go hb) hn (fun p hp=>by have:=(hea p.2 (List.mem_map_of_mem hp)).1;omega);have G4:=fun (W:World) (hb:Below w.heap.size w W)=>cacheTwin_any x xA xc W (hX.go hb) (by omega);have hall:∀y∈(bds L).filter (fun y=>!decide (y.o=x.o))++[x],y.v.length<=256/\(Lit.int .i64 y.o).wf=true:=fun y hy=>by
  rcases List.mem_append.1 hy with hy | hy
  ·exact hea y (List.mem_filter.1 hy).1
  ·rw[List.mem_singleton.1 hy];exact⟨hxl,hxw⟩
 have hfl:((bds L).filter (fun y=>!decide (y.o=x.o))).length<=256:=by
  have:=List.length_filter_le (fun y:Wq.Bd=>!decide (y.o=x.o)) (bds L);rw[bds_len,hR.len] at this;omega
 obtain⟨W0,hW0⟩:∃W,W=w.alloc (.cells (bval x xA xc) 31):=⟨_,rfl⟩;rw[<-hW0] at k0 b0 G1 hs0;have HW0:=Hz_ hW0.symm;have HB:=Hz_ fun (W:World) (hb:Below W0.heap.size W0 W)=>b0.go hb;have K0:=Hz_ k0;have HS0:=Hz_ hs0;have HALL:=Hz_ hall;have HFL:=Hz_ hfl;clear hW0 b0 k0 hR hX hca hbd hea hx1 hnw hall hfl hs0 hus;unfold putB;obtain⟨o_,⟨a_,b_⟩,xv⟩:=x;unfold bval at G2 HW0 HB G4 ⊢;dsimp only at hxl hxw G2 HW0 HB G3 G4 HALL HFL ⊢;obtain⟨fl,hfl⟩:∃y,y=(bds L).filter fun y=>!decide (y.o=o_):=⟨_,rfl⟩;rw[<-hfl] at G3 HALL HFL ⊢;obtain⟨xn,hxn⟩:∃y,y=xv.length:=⟨_,rfl⟩;rw[<-hxn] at G2 HW0 HB G4 ⊢;have HXN:=Hz_ hxn;obtain⟨l,hl⟩:∃l,l=fl++[⟨o_,(a_,b_),xv⟩]:=⟨_,rfl⟩;rw[<-hl] at HALL ⊢;have HLQ:=Hz_ hl;clear hl;have G1:=Hz_ G1;have G2:=Hz_ G2;have G3:=Hz_ G3;have G4:=Hz_ G4;clear hfl hxn;go_enter Tryz.func147,Tryz.ntmps147;go_upto_region 1 with fail;rw[HW0.out];go_wp2_with fail;refine G1.out.mono ?_;rintro e w1 ⟨rfl,hb1⟩;obtain⟨p0,p1,p2,p3⟩:=(HB.out _ hb1).quad;go_wp2_with fail;refine(G2.out _).mono ?_;rintro e w2 ⟨rfl,hb2⟩;have kk:=btn hb1 hb2;have kw:=btn K0.out kk;clear p0 p1 p2 p3 hb1 hb2;go_upto_region 3 with fail;have kk:=kk.drew;have kw:=kw.drew;have HS:=Hz_ fun (W:World) (hb:Below W0.heap.size W0 W)=>(show W.cell? ⟨w.heap.size,0,none⟩=some (.int .i64 o_)/\W.cell? ⟨w.heap.size,1,none⟩=some (.int .i64 a_)/\W.cell? ⟨w.heap.size,2,none⟩=some (.int .i64 b_)/\W.cell? ⟨w.heap.size,3,none⟩=some (.slice xA xn xc) from (HB.out W hb).quad);go_cut [8] from 20 to 27 (fun v8 wx=>∃(A9:Option Addr) (k9 c9:Nat) (N:List (BV×Wq.Bd)),v8=.slice A9 k9 c9/\Hid (OwnBd wx W0.heap.size A9 k9 c9 N)/\Hid (bds N=l)/\Hid (Below W0.heap.size W0 wx))
 case first=>
  refine region_nrm fun KK hKK=>?_;refine wp_region_held_drew (S:=(fun W=>W.cell? ⟨w.heap.size,0,none⟩=some (.int .i64 o_)/\W.cell? ⟨w.heap.size,1,none⟩=some (.int .i64 a_)/\W.cell? ⟨w.heap.size,2,none⟩=some (.int .i64 b_)/\W.cell? ⟨w.heap.size,3,none⟩=some (.slice xA xn xc))) (by kernel_rfl) (by first | exact HS.out _ kk) (fun hHeld=>?_);refine puA 0 20 (HS.out _ kk) ?_;refine puA 1 21 (HS.out _ kk) ?_;refine puA 2 22 (HS.out _ kk) ?_;refine puA 4 24 (HS.out _ kk) ?_;refine puR 3 fun K hK=>?_;go_simp;refine(G3.out _ kw).mono ?_;rintro e V ⟨A1,k1,c1,rfl,⟨M,hM,hMz⟩,hb'⟩;have KM:=Hz_ (hM.less kk.size);have HMZ:=Hz_ hMz;have kk:=btn kk hb';have kw:=btn kw hb';clear hM hMz hb';refine hK.out _ _ (HS.out _ kk) fun hHeld=>?_;clear hK K;refine puR 5 fun K hK=>?_;go_simp;refine(G4.out _ kw).mono ?_;rintro e V ⟨D,d,rfl,hd,hb'⟩;have HD:=Hz_ (own_less hd kk.size);have KM:=Hz_ (KM.out.below hb');have kk:=btn kk hb';have kw:=btn kw hb';clear hd hb';refine hK.out _ _ (HS.out _ kk) fun hHeld=>?_;clear hK K;refine puR 6 fun K hK=>?_;go_simp;have hb':=then_alloc kw (.cells #[.int .i64 o_,.int .i64 a_,.int .i64 b_,.slice D xn d] 31);have C:=Hz_ (rd_new hb' (size:=4) (n:=1) rfl h1max);have HD:=Hz_ (own_below HD.out hb' Zl);have KM:=Hz_ (KM.out.below hb');have kk:=btn kk hb';have kw:=btn kw hb';clear hb';refine hK.out _ _ (HS.out _ kk) fun hHeld=>?_;clear hK K;refine puR 7 fun K hK=>?_;rw[if_pos (by kernel_rfl)];have hk1:k1<=256:=by have h1:=KM.out.len;have h2:=congrArg List.length HMZ.out;rw[bds_len] at h2;have:=HFL.out;omega
  refine wp_append_rd _ (.tmp 23) (.tmp 26) _ rfl W0.heap.size 31 ib0 _ 4 48 Tryz.underlying33 hbi0 hbz0 hbz1 hbz2 rfl (by decide) _ k1 (bvv M) rfl KM.out.row _ _ 1 1 [.int .i64 o_,.int .i64 a_,.int .i64 b_,.slice D xn d] rfl C.out (by simp[Value.oneCell']) (by unfold maxLen;omega) (by omega) kk.size ?_;intro A9 c9 W9 ho hg hat;have KZ:=Hz_ (KM.out.push (p:=(⟨D,d⟩,⟨o_,(a_,b_),xv⟩)) (by dsimp only;rw[<-HXN.out];exact HD.out) hg (by unfold bvl;dsimp only;rw[<-HXN.out];exact ho));have HZZ:=Hz_ (show bds (M++[(⟨D,d⟩,⟨o_,(a_,b_),xv⟩)])=l by rw[bds_app,HMZ.out,HLQ.out];rfl);have kk:=kk.trans (grown_below hg kk.size (fun g hg'=>(KM.out.row.lt g hg').1));clear ho hg hat KM C HD HMZ kw;refine hK.out _ _ (HS.out _ kk) fun hHeld=>?_;clear hK K;refine puA 8 8 (HS.out _ kk) ?_;refine wpAnyH_done (by kernel_rfl) ?_ _;refine Nrm.out (hKK _ _ ?_);clear hHeld;go_wp2_with fail;go_meet;exact⟨A9,k1+1,c9,_,rfl,KZ,HZZ,Hz_ kk⟩
 obtain⟨A9,k9,c9,N,rfl,KZ,HZZ,HKW⟩:=hcut;have hN:=KZ.out.len;have hlen:k9=fl.length+1:=by rw[<-hN,<-bds_len,HZZ.out,HLQ.out,List.length_append];rfl
 have hall:=HALL.out;have hzz:=HZZ.out;have hwf:∀p∈N,(Lit.int .i64 p.2.o).wf=true:=fun p hp=>(hall p.2 (by rw[<-hzz];exact List.mem_map_of_mem hp)).2;have hll:l.length=k9:=by rw[<-hzz,bds_len];exact hN
 have hk9:k9<=257:=by have:=HFL.out;omega
 have hub:=usedB_256 l fun y hy=>(hall y hy).1;have HRB:=Hz_ (KZ.out.rd hwf);have GU:=cacheUsed_any A9 k9 c9 N wc HRB.out (by rw[hzz];omega);rw[hzz] at GU;have GU:=Hz_ GU;have HZ:=Hz_ hzz;have HNL:=Hz_ hN;have HKK:=Hz_ (K0.out.trans (HKW.out.mono K0.out.size));have HWF:=Hz_ hwf;have hud:∀j,usedB (l.drop j)<=65792:=fun j=>by
  have h1:=usedB_sub (List.drop_sublist j l);omega
 have HUD:=Hz_ hud;have HLL:=Hz_ hll;have hsl:∀(j:Nat),j<=k9->∀W,(Instr.slice 33 (.slice A9 k9 c9) (some (.int .i64 j)) none none).run Tryz.prog W=.ok (.slice (cutAt 4 A9 c9 j) (k9 - j) (c9 - j)) W:=fun j h W=>run_from W 33 31 4 Tryz.underlying33 (fun w=>by kernel_rfl) A9 k9 c9 .i64 (j:Int) j rfl h;clear hall hzz hwf hub hud hlen HALL HFL HZZ HKW hN hll;go_wp2_with fail;refine GU.out.mono ?_;rintro e w5 ⟨rfl,hb5⟩;have HRB:=Hz_ (HRB.out.go hb5);have HKK:=Hz_ (btn HKK.out hb5);have HEL:=Hz_ fun p (hp:p∈N)=>own_below (own_less (KZ.out.el p hp) (show w.heap.size<=W0.heap.size from K0.out.size)) hb5 Zl;clear hb5 GU KZ;go_wp2_with fail;go_loopw [9,10] (fun v9 v10 wr=>∃(j:Nat),v9=.int .i64 (usedB (l.drop j):Nat)/\v10=.int .i64 j/\j<=k9/\Hid (trimB room l=trimB room (l.drop j))/\wr=w5) (fun _ v10 _=>k9 - (intOf v10).toNat)
 case atStart=>exact⟨0,by rw[List.drop_zero],rfl,Nat.zero_le _,Hz_ (by rw[List.drop_zero]),rfl⟩
 case round=>
  obtain⟨j,rfl,rfl,hj,HT,rfl⟩:=hrel;have hu1:=HUD.out j;by_cases hgt:room < ((usedB (l.drop j):Nat):Int)
  ·have hjk:j < k9:=by
    refine Nat.lt_of_le_of_ne hj fun e=>?_;rw[List.drop_of_length_le (by rw[HLL.out];omega)] at hgt;simp only[usedB] at hgt;omega
   have hjN:j < N.length:=by rw[HNL.out];exact hjk
   have hjl:j < l.length:=by rw[HLL.out];exact hjk
   have hut:=usedB_dropN l j hjl;have hlj:l[j]=N[j].2:=by
    have:=bds_at N j hjN;simp only[HZ.out] at this;exact this
   rw[hlj] at hut;have HT:=Hz_ (HT.out.trans (by rw[trimB_drop room l j hjl,if_pos hgt]));obtain⟨b,oo,rfl,hbb,g0,g1,g2,g3⟩:=HRB.out.body hjN;obtain⟨u1,he1⟩:∃u,u=usedB (l.drop j):=⟨_,rfl⟩;obtain⟨u2,he2⟩:∃u,u=usedB (l.drop (j+1)):=⟨_,rfl⟩;rw[<-he1,<-he2] at hut;rw[<-he1] at hgt hu1 ⊢;have HU2:=Hz_ he2;generalize N[j].2.v.length=m at g3 hut;generalize N[j].1.A=y0 at g3;generalize N[j].1.c=y1 at g3;clear g0 g1 g2 he1 he2 hlj;have hd:decide ((u1:Int) > room)=true:=decide_eq_true hgt;have e1:(u1:Int) - (m:Int)=(u2:Int):=by omega
   go_wp2;go_roundw
   case rel=>exact⟨j+1,by rw[<-HU2.out,show (m:Int)+(u2:Int) - (m:Int)=u2 by omega],by go_num,by omega,HT,trivial⟩
   case measure=>simp[intOf];omega
  ·have hd:decide (((usedB (l.drop j):Nat):Int) > room)=false:=decide_eq_false hgt;have HTT:=Hz_ (HT.out.trans (trimB_ok hgt));have hrc:=(HRB.out.rd.from_ hj);rw[bvv_drop N j (by rw[HNL.out];exact hj)] at hrc;have HRC:=Hz_ hrc;have HSL:=hsl j hj;have GC:=Hz_ (cloneBd_any (cutAt 4 A9 c9 j) (k9 - j) (c9 - j) (bvv (N.drop j)) wr HRC.out (bvv_oneCell _) (by omega));have HDN:=Hz_ (show bds (N.drop j)=trimB room l by rw[HTT.out,<-HZ.out];unfold bds;rw[List.map_drop]);clear hrc hsl hu1;go_wp2_with fail;refine GC.out.mono ?_;rintro e w6 ⟨A6,c6,rfl,ho6,hb6⟩;have HO:=Hz_ ho6;clear ho6;go_wp2;go_ret2;refine⟨A6,k9 - j,c6,rfl,⟨N.drop j,⟨own_less HO.out HKK.out.size,fun p hp=>own_below (HEL.out p (List.mem_of_mem_drop hp)) hb6 Zl⟩,fun p hp=>HWF.out p (List.mem_of_mem_drop hp),HDN.out⟩,btn HKK.out hb6⟩
end Go.Proofs.YtmbeahbgafkjfaaGreatDoor
