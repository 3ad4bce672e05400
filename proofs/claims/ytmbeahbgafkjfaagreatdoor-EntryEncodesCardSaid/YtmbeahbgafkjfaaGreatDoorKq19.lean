/- Lemmas for the claim, layer 19. -/
import Derived.Test.YtmbeahbgafkjfaaGreatDoorKq18
set_option maxRecDepth 100000
set_option maxHeartbeats 16000000
namespace Go.Proofs.YtmbeahbgafkjfaaGreatDoor
open Go.RowKit
structure VV where
 kA:Option Addr
 kc:Nat
 zA:Option Addr
 zc:Nat
 hA:Option Addr
 hc:Nat
 bA:Option Addr
 bc:Nat
def vval (v:Vw) (u:VV):Array Value:=#[.slice u.kA v.known.length u.kc,.slice u.zA v.zones.length u.zc,.slice u.hA v.held.length u.hc,.slice u.bA v.bods.length u.bc,.int .i64 v.room]
structure VwRd (w:World) (B:Nat) (u:VV) (v:Vw) (L:List (ZV×Zn)) (M:List (BV×Wq.Bd)):Prop where
 k:Rd w B 2 u.kA v.known.length u.kc (sv v.known)
 z:RdZ w B u.zA v.zones.length u.zc L
 nz:zns L=v.zones
 h:Rd w B 4 u.hA v.held.length u.hc (wv v.held)
 b:RdBs w B u.bA v.bods.length u.bc M
 nb:bds M=v.bods
theorem VwRd.go {w w':World} {u:VV} {v:Vw} {L:List (ZV×Zn)} {M:List (BV×Wq.Bd)} (h:VwRd w w.heap.size u v L M) (hb:Below w.heap.size w w'):VwRd w' w'.heap.size u v L M:=⟨h.k.go hb,h.z.go hb,h.nz,h.h.go hb,h.b.go hb,h.nb⟩
theorem VwRd.below {w w':World} {B:Nat} {u:VV} {v:Vw} {L:List (ZV×Zn)} {M:List (BV×Wq.Bd)} (h:VwRd w B u v L M) (hb:Below B w w'):VwRd w' B u v L M:=⟨h.k.below hb,h.z.below hb,h.nz,h.h.below hb,h.b.below hb,h.nb⟩
theorem VwRd.more {w:World} {B B':Nat} {u:VV} {v:Vw} {L:List (ZV×Zn)} {M:List (BV×Wq.Bd)} (h:VwRd w B u v L M) (hb:B≤B'):VwRd w B' u v L M:=⟨h.k.more hb,h.z.more hb,h.nz,h.h.more hb,h.b.more hb,h.nb⟩
theorem Blk.five {w:World} {g:Nat} {t:TypeId} {a b c d e:Value} (h:Blk w g t #[a,b,c,d,e]):w.cell? ⟨g,0,none⟩=some a∧w.cell? ⟨g,1,none⟩=some b∧w.cell? ⟨g,2,none⟩=some c∧w.cell? ⟨g,3,none⟩=some d∧w.cell? ⟨g,4,none⟩=some e:=⟨h.cell 0,h.cell 1,h.cell 2,h.cell 3,h.cell 4⟩
theorem viewReached_any (A D:Option Addr) (n c m d:Nat) (L:List (ZV×Zn)) (u0:List Vc.St) (x:Wr) (w:World) (hR:RdZ w w.heap.size A n c L) (hl:u0.length=m) (hR2:Rd w w.heap.size 2 D m d (sv u0)):
  Calls Tryz.prog 97 #[.slice A n c,.slice D m d,.agg #[.int .i64 x.1.1,.int .i64 x.1.2,.int .i64 x.2.1,.bool x.2.2]] w fun e w'=>e=.returned (.bool (hasB (reachF (zns L) u0 x.2.1) x.1))∧Below w.heap.size w w':=by
 obtain⟨⟨sc,sn⟩,ob,gn⟩:=x
 dsimp only
 have G1:=Hz_ fun (W:World) (hb:Below w.heap.size w W)=>zonesReach_any A D n c m d L u0 ob W (hR.go hb) hl (hR2.go hb)
 have G2:=Hz_ fun (W:World) (A':Option Addr) (c':Nat) (hR:Rd W W.heap.size 2 A' (reachF (zns L) u0 ob).length c' (sv (reachF (zns L) u0 ob)))=>has_any A' _ c' (reachF (zns L) u0 ob) (sc,sn) W rfl hR
 generalize reachF (zns L) u0 ob=r at G1 G2 ⊢
 generalize hasB r (sc,sn)=q at G2 ⊢
 have hb0:Below w.heap.size w (w.alloc (.cells #[.int .i64 sc,.int .i64 sn,.int .i64 ob,.bool gn] 70)):=(Below.refl _ _).alloc (Nat.le_refl _) _
 have hX:=Blk.new w 70 #[.int .i64 sc,.int .i64 sn,.int .i64 ob,.bool gn]
 clear hR hR2 hl
 go_enter Tryz.func97,Tryz.ntmps97
 go_wp2
 generalize hW0:w.alloc (.cells #[.int .i64 sc,.int .i64 sn,.int .i64 ob,.bool gn] 70)=W0 at hb0 hX ⊢
 have HX:=Hz_ fun (W:World) (hk:Below W0.heap.size W0 W)=>(hX.go hk).quad
 have HB:=Hz_ hb0
 have k:Below w.heap.size w W0.drew:=hb0.drew
 have kk:Below W0.heap.size W0 W0.drew:=(Below.refl _ _).drew
 clear hX hb0 hW0
 refine region_nrm fun KK hKK=>?_
 refine wp_region_held_drew (S:=(fun W=>W.cell? ⟨w.heap.size,0,none⟩=some (.int .i64 sc)∧W.cell? ⟨w.heap.size,1,none⟩=some (.int .i64 sn)∧W.cell? ⟨w.heap.size,2,none⟩=some (.int .i64 ob)∧W.cell? ⟨w.heap.size,3,none⟩=some (.bool gn))) (by kernel_rfl) (by first | exact HX.out _ kk) (fun hHeld=>?_)
 refine puA 0 7 (HX.out _ kk) ?_
 refine puA 1 8 (HX.out _ kk) ?_
 refine puA 2 9 (HX.out _ kk) ?_
 refine puA 3 10 (HX.out _ kk) ?_
 refine puA 5 12 (HX.out _ kk) ?_
 refine puA 6 13 (HX.out _ kk) ?_
 refine puR 4 fun K hK=>?_
 go_simp
 refine(G1.out _ k).mono ?_
 rintro e w' ⟨A',c',rfl,ho,hb'⟩
 have k:=btn k hb'
 have kk:=btn kk hb'
 have hr1:=Hz_ (Rd.of_own ho)
 clear hb' ho
 refine hK.out _ _ (HX.out _ kk) fun hHeld=>?_
 clear hK K
 refine puR 7 fun K hK=>?_
 go_simp
 refine(G2.out _ A' c' hr1.out).mono ?_
 rintro e w'' ⟨rfl,hb'⟩
 have k:=btn k hb'
 have kk:=btn kk hb'
 clear hb'
 refine hK.out _ _ (HX.out _ kk) fun hHeld=>?_
 clear hK K
 refine puA 8 6 (HX.out _ kk) ?_
 refine wpAnyH_done (by kernel_rfl) ?_ _
 refine Nrm.out (hKK _ _ ?_)
 go_wp2
 go_ret
 exact⟨rfl,k⟩
theorem refReached_any (u:VV) (v:Vw) (L:List (ZV×Zn)) (M:List (BV×Wq.Bd)) (x:Wr) (w:World) (hV:VwRd w w.heap.size u v L M):
  Calls Tryz.prog 89 #[.agg (vval v u),.agg #[.int .i64 x.1.1,.int .i64 x.1.2,.int .i64 x.2.1,.bool x.2.2]] w fun e w'=>e=.returned (.bool (hasB (reachF v.zones v.known x.2.1) x.1))∧Below w.heap.size w w':=by
 obtain⟨⟨sc,sn⟩,ob,gn⟩:=x
 obtain⟨kA,kc,zA,zc,hA,hc,bA,bc⟩:=u
 obtain⟨known,zones,held,bods,room⟩:=v
 obtain⟨h1,h2,h3,h4,h5,h6⟩:=hV
 unfold vval
 dsimp only at h1 h2 h3 h4 h5 h6 ⊢
 have G1:=Hz_ fun (W:World) (hb:Below w.heap.size w W)=>refZonesReach_any zA kA zones.length zc known.length kc L known ob W (h2.go hb) rfl (h1.go hb)
 rw[h3] at G1
 have G2:=Hz_ fun (W:World) (A':Option Addr) (c':Nat) (hR:Rd W W.heap.size 2 A' (reachF zones known ob).length c' (sv (reachF zones known ob)))=>refHas_any A' _ c' (reachF zones known ob) (sc,sn) W rfl hR
 generalize reachF zones known ob=r at G1 G2 ⊢
 generalize hasB r (sc,sn)=q at G2 ⊢
 generalize known.length=nk at G1 ⊢
 generalize zones.length=nz at G1 ⊢
 generalize held.length=nh at ⊢
 generalize bods.length=nb at ⊢
 clear h1 h2 h3 h4 h5 h6
 have hb0:Below w.heap.size w ((w.alloc (.cells #[.slice kA nk kc,.slice zA nz zc,.slice hA nh hc,.slice bA nb bc,.int .i64 room] 35)).alloc (.cells #[.int .i64 sc,.int .i64 sn,.int .i64 ob,.bool gn] 70)):=((Below.refl _ _).alloc (Nat.le_refl _) _).alloc (by simp) _
 have hY:=(Blk.new w 35 #[.slice kA nk kc,.slice zA nz zc,.slice hA nh hc,.slice bA nb bc,.int .i64 room]).alloc (.cells #[.int .i64 sc,.int .i64 sn,.int .i64 ob,.bool gn] 70)
 have hX:=Blk.new (w.alloc (.cells #[.slice kA nk kc,.slice zA nz zc,.slice hA nh hc,.slice bA nb bc,.int .i64 room] 35)) 70 #[.int .i64 sc,.int .i64 sn,.int .i64 ob,.bool gn]
 rw[World.size_alloc] at hX
 go_enter Tryz.func89,Tryz.ntmps89
 go_wp2
 generalize hW0:(w.alloc (.cells #[.slice kA nk kc,.slice zA nz zc,.slice hA nh hc,.slice bA nb bc,.int .i64 room] 35)).alloc (.cells #[.int .i64 sc,.int .i64 sn,.int .i64 ob,.bool gn] 70)=W0 at hb0 hX hY ⊢
 have HX:=Hz_ fun (W:World) (hk:Below W0.heap.size W0 W)=>(⟨(hY.go hk).five,(hX.go hk).quad⟩:_∧_)
 have HB:=Hz_ hb0
 have k:Below w.heap.size w W0.drew:=hb0.drew
 have kk:Below W0.heap.size W0 W0.drew:=(Below.refl _ _).drew
 clear hX hY hb0 hW0
 refine region_nrm fun KK hKK=>?_
 refine wp_region_held_drew (S:=(fun W=>(W.cell? ⟨w.heap.size,0,none⟩=some (.slice kA nk kc)∧W.cell? ⟨w.heap.size,1,none⟩=some (.slice zA nz zc)∧W.cell? ⟨w.heap.size,2,none⟩=some (.slice hA nh hc)∧W.cell? ⟨w.heap.size,3,none⟩=some (.slice bA nb bc)∧W.cell? ⟨w.heap.size,4,none⟩=some (.int .i64 room))∧(W.cell? ⟨w.heap.size+1,0,none⟩=some (.int .i64 sc)∧W.cell? ⟨w.heap.size+1,1,none⟩=some (.int .i64 sn)∧W.cell? ⟨w.heap.size+1,2,none⟩=some (.int .i64 ob)∧W.cell? ⟨w.heap.size+1,3,none⟩=some (.bool gn)))) (by kernel_rfl) (by first | exact HX.out _ kk) (fun hHeld=>?_)
 refine puA 0 5 (HX.out _ kk) ?_
 refine puA 1 6 (HX.out _ kk) ?_
 refine puA 2 7 (HX.out _ kk) ?_
 refine puA 3 8 (HX.out _ kk) ?_
 refine puA 4 9 (HX.out _ kk) ?_
 refine puA 5 10 (HX.out _ kk) ?_
 refine puA 7 12 (HX.out _ kk) ?_
 refine puA 8 13 (HX.out _ kk) ?_
 refine puR 6 fun K hK=>?_
 go_simp
 refine(G1.out _ k).mono ?_
 rintro e w' ⟨A',c',rfl,ho,hb'⟩
 have k:=btn k hb'
 have kk:=btn kk hb'
 have hr1:=Hz_ (Rd.of_own ho)
 clear hb' ho
 refine hK.out _ _ (HX.out _ kk) fun hHeld=>?_
 clear hK K
 refine puR 9 fun K hK=>?_
 go_simp
 refine(G2.out _ A' c' hr1.out).mono ?_
 rintro e w'' ⟨rfl,hb'⟩
 have k:=btn k hb'
 have kk:=btn kk hb'
 clear hb'
 refine hK.out _ _ (HX.out _ kk) fun hHeld=>?_
 clear hK K
 refine puA 10 4 (HX.out _ kk) ?_
 refine wpAnyH_done (by kernel_rfl) ?_ _
 refine Nrm.out (hKK _ _ ?_)
 go_wp2
 go_ret
 exact⟨rfl,k⟩
end Go.Proofs.YtmbeahbgafkjfaaGreatDoor
namespace Go.Proofs.YtmbeahbgafkjfaaGreatDoor.Wq
def pRep {α:Type} (p:List UInt8→Option (α×List UInt8)):Nat→List UInt8→Option (List α×List UInt8)
 | 0,l=>some ([],l)
 | n+1,l=>match p l with
  | none=>none
  | some (x,r)=>match pRep p n r with
   | none=>none
   | some (v,q)=>some (x :: v,q)
theorem pRep_lay {α:Type} {p:List UInt8→Option (α×List UInt8)} {lay:α→List UInt8}:∀(v:List α) (r:List UInt8),(∀x∈v,∀r,p (lay x++r)=some (x,r))→pRep p v.length (v.flatMap lay++r)=some (v,r)
 | [],r,_=>rfl
 | x :: v,r,h=>by
  rw[List.flatMap_cons,List.append_assoc,List.length_cons,pRep,h x (List.mem_cons_self ..)]
  simp only
  rw[pRep_lay v r fun y hy=>h y (List.mem_cons_of_mem _ hy)]
def pTwo {α β:Type} (p:List UInt8→Option (α×List UInt8)) (q:List UInt8→Option (β×List UInt8)) (l:List UInt8):Option ((α×β)×List UInt8):=match p l with
 | none=>none
 | some (x,r)=>match q r with
  | none=>none
  | some (y,s)=>some ((x,y),s)
theorem pTwo_lay {α β:Type} {p:List UInt8→Option (α×List UInt8)} {q:List UInt8→Option (β×List UInt8)} {u v r:List UInt8} {x:α} {y:β} (h1:p (u++(v++r))=some (x,v++r)) (h2:q (v++r)=some (y,r)):pTwo p q ((u++v)++r)=some ((x,y),r):=by
 unfold pTwo
 rw[List.append_assoc,h1]
 simp only
 rw[h2]
def pI (l:List UInt8):Option (Int×List UInt8):=match pN l with
 | none=>none
 | some (n,r)=>some ((n:Int),r)
theorem pI_lay {x:Int} (h:u63 x) (r:List UInt8):pI (lI x++r)=some (x,r):=by
 unfold pI lI
 rw[pN_layI h]
 simp only[Int.toNat_of_nonneg h.1]
def pZn (l:List UInt8):Option (Zn×List UInt8):=match pTwo pI (pTwo pI pV) l with
 | none=>none
 | some ((lo,hi,v),r)=>some (((lo,hi),v),r)
def znC (x:Zn):Prop:=(u63 x.1.1∧u63 x.1.2)∧fm (-1) x.2=true∧cts x.2
theorem pZn_lay {x:Zn} (h:znC x) (r:List UInt8):pZn (lZn x++r)=some (x,r):=by
 obtain⟨⟨h1,h2⟩,h3,h4⟩:=h
 unfold pZn lZn
 rw[pTwo_lay (p:=pI) (q:=pTwo pI pV) (x:=x.1.1) (y:=(x.1.2,x.2)) (pI_lay h1 _) (pTwo_lay (pI_lay h2 _) (pV_lay h3 h4 r))]
def pHd (l:List UInt8):Option (Wr×List UInt8):=match pTwo pI (pTwo pI (pTwo pI pI)) l with
 | none=>none
 | some ((o,n,c,g),r)=>if g=0 then some (((c,n),o,false),r) else if g=1 then some (((c,n),o,true),r) else none
def hdC (w:Wr):Prop:=u63 w.2.1∧u63 w.1.2∧u63 w.1.1
theorem u63_g (b:Bool):u63 (if b=true then 1 else 0):=by cases b<;>simp[u63]
theorem pHd_lay {w:Wr} (h:hdC w) (r:List UInt8):pHd (lHd w++r)=some (w,r):=by
 obtain⟨h1,h2,h3⟩:=h
 unfold pHd lHd
 rw[pTwo_lay (p:=pI) (x:=w.2.1) (y:=(w.1.2,w.1.1,(if w.2.2=true then (1:Int) else 0))) (pI_lay h1 _) (pTwo_lay (pI_lay h2 _) (pTwo_lay (pI_lay h3 _) (pI_lay (u63_g w.2.2) r)))]
 obtain⟨⟨c,n⟩,o,g⟩:=w
 cases g<;>simp
def pLst {α:Type} (p:List UInt8→Option (α×List UInt8)) (l:List UInt8):Option (List α×List UInt8):=match pN l with
 | none=>none
 | some (n,r)=>pRep p n r
theorem pLst_lay {α:Type} {p:List UInt8→Option (α×List UInt8)} {lay:α→List UInt8} {v:List α} (r:List UInt8) (hl:v.length < 9223372036854775808) (h:∀x∈v,∀r,p (lay x++r)=some (x,r)):pLst p ((Pk.lay v.length++v.flatMap lay)++r)=some (v,r):=by
 unfold pLst
 rw[List.append_assoc,pN_lay hl]
 exact pRep_lay v r h
def pVw (l:List UInt8):Option (Vw×List UInt8):=match pTwo pV (pTwo (pLst pZn) (pTwo (pLst pHd) (pTwo (pLst pB) pI))) l with
 | none=>none
 | some ((k,z,h,b,m),r)=>some (⟨k,z,h,b,m⟩,r)
structure VwC (v:Vw):Prop where
 k:fm (-1) v.known=true∧cts v.known
 z:v.zones.length < 9223372036854775808∧∀x∈v.zones,znC x
 h:v.held.length < 9223372036854775808∧∀x∈v.held,hdC x
 b:v.bods.length < 9223372036854775808∧∀x∈v.bods,bdF x=true∧x.s.1 < 9223372036854775808
 r:u63 v.room
theorem pVw_lay {v:Vw} (h:VwC v) (r:List UInt8):pVw (lVw v++r)=some (v,r):=by
 have e:lVw v=lV v.known++((Pk.lay v.zones.length++v.zones.flatMap lZn)++((Pk.lay v.held.length++v.held.flatMap lHd)++((Pk.lay v.bods.length++v.bods.flatMap lB)++lI v.room))):=by unfold lVw;simp
 unfold pVw
 rw[e,pTwo_lay (p:=pV) (x:=v.known) (y:=(v.zones,v.held,v.bods,v.room)) (pV_lay h.k.1 h.k.2 _) (pTwo_lay (pLst_lay _ h.z.1 fun x hx r=>pZn_lay (h.z.2 x hx) r) (pTwo_lay (pLst_lay _ h.h.1 fun x hx r=>pHd_lay (h.h.2 x hx) r) (pTwo_lay (pLst_lay _ h.b.1 fun x hx r=>pB_lay (h.b.2 x hx).1 (h.b.2 x hx).2 r) (pI_lay h.r r))))]
def pSb (l:List UInt8):Option (Sb×List UInt8):=match pTwo pI pS l with
 | none=>none
 | some ((f,i),r)=>some (⟨f,i,0,0,false,false,false⟩,r)
theorem pSb_lay {s:Sb} (h1:u63 s.from_) (h2:Sn.fmS (-2) s.int=true) (h3:sbZ s=true) (r:List UInt8):pSb (lSb s++r)=some (s,r):=by
 unfold pSb lSb
 rw[pTwo_lay (p:=pI) (q:=pS) (x:=s.from_) (y:=s.int) (pI_lay h1 _) (pS_lay h2 r)]
 obtain⟨f,i,a,b,c,d,e⟩:=s
 unfold sbZ at h3
 simp only[Bool.and_eq_true,decide_eq_true_eq,Bool.not_eq_true'] at h3
 obtain⟨⟨rfl,rfl⟩,rfl,rfl,rfl⟩:=h3
 rfl
end Go.Proofs.YtmbeahbgafkjfaaGreatDoor.Wq
namespace Go.Proofs.YtmbeahbgafkjfaaGreatDoor.Wq
def bdz:Bd:=⟨0,(0,0),[]⟩
def ntz:Nt:=⟨[],[],[],[]⟩
def vw0:Vw:=⟨[],[],[],[],0⟩
theorem isEmpty_nil {α:Type} {l:List α} (h:l.isEmpty=true):l=[]:=List.isEmpty_iff.1 h
theorem bareB_is {x:Bd} (h:bareB x=true):x=bdz:=by
 unfold bareB at h
 simp only[Bool.and_eq_true,decide_eq_true_eq] at h
 obtain⟨o,s,v⟩:=x
 obtain⟨h1,h2,h3⟩:=h
 have:=isEmpty_nil h3
 simp only at h1 h2 this
 rw[h1,h2,this];rfl
theorem emptyN_is {x:Nt} (h:emptyN x=true):x=ntz:=by
 unfold emptyN at h
 simp only[Bool.and_eq_true] at h
 obtain⟨⟨h1,h2⟩,h3,h4⟩:=h
 obtain⟨a,b,c,d⟩:=x
 have:=isEmpty_nil h1
 have:=isEmpty_nil h2
 have:=isEmpty_nil h3
 have:=isEmpty_nil h4
 simp_all [ntz]
theorem blankV_is {x:Vw} (h:blankV x=true):x=vw0:=by
 unfold blankV at h
 simp only[Bool.and_eq_true,decide_eq_true_eq] at h
 obtain⟨⟨⟨h1,h2⟩,h3,h4⟩,h5⟩:=h
 obtain⟨a,b,c,d,e⟩:=x
 have:=isEmpty_nil h1
 have:=isEmpty_nil h2
 have:=isEmpty_nil h3
 have:=isEmpty_nil h4
 simp_all [vw0]
theorem noSub_is {x:Ent} (h:noSub x=true):x.from_=0∧x.int=[]:=by
 unfold noSub at h
 simp only[Bool.and_eq_true,decide_eq_true_eq] at h
 exact⟨h.1,isEmpty_nil h.2⟩
theorem noChk_is {x:Ent} (h:noChk x=true):x.view=vw0∧x.subs=[]:=by
 unfold noChk at h
 simp only[Bool.and_eq_true] at h
 exact⟨blankV_is h.1,isEmpty_nil h.2⟩
def pEnt (l:List UInt8):Option (Ent×List UInt8):=match pI l with
 | none=>none
 | some (k,r)=>
  if k=1 then match pNt r with
   | none=>none
   | some (n,q)=>some (⟨k,n,bdz,0,[],vw0,[]⟩,q)
  else if k=2 then match pB r with
   | none=>none
   | some (b,q)=>some (⟨k,ntz,b,0,[],vw0,[]⟩,q)
  else if k=3 then match pNt r with
   | none=>none
   | some (n,q)=>match n.w with
    | []=>some (⟨k,n,bdz,0,[],vw0,[]⟩,q)
    | w :: _=>if w.2.2=true then some (⟨k,n,bdz,0,[],vw0,[]⟩,q) else match pB q with
     | none=>none
     | some (b,s)=>some (⟨k,n,b,0,[],vw0,[]⟩,s)
  else if k=4 then match pTwo pI pS r with
   | none=>none
   | some ((f,i),q)=>some (⟨k,ntz,bdz,f,i,vw0,[]⟩,q)
  else if k=5 then match pTwo pVw (pLst pSb) r with
   | none=>none
   | some ((v,s),q)=>some (⟨k,ntz,bdz,0,[],v,s⟩,q)
  else some (⟨k,ntz,bdz,0,[],vw0,[]⟩,r)
def decE (l:List UInt8):Option Ent:=match pEnt l with
 | some (x,[])=>if entF x=true then some x else none
 | _=>none
structure EntC (x:Ent):Prop where
 n:ntC x.note
 b:x.body.s.1 < 9223372036854775808
 k:cts x.view.known
 z:∀y∈x.view.zones,cts y.2
 h:∀w∈x.view.held,w.1.1 < 9223372036854775808
 y:∀y∈x.view.bods,y.s.1 < 9223372036854775808
theorem shF_hd:∀{l:List Wr} {last:Int},shF last l=true→∀w∈l,0≤w.2.1∧w.2.1≤255∧0 < w.1.1∧0≤w.1.2∧w.1.2 < 64
 | [],_,_,w,hw=>by cases hw
 | x :: r,last,h,w,hw=>by
  rw[shF] at h
  simp only[Bool.and_eq_true,decide_eq_true_eq] at h
  rcases List.mem_cons.1 hw with rfl | hw
  ·obtain⟨⟨⟨h1,h2⟩,h3⟩,_⟩:=h
   obtain⟨a,b,c⟩:=(Vc.right_iff _).1 h3
   exact⟨h1,h2,a,b,c⟩
  ·exact shF_hd h.2.2 w hw
theorem shF_len:∀{l:List Wr} {last:Int},shF last l=true→-1≤last→(l.length:Int)≤255 - last∨l=[]
 | [],_,_,_=>Or.inr rfl
 | x :: r,last,h,hl=>by
  rw[shF] at h
  simp only[Bool.and_eq_true,decide_eq_true_eq] at h
  left
  rcases shF_len h.2.2 (by omega) with h1 | rfl
  ·rw[List.length_cons];omega
  ·rw[List.length_cons,List.length_nil];omega
theorem newsB_all:∀{l:List Bd} {seen:List Int},newsB seen l=true→∀x∈l,bdF x=true
 | [],_,_,x,hx=>by cases hx
 | y :: r,seen,h,x,hx=>by
  rw[newsB] at h
  simp only[Bool.and_eq_true] at h
  rcases List.mem_cons.1 hx with rfl | hx
  ·exact h.1.2
  ·exact newsB_all h.2 x hx
theorem zF_all:∀{l:List Zn} {e:Int} {p:Option (List Vc.St)},zF e p l=true→-1≤e→(∀x∈l,(0≤x.1.1∧x.1.1≤x.1.2∧x.1.2≤255)∧fm (-1) x.2=true)∧(l.length:Int)≤255 - e∨l=[]
 | [],_,_,_,_=>Or.inr rfl
 | y :: r,e,p,h,he=>by
  rw[zF,Bool.and_eq_true] at h
  obtain⟨h1,h2⟩:=h
  unfold zStep at h1
  simp only[Bool.and_eq_true,decide_eq_true_eq] at h1
  obtain⟨⟨a,b,c⟩,d,_⟩:=h1
  left
  rcases zF_all h2 (by omega) with ⟨h3,h4⟩ | rfl
  ·refine⟨fun x hx=>?_,by rw[List.length_cons];omega⟩
   rcases List.mem_cons.1 hx with rfl | hx
   ·exact⟨⟨by omega,b,c⟩,d⟩
   ·exact h3 x hx
  ·refine⟨fun x hx=>?_,by simp;omega⟩
   rw[List.mem_singleton] at hx
   subst hx
   exact⟨⟨by omega,b,c⟩,d⟩
theorem vwF_parts {v:Vw} (h:vwF v=true):fm (-1) v.known=true∧zF (-1) none v.zones=true∧shF (-1) v.held=true∧caF v.bods v.room=true:=by
 unfold vwF at h
 simp only[Bool.and_eq_true] at h
 exact⟨h.1.1,h.1.2.1,h.1.2.2.1,h.1.2.2.2⟩
theorem vwC_of {x:Ent} (h:vwF x.view=true) (hc:EntC x):VwC x.view:=by
 obtain⟨h1,h2,h3,h4⟩:=vwF_parts h
 unfold caF at h4
 simp only[Bool.and_eq_true,decide_eq_true_eq] at h4
 obtain⟨⟨r0,r1,r2⟩,r3,_⟩:=h4
 refine⟨⟨h1,hc.k⟩,?_,?_,⟨by omega,fun y hy=>⟨newsB_all r3 y hy,hc.y y hy⟩⟩,⟨r0,by omega⟩⟩
 ·rcases zF_all h2 (by omega) with ⟨a,b⟩ | e
  ·refine⟨by omega,fun y hy=>⟨⟨⟨(a y hy).1.1,?_⟩,⟨?_,?_⟩⟩,(a y hy).2,hc.z y hy⟩⟩<;>have:=(a y hy).1<;>omega
  ·rw[e];exact⟨by simp,fun y hy=>by cases hy⟩
 ·refine⟨?_,fun w hw=>?_⟩
  ·rcases shF_len h3 (by omega) with a | e
   ·omega
   ·rw[e];simp
  ·obtain⟨a,b,c,d,e⟩:=shF_hd h3 w hw
   exact⟨⟨a,by omega⟩,⟨d,by omega⟩,⟨by omega,hc.h w hw⟩⟩
theorem rstF_all:∀{l:List Sb} {last:Int},rstF last l=true→-1≤last→∀s∈l,u63 s.from_∧Sn.fmS (-2) s.int=true∧sbZ s=true
 | [],_,_,_,s,hs=>by cases hs
 | y :: r,last,h,hl,s,hs=>by
  rw[rstF,Bool.and_eq_true] at h
  obtain⟨h1,h2⟩:=h
  unfold sbF at h1
  simp only[Bool.and_eq_true,decide_eq_true_eq] at h1
  obtain⟨⟨a,b⟩,⟨_,c⟩,d⟩:=h1
  rcases List.mem_cons.1 hs with rfl | hs
  ·exact⟨⟨by omega,by omega⟩,c,d⟩
  ·exact rstF_all h2 (by omega) s hs
theorem decE_enc {x:Ent} (h:entF x=true) (hc:EntC x):decE (lEnt x)=some x:=by
 have hh:=h
 obtain⟨kind,note,body,from_,int,view,subs⟩:=x
 unfold entF at hh
 simp only at hh
 suffices hp:pEnt (lEnt ⟨kind,note,body,from_,int,view,subs⟩)=some (⟨kind,note,body,from_,int,view,subs⟩,[]) by
  unfold decE
  rw[hp]
  simp only
  rw[if_pos h]
 unfold pEnt lEnt
 by_cases k1:kind=1
 ·subst k1
  simp only[if_true,Bool.and_eq_true] at hh
  obtain⟨a,b,c,d⟩:=hh
  have e1:=bareB_is b
  obtain⟨e2,e3⟩:=noSub_is c
  obtain⟨e4,e5⟩:=noChk_is d
  simp only at e1 e2 e3 e4 e5
  subst e1 e2 e3 e4 e5
  rw[pI_lay (x:=1) (show Wq.u63 1 from ⟨by decide,by decide⟩)]
  simp only[if_true]
  have:=pNt_lay a hc.n []
  rw[List.append_nil] at this
  rw[this]
 ·by_cases k2:kind=2
  ·subst k2
   simp only[if_true,if_neg k1,Bool.and_eq_true] at hh
   obtain⟨a,b,c,d⟩:=hh
   have e1:=emptyN_is a
   obtain⟨e2,e3⟩:=noSub_is c
   obtain⟨e4,e5⟩:=noChk_is d
   simp only at e1 e2 e3 e4 e5
   subst e1 e2 e3 e4 e5
   rw[pI_lay (x:=2) (show Wq.u63 2 from ⟨by decide,by decide⟩)]
   simp only[if_true,if_neg k1]
   have:=pB_lay b hc.b []
   rw[List.append_nil] at this
   rw[this]
  ·by_cases k3:kind=3
   ·subst k3
    simp only[if_true,if_neg k1,if_neg k2,Bool.and_eq_true] at hh
    obtain⟨⟨c,d⟩,f⟩:=hh
    obtain⟨e2,e3⟩:=noSub_is c
    obtain⟨e4,e5⟩:=noChk_is d
    simp only at e2 e3 e4 e5
    subst e2 e3 e4 e5
    rw[pI_lay (x:=3) (show Wq.u63 3 from ⟨by decide,by decide⟩)]
    simp only[if_true,if_neg k1,if_neg k2]
    rcases hw:note.w with _ | ⟨w,r⟩
    ·rw[hw] at f;cases f
    ·rw[hw] at f
     rcases r with _ | ⟨w2,r⟩
     ·simp only[Bool.and_eq_true] at f
      obtain⟨a,b⟩:=f
      unfold ofWr at b
      simp only
      by_cases hg:w.2.2=true
      ·rw[if_pos hg] at b
       have e1:=bareB_is b
       subst e1
       rw[if_pos hg]
       have:=pNt_lay a hc.n []
       rw[this]
       simp only
       rw[hw]
       simp only
       rw[if_pos hg]
      ·rw[if_neg hg] at b
       simp only[Bool.and_eq_true,decide_eq_true_eq] at b
       rw[if_neg hg,pNt_lay a hc.n]
       simp only
       rw[hw]
       simp only
       rw[if_neg hg]
       have:=pB_lay b.1 hc.b []
       rw[List.append_nil] at this
       rw[this]
     ·cases f
   ·by_cases k4:kind=4
    ·subst k4
     simp only[if_true,if_neg k1,if_neg k2,if_neg k3,Bool.and_eq_true,decide_eq_true_eq] at hh
     obtain⟨⟨a,b,c⟩,⟨d1,d2⟩,d3⟩:=hh
     have e1:=emptyN_is a
     have e2:=bareB_is b
     obtain⟨e4,e5⟩:=noChk_is c
     simp only at e1 e2 e4 e5
     subst e1 e2 e4 e5
     rw[pI_lay (x:=4) (show Wq.u63 4 from ⟨by decide,by decide⟩)]
     simp only[if_true,if_neg k1,if_neg k2,if_neg k3]
     have:=pTwo_lay (p:=pI) (q:=pS) (r:=[]) (pI_lay (x:=from_) ⟨d1,by omega⟩ _) (pS_lay d3 [])
     rw[List.append_nil] at this
     rw[this]
    ·by_cases k5:kind=5
     ·subst k5
      simp only[if_true,if_neg k1,if_neg k2,if_neg k3,if_neg k4,Bool.and_eq_true] at hh
      obtain⟨⟨a,b,c⟩,d,e⟩:=hh
      have e1:=emptyN_is a
      have e2:=bareB_is b
      obtain⟨e4,e5⟩:=noSub_is c
      simp only at e1 e2 e4 e5
      subst e1 e2 e4 e5
      unfold restF at e
      simp only[Bool.and_eq_true,decide_eq_true_eq] at e
      rw[pI_lay (x:=5) (show Wq.u63 5 from ⟨by decide,by decide⟩)]
      simp only[if_true,if_neg k1,if_neg k2,if_neg k3,if_neg k4]
      have:=pTwo_lay (p:=pVw) (q:=pLst pSb) (r:=[]) (pVw_lay (vwC_of d hc) _) (pLst_lay (p:=pSb) (lay:=lSb) (v:=subs) [] (by omega) fun s hs r=>by
       obtain⟨f1,f2,f3⟩:=rstF_all e.1 (by omega) s hs
       exact pSb_lay f1 f2 f3 r)
      rw[List.append_nil] at this
      rw[this]
     ·simp only[if_neg k1,if_neg k2,if_neg k3,if_neg k4,if_neg k5] at hh
      cases hh
end Go.Proofs.YtmbeahbgafkjfaaGreatDoor.Wq
namespace Go.Proofs.YtmbeahbgafkjfaaGreatDoor
open Go.RowKit
def w0_:Wr:=((0,0),0,false)
def wcA (q:Wr):Array Value:=#[.int .i64 q.1.1,.int .i64 q.1.2,.int .i64 q.2.1,.bool q.2.2]
theorem wcA_one (q:Wr):(wcA q).all (·.oneCell')=true:=by simp[wcA,Value.oneCell']
theorem write_zero:(Tryz.prog.info? 70).map (fun i=>(i.zero,i.size))=some (some (.agg (wcA w0_)),4):=by kernel_rfl
def AtP (w:World) (q:Wr) (b:Bool) (e:Ending) (w':World):Prop:=e=.returned (.tuple #[.agg (wcA q),.bool b])∧Below w.heap.size w w'
theorem AtP.mk {w w':World} {q:Wr} {b:Bool} {e:Ending} (h1:e=.returned (.tuple #[.agg (wcA q),.bool b])) (h2:Below w.heap.size w w'):AtP w q b e w':=⟨h1,h2⟩
def atQ (l:List Wr) (o:Int):Wr:=(atO l o).getD w0_
def atB (l:List Wr) (o:Int):Bool:=(atO l o).isSome
theorem refAt_any (A:Option Addr) (n c:Nat) (l:List Wr) (o:Int) (w:World) (hl:l.length=n) (hR:Rd w w.heap.size 4 A n c (wv l)):
  Calls Tryz.prog 158 #[.slice A n c,.int .i64 o] w (AtP w (atQ l o) (atB l o)):=by
 obtain⟨hzz,hi⟩:=zero_of_info write_zero
 have HI:=Hz_ hi
 have hmax:n≤9223372036854775807:=by have h1:=hR.cap;have h2:=hR.max;unfold maxLen at h2;omega
 have hq:atQ l o=(atO l o).getD w0_:=rfl
 have hB:atB l o=(atO l o).isSome:=rfl
 generalize atQ l o=Q at hq ⊢
 generalize atB l o=B at hB ⊢
 have HQ:=Hz_ hq
 have HB:=Hz_ hB
 have HL:=Hz_ hl
 have HR:=Hz_ hR
 clear hq hB hl hR hi
 go_enter Tryz.func158,Tryz.ntmps158
 go_wp2
 go_loopw [6] (fun i wr=>∃k:Nat,k≤n∧i=.int .i64 k∧Below w.heap.size w wr∧Blk wr w.heap.size 70 (wcA w0_)∧Hid (atO l o=atO (l.drop k) o)) (fun i _=>n - (intOf i).toNat)
 case atStart=>exact⟨0,by omega,rfl,(Below.refl _ _).alloc (Nat.le_refl _) _,Blk.new _ _ _,rfl⟩
 case round=>
  obtain⟨k,hk,rfl,hb,hblk,hf⟩:=hrel
  have HK:=Hz_ hblk
  have HBw:=Hz_ hb
  by_cases hlt:k < n
  ·have hkl:k < l.length:=by rw[HL.out];exact hlt
   obtain⟨b,off,rfl,hbb,g0,g1,g2,g3⟩:=(HR.out.below hb).write HL.out hkl
   have hd:=atO_drop l o k hkl
   have hst:l[k]=((l[k].1.1,l[k].1.2),l[k].2.1,l[k].2.2):=rfl
   generalize l[k].1.1=sc at g0 hst
   generalize l[k].1.2=sn at g1 hst
   generalize l[k].2.1=ob at g2 hst hd
   generalize l[k].2.2=gn at g3 hst
   by_cases he:ob=o
   ·subst he
    rw[if_pos rfl,hst] at hd
    have HD:=Hz_ (hf.out.trans hd)
    clear hd hst hb hblk hf
    go_wp2_with (refine wpList_store_blk rfl 70 _ _ rfl w.heap.size 70 _ (wcA ((sc,sn),ob,gn)) rfl rfl HK.out HI.out rfl (wcA_one _) ?_;intro w4 hk4 hg4)
    refine bodyPost_ret (results_cell_tmp rfl _ _ w.heap.size 70 _ _ _ rfl hk4 Tryz.underlying70 rfl HI.out) rfl (AtP.mk ?_ (HBw.out.trans (grown_below hg4 HBw.out.size (fun k hk=>by cases hk;exact Nat.le_refl _))))
    rw[HQ.out,HB.out,HD.out];rfl
   ·rw[if_neg he] at hd
    have HD:=Hz_ (hf.out.trans hd)
    clear hd hst hb hblk hf
    go_wp2
    go_roundw
    case rel=>exact⟨k+1,by omega,by go_num,HBw.out,HK.out,HD.out⟩
    case measure=>simp[intOf];omega
  ·obtain rfl:k=n:=by omega
   have HN:=Hz_ (show atO l o=none by rw[hf.out,List.drop_of_length_le (by rw[HL.out];exact Nat.le_refl _)];rfl)
   clear hb hblk hf
   go_wp2_with (refine wpList_store_blk rfl 70 _ _ rfl w.heap.size 70 _ (wcA w0_) rfl rfl HK.out HI.out rfl (wcA_one _) ?_;intro w4 hk4 hg4)
   refine bodyPost_ret (results_cell_tmp rfl _ _ w.heap.size 70 _ _ _ rfl hk4 Tryz.underlying70 rfl HI.out) rfl (AtP.mk ?_ (HBw.out.trans (grown_below hg4 HBw.out.size (fun k hk=>by cases hk;exact Nat.le_refl _))))
   rw[HQ.out,HB.out,HN.out];rfl
end Go.Proofs.YtmbeahbgafkjfaaGreatDoor
