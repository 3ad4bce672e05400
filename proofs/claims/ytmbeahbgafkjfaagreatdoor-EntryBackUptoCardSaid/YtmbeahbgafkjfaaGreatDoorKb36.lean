/- Lemmas for the claim, layer 36. -/
import Derived.Test.YtmbeahbgafkjfaaGreatDoorKb35
set_option maxRecDepth 100000
set_option linter.unusedSimpArgs false
set_option maxHeartbeats 16000000
namespace Go.Proofs.YtmbeahbgafkjfaaGreatDoor
open Wq
def ent1 (x:Ent):Ent:=⟨1,x.note,bdz,0,[],vw0,[]⟩
def ent2 (x:Ent):Ent:=⟨2,ntz,x.body,0,[],vw0,[]⟩
def ent3 (x:Ent):Ent:=⟨3,x.note,x.body,0,[],vw0,[]⟩
def ent4 (x:Ent):Ent:=⟨4,ntz,bdz,x.from_,x.int,vw0,[]⟩
def ent5 (x:Ent):Ent:=⟨5,ntz,bdz,0,[],x.view,x.subs⟩
theorem bareB_iff (x:Bd):bareB x=true↔x=bdz:=⟨bareB_is,fun h=>by rw[h];rfl⟩
theorem emptyN_iff (x:Nt):emptyN x=true↔x=ntz:=⟨emptyN_is,fun h=>by rw[h];rfl⟩
theorem noSub_iff (x:Ent):noSub x=true↔x.from_=0∧x.int=[]:=⟨noSub_is,fun h=>by unfold noSub;rw[h.1,h.2];rfl⟩
theorem noChk_iff (x:Ent):noChk x=true↔x.view=vw0∧x.subs=[]:=⟨noChk_is,fun h=>by unfold noChk;rw[h.1,h.2];rfl⟩
theorem ent_iff (x:Ent) (k:Int) (n:Nt) (b:Bd) (f:Int) (i:List Sn.Sp) (v:Vw) (s:List Sb):x=⟨k,n,b,f,i,v,s⟩↔x.kind=k∧x.note=n∧x.body=b∧x.from_=f∧x.int=i∧x.view=v∧x.subs=s:=by
 obtain⟨a1,a2,a3,a4,a5,a6,a7⟩:=x
 simp
theorem same1 (x:Ent) (h:x.kind=1):entE x (ent1 x)=(bareB x.body && (noSub x && noChk x)):=by
 rw[Bool.eq_iff_iff,entE_iff,ent1,ent_iff,Bool.and_eq_true,Bool.and_eq_true,bareB_iff,noSub_iff,noChk_iff]
 exact⟨fun ⟨_,_,a,b,c,d,e⟩=>⟨a,⟨b,c⟩,d,e⟩,fun ⟨a,⟨b,c⟩,d,e⟩=>⟨h,rfl,a,b,c,d,e⟩⟩
theorem same2 (x:Ent) (h:x.kind=2):entE x (ent2 x)=(emptyN x.note && (noSub x && noChk x)):=by
 rw[Bool.eq_iff_iff,entE_iff,ent2,ent_iff,Bool.and_eq_true,Bool.and_eq_true,emptyN_iff,noSub_iff,noChk_iff]
 exact⟨fun ⟨_,a,_,b,c,d,e⟩=>⟨a,⟨b,c⟩,d,e⟩,fun ⟨a,⟨b,c⟩,d,e⟩=>⟨h,a,rfl,b,c,d,e⟩⟩
theorem same3 (x:Ent) (h:x.kind=3):entE x (ent3 x)=(noSub x && noChk x):=by
 rw[Bool.eq_iff_iff,entE_iff,ent3,ent_iff,Bool.and_eq_true,noSub_iff,noChk_iff]
 exact⟨fun ⟨_,_,_,b,c,d,e⟩=>⟨⟨b,c⟩,d,e⟩,fun ⟨⟨b,c⟩,d,e⟩=>⟨h,rfl,rfl,b,c,d,e⟩⟩
theorem same4 (x:Ent) (h:x.kind=4):entE x (ent4 x)=(emptyN x.note && (bareB x.body && noChk x)):=by
 rw[Bool.eq_iff_iff,entE_iff,ent4,ent_iff,Bool.and_eq_true,Bool.and_eq_true,emptyN_iff,bareB_iff,noChk_iff]
 exact⟨fun ⟨_,a,b,_,_,d,e⟩=>⟨a,b,d,e⟩,fun ⟨a,b,d,e⟩=>⟨h,a,b,rfl,rfl,d,e⟩⟩
theorem same5 (x:Ent) (h:x.kind=5):entE x (ent5 x)=(emptyN x.note && (bareB x.body && noSub x)):=by
 rw[Bool.eq_iff_iff,entE_iff,ent5,ent_iff,Bool.and_eq_true,Bool.and_eq_true,emptyN_iff,bareB_iff,noSub_iff]
 exact⟨fun ⟨_,a,b,d,e,_,_⟩=>⟨a,b,d,e⟩,fun ⟨a,b,d,e⟩=>⟨h,a,b,d,e,rfl,rfl⟩⟩
theorem entF_1 (x:Ent) (h:x.kind=1):entF x=(ntF x.note && entE x (ent1 x)):=by
 rw[same1 x h];unfold entF;rw[if_pos h]
theorem entF_2 (x:Ent) (h:x.kind=2):entF x=(bdF x.body && entE x (ent2 x)):=by
 rw[same2 x h];unfold entF;rw[if_neg (by rw[h];decide),if_pos h]
 cases emptyN x.note<;>cases bdF x.body<;>simp
theorem entF_3 (x:Ent) (h:x.kind=3):entF x=(entE x (ent3 x) && (match x.note.w with | [w]=>ntF x.note && ofWr w x.body | _=>false)):=by
 rw[same3 x h];unfold entF;rw[if_neg (by rw[h];decide),if_neg (by rw[h];decide),if_pos h]
 rfl
theorem entF_4 (x:Ent) (h:x.kind=4):entF x=(((decide (0≤x.from_) && decide (x.from_≤63)) && Sn.fmS (-2) x.int) && entE x (ent4 x)):=by
 rw[same4 x h];unfold entF;rw[if_neg (by rw[h];decide),if_neg (by rw[h];decide),if_neg (by rw[h];decide),if_pos h]
 exact Bool.and_comm _ _
theorem entF_5 (x:Ent) (h:x.kind=5):entF x=((vwF x.view && restF x.subs) && entE x (ent5 x)):=by
 rw[same5 x h];unfold entF;rw[if_neg (by rw[h];decide),if_neg (by rw[h];decide),if_neg (by rw[h];decide),if_neg (by rw[h];decide),if_pos h]
 exact Bool.and_comm _ _
theorem entF_no (x:Ent) (h:¬ (x.kind=1∨x.kind=2∨x.kind=3∨x.kind=4∨x.kind=5)):entF x=false:=by
 unfold entF
 rw[if_neg (by omega),if_neg (by omega),if_neg (by omega),if_neg (by omega),if_neg (by omega)]
open Go.RowKit Wq
theorem entF_3b (x:Ent) (h:x.kind=3):entF x=(entE x (ent3 x) && oneW x):=entF_3 x h
open Go.RowKit
theorem entLay_any (A A2:Option Addr) (n c m c2:Nat) (l:List UInt8) (xs:List Int) (w:World) (hl:l.length=n) (hR:Rd w w.heap.size 1 A n c (bv l)) (hx:xs.length=m) (hR2:Rd w w.heap.size 1 A2 m c2 (iv xs))
  (hu:∀x∈xs,Wq.u63 x) (h0:0 < m) (hn:n+9 * m≤140737488355328):
  Calls Tryz.prog 27 #[.slice A n c,.slice A2 m c2] w fun e w'=>∃v,e=.returned v∧BytesAre w.heap.size w (l++layAll xs) v w':=by
 have hmax:m≤9223372036854775807:=by have h1:=hR2.cap;have h2:=hR2.max;unfold maxLen at h2;omega
 have HLA:=Hz_ (layAll_len)
 have HL:=Hz_ hl
 have HX:=Hz_ hx
 have HU:=Hz_ hu
 have HR:=Hz_ hR
 clear hl hu hR
 go_enter Tryz.func27,Tryz.ntmps27
 go_wp2
 go_loopw [0,6,9] (fun v0 _ v9 wr=>∃(k N c':Nat) (A':Option Addr),v9=.int .i64 k∧v0=.slice A' N c'∧k≤m∧N≤n+9 * k∧Rd wr wr.heap.size 1 A' N c' (bv (l++layAll (xs.take k)))∧Below w.heap.size w wr ∧
  Hid ((l++layAll (xs.take k)).length=N∧(0 < k→wr.ownsRow w.heap.size 5 1 (.slice A' N c') N (bv (l++layAll (xs.take k)))))) (fun _ _ v9 _=>m - (intOf v9).toNat)
 case atStart=>exact⟨0,n,c,A,rfl,rfl,by omega,by omega,by simpa[layAll] using HR.out,Below.refl _ _,by simp[layAll,HL.out],fun h=>absurd h (by omega)⟩
 case round=>
  obtain⟨k,N,c',A',rfl,rfl,hk,hN,hR1,hb,hq⟩:=hrel
  have hbs:=hb.size
  by_cases hlt:k < m
  ·have hkx:k < xs.length:=by rw[HX.out];exact hlt
   obtain⟨ad,u,rfl,hab,hu1,hc1⟩:=hR2.at_ hlt
   rw[iv_at xs k hkx] at hu1
   obtain⟨y,hy⟩:∃y:Nat,xs[k]=(y:Int):=⟨xs[k].toNat,by have:=(HU.out _ (List.getElem_mem hkx)).1;omega⟩
   have hylt:y < 9223372036854775808:=by have:=(HU.out _ (List.getElem_mem hkx)).2;omega
   have hy9:=Pk.lay_len9 hylt
   have ht:=layAll_take xs k hkx
   rw[hy,Int.toNat_natCast] at ht
   have HT:=Hz_ ht
   rw[hy] at hu1
   simp only[Option.some.injEq] at hu1
   subst hu1
   have q1:=(hb.cell (p:=ad.add k) (by rw[block_of_add];exact hab)).trans hc1
   have G:=Hz_ (appendNumber_any A' N c' y (l++layAll (xs.take k)) wr hq.out.1 hR1 (by omega) hy9)
   have HY9:=Hz_ hy9
   obtain⟨ly,hly⟩:∃ly,ly=(Pk.lay y).length:=⟨_,rfl⟩
   rw[←hly] at G hy9
   have HLY:=Hz_ hly
   clear hR1 ht hy hkx hylt hly hc1 hR2
   go_wp2_with fail
   refine G.out.mono ?_
   rintro e w2 ⟨A2,c3,rfl,ho2,hb2⟩
   go_wp2
   go_roundw
   case rel=>
    have e1:l++layAll (xs.take (k+1))=l++layAll (xs.take k)++Pk.lay y:=by rw[HT.out,List.append_assoc]
    refine⟨k+1,N+ly,c3,A2,by go_num,rfl,by omega,by omega,by rw[e1];exact Rd.of_own ho2,btn hb hb2,?_,fun _=>?_⟩
    ·rw[e1,List.length_append,hq.out.1,HLY.out]
    ·rw[e1];exact own_less ho2 hbs
   case measure=>simp[intOf];omega
  ·obtain rfl:k=m:=by omega
   clear hR1 hR2
   go_wp2
   go_ret
   have e0:xs.take k=xs:=List.take_of_length_le (by rw[HX.out];exact Nat.le_refl _)
   obtain⟨q1,q2⟩:=hq.out
   have q3:=q2 h0
   rw[e0] at q1 q3
   exact⟨_,rfl,A',c',by rw[q1];rfl,by rw[q1];exact q3,hb⟩
theorem nIs {W:World} {xs:List Int} {m:Nat} (hm:xs.length=m) (h9:m≤9):Rd (W.alloc (.cells (iv xs).toArray 3)) (W.alloc (.cells (iv xs).toArray 3)).heap.size 1 (some ⟨W.heap.size,0,none⟩) m m (iv xs):=by
 rw[World.size_alloc]
 have:=Rd.new W 3 1 m (iv xs).toArray (by simp[iv,hm]) (by unfold maxLen;omega)
 simpa using this
theorem nIs1 {W:World} {x:Int} (_:Below W.heap.size W (W.alloc (.cells #[.int .i64 x] 3))):Rd (W.alloc (.cells #[.int .i64 x] 3)) (W.alloc (.cells #[.int .i64 x] 3)).heap.size 1 (some ⟨W.heap.size,0,none⟩) 1 1 (iv [x]):=nIs (xs:=[x]) rfl (by omega)
theorem nIs2 {W:World} {x y:Int} (_:Below W.heap.size W (W.alloc (.cells #[.int .i64 x,.int .i64 y] 3))):Rd (W.alloc (.cells #[.int .i64 x,.int .i64 y] 3)) (W.alloc (.cells #[.int .i64 x,.int .i64 y] 3)).heap.size 1 (some ⟨W.heap.size,0,none⟩) 2 2 (iv [x,y]):=nIs (xs:=[x,y]) rfl (by omega)
theorem nIs4 {W:World} {x y z t:Int} (_:Below W.heap.size W (W.alloc (.cells #[.int .i64 x,.int .i64 y,.int .i64 z,.int .i64 t] 3))):Rd (W.alloc (.cells #[.int .i64 x,.int .i64 y,.int .i64 z,.int .i64 t] 3)) (W.alloc (.cells #[.int .i64 x,.int .i64 y,.int .i64 z,.int .i64 t] 3)).heap.size 1 (some ⟨W.heap.size,0,none⟩) 4 4 (iv [x,y,z,t]):=nIs (xs:=[x,y,z,t]) rfl (by omega)
theorem flat_take {α:Type} (f:α→List UInt8) (l:List α) (k:Nat) (h:k < l.length):(l.take (k+1)).flatMap f=(l.take k).flatMap f++f l[k]:=by
 rw[List.take_succ_eq_append_getElem h,List.flatMap_append];simp
theorem one63 {x:Int} (h:Wq.u63 x):∀y∈[x],Wq.u63 y:=fun y hy=>by rw[List.mem_singleton] at hy;rw[hy];exact h
theorem two63 {x y:Int} (h:Wq.u63 x) (h2:Wq.u63 y):∀z∈[x,y],Wq.u63 z:=fun z hz=>by
 rcases List.mem_cons.1 hz with rfl | hz
 ·exact h
 ·exact one63 h2 z hz
theorem four63 {x y z t:Int} (h1:Wq.u63 x) (h2:Wq.u63 y) (h3:Wq.u63 z) (h4:Wq.u63 t):∀q∈[x,y,z,t],Wq.u63 q:=fun q hq=>by
 rcases List.mem_cons.1 hq with rfl | hq
 ·exact h1
 ·rcases List.mem_cons.1 hq with rfl | hq
  ·exact h2
  ·exact two63 h3 h4 q hq
theorem lB_len {x:Wq.Bd} (h:Wq.bdF x=true) (hc:x.s.1 < 9223372036854775808):(Wq.lB x).length≤300:=by
 obtain⟨a,b,c,d,e,f⟩:=(Wq.bdF_iff x).1 h
 have h1:=u63_len (x:=x.o) ⟨by omega,by omega⟩
 have h2:=u63_len (x:=x.s.1) ⟨by omega,by omega⟩
 have h3:=u63_len (x:=x.s.2) ⟨by omega,by omega⟩
 have h4:=Pk.lay_len9 (n:=x.v.length) (by omega)
 unfold Wq.lB Wq.lR
 simp only[List.length_append]
 omega
theorem nat63 {n:Nat} (h:n≤256):Wq.u63 ((n:Nat):Int):=⟨by omega,by omega⟩
theorem entView_any (A:Option Addr) (n c:Nat) (l:List UInt8) (u:VV) (v:Vw) (L:List (ZV×Zn)) (M:List (BV×Wq.Bd)) (w:World) (hl:l.length=n) (hR:Rd w w.heap.size 1 A n c (bv l)) (hV:VwRd w w.heap.size u v L M) (hC:Wq.VwC v)
  (h1:v.zones.length≤256) (h2:v.held.length≤256) (h3:v.bods.length≤256) (hn:n≤1000):
  Calls Tryz.prog 31 #[.slice A n c,.agg (vval v u)] w fun e w'=>∃y,e=.returned y∧BytesAre w.heap.size w (l++lVw v) y w':=by
 obtain⟨ck,cz,ch,cb,cr⟩:=hC
 obtain⟨kA,kc,zA,zc,hA,hc,vA,vc⟩:=u
 obtain⟨known,zones,held,bods,rm⟩:=v
 obtain⟨rk,rz,ez,rh,rb,eb⟩:=hV
 dsimp only at ck cz ch cb cr rk rz ez rh rb eb h1 h2 h3
 subst ez eb
 rw[zns_len] at h1 rz
 rw[bds_len] at h3 rb
 unfold vval
 dsimp only
 rw[zns_len,bds_len]
 have hlv:lVw ⟨known,zns L,held,bds M,rm⟩=Wq.lV known++(layAll [(L.length:Int)]++((zns L).flatMap lZn++(layAll [(held.length:Int)]++(held.flatMap lHd++(layAll [(M.length:Int)]++((bds M).flatMap Wq.lB++layAll [rm])))))):=by
  unfold lVw layAll
  simp[lI,zns_len,bds_len]
 rw[hlv]
 have hb0:Below w.heap.size w (w.alloc (.cells #[.slice kA known.length kc,.slice zA L.length zc,.slice hA held.length hc,.slice vA M.length vc,.int .i64 rm] 35)):=(Below.refl _ _).alloc (Nat.le_refl _) _
 have hX:=Blk.new w 35 #[.slice kA known.length kc,.slice zA L.length zc,.slice hA held.length hc,.slice vA M.length vc,.int .i64 rm]
 generalize hW0:w.alloc (.cells #[.slice kA known.length kc,.slice zA L.length zc,.slice hA held.length hc,.slice vA M.length vc,.int .i64 rm] 35)=W0 at hb0 hX
 have hs0:W0.heap.size=w.heap.size+1:=by rw[←hW0];simp
 replace rk:=rk.go hb0
 replace rz:=rz.go hb0
 replace rh:=rh.go hb0
 replace rb:=rb.go hb0
 replace hR:=hR.go hb0
 have HX:=Hz_ fun (W:World) (hb:Below W0.heap.size W0 W)=>(hX.go hb).five
 have G1:=appendVec_any A kA n c known.length kc l known W0 hl hR rfl rk ck.1 ck.2 (by omega)
 obtain⟨b1,hb1⟩:∃x,x=l++Wq.lV known:=⟨_,rfl⟩
 have n1:b1.length≤2200:=by have:=lV_len ck.1 ck.2;rw[hb1,List.length_append];omega
 rw[←hb1] at G1
 have G2:=fun (W:World) (A D:Option Addr) (c d:Nat) (h:Rd W W.heap.size 1 A b1.length c (bv b1)) (h2:Rd W W.heap.size 1 D 1 d (iv [(L.length:Int)]))=>entLay_any A D b1.length c 1 d b1 [(L.length:Int)] W rfl h rfl h2 (one63 (nat63 h1)) (by omega) (by omega)
 obtain⟨b2,hb2⟩:∃x,x=b1++layAll [(L.length:Int)]:=⟨_,rfl⟩
 have n2:b2.length≤2300:=by have:=layAll_len _ (one63 (nat63 h1));rw[hb2,List.length_append];simp only[List.length_cons,List.length_nil] at this;omega
 rw[←hb2] at G2
 obtain⟨b3,hb3⟩:∃x,x=b2++(zns L).flatMap lZn:=⟨_,rfl⟩
 have G3:=fun (W:World) (A D:Option Addr) (c d:Nat) (h:Rd W W.heap.size 1 A b3.length c (bv b3)) (h2':Rd W W.heap.size 1 D 1 d (iv [(held.length:Int)])) (hn:b3.length≤400000)=>entLay_any A D b3.length c 1 d b3 [(held.length:Int)] W rfl h rfl h2' (one63 (nat63 h2)) (by omega) (by omega)
 obtain⟨b4,hb4⟩:∃x,x=b3++layAll [(held.length:Int)]:=⟨_,rfl⟩
 have n4:b4.length≤b3.length+9:=by have:=layAll_len _ (one63 (nat63 h2));rw[hb4,List.length_append];simp only[List.length_cons,List.length_nil] at this;omega
 rw[←hb4] at G3
 obtain⟨b5,hb5⟩:∃x,x=b4++held.flatMap lHd:=⟨_,rfl⟩
 have G4:=fun (W:World) (A D:Option Addr) (c d:Nat) (h:Rd W W.heap.size 1 A b5.length c (bv b5)) (h2':Rd W W.heap.size 1 D 1 d (iv [(M.length:Int)])) (hn:b5.length≤500000)=>entLay_any A D b5.length c 1 d b5 [(M.length:Int)] W rfl h rfl h2' (one63 (nat63 h3)) (by omega) (by omega)
 obtain⟨b6,hb6⟩:∃x,x=b5++layAll [(M.length:Int)]:=⟨_,rfl⟩
 have n6:b6.length≤b5.length+9:=by have:=layAll_len _ (one63 (nat63 h3));rw[hb6,List.length_append];simp only[List.length_cons,List.length_nil] at this;omega
 rw[←hb6] at G4
 obtain⟨b7,hb7⟩:∃x,x=b6++(bds M).flatMap Wq.lB:=⟨_,rfl⟩
 have G5:=fun (W:World) (A D:Option Addr) (c d:Nat) (h:Rd W W.heap.size 1 A b7.length c (bv b7)) (h2':Rd W W.heap.size 1 D 1 d (iv [rm])) (hn:b7.length≤700000)=>entLay_any A D b7.length c 1 d b7 [rm] W rfl h rfl h2' (one63 cr) (by omega) (by omega)
 obtain⟨b8,hb8⟩:∃x,x=b7++layAll [rm]:=⟨_,rfl⟩
 rw[←hb8] at G5
 have HE:=Hz_ (show l++(Wq.lV known++(layAll [(L.length:Int)]++((zns L).flatMap lZn++(layAll [(held.length:Int)]++(held.flatMap lHd++(layAll [(M.length:Int)]++((bds M).flatMap Wq.lB++layAll [rm])))))))=b8 by rw[hb8,hb7,hb6,hb5,hb4,hb3,hb2,hb1];simp only[List.append_assoc])
 have HB3:=Hz_ hb3
 have HB5:=Hz_ hb5
 have HB7:=Hz_ hb7
 -- the rounds
 have GZ:=Hz_ fun (W:World) (hb:Below W0.heap.size W0 W) (j:Nat) (hj:j < L.length)=>(rz.go hb).zone hj
 have GH:=Hz_ fun (W:World) (hb:Below W0.heap.size W0 W) (j:Nat) (hj:j < held.length)=>(rh.go hb).write rfl hj
 have GB:=Hz_ fun (W:World) (hb:Below W0.heap.size W0 W) (j:Nat) (hj:j < M.length)=>(rb.go hb).body hj
 have EZ:=Hz_ fun (W:World) (hb:Below W0.heap.size W0 W) (j:Nat) (hj:j < L.length)=>(rz.go hb).each _ (List.getElem_mem hj)
 have EB:=Hz_ fun (W:World) (hb:Below W0.heap.size W0 W) (j:Nat) (hj:j < M.length)=>(rb.go hb).each _ (List.getElem_mem hj)
 have CZ:=Hz_ fun (j:Nat) (hj:j < L.length)=>(show Wq.znC L[j].2 from cz.2 _ (List.mem_map_of_mem (List.getElem_mem hj)))
 have CH:=Hz_ fun (j:Nat) (hj:j < held.length)=>(show Wq.hdC held[j] from ch.2 _ (List.getElem_mem hj))
 have CB:=Hz_ fun (j:Nat) (hj:j < M.length)=>(show Wq.bdF M[j].2=true∧M[j].2.s.1 < 9223372036854775808 from cb.2 _ (List.mem_map_of_mem (List.getElem_mem hj)))
 have TZ:=Hz_ fun (j:Nat) (hj:j < L.length)=>(show b2++((zns L).take (j+1)).flatMap lZn=(b2++((zns L).take j).flatMap lZn)++layAll [L[j].2.1.1,L[j].2.1.2]++Wq.lV L[j].2.2 by
  rw[flat_take _ _ j (by rw[zns_len];exact hj),zns_at L j hj];simp[lZn,lI,layAll])
 have TH:=Hz_ fun (j:Nat) (hj:j < held.length)=>(show b4++(held.take (j+1)).flatMap lHd=(b4++(held.take j).flatMap lHd)++layAll [held[j].2.1,held[j].1.2,held[j].1.1,if held[j].2.2=true then 1 else 0] by
  rw[flat_take _ _ j hj];simp[lHd,lI,layAll])
 have TB:=Hz_ fun (j:Nat) (hj:j < M.length)=>(show b6++((bds M).take (j+1)).flatMap Wq.lB=(b6++((bds M).take j).flatMap Wq.lB)++Wq.lB M[j].2 by
  rw[flat_take _ _ j (by rw[bds_len];exact hj),bds_at M j hj];simp)
 have AZ:=Hz_ (show b2++((zns L).take L.length).flatMap lZn=b3 by rw[hb3,List.take_of_length_le (by rw[zns_len];exact Nat.le_refl _)])
 have AH:=Hz_ (show b4++(held.take held.length).flatMap lHd=b5 by rw[hb5,List.take_length])
 have AB:=Hz_ (show b6++((bds M).take M.length).flatMap Wq.lB=b7 by rw[hb7,List.take_of_length_le (by rw[bds_len];exact Nat.le_refl _)])
 clear hb8 hb3 hb4 hb5 hb6 hb7 hb1 hb2 rk rz rh rb hR ck cz ch cb cr hlv hX hl
 generalize hnk:known.length=nk at HX G1 hW0 ⊢
 obtain⟨nz,hnz⟩:∃x,x=L.length:=⟨_,rfl⟩
 obtain⟨nh,hnh⟩:∃x,x=held.length:=⟨_,rfl⟩
 obtain⟨nb,hnb⟩:∃x,x=M.length:=⟨_,rfl⟩
 rw[←hnz] at HX G2 h1 AZ hW0 HE ⊢
 rw[←hnh] at HX G3 h2 AH hW0 HE ⊢
 rw[←hnb] at HX G4 h3 AB hW0 HE ⊢
 have NZ:=Hz_ hnz
 have NH:=Hz_ hnh
 have NB:=Hz_ hnb
 have G1:=Hz_ G1
 have G2:=Hz_ G2
 have G3:=Hz_ G3
 have G4:=Hz_ G4
 have G5:=Hz_ G5
 have HW0:=Hz_ hW0
 have HB0:=Hz_ hb0
 clear hb0 hW0 hnk hnz hnh hnb
 obtain⟨q0,q1,q2,q3,q4⟩:=HX.out _ (Below.refl _ _)
 go_enter Tryz.func31,Tryz.ntmps31
 go_upto_region 1 with fail
 rw[HW0.out]
 go_wp2_with fail
 refine G1.out.mono ?_
 rintro e w1 ⟨_,rfl,D,d,rfl,ho,kw⟩
 have E:=Hz_ ho
 clear ho
 clear q0 q1 q2 q3 q4
 obtain⟨q0,q1,q2,q3,q4⟩:=HX.out _ kw
 have hb':=then_alloc kw (.cells #[.int .i64 nz] 3)
 have NW:=Hz_ (nIs1 hb')
 have E:=Hz_ (own_below E.out hb' (Nat.le_refl _))
 have kw:=btn kw hb'
 clear hb'
 go_wp2_with fail
 refine(G2.out _ _ _ _ _ (Rd.of_own E.out) NW.out).mono ?_
 rintro e w2 ⟨_,rfl,D2,d2,rfl,ho,hb'⟩
 have E2:=Hz_ (own_less ho kw.size)
 have kw:=btn kw hb'
 clear ho hb' NW E G1 G2
 clear q0 q1 q2 q3 q4
 obtain⟨q0,q1,q2,q3,q4⟩:=HX.out _ kw
 have K2:=Hz_ kw
 clear kw
 go_wp2_with fail
 go_loopw [0,6,28] (fun v0 _ v28 wr=>∃(j N c':Nat) (A':Option Addr),v28=.int .i64 j∧v0=.slice A' N c'∧j≤nz∧N≤2300+1200 * j∧Hid (wr.ownsRow W0.heap.size 5 1 (.slice A' N c') N (bv (b2++((zns L).take j).flatMap lZn)))∧Hid ((b2++((zns L).take j).flatMap lZn).length=N)∧Below W0.heap.size W0 wr) (fun _ _ v28 _=>nz - (intOf v28).toNat)
 case atStart=>exact⟨0,b2.length,d2,D2,rfl,rfl,by omega,by omega,by show World.ownsRow _ _ _ _ _ _ _;simpa using E2.out,by show _=_;simp,K2.out⟩
 case round=>
  obtain⟨j,N,c',A',rfl,rfl,hj,hN,ho,hq,hb⟩:=hrel
  have hbs:=hb.size
  clear q0 q1 q2 q3 q4
  by_cases hlt:j < nz
  ·have hjl:j < L.length:=by rw[←NZ.out];exact hlt
   obtain⟨bb,oo,rfl,hbb,g0,g1,g2⟩:=GZ.out wr hb j hjl
   have ht:=TZ.out j hjl
   obtain⟨lx,hlx⟩:∃x,x=b2++((zns L).take j).flatMap lZn:=⟨_,rfl⟩
   have hlN:lx.length=N:=by rw[hlx];exact hq.out
   rw[←hlx] at ht
   have E0:=Hz_ (show wr.ownsRow W0.heap.size 5 1 (.slice A' N c') N (bv lx) by rw[hlx];exact ho.out)
   have cz:=CZ.out j hjl
   have ez:=fun W hb=>EZ.out W hb j hjl
   clear hlx
   obtain⟨⟨⟨aA,an,ac⟩,⟨lo,hi⟩,vec⟩,hpx⟩:∃p,p=L[j]:=⟨_,rfl⟩
   rw[←hpx] at g0 g1 g2 cz ez ht
   clear hpx
   dsimp only at g0 g1 g2 cz ez ht
   have hb9:Below wr.heap.size wr (wr.alloc (.cells #[.int .i64 lo,.int .i64 hi,.slice aA an ac] 129)):=(Below.refl _ _).alloc (Nat.le_refl _) _
   have hX9:=Blk.new wr 129 #[.int .i64 lo,.int .i64 hi,.slice aA an ac]
   have ho9:=own_below E0.out hb9 (Nat.le_refl _)
   have kw:=btn hb hb9
   have E:=Hz_ ho9
   clear ho9 hb9 ho
   generalize hV9:wr.alloc (.cells #[.int .i64 lo,.int .i64 hi,.slice aA an ac] 129)=V9 at hX9 kw E
   have HV9:=Hz_ hV9
   have ez9:=ez V9 kw
   have HS:=Hz_ fun (W:World) (hb:Below V9.heap.size V9 W)=>(show W.cell? ⟨wr.heap.size,0,none⟩=some (.int .i64 lo)∧W.cell? ⟨wr.heap.size,1,none⟩=some (.int .i64 hi)∧W.cell? ⟨wr.heap.size,2,none⟩=some (.slice aA an ac) from ⟨(hX9.go hb).cell 0,(hX9.go hb).cell 1,(hX9.go hb).cell 2⟩)
   have GY1:=fun (W:World) (A D:Option Addr) (c d:Nat) (h:Rd W W.heap.size 1 A lx.length c (bv lx)) (h2:Rd W W.heap.size 1 D 2 d (iv [lo,hi]))=>entLay_any A D lx.length c 2 d lx [lo,hi] W rfl h rfl h2 (two63 cz.1.1 cz.1.2) (by omega) (by omega)
   obtain⟨ly,hly⟩:∃x,x=lx++layAll [lo,hi]:=⟨_,rfl⟩
   have n9:ly.length≤N+18:=by have:=layAll_len _ (two63 cz.1.1 cz.1.2);rw[hly,List.length_append];simp only[List.length_cons,List.length_nil] at this;omega
   rw[←hly] at GY1 ht
   have GY2:=fun (W:World) (hb:Below V9.heap.size V9 W) (A:Option Addr) (c:Nat) (h:Rd W W.heap.size 1 A ly.length c (bv ly))=>appendVec_any A aA ly.length c an ac ly vec W rfl h ez9.1 (ez9.2.go hb) cz.2.1 cz.2.2 (by omega)
   obtain⟨lz,hlz⟩:∃x,x=ly++Wq.lV vec:=⟨_,rfl⟩
   have HZL:=Hz_ (show lz.length≤N+1200 by have:=lV_len cz.2.1 cz.2.2;dsimp only at this;rw[hlz,List.length_append];omega)
   rw[←hlz] at GY2 ht
   have HT:=Hz_ ht
   have E:=Hz_ (show V9.ownsRow W0.heap.size 5 1 (.slice A' lx.length c') lx.length (bv lx) by rw[hlN];exact E.out)
   rw[hlN] at GY1 E
   have GY1:=Hz_ GY1
   have GY2:=Hz_ GY2
   obtain⟨r0,r1,r2⟩:=HS.out _ (Below.refl _ _)
   have k9:Below V9.heap.size V9 V9:=Below.refl _ _
   have HHB:=Hz_ hb
   clear hV9 ez9 hX9 ez cz ht hly hlz hlN hq hb
   go_wp2_with fail
   rw[HV9.out]
   clear g0 g1 g2 r0 r1 r2
   go_upto_region 6 with fail
   have kw:=kw.drew
   have k9:=k9.drew
   have E:=Hz_ (show (V9.drew).ownsRow W0.heap.size 5 1 (.slice A' N c') N (bv lx) from E.out)
   refine region_nrm fun KK hKK=>?_
   refine wp_region_held_drew (S:=(fun W=>W.cell? ⟨wr.heap.size,0,none⟩=some (.int .i64 lo)∧W.cell? ⟨wr.heap.size,1,none⟩=some (.int .i64 hi)∧W.cell? ⟨wr.heap.size,2,none⟩=some (.slice aA an ac))) (by kernel_rfl) (by first | exact HS.out _ k9) (fun hHeld=>?_)
   refine puA 0 33 (HS.out _ k9) ?_
   refine puA 1 34 (HS.out _ k9) ?_
   refine puA 2 35 (HS.out _ k9) ?_
   refine puA 3 36 (HS.out _ k9) ?_
   refine puA 4 37 (HS.out _ k9) ?_
   refine puA 5 38 (HS.out _ k9) ?_
   refine puA 6 39 (HS.out _ k9) ?_
   refine puA 9 42 (HS.out _ k9) ?_
   refine puA 10 43 (HS.out _ k9) ?_
   refine puR 7 fun K hK=>?_
   go_simp
   have hb':=then_alloc kw (.cells #[.int .i64 lo,.int .i64 hi] 3)
   have NW:=Hz_ (nIs2 hb')
   have E:=Hz_ (own_below E.out hb' (Nat.le_refl _))
   have kw:=btn kw hb'
   have k9:=btn k9 hb'
   clear hb'
   refine hK.out _ _ (HS.out _ k9) fun hHeld=>?_
   clear hK K
   refine puR 8 fun K hK=>?_
   go_simp
   refine(GY1.out _ _ _ _ _ (Rd.of_own E.out) NW.out).mono ?_
   rintro e W1 ⟨_,rfl,D3,d3,rfl,ho1,hb'⟩
   have E:=Hz_ (own_less ho1 kw.size)
   have kw:=btn kw hb'
   have k9:=btn k9 hb'
   clear ho1 hb' NW
   refine hK.out _ _ (HS.out _ k9) fun hHeld=>?_
   clear hK K
   refine puR 11 fun K hK=>?_
   go_simp
   refine(GY2.out _ k9 _ _ (Rd.of_own E.out)).mono ?_
   rintro e W2 ⟨_,rfl,D4,d4,rfl,ho1,hb'⟩
   have E:=Hz_ (own_less ho1 kw.size)
   have kw:=btn kw hb'
   have k9:=btn k9 hb'
   clear ho1 hb'
   refine hK.out _ _ (HS.out _ k9) fun hHeld=>?_
   clear hK K
   refine puA 12 32 (HS.out _ k9) ?_
   refine puA 13 45 (HS.out _ k9) ?_
   refine puA 14 46 (HS.out _ k9) ?_
   refine puA 15 0 (HS.out _ k9) ?_
   refine wpAnyH_done (by kernel_rfl) ?_ _
   refine Nrm.out (hKK _ _ ?_)
   clear hHeld
   go_wp2_with fail
   go_roundw
   case rel=>
    refine⟨j+1,lz.length,d4,D4,by go_num,rfl,by omega,by have:=HZL.out;omega,?_,?_,kw⟩
    ·show World.ownsRow _ _ _ _ _ _ _
     rw[HT.out];exact E.out
    ·show _=_
     rw[HT.out]
   case measure=>simp[intOf];omega
  ·obtain rfl:nz=j:=by omega
   have q9:=hq.out
   have E1:=Hz_ ho.out
   rw[AZ.out] at q9
   have E:=Hz_ (show wr.ownsRow W0.heap.size 5 1 (.slice A' b3.length c') b3.length (bv b3) by have h:=E1.out;rw[AZ.out] at h;rw[q9];exact h)
   clear E1
   subst q9
   have kw:=hb
   clear hq ho hbs hb
   obtain⟨q0,q1,q2,q3,q4⟩:=HX.out _ kw
   have hb':=then_alloc kw (.cells #[.int .i64 nh] 3)
   have NW:=Hz_ (nIs1 hb')
   have E:=Hz_ (own_below E.out hb' (Nat.le_refl _))
   have kw:=btn kw hb'
   clear hb'
   go_wp2_with fail
   refine(G3.out _ _ _ _ _ (Rd.of_own E.out) NW.out (by omega)).mono ?_
   rintro e w3 ⟨_,rfl,D2,d2,rfl,ho,hb'⟩
   have E2:=Hz_ (own_less ho kw.size)
   have kw:=btn kw hb'
   clear ho hb' NW E
   clear q0 q1 q2 q3 q4
   obtain⟨q0,q1,q2,q3,q4⟩:=HX.out _ kw
   have K2:=Hz_ kw
   clear kw
   go_wp2_with fail
   go_loopw [0,8,9,57] (fun v0 _ _ v57 wr=>∃(j N c':Nat) (A':Option Addr),v57=.int .i64 j∧v0=.slice A' N c'∧j≤nh∧N≤b4.length+40 * j∧Hid (wr.ownsRow W0.heap.size 5 1 (.slice A' N c') N (bv (b4++(held.take j).flatMap lHd)))∧Hid ((b4++(held.take j).flatMap lHd).length=N)∧Below W0.heap.size W0 wr) (fun _ _ _ v57 _=>nh - (intOf v57).toNat)
   case atStart=>exact⟨0,b4.length,d2,D2,rfl,rfl,by omega,by omega,by show World.ownsRow _ _ _ _ _ _ _;simpa using E2.out,by show _=_;simp,K2.out⟩
   case round=>
    obtain⟨j,N,c',A',rfl,rfl,hj,hN,ho,hq,hb⟩:=hrel
    have hbs:=hb.size
    clear q0 q1 q2 q3 q4
    by_cases hlt:j < nh
    ·have hjl:j < held.length:=by rw[←NH.out];exact hlt
     obtain⟨bb,oo,rfl,hbb,g0,g1,g2,g3⟩:=GH.out wr hb j hjl
     have ht:=TH.out j hjl
     obtain⟨lx,hlx⟩:∃x,x=b4++(held.take j).flatMap lHd:=⟨_,rfl⟩
     have hlN:lx.length=N:=by rw[hlx];exact hq.out
     rw[←hlx] at ht
     have E0:=Hz_ (show wr.ownsRow W0.heap.size 5 1 (.slice A' N c') N (bv lx) by rw[hlx];exact ho.out)
     have ch:=CH.out j hjl
     clear hlx
     obtain⟨⟨⟨sc,sn⟩,ob,gn⟩,hpx⟩:∃p,p=held[j]:=⟨_,rfl⟩
     rw[←hpx] at g0 g1 g2 g3 ch ht
     clear hpx
     dsimp only at g0 g1 g2 g3 ch ht
     have hb9:Below wr.heap.size wr (wr.alloc (.cells #[.int .i64 sc,.int .i64 sn,.int .i64 ob,.bool gn] 70)):=(Below.refl _ _).alloc (Nat.le_refl _) _
     have hX9:=Blk.new wr 70 #[.int .i64 sc,.int .i64 sn,.int .i64 ob,.bool gn]
     have E:=Hz_ (own_below E0.out hb9 (Nat.le_refl _))
     have kw:=btn hb hb9
     clear hb9 ho
     generalize hV9:wr.alloc (.cells #[.int .i64 sc,.int .i64 sn,.int .i64 ob,.bool gn] 70)=V9 at hX9 kw E
     have HV9:=Hz_ hV9
     obtain⟨gi,hgi⟩:∃x:Int,x=if gn=true then 1 else 0:=⟨_,rfl⟩
     rw[←hgi] at ht
     have ug:Wq.u63 gi:=by rw[hgi];exact Wq.u63_g gn
     have GY:=fun (W:World) (A D:Option Addr) (c d:Nat) (h:Rd W W.heap.size 1 A lx.length c (bv lx)) (h2:Rd W W.heap.size 1 D 4 d (iv [ob,sn,sc,gi]))=>entLay_any A D lx.length c 4 d lx [ob,sn,sc,gi] W rfl h rfl h2 (four63 ch.1 ch.2.1 ch.2.2 ug) (by omega) (by omega)
     obtain⟨lz,hlz⟩:∃x,x=lx++layAll [ob,sn,sc,gi]:=⟨_,rfl⟩
     have HZL:=Hz_ (show lz.length≤N+40 by have:=layAll_len _ (four63 ch.1 ch.2.1 ch.2.2 ug);rw[hlz,List.length_append];simp only[List.length_cons,List.length_nil] at this;omega)
     rw[←hlz] at GY ht
     have HT:=Hz_ ht
     rw[hlN] at GY
     have GY:=Hz_ GY
     obtain⟨r0,r1,r2,r3⟩:=hX9.quad
     have hb':=then_alloc kw (.cells #[.int .i64 ob,.int .i64 sn,.int .i64 sc,.int .i64 gi] 3)
     have NW:=Hz_ (nIs4 hb')
     have E:=Hz_ (own_below E.out hb' (Nat.le_refl _))
     have kw:=btn kw hb'
     clear hb' hV9 hX9 ch ht hlz hlN hq hb ug
     cases gn
     all_goals
      first | obtain rfl:gi=0:=hgi | obtain rfl:gi=1:=hgi
      go_upto_region 12 with fail
      rw[HV9.out]
      go_wp2_with fail
      refine(GY.out _ _ _ _ _ (Rd.of_own E.out) NW.out).mono ?_
      rintro e w5 ⟨_,rfl,D4,d4,rfl,ho1,hb'⟩
      have E:=Hz_ (own_less ho1 kw.size)
      have kw:=btn kw hb'
      clear ho1 hb' NW
      go_wp2_with fail
      go_roundw
      case rel=>
       refine⟨j+1,lz.length,d4,D4,by go_num,rfl,by omega,by have:=HZL.out;omega,?_,?_,kw⟩
       ·show World.ownsRow _ _ _ _ _ _ _
        rw[HT.out];exact E.out
       ·show _=_
        rw[HT.out]
      case measure=>simp[intOf];omega
    ·obtain rfl:nh=j:=by omega
     have q9:=hq.out
     have E1:=Hz_ ho.out
     rw[AH.out] at q9
     have E:=Hz_ (show wr.ownsRow W0.heap.size 5 1 (.slice A' b5.length c') b5.length (bv b5) by have h:=E1.out;rw[AH.out] at h;rw[q9];exact h)
     clear E1
     subst q9
     have kw:=hb
     clear hq ho hbs hb
     obtain⟨q0,q1,q2,q3,q4⟩:=HX.out _ kw
     have hb':=then_alloc kw (.cells #[.int .i64 nb] 3)
     have NW:=Hz_ (nIs1 hb')
     have E:=Hz_ (own_below E.out hb' (Nat.le_refl _))
     have kw:=btn kw hb'
     clear hb'
     go_wp2_with fail
     refine(G4.out _ _ _ _ _ (Rd.of_own E.out) NW.out (by omega)).mono ?_
     rintro e w6 ⟨_,rfl,D2,d2,rfl,ho,hb'⟩
     have E2:=Hz_ (own_less ho kw.size)
     have kw:=btn kw hb'
     clear ho hb' NW E
     clear q0 q1 q2 q3 q4
     obtain⟨q0,q1,q2,q3,q4⟩:=HX.out _ kw
     have K2:=Hz_ kw
     clear kw
     go_wp2_with fail
     go_loopw [0,11,85] (fun v0 _ v85 wr=>∃(j N c':Nat) (A':Option Addr),v85=.int .i64 j∧v0=.slice A' N c'∧j≤nb∧N≤b6.length+300 * j∧Hid (wr.ownsRow W0.heap.size 5 1 (.slice A' N c') N (bv (b6++((bds M).take j).flatMap Wq.lB)))∧Hid ((b6++((bds M).take j).flatMap Wq.lB).length=N)∧Below W0.heap.size W0 wr) (fun _ _ v85 _=>nb - (intOf v85).toNat)
     case atStart=>exact⟨0,b6.length,d2,D2,rfl,rfl,by omega,by omega,by show World.ownsRow _ _ _ _ _ _ _;simpa using E2.out,by show _=_;simp,K2.out⟩
     case round=>
      obtain⟨j,N,c',A',rfl,rfl,hj,hN,ho,hq,hb⟩:=hrel
      have hbs:=hb.size
      clear q0 q1 q2 q3 q4
      by_cases hlt:j < nb
      ·have hjl:j < M.length:=by rw[←NB.out];exact hlt
       obtain⟨bb,oo,rfl,hbb,g0,g1,g2,g3⟩:=GB.out wr hb j hjl
       have ht:=TB.out j hjl
       obtain⟨lx,hlx⟩:∃x,x=b6++((bds M).take j).flatMap Wq.lB:=⟨_,rfl⟩
       have hlN:lx.length=N:=by rw[hlx];exact hq.out
       rw[←hlx] at ht
       have E0:=Hz_ (show wr.ownsRow W0.heap.size 5 1 (.slice A' N c') N (bv lx) by rw[hlx];exact ho.out)
       have cb:=CB.out j hjl
       have eb:=fun W hb=>EB.out W hb j hjl
       clear hlx
       obtain⟨⟨⟨xA,xc⟩,⟨o_,⟨a_,b_⟩,xv⟩⟩,hpx⟩:∃p,p=M[j]:=⟨_,rfl⟩
       rw[←hpx] at g0 g1 g2 g3 cb eb ht
       clear hpx
       dsimp only at g0 g1 g2 g3 cb eb ht
       have hb9:Below wr.heap.size wr (wr.alloc (.cells #[.int .i64 o_,.int .i64 a_,.int .i64 b_,.slice xA xv.length xc] 31)):=(Below.refl _ _).alloc (Nat.le_refl _) _
       have hX9:=Blk.new wr 31 #[.int .i64 o_,.int .i64 a_,.int .i64 b_,.slice xA xv.length xc]
       have E:=Hz_ (own_below E0.out hb9 (Nat.le_refl _))
       have kw:=btn hb hb9
       clear hb9 ho
       generalize hV9:wr.alloc (.cells #[.int .i64 o_,.int .i64 a_,.int .i64 b_,.slice xA xv.length xc] 31)=V9 at hX9 kw E
       have eb9:=eb V9 kw
       have E:=Hz_ (show V9.ownsRow W0.heap.size 5 1 (.slice A' lx.length c') lx.length (bv lx) by rw[hlN];exact E.out)
       have GY:=appendBody_any A' lx.length c' lx ⟨o_,(a_,b_),xv⟩ xA xc V9 rfl (Rd.of_own E.out) eb9 cb.1 cb.2 (by omega)
       unfold bval at GY
       dsimp only at GY
       obtain⟨lz,hlz⟩:∃x,x=lx++Wq.lB ⟨o_,(a_,b_),xv⟩:=⟨_,rfl⟩
       have HZL:=Hz_ (show lz.length≤N+300 by have:=lB_len cb.1 cb.2;rw[hlz,List.length_append];omega)
       rw[←hlz] at GY ht
       have HT:=Hz_ ht
       rw[hlN] at GY
       obtain⟨xn,hxn⟩:∃x,x=xv.length:=⟨_,rfl⟩
       rw[←hxn] at GY g3 hX9 hV9
       have HV9:=Hz_ hV9
       have GY:=Hz_ GY
       obtain⟨r0,r1,r2,r3⟩:=hX9.quad
       clear hV9 hX9 cb eb eb9 ht hlz hlN hq hb hxn E
       go_upto_region 21 with fail
       rw[HV9.out]
       go_wp2_with fail
       refine GY.out.mono ?_
       rintro e w7 ⟨_,rfl,D4,d4,rfl,ho1,hb'⟩
       have E:=Hz_ (own_less ho1 kw.size)
       have kw:=btn kw hb'
       clear ho1 hb'
       go_wp2_with fail
       go_roundw
       case rel=>
        refine⟨j+1,lz.length,d4,D4,by go_num,rfl,by omega,by have:=HZL.out;omega,?_,?_,kw⟩
        ·show World.ownsRow _ _ _ _ _ _ _
         rw[HT.out];exact E.out
        ·show _=_
         rw[HT.out]
       case measure=>simp[intOf];omega
      ·obtain rfl:nb=j:=by omega
       have q9:=hq.out
       have E1:=Hz_ ho.out
       rw[AB.out] at q9
       have E:=Hz_ (show wr.ownsRow W0.heap.size 5 1 (.slice A' b7.length c') b7.length (bv b7) by have h:=E1.out;rw[AB.out] at h;rw[q9];exact h)
       clear E1
       subst q9
       have kw:=hb
       clear hq ho hbs hb
       obtain⟨q0,q1,q2,q3,q4⟩:=HX.out _ kw
       have hb':=then_alloc kw (.cells #[.int .i64 rm] 3)
       have NW:=Hz_ (nIs1 hb')
       have E:=Hz_ (own_below E.out hb' (Nat.le_refl _))
       have kw:=btn kw hb'
       clear hb'
       go_wp2_with fail
       refine(G5.out _ _ _ _ _ (Rd.of_own E.out) NW.out (by omega)).mono ?_
       rintro e w8 ⟨_,rfl,D2,d2,rfl,ho,hb'⟩
       have E2:=Hz_ (own_less ho kw.size)
       have kw:=btn kw hb'
       clear ho hb' NW E
       clear q0 q1 q2 q3 q4
       go_wp2
       go_ret
       refine⟨_,rfl,?_⟩
       rw[HE.out]
       exact⟨D2,d2,rfl,own_less E2.out (by have:=HB0.out.size;omega),btn HB0.out kw⟩
end Go.Proofs.YtmbeahbgafkjfaaGreatDoor
