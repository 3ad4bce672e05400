/- Lemmas for the claim, layer 24. -/
import Derived.Test.YtmbeahbgafkjfaaGreatDoorKq23
set_option maxRecDepth 100000
set_option maxHeartbeats 16000000
namespace Go.Proofs.YtmbeahbgafkjfaaGreatDoor
open Go.RowKit Go.Shelf Go.Sort
abbrev ZA:={ p:ZV×Zn // 0≤p.2.1.1∧p.2.1.1≤255 }
instance:Inhabited ZA:=⟨⟨(⟨none,0,0⟩,((0,0),[])),by simp⟩⟩
def encZ (x:ZA):List Value:=zvl x.1
def zav (l:List ZA):List Value:=l.flatMap encZ
theorem zav_get (l:List ZA) (t:Nat) (h:t < l.length * 3):(zav l)[t]?=(encZ (l[t / 3]'(by omega)))[t % 3]?:=by
 have:=flat_at encZ 3 (by decide) l (fun _ _=>rfl) (t / 3) (by omega) (t % 3) (by omega)
 rw[show t / 3 * 3+t % 3=t by omega] at this
 exact this
theorem flatZ_get (l:List ZA) (t:Nat) (h:t < l.length * 3):(zav l)[t]?=some ((flatK encZ 3 l.toArray)[t]!):=by
 rw[zav_get l t h]
 have e1:(flatK encZ 3 l.toArray)[t]! = (encZ l.toArray[t / 3]!)[t % 3]!:=by
  rw[getElem!_pos _ t (by simp[flatK];omega)]
  simp[flatK]
 rw[e1,show l.toArray[t / 3]! = l[t / 3]'(by omega) by rw[getElem!_pos _ _ (by simp;omega)];simp]
 have h3:t % 3=0∨t % 3=1∨t % 3=2:=by omega
 rcases h3 with h3 | h3 | h3<;>rw[h3]<;>rfl
theorem zav_len (l:List ZA):(zav l).length=l.length * 3:=flat_len encZ 3 l (fun _ _=>rfl)
theorem holdsZ {w:World} {base G n c:Nat} {l:List ZA} (h:w.ownsRow base 129 3 (.slice (some ⟨G,0,none⟩) n c) n (zav l)) (hl:l.length=n):HoldsK encZ 3 w G 0 l.toArray:=by
 intro j hj
 have hj':j < l.length * 3:=by simpa[flatK] using hj
 obtain⟨_,h | ⟨g,cap,cur,hv,_,hg,_,_,hcs,hx⟩⟩:=h
 ·exact absurd h.1 (by simp)
 ·injection hv with hv1 _ _
  injection hv1 with hv1
  injection hv1 with hv1
  subst hv1
  refine⟨?_,by simp[World.frozen?,hg]⟩
  rw[Nat.zero_add,cell_of_row w G j cur _ (0,0) hg]
  have h1:(zav l)[j]?=cur[j]?:=by
   rw[←hx,List.getElem?_take,if_pos (by omega)];simp
  rw[←h1,flatZ_get l j hj'];rfl
theorem sortZ_row {w:World} {base G n c:Nat} {l:List ZA} (h:w.ownsRow base 129 3 (.slice (some ⟨G,0,none⟩) n c) n (zav l)) (d:Array ZA) (hd:d.size=n) (m:Nat) (os:Array Obj):
  (sortWorldK encZ 3 w G 0 m d os).ownsRow base 129 3 (.slice (some ⟨G,0,none⟩) n c) n (zav d.toList)∧w.grownBy (sortWorldK encZ 3 w G 0 m d os) (some G):=by
 obtain⟨hl,h | ⟨g,cap,cur,hv,hb,hg,hnc,hcm,hcs,hx⟩⟩:=h
 ·exact absurd h.1 (by simp)
 ·injection hv with hv1 _ hv3
  injection hv1 with hv1
  injection hv1 with hv1
  subst hv1 hv3
  have hlt:G < w.heap.size:=(Array.getElem?_eq_some_iff.1 hg).1
  have hat:(sortWorldK encZ 3 w G 0 m d os).heap[G]?=some (.cells (putCells id 0 (flatK encZ 3 d) cur) 129 (0,0)):=by
   unfold sortWorldK grow putRowK putRow mapBlock «Sort».ahead
   rw[Array.getElem?_append_left (by simpa using hlt)]
   simp[Array.getElem?_modify,hg,onCells]
  have hother:∀k,k < w.heap.size→k≠G→(sortWorldK encZ 3 w G 0 m d os).heap[k]?=w.heap[k]?:=fun k hk hne=>by
   unfold sortWorldK grow putRowK putRow mapBlock «Sort».ahead
   rw[Array.getElem?_append_left (by simpa using hk)]
   simp[Array.getElem?_modify,Ne.symm hne]
  have hfl:(flatK encZ 3 d).size=n * 3:=by simp[flatK,hd]
  have hnc':n * 3≤c * 3:=Nat.mul_le_mul_right _ hnc
  refine⟨⟨by rw[zav_len];simp[hd],.inr ⟨G,c,_,rfl,hb,hat,hnc,hcm,by simp[putCells,hcs],?_⟩⟩,⟨rfl,rfl,rfl,size_sortWorldK_c encZ 3 w G 0 m d os,fun k hk hne=>hother k hk (fun e=>hne (by rw[e]))⟩⟩
  apply List.ext_getElem?
  intro t
  by_cases ht:t < n * 3
  ·rw[List.getElem?_take,if_pos ht]
   have h1:=flatZ_get d.toList t (by simp[hd];exact ht)
   rw[h1]
   have hc:t < cur.size:=by omega
   simp only[putCells,Array.toList_mapIdx,List.getElem?_mapIdx,Array.getElem?_toList,Array.getElem?_eq_getElem hc,Option.map_some,hfl]
   rw[if_pos ⟨Nat.zero_le _,by omega⟩];simp
  ·rw[List.getElem?_take,if_neg ht,List.getElem?_eq_none (by rw[zav_len];simp[hd];omega)]
def cmpZ (x y:ZA):Int:=x.1.2.1.1 - y.1.2.1.1
theorem closureZ_any (x y:ZA) (W:World):Calls Tryz.prog 212 #[.agg (encZ x).toArray,.agg (encZ y).toArray] W fun e w'=>e=.returned (.int .i64 (cmpZ x y))∧∃q os',w'=grow (W.drewN q) os':=by
 obtain⟨⟨⟨A,n,c⟩,⟨lo,hi⟩,u⟩,h1,h2⟩:=x
 obtain⟨⟨⟨D,m,d⟩,⟨lo2,hi2⟩,u2⟩,h3,h4⟩:=y
 dsimp only at h1 h2 h3 h4
 have hw:IntKind.i64.wrap (lo - lo2)=lo - lo2:=IntWalk.i64_in _ (by omega)
 show Calls _ _ #[.agg #[.int .i64 lo,.int .i64 hi,.slice A n c],.agg #[.int .i64 lo2,.int .i64 hi2,.slice D m d]] W _
 go_enter Tryz.func212,Tryz.ntmps212
 go_wp2
 go_ret
 exact⟨rfl,0,_,by rw[alloc_eq_grow,alloc_eq_grow,grow_grow];rfl⟩
theorem ltZ (x y:ZA):ltOf cmpZ x y=decide (x.1.2.1.1 < y.1.2.1.1):=by
 unfold ltOf cmpZ
 by_cases h1:x.1.2.1.1 < y.1.2.1.1
 ·simp[h1];omega
 ·simp[h1];omega
theorem swoZ:SWO (ltOf cmpZ) where
 irrefl x:=by rw[ltZ];simp
 trans x y z h1 h2:=by rw[ltZ] at *;simp at *;omega
 ntrans x y z h1 h2:=by rw[ltZ] at *;simp at *;omega
theorem agg_zone:∀w,(isAgg 129).run Tryz.prog w=.ok true w:=fun _=>by kernel_rfl
theorem size_zone:∀w,(Go.sizeOf 129).run Tryz.prog w=.ok 3 w:=fun _=>by kernel_rfl
theorem encZ_one (x:ZA):∀v∈encZ x,v.oneCell'=true:=zvl_oneCell x.1
theorem sortZA_own (base G n c:Nat) (l:List ZA) (w:World) (ho:w.ownsRow base 129 3 (.slice (some ⟨G,0,none⟩) n c) n (zav l)) (hl:l.length=n) (hn:n < 4611686018427387904):
  Calls Tryz.prog 211 #[.slice (some ⟨G,0,none⟩) n c,.func (.func 212) #[] #[]] w fun e w'=>e=.returned (.tuple #[]) ∧
   ∃l',List.Perm l l'∧(l'.Pairwise fun x y=>x.1.2.1.1≤y.1.2.1.1)∧w'.ownsRow base 129 3 (.slice (some ⟨G,0,none⟩) n c) n (zav l')∧w.grownBy w' (some G):=by
 have eg:∀args w,(callFunc 212 args).run Tryz.prog w=.ok (.enter 212 args) w:=enters_of Tryz.func212 (by kernel_rfl) rfl
 have hsz:l.toArray.size=n:=by simpa using hl
 have hG:G < w.heap.size:=(ho.lt G rfl).2
 have hcon:=AnyQ.slices_SortFunc sortZn 3 agg_zone size_zone encZ (fun _=>rfl) encZ_one cmpZ swoZ 212 #[] G 0 c l.toArray w eg (fun _ _ _ _ x y=>closureZ_any x y _) (holdsZ ho hl) hG (by omega)
 rw[hsz] at hcon
 refine hcon.mono fun e w' ⟨he,d',m,os,hp,hs,hw⟩=>⟨he,d'.toList,?_,?_,?_⟩
 ·obtain⟨h1,_,h3⟩:=hp
  have e1:(d'.extract 0 n).toList=d'.toList:=by rw[←hsz,←h1];simp
  have e2:(l.toArray.extract 0 n).toList=l:=by rw[←hsz];simp
  rw[e1,e2] at h3
  exact h3.symm
 ·refine List.pairwise_iff_getElem.2 fun i j hi hj hij=>?_
  have h1:d'.size=n:=by rw[hp.1,hsz]
  have hj':j < d'.size:=by simpa using hj
  have:=hs i j (Nat.zero_le _) hij (by omega)
  rw[ltZ,getElem!_pos d' j hj',getElem!_pos d' i (by omega)] at this
  simp at this
  simpa using this
 ·rw[hw]
  exact sortZ_row ho d' (by rw[hp.1,hsz]) m os
theorem sortZ_own (base G n c:Nat) (L:List (ZV×Zn)) (hb:∀p∈L,0≤p.2.1.1∧p.2.1.1≤255) (w:World) (ho:OwnZ w base (some ⟨G,0,none⟩) n c L) (hn:n < 4611686018427387904):
  Calls Tryz.prog 211 #[.slice (some ⟨G,0,none⟩) n c,.func (.func 212) #[] #[]] w fun e w'=>e=.returned (.tuple #[]) ∧
   ∃L',List.Perm L L'∧(L'.Pairwise fun x y=>x.2.1.1≤y.2.1.1)∧OwnZ w' base (some ⟨G,0,none⟩) n c L'∧w.grownBy w' (some G):=by
 obtain⟨l,hl⟩:∃l:List ZA,l.map (·.1)=L:=⟨L.pmap (fun p h=>⟨p,h⟩) hb,by rw[List.map_pmap];simp⟩
 have he:∀k:List ZA,zav k=zvv (k.map (·.1)):=fun k=>by unfold zav zvv;rw[List.flatMap_map];rfl
 subst hl
 have hr:=ho.row
 rw[←he] at hr
 have hlen:=ho.len
 rw[List.length_map] at hlen
 refine(sortZA_own base G n c l w hr hlen hn).mono fun e w' ⟨h1,l',h2,h3,h4,h5⟩=>⟨h1,l'.map (·.1),h2.map _,?_,⟨by rw[←he];exact h4,fun p hp=>?_⟩,h5⟩
 ·rw[List.pairwise_map];exact h3
 ·have hp':p∈l.map (·.1):=(h2.map (·.1)).mem_iff.2 hp
  obtain⟨a1,a2⟩:=ho.el p hp'
  exact⟨a1,a2.kept h5 (own_two a2 hr (by decide))⟩
theorem insNilZ_any (f:Value) (w:World):Calls Tryz.prog 230 #[.slice none 0 0,.int .i64 0,.int .i64 0,f] w fun e w'=>e=.returned (.tuple #[])∧w=w':=by
 go_enter Tryz.func230,Tryz.ntmps230
 go_wp2
 go_loop [8] (fun v8=>v8=.int .i64 1) (fun _=>0)
 case atStart=>exact rfl
 case round=>
  obtain rfl:=hrel
  go_wp2
  go_end0
  exact⟨rfl,rfl⟩
theorem pdqNilZ_any (f:Value) (w:World):Calls Tryz.prog 226 #[.slice none 0 0,.int .i64 0,.int .i64 0,.int .i64 0,f] w fun e w'=>e=.returned (.tuple #[])∧w=w':=by
 go_enter Tryz.func226,Tryz.ntmps226
 go_wp2
 go_loop [1,2,3,10] (fun v1 v2 v3 v10=>v1=.int .i64 0∧v2=.int .i64 0∧v3=.int .i64 0∧v10=.bool true) (fun _ _ _ _=>0)
 case atStart=>exact⟨rfl,rfl,rfl,rfl⟩
 case round=>
  obtain⟨rfl,rfl,rfl,rfl⟩:=hrel
  go_wp2_with (go_at_call 230;go_must (refine(insNilZ_any _ _).mono ?_);rintro e w' ⟨rfl,rfl⟩)
  refine bodyPost_ret (results_none rfl _ _ _) rfl ?_
  exact⟨rfl,rfl⟩
theorem sortNilZ_any (f:Value) (w:World):Calls Tryz.prog 211 #[.slice none 0 0,f] w fun e w'=>e=.returned (.tuple #[])∧w=w':=by
 have hl:∀W,Calls Tryz.prog 227 #[.int .u64 0] W fun e w'=>e=.returned (.int .i64 0)∧W=w':=fun W=>
  (Any.bits_Len (SlLaysF0.n15.bits (P:=Tryz.prog) (ρ:=sortZn_ren) { sortZn with }) 0 W (by omega) (by omega)).mono fun _ _ ⟨he,hw⟩=>⟨he,hw.symm⟩
 go_enter Tryz.func211,Tryz.ntmps211
 go_wp2_with (first
  | (go_at_call 227;go_must (refine(hl _).mono ?_);rintro e w' ⟨rfl,rfl⟩)
  | (go_at_call 226;go_must (refine(pdqNilZ_any _ _).mono ?_);rintro e w' ⟨rfl,rfl⟩))
 go_end0
 exact⟨rfl,rfl⟩
open Go.RowKit
theorem jstep_snoc (l:List Zn) (y x:Zn):jstep (l++[y]) x=if y.1.2+1=x.1.1∧y.2=x.2 then l++[((y.1.1,x.1.2),x.2)] else l++[y]++[x]:=by
 unfold jstep
 rw[List.getLast?_append]
 simp
theorem zvv_set_last (u:List (ZV×Zn)) (v:ZV) (lo hi h2:Int) (x:List Vc.St):(zvv (u++[(v,(lo,hi),x)])).set (u.length * 3+1) (.int .i64 h2)=zvv (u++[(v,(lo,h2),x)]):=by
 rw[zvv_app,zvv_app,List.set_append,if_neg (by rw[zvv_len];omega),zvv_len]
 rw[show u.length * 3+1 - u.length * 3=1 by omega];rfl
structure JoI (w1:World) (A:Option Addr) (k c:Nat) (Z:List Zn) (M:List (ZV×Zn)) (W:World):Prop where
 row:W.ownsRow w1.heap.size 129 3 (.slice A k c) k (zvv M)
 el:∀p∈M,p.2.2.length=p.1.n∧Rd w1 w1.heap.size 2 p.1.A p.1.n p.1.c (sv p.2.2)
 hi:∀p∈M,-1≤p.2.1.2∧p.2.1.2≤255
 z:zns M=Z
theorem JoI.len {w1 W:World} {A:Option Addr} {k c:Nat} {Z:List Zn} {M:List (ZV×Zn)} (h:JoI w1 A k c Z M W):M.length=k:=by
 have:=h.row.1
 rw[zvv_len] at this;omega
theorem joined_any (base n c:Nat) (A:Option Addr) (L:List (ZV×Zn)) (w:World) (hL:OwnZ w base A n c L) (hb:∀p∈L,(0≤p.2.1.1∧p.2.1.1≤255)∧(-1≤p.2.1.2∧p.2.1.2≤255)) (hn:n≤3518437208883) (hbase:base≤w.heap.size):
  Calls Tryz.prog 188 #[.slice A n c] w fun e w'=>∃A' k' c' M,e=.returned (.slice A' k' c')∧RdZ w' w'.heap.size A' k' c' M∧(∃m,(zns L).Perm m∧(m.Pairwise fun a b=>a.1.1≤b.1.1)∧zns M=joinedZ m)∧Below base w w'∧KeepsFrom 0 w w':=by
 have hs:Calls Tryz.prog 211 #[.slice A n c,.func (.func 212) #[] #[]] w fun e w'=>e=.returned (.tuple #[])∧Below base w w'∧KeepsFrom 0 w w'∧∃L',List.Perm L L'∧(L'.Pairwise fun x y=>x.2.1.1≤y.2.1.1)∧OwnZ w' base A n c L':=by
  obtain⟨A',c',hv,h1,h2⟩:=own_form hL.row
  injection hv with hv1 _ hv3
  subst hv1 hv3
  rcases A with _ | a
  ·obtain⟨rfl,rfl⟩:=h1 rfl
   refine(sortNilZ_any _ w).mono fun e w' ⟨he,hw⟩=>?_
   subst hw
   obtain rfl:L=[]:=List.eq_nil_of_length_eq_zero hL.len
   exact⟨he,Below.refl _ _,KeepsFrom.refl _ _,[],List.Perm.refl _,List.Pairwise.nil,hL⟩
  ·obtain⟨g,rfl,hg,hg2⟩:=h2 a rfl
   refine(sortZ_own base g n c L (fun p hp=>(hb p hp).1) w hL (by omega)).mono fun e w' ⟨he,L',p1,p2,p3,p4⟩=>?_
   have hcl:∃cur,w.heap[g]?=some (.cells cur 129 (0,0)):=by
    rcases hL.row.2 with h | ⟨g2,cap,cur,hv2,_,hgb,_⟩
    ·exact absurd h.1 (by simp)
    ·injection hv2 with e1 _ _
     injection e1 with e1
     injection e1 with e1
     subst e1
     exact⟨cur,hgb⟩
   obtain⟨cur,hcl⟩:=hcl
   exact⟨he,grown_below p4 (by omega) (fun k hk=>by cases hk;exact hg),(KeepsOthers.of_grownBy p4 (fun j o ej hj=>by cases ej;rw[hcl] at hj;cases hj;rfl)).from _,L',p1,p2,p3⟩
 obtain⟨i0,hi0,hz0,hz1,hz2⟩:=info_parts zone_info
 have h1max:1≤maxLen:=by unfold maxLen;omega
 have HS:=Hz_ hs
 have HB:=Hz_ hb
 clear hs hL hb
 go_enter Tryz.func188,Tryz.ntmps188
 go_wp2_with fail
 refine HS.out.mono ?_
 rintro e w1 ⟨rfl,hb1,hkf,L',hp,hr,hL1⟩
 have HKF:=Hz_ hkf
 have HP:=Hz_ hp
 have HRI:=Hz_ hr
 have HB1:=Hz_ hb1
 have HL1:=Hz_ hL1
 have HLN:=Hz_ hL1.len
 have HBL:=Hz_ fun p (h:p∈L')=>HB.out p (hp.mem_iff.2 h)
 clear hp hr hb1 hL1 hkf HS HB
 go_wp2
 go_loopw [3,11] (fun v3 v11 wr=>∃(i k c':Nat) (A':Option Addr),v11=.int .i64 i∧v3=.slice A' k c'∧i≤n∧k≤i∧Below w1.heap.size w1 wr∧Hid (∃M,JoI w1 A' k c' (((zns L').take i).foldl jstep []) M wr)) (fun _ v11 _=>n - (intOf v11).toNat)
 case atStart=>exact⟨0,0,0,none,rfl,rfl,by omega,by omega,Below.refl _ _,[],⟨World.ownsRow_nil _ _ _ _,(fun p hp=>by cases hp),(fun p hp=>by cases hp),rfl⟩⟩
 case round=>
  obtain⟨i,k,c',A',rfl,rfl,hi,hki,hb,hq⟩:=hrel
  obtain⟨M,hM⟩:=hq.out
  have hbs:=hb.size
  by_cases hlt:i < n
  ·have hkL:i < L'.length:=by rw[HLN.out];exact hlt
   have hkZ:i < (zns L').length:=by rw[zns_len];exact hkL
   obtain⟨b,oo,rfl,hab,g0,g1,g2⟩:=(HL1.out.rd.below hb).zone hkL
   obtain⟨hvl,hRv⟩:=HL1.out.rd.each _ (List.getElem_mem hkL)
   have hxb:=HBL.out _ (List.getElem_mem hkL)
   have hnx:((zns L').take (i+1)).foldl jstep []=jstep (((zns L').take i).foldl jstep []) L'[i].2:=by rw[List.take_succ_eq_append_getElem hkZ,zns_at L' i hkL,List.foldl_append];rfl
   generalize L'[i]=x at g0 g1 g2 hvl hRv hxb hnx
   obtain⟨⟨Av,nv,cv⟩,⟨lo,hi'⟩,u⟩:=x
   dsimp only at g0 g1 g2 hvl hRv hxb hnx
   rw[←hM.z] at hnx
   have hml:=hM.len
   have hwb:=(Below.refl wr.heap.size wr).alloc (Nat.le_refl _) (.cells #[.int .i64 lo,.int .i64 hi',.slice Av nv cv] 129)
   have hX:=Blk.new wr 129 #[.int .i64 lo,.int .i64 hi',.slice Av nv cv]
   have hrow:=own_below hM.row hwb (Nat.le_refl _)
   have hb2:=btn hb hwb
   obtain⟨W,hW⟩:∃W,W=wr.alloc (.cells #[.int .i64 lo,.int .i64 hi',.slice Av nv cv] 129):=⟨_,rfl⟩
   have hsW:W.heap.size=wr.heap.size+1:=by rw[hW];simp
   rw[←hW] at hX hrow hb2
   have HW:=Hz_ hW.symm
   have HSW:=Hz_ hsW
   have HX:=Hz_ hX
   have HB2:=Hz_ hb2
   have HEL:=Hz_ hM.el
   have HHI:=Hz_ hM.hi
   have HXE:=Hz_ (And.intro hvl hRv)
   have h63:k+1≤maxLen:=by unfold maxLen;omega
   have HHB:=Hz_ hxb
   clear hvl hRv hX hwb hW hb2 hab hkL hkZ hq hb hsW
   have APP:=Hz_ fun (V:World) (q:Nat) (hV:V=W.drewN q) (hj:zns (M++[((⟨Av,nv,cv⟩:ZV),(lo,hi'),u)])=((zns L').take (i+1)).foldl jstep []) (A3:Option Addr) (c3:Nat) (W3:World) (ho:W3.ownsRow w1.heap.size 129 3 (.slice A3 (k+1) c3) (k+1) (zvv M++zvl (⟨Av,nv,cv⟩,(lo,hi'),u)))=>
    (show JoI w1 A3 (k+1) c3 (((zns L').take (i+1)).foldl jstep []) (M++[((⟨Av,nv,cv⟩:ZV),(lo,hi'),u)]) W3 from
    ⟨by rw[zvv_app];simpa[zvv] using ho,fun p hp=>by
     rcases List.mem_append.1 hp with hp | hp
     ·exact HEL.out p hp
     ·rw[List.mem_singleton] at hp;subst hp;exact HXE.out,fun p hp=>by
     rcases List.mem_append.1 hp with hp | hp
     ·exact HHI.out p hp
     ·rw[List.mem_singleton] at hp;subst hp;exact HHB.out.2,hj⟩)
   rcases List.eq_nil_or_concat M with hMn | ⟨M0,y,hMy⟩
   ·have hk0:k=0:=by rw[←hml,hMn];rfl
    have HJ:=Hz_ (show zns (M++[((⟨Av,nv,cv⟩:ZV),(lo,hi'),u)])=((zns L').take (i+1)).foldl jstep [] by rw[hnx,hMn];rfl)
    have dk:decide (0 < k)=false:=by simp;omega
    have HROW:=Hz_ hrow
    clear hnx hMn hk0 hM hml hrow
    go_wp2_with fail
    rw[HW.out]
    obtain⟨x0,x1,x2⟩:=HX.out.three
    go_wp2_with fail
    go_quiet (fail)
    go_wp2_with (at_builtin;go_must (refine wpList_append_rd _ rfl (.tmp 53) (.tmp 55) _ rfl w1.heap.size 129 i0 _ 3 40 Tryz.underlying32 hi0 hz0 hz1 hz2 rfl (by decide) (.slice A' k c') k _ rfl (HROW.out.alloc _) _ (some ⟨_,0,none⟩) 1 1 [.int .i64 lo,.int .i64 hi',.slice Av nv cv] rfl (Rd.new _ 129 3 1 #[.int .i64 lo,.int .i64 hi',.slice Av nv cv] rfl h1max) (zvl_oneCell (⟨Av,nv,cv⟩,(lo,hi'),u)) h63 (by omega) (by have:=HB2.out.size;simp;omega) ?_);intro A3 c3 W3 ho3 hg3 hat3)
    go_roundw
    case rel=>exact⟨i+1,k+1,c3,A3,by go_num,rfl,by omega,by omega,((below_drewN HB2.out _).alloc (by exact HB2.out.size) _).trans (grown_below hg3 (by have:=HB2.out.size;simp;omega) (fun g hg=>own_lt HROW.out g hg)),_,APP.out _ 0 rfl HJ.out A3 c3 W3 ho3⟩
    case measure=>simp[intOf];omega
   ·rw[List.concat_eq_append] at hMy
    subst hMy
    obtain⟨j,rfl⟩:∃j,k=j+1:=⟨k - 1,by rw[←hml,List.length_append,List.length_singleton];omega⟩
    have hM0:M0.length=j:=by rw[List.length_append,List.length_singleton] at hml;omega
    obtain⟨⟨Ay,ny,cy⟩,⟨ylo,yhi⟩,yu⟩:=y
    rw[zns_app,show zns [((⟨Ay,ny,cy⟩:ZV),(ylo,yhi),yu)]=[((ylo,yhi),yu)] from rfl,jstep_snoc] at hnx
    dsimp only at hnx
    obtain⟨A9,c9,hv9,_,hf9⟩:=own_form hrow
    injection hv9 with hv1 _ hv3
    subst hv1 hv3
    have hrz:RdZ W W.heap.size A' (j+1) c' (M0++[((⟨Ay,ny,cy⟩:ZV),(ylo,yhi),yu)]):=⟨hml,Rd.of_own hrow,fun p hp=>⟨(HEL.out p hp).1,(HEL.out p hp).2.go HB2.out⟩⟩
    obtain⟨g',o',hA',hgl,p0,p1,p2⟩:=hrz.zone (k:=j) (by rw[hml];omega)
    have hgj:(M0++[((⟨Ay,ny,cy⟩:ZV),(ylo,yhi),yu)])[j]'(by rw[hml];omega)=(⟨Ay,ny,cy⟩,(ylo,yhi),yu):=by
     rw[List.getElem_append_right (by omega)];simp[hM0]
    rw[hgj] at p0 p1 p2
    dsimp only at p0 p1 p2
    obtain⟨g,hga,hg1,_⟩:=hf9 _ hA'
    injection hga with h1 h2
    subst h1 h2
    subst hA'
    have hyE:=HEL.out (⟨Ay,ny,cy⟩,(ylo,yhi),yu) (by simp)
    have hyH:=HHI.out (⟨Ay,ny,cy⟩,(ylo,yhi),yu) (by simp)
    dsimp only at hyE hyH
    have EQ:=fun m=>equalSt_q Ay Av ny cy nv cv yu u (W.drewN m) hyE.1 HXE.out.1 ((hyE.2.go HB2.out).drewN m) ((HXE.out.2.go HB2.out).drewN m)
    obtain⟨oc1,oc2,oc3⟩:=own_cell hrow (j:=j * 3+1) (by omega) (.int .i64 hi')
    rw[←hM0,zvv_set_last,hM0] at oc1
    simp only[Nat.zero_add] at p0 p1 p2
    have HROW:=Hz_ hrow
    have HM0:=Hz_ hM0
    have HOC:=Hz_ (And.intro oc1 (And.intro oc2 oc3))
    have e8:IntKind.i64.wrap (j:Int)=(j:Int):=IntWalk.i64_in _ (by omega)
    have e9:(((j+1:Nat):Int) - 1)=(j:Int):=by omega
    have e10:IntKind.i64.wrap (((j+1:Nat):Int) - 1)=(j:Int):=by rw[e9];exact e8
    have hin:(0:Int)≤(j:Int)∧(j:Int) < ((j+1:Nat):Int):=by omega
    have wy:IntKind.i64.wrap (yhi+1)=yhi+1:=IntWalk.i64_in _ (by omega)
    have dk:decide (0 < j+1)=true:=by simp
    have HG1:=Hz_ hg1
    clear hrow hrz hgj hf9 hg1 hM0 hM hml oc1 oc2 hyE
    by_cases c4:yhi+1=lo
    ·by_cases c5:yu=u
     ·rw[if_pos ⟨c4,c5⟩] at hnx
      have HNX:=Hz_ hnx
      subst c4
      have HC5:=Hz_ c5
      have JEL:=Hz_ (show ∀p∈M0++[((⟨Ay,ny,cy⟩:ZV),(ylo,hi'),yu)],p.2.2.length=p.1.n∧Rd w1 w1.heap.size 2 p.1.A p.1.n p.1.c (sv p.2.2) from fun p hp=>by
       rcases List.mem_append.1 hp with hp | hp
       ·exact HEL.out p (List.mem_append_left _ hp)
       ·rw[List.mem_singleton] at hp;subst hp;exact HEL.out (⟨Ay,ny,cy⟩,(ylo,yhi),yu) (by simp))
      have JHI:=Hz_ (show ∀p∈M0++[((⟨Ay,ny,cy⟩:ZV),(ylo,hi'),yu)],-1≤p.2.1.2∧p.2.1.2≤255 from fun p hp=>by
       rcases List.mem_append.1 hp with hp | hp
       ·exact HHI.out p (List.mem_append_left _ hp)
       ·rw[List.mem_singleton] at hp;subst hp;exact HHB.out.2)
      simp only[decide_eq_true c5] at EQ
      have EQ:=Hz_ EQ
      clear hnx c5
      go_wp2_with fail
      rw[HW.out]
      obtain⟨x0,x1,x2⟩:=HX.out.three
      go_wp2_with fail
      go_quiet ((go_at_call 160;exact Calls.quiet_of (EQ.out _)))
      clear EQ
      go_wp2
      go_roundw
      case rel=>exact⟨i+1,j+1,c',some ⟨g',0,none⟩,by go_num,rfl,by omega,by omega,(below_drewN HB2.out _).setCell (p:=⟨g',j * 3+1,none⟩) HG1.out _,M0++[((⟨Ay,ny,cy⟩:ZV),(ylo,hi'),yu)],⟨HOC.out.1,JEL.out,JHI.out,by rw[HNX.out,zns_app,HC5.out];rfl⟩⟩
      case measure=>simp[intOf];omega
     ·rw[if_neg (fun h=>c5 h.2)] at hnx
      have HJ:=Hz_ (show zns ((M0++[((⟨Ay,ny,cy⟩:ZV),(ylo,yhi),yu)])++[((⟨Av,nv,cv⟩:ZV),(lo,hi'),u)])=((zns L').take (i+1)).foldl jstep [] by rw[hnx,zns_app,zns_app];rfl)
      simp only[decide_eq_false c5] at EQ
      have EQ:=Hz_ EQ
      subst c4
      clear hnx c5
      go_wp2_with fail
      rw[HW.out]
      obtain⟨x0,x1,x2⟩:=HX.out.three
      go_wp2_with fail
      go_quiet ((go_at_call 160;exact Calls.quiet_of (EQ.out _)))
      clear EQ
      go_wp2_with (at_builtin;go_must (refine wpList_append_rd _ rfl (.tmp 53) (.tmp 55) _ rfl w1.heap.size 129 i0 _ 3 40 Tryz.underlying32 hi0 hz0 hz1 hz2 rfl (by decide) (.slice (some ⟨g',0,none⟩) (j+1) c') (j+1) _ rfl (HROW.out.alloc _) _ (some ⟨_,0,none⟩) 1 1 [.int .i64 (yhi+1),.int .i64 hi',.slice Av nv cv] rfl (Rd.new _ 129 3 1 #[.int .i64 (yhi+1),.int .i64 hi',.slice Av nv cv] rfl h1max) (zvl_oneCell (⟨Av,nv,cv⟩,(yhi+1,hi'),u)) h63 (by omega) (by have:=HB2.out.size;simp;omega) ?_);intro A3 c3 W3 ho3 hg3 hat3)
      go_roundw
      case rel=>exact⟨i+1,j+1+1,c3,A3,by go_num,rfl,by omega,by omega,((below_drewN HB2.out _).alloc (by exact HB2.out.size) _).trans (grown_below hg3 (by have:=HB2.out.size;simp;omega) (fun g hg=>own_lt HROW.out g hg)),_,APP.out _ 0 rfl HJ.out A3 c3 W3 ho3⟩
      case measure=>simp[intOf];omega
    ·rw[if_neg (fun h=>c4 h.1)] at hnx
     have HJ:=Hz_ (show zns ((M0++[((⟨Ay,ny,cy⟩:ZV),(ylo,yhi),yu)])++[((⟨Av,nv,cv⟩:ZV),(lo,hi'),u)])=((zns L').take (i+1)).foldl jstep [] by rw[hnx,zns_app,zns_app];rfl)
     have d4:(yhi+1 == lo)=false:=by simpa using c4
     clear hnx c4 EQ
     go_wp2_with fail
     rw[HW.out]
     obtain⟨x0,x1,x2⟩:=HX.out.three
     go_wp2_with fail
     go_quiet (fail)
     go_wp2_with (at_builtin;go_must (refine wpList_append_rd _ rfl (.tmp 53) (.tmp 55) _ rfl w1.heap.size 129 i0 _ 3 40 Tryz.underlying32 hi0 hz0 hz1 hz2 rfl (by decide) (.slice (some ⟨g',0,none⟩) (j+1) c') (j+1) _ rfl (HROW.out.alloc _) _ (some ⟨_,0,none⟩) 1 1 [.int .i64 lo,.int .i64 hi',.slice Av nv cv] rfl (Rd.new _ 129 3 1 #[.int .i64 lo,.int .i64 hi',.slice Av nv cv] rfl h1max) (zvl_oneCell (⟨Av,nv,cv⟩,(lo,hi'),u)) h63 (by omega) (by have:=HB2.out.size;simp;omega) ?_);intro A3 c3 W3 ho3 hg3 hat3)
     go_roundw
     case rel=>exact⟨i+1,j+1+1,c3,A3,by go_num,rfl,by omega,by omega,((below_drewN HB2.out _).alloc (by exact HB2.out.size) _).trans (grown_below hg3 (by have:=HB2.out.size;simp;omega) (fun g hg=>own_lt HROW.out g hg)),_,APP.out _ 0 rfl HJ.out A3 c3 W3 ho3⟩
     case measure=>simp[intOf];omega
  ·obtain rfl:i=n:=by omega
   have HZ:=Hz_ (show zns M=joinedZ (zns L') by rw[hM.z,List.take_of_length_le (by rw[zns_len,HLN.out];exact Nat.le_refl _)];rfl)
   have HRZ:=Hz_ (show RdZ wr wr.heap.size A' k c' M from ⟨hM.len,Rd.of_own hM.row,fun p hp=>⟨(hM.el p hp).1,(hM.el p hp).2.go hb⟩⟩)
   clear hq hM
   go_wp2
   go_ret
   exact⟨A',k,c',M,rfl,HRZ.out,⟨zns L',HP.out.map _,by unfold zns;rw[List.pairwise_map];exact HRI.out,HZ.out⟩,HB1.out.trans (hb.mono (by have:=HB1.out.size;omega)),HKF.out.trans (keeps_below hb)⟩
theorem rowsIn_wide {n:Nat} {P:Program} {row:String} {args:Array Value} {w:World} {R:Value→World→Prop} (h:Rows P row args w R):RowsIn Fence.wide n P row args w R:=by
 intro c cs hr
 obtain⟨v,w',h1,h2⟩:=h c cs
 exact⟨v,w',h1,stepsIn_wide.2 h2⟩
theorem nrm_lets {K:Act→World→Prop} (h:LetsOut (Nrm K)):False:=by
 obtain⟨a,w,h⟩:=h
 exact h
theorem oper_round {n l:Nat} {P:Program} {o:Oper} {a:Act} {w:World} {K N:Act→World→Prop} (hd:∀c,o.op≠.defer c) (h:o.wp P a w N (Nrm K)):o.wpIn (Fence.wide.inRound l) n P a w N (Nrm K):=by
 refine⟨fun f _=>trivial,?_⟩
 rw[Oper.semAt_eq _ _ _ hd]
 unfold Oper.wp at h
 generalize (execOp a.eval o).run P w=r at *
 cases r with
 | ok x w'=>
  cases x with
  | enter f args=>exact⟨fun hh=>by simp[Fence.wide,Fence.inRound] at hh,CallsIn.inRound l (callsIn_wide.2 h)⟩
  | row row args=>exact⟨fun hh=>by simp[Fence.wide,Fence.inRound] at hh,rowsIn_wide h⟩
  | _=>first | exact h | exact False.elim h
 | halt x w'=>cases x<;>first | exact h | exact False.elim h
theorem any_round {n l:Nat} {P:Program} {ops:Array Oper} {K:Act→World→Prop} {md:Region.Mode} (hd:ops.all (fun o=>match o.op with | .defer _=>false | _=>true)=true):
  ∀(fuel:Nat) (listed:Array Bool) (a:Act) (w:World),wpAny P md ops (Nrm K) fuel listed a w→wpAnyIn (Fence.wide.inRound l) n P md ops (Nrm K) fuel listed a w
 | 0,_,_,_,h=>h
 | fuel+1,listed,a,w,h=>by
  refine⟨h.1,fun i hi=>?_⟩
  have h2:=wpOp_mono (fun a w=>any_round (n:=n) (l:=l) hd fuel (listed.setIfInBounds i true) a w) (h.2 i hi)
  unfold wpOp at h2
  unfold wpOpIn
  split
  ·rename_i e
   rw[e] at h2
   exact h2
  ·rename_i o e
   rw[e] at h2
   simp only at h2 ⊢
   have hdo:∀c,o.op≠.defer c:=fun c hc=>by
    have:=Array.all_eq_true'.1 hd o (Array.mem_of_getElem? e)
    rw[hc] at this
    cases this
   split
   ·rename_i hw
    rw[if_pos hw] at h2
    rcases h2 with h2 | ⟨_,h2⟩
    ·exact oper_round hdo h2
    ·exact(nrm_lets h2).elim
   ·rename_i hw
    rw[if_neg hw] at h2
    exact⟨fun f _=>trivial,h2⟩
theorem region_round {n l:Nat} {P:Program} {id:Nat} {ops:Array Oper} {Q:Exit→Act→World→Prop} {a:Act} {w:World} {S:World→Prop} (hm:P.follows .mixedOrders=true) (hd:ops.all (fun o=>match o.op with | .defer _=>false | _=>true)=true)
  (hS:S w.drew) (h:∀K:Act→World→Prop,(∀a w,Q .normal a w→K a w)→S w.drew→wpAnyH P .any ops (Nrm K) S ops.size (Array.replicate ops.size false) a w.drew):(Code.region id ops true).wpIn (Fence.wide.inRound l) n P Q a w:=by
 refine wpIn_mono (Q:=Nrm fun a w=>Q .normal a w) (wpIn_region_any hm (any_round hd _ _ _ _ (wpAny_of_held _ _ _ _ (h (fun a w=>Q .normal a w) (fun _ _ hh=>hh) hS)))) fun e a w hh=>?_
 cases e with
 | normal=>exact hh
 | _=>exact False.elim hh
theorem Blk.four4 {W:World} {g:Nat} {t:TypeId} {a b c d:Value} (h:Blk W g t #[a,b,c,d]):W.cell? ⟨g,0,none⟩=some a∧W.cell? ⟨g,1,none⟩=some b∧W.cell? ⟨g,2,none⟩=some c∧W.cell? ⟨g,3,none⟩=some d:=
 ⟨h.cell 0,h.cell 1,h.cell 2,h.cell 3⟩
end Go.Proofs.YtmbeahbgafkjfaaGreatDoor
