/- Lemmas for the claim, layer 31. -/
import Derived.Test.YtmbeahbgafkjfaaGreatDoorKc30
set_option maxRecDepth 100000
set_option linter.unusedSimpArgs false
set_option maxHeartbeats 16000000
namespace Go.Proofs.YtmbeahbgafkjfaaGreatDoor
open Go.RowKit
theorem size_writeL:∀w,(Go.sizeOf 70).run Tryz.prog w=.ok 4 w:=fun _=>by kernel_rfl
theorem insertE_wr (base n c g d:Nat) (A:Option Addr) (xs ys:List Value) (w:World) (ho:w.ownsRow base 70 4 (.slice A n c) n xs) (hb:base<=w.heap.size) (hn:n<=1000000)
  (hB:Blk w g 70 ys.toArray) (hyl:ys.length=4) (hy:∀u∈ys,u.oneCell'=true) (hd:1<=d) (hdm:d<=maxLen):
  Calls Tryz.prog 191 #[.slice A n c,.int .i64 n,.slice (some ⟨g,0,none⟩) 1 d] w fun e w'=>∃A' c',e=.returned (.slice A' (n+1) c')/\w'.ownsRow base 70 4 (.slice A' (n+1) c') (n+1) (xs++ys)/\w.grownBy w' (Value.slice A n c).ownBlock:=by
 obtain⟨is0,hsi0,hsz0,hsz1,hsz2⟩:=info_parts writes_info;have hnm:n+1<=maxLen:=by unfold maxLen;omega
 have hcap:=own_cap_ ho;have HR:=Hz_ (show Rd w w.heap.size 4 (some ⟨g,0,none⟩) 1 d ys from ⟨by rw[hyl,Nat.one_mul],hd,hdm,(fun h=>by cases h),fun _=>⟨_,rfl,hB.lt,fun j u hj=>by
  show w.cell? ((⟨g,0,none⟩:Addr).add j)=_;rw[Addr.add_lit,Nat.zero_add,hB.cell j,List.getElem?_toArray];exact hj⟩⟩)
 have HO:=Hz_ ho;have HY:=Hz_ hy;clear ho hB hyl hy;have c0:=fun W=>run_from (P:=Tryz.prog) W 24 70 4 Tryz.underlying24 size_writeL A n c .i64 n n rfl (Nat.le_refl n);go_enter Tryz.func191,Tryz.ntmps191;go_wp2_with (at_builtin;go_must (refine wpList_append_rd _ rfl (.tmp 23) (.tmp 24) _ rfl base 70 is0 _ 4 32 Tryz.underlying24 hsi0 hsz0 hsz1 hsz2 rfl (by decide) (.slice A n c) n xs rfl HO.out w.heap.size (some ⟨g,0,none⟩) 1 d ys rfl HR.out HY.out hnm (by omega) hb ?_);intro A' c' w1 hown hg hat);go_ret;exact⟨A',c',rfl,hown,hg⟩
theorem insertR_wr (base G n c i g d:Nat) (xs ys:List Value) (w:World) (ho:w.ownsRow base 70 4 (.slice (some ⟨G,0,none⟩) n c) n xs) (h1:∀u∈xs,u.oneCell'=true) (hn:n<=1000000) (hi:i < n) (hroom:n < c)
  (hB:Blk w g 70 ys.toArray) (hyl:ys.length=4) (hy:∀u∈ys,u.oneCell'=true) (hgG:g≠G):
  Calls Tryz.prog 191 #[.slice (some ⟨G,0,none⟩) n c,.int .i64 i,.slice (some ⟨g,0,none⟩) 1 d] w fun e w'=>e=.returned (.slice (some ⟨G,0,none⟩) (n+1) c)/\w'.ownsRow base 70 4 (.slice (some ⟨G,0,none⟩) (n+1) c) (n+1) (xs.take (i * 4)++(ys++xs.drop (i * 4)))/\w.grownBy w' (some G):=by
 have hcap:=own_cap_ ho;obtain⟨zs,hzl,hM⟩:=own_more ho hroom;have hlen:=ho.1;have hnk:(n+1) * 4=n * 4+4:=by omega
 have hik:i * 4+4<=n * 4:=by omega
 have hdl:(xs.drop (i * 4)).length=(n - i) * 4:=by rw[List.length_drop,hlen,<-Nat.sub_mul]
 have hs1:(Tryz.prog.info? 70).map (·.size)=some 4:=by
  obtain⟨i0,hi0,_,h,_⟩:=info_parts writes_info;rw[hi0];simp[h]
 have hA:=own_setC (xs.drop (i * 4)) ((i+1) * 4) w.drew (xs++zs) hM (by rw[hdl,List.length_append,hlen,hzl,Nat.sub_mul];omega);obtain⟨W1,hW1⟩:∃W1,W1=w.drew.setCells G ((i+1) * 4) (xs.drop (i * 4)):=⟨_,rfl⟩;rw[<-hW1] at hA;have hcp1:∀ty dl dc sl sc,dl=n - i->sl=n+1 - i->(Builtin.copy_ #[24,24] ty #[.slice (some ⟨G,(i+1) * 4,none⟩) dl dc,.slice (some ⟨G,i * 4,none⟩) sl sc]).run Tryz.prog w.drew=.ok (goInt (n - i:Nat)) W1:=fun ty dl dc sl sc e1 e2=>by
  subst e1 e2;rw[hW1];exact run_copy_k w.drew _ _ ty 70 4 G ((i+1) * 4) (n - i) dc ⟨G,i * 4,none⟩ (n+1 - i) sc (n - i) (xs.drop (i * 4)) Tryz.underlying24 hs1 (by simp only[Nat.min_def];split<;>omega) hdl
   (fun j v hj=>by
    rw[Addr.add_lit];rw[List.getElem?_drop] at hj;have hjl:i * 4+j < xs.length:=by
     rcases Nat.lt_or_ge (i * 4+j) xs.length with h | h
     ·exact h
     ·rw[List.getElem?_eq_none h] at hj;cases hj
    exact(ho.cellAt (i * 4+j) (by omega)).trans hj)
   (fun j hj=>by
    rw[hdl,Nat.sub_mul] at hj;have:=hM.cellAt ((i+1) * 4+j) (by omega);show (w.cell? _).isSome=true;rw[this,List.getElem?_eq_getElem (by rw[List.length_append,hlen,hzl];omega)];rfl)
   (fun j _=>hM.frozenAt _) (fun v hv=>h1 v (List.mem_of_mem_drop hv))
 have hg1:W1.heap[g]?=w.heap[g]?:=hA.2.block g hB.lt (fun e=>hgG (Option.some.inj e));have hB1:Blk W1 g 70 ys.toArray:=hg1.trans hB;have hB2:=own_setC ys (i * 4) W1 _ hA.1 (by
  rw[hA.1.1,hyl];omega)
 have hcp2:∀ty dl dc,dl=n+1 - i->(Builtin.copy_ #[24,24] ty #[.slice (some ⟨G,i * 4,none⟩) dl dc,.slice (some ⟨g,0,none⟩) 1 d]).run Tryz.prog W1=.ok (goInt (1:Nat)) (W1.setCells G (i * 4) ys):=fun ty dl dc e1=>
  run_copy_k W1 _ _ ty 70 4 G (i * 4) dl dc ⟨g,0,none⟩ 1 d 1 ys Tryz.underlying24 hs1 (by simp only[Nat.min_def];split<;>omega) (by rw[hyl])
   (fun j v hj=>by rw[Addr.add_lit,Nat.zero_add,hB1.cell j,List.getElem?_toArray];exact hj)
   (fun j hj=>by
    have:=hA.1.cellAt (i * 4+j) (by omega);rw[this,List.getElem?_eq_getElem (by rw[hA.1.1];omega)];rfl)
   (fun j _=>hA.1.frozenAt _) hy
 have hov:∀lb cb,(callFunc 215 #[.slice (some ⟨g,0,none⟩) 1 d,.slice (some ⟨G,(i+1) * 4,none⟩) lb cb]).run Tryz.prog w=.ok (.value (.bool false)) w:=fun lb cb=>by
  have hsh:∀{b:Nat} {cs:Array Value} {t:TypeId},w.heap[b]?=some (.cells cs t (0,0))->w.shape? b=some (t,cs.size):=fun h=>by unfold World.shape?;rw[h]
  obtain⟨cur,hG,hcs⟩:∃cur,w.heap[G]?=some (.cells cur 70 (0,0))/\cur.size=c * 4:=by
   obtain⟨_,h | ⟨g',cap,cur,hv,_,hg',_,_,hcs,_⟩⟩:=ho
   ·exact absurd h.1 (by simp)
   ·injection hv with e1 _ e3;injection e1 with e1;injection e1 with e1;subst e1 e3;exact⟨cur,hg',hcs⟩
  rw[run_callFunc_extern Tryz.func215 (by kernel_rfl) (by kernel_rfl) (by kernel_rfl) (e:=Extern.SlicesOverlaps.overlaps #[24,24] #[4]) (by kernel_rfl),
   Lib.run_overlaps_apart w 24 4 70 Tryz.underlying24 4 size_writeL ⟨g,0,none⟩ ⟨G,(i+1) * 4,none⟩ 1 d lb cb hgG _ _ _ _ (hsh hB) (hsh hG) (by omega) (hB.frozen _) (hB.frozen _)]
  rfl
 have hE:=hB2.1;have e0:((xs++zs).take ((i+1) * 4)++xs.drop (i * 4)++(xs++zs).drop ((i+1) * 4+(xs.drop (i * 4)).length)).take (i * 4)++ys++((xs++zs).take ((i+1) * 4)++xs.drop (i * 4)++(xs++zs).drop ((i+1) * 4+(xs.drop (i * 4)).length)).drop (i * 4+ys.length)=xs.take (i * 4)++ys++xs.drop (i * 4):=by
  have a1:((xs++zs).take ((i+1) * 4)).length=(i+1) * 4:=by rw[List.length_take,List.length_append,hlen];omega
  have a2:(xs++zs).drop ((i+1) * 4+(xs.drop (i * 4)).length)=[]:=List.drop_eq_nil_of_le (by rw[List.length_append,hdl,hlen,hzl,Nat.sub_mul];omega);rw[a2,List.append_nil,hyl,show i * 4+4=(i+1) * 4 by omega,List.take_append_of_le_length (by rw[a1];omega),List.take_take,Nat.min_eq_left (by omega),List.take_append_of_le_length (by omega),List.drop_append_of_le_length (by rw[a1];omega),List.drop_of_length_le (by rw[a1];omega),List.nil_append]
 rw[e0] at hE;have HE:=Hz_ hE;have HA:=Hz_ (grown_drew (hA.2.trans hB2.2));have HC1:=Hz_ hcp1;have HC2:=Hz_ hcp2;have HOV:=Hz_ hov;have hz2:¬ ((i:Int)=(n:Int)):=by omega
 have hw1:IntKind.i64.wrap ((i:Int)+1)=(i:Int)+1:=by rw[IntKind.wrap_i64];omega
 have hw2:IntKind.i64.wrap ((n:Int)+1)=(n:Int)+1:=by rw[IntKind.wrap_i64];omega
 have hb1:(0:Int)<=(i:Int)+1:=by omega
 have hin:i<=n:=by omega
 have hin1:i<=n+1:=by omega
 have hb3:(i:Int)+1<=(n:Int)+1:=by omega
 have hb4:¬ (c=i):=by omega
 have hb5:¬ (c=i+1):=by omega
 have hb6:¬ ((c:Int) < (n:Int)+1):=by omega
 have hb7:n+1<=c:=hroom;have hb8:(n:Int)+1<=(c:Int):=by omega
 have hb9:(0:Int)<=(n:Int)+1:=by omega
 have hb10:(i:Int)<=(n:Int)+1:=by omega
 clear ho hM hA hE hB hB1 hB2 hcp1 hcp2 hov hW1 e0 hdl hlen h1 hy hs1 hg1 hyl hzl hcap hnk hik;go_enter Tryz.func191,Tryz.ntmps191;go_upto_region 15 with (simp only[HOV.out]);refine region_nrm fun KK hKK=>?_;refine wp_region_held_drew (S:=(fun _=>True)) (by kernel_rfl) (by first | trivial) (fun hHeld=>?_);refine puA 0 69 trivial ?_;refine puA 1 70 trivial ?_;refine puA 2 71 trivial ?_;refine puA 3 72 trivial ?_;refine puA 4 73 trivial ?_;refine puA 5 74 trivial ?_;refine puA 6 75 trivial ?_;refine puA 7 76 trivial ?_;refine puR 8 fun K hK=>?_;rw[if_pos (by kernel_rfl)];refine wp_copy_runK _ (.tmp 73) (.tmp 76) 24 24 rfl _ _ rfl rfl (HC1.out _ _ _ _ _ (by omega) (by omega)) ?_;refine hK.out _ _ trivial fun hHeld=>?_;clear hK K;refine wpAnyH_done (by kernel_rfl) ?_ _;refine Nrm.out (hKK _ _ ?_);have hcp2:=fun ty=>HC2.out ty (n+1 - i) (c - i) rfl;go_wp2;go_ret;exact⟨rfl,by have h:=HE.out;rw[List.append_assoc] at h;exact h,HA.out⟩
theorem insertG_wr (base G n c i g d:Nat) (xs ys:List Value) (w:World) (ho:w.ownsRow base 70 4 (.slice (some ⟨G,0,none⟩) n c) n xs) (h1:∀u∈xs,u.oneCell'=true) (hn:n<=1000000) (hi:i < n) (hroom:c < n+1)
  (hB:Blk w g 70 ys.toArray) (hyl:ys.length=4) (hy:∀u∈ys,u.oneCell'=true):
  Calls Tryz.prog 191 #[.slice (some ⟨G,0,none⟩) n c,.int .i64 i,.slice (some ⟨g,0,none⟩) 1 d] w fun e w'=>∃G' c',e=.returned (.slice (some ⟨G',0,none⟩) (n+1) c')/\w'.ownsRow base 70 4 (.slice (some ⟨G',0,none⟩) (n+1) c') (n+1) (xs.take (i * 4)++(ys++xs.drop (i * 4)))/\Below w.heap.size w w':=by
 obtain⟨i0,hi0,hz0,hz1,hz2⟩:=info_parts writes_info;have hcap:=own_cap_ ho;have hlen:=ho.1;have hGl:=(ho.lt G rfl);have hnk:(n+1) * 4=n * 4+4:=by omega
 have hik:i * 4+4<=n * 4:=by omega
 have hdl:(xs.drop (i * 4)).length=(n - i) * 4:=by rw[List.length_drop,hlen,<-Nat.sub_mul]
 have hs1:(Tryz.prog.info? 70).map (·.size)=some 4:=by rw[hi0];simp[hz1]
 have hkk:(n:Int)+1 - (i:Int)=((n+1 - i:Nat):Int):=by omega
 have hiq:i+(n+1 - i)=n+1:=by omega
 have hold:(Builtin.firstCells i0.size i (.slice (some ⟨G,0,none⟩) i c)).run Tryz.prog w.drew=.ok (xs.take (i * 4)).toArray w.drew:=by
  rw[hz1];exact run_firstCells_some w.drew 4 i ⟨G,0,none⟩ i c (xs.take (i * 4)) (by rw[List.length_take];omega) (fun j v hj=>by
   rw[Addr.add_lit,Nat.zero_add];rw[List.getElem?_take] at hj
   split at hj
   ·exact(ho.cellAt j (by omega)).trans hj
   ·cases hj)
 have hrz:∀ty,(Builtin.append_ #[24,3] ty #[.slice (some ⟨G,0,none⟩) i c,.int .i64 ((n:Int)+1 - (i:Int))]).run Tryz.prog w=.ok (.slice (some ⟨w.heap.size,0,none⟩) (n+1) (grownCap w (n+1) c 70)) (w.drew.alloc (.cells ((xs.take (i * 4)).toArray++Builtin.zeroCells (Value.agg #[.int .i64 0,.int .i64 0,.int .i64 0,.bool false]).cells (n+1 - i)++Builtin.zeroCells (Value.agg #[.int .i64 0,.int .i64 0,.int .i64 0,.bool false]).cells (grownCap w (n+1) c 70 - (n+1))) 70)):=fun ty=>by
  have h:=Lib.run_append_grow_zeros w 24 3 ty 70 i0 _ .i64 .i64 Tryz.underlying24 Tryz.underlying3 hi0 hz0 (some ⟨G,0,none⟩) i c (xs.take (i * 4)) hold (n+1 - i) (by omega) (by omega) (by omega) (by omega) (by rw[hz2];omega) (by rw[hz2,hiq];exact growslice_fits hroom (by omega));rw[hiq] at h;rw[hkk];exact h
 obtain⟨C,hC⟩:∃C,C=grownCap w (n+1) c 70:=⟨_,rfl⟩;have hC1:n+1<=C:=by rw[hC];exact grownCap_ge w _ _ _
 have hC2:C<=maxLen:=by rw[hC];exact grownCap_le_maxLen w (n+1) c 70 (by unfold maxLen;omega)
 obtain⟨ROW,hROW⟩:∃ROW:Array Value,ROW=(xs.take (i * 4)).toArray++Builtin.zeroCells (Value.agg #[.int .i64 0,.int .i64 0,.int .i64 0,.bool false]).cells (n+1 - i)++Builtin.zeroCells (Value.agg #[.int .i64 0,.int .i64 0,.int .i64 0,.bool false]).cells (C - (n+1)):=⟨_,rfl⟩;rw[<-hC] at hrz;rw[<-hROW] at hrz;have hRl:ROW.size=C * 4:=by
  rw[hROW];simp[Builtin.zeroCells,Value.cells,hlen];omega
 obtain⟨W1,hW1⟩:∃W1,W1=w.drew.alloc (.cells ROW 70):=⟨_,rfl⟩;rw[<-hW1] at hrz;have hR:W1.ownsRow base 70 4 (.slice (some ⟨w.heap.size,0,none⟩) (n+1) C) (n+1) (ROW.toList.take ((n+1) * 4)):=by
  rw[hW1];exact own_row w.drew ROW base (Nat.le_trans hGl.1 (Nat.le_of_lt hGl.2)) _ rfl hC1 hC2 hRl
 have hb1':Below w.heap.size w W1:=by rw[hW1];exact Zr.drew.alloc Zl _
 have hB1:Blk W1 g 70 ys.toArray:=hB.below hb1' hB.lt;have ho1:=own_below ho hb1' Zl;have hgN:g≠w.heap.size:=by have:=hB.lt;omega
 have hGN:G≠w.heap.size:=by omega
 have hXl:=hR.1;have hB2:=own_setC ys (i * 4) W1 _ hR (by rw[hXl,hyl];omega);obtain⟨W2,hW2⟩:∃W2,W2=W1.setCells w.heap.size (i * 4) ys:=⟨_,rfl⟩;rw[<-hW2] at hB2;have hcpA:∀ty,(Builtin.copy_ #[24,24] ty #[.slice (some ⟨w.heap.size,i * 4,none⟩) (n+1 - i) (C - i),.slice (some ⟨g,0,none⟩) 1 d]).run Tryz.prog W1=.ok (goInt (1:Nat)) W2:=fun ty=>by
  rw[hW2];exact run_copy_k W1 _ _ ty 70 4 w.heap.size (i * 4) (n+1 - i) (C - i) ⟨g,0,none⟩ 1 d 1 ys Tryz.underlying24 hs1 (by simp only[Nat.min_def];split<;>omega) (by rw[hyl])
   (fun j v hj=>by rw[Addr.add_lit,Nat.zero_add,hB1.cell j,List.getElem?_toArray];exact hj)
   (fun j hj=>by
    have:=hR.cellAt (i * 4+j) (by omega);rw[this,List.getElem?_eq_getElem (by rw[hXl];omega)];rfl)
   (fun j _=>hR.frozenAt _) hy
 have ho2:W2.ownsRow base 70 4 (.slice (some ⟨G,0,none⟩) n c) n xs:=ho1.kept hB2.2 (.inr (fun e=>hGN (Option.some.inj e)));have hXl2:=hB2.1.1;have hB3:=own_setC (xs.drop (i * 4)) ((i+1) * 4) W2.drew _ hB2.1 (by rw[hXl2,hdl,Nat.sub_mul];omega);have hcpB:∀ty dl dc sl sc,dl=n - i->sl=n - i->(Builtin.copy_ #[24,24] ty #[.slice (some ⟨w.heap.size,(i+1) * 4,none⟩) dl dc,.slice (some ⟨G,i * 4,none⟩) sl sc]).run Tryz.prog W2.drew=.ok (goInt (n - i:Nat)) (W2.drew.setCells w.heap.size ((i+1) * 4) (xs.drop (i * 4))):=fun ty dl dc sl sc e1 e2=>by
  subst e1 e2;exact run_copy_k W2.drew _ _ ty 70 4 w.heap.size ((i+1) * 4) (n - i) dc ⟨G,i * 4,none⟩ (n - i) sc (n - i) (xs.drop (i * 4)) Tryz.underlying24 hs1 (by simp only[Nat.min_def];split<;>omega) hdl
   (fun j v hj=>by
    rw[Addr.add_lit];rw[List.getElem?_drop] at hj;have hjl:i * 4+j < xs.length:=by
     rcases Nat.lt_or_ge (i * 4+j) xs.length with h | h
     ·exact h
     ·rw[List.getElem?_eq_none h] at hj;cases hj
    exact(ho2.cellAt (i * 4+j) (by omega)).trans hj)
   (fun j hj=>by
    rw[hdl,Nat.sub_mul] at hj;have:=hB2.1.cellAt ((i+1) * 4+j) (by omega);show (W2.cell? _).isSome=true;rw[this,List.getElem?_eq_getElem (by rw[hXl2];omega)];rfl)
   (fun j _=>hB2.1.frozenAt _) (fun v hv=>h1 v (List.mem_of_mem_drop hv))
 have hE:=hB3.1;have e0:∀X:List Value,X.length=(n+1) * 4->X.take (i * 4)=xs.take (i * 4)->(X.take (i * 4)++ys++X.drop (i * 4+ys.length)).take ((i+1) * 4)++xs.drop (i * 4)++(X.take (i * 4)++ys++X.drop (i * 4+ys.length)).drop ((i+1) * 4+(xs.drop (i * 4)).length)=xs.take (i * 4)++(ys++xs.drop (i * 4)):=by
  intro X hX hXt;have a1:(X.take (i * 4)++ys).length=(i+1) * 4:=by rw[List.length_append,List.length_take,hX,hyl];omega
  have a2:(X.take (i * 4)++ys++X.drop (i * 4+ys.length)).drop ((i+1) * 4+(xs.drop (i * 4)).length)=[]:=List.drop_eq_nil_of_le (by rw[List.length_append,a1,List.length_drop,hX,hdl,hyl,Nat.sub_mul];omega);rw[a2,List.append_nil,<-a1,List.take_left,hXt,List.append_assoc]
 rw[e0 _ hXl (by
  rw[List.take_take,Nat.min_eq_left (by omega),hROW];simp only[Array.toList_append,List.append_assoc];rw[List.take_append_of_le_length (by rw[List.length_take];omega),List.take_take,Nat.min_self])] at hE
 have HE:=Hz_ hE;have HK:=Hz_ (show Below w.heap.size w (W2.drew.setCells w.heap.size ((i+1) * 4) (xs.drop (i * 4))) from (hb1'.trans ((grown_below hB2.2 hb1'.size (fun k hk=>by cases hk;exact Nat.le_refl _)).drew)).trans (grown_below hB3.2 (by have:=hB2.2.size;have:=hb1'.size;show _<=W2.heap.size;omega) (fun k hk=>by cases hk;exact Nat.le_refl _)));have HCA:=Hz_ hcpA;have HCB:=Hz_ hcpB;have HRZ:=Hz_ hrz;have hz2':¬ ((i:Int)=(n:Int)):=by omega
 have hw1:IntKind.i64.wrap ((i:Int)+1)=(i:Int)+1:=by rw[IntKind.wrap_i64];omega
 have hw2:IntKind.i64.wrap ((n:Int)+1)=(n:Int)+1:=by rw[IntKind.wrap_i64];omega
 have hw3:IntKind.i64.wrap ((n:Int)+1 - (i:Int))=(n:Int)+1 - (i:Int):=by rw[IntKind.wrap_i64];omega
 have hb1:(0:Int)<=(i:Int)+1:=by omega
 have hin:i<=n:=by omega
 have hin1:i<=n+1:=by omega
 have hb3:(i:Int)+1<=(n:Int)+1:=by omega
 have hb4:¬ (C=i):=by omega
 have hb5:¬ (C=i+1):=by omega
 have hb6:(c:Int) < (n:Int)+1:=by omega
 have hb7:¬ (c=i):=by omega
 have hb8:i<=c:=by omega
 have hb10:(i:Int)<=(n:Int)+1:=by omega
 obtain⟨N,hN⟩:∃N,N=w.heap.size:=⟨_,rfl⟩;have HN:=Hz_ hN;clear ho hR hE hB hB1 hB2 hB3 hcpA hcpB hrz hW1 hW2 e0 hdl hlen h1 hy hs1 hyl hcap hnk hik hROW hRl hold ho1 ho2 hXl hXl2 hC hkk hN hC1 hC2 hGl;go_enter Tryz.func191,Tryz.ntmps191;go_wp2_with (at_builtin;go_must (refine wpList_append_runK _ rfl (.tmp 34) (.tmp 39) 24 3 rfl _ _ rfl rfl (HRZ.out _) ?_);have hca:=HCA.out);refine region_nrm fun KK hKK=>?_;refine wp_region_held_drew (S:=(fun _=>True)) (by kernel_rfl) (by first | trivial) (fun hHeld=>?_);refine puA 0 46 trivial ?_;refine puA 1 47 trivial ?_;refine puA 2 48 trivial ?_;refine puA 3 49 trivial ?_;refine puA 4 50 trivial ?_;refine puA 5 51 trivial ?_;refine puA 6 52 trivial ?_;refine puA 7 53 trivial ?_;refine puR 8 fun K hK=>?_;rw[if_pos (by kernel_rfl)];refine wp_copy_runK _ (.tmp 50) (.tmp 53) 24 24 rfl _ _ rfl rfl (HCB.out _ _ _ _ _ (by omega) (by omega)) ?_;refine hK.out _ _ trivial fun hHeld=>?_;clear hK K;refine wpAnyH_done (by kernel_rfl) ?_ _;refine Nrm.out (hKK _ _ ?_);go_wp2;go_ret;exact⟨_,_,rfl,HE.out,HK.out⟩
theorem insert_wr (base n c i g d:Nat) (A:Option Addr) (xs ys:List Value) (w:World) (ho:w.ownsRow base 70 4 (.slice A n c) n xs) (hb:base<=w.heap.size) (h1:∀u∈xs,u.oneCell'=true) (hn:n<=1000000) (hi:i<=n)
  (hB:Blk w g 70 ys.toArray) (hyl:ys.length=4) (hy:∀u∈ys,u.oneCell'=true) (hd:1<=d) (hdm:d<=maxLen) (hg:(Value.slice A n c).ownBlock≠some g):
  Calls Tryz.prog 191 #[.slice A n c,.int .i64 i,.slice (some ⟨g,0,none⟩) 1 d] w fun e w'=>∃A' c',e=.returned (.slice A' (n+1) c')/\w'.ownsRow base 70 4 (.slice A' (n+1) c') (n+1) (xs.take (i * 4)++(ys++xs.drop (i * 4)))/\w.grownBy w' (Value.slice A n c).ownBlock:=by
 have hlen:=ho.1;by_cases he:i=n
 ·subst he;rw[<-hlen,List.take_length,List.drop_length,List.append_nil];exact insertE_wr base i c g d A xs ys w ho hb hn hB hyl hy hd hdm
 ·rcases own_at0 ho with ⟨rfl,rfl,rfl,rfl⟩ | ⟨G,rfl⟩
  ·omega
  ·have hgG:g≠G:=fun e=>hg (by rw[e];rfl);by_cases hr:n < c
   ·refine(insertR_wr base G n c i g d xs ys w ho h1 hn (by omega) hr hB hyl hy hgG).mono ?_;rintro e w' ⟨rfl,h2,h3⟩;exact⟨_,_,rfl,h2,h3⟩
   ·refine(insertG_wr base G n c i g d xs ys w ho h1 hn (by omega) (by omega) hB hyl hy).mono ?_;rintro e w' ⟨G',c',rfl,h2,h3⟩;exact⟨_,_,rfl,h2,grown_belowE h3 _⟩
theorem insertE_sb (base n c g d:Nat) (A:Option Addr) (xs ys:List Value) (w:World) (ho:w.ownsRow base 65 7 (.slice A n c) n xs) (hb:base<=w.heap.size) (hn:n<=1000000)
  (hB:Blk w g 65 ys.toArray) (hyl:ys.length=7) (hy:∀u∈ys,u.oneCell'=true) (hd:1<=d) (hdm:d<=maxLen):
  Calls Tryz.prog 75 #[.slice A n c,.int .i64 n,.slice (some ⟨g,0,none⟩) 1 d] w fun e w'=>∃A' c',e=.returned (.slice A' (n+1) c')/\w'.ownsRow base 65 7 (.slice A' (n+1) c') (n+1) (xs++ys)/\w.grownBy w' (Value.slice A n c).ownBlock:=by
 obtain⟨is0,hsi0,hsz0,hsz1,hsz2⟩:=info_parts sub_info;have hnm:n+1<=maxLen:=by unfold maxLen;omega
 have hcap:=own_cap_ ho;have HR:=Hz_ (show Rd w w.heap.size 7 (some ⟨g,0,none⟩) 1 d ys from ⟨by rw[hyl,Nat.one_mul],hd,hdm,(fun h=>by cases h),fun _=>⟨_,rfl,hB.lt,fun j u hj=>by
  show w.cell? ((⟨g,0,none⟩:Addr).add j)=_;rw[Addr.add_lit,Nat.zero_add,hB.cell j,List.getElem?_toArray];exact hj⟩⟩)
 have HO:=Hz_ ho;have HY:=Hz_ hy;clear ho hB hyl hy;have c0:=fun W=>run_from (P:=Tryz.prog) W 36 65 7 Tryz.underlying36 size_sub A n c .i64 n n rfl (Nat.le_refl n);go_enter Tryz.func75,Tryz.ntmps75;go_wp2_with (at_builtin;go_must (refine wpList_append_rd _ rfl (.tmp 23) (.tmp 24) _ rfl base 65 is0 _ 7 56 Tryz.underlying36 hsi0 hsz0 hsz1 hsz2 rfl (by decide) (.slice A n c) n xs rfl HO.out w.heap.size (some ⟨g,0,none⟩) 1 d ys rfl HR.out HY.out hnm (by omega) hb ?_);intro A' c' w1 hown hg hat);go_ret;exact⟨A',c',rfl,hown,hg⟩
theorem insertR_sb (base G n c i g d:Nat) (xs ys:List Value) (w:World) (ho:w.ownsRow base 65 7 (.slice (some ⟨G,0,none⟩) n c) n xs) (h1:∀u∈xs,u.oneCell'=true) (hn:n<=1000000) (hi:i < n) (hroom:n < c)
  (hB:Blk w g 65 ys.toArray) (hyl:ys.length=7) (hy:∀u∈ys,u.oneCell'=true) (hgG:g≠G):
  Calls Tryz.prog 75 #[.slice (some ⟨G,0,none⟩) n c,.int .i64 i,.slice (some ⟨g,0,none⟩) 1 d] w fun e w'=>e=.returned (.slice (some ⟨G,0,none⟩) (n+1) c)/\w'.ownsRow base 65 7 (.slice (some ⟨G,0,none⟩) (n+1) c) (n+1) (xs.take (i * 7)++(ys++xs.drop (i * 7)))/\w.grownBy w' (some G):=by
 have hcap:=own_cap_ ho;obtain⟨zs,hzl,hM⟩:=own_more ho hroom;have hlen:=ho.1;have hnk:(n+1) * 7=n * 7+7:=by omega
 have hik:i * 7+7<=n * 7:=by omega
 have hdl:(xs.drop (i * 7)).length=(n - i) * 7:=by rw[List.length_drop,hlen,<-Nat.sub_mul]
 have hs1:(Tryz.prog.info? 65).map (·.size)=some 7:=by
  obtain⟨i0,hi0,_,h,_⟩:=info_parts sub_info;rw[hi0];simp[h]
 have hA:=own_setC (xs.drop (i * 7)) ((i+1) * 7) w.drew (xs++zs) hM (by rw[hdl,List.length_append,hlen,hzl,Nat.sub_mul];omega);obtain⟨W1,hW1⟩:∃W1,W1=w.drew.setCells G ((i+1) * 7) (xs.drop (i * 7)):=⟨_,rfl⟩;rw[<-hW1] at hA;have hcp1:∀ty dl dc sl sc,dl=n - i->sl=n+1 - i->(Builtin.copy_ #[36,36] ty #[.slice (some ⟨G,(i+1) * 7,none⟩) dl dc,.slice (some ⟨G,i * 7,none⟩) sl sc]).run Tryz.prog w.drew=.ok (goInt (n - i:Nat)) W1:=fun ty dl dc sl sc e1 e2=>by
  subst e1 e2;rw[hW1];exact run_copy_k w.drew _ _ ty 65 7 G ((i+1) * 7) (n - i) dc ⟨G,i * 7,none⟩ (n+1 - i) sc (n - i) (xs.drop (i * 7)) Tryz.underlying36 hs1 (by simp only[Nat.min_def];split<;>omega) hdl
   (fun j v hj=>by
    rw[Addr.add_lit];rw[List.getElem?_drop] at hj;have hjl:i * 7+j < xs.length:=by
     rcases Nat.lt_or_ge (i * 7+j) xs.length with h | h
     ·exact h
     ·rw[List.getElem?_eq_none h] at hj;cases hj
    exact(ho.cellAt (i * 7+j) (by omega)).trans hj)
   (fun j hj=>by
    rw[hdl,Nat.sub_mul] at hj;have:=hM.cellAt ((i+1) * 7+j) (by omega);show (w.cell? _).isSome=true;rw[this,List.getElem?_eq_getElem (by rw[List.length_append,hlen,hzl];omega)];rfl)
   (fun j _=>hM.frozenAt _) (fun v hv=>h1 v (List.mem_of_mem_drop hv))
 have hg1:W1.heap[g]?=w.heap[g]?:=hA.2.block g hB.lt (fun e=>hgG (Option.some.inj e));have hB1:Blk W1 g 65 ys.toArray:=hg1.trans hB;have hB2:=own_setC ys (i * 7) W1 _ hA.1 (by
  rw[hA.1.1,hyl];omega)
 have hcp2:∀ty dl dc,dl=n+1 - i->(Builtin.copy_ #[36,36] ty #[.slice (some ⟨G,i * 7,none⟩) dl dc,.slice (some ⟨g,0,none⟩) 1 d]).run Tryz.prog W1=.ok (goInt (1:Nat)) (W1.setCells G (i * 7) ys):=fun ty dl dc e1=>
  run_copy_k W1 _ _ ty 65 7 G (i * 7) dl dc ⟨g,0,none⟩ 1 d 1 ys Tryz.underlying36 hs1 (by simp only[Nat.min_def];split<;>omega) (by rw[hyl])
   (fun j v hj=>by rw[Addr.add_lit,Nat.zero_add,hB1.cell j,List.getElem?_toArray];exact hj)
   (fun j hj=>by
    have:=hA.1.cellAt (i * 7+j) (by omega);rw[this,List.getElem?_eq_getElem (by rw[hA.1.1];omega)];rfl)
   (fun j _=>hA.1.frozenAt _) hy
 have hov:∀lb cb,(callFunc 150 #[.slice (some ⟨g,0,none⟩) 1 d,.slice (some ⟨G,(i+1) * 7,none⟩) lb cb]).run Tryz.prog w=.ok (.value (.bool false)) w:=fun lb cb=>by
  have hsh:∀{b:Nat} {cs:Array Value} {t:TypeId},w.heap[b]?=some (.cells cs t (0,0))->w.shape? b=some (t,cs.size):=fun h=>by unfold World.shape?;rw[h]
  obtain⟨cur,hG,hcs⟩:∃cur,w.heap[G]?=some (.cells cur 65 (0,0))/\cur.size=c * 7:=by
   obtain⟨_,h | ⟨g',cap,cur,hv,_,hg',_,_,hcs,_⟩⟩:=ho
   ·exact absurd h.1 (by simp)
   ·injection hv with e1 _ e3;injection e1 with e1;injection e1 with e1;subst e1 e3;exact⟨cur,hg',hcs⟩
  rw[run_callFunc_extern Tryz.func150 (by kernel_rfl) (by kernel_rfl) (by kernel_rfl) (e:=Extern.SlicesOverlaps.overlaps #[36,36] #[4]) (by kernel_rfl),
   Lib.run_overlaps_apart w 36 4 65 Tryz.underlying36 7 size_sub ⟨g,0,none⟩ ⟨G,(i+1) * 7,none⟩ 1 d lb cb hgG _ _ _ _ (hsh hB) (hsh hG) (by omega) (hB.frozen _) (hB.frozen _)]
  rfl
 have hE:=hB2.1;have e0:((xs++zs).take ((i+1) * 7)++xs.drop (i * 7)++(xs++zs).drop ((i+1) * 7+(xs.drop (i * 7)).length)).take (i * 7)++ys++((xs++zs).take ((i+1) * 7)++xs.drop (i * 7)++(xs++zs).drop ((i+1) * 7+(xs.drop (i * 7)).length)).drop (i * 7+ys.length)=xs.take (i * 7)++ys++xs.drop (i * 7):=by
  have a1:((xs++zs).take ((i+1) * 7)).length=(i+1) * 7:=by rw[List.length_take,List.length_append,hlen];omega
  have a2:(xs++zs).drop ((i+1) * 7+(xs.drop (i * 7)).length)=[]:=List.drop_eq_nil_of_le (by rw[List.length_append,hdl,hlen,hzl,Nat.sub_mul];omega);rw[a2,List.append_nil,hyl,show i * 7+7=(i+1) * 7 by omega,List.take_append_of_le_length (by rw[a1];omega),List.take_take,Nat.min_eq_left (by omega),List.take_append_of_le_length (by omega),List.drop_append_of_le_length (by rw[a1];omega),List.drop_of_length_le (by rw[a1];omega),List.nil_append]
 rw[e0] at hE;have HE:=Hz_ hE;have HA:=Hz_ (grown_drew (hA.2.trans hB2.2));have HC1:=Hz_ hcp1;have HC2:=Hz_ hcp2;have HOV:=Hz_ hov;have hz2:¬ ((i:Int)=(n:Int)):=by omega
 have hw1:IntKind.i64.wrap ((i:Int)+1)=(i:Int)+1:=by rw[IntKind.wrap_i64];omega
 have hw2:IntKind.i64.wrap ((n:Int)+1)=(n:Int)+1:=by rw[IntKind.wrap_i64];omega
 have hb1:(0:Int)<=(i:Int)+1:=by omega
 have hin:i<=n:=by omega
 have hin1:i<=n+1:=by omega
 have hb3:(i:Int)+1<=(n:Int)+1:=by omega
 have hb4:¬ (c=i):=by omega
 have hb5:¬ (c=i+1):=by omega
 have hb6:¬ ((c:Int) < (n:Int)+1):=by omega
 have hb7:n+1<=c:=hroom;have hb8:(n:Int)+1<=(c:Int):=by omega
 have hb9:(0:Int)<=(n:Int)+1:=by omega
 have hb10:(i:Int)<=(n:Int)+1:=by omega
 clear ho hM hA hE hB hB1 hB2 hcp1 hcp2 hov hW1 e0 hdl hlen h1 hy hs1 hg1 hyl hzl hcap hnk hik;go_enter Tryz.func75,Tryz.ntmps75;go_upto_region 15 with (simp only[HOV.out]);refine region_nrm fun KK hKK=>?_;refine wp_region_held_drew (S:=(fun _=>True)) (by kernel_rfl) (by first | trivial) (fun hHeld=>?_);refine puA 0 69 trivial ?_;refine puA 1 70 trivial ?_;refine puA 2 71 trivial ?_;refine puA 3 72 trivial ?_;refine puA 4 73 trivial ?_;refine puA 5 74 trivial ?_;refine puA 6 75 trivial ?_;refine puA 7 76 trivial ?_;refine puR 8 fun K hK=>?_;rw[if_pos (by kernel_rfl)];refine wp_copy_runK _ (.tmp 73) (.tmp 76) 36 36 rfl _ _ rfl rfl (HC1.out _ _ _ _ _ (by omega) (by omega)) ?_;refine hK.out _ _ trivial fun hHeld=>?_;clear hK K;refine wpAnyH_done (by kernel_rfl) ?_ _;refine Nrm.out (hKK _ _ ?_);have hcp2:=fun ty=>HC2.out ty (n+1 - i) (c - i) rfl;go_wp2;go_ret;exact⟨rfl,by have h:=HE.out;rw[List.append_assoc] at h;exact h,HA.out⟩
theorem insertG_sb (base G n c i g d:Nat) (xs ys:List Value) (w:World) (ho:w.ownsRow base 65 7 (.slice (some ⟨G,0,none⟩) n c) n xs) (h1:∀u∈xs,u.oneCell'=true) (hn:n<=1000000) (hi:i < n) (hroom:c < n+1)
  (hB:Blk w g 65 ys.toArray) (hyl:ys.length=7) (hy:∀u∈ys,u.oneCell'=true):
  Calls Tryz.prog 75 #[.slice (some ⟨G,0,none⟩) n c,.int .i64 i,.slice (some ⟨g,0,none⟩) 1 d] w fun e w'=>∃G' c',e=.returned (.slice (some ⟨G',0,none⟩) (n+1) c')/\w'.ownsRow base 65 7 (.slice (some ⟨G',0,none⟩) (n+1) c') (n+1) (xs.take (i * 7)++(ys++xs.drop (i * 7)))/\Below w.heap.size w w':=by
 obtain⟨i0,hi0,hz0,hz1,hz2⟩:=info_parts sub_info;have hcap:=own_cap_ ho;have hlen:=ho.1;have hGl:=(ho.lt G rfl);have hnk:(n+1) * 7=n * 7+7:=by omega
 have hik:i * 7+7<=n * 7:=by omega
 have hdl:(xs.drop (i * 7)).length=(n - i) * 7:=by rw[List.length_drop,hlen,<-Nat.sub_mul]
 have hs1:(Tryz.prog.info? 65).map (·.size)=some 7:=by rw[hi0];simp[hz1]
 have hkk:(n:Int)+1 - (i:Int)=((n+1 - i:Nat):Int):=by omega
 have hiq:i+(n+1 - i)=n+1:=by omega
 have hold:(Builtin.firstCells i0.size i (.slice (some ⟨G,0,none⟩) i c)).run Tryz.prog w.drew=.ok (xs.take (i * 7)).toArray w.drew:=by
  rw[hz1];exact run_firstCells_some w.drew 7 i ⟨G,0,none⟩ i c (xs.take (i * 7)) (by rw[List.length_take];omega) (fun j v hj=>by
   rw[Addr.add_lit,Nat.zero_add];rw[List.getElem?_take] at hj
   split at hj
   ·exact(ho.cellAt j (by omega)).trans hj
   ·cases hj)
 have hrz:∀ty,(Builtin.append_ #[36,3] ty #[.slice (some ⟨G,0,none⟩) i c,.int .i64 ((n:Int)+1 - (i:Int))]).run Tryz.prog w=.ok (.slice (some ⟨w.heap.size,0,none⟩) (n+1) (grownCap w (n+1) c 65)) (w.drew.alloc (.cells ((xs.take (i * 7)).toArray++Builtin.zeroCells (Value.agg #[.int .i64 0,.slice none 0 0,.int .i64 0,.int .i64 0,.bool false,.bool false,.bool false]).cells (n+1 - i)++Builtin.zeroCells (Value.agg #[.int .i64 0,.slice none 0 0,.int .i64 0,.int .i64 0,.bool false,.bool false,.bool false]).cells (grownCap w (n+1) c 65 - (n+1))) 65)):=fun ty=>by
  have h:=Lib.run_append_grow_zeros w 36 3 ty 65 i0 _ .i64 .i64 Tryz.underlying36 Tryz.underlying3 hi0 hz0 (some ⟨G,0,none⟩) i c (xs.take (i * 7)) hold (n+1 - i) (by omega) (by omega) (by omega) (by omega) (by rw[hz2];omega) (by rw[hz2,hiq];exact growslice_fits hroom (by omega));rw[hiq] at h;rw[hkk];exact h
 obtain⟨C,hC⟩:∃C,C=grownCap w (n+1) c 65:=⟨_,rfl⟩;have hC1:n+1<=C:=by rw[hC];exact grownCap_ge w _ _ _
 have hC2:C<=maxLen:=by rw[hC];exact grownCap_le_maxLen w (n+1) c 65 (by unfold maxLen;omega)
 obtain⟨ROW,hROW⟩:∃ROW:Array Value,ROW=(xs.take (i * 7)).toArray++Builtin.zeroCells (Value.agg #[.int .i64 0,.slice none 0 0,.int .i64 0,.int .i64 0,.bool false,.bool false,.bool false]).cells (n+1 - i)++Builtin.zeroCells (Value.agg #[.int .i64 0,.slice none 0 0,.int .i64 0,.int .i64 0,.bool false,.bool false,.bool false]).cells (C - (n+1)):=⟨_,rfl⟩;rw[<-hC] at hrz;rw[<-hROW] at hrz;have hRl:ROW.size=C * 7:=by
  rw[hROW];simp[Builtin.zeroCells,Value.cells,hlen];omega
 obtain⟨W1,hW1⟩:∃W1,W1=w.drew.alloc (.cells ROW 65):=⟨_,rfl⟩;rw[<-hW1] at hrz;have hR:W1.ownsRow base 65 7 (.slice (some ⟨w.heap.size,0,none⟩) (n+1) C) (n+1) (ROW.toList.take ((n+1) * 7)):=by
  rw[hW1];exact own_row w.drew ROW base (Nat.le_trans hGl.1 (Nat.le_of_lt hGl.2)) _ rfl hC1 hC2 hRl
 have hb1':Below w.heap.size w W1:=by rw[hW1];exact Zr.drew.alloc Zl _
 have hB1:Blk W1 g 65 ys.toArray:=hB.below hb1' hB.lt;have ho1:=own_below ho hb1' Zl;have hgN:g≠w.heap.size:=by have:=hB.lt;omega
 have hGN:G≠w.heap.size:=by omega
 have hXl:=hR.1;have hB2:=own_setC ys (i * 7) W1 _ hR (by rw[hXl,hyl];omega);obtain⟨W2,hW2⟩:∃W2,W2=W1.setCells w.heap.size (i * 7) ys:=⟨_,rfl⟩;rw[<-hW2] at hB2;have hcpA:∀ty,(Builtin.copy_ #[36,36] ty #[.slice (some ⟨w.heap.size,i * 7,none⟩) (n+1 - i) (C - i),.slice (some ⟨g,0,none⟩) 1 d]).run Tryz.prog W1=.ok (goInt (1:Nat)) W2:=fun ty=>by
  rw[hW2];exact run_copy_k W1 _ _ ty 65 7 w.heap.size (i * 7) (n+1 - i) (C - i) ⟨g,0,none⟩ 1 d 1 ys Tryz.underlying36 hs1 (by simp only[Nat.min_def];split<;>omega) (by rw[hyl])
   (fun j v hj=>by rw[Addr.add_lit,Nat.zero_add,hB1.cell j,List.getElem?_toArray];exact hj)
   (fun j hj=>by
    have:=hR.cellAt (i * 7+j) (by omega);rw[this,List.getElem?_eq_getElem (by rw[hXl];omega)];rfl)
   (fun j _=>hR.frozenAt _) hy
 have ho2:W2.ownsRow base 65 7 (.slice (some ⟨G,0,none⟩) n c) n xs:=ho1.kept hB2.2 (.inr (fun e=>hGN (Option.some.inj e)));have hXl2:=hB2.1.1;have hB3:=own_setC (xs.drop (i * 7)) ((i+1) * 7) W2.drew _ hB2.1 (by rw[hXl2,hdl,Nat.sub_mul];omega);have hcpB:∀ty dl dc sl sc,dl=n - i->sl=n - i->(Builtin.copy_ #[36,36] ty #[.slice (some ⟨w.heap.size,(i+1) * 7,none⟩) dl dc,.slice (some ⟨G,i * 7,none⟩) sl sc]).run Tryz.prog W2.drew=.ok (goInt (n - i:Nat)) (W2.drew.setCells w.heap.size ((i+1) * 7) (xs.drop (i * 7))):=fun ty dl dc sl sc e1 e2=>by
  subst e1 e2;exact run_copy_k W2.drew _ _ ty 65 7 w.heap.size ((i+1) * 7) (n - i) dc ⟨G,i * 7,none⟩ (n - i) sc (n - i) (xs.drop (i * 7)) Tryz.underlying36 hs1 (by simp only[Nat.min_def];split<;>omega) hdl
   (fun j v hj=>by
    rw[Addr.add_lit];rw[List.getElem?_drop] at hj;have hjl:i * 7+j < xs.length:=by
     rcases Nat.lt_or_ge (i * 7+j) xs.length with h | h
     ·exact h
     ·rw[List.getElem?_eq_none h] at hj;cases hj
    exact(ho2.cellAt (i * 7+j) (by omega)).trans hj)
   (fun j hj=>by
    rw[hdl,Nat.sub_mul] at hj;have:=hB2.1.cellAt ((i+1) * 7+j) (by omega);show (W2.cell? _).isSome=true;rw[this,List.getElem?_eq_getElem (by rw[hXl2];omega)];rfl)
   (fun j _=>hB2.1.frozenAt _) (fun v hv=>h1 v (List.mem_of_mem_drop hv))
 have hE:=hB3.1;have e0:∀X:List Value,X.length=(n+1) * 7->X.take (i * 7)=xs.take (i * 7)->(X.take (i * 7)++ys++X.drop (i * 7+ys.length)).take ((i+1) * 7)++xs.drop (i * 7)++(X.take (i * 7)++ys++X.drop (i * 7+ys.length)).drop ((i+1) * 7+(xs.drop (i * 7)).length)=xs.take (i * 7)++(ys++xs.drop (i * 7)):=by
  intro X hX hXt;have a1:(X.take (i * 7)++ys).length=(i+1) * 7:=by rw[List.length_append,List.length_take,hX,hyl];omega
  have a2:(X.take (i * 7)++ys++X.drop (i * 7+ys.length)).drop ((i+1) * 7+(xs.drop (i * 7)).length)=[]:=List.drop_eq_nil_of_le (by rw[List.length_append,a1,List.length_drop,hX,hdl,hyl,Nat.sub_mul];omega);rw[a2,List.append_nil,<-a1,List.take_left,hXt,List.append_assoc]
 rw[e0 _ hXl (by
  rw[List.take_take,Nat.min_eq_left (by omega),hROW];simp only[Array.toList_append,List.append_assoc];rw[List.take_append_of_le_length (by rw[List.length_take];omega),List.take_take,Nat.min_self])] at hE
 have HE:=Hz_ hE;have HK:=Hz_ (show Below w.heap.size w (W2.drew.setCells w.heap.size ((i+1) * 7) (xs.drop (i * 7))) from (hb1'.trans ((grown_below hB2.2 hb1'.size (fun k hk=>by cases hk;exact Nat.le_refl _)).drew)).trans (grown_below hB3.2 (by have:=hB2.2.size;have:=hb1'.size;show _<=W2.heap.size;omega) (fun k hk=>by cases hk;exact Nat.le_refl _)));have HCA:=Hz_ hcpA;have HCB:=Hz_ hcpB;have HRZ:=Hz_ hrz;have hz2':¬ ((i:Int)=(n:Int)):=by omega
 have hw1:IntKind.i64.wrap ((i:Int)+1)=(i:Int)+1:=by rw[IntKind.wrap_i64];omega
 have hw2:IntKind.i64.wrap ((n:Int)+1)=(n:Int)+1:=by rw[IntKind.wrap_i64];omega
 have hw3:IntKind.i64.wrap ((n:Int)+1 - (i:Int))=(n:Int)+1 - (i:Int):=by rw[IntKind.wrap_i64];omega
 have hb1:(0:Int)<=(i:Int)+1:=by omega
 have hin:i<=n:=by omega
 have hin1:i<=n+1:=by omega
 have hb3:(i:Int)+1<=(n:Int)+1:=by omega
 have hb4:¬ (C=i):=by omega
 have hb5:¬ (C=i+1):=by omega
 have hb6:(c:Int) < (n:Int)+1:=by omega
 have hb7:¬ (c=i):=by omega
 have hb8:i<=c:=by omega
 have hb10:(i:Int)<=(n:Int)+1:=by omega
 obtain⟨N,hN⟩:∃N,N=w.heap.size:=⟨_,rfl⟩;have HN:=Hz_ hN;clear ho hR hE hB hB1 hB2 hB3 hcpA hcpB hrz hW1 hW2 e0 hdl hlen h1 hy hs1 hyl hcap hnk hik hROW hRl hold ho1 ho2 hXl hXl2 hC hkk hN hC1 hC2 hGl;go_enter Tryz.func75,Tryz.ntmps75;go_wp2_with (at_builtin;go_must (refine wpList_append_runK _ rfl (.tmp 34) (.tmp 39) 36 3 rfl _ _ rfl rfl (HRZ.out _) ?_);have hca:=HCA.out);refine region_nrm fun KK hKK=>?_;refine wp_region_held_drew (S:=(fun _=>True)) (by kernel_rfl) (by first | trivial) (fun hHeld=>?_);refine puA 0 46 trivial ?_;refine puA 1 47 trivial ?_;refine puA 2 48 trivial ?_;refine puA 3 49 trivial ?_;refine puA 4 50 trivial ?_;refine puA 5 51 trivial ?_;refine puA 6 52 trivial ?_;refine puA 7 53 trivial ?_;refine puR 8 fun K hK=>?_;rw[if_pos (by kernel_rfl)];refine wp_copy_runK _ (.tmp 50) (.tmp 53) 36 36 rfl _ _ rfl rfl (HCB.out _ _ _ _ _ (by omega) (by omega)) ?_;refine hK.out _ _ trivial fun hHeld=>?_;clear hK K;refine wpAnyH_done (by kernel_rfl) ?_ _;refine Nrm.out (hKK _ _ ?_);go_wp2;go_ret;exact⟨_,_,rfl,HE.out,HK.out⟩
theorem insert_sb (base n c i g d:Nat) (A:Option Addr) (xs ys:List Value) (w:World) (ho:w.ownsRow base 65 7 (.slice A n c) n xs) (hb:base<=w.heap.size) (h1:∀u∈xs,u.oneCell'=true) (hn:n<=1000000) (hi:i<=n)
  (hB:Blk w g 65 ys.toArray) (hyl:ys.length=7) (hy:∀u∈ys,u.oneCell'=true) (hd:1<=d) (hdm:d<=maxLen) (hg:(Value.slice A n c).ownBlock≠some g):
  Calls Tryz.prog 75 #[.slice A n c,.int .i64 i,.slice (some ⟨g,0,none⟩) 1 d] w fun e w'=>∃A' c',e=.returned (.slice A' (n+1) c')/\w'.ownsRow base 65 7 (.slice A' (n+1) c') (n+1) (xs.take (i * 7)++(ys++xs.drop (i * 7)))/\w.grownBy w' (Value.slice A n c).ownBlock:=by
 have hlen:=ho.1;by_cases he:i=n
 ·subst he;rw[<-hlen,List.take_length,List.drop_length,List.append_nil];exact insertE_sb base i c g d A xs ys w ho hb hn hB hyl hy hd hdm
 ·rcases own_at0 ho with ⟨rfl,rfl,rfl,rfl⟩ | ⟨G,rfl⟩
  ·omega
  ·have hgG:g≠G:=fun e=>hg (by rw[e];rfl);by_cases hr:n < c
   ·refine(insertR_sb base G n c i g d xs ys w ho h1 hn (by omega) hr hB hyl hy hgG).mono ?_;rintro e w' ⟨rfl,h2,h3⟩;exact⟨_,_,rfl,h2,h3⟩
   ·refine(insertG_sb base G n c i g d xs ys w ho h1 hn (by omega) (by omega) hB hyl hy).mono ?_;rintro e w' ⟨G',c',rfl,h2,h3⟩;exact⟨_,_,rfl,h2,grown_belowE h3 _⟩
open Go.Sort
namespace St
variable {α:Type}
/-! ### Exchanges in lists -/
variable [Inhabited α]
/-! ### What the symmetric merge finds -/
structure Cut (lt:α->α->Bool) (L R:List α) (s e:Nat):Prop where
 ls:s<=L.length
 le:e<=R.length
 up:∀i j,s<=i->i < L.length->j < e->lt R[j]! L[i]! = true
 lo:∀i j,i < s->e<=j->j < R.length->lt R[j]! L[i]! = false
end St
end Go.Proofs.YtmbeahbgafkjfaaGreatDoor
namespace Go.Proofs.YtmbeahbgafkjfaaGreatDoor
open Go.Sort
def stLt (a b:Vc.St):Bool:=decide (a.1 < b.1) || (decide (a.1=b.1) && decide (a.2 < b.2))
open Go.RowKit Go.Shelf Go.Sort Go.Lib
def Gr (w w':World):Prop:=∃q os,w'=grow (w.drewN q) os
theorem Gr.drew1 (w:World):Gr w w.drew:=⟨1,#[],by rw[grow_empty];rfl⟩
theorem Gr.alloc1 (w:World) (o:Obj):Gr w (w.alloc o):=⟨0,#[o],by rw[alloc_eq_grow];rfl⟩
theorem Gr.trans {a b c:World} (h:Gr a b) (h':Gr b c):Gr a c:=by
 obtain⟨q,os,rfl⟩:=h;obtain⟨q',os',rfl⟩:=h';exact⟨q+q',os++os',by show grow (grow ((a.drewN q).drewN q') os) os'=_;rw[grow_grow,World.drewN_drewN]⟩
theorem Gr.cell {a b:World} (h:Gr a b) {p:Addr} {v:Value} (hp:p.block < a.heap.size) (hc:a.cell? p=some v):b.cell? p=some v:=by
 obtain⟨q,os,rfl⟩:=h;exact cell_grown hp hc q os
def orI (x y:Int):Int:=if x=0 then y else x
theorem or_any (G:Nat) (x y:Int) (w:World) (h0:w.cell? ⟨G,0,none⟩=some (.int .i64 x)) (h1:w.cell? ⟨G,1,none⟩=some (.int .i64 y)):
  Calls Tryz.prog 217 #[.slice (some ⟨G,0,none⟩) 2 2] w fun e w'=>e=.returned (.int .i64 (orI x y))/\w=w':=by
 have HO:=Hz_ (show orI x y=if x=0 then y else x from rfl);generalize orI x y=z at HO ⊢;go_enter Tryz.func217,Tryz.ntmps217;go_wp2;go_loopw [5,8] (fun v5 v8 wr=>∃k:Nat,v8=.int .i64 k/\k<=2/\w=wr/\Hid (1<=k->x=0)/\Hid (2<=k->y=0)) (fun _ v8 _=>2 - (intOf v8).toNat)
 case atStart=>exact⟨0,rfl,by omega,rfl,fun h=>by omega,fun h=>by omega⟩
 case round=>
  obtain⟨k,rfl,hk,rfl,HX,HY⟩:=hrel;rcases Nat.lt_or_ge k 1 with hk1 | hk1
  ·obtain rfl:k=0:=by omega
   by_cases hx:x=0
   ·have hxb:(x != 0)=false:=by rw[hx];rfl
    have HZ:=Hz_ hx;clear hx;go_wp2;go_roundw
    case rel=>exact⟨1,rfl,by omega,by first | rfl | trivial,fun _=>HZ.out,fun h=>by omega⟩
    case measure=>simp[intOf]
   ·have hxb:(x != 0)=true:=bne_iff_ne.2 hx;have HZ:=Hz_ (HO.out.trans (if_neg hx));clear hx;go_wp2;go_ret;exact⟨by rw[HZ.out];rfl,rfl⟩
  ·rcases Nat.lt_or_ge k 2 with hk2 | hk2
   ·obtain rfl:k=1:=by omega
    have HX0:=Hz_ (HO.out.trans (if_pos (HX.out hk1)));by_cases hy:y=0
    ·have hyb:(y != 0)=false:=by rw[hy];rfl
     have HZ:=Hz_ hy;clear hy;go_wp2;go_roundw
     case rel=>exact⟨2,rfl,by omega,by first | rfl | trivial,fun _=>HX.out hk1,fun h=>HZ.out⟩
     case measure=>simp[intOf]
    ·have hyb:(y != 0)=true:=bne_iff_ne.2 hy;clear hy;go_wp2;go_ret;exact⟨by rw[HX0.out];rfl,rfl⟩
   ·obtain rfl:k=2:=by omega
    have HX0:=Hz_ ((HO.out.trans (if_pos (HX.out hk1))).trans (HY.out hk2));go_wp2;go_ret;exact⟨by rw[HX0.out];rfl,rfl⟩
def stC (a b:Vc.St):Int:=orI (cmpI a.1 b.1) (cmpI a.2 b.2)
theorem stC_lt (a b:Vc.St):decide (stC a b < 0)=stLt a b:=by
 unfold stC orI cmpI stLt;by_cases h1:a.1 < b.1
 ·simp[h1]
 ·by_cases h2:b.1 < a.1
  ·have:¬ a.1=b.1:=by omega
   simp[h1,h2,this]
  ·have:a.1=b.1:=by omega
   by_cases h3:a.2 < b.2
   ·simp[this,h3]
   ·by_cases h4:b.2 < a.2<;>simp[this,h3,h4]
theorem stampCompare_z {a1 a2 b1 b2 z1 z2:Int} (H1:∀W,Calls Tryz.prog 73 #[.int .i64 a1,.int .i64 b1] W fun e w'=>e=.returned (.int .i64 z1)/\W=w') (H2:∀W,Calls Tryz.prog 73 #[.int .i64 a2,.int .i64 b2] W fun e w'=>e=.returned (.int .i64 z2)/\W=w') (w:World):Calls Tryz.prog 192 #[.agg #[.int .i64 a1,.int .i64 a2],.agg #[.int .i64 b1,.int .i64 b2]] w fun e w'=>e=.returned (.int .i64 (orI z1 z2))/\Gr w w':=by
 have H1:=Hz_ H1;have H2:=Hz_ H2;obtain⟨w0,hw0⟩:∃w0,w0=(w.alloc (.cells #[.int .i64 a1,.int .i64 a2] 28)).alloc (.cells #[.int .i64 b1,.int .i64 b2] 28):=⟨_,rfl⟩;have HG:=Hz_ (show Gr w w0 from by rw[hw0];exact(Gr.alloc1 _ _).trans (Gr.alloc1 _ _));have HS:=Hz_ (show ∀W,Gr w0 W->(W.cell? ⟨w.heap.size,0,none⟩=some (.int .i64 a1)/\W.cell? ⟨w.heap.size,1,none⟩=some (.int .i64 a2)/\W.cell? ⟨w.heap.size+1,0,none⟩=some (.int .i64 b1)/\W.cell? ⟨w.heap.size+1,1,none⟩=some (.int .i64 b2)) from fun W h=>by
  have hsz:w0.heap.size=w.heap.size+2:=by rw[hw0];simp
  refine⟨h.cell (by dsimp only;omega) (by rw[hw0];simp),h.cell (by dsimp only;omega) (by rw[hw0];simp),h.cell (by dsimp only;omega) (by rw[hw0];simp),h.cell (by dsimp only;omega) (by rw[hw0];simp)⟩)
 have H3:=Hz_ fun G W h0 h1=>or_any G z1 z2 W h0 h1;generalize orI z1 z2=z at H3 ⊢;have HW:=Hz_ hw0.symm;clear hw0;have k:=Gr.drew1 w0;go_enter Tryz.func192,Tryz.ntmps192;go_wp2_with fail;rw[HW.out];refine region_nrm fun KK hKK=>?_;refine wp_region_held_drew (S:=(fun W=>W.cell? ⟨w.heap.size,0,none⟩=some (.int .i64 a1)/\W.cell? ⟨w.heap.size,1,none⟩=some (.int .i64 a2)/\W.cell? ⟨w.heap.size+1,0,none⟩=some (.int .i64 b1)/\W.cell? ⟨w.heap.size+1,1,none⟩=some (.int .i64 b2))) (by kernel_rfl) (by first | exact HS.out _ k) (fun hHeld=>?_);refine puA 0 5 (HS.out _ k) ?_;refine puA 1 6 (HS.out _ k) ?_;refine puA 2 7 (HS.out _ k) ?_;refine puA 3 8 (HS.out _ k) ?_;refine puA 5 10 (HS.out _ k) ?_;refine puA 6 11 (HS.out _ k) ?_;refine puA 7 12 (HS.out _ k) ?_;refine puA 8 13 (HS.out _ k) ?_;refine puR 4 fun K hK=>?_;go_simp;refine(H1.out _).mono ?_;rintro e V ⟨rfl,rfl⟩;refine hK.out _ _ (HS.out _ k) fun hHeld=>?_;clear hK K;refine puR 9 fun K hK=>?_;go_simp;refine(H2.out _).mono ?_;rintro e V ⟨rfl,rfl⟩;refine hK.out _ _ (HS.out _ k) fun hHeld=>?_;clear hK K;refine puR 10 fun K hK=>?_;go_simp;have k:=k.trans (Gr.alloc1 _ (.cells #[.int .i64 z1,.int .i64 z2] 3));refine hK.out _ _ (HS.out _ k) fun hHeld=>?_;clear hK K;refine puR 11 fun K hK=>?_;go_simp;refine(H3.out _ _ (by simp) (by simp)).mono ?_;rintro e w3 ⟨rfl,rfl⟩;refine hK.out _ _ (HS.out _ k) fun hHeld=>?_;clear hK K;refine puA 12 4 (HS.out _ k) ?_;refine wpAnyH_done (by kernel_rfl) ?_ _;refine Nrm.out (hKK _ _ ?_);go_wp2;go_ret;exact⟨by simp,HG.out.trans k⟩
theorem stampCompare_any (a b:Vc.St) (w:World):Calls Tryz.prog 192 #[.agg #[.int .i64 a.1,.int .i64 a.2],.agg #[.int .i64 b.1,.int .i64 b.2]] w fun e w'=>e=.returned (.int .i64 (stC a b))/\Gr w w':=
 stampCompare_z (fun W=>cmpI_any _ _ W) (fun W=>cmpI_any _ _ W) w
open Go.RowKit
theorem spanLg_info:(Tryz.prog.info? 63).map (fun i=>(i.zero,i.size,i.bytes))=some (some (.agg #[.int .i64 0,.int .i64 0]),2,16):=by kernel_rfl
theorem cloneSp_any (A:Option Addr) (n c:Nat) (xs:List Value) (w:World) (hR:Rd w w.heap.size 2 A n c xs) (h1:∀u∈xs,u.oneCell'=true) (hn:n<=8796093022208):
  Calls Tryz.prog 76 #[.slice A n c] w fun e w'=>∃A' c',e=.returned (.slice A' n c')/\w'.ownsRow w.heap.size 63 2 (.slice A' n c') n xs/\Below w.heap.size w w':=by
 have hmax:=hR.max;have hcap:=hR.cap;rcases A with _ | ad
 ·have hc0:=hR.nil rfl;obtain rfl:n=0:=by omega
  subst hc0;have hx:xs=[]:=List.eq_nil_of_length_eq_zero (by simpa using hR.len);subst hx;have ht:=fun W=>Lib.run_eql_slice_nil (P:=Tryz.prog) W 23 63 none 0 0 0 0 Tryz.underlying23;clear hR h1;go_enter Tryz.func76,Tryz.ntmps76;go_wp2;go_ret;exact⟨none,0,rfl,World.ownsRow_nil _ _ _ _,Below.refl _ _⟩
 ·have ht:=fun W=>Lib.run_eql_slice_nil (P:=Tryz.prog) W 23 63 (some ad) n c 0 0 Tryz.underlying23;obtain⟨i0,hi0,hz0,hz1,hz2⟩:=info_parts spanLg_info;have h63:0+n<=maxLen:=by omega
  go_enter Tryz.func76,Tryz.ntmps76;go_wp2_with (at_builtin;go_must (refine wpList_append_rd _ rfl (.tmp 5) (.tmp 6) _ rfl w.heap.size 63 i0 _ 2 16 Tryz.underlying23 hi0 hz0 hz1 hz2 rfl (by decide) (.slice (some ⟨w.heap.size,0,none⟩) 0 0) 0 [] rfl (own_empty w _ _) w.heap.size (some ad) n c xs rfl (hR.alloc Zl _) h1 h63 (by omega) (by simp) ?_);intro A' c' w1 hown hg hat);go_ret;exact⟨A',c',rfl,by simpa using hown,(Zr.alloc Zl _).trans (grown_below hg (by simp) (by simp[Value.ownBlock]))⟩
theorem cloneWr_any (A:Option Addr) (n c:Nat) (xs:List Value) (w:World) (hR:Rd w w.heap.size 4 A n c xs) (h1:∀u∈xs,u.oneCell'=true) (hn:n<=4398046511104):
  Calls Tryz.prog 140 #[.slice A n c] w fun e w'=>∃A' c',e=.returned (.slice A' n c')/\w'.ownsRow w.heap.size 70 4 (.slice A' n c') n xs/\Below w.heap.size w w':=by
 have hmax:=hR.max;have hcap:=hR.cap;rcases A with _ | ad
 ·have hc0:=hR.nil rfl;obtain rfl:n=0:=by omega
  subst hc0;have hx:xs=[]:=List.eq_nil_of_length_eq_zero (by simpa using hR.len);subst hx;have ht:=fun W=>Lib.run_eql_slice_nil (P:=Tryz.prog) W 24 70 none 0 0 0 0 Tryz.underlying24;clear hR h1;go_enter Tryz.func140,Tryz.ntmps140;go_wp2;go_ret;exact⟨none,0,rfl,World.ownsRow_nil _ _ _ _,Below.refl _ _⟩
 ·have ht:=fun W=>Lib.run_eql_slice_nil (P:=Tryz.prog) W 24 70 (some ad) n c 0 0 Tryz.underlying24;obtain⟨i0,hi0,hz0,hz1,hz2⟩:=info_parts writes_info;have h63:0+n<=maxLen:=by omega
  go_enter Tryz.func140,Tryz.ntmps140;go_wp2_with (at_builtin;go_must (refine wpList_append_rd _ rfl (.tmp 5) (.tmp 6) _ rfl w.heap.size 70 i0 _ 4 32 Tryz.underlying24 hi0 hz0 hz1 hz2 rfl (by decide) (.slice (some ⟨w.heap.size,0,none⟩) 0 0) 0 [] rfl (own_empty w _ _) w.heap.size (some ad) n c xs rfl (hR.alloc Zl _) h1 h63 (by omega) (by simp) ?_);intro A' c' w1 hown hg hat);go_ret;exact⟨A',c',rfl,by simpa using hown,(Zr.alloc Zl _).trans (grown_below hg (by simp) (by simp[Value.ownBlock]))⟩
theorem cloneBd_any (A:Option Addr) (n c:Nat) (xs:List Value) (w:World) (hR:Rd w w.heap.size 4 A n c xs) (h1:∀u∈xs,u.oneCell'=true) (hn:n<=2932031007402):
  Calls Tryz.prog 195 #[.slice A n c] w fun e w'=>∃A' c',e=.returned (.slice A' n c')/\w'.ownsRow w.heap.size 31 4 (.slice A' n c') n xs/\Below w.heap.size w w':=by
 have hmax:=hR.max;have hcap:=hR.cap;rcases A with _ | ad
 ·have hc0:=hR.nil rfl;obtain rfl:n=0:=by omega
  subst hc0;have hx:xs=[]:=List.eq_nil_of_length_eq_zero (by simpa using hR.len);subst hx;have ht:=fun W=>Lib.run_eql_slice_nil (P:=Tryz.prog) W 33 31 none 0 0 0 0 Tryz.underlying33;clear hR h1;go_enter Tryz.func195,Tryz.ntmps195;go_wp2;go_ret;exact⟨none,0,rfl,World.ownsRow_nil _ _ _ _,Below.refl _ _⟩
 ·have ht:=fun W=>Lib.run_eql_slice_nil (P:=Tryz.prog) W 33 31 (some ad) n c 0 0 Tryz.underlying33;obtain⟨i0,hi0,hz0,hz1,hz2⟩:=info_parts body_info;have h63:0+n<=maxLen:=by omega
  go_enter Tryz.func195,Tryz.ntmps195;go_wp2_with (at_builtin;go_must (refine wpList_append_rd _ rfl (.tmp 5) (.tmp 6) _ rfl w.heap.size 31 i0 _ 4 48 Tryz.underlying33 hi0 hz0 hz1 hz2 rfl (by decide) (.slice (some ⟨w.heap.size,0,none⟩) 0 0) 0 [] rfl (own_empty w _ _) w.heap.size (some ad) n c xs rfl (hR.alloc Zl _) h1 h63 (by omega) (by simp) ?_);intro A' c' w1 hown hg hat);go_ret;exact⟨A',c',rfl,by simpa using hown,(Zr.alloc Zl _).trans (grown_below hg (by simp) (by simp[Value.ownBlock]))⟩
theorem cloneSb_any (A:Option Addr) (n c:Nat) (xs:List Value) (w:World) (hR:Rd w w.heap.size 7 A n c xs) (h1:∀u∈xs,u.oneCell'=true) (hn:n<=2513169434916):
  Calls Tryz.prog 137 #[.slice A n c] w fun e w'=>∃A' c',e=.returned (.slice A' n c')/\w'.ownsRow w.heap.size 65 7 (.slice A' n c') n xs/\Below w.heap.size w w':=by
 have hmax:=hR.max;have hcap:=hR.cap;rcases A with _ | ad
 ·have hc0:=hR.nil rfl;obtain rfl:n=0:=by omega
  subst hc0;have hx:xs=[]:=List.eq_nil_of_length_eq_zero (by simpa using hR.len);subst hx;have ht:=fun W=>Lib.run_eql_slice_nil (P:=Tryz.prog) W 36 65 none 0 0 0 0 Tryz.underlying36;clear hR h1;go_enter Tryz.func137,Tryz.ntmps137;go_wp2;go_ret;exact⟨none,0,rfl,World.ownsRow_nil _ _ _ _,Below.refl _ _⟩
 ·have ht:=fun W=>Lib.run_eql_slice_nil (P:=Tryz.prog) W 36 65 (some ad) n c 0 0 Tryz.underlying36;obtain⟨i0,hi0,hz0,hz1,hz2⟩:=info_parts sub_info;have h63:0+n<=maxLen:=by omega
  go_enter Tryz.func137,Tryz.ntmps137;go_wp2_with (at_builtin;go_must (refine wpList_append_rd _ rfl (.tmp 5) (.tmp 6) _ rfl w.heap.size 65 i0 _ 7 56 Tryz.underlying36 hi0 hz0 hz1 hz2 rfl (by decide) (.slice (some ⟨w.heap.size,0,none⟩) 0 0) 0 [] rfl (own_empty w _ _) w.heap.size (some ad) n c xs rfl (hR.alloc Zl _) h1 h63 (by omega) (by simp) ?_);intro A' c' w1 hown hg hat);go_ret;exact⟨A',c',rfl,by simpa using hown,(Zr.alloc Zl _).trans (grown_below hg (by simp) (by simp[Value.ownBlock]))⟩
theorem cacheTwin_any (x:Wq.Bd) (A:Option Addr) (c:Nat) (w:World) (hR:Rd w w.heap.size 1 A x.v.length c (bv x.v)) (hz:x.v.length<=140737488355328):
  Calls Tryz.prog 194 #[.agg (bval x A c)] w fun e w'=>∃A' c',e=.returned (.agg (bval x A' c'))/\w'.ownsRow w.heap.size 5 1 (.slice A' x.v.length c') x.v.length (bv x.v)/\Below w.heap.size w w':=by
 obtain⟨o_,⟨a_,b_⟩,xv⟩:=x;dsimp only at hR hz;unfold bval;dsimp only;have h1:Below w.heap.size w (w.alloc (.cells #[.int .i64 o_,.int .i64 a_,.int .i64 b_,.slice A xv.length c] 31)):=Zr.alloc Zl _;have h2:Below w.heap.size w ((w.alloc (.cells #[.int .i64 o_,.int .i64 a_,.int .i64 b_,.slice A xv.length c] 31)).alloc (.cells #[.int .i64 0,.int .i64 0,.int .i64 0,.slice none 0 0] 31)):=h1.alloc (by simp) _;have b1:=(Blk.new w 31 #[.int .i64 o_,.int .i64 a_,.int .i64 b_,.slice A xv.length c]).alloc (.cells #[.int .i64 0,.int .i64 0,.int .i64 0,.slice none 0 0] 31);have b2:=Blk.new (w.alloc (.cells #[.int .i64 o_,.int .i64 a_,.int .i64 b_,.slice A xv.length c] 31)) 31 #[.int .i64 0,.int .i64 0,.int .i64 0,.slice none 0 0];rw[World.size_alloc] at b2;obtain⟨P,hP⟩:∃P,P=w.heap.size:=⟨_,rfl⟩;have G:=clone_any A xv.length c (bv xv) _ (hR.go h2) (bv_oneCell _) hz;generalize hW0:(w.alloc (.cells #[.int .i64 o_,.int .i64 a_,.int .i64 b_,.slice A xv.length c] 31)).alloc (.cells #[.int .i64 0,.int .i64 0,.int .i64 0,.slice none 0 0] 31)=W0 at h2 b1 b2 G;obtain⟨m,hm⟩:∃m,m=xv.length:=⟨_,rfl⟩;rw[<-hm] at G b1 hW0 ⊢;rw[<-hP] at b1 b2;have HM:=Hz_ hm;have HW0:=Hz_ hW0;have HP:=Hz_ hP;have G:=Hz_ G;have KB:=Hz_ h2;have B1:=Hz_ b1;have B2:=Hz_ b2;obtain⟨p0,p1,p2,p3⟩:=(show Blk W0 P 31 #[.int .i64 o_,.int .i64 a_,.int .i64 b_,.slice A m c] from b1).quad;clear h1 h2 b1 b2 hW0 hR hm;go_enter Tryz.func194,Tryz.ntmps194;go_upto_region 1 with fail;rw[HW0.out,<-HP.out];clear hP;go_wp2_with fail;refine G.out.mono ?_;rintro e w1 ⟨D,d,rfl,ho,hb⟩;have B1:=Hz_ (B1.out.go hb);have B2:=Hz_ (B2.out.go hb);have HO:=Hz_ ho;have KB:=Hz_ (btn KB.out hb);have HS:=Hz_ hb.size;clear p0 p1 p2 p3 ho hb;have c3:w1.cell? ⟨P,3,none⟩=some (.slice A m c):=B1.out.cell 3;have f3:=B1.out.frozen 3;go_upto_region 2 with fail;have hu:But P w1 (w1.setCell ⟨P,3,none⟩ (.slice D m d)):=But.set_ w1 (p:=⟨P,3,none⟩) rfl _;have hx:Blk (w1.setCell ⟨P,3,none⟩ (.slice D m d)) P 31 #[.int .i64 o_,.int .i64 a_,.int .i64 b_,.slice D m d]:=B1.out.set_ 3 _;have hy:=B2.out.but hu (by omega);have hlP:=B1.out.lt;have hl2:=B2.out.lt;have hPw:w.heap.size<=P:=Nat.le_of_eq HP.out.symm;have hs1:=World.size_alloc w;have ko:=HO.out;have kk:Below w.heap.size w (w1.setCell ⟨P,3,none⟩ (.slice D m d)):=KB.out.setCell (p:=⟨P,3,none⟩) hPw _;have hPW:P+1 < W0.heap.size:=by
  have h:=HW0.out;have e:W0.heap.size=w.heap.size+1+1:=by rw[<-h];simp
  have:=HP.out;omega
 have ko2:=own_but ko hu (by omega);generalize w1.setCell ⟨P,3,none⟩ (.slice D m d)=w2 at hu hx hy kk ko2 ⊢;obtain⟨x0,x1,x2,x3⟩:=hx.quad;obtain⟨z0,z1,z2,z3⟩:=hy.quad;have y0:=hy.frozen 0;have y1:=hy.frozen 1;have y2:=hy.frozen 2;have y3:=hy.frozen 3;have HX:=Hz_ hx;have HY:=Hz_ hy;have KK:=Hz_ kk;have KO:=Hz_ ko2;clear hx hy kk ko2 ko hu c3 f3 hs1;go_wp2;have hF:=(((HY.out.set_ 0 (.int .i64 o_)).set_ 1 (.int .i64 a_)).set_ 2 (.int .i64 b_)).set_ 3 (.slice D m d);have hu4:But (P+1) w2 ((((w2.setCell ⟨P+1,0,none⟩ (.int .i64 o_)).setCell ⟨P+1,1,none⟩ (.int .i64 a_)).setCell ⟨P+1,2,none⟩ (.int .i64 b_)).setCell ⟨P+1,3,none⟩ (.slice D m d)):=
  (((But.set_ (g:=P+1) _ (p:=⟨P+1,0,none⟩) rfl _).trans (But.set_ (g:=P+1) _ (p:=⟨P+1,1,none⟩) rfl _)).trans (But.set_ (g:=P+1) _ (p:=⟨P+1,2,none⟩) rfl _)).trans (But.set_ (g:=P+1) _ (p:=⟨P+1,3,none⟩) rfl _)
 refine bodyPost_ret (results_cell_row rfl _ _ (P+1) 31 _ _ _ rfl hF Tryz.underlying31 rfl (by kernel_rfl)) rfl ⟨D,d,rfl,?_,below_but KK.out hu4 (by have:=KK.out.size;omega) (by omega)⟩;exact own_less (own_but KO.out hu4 hPW) (by omega)
theorem blk_grow {w w':World} {base X size n:Nat} {e ty:TypeId} {v:Value} {xs:List Value} {cs:Array Value} (hB:Blk w X ty cs) (ho:w.ownsRow base e size v n xs) (hg:w.grownBy w' v.ownBlock) (hne:e≠ty):Blk w' X ty cs:=by
 refine(hg.block X hB.lt (fun e=>?_)).trans hB;rcases own_blk ho hB hne with h1 | h1
 ·rw[h1] at e;cases e
 ·exact h1 e.symm
end Go.Proofs.YtmbeahbgafkjfaaGreatDoor
