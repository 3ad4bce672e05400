/- Lemmas for the claim, layer 30. -/
import Derived.Test.YtmbeahbgafkjfaaGreatDoorKc29
set_option maxRecDepth 100000
set_option linter.unusedSimpArgs false
set_option maxHeartbeats 16000000
namespace Go.Proofs.YtmbeahbgafkjfaaGreatDoor
open Go.RowKit
theorem clear_body (w:World) (G m c:Nat) (hc:∀j,j < (m+1) * 4->(w.cell? ⟨G,j,none⟩).isSome=true) (hf:∀j,w.frozen? ⟨G,j,none⟩=false):
  ∃vs,∀ty,(Builtin.clear_ #[33] ty #[.slice (some ⟨G,m * 4,none⟩) 1 c]).run Tryz.prog w=.ok (.tuple #[]) (w.setCells G (m * 4) vs):=by
 have hz:∀w,(zeroValue 31).run Tryz.prog w=.ok (.agg #[.int .i64 0,.int .i64 0,.int .i64 0,.slice none 0 0]) w:=fun _=>by kernel_rfl
 obtain⟨vs,hvs⟩:∃vs,vs=(Builtin.zeroCells (Value.agg #[.int .i64 0,.int .i64 0,.int .i64 0,.slice none 0 0]).cells 1).toList:=⟨_,rfl⟩;have hv2:vs=#[.int .i64 0,.int .i64 0,.int .i64 0,.slice none 0 0].toList:=by rw[hvs];first | kernel_rfl | (simp[Builtin.zeroCells,Value.cells];done) | rfl
 have hlen:vs.length=4:=by rw[hv2];rfl
 have hone:∀v∈vs,v.oneCell'=true:=by
  rw[hv2];intro v hv;simp only[List.mem_cons,List.not_mem_nil,or_false] at hv;rcases hv with rfl | rfl | rfl | rfl<;>rfl
 have hst:=run_storeCells_cells (P:=Tryz.prog) G (m * 4) vs 0 w (by rw[hlen];intro j hj;exact hc (m * 4+j) (by omega)) (fun j _=>hf _) hone;simp only[Nat.add_zero] at hst;refine⟨vs,fun ty=>?_⟩;simp[Builtin.clear_,run_underlying Tryz.underlying33,hz,<-hvs,hst]
theorem delete_body (base G m c i:Nat) (xs:List Value) (w:World) (ho:w.ownsRow base 31 4 (.slice (some ⟨G,0,none⟩) (m+1) c) (m+1) xs) (h1:∀u∈xs,u.oneCell'=true) (hi:i<=m) (hn:m<=1000000):
  Calls Tryz.prog 146 #[.slice (some ⟨G,0,none⟩) (m+1) c,.int .i64 i,.int .i64 ((i:Int)+1)] w fun e w'=>e=.returned (.slice (some ⟨G,0,none⟩) m c)/\w'.ownsRow base 31 4 (.slice (some ⟨G,0,none⟩) m c) m (xs.take (i * 4)++xs.drop ((i+1) * 4))/\w.grownBy w' (some G):=by
 obtain⟨i0,hi0,hz0,hz1,hz2⟩:=info_parts body_info;have hcap:=own_cap_ ho;have hlen:=ho.1;obtain⟨m1,hm1⟩:∃m1,m1=m+1:=⟨_,rfl⟩;rw[<-hm1] at ho hcap hlen ⊢;obtain⟨F1,hF1⟩:∃F1,F1=cutAt 4 (some ⟨G,0,none⟩) c (i+1):=⟨_,rfl⟩;have hF2:F1=if c=i+1 then some ⟨G,0,none⟩ else some ⟨G,(i+1) * 4,none⟩:=by rw[hF1];unfold cutAt;split<;>simp[Addr.add]
 have hmk:m * 4<=m1 * 4:=Nat.mul_le_mul_right _ (by omega);have hik:(i+1) * 4<=m1 * 4:=Nat.mul_le_mul_right _ (by omega);have hdl:(xs.drop ((i+1) * 4)).length=(m1 - (i+1)) * 4:=by rw[List.length_drop,hlen,<-Nat.sub_mul]
 have hsrc:Src Tryz.prog 4 33 (.slice F1 (m1 - (i+1)) (c - (i+1))) (m1 - (i+1)) (xs.drop ((i+1) * 4)) w.drew:=by
  have hr:=(Rd.of_own ho).from_ (k:=i+1) (by omega);rw[<-hF1] at hr;by_cases hz:m1 - (i+1)=0
  ·have h0:xs.drop ((i+1) * 4)=[]:=List.length_eq_zero_iff.1 (by rw[hdl,hz,Nat.zero_mul]);rw[hz,h0];obtain⟨a,ha⟩:∃a,F1=some a:=by
    rw[hF1];unfold cutAt;split
    ·exact⟨_,rfl⟩
    ·exact⟨_,rfl⟩
   rw[ha];exact Src.ofSlice _ Tryz.underlying33 a 0 _ [] rfl (fun j u hj=>by cases hj) (fun u hu=>by cases hu)
  ·obtain⟨ad,e1,_,hc⟩:=hr.at0 (by omega);rw[e1];exact Src.ofSlice _ Tryz.underlying33 ad _ _ _ hdl (fun j u hj=>hc j u hj) (fun u hu=>h1 u (List.mem_of_mem_drop hu))
 have hA:=own_setC (xs.drop ((i+1) * 4)) (i * 4) w.drew xs ho (by rw[hdl,hlen,Nat.sub_mul];omega);have hcs:∀j,j < (xs.drop ((i+1) * 4)).length->(w.drew.cell? ⟨G,0+i * i0.size+j,none⟩).isSome=true:=fun j hj=>by
  rw[hz1,Nat.zero_add];rw[hdl,Nat.sub_mul] at hj;have:=ho.cellAt (i * 4+j) (by omega);show (w.cell? _).isSome=true;rw[this,List.getElem?_eq_getElem (by omega)];rfl
 have hfs:∀j,j < (xs.drop ((i+1) * 4)).length->w.drew.frozen? ⟨G,0+i * i0.size+j,none⟩=false:=fun j _=>ho.frozenAt _;obtain⟨W1,hW1⟩:∃W1,W1=w.drew.setCells G (i * 4) (xs.drop ((i+1) * 4)):=⟨_,rfl⟩;rw[<-hW1] at hA;obtain⟨vs,hcl⟩:=clear_body W1 G m (c - m) (fun j hj=>by
  have:=hA.1.cellAt j (by rw[hm1];exact hj);rw[this,List.getElem?_eq_getElem (by rw[hA.1.1,hm1];exact hj)];rfl) (fun j=>hA.1.frozenAt j)
 rw[show 1=m1 - m by omega] at hcl;have hB:=own_setP vs (m * 4) W1 _ (own_cut hA.1 (m:=m) (by omega)) (by rw[List.length_take];exact Nat.min_le_left _ _);have hne:¬ (i:Int)=(i:Int)+1:=by omega
 have hneb:((i:Int) == (i:Int)+1)=false:=beq_eq_false_iff_ne.2 hne;have hsum:i+(m1 - (i+1))=m:=by omega
 have hic:i<=c:=by omega
 have hi0':(0:Int)<=(i:Int)+1:=by omega
 have hcm:¬ c=m:=by omega
 have him:i+1<=m1:=by omega
 have hmm:m<=m1:=by omega
 have him':(i:Int)+1<=(m1:Int):=by omega
 have hF3:=hF2.symm;have HB:=Hz_ hB;have HA:=Hz_ hA.2;have HSRC:=Hz_ hsrc;have HCS:=Hz_ hcs;have HFS:=Hz_ hfs;have HCL:=Hz_ hcl;have HW1:=Hz_ hW1.symm;have HLEN:=Hz_ hlen;have HM1:=Hz_ hm1;have cw:IntKind.i64.wrap ((i:Int)+1)=(i:Int)+1:=by rw[IntKind.wrap_i64];omega
 clear hB hA hsrc hcs hfs hW1 hlen hF1 hF2 hm1 hdl hmk hik h1 hcl;go_enter Tryz.func146,Tryz.ntmps146;go_upto_region 5 with fail;refine region_nrm fun KK hKK=>?_;refine wp_region_held_drew (S:=(fun _=>True)) (by kernel_rfl) (by first | trivial) (fun hHeld=>?_);refine puA 0 20 trivial ?_;refine puA 1 21 trivial ?_;refine puA 2 22 trivial ?_;refine puA 3 23 trivial ?_;refine puA 4 24 trivial ?_;refine puB 5 25 ((.slice F1 (m1 - (i+1)) (c - (i+1)))) trivial ?_;refine puR 6 fun K hK=>?_;rw[if_pos (by kernel_rfl)];refine wp_append_roomS _ (.tmp 22) (.tmp 25) 33 33 rfl 31 i0 Tryz.underlying33 hi0 G 0 i c rfl _ rfl (m1 - (i+1)) _ (by rw[hz1];exact HSRC.out) (by omega) HCS.out HFS.out ?_;rw[show 0+i * i0.size=i * 4 by rw[hz1,Nat.zero_add],HW1.out,hsum];refine hK.out _ _ trivial fun hHeld=>?_;clear hK K;refine puA 7 0 trivial ?_;refine wpAnyH_done (by kernel_rfl) ?_ _;refine Nrm.out (hKK _ _ ?_);have hcl:=HCL.out;go_wp2;go_ret;refine⟨rfl,?_,grown_drew (HA.out.trans HB.out.2)⟩;have h:=HB.out.1;rw[List.take_append_of_le_length (by rw[List.length_append,List.length_take,List.length_drop,HLEN.out,HM1.out];simp only[Nat.add_mul];omega),List.take_of_length_le (by rw[List.length_append,List.length_take,List.length_drop,HLEN.out,HM1.out];simp only[Nat.add_mul];omega)] at h;exact h
theorem size_sub:∀w,(Go.sizeOf 65).run Tryz.prog w=.ok 7 w:=fun _=>by kernel_rfl
theorem clear_sub (w:World) (G m c:Nat) (hc:∀j,j < (m+1) * 7->(w.cell? ⟨G,j,none⟩).isSome=true) (hf:∀j,w.frozen? ⟨G,j,none⟩=false):
  ∃vs,∀ty,(Builtin.clear_ #[36] ty #[.slice (some ⟨G,m * 7,none⟩) 1 c]).run Tryz.prog w=.ok (.tuple #[]) (w.setCells G (m * 7) vs):=by
 have hz:∀w,(zeroValue 65).run Tryz.prog w=.ok (.agg #[.int .i64 0,.slice none 0 0,.int .i64 0,.int .i64 0,.bool false,.bool false,.bool false]) w:=fun _=>by kernel_rfl
 obtain⟨vs,hvs⟩:∃vs,vs=(Builtin.zeroCells (Value.agg #[.int .i64 0,.slice none 0 0,.int .i64 0,.int .i64 0,.bool false,.bool false,.bool false]).cells 1).toList:=⟨_,rfl⟩;have hv2:vs=#[.int .i64 0,.slice none 0 0,.int .i64 0,.int .i64 0,.bool false,.bool false,.bool false].toList:=by rw[hvs];first | kernel_rfl | (simp[Builtin.zeroCells,Value.cells];done) | rfl
 have hlen:vs.length=7:=by rw[hv2];rfl
 have hone:∀v∈vs,v.oneCell'=true:=by
  rw[hv2];intro v hv;simp only[List.mem_cons,List.not_mem_nil,or_false] at hv;rcases hv with rfl | rfl | rfl | rfl | rfl | rfl | rfl<;>rfl
 have hst:=run_storeCells_cells (P:=Tryz.prog) G (m * 7) vs 0 w (by rw[hlen];intro j hj;exact hc (m * 7+j) (by omega)) (fun j _=>hf _) hone;simp only[Nat.add_zero] at hst;refine⟨vs,fun ty=>?_⟩;simp[Builtin.clear_,run_underlying Tryz.underlying36,hz,<-hvs,hst]
theorem delete_sub (base G m c i:Nat) (xs:List Value) (w:World) (ho:w.ownsRow base 65 7 (.slice (some ⟨G,0,none⟩) (m+1) c) (m+1) xs) (h1:∀u∈xs,u.oneCell'=true) (hi:i<=m) (hn:m<=1000000):
  Calls Tryz.prog 74 #[.slice (some ⟨G,0,none⟩) (m+1) c,.int .i64 i,.int .i64 ((i:Int)+1)] w fun e w'=>e=.returned (.slice (some ⟨G,0,none⟩) m c)/\w'.ownsRow base 65 7 (.slice (some ⟨G,0,none⟩) m c) m (xs.take (i * 7)++xs.drop ((i+1) * 7))/\w.grownBy w' (some G):=by
 obtain⟨i0,hi0,hz0,hz1,hz2⟩:=info_parts sub_info;have hcap:=own_cap_ ho;have hlen:=ho.1;obtain⟨m1,hm1⟩:∃m1,m1=m+1:=⟨_,rfl⟩;rw[<-hm1] at ho hcap hlen ⊢;obtain⟨F1,hF1⟩:∃F1,F1=cutAt 7 (some ⟨G,0,none⟩) c (i+1):=⟨_,rfl⟩;have hF2:F1=if c=i+1 then some ⟨G,0,none⟩ else some ⟨G,(i+1) * 7,none⟩:=by rw[hF1];unfold cutAt;split<;>simp[Addr.add]
 have hmk:m * 7<=m1 * 7:=Nat.mul_le_mul_right _ (by omega);have hik:(i+1) * 7<=m1 * 7:=Nat.mul_le_mul_right _ (by omega);have hdl:(xs.drop ((i+1) * 7)).length=(m1 - (i+1)) * 7:=by rw[List.length_drop,hlen,<-Nat.sub_mul]
 have hsrc:Src Tryz.prog 7 36 (.slice F1 (m1 - (i+1)) (c - (i+1))) (m1 - (i+1)) (xs.drop ((i+1) * 7)) w.drew:=by
  have hr:=(Rd.of_own ho).from_ (k:=i+1) (by omega);rw[<-hF1] at hr;by_cases hz:m1 - (i+1)=0
  ·have h0:xs.drop ((i+1) * 7)=[]:=List.length_eq_zero_iff.1 (by rw[hdl,hz,Nat.zero_mul]);rw[hz,h0];obtain⟨a,ha⟩:∃a,F1=some a:=by
    rw[hF1];unfold cutAt;split
    ·exact⟨_,rfl⟩
    ·exact⟨_,rfl⟩
   rw[ha];exact Src.ofSlice _ Tryz.underlying36 a 0 _ [] rfl (fun j u hj=>by cases hj) (fun u hu=>by cases hu)
  ·obtain⟨ad,e1,_,hc⟩:=hr.at0 (by omega);rw[e1];exact Src.ofSlice _ Tryz.underlying36 ad _ _ _ hdl (fun j u hj=>hc j u hj) (fun u hu=>h1 u (List.mem_of_mem_drop hu))
 have hA:=own_setC (xs.drop ((i+1) * 7)) (i * 7) w.drew xs ho (by rw[hdl,hlen,Nat.sub_mul];omega);have hcs:∀j,j < (xs.drop ((i+1) * 7)).length->(w.drew.cell? ⟨G,0+i * i0.size+j,none⟩).isSome=true:=fun j hj=>by
  rw[hz1,Nat.zero_add];rw[hdl,Nat.sub_mul] at hj;have:=ho.cellAt (i * 7+j) (by omega);show (w.cell? _).isSome=true;rw[this,List.getElem?_eq_getElem (by omega)];rfl
 have hfs:∀j,j < (xs.drop ((i+1) * 7)).length->w.drew.frozen? ⟨G,0+i * i0.size+j,none⟩=false:=fun j _=>ho.frozenAt _;obtain⟨W1,hW1⟩:∃W1,W1=w.drew.setCells G (i * 7) (xs.drop ((i+1) * 7)):=⟨_,rfl⟩;rw[<-hW1] at hA;obtain⟨vs,hcl⟩:=clear_sub W1 G m (c - m) (fun j hj=>by
  have:=hA.1.cellAt j (by rw[hm1];exact hj);rw[this,List.getElem?_eq_getElem (by rw[hA.1.1,hm1];exact hj)];rfl) (fun j=>hA.1.frozenAt j)
 rw[show 1=m1 - m by omega] at hcl;have hB:=own_setP vs (m * 7) W1 _ (own_cut hA.1 (m:=m) (by omega)) (by rw[List.length_take];exact Nat.min_le_left _ _);have hne:¬ (i:Int)=(i:Int)+1:=by omega
 have hneb:((i:Int) == (i:Int)+1)=false:=beq_eq_false_iff_ne.2 hne;have hsum:i+(m1 - (i+1))=m:=by omega
 have hic:i<=c:=by omega
 have hi0':(0:Int)<=(i:Int)+1:=by omega
 have hcm:¬ c=m:=by omega
 have him:i+1<=m1:=by omega
 have hmm:m<=m1:=by omega
 have him':(i:Int)+1<=(m1:Int):=by omega
 have hF3:=hF2.symm;have HB:=Hz_ hB;have HA:=Hz_ hA.2;have HSRC:=Hz_ hsrc;have HCS:=Hz_ hcs;have HFS:=Hz_ hfs;have HCL:=Hz_ hcl;have HW1:=Hz_ hW1.symm;have HLEN:=Hz_ hlen;have HM1:=Hz_ hm1;have cw:IntKind.i64.wrap ((i:Int)+1)=(i:Int)+1:=by rw[IntKind.wrap_i64];omega
 clear hB hA hsrc hcs hfs hW1 hlen hF1 hF2 hm1 hdl hmk hik h1 hcl;go_enter Tryz.func74,Tryz.ntmps74;go_upto_region 5 with fail;refine region_nrm fun KK hKK=>?_;refine wp_region_held_drew (S:=(fun _=>True)) (by kernel_rfl) (by first | trivial) (fun hHeld=>?_);refine puA 0 20 trivial ?_;refine puA 1 21 trivial ?_;refine puA 2 22 trivial ?_;refine puA 3 23 trivial ?_;refine puA 4 24 trivial ?_;refine puB 5 25 ((.slice F1 (m1 - (i+1)) (c - (i+1)))) trivial ?_;refine puR 6 fun K hK=>?_;rw[if_pos (by kernel_rfl)];refine wp_append_roomS _ (.tmp 22) (.tmp 25) 36 36 rfl 65 i0 Tryz.underlying36 hi0 G 0 i c rfl _ rfl (m1 - (i+1)) _ (by rw[hz1];exact HSRC.out) (by omega) HCS.out HFS.out ?_;rw[show 0+i * i0.size=i * 7 by rw[hz1,Nat.zero_add],HW1.out,hsum];refine hK.out _ _ trivial fun hHeld=>?_;clear hK K;refine puA 7 0 trivial ?_;refine wpAnyH_done (by kernel_rfl) ?_ _;refine Nrm.out (hKK _ _ ?_);have hcl:=HCL.out;go_wp2;go_ret;refine⟨rfl,?_,grown_drew (HA.out.trans HB.out.2)⟩;have h:=HB.out.1;rw[List.take_append_of_le_length (by rw[List.length_append,List.length_take,List.length_drop,HLEN.out,HM1.out];simp only[Nat.add_mul];omega),List.take_of_length_le (by rw[List.length_append,List.length_take,List.length_drop,HLEN.out,HM1.out];simp only[Nat.add_mul];omega)] at h;exact h
end Go.Proofs.YtmbeahbgafkjfaaGreatDoor
