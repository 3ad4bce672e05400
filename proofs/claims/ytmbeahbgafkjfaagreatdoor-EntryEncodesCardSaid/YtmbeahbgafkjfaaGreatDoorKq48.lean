/- Lemmas for the claim, layer 48. -/
import Derived.Test.YtmbeahbgafkjfaaGreatDoorKq30
import Derived.Test.YtmbeahbgafkjfaaGreatDoorKq47
set_option maxRecDepth 100000
set_option linter.unusedSimpArgs false
set_option maxHeartbeats 16000000
namespace Go.Proofs.YtmbeahbgafkjfaaGreatDoor
open Go.RowKit
theorem body_info:(Tryz.prog.info? 31).map (fun i=>(i.zero,i.size,i.bytes))=some (some (.agg #[.int .i64 0,.int .i64 0,.int .i64 0,.slice none 0 0]),4,48):=by kernel_rfl
theorem sub_info:(Tryz.prog.info? 65).map (fun i=>(i.zero,i.size,i.bytes))=some (some (.agg #[.int .i64 0,.slice none 0 0,.int .i64 0,.int .i64 0,.bool false,.bool false,.bool false]),7,56):=by kernel_rfl
structure OwnBd (w:World) (base:Nat) (A:Option Addr) (k c:Nat) (L:List (BV×Wq.Bd)):Prop where
 row:w.ownsRow base 31 4 (.slice A k c) k (bvv L)
 el:∀p∈L,w.ownsRow base 5 1 (.slice p.1.A p.2.v.length p.1.c) p.2.v.length (bv p.2.v)
theorem OwnBd.nil (w:World) (base:Nat):OwnBd w base none 0 0 []:=⟨World.ownsRow_nil _ _ _ _,by simp⟩
theorem OwnBd.below {w w':World} {base:Nat} {A:Option Addr} {k c:Nat} {L:List (BV×Wq.Bd)} (h:OwnBd w base A k c L) (hb:Below w.heap.size w w'):OwnBd w' base A k c L:=
 ⟨own_below h.row hb (Nat.le_refl _),fun p hp=>own_below (h.el p hp) hb (Nat.le_refl _)⟩
theorem OwnBd.but {w w':World} {g base:Nat} {A:Option Addr} {k c:Nat} {L:List (BV×Wq.Bd)} (h:OwnBd w base A k c L) (hb:But g w w') (hg:g < base):OwnBd w' base A k c L:=
 ⟨own_but h.row hb hg,fun p hp=>own_but (h.el p hp) hb hg⟩
theorem OwnBd.push {w w':World} {base:Nat} {A A':Option Addr} {k c c':Nat} {L:List (BV×Wq.Bd)} {p:BV×Wq.Bd} (h:OwnBd w base A k c L) (hp:w.ownsRow base 5 1 (.slice p.1.A p.2.v.length p.1.c) p.2.v.length (bv p.2.v))
  (hg:w.grownBy w' (Value.slice A k c).ownBlock) (ho:w'.ownsRow base 31 4 (.slice A' (k+1) c') (k+1) (bvv L++bvl p)):OwnBd w' base A' (k+1) c' (L++[p]):=by
 refine⟨by rw[bvv_app];simpa[bvv] using ho,fun z hz=>?_⟩
 rcases List.mem_append.1 hz with hz | hz
 ·exact(h.el z hz).kept hg (own_two (h.el z hz) h.row (by decide))
 ·obtain rfl:z=p:=by simpa using hz
  exact hp.kept hg (own_two hp h.row (by decide))
theorem OwnBd.len {w:World} {base:Nat} {A:Option Addr} {k c:Nat} {L:List (BV×Wq.Bd)} (h:OwnBd w base A k c L):L.length=k:=by
 have:=h.row.1
 rw[bvv_len] at this
 omega
theorem OwnBd.rd {w:World} {base:Nat} {A:Option Addr} {k c:Nat} {L:List (BV×Wq.Bd)} (h:OwnBd w base A k c L) (hw:∀p∈L,(Lit.int .i64 p.2.o).wf=true):RdBs w w.heap.size A k c L:=
 ⟨h.len,Rd.of_own h.row,fun p hp=>Rd.of_own (h.el p hp),hw⟩
theorem OwnZ.but {w w':World} {g base:Nat} {A:Option Addr} {k c:Nat} {L:List (ZV×Zn)} (h:OwnZ w base A k c L) (hb:But g w w') (hg:g < base):OwnZ w' base A k c L:=
 ⟨own_but h.row hb hg,fun p hp=>⟨(h.el p hp).1,own_but (h.el p hp).2 hb hg⟩⟩
structure OwnSb (w:World) (base:Nat) (A:Option Addr) (k c:Nat) (L:List (SV×Sb)):Prop where
 row:w.ownsRow base 65 7 (.slice A k c) k (sbv L)
 el:∀p∈L,w.ownsRow base 63 2 (.slice p.1.A p.2.int.length p.1.c) p.2.int.length (sv p.2.int)
theorem OwnSb.nil (w:World) (base:Nat):OwnSb w base none 0 0 []:=⟨World.ownsRow_nil _ _ _ _,by simp⟩
theorem OwnSb.below {w w':World} {base:Nat} {A:Option Addr} {k c:Nat} {L:List (SV×Sb)} (h:OwnSb w base A k c L) (hb:Below w.heap.size w w'):OwnSb w' base A k c L:=
 ⟨own_below h.row hb (Nat.le_refl _),fun p hp=>own_below (h.el p hp) hb (Nat.le_refl _)⟩
theorem OwnSb.but {w w':World} {g base:Nat} {A:Option Addr} {k c:Nat} {L:List (SV×Sb)} (h:OwnSb w base A k c L) (hb:But g w w') (hg:g < base):OwnSb w' base A k c L:=
 ⟨own_but h.row hb hg,fun p hp=>own_but (h.el p hp) hb hg⟩
theorem OwnSb.len {w:World} {base:Nat} {A:Option Addr} {k c:Nat} {L:List (SV×Sb)} (h:OwnSb w base A k c L):L.length=k:=by
 have:=h.row.1
 rw[sbv_len] at this
 omega
theorem OwnSb.rd {w:World} {base:Nat} {A:Option Addr} {k c:Nat} {L:List (SV×Sb)} (h:OwnSb w base A k c L):RdSb w w.heap.size A k c L:=
 ⟨h.len,Rd.of_own h.row,fun p hp=>Rd.of_own (h.el p hp)⟩
namespace Wq
section
variable {α β:Type} {p:List UInt8→Option (α×List UInt8)} {K:List α→List UInt8→Option β} {n:Nat} {l r:List UInt8} {acc:List α} {x:α}
end
theorem lay_pos (n:Nat):0 < (Pk.lay n).length:=by
 rw[Pk.lay]
 split<;>simp
end Wq
end Go.Proofs.YtmbeahbgafkjfaaGreatDoor
namespace Go.Proofs.YtmbeahbgafkjfaaGreatDoor
open Go.RowKit
theorem cacheTwin_any (x:Wq.Bd) (A:Option Addr) (c:Nat) (w:World) (hR:Rd w w.heap.size 1 A x.v.length c (bv x.v)) (hz:x.v.length≤140737488355328):
  Calls Tryz.prog 194 #[.agg (bval x A c)] w fun e w'=>∃A' c',e=.returned (.agg (bval x A' c'))∧w'.ownsRow w.heap.size 5 1 (.slice A' x.v.length c') x.v.length (bv x.v)∧Below w.heap.size w w':=by
 obtain⟨o_,⟨a_,b_⟩,xv⟩:=x
 dsimp only at hR hz
 unfold bval
 dsimp only
 have h1:Below w.heap.size w (w.alloc (.cells #[.int .i64 o_,.int .i64 a_,.int .i64 b_,.slice A xv.length c] 31)):=(Below.refl _ _).alloc (Nat.le_refl _) _
 have h2:Below w.heap.size w ((w.alloc (.cells #[.int .i64 o_,.int .i64 a_,.int .i64 b_,.slice A xv.length c] 31)).alloc (.cells #[.int .i64 0,.int .i64 0,.int .i64 0,.slice none 0 0] 31)):=h1.alloc (by simp) _
 have b1:=(Blk.new w 31 #[.int .i64 o_,.int .i64 a_,.int .i64 b_,.slice A xv.length c]).alloc (.cells #[.int .i64 0,.int .i64 0,.int .i64 0,.slice none 0 0] 31)
 have b2:=Blk.new (w.alloc (.cells #[.int .i64 o_,.int .i64 a_,.int .i64 b_,.slice A xv.length c] 31)) 31 #[.int .i64 0,.int .i64 0,.int .i64 0,.slice none 0 0]
 rw[World.size_alloc] at b2
 obtain⟨P,hP⟩:∃P,P=w.heap.size:=⟨_,rfl⟩
 have G:=clone_any A xv.length c (bv xv) _ (hR.go h2) (bv_oneCell _) hz
 generalize hW0:(w.alloc (.cells #[.int .i64 o_,.int .i64 a_,.int .i64 b_,.slice A xv.length c] 31)).alloc (.cells #[.int .i64 0,.int .i64 0,.int .i64 0,.slice none 0 0] 31)=W0 at h2 b1 b2 G
 obtain⟨m,hm⟩:∃m,m=xv.length:=⟨_,rfl⟩
 rw[←hm] at G b1 hW0 ⊢
 rw[←hP] at b1 b2
 have HM:=Hz_ hm
 have HW0:=Hz_ hW0
 have HP:=Hz_ hP
 have G:=Hz_ G
 have KB:=Hz_ h2
 have B1:=Hz_ b1
 have B2:=Hz_ b2
 obtain⟨p0,p1,p2,p3⟩:=(show Blk W0 P 31 #[.int .i64 o_,.int .i64 a_,.int .i64 b_,.slice A m c] from b1).quad
 clear h1 h2 b1 b2 hW0 hR hm
 go_enter Tryz.func194,Tryz.ntmps194
 go_upto_region 1 with fail
 rw[HW0.out,←HP.out]
 clear hP
 go_wp2_with fail
 refine G.out.mono ?_
 rintro e w1 ⟨D,d,rfl,ho,hb⟩
 have B1:=Hz_ (B1.out.go hb)
 have B2:=Hz_ (B2.out.go hb)
 have HO:=Hz_ ho
 have KB:=Hz_ (btn KB.out hb)
 have HS:=Hz_ hb.size
 clear p0 p1 p2 p3 ho hb
 have c3:w1.cell? ⟨P,3,none⟩=some (.slice A m c):=B1.out.cell 3
 have f3:=B1.out.frozen 3
 go_upto_region 2 with fail
 have hu:But P w1 (w1.setCell ⟨P,3,none⟩ (.slice D m d)):=But.set_ w1 (p:=⟨P,3,none⟩) rfl _
 have hx:Blk (w1.setCell ⟨P,3,none⟩ (.slice D m d)) P 31 #[.int .i64 o_,.int .i64 a_,.int .i64 b_,.slice D m d]:=B1.out.set_ 3 _
 have hy:=B2.out.but hu (by omega)
 have hlP:=B1.out.lt
 have hl2:=B2.out.lt
 have hPw:w.heap.size≤P:=Nat.le_of_eq HP.out.symm
 have hs1:=World.size_alloc w
 have ko:=HO.out
 have kk:Below w.heap.size w (w1.setCell ⟨P,3,none⟩ (.slice D m d)):=KB.out.setCell (p:=⟨P,3,none⟩) hPw _
 have hPW:P+1 < W0.heap.size:=by
  have h:=HW0.out
  have e:W0.heap.size=w.heap.size+1+1:=by rw[←h];simp
  have:=HP.out
  omega
 have ko2:=own_but ko hu (by omega)
 generalize w1.setCell ⟨P,3,none⟩ (.slice D m d)=w2 at hu hx hy kk ko2 ⊢
 obtain⟨x0,x1,x2,x3⟩:=hx.quad
 obtain⟨z0,z1,z2,z3⟩:=hy.quad
 have y0:=hy.frozen 0
 have y1:=hy.frozen 1
 have y2:=hy.frozen 2
 have y3:=hy.frozen 3
 have HX:=Hz_ hx
 have HY:=Hz_ hy
 have KK:=Hz_ kk
 have KO:=Hz_ ko2
 clear hx hy kk ko2 ko hu c3 f3 hs1
 go_wp2
 have hF:=(((HY.out.set_ 0 (.int .i64 o_)).set_ 1 (.int .i64 a_)).set_ 2 (.int .i64 b_)).set_ 3 (.slice D m d)
 have hu4:But (P+1) w2 ((((w2.setCell ⟨P+1,0,none⟩ (.int .i64 o_)).setCell ⟨P+1,1,none⟩ (.int .i64 a_)).setCell ⟨P+1,2,none⟩ (.int .i64 b_)).setCell ⟨P+1,3,none⟩ (.slice D m d)):=
  (((But.set_ (g:=P+1) _ (p:=⟨P+1,0,none⟩) rfl _).trans (But.set_ (g:=P+1) _ (p:=⟨P+1,1,none⟩) rfl _)).trans (But.set_ (g:=P+1) _ (p:=⟨P+1,2,none⟩) rfl _)).trans (But.set_ (g:=P+1) _ (p:=⟨P+1,3,none⟩) rfl _)
 refine bodyPost_ret (results_cell_row rfl _ _ (P+1) 31 _ _ _ rfl hF Tryz.underlying31 rfl (by kernel_rfl)) rfl ⟨D,d,rfl,?_,below_but KK.out hu4 (by have:=KK.out.size;omega) (by omega)⟩
 exact own_less (own_but KO.out hu4 hPW) (by omega)
end Go.Proofs.YtmbeahbgafkjfaaGreatDoor
