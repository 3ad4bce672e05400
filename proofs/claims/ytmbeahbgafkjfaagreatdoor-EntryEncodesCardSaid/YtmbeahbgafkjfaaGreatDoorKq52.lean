/- Lemmas for the claim, layer 52. -/
import Derived.Test.YtmbeahbgafkjfaaGreatDoorCards
import Derived.Test.YtmbeahbgafkjfaaGreatDoorTie
import Derived.Deep.DeepHandedRow
import Derived.Lib.LaidTab
import Derived.Test.YtmbeahbgafkjfaaGreatDoorKq51
set_option maxRecDepth 100000
namespace Go.Proofs.YtmbeahbgafkjfaaGreatDoor
open Go.ChangeShapes Go.WideShapes Go.ChangeAt Go.RowKit
theorem gTab : Tryz.prog.globalNamed "math/bits.deBruijn64tab" = some 0 := by kernel_rfl
theorem gTabType:(Tryz.prog.globals[0]?).map (·.type)=some 256:=by kernel_rfl
theorem cellsTab:Tryz.prog.cellsOf 256=64:=by kernel_rfl
theorem cellsU8:Tryz.prog.cellsOf 5=1:=by kernel_rfl
theorem table {W:World} (h:laidMetH Tryz.prog Rows.entryEncodesRow.laid W):Tab W:=fun j hj=>by
 have ht : Lib.TabIs Tryz.prog W "math/bits.deBruijn64tab" .u8 (Lib.deBruijn64tab.map Int.ofNat) := Lib.tabIs_of_head (rest := []) gTab gTabType Tryz.underlying256 Tryz.underlying5 cellsU8 cellsTab h
 have:=ht.cell gTab j (by rw[List.length_map];exact hj)
 rw[this]
 simp[List.getD,List.getElem?_eq_getElem hj]
noncomputable def laidWorld (os:Os):World:=
 { World.holding Tryz.prog os ⟨#[],#[],[]⟩ with heap:=(World.holding Tryz.prog os ⟨#[],#[],[]⟩).heap.modify 0 fun
   | .cells _ t frozen=>.cells (Lib.deBruijn64tab.map fun n:Nat=>Value.int .u8 (Int.ofNat n)).toArray t frozen
   | o=>o }
section
variable {H:Type} {enc:TypeId×Value→H} {W:World}
theorem Opens.mapg {P:Program} {t:TypeId} {α β:Type} {f:α→List Value} {g:α→DataW H→Prop} (e:α→β) (f':β→List Value) (g':β→DataW H→Prop) (h:Opens enc P W t f g) (hf:∀x d,g x d→f x=f' (e x)∧g' (e x) d):Opens enc P W t f' g':=by
 intro fuel cs y hy
 obtain⟨x,rfl,hx⟩:=h fuel cs y hy
 exact⟨e x,(hf x _ hx).1,(hf x _ hx).2⟩
def stWf (s:Vc.St):Prop:=(Lit.int .i64 s.1).wf=true∧(Lit.int .i64 s.2).wf=true
def stc (s:Vc.St):List Value:=[.int .i64 s.1,.int .i64 s.2]
theorem opens_int:Opens enc Tryz.prog W 3 (fun z:Int=>[.int .i64 z]) (fun z _=>(Lit.int .i64 z).wf=true):=Opens.int Tryz.underlying3
theorem opens_bool:Opens enc Tryz.prog W 4 (fun z:Bool=>[.bool z]) (fun _ _=>True):=Opens.bool Tryz.underlying4
theorem opens_stamp:Opens enc Tryz.prog W 28 stc (fun s _=>stWf s):=
 (Opens.struct (tot:=2) Tryz.underlying28 (by kernel_rfl) (OpensFs.cons (s:=1) rfl (by kernel_rfl) opens_int (OpensFs.cons (s:=1) rfl (by kernel_rfl) opens_int OpensFs.nil))).map
  (fun x:Int×Int×Unit=>((x.1,x.2.1):Vc.St)) stc (fun s _=>stWf s) (fun _=>rfl) (fun _ _ ⟨_,_,_,_,_,h1,_,_,_,h2,_⟩=>⟨h1,h2⟩)
theorem opens_stamps:Opens enc Tryz.prog W 22 slv (SlOk W 2 stc (fun s _=>stWf s)):=Opens.slice Tryz.underlying22 (by kernel_rfl) (by decide) opens_stamp
theorem opens_span:Opens enc Tryz.prog W 63 stc (fun s _=>stWf s):=
 (Opens.struct (tot:=2) Tryz.underlying63 (by kernel_rfl) (OpensFs.cons (s:=1) rfl (by kernel_rfl) opens_int (OpensFs.cons (s:=1) rfl (by kernel_rfl) opens_int OpensFs.nil))).map
  (fun x:Int×Int×Unit=>((x.1,x.2.1):Sn.Sp)) stc (fun s _=>stWf s) (fun _=>rfl) (fun _ _ ⟨_,_,_,_,_,h1,_,_,_,h2,_⟩=>⟨h1,h2⟩)
theorem opens_spans:Opens enc Tryz.prog W 23 slv (SlOk W 2 stc (fun s _=>stWf s)):=Opens.slice Tryz.underlying23 (by kernel_rfl) (by decide) opens_span
theorem stamps_fit {d:DataW H} (hf:Fit Tryz.prog 22 d):capOf d≤8796093022208:=by
 have h1:=(hf.slice Tryz.underlying22).1
 rw[show Tryz.prog.bytesOf 28=16 by kernel_rfl] at h1
 omega
theorem spans_fit {d:DataW H} (hf:Fit Tryz.prog 23 d):capOf d≤8796093022208:=by
 have h1:=(hf.slice Tryz.underlying23).1
 rw[show Tryz.prog.bytesOf 63=16 by kernel_rfl] at h1
 omega
theorem writes_fit {d:DataW H} (hf:Fit Tryz.prog 24 d):capOf d≤4398046511104:=by
 have h1:=(hf.slice Tryz.underlying24).1
 rw[show Tryz.prog.bytesOf 70=32 by kernel_rfl] at h1
 omega
theorem zones_fit {d:DataW H} (hf:Fit Tryz.prog 32 d):capOf d≤3518437208780∧∀d'∈elemsOf d,Fit Tryz.prog 129 d':=by
 have h1:=hf.slice Tryz.underlying32
 rw[show Tryz.prog.bytesOf 129=40 by kernel_rfl] at h1
 exact⟨by have:=h1.1;omega,h1.2⟩
theorem bodies_fit {d:DataW H} (hf:Fit Tryz.prog 33 d):capOf d≤2932031007317∧∀d'∈elemsOf d,Fit Tryz.prog 31 d':=by
 have h1:=hf.slice Tryz.underlying33
 rw[show Tryz.prog.bytesOf 31=48 by kernel_rfl] at h1
 exact⟨by have:=h1.1;omega,h1.2⟩
theorem subs_fit {d:DataW H} (hf:Fit Tryz.prog 36 d):capOf d≤2513169434843∧∀d'∈elemsOf d,Fit Tryz.prog 65 d':=by
 have h1:=hf.slice Tryz.underlying36
 rw[show Tryz.prog.bytesOf 65=56 by kernel_rfl] at h1
 exact⟨by have:=h1.1;omega,h1.2⟩
theorem bytes_fit {d:DataW H} (hf:Fit Tryz.prog 29 d):capOf d≤140737488351232:=by
 have h1:=(hf.slice Tryz.underlying29).1
 rw[show Tryz.prog.bytesOf 5=1 by kernel_rfl] at h1
 omega
structure BtOk (W:World) (s:Sl UInt8) (d:DataW H):Prop where
 len:s.xs.length=s.n
 cap:s.c=capOf d
 rd:Rd W W.heap.size 1 s.A s.n s.c (bv s.xs)
theorem opens_bytes:Opens enc Tryz.prog W 29 slv (BtOk (H:=H) W):=
 (Opens.slice (size:=1) Tryz.underlying29 (by kernel_rfl) (by decide) (Opens.int (k:=.u8) Tryz.underlying5)).map (fun s:Sl Int=>(⟨s.A,s.n,s.c,u8s s.xs⟩:Sl UInt8)) slv (BtOk W) (fun _=>rfl) (fun s d h=>by
  have e:bv (u8s s.xs)=s.xs.flatMap fun z=>[Value.int .u8 z]:=by
   rw[u8s_at fun z hz=>by obtain⟨d',_,hw⟩:=h.el z hz;exact u8_of_wf hw]
   exact List.map_eq_flatMap ..
  exact⟨by rw[show (u8s s.xs).length=s.xs.length by simp[u8s]];exact h.len,h.cap,by rw[e];exact h.rd⟩)
theorem opens_writeC:Opens enc Tryz.prog W 70 wc (fun q _=>stWf q.1):=
 (Opens.struct (tot:=4) Tryz.underlying70 (by kernel_rfl) (OpensFs.cons (s:=2) rfl (by kernel_rfl) opens_stamp (OpensFs.cons (s:=1) rfl (by kernel_rfl) opens_int (OpensFs.cons (s:=1) rfl (by kernel_rfl) opens_bool OpensFs.nil)))).map
  (fun x:Vc.St×Int×Bool×Unit=>((x.1,x.2.1,x.2.2.1):Wr)) wc (fun q _=>stWf q.1) (fun _=>rfl) (fun _ _ ⟨_,_,_,_,_,h1,_⟩=>h1)
theorem opens_writesC:Opens enc Tryz.prog W 24 slv (SlOk W 4 wc (fun q _=>stWf q.1)):=Opens.slice Tryz.underlying24 (by kernel_rfl) (by decide) opens_writeC
theorem cts_of {s:Sl Vc.St} {d:DataW H} (ok:SlOk W 2 stc (fun s _=>stWf s) s d):Wq.cts s.xs:=fun t ht=>by
 obtain⟨_,_,h1,_⟩:=ok.el t ht
 have:=i64_of_wf h1
 omega
theorem wts_of {s:Sl Wr} {d:DataW H} (ok:SlOk W 4 wc (fun q _=>stWf q.1) s d):∀w∈s.xs,w.1.1 < 9223372036854775808:=fun t ht=>by
 obtain⟨_,_,h1,_⟩:=ok.el t ht
 have:=i64_of_wf h1
 omega
structure NtOk (W:World) (q:NV×Nt):Prop where
 rd:NtRd W W.heap.size q.1 q.2
 cts:Wq.ntC q.2
structure NtB (q:NV×Nt):Prop where
 n1:q.1.n1≤8796093022208
 n2:q.1.n2≤8796093022208
 n3:q.1.n3≤8796093022208
 n4:q.1.n4≤4398046511104
theorem opens_noteC:Opens enc Tryz.prog W 26 (fun q:NV×Nt=>q.1.val.toList) (fun q d=>NtOk W q∧(Fit Tryz.prog 26 d→NtB q)):=
 (Opens.struct (tot:=4) Tryz.underlying26 (by kernel_rfl) (OpensFs.cons (s:=1) rfl (by kernel_rfl) opens_stamps (OpensFs.cons (s:=1) rfl (by kernel_rfl) opens_stamps (OpensFs.cons (s:=1) rfl (by kernel_rfl) opens_spans (OpensFs.cons (s:=1) rfl (by kernel_rfl) opens_writesC OpensFs.nil))))).map
  (fun x:Sl Vc.St×Sl Vc.St×Sl Sn.Sp×Sl Wr×Unit=>((⟨x.1.A,x.1.n,x.1.c,x.2.1.A,x.2.1.n,x.2.1.c,x.2.2.1.A,x.2.2.1.n,x.2.2.1.c,x.2.2.2.1.A,x.2.2.2.1.n,x.2.2.2.1.c⟩,⟨x.1.xs,x.2.1.xs,x.2.2.1.xs,x.2.2.2.1.xs⟩):NV×Nt))
  (fun q:NV×Nt=>q.1.val.toList) (fun q d=>NtOk W q∧(Fit Tryz.prog 26 d→NtB q)) (fun _=>rfl) (fun x _ h=>by
   obtain⟨ds,rfl,d1,_,rfl,o1,d2,_,rfl,o2,d3,_,rfl,o3,d4,_,rfl,o4,_⟩:=h
   refine⟨⟨⟨o1.len,o1.rd,o2.len,o2.rd,o3.len,o3.rd,o4.len,o4.rd⟩,cts_of o1,cts_of o2,wts_of o4⟩,fun hf=>?_⟩
   have f1:=stamps_fit (hf.agg Tryz.underlying26 (j:=0) rfl rfl)
   have f2:=stamps_fit (hf.agg Tryz.underlying26 (j:=1) rfl rfl)
   have f3:=spans_fit (hf.agg Tryz.underlying26 (j:=2) rfl rfl)
   have f4:=writes_fit (hf.agg Tryz.underlying26 (j:=3) rfl rfl)
   rw[←o1.cap] at f1
   rw[←o2.cap] at f2
   rw[←o3.cap] at f3
   rw[←o4.cap] at f4
   exact⟨Nat.le_trans o1.rd.cap f1,Nat.le_trans o2.rd.cap f2,Nat.le_trans o3.rd.cap f3,Nat.le_trans o4.rd.cap f4⟩)
structure BdOk (W:World) (p:BV×Wq.Bd):Prop where
 rd:Rd W W.heap.size 1 p.1.A p.2.v.length p.1.c (bv p.2.v)
 wf:(Lit.int .i64 p.2.o).wf=true
 ct:p.2.s.1 < 9223372036854775808
theorem opens_bodyC:Opens enc Tryz.prog W 31 bvl (fun p d=>BdOk W p∧(Fit Tryz.prog 31 d→p.2.v.length≤140737488351232)):=
 (Opens.struct (tot:=4) Tryz.underlying31 (by kernel_rfl) (OpensFs.cons (s:=1) rfl (by kernel_rfl) opens_int (OpensFs.cons (s:=2) rfl (by kernel_rfl) opens_stamp (OpensFs.cons (s:=1) rfl (by kernel_rfl) opens_bytes OpensFs.nil)))).mapg
  (fun x:Int×Vc.St×Sl UInt8×Unit=>((⟨x.2.2.1.A,x.2.2.1.c⟩,⟨x.1,x.2.1,x.2.2.1.xs⟩):BV×Wq.Bd)) bvl _ (fun x d h=>by
   obtain⟨ds,rfl,d1,_,rfl,w1,d2,_,rfl,w2,d3,_,rfl,o3,_⟩:=h
   refine⟨?_,⟨?_,w1,?_⟩,fun hf=>?_⟩
   ·simp only[bvl]
    rw[o3.len]
    rfl
   ·have:=o3.rd
    rw[←o3.len] at this
    exact this
   ·have:=i64_of_wf w2.1
    show x.2.1.1 < _
    omega
   ·have f:=bytes_fit (hf.agg Tryz.underlying31 (j:=2) rfl rfl)
    rw[←o3.cap] at f
    have:=o3.rd.cap
    have e:=o3.len
    show x.2.2.1.xs.length≤_
    omega)
theorem opens_bodiesC:Opens enc Tryz.prog W 33 slv (SlOk W 4 bvl (fun p d=>BdOk W p∧(Fit Tryz.prog 31 d→p.2.v.length≤140737488351232))):=Opens.slice Tryz.underlying33 (by kernel_rfl) (by decide) opens_bodyC
structure ZnOk (W:World) (p:ZV×Zn):Prop where
 len:p.2.2.length=p.1.n
 rd:Rd W W.heap.size 2 p.1.A p.1.n p.1.c (sv p.2.2)
 ct:Wq.cts p.2.2
theorem opens_zoneC:Opens enc Tryz.prog W 129 zvl (fun p d=>ZnOk W p∧(Fit Tryz.prog 129 d→p.1.n≤8796093022208)):=
 (Opens.struct (enc:=enc) (P:=Tryz.prog) (W:=W) (tot:=3) Tryz.underlying129 (by kernel_rfl) (OpensFs.cons (s:=2) rfl (by kernel_rfl) opens_span (OpensFs.cons (s:=1) rfl (by kernel_rfl) opens_stamps OpensFs.nil))).map
  (fun x=>((⟨x.2.1.A,x.2.1.n,x.2.1.c⟩:ZV),(x.1,x.2.1.xs))) _ _ (fun _=>rfl)
  (fun x d ⟨ds,e,d1,_,e1,o1,d2,_,e2,o2,_⟩=>⟨⟨o2.len,o2.rd,cts_of o2⟩,fun hf=>by
   subst e e1 e2
   have f2:=stamps_fit (hf.agg Tryz.underlying129 (j:=1) rfl rfl)
   rw[←o2.cap] at f2
   exact Nat.le_trans o2.rd.cap f2⟩)
theorem opens_zonesC:Opens enc Tryz.prog W 32 slv (SlOk W 3 zvl (fun p d=>ZnOk W p∧(Fit Tryz.prog 129 d→p.1.n≤8796093022208))):=Opens.slice Tryz.underlying32 (by kernel_rfl) (by decide) opens_zoneC
structure VX where
 u:VV
 v:Vw
 L:List (ZV×Zn)
 M:List (BV×Wq.Bd)
structure VwK (v:Vw):Prop where
 k:Wq.cts v.known
 z:∀y∈v.zones,Wq.cts y.2
 h:∀w∈v.held,w.1.1 < 9223372036854775808
 y:∀y∈v.bods,y.s.1 < 9223372036854775808
structure VwOk (W:World) (x:VX):Prop where
 rd:VwRd W W.heap.size x.u x.v x.L x.M
 ct:VwK x.v
structure VwB (x:VX):Prop where
 k:x.v.known.length≤8796093022208
 z:ZnSz x.v.zones.length x.L
 h:x.v.held.length≤4398046511104
 b:x.v.bods.length≤2932031007317
 y:∀p∈x.M,p.2.v.length≤140737488351232
theorem opens_viewC:Opens enc Tryz.prog W 35 (fun x:VX=>(vval x.v x.u).toList) (fun x d=>VwOk W x∧(Fit Tryz.prog 35 d→VwB x)):=
 (Opens.struct (tot:=5) Tryz.underlying35 (by kernel_rfl) (OpensFs.cons (s:=1) rfl (by kernel_rfl) opens_stamps (OpensFs.cons (s:=1) rfl (by kernel_rfl) opens_zonesC (OpensFs.cons (s:=1) rfl (by kernel_rfl) opens_writesC (OpensFs.cons (s:=1) rfl (by kernel_rfl) opens_bodiesC (OpensFs.cons (s:=1) rfl (by kernel_rfl) opens_int OpensFs.nil)))))).mapg
  (fun x=>(⟨⟨x.1.A,x.1.c,x.2.1.A,x.2.1.c,x.2.2.1.A,x.2.2.1.c,x.2.2.2.1.A,x.2.2.2.1.c⟩,⟨x.1.xs,zns x.2.1.xs,x.2.2.1.xs,bds x.2.2.2.1.xs,x.2.2.2.2.1⟩,x.2.1.xs,x.2.2.2.1.xs⟩:VX)) _ _ (fun x d h=>by
   obtain⟨ds,rfl,d1,_,rfl,o1,d2,_,rfl,o2,d3,_,rfl,o3,d4,_,rfl,o4,d5,_,rfl,o5,_⟩:=h
   have z2:(zns x.2.1.xs).length=x.2.1.n:=by rw[zns_len];exact o2.len
   have z4:(bds x.2.2.2.1.xs).length=x.2.2.2.1.n:=by rw[bds_len];exact o4.len
   refine⟨?_,⟨⟨?_,?_,rfl,?_,?_,rfl⟩,⟨cts_of o1,?_,wts_of o3,?_⟩⟩,fun hf=>?_⟩
   ·simp only[vval]
    rw[o1.len,o3.len,z2,z4]
    rfl
   ·dsimp only
    rw[o1.len]
    exact o1.rd
   ·dsimp only
    rw[z2]
    exact⟨o2.len,o2.rd,fun p hp=>by obtain⟨_,_,h,_⟩:=o2.el p hp;exact⟨h.len,h.rd⟩⟩
   ·dsimp only
    rw[o3.len]
    exact o3.rd
   ·dsimp only
    rw[z4]
    exact⟨o4.len,o4.rd,fun p hp=>by obtain⟨_,_,h,_⟩:=o4.el p hp;exact h.rd,fun p hp=>by obtain⟨_,_,h,_⟩:=o4.el p hp;exact h.wf⟩
   ·intro y hy
    obtain⟨p,hp,rfl⟩:=List.mem_map.1 hy
    obtain⟨_,_,h,_⟩:=o2.el p hp
    exact h.ct
   ·intro y hy
    obtain⟨p,hp,rfl⟩:=List.mem_map.1 hy
    obtain⟨_,_,h,_⟩:=o4.el p hp
    exact h.ct
   ·have f1:=stamps_fit (hf.agg Tryz.underlying35 (j:=0) rfl rfl)
    have f2:=zones_fit (hf.agg Tryz.underlying35 (j:=1) rfl rfl)
    have f3:=writes_fit (hf.agg Tryz.underlying35 (j:=2) rfl rfl)
    have f4:=bodies_fit (hf.agg Tryz.underlying35 (j:=3) rfl rfl)
    rw[←o1.cap] at f1
    rw[←o2.cap] at f2
    rw[←o3.cap] at f3
    rw[←o4.cap] at f4
    have g1:=o1.rd.cap
    have g2:=o2.rd.cap
    have g3:=o3.rd.cap
    have g4:=o4.rd.cap
    have e1:=o1.len
    have e3:=o3.len
    refine⟨?_,⟨?_,fun p hp=>?_⟩,?_,?_,fun p hp=>?_⟩
    ·dsimp only;omega
    ·dsimp only;rw[z2];have:=f2.1;omega
    ·obtain⟨d',hd,_,h⟩:=o2.el p hp;exact h (f2.2 d' hd)
    ·dsimp only;omega
    ·dsimp only;rw[z4];have:=f4.1;omega
    ·obtain⟨d',hd,_,h⟩:=o4.el p hp;exact h (f4.2 d' hd))
theorem opens_subC:Opens enc Tryz.prog W 65 sbl (fun p d=>Rd W W.heap.size 2 p.1.A p.2.int.length p.1.c (sv p.2.int)∧(Fit Tryz.prog 65 d→p.2.int.length≤8796093022208)):=
 (Opens.struct (tot:=7) Tryz.underlying65 (by kernel_rfl) (OpensFs.cons (s:=1) rfl (by kernel_rfl) opens_int (OpensFs.cons (s:=1) rfl (by kernel_rfl) opens_spans (OpensFs.cons (s:=1) rfl (by kernel_rfl) opens_int (OpensFs.cons (s:=1) rfl (by kernel_rfl) opens_int (OpensFs.cons (s:=1) rfl (by kernel_rfl) opens_bool (OpensFs.cons (s:=1) rfl (by kernel_rfl) opens_bool (OpensFs.cons (s:=1) rfl (by kernel_rfl) opens_bool OpensFs.nil)))))))).mapg
  (fun x=>((⟨x.2.1.A,x.2.1.c⟩,⟨x.1,x.2.1.xs,x.2.2.1,x.2.2.2.1,x.2.2.2.2.1,x.2.2.2.2.2.1,x.2.2.2.2.2.2.1⟩):SV×Sb)) sbl _ (fun x d h=>by
   obtain⟨ds,rfl,d1,_,rfl,o1,d2,_,rfl,o2,_⟩:=h
   refine⟨?_,?_,fun hf=>?_⟩
   ·simp only[sbl]
    rw[o2.len]
    rfl
   ·have:=o2.rd
    rw[←o2.len] at this
    exact this
   ·have f:=spans_fit (hf.agg Tryz.underlying65 (j:=1) rfl rfl)
    rw[←o2.cap] at f
    have:=o2.rd.cap
    have e:=o2.len
    show x.2.1.xs.length≤_
    omega)
theorem opens_subsC:Opens enc Tryz.prog W 36 slv (SlOk W 7 sbl (fun p d=>Rd W W.heap.size 2 p.1.A p.2.int.length p.1.c (sv p.2.int)∧(Fit Tryz.prog 65 d→p.2.int.length≤8796093022208))):=Opens.slice Tryz.underlying36 (by kernel_rfl) (by decide) opens_subC
theorem subs_ok {s:Sl (SV×Sb)} {d:DataW H} (ok:SlOk W 7 sbl (fun p d=>Rd W W.heap.size 2 p.1.A p.2.int.length p.1.c (sv p.2.int)∧(Fit Tryz.prog 65 d→p.2.int.length≤8796093022208)) s d):RdSb W W.heap.size s.A s.n s.c s.xs:=⟨ok.len,ok.rd,fun p hp=>by obtain⟨_,_,h,_⟩:=ok.el p hp;exact h⟩
structure SbB (n:Nat) (S:List (SV×Sb)):Prop where
 n:n≤2513169434843
 each:∀p∈S,p.2.int.length≤8796093022208
theorem subs_b {s:Sl (SV×Sb)} {d:DataW H} (ok:SlOk W 7 sbl (fun p d=>Rd W W.heap.size 2 p.1.A p.2.int.length p.1.c (sv p.2.int)∧(Fit Tryz.prog 65 d→p.2.int.length≤8796093022208)) s d) (hf:Fit Tryz.prog 36 d):SbB s.n s.xs:=by
 have f:=subs_fit hf
 rw[←ok.cap] at f
 have g:=ok.rd.cap
 exact⟨by have:=f.1;omega,fun p hp=>by obtain⟨d',hd,_,h⟩:=ok.el p hp;exact h (f.2 d' hd)⟩
structure EX where
 u:EV
 x:Ent
 L:List (ZV×Zn)
 M:List (BV×Wq.Bd)
 S:List (SV×Sb)
structure EntOk (W:World) (x:EX):Prop where
 rd:EntRd W W.heap.size x.u x.x x.L x.M x.S
 ct:Wq.EntC x.x
structure EntB (x:EX):Prop where
 n:NtB (x.u.nv,x.x.note)
 b:x.x.body.v.length≤140737488351232
 i:x.x.int.length≤8796093022208
 v:VwB ⟨x.u.vv,x.x.view,x.L,x.M⟩
 s:SbB x.x.subs.length x.S
theorem EntB.s1 {x:EX} (h:EntB x):x.u.nv.n1+x.u.nv.n2+x.u.nv.n3+x.u.nv.n4≤9223372036854775807:=by
 have h1:=h.n.n1;have h2:=h.n.n2;have h3:=h.n.n3;have h4:=h.n.n4
 dsimp only at h1 h2 h3 h4
 omega
theorem EntB.s2 {x:EX} (h:EntB x):x.x.view.known.length+x.x.view.zones.length+x.x.view.held.length+x.x.view.bods.length≤9223372036854775807:=by
 have h1:=h.v.k;have h2:=h.v.z.n;have h3:=h.v.h;have h4:=h.v.b
 dsimp only at h1 h2 h3 h4
 omega
theorem opens_entryC:Opens enc Tryz.prog W 38 (fun x:EX=>(eval x.x x.u).toList) (fun x d=>EntOk W x∧(Fit Tryz.prog 38 d→EntB x)):=
 (Opens.struct (tot:=17) Tryz.underlying38 (by kernel_rfl) (OpensFs.cons (s:=1) rfl (by kernel_rfl) opens_int (OpensFs.cons (s:=4) rfl (by kernel_rfl) opens_noteC (OpensFs.cons (s:=4) rfl (by kernel_rfl) opens_bodyC (OpensFs.cons (s:=1) rfl (by kernel_rfl) opens_int (OpensFs.cons (s:=1) rfl (by kernel_rfl) opens_spans (OpensFs.cons (s:=5) rfl (by kernel_rfl) opens_viewC (OpensFs.cons (s:=1) rfl (by kernel_rfl) opens_subsC OpensFs.nil)))))))).mapg
  (fun x=>(⟨⟨x.2.1.1,x.2.2.1.1.A,x.2.2.1.1.c,x.2.2.2.2.1.A,x.2.2.2.2.1.c,x.2.2.2.2.2.1.u,x.2.2.2.2.2.2.1.A,x.2.2.2.2.2.2.1.c⟩,⟨x.1,x.2.1.2,x.2.2.1.2,x.2.2.2.1,x.2.2.2.2.1.xs,x.2.2.2.2.2.1.v,sbs x.2.2.2.2.2.2.1.xs⟩,x.2.2.2.2.2.1.L,x.2.2.2.2.2.1.M,x.2.2.2.2.2.2.1.xs⟩:EX)) _ _ (fun x d h=>by
   obtain⟨ds,rfl,d1,_,rfl,o1,d2,_,rfl,o2,d3,_,rfl,o3,d4,_,rfl,o4,d5,_,rfl,o5,d6,_,rfl,o6,d7,_,rfl,o7,_⟩:=h
   have z7:(sbs x.2.2.2.2.2.2.1.xs).length=x.2.2.2.2.2.2.1.n:=by rw[sbs_len];exact o7.len
   refine⟨?_,⟨⟨o2.1.rd,o3.1.rd,?_,o6.1.rd,?_,rfl⟩,⟨o2.1.cts,o3.1.ct,o6.1.ct.k,o6.1.ct.z,o6.1.ct.h,o6.1.ct.y⟩⟩,fun hf=>⟨o2.2 (hf.agg Tryz.underlying38 (j:=1) rfl rfl),o3.2 (hf.agg Tryz.underlying38 (j:=2) rfl rfl),?_,o6.2 (hf.agg Tryz.underlying38 (j:=5) rfl rfl),?_⟩⟩
   ·simp only[eval]
    rw[o5.len,z7]
    rfl
   ·dsimp only
    rw[o5.len]
    exact o5.rd
   ·dsimp only
    rw[z7]
    exact subs_ok o7
   ·have f:=spans_fit (hf.agg Tryz.underlying38 (j:=4) rfl rfl)
    rw[←o5.cap] at f
    have:=o5.rd.cap
    have e:=o5.len
    show x.2.2.2.2.1.xs.length≤_
    omega
   ·dsimp only
    rw[z7]
    exact subs_b o7 (hf.agg Tryz.underlying38 (j:=6) rfl rfl))
theorem open_entryC {r:Reach} {b0:Nat} {v:Value} {d:DataW H} {p:List MemPlace} (hv:Value.okWide Tryz.prog W r b0 38 v) (hT:DataW.Trod enc Tryz.prog W 0 (fun _=>true) true 38 v d p) (hf:Fit Tryz.prog 38 d):
  ∃(u:EV) (x:Ent) (L:List (ZV×Zn)) (M:List (BV×Wq.Bd)) (S:List (SV×Sb)),v=.agg (eval x u)∧EntRd W W.heap.size u x L M S∧Wq.EntC x∧EntB ⟨u,x,L,M,S⟩:=by
 obtain⟨q,rfl,ok,hB⟩:=opens_entryC.arg_agg Tryz.underlying38 hv hT
 exact⟨q.u,q.x,q.L,q.M,q.S,rfl,ok.rd,ok.ct,hB hf⟩
end
theorem plain_of {nm:String} {k:FuncId} {fk:Func} (h1:Tryz.prog.funcNamed nm=some k) (h2:Tryz.prog.funcs[k]?=some fk) (h3:(fk.params.toList.all fun t=>!Tryz.prog.wantsStandIn t)=true) (h4:true=Tryz.pinned.checked.prog.looks [])
  (f:FuncId) (fn:Func) (hf:Tryz.pinned.checked.prog.funcNamed nm=some f) (hfn:Tryz.pinned.checked.prog.funcs[f]?=some fn):
  true=Tryz.pinned.checked.prog.looks []∧∀(j:Nat) t,fn.params[j]?=some t→Tryz.pinned.checked.prog.wantsStandIn t=false:=by
 obtain rfl:f=k:=(Option.some.inj (h1.symm.trans hf)).symm
 obtain rfl:fn=fk:=(Option.some.inj (h2.symm.trans hfn)).symm
 refine⟨h4,fun j t ht=>?_⟩
 have:=List.all_eq_true.1 h3 t (by simpa using Array.mem_of_getElem? ht)
 show Tryz.prog.wantsStandIn t=false
 simpa using this
end Go.Proofs.YtmbeahbgafkjfaaGreatDoor
namespace Go.Proofs.YtmbeahbgafkjfaaGreatDoor
open Go.ChangeShapes Go.WideShapes Go.ChangeAt Go.RowKit
theorem entryEncodes_step (H:Type) (enc:TypeId×Value→H) (W:World) (base:Nat) (args:Array Value) (ds gs:List (DataW H)) (before:List MemPlace)
  (hval0:∀(j:Nat) t v,Tryz.f3.params[j]?=some t→args[j]?=some v→Value.okWide Tryz.prog W .any base t v)
  (hW:DataW.Whole enc Tryz.prog Tryz.f3.params.toList Rows.entryEncodesSpec.vars false W args.toList ds gs before)
  (hsz0:(DataW.weightsEach Tryz.prog (Tryz.f3.params.toList++Rows.entryEncodesSpec.plain.varTypes Tryz.prog) (ds++gs)).all (·≤reachBytes)=true) (hL:laidMetH Tryz.prog Rows.entryEncodesRow.laid W):
  Calls Tryz.prog 3 args W fun e W'=>∃v,e=.returned v∧Rows.entryEncodesSpec.post enc Tryz.prog Tryz.f3 false true false false W args v W':=by
 have hval:∀(j:Nat) t v,Tryz.f3.params[j]?=some t→args[j]?=some v→Value.okWide Tryz.prog W .any base t v:=hval0
 have hsz:=hsz0
 have hW':=hW
 obtain⟨p,q,hA0,hV,rfl,hfz,hnd⟩:=hW
 have hA:DataW.TrodAll enc Tryz.prog W 0 (fun _=>true) true Tryz.f3.params.toList args.toList ds p:=hA0
 rw[Tryz.params3] at hA hval hsz
 obtain⟨v0,d0,rfl,rfl,h0⟩:=trodAll_one hA
 obtain⟨rfl,rfl⟩:=trodVars_none hV
 simp only[List.append_nil] at hW' hsz
 obtain⟨u0,x0,L0,M0,S0,rfl,hE0,hc0,hB0⟩:=open_entryC (hval 0 38 v0 rfl rfl) h0 (Fit.arg hsz (j:=0) rfl rfl)
 refine(entryEncodes_walk x0 u0 L0 M0 S0 W (table hL) hE0 hc0 hB0.s1 hB0.s2).mono fun e W' ⟨he,hb⟩=>?_
 exact⟨_,he,law_post laidOut (by kernel_rfl) (tb:=4) (by kernel_rfl) Tryz.underlying4 rfl hW' rfl hb⟩
theorem entryEncodes_met (os:Os):laidMet Tryz.prog Rows.entryEncodesRow.laid ((laidWorld os).forCall (fun _ _=>0) ⟨#[],#[.agg #[.int .i64 0,.slice none 0 0,.slice none 0 0,.slice none 0 0,.slice none 0 0,.int .i64 0,.int .i64 0,.int .i64 0,.slice none 0 0,.int .i64 0,.slice none 0 0,.slice none 0 0,.slice none 0 0,.slice none 0 0,.slice none 0 0,.int .i64 0,.slice none 0 0]],[]⟩).memory:=
 laidMet_of_run' 8 (by kernel_rfl) (by kernel_rfl)
theorem entryEncodes_reads (os:Os) {H:Type} (enc:TypeId×Value→H):∃places,DataW.whole enc Tryz.prog ((laidWorld os).forCall (fun _ _=>0) ⟨#[],#[.agg #[.int .i64 0,.slice none 0 0,.slice none 0 0,.slice none 0 0,.slice none 0 0,.int .i64 0,.int .i64 0,.int .i64 0,.slice none 0 0,.int .i64 0,.slice none 0 0,.slice none 0 0,.slice none 0 0,.slice none 0 0,.slice none 0 0,.int .i64 0,.slice none 0 0]],[]⟩).memory Tryz.f3.params.toList Rows.entryEncodesSpec.vars false (#[.agg #[.int .i64 0,.slice none 0 0,.slice none 0 0,.slice none 0 0,.slice none 0 0,.int .i64 0,.int .i64 0,.int .i64 0,.slice none 0 0,.int .i64 0,.slice none 0 0,.slice none 0 0,.slice none 0 0,.slice none 0 0,.slice none 0 0,.int .i64 0,.slice none 0 0]]:Array Value).toList 8=some ([.agg [.lit (.int .i64 0),.agg [.nil,.nil,.nil,.nil],.agg [.lit (.int .i64 0),.agg [.lit (.int .i64 0),.lit (.int .i64 0)],.nil],.lit (.int .i64 0),.nil,.agg [.nil,.nil,.nil,.nil,.lit (.int .i64 0)],.nil]],[],places):=
 ⟨[],by kernel_rfl⟩
theorem entryEncodes_lifted (os:Os) (started:os.Started) (H:Type) (enc:TypeId×Value→H) (F:Stop.Interp):
  ReturnsInHanded {} Tryz.checked os 3 .any ((OpenSpec.ofChange Rows.entryEncodesSpec).preRow enc Tryz.prog Tryz.f3 Rows.entryEncodesRow.domain false Rows.entryEncodesRow.laid) (((OpenSpec.ofChange Rows.entryEncodesSpec).at F).post enc Tryz.prog Tryz.f3 false true false false):=by
 obtain⟨places,hx⟩:=entryEncodes_reads os enc
 refine returnsInHanded_of_row (C:=Tryz.checked) (s:=OpenSpec.ofChange Rows.entryEncodesSpec) own started (by kernel_rfl) Tryz.func3
  (witness_row_at (enc:=enc) (C:=Tryz.checked) false (laidWorld os) #[.agg #[.int .i64 0,.slice none 0 0,.slice none 0 0,.slice none 0 0,.slice none 0 0,.int .i64 0,.int .i64 0,.int .i64 0,.slice none 0 0,.int .i64 0,.slice none 0 0,.slice none 0 0,.slice none 0 0,.slice none 0 0,.slice none 0 0,.int .i64 0,.slice none 0 0]] rfl (by kernel_rfl) (by kernel_rfl) (by kernel_rfl)
   (OpenSpec.preRow_of_cond 8 hx (by kernel_rfl) (fun k hk=>by cases hk) (by kernel_rfl) (entryEncodes_met os))) ?_
 intro W base args ds gs before hval hW _ hcond hsz hL _ _
 exact entryEncodes_step H enc W base args ds gs before hval hW hsz hL
theorem entryEncodes_said:Rows.EntryEncodesSaid:=
 OpenClaim.holds_of_cond 3 Tryz.f3 rfl rfl rfl rfl rfl rfl rfl ⟨rfl,rfl,rfl,rfl,rfl⟩ rfl rfl rfl rfl rfl (by kernel_rfl) Tryz.func3 (by kernel_rfl)
  (of_decide_eq_true (by kernel_rfl)) (by unfold Func.isWrapper;first | (rw[if_pos (by decide +kernel)];kernel_rfl) | (rw[if_neg (by decide +kernel)];exact⟨rfl,rfl⟩))
  (fun os started H enc _ F=>by rw[OpenClaim.pre_eq_preRow];exact entryEncodes_lifted os started H enc F)
theorem entryEncodes_card:Rows.EntryEncodesCardSaid:=
 Claim7.holds_tied_plain_at .later [] _ _ _ _ entryEncodes_said (fun _ h=>by cases h) (by kernel_rfl) (fun _ h=>by cases h) entryEncodes_row_tie rfl ⟨rfl,rfl⟩ (by kernel_rfl) rfl (plain_of (k:=3) (fk:=Tryz.f3) (by kernel_rfl) Tryz.func3 (by kernel_rfl) (by kernel_rfl)) (by kernel_rfl)
end Go.Proofs.YtmbeahbgafkjfaaGreatDoor
