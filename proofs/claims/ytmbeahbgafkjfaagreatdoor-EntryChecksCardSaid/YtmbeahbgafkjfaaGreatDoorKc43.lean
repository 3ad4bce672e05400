/- Lemmas for the claim, layer 43. -/
import Derived.Test.YtmbeahbgafkjfaaGreatDoorCards
import Derived.Test.YtmbeahbgafkjfaaGreatDoorTie
import Derived.Deep.DeepHandedRow
import Derived.Lib.LaidTab
import Derived.Test.YtmbeahbgafkjfaaGreatDoorKc42
set_option maxRecDepth 100000
set_option linter.unusedSimpArgs false
set_option maxHeartbeats 16000000
namespace Go.Proofs.YtmbeahbgafkjfaaGreatDoor
open Go.ChangeShapes Go.WideShapes Go.ChangeAt Go.RowKit
theorem gTab : Tryz.prog.globalNamed "math/bits.deBruijn64tab" = some 0 := by kernel_rfl
theorem gTabType:(Tryz.prog.globals[0]?).map (·.type)=some 256:=by kernel_rfl
theorem cellsTab:Tryz.prog.cellsOf 256=64:=by kernel_rfl
theorem cellsU8:Tryz.prog.cellsOf 5=1:=by kernel_rfl
theorem table {W:World} (h:laidMetH Tryz.prog Rows.entryEncodesRow.laid W):Tab W:=fun j hj=>by
 have ht : Lib.TabIs Tryz.prog W "math/bits.deBruijn64tab" .u8 (Lib.deBruijn64tab.map Int.ofNat) := Lib.tabIs_of_head (rest := []) gTab gTabType Tryz.underlying256 Tryz.underlying5 cellsU8 cellsTab h;have:=ht.cell gTab j (by rw[List.length_map];exact hj);rw[this];simp[List.getD,List.getElem?_eq_getElem hj]
noncomputable def laidWorld (os:Os):World:=
 { World.holding Tryz.prog os ⟨#[],#[],[]⟩ with heap:=(World.holding Tryz.prog os ⟨#[],#[],[]⟩).heap.modify 0 fun
   | .cells _ t frozen=>.cells (Lib.deBruijn64tab.map fun n:Nat=>Value.int .u8 (Int.ofNat n)).toArray t frozen
   | o=>o }
section
variable {H:Type} {enc:TypeId×Value->H} {W:World}
theorem Opens.mapg {P:Program} {t:TypeId} {α β:Type} {f:α->List Value} {g:α->DataW H->Prop} (e:α->β) (f':β->List Value) (g':β->DataW H->Prop) (h:Opens enc P W t f g) (hf:∀x d,g x d->f x=f' (e x)/\g' (e x) d):Opens enc P W t f' g':=by
 intro fuel cs y hy;obtain⟨x,rfl,hx⟩:=h fuel cs y hy;exact⟨e x,(hf x _ hx).1,(hf x _ hx).2⟩
def stWf (s:Vc.St):Prop:=(Lit.int .i64 s.1).wf=true/\(Lit.int .i64 s.2).wf=true
def stc (s:Vc.St):List Value:=[.int .i64 s.1,.int .i64 s.2]
theorem opens_int:Opens enc Tryz.prog W 3 (fun z:Int=>[.int .i64 z]) (fun z _=>(Lit.int .i64 z).wf=true):=Opens.int Tryz.underlying3
theorem opens_bool:Opens enc Tryz.prog W 4 (fun z:Bool=>[.bool z]) (fun _ _=>True):=Opens.bool Tryz.underlying4
theorem opens_stamp:Opens enc Tryz.prog W 28 stc (fun s _=>stWf s):=
 (Opens.struct (tot:=2) Tryz.underlying28 (by kernel_rfl) (OpensFs.cons (s:=1) rfl (by kernel_rfl) opens_int (OpensFs.cons (s:=1) rfl (by kernel_rfl) opens_int OpensFs.nil))).map
  (fun x:Int×Int×Unit=>((x.1,x.2.1):Vc.St)) stc (fun s _=>stWf s) (fun _=>rfl) (fun _ _ ⟨_,_,_,_,_,h1,_,_,_,h2,_⟩=>⟨h1,h2⟩)
theorem opens_stamps:Opens enc Tryz.prog W 22 slv (SlOk W 2 stc (fun s _=>stWf s)):=Opens.slice Tryz.underlying22 (by kernel_rfl) (by decide) opens_stamp
theorem opens_span:Opens enc Tryz.prog W 63 stc (fun s _=>stWf s):=
 (Opens.struct (tot:=2) Tryz.underlying63 (by kernel_rfl) (OpensFs.cons (s:=1) rfl (by kernel_rfl) opens_int (OpensFs.cons (s:=1) rfl (by kernel_rfl) opens_int OpensFs.nil))).map
  (fun x:Int×Int×Unit=>((x.1,x.2.1):Sn.Sp)) stc (fun s _=>stWf s) (fun _=>rfl) (fun _ _ ⟨_,_,_,_,_,h1,_,_,_,h2,_⟩=>⟨h1,h2⟩)
theorem opens_spans:Opens enc Tryz.prog W 23 slv (SlOk W 2 stc (fun s _=>stWf s)):=Opens.slice Tryz.underlying23 (by kernel_rfl) (by decide) opens_span
theorem stamps_fit {d:DataW H} (hf:Fit Tryz.prog 22 d):capOf d<=8796093022208:=by
 have h1:=(hf.slice Tryz.underlying22).1;rw[show Tryz.prog.bytesOf 28=16 by kernel_rfl] at h1;omega
theorem spans_fit {d:DataW H} (hf:Fit Tryz.prog 23 d):capOf d<=8796093022208:=by
 have h1:=(hf.slice Tryz.underlying23).1;rw[show Tryz.prog.bytesOf 63=16 by kernel_rfl] at h1;omega
theorem writes_fit {d:DataW H} (hf:Fit Tryz.prog 24 d):capOf d<=4398046511104:=by
 have h1:=(hf.slice Tryz.underlying24).1;rw[show Tryz.prog.bytesOf 70=32 by kernel_rfl] at h1;omega
theorem zones_fit {d:DataW H} (hf:Fit Tryz.prog 32 d):capOf d<=3518437208780/\∀d'∈elemsOf d,Fit Tryz.prog 129 d':=by
 have h1:=hf.slice Tryz.underlying32;rw[show Tryz.prog.bytesOf 129=40 by kernel_rfl] at h1;exact⟨by have:=h1.1;omega,h1.2⟩
theorem bodies_fit {d:DataW H} (hf:Fit Tryz.prog 33 d):capOf d<=2932031007317/\∀d'∈elemsOf d,Fit Tryz.prog 31 d':=by
 have h1:=hf.slice Tryz.underlying33;rw[show Tryz.prog.bytesOf 31=48 by kernel_rfl] at h1;exact⟨by have:=h1.1;omega,h1.2⟩
theorem subs_fit {d:DataW H} (hf:Fit Tryz.prog 36 d):capOf d<=2513169434843/\∀d'∈elemsOf d,Fit Tryz.prog 65 d':=by
 have h1:=hf.slice Tryz.underlying36;rw[show Tryz.prog.bytesOf 65=56 by kernel_rfl] at h1;exact⟨by have:=h1.1;omega,h1.2⟩
theorem bytes_fit {d:DataW H} (hf:Fit Tryz.prog 29 d):capOf d<=140737488351232:=by
 have h1:=(hf.slice Tryz.underlying29).1;rw[show Tryz.prog.bytesOf 5=1 by kernel_rfl] at h1;omega
structure BtOk (W:World) (s:Sl UInt8) (d:DataW H):Prop where
 len:s.xs.length=s.n
 cap:s.c=capOf d
 rd:Rd W W.heap.size 1 s.A s.n s.c (bv s.xs)
theorem opens_bytes:Opens enc Tryz.prog W 29 slv (BtOk (H:=H) W):=
 (Opens.slice (size:=1) Tryz.underlying29 (by kernel_rfl) (by decide) (Opens.int (k:=.u8) Tryz.underlying5)).map (fun s:Sl Int=>(⟨s.A,s.n,s.c,u8s s.xs⟩:Sl UInt8)) slv (BtOk W) (fun _=>rfl) (fun s d h=>by
  have e:bv (u8s s.xs)=s.xs.flatMap fun z=>[Value.int .u8 z]:=by
   rw[u8s_at fun z hz=>by obtain⟨d',_,hw⟩:=h.el z hz;exact u8_of_wf hw];exact List.map_eq_flatMap ..
  exact⟨by rw[show (u8s s.xs).length=s.xs.length by simp[u8s]];exact h.len,h.cap,by rw[e];exact h.rd⟩)
theorem opens_writeC:Opens enc Tryz.prog W 70 wc (fun q _=>stWf q.1):=
 (Opens.struct (tot:=4) Tryz.underlying70 (by kernel_rfl) (OpensFs.cons (s:=2) rfl (by kernel_rfl) opens_stamp (OpensFs.cons (s:=1) rfl (by kernel_rfl) opens_int (OpensFs.cons (s:=1) rfl (by kernel_rfl) opens_bool OpensFs.nil)))).map
  (fun x:Vc.St×Int×Bool×Unit=>((x.1,x.2.1,x.2.2.1):Wr)) wc (fun q _=>stWf q.1) (fun _=>rfl) (fun _ _ ⟨_,_,_,_,_,h1,_⟩=>h1)
theorem opens_writesC:Opens enc Tryz.prog W 24 slv (SlOk W 4 wc (fun q _=>stWf q.1)):=Opens.slice Tryz.underlying24 (by kernel_rfl) (by decide) opens_writeC
theorem cts_of {s:Sl Vc.St} {d:DataW H} (ok:SlOk W 2 stc (fun s _=>stWf s) s d):Wq.cts s.xs:=fun t ht=>by
 obtain⟨_,_,h1,_⟩:=ok.el t ht;have:=i64_of_wf h1;omega
theorem wts_of {s:Sl Wr} {d:DataW H} (ok:SlOk W 4 wc (fun q _=>stWf q.1) s d):∀w∈s.xs,w.1.1 < 9223372036854775808:=fun t ht=>by
 obtain⟨_,_,h1,_⟩:=ok.el t ht;have:=i64_of_wf h1;omega
structure NtOk (W:World) (q:NV×Nt):Prop where
 rd:NtRd W W.heap.size q.1 q.2
 cts:Wq.ntC q.2
structure NtB (q:NV×Nt):Prop where
 n1:q.1.n1<=8796093022208
 n2:q.1.n2<=8796093022208
 n3:q.1.n3<=8796093022208
 n4:q.1.n4<=4398046511104
theorem opens_noteC:Opens enc Tryz.prog W 26 (fun q:NV×Nt=>q.1.val.toList) (fun q d=>NtOk W q/\(Fit Tryz.prog 26 d->NtB q)):=
 (Opens.struct (tot:=4) Tryz.underlying26 (by kernel_rfl) (OpensFs.cons (s:=1) rfl (by kernel_rfl) opens_stamps (OpensFs.cons (s:=1) rfl (by kernel_rfl) opens_stamps (OpensFs.cons (s:=1) rfl (by kernel_rfl) opens_spans (OpensFs.cons (s:=1) rfl (by kernel_rfl) opens_writesC OpensFs.nil))))).map
  (fun x:Sl Vc.St×Sl Vc.St×Sl Sn.Sp×Sl Wr×Unit=>((⟨x.1.A,x.1.n,x.1.c,x.2.1.A,x.2.1.n,x.2.1.c,x.2.2.1.A,x.2.2.1.n,x.2.2.1.c,x.2.2.2.1.A,x.2.2.2.1.n,x.2.2.2.1.c⟩,⟨x.1.xs,x.2.1.xs,x.2.2.1.xs,x.2.2.2.1.xs⟩):NV×Nt))
  (fun q:NV×Nt=>q.1.val.toList) (fun q d=>NtOk W q/\(Fit Tryz.prog 26 d->NtB q)) (fun _=>rfl) (fun x _ h=>by
   obtain⟨ds,rfl,d1,_,rfl,o1,d2,_,rfl,o2,d3,_,rfl,o3,d4,_,rfl,o4,_⟩:=h;refine⟨⟨⟨o1.len,o1.rd,o2.len,o2.rd,o3.len,o3.rd,o4.len,o4.rd⟩,cts_of o1,cts_of o2,wts_of o4⟩,fun hf=>?_⟩;have f1:=stamps_fit (hf.agg Tryz.underlying26 (j:=0) rfl rfl);have f2:=stamps_fit (hf.agg Tryz.underlying26 (j:=1) rfl rfl);have f3:=spans_fit (hf.agg Tryz.underlying26 (j:=2) rfl rfl);have f4:=writes_fit (hf.agg Tryz.underlying26 (j:=3) rfl rfl);rw[<-o1.cap] at f1;rw[<-o2.cap] at f2;rw[<-o3.cap] at f3;rw[<-o4.cap] at f4;exact⟨Nat.le_trans o1.rd.cap f1,Nat.le_trans o2.rd.cap f2,Nat.le_trans o3.rd.cap f3,Nat.le_trans o4.rd.cap f4⟩)
structure BdOk (W:World) (p:BV×Wq.Bd):Prop where
 rd:Rd W W.heap.size 1 p.1.A p.2.v.length p.1.c (bv p.2.v)
 wf:(Lit.int .i64 p.2.o).wf=true
 ct:p.2.s.1 < 9223372036854775808
theorem opens_bodyC:Opens enc Tryz.prog W 31 bvl (fun p d=>BdOk W p/\(Fit Tryz.prog 31 d->p.2.v.length<=140737488351232)):=
 (Opens.struct (tot:=4) Tryz.underlying31 (by kernel_rfl) (OpensFs.cons (s:=1) rfl (by kernel_rfl) opens_int (OpensFs.cons (s:=2) rfl (by kernel_rfl) opens_stamp (OpensFs.cons (s:=1) rfl (by kernel_rfl) opens_bytes OpensFs.nil)))).mapg
  (fun x:Int×Vc.St×Sl UInt8×Unit=>((⟨x.2.2.1.A,x.2.2.1.c⟩,⟨x.1,x.2.1,x.2.2.1.xs⟩):BV×Wq.Bd)) bvl _ (fun x d h=>by
   obtain⟨ds,rfl,d1,_,rfl,w1,d2,_,rfl,w2,d3,_,rfl,o3,_⟩:=h;refine⟨?_,⟨?_,w1,?_⟩,fun hf=>?_⟩
   ·simp only[bvl];rw[o3.len];rfl
   ·have:=o3.rd;rw[<-o3.len] at this;exact this
   ·have:=i64_of_wf w2.1;show x.2.1.1 < _;omega
   ·have f:=bytes_fit (hf.agg Tryz.underlying31 (j:=2) rfl rfl);rw[<-o3.cap] at f;have:=o3.rd.cap;have e:=o3.len;show x.2.2.1.xs.length<=_;omega)
theorem opens_bodiesC:Opens enc Tryz.prog W 33 slv (SlOk W 4 bvl (fun p d=>BdOk W p/\(Fit Tryz.prog 31 d->p.2.v.length<=140737488351232))):=Opens.slice Tryz.underlying33 (by kernel_rfl) (by decide) opens_bodyC
structure ZnOk (W:World) (p:ZV×Zn):Prop where
 len:p.2.2.length=p.1.n
 rd:Rd W W.heap.size 2 p.1.A p.1.n p.1.c (sv p.2.2)
 ct:Wq.cts p.2.2
theorem opens_zoneC:Opens enc Tryz.prog W 129 zvl (fun p d=>ZnOk W p/\(Fit Tryz.prog 129 d->p.1.n<=8796093022208)):=
 (Opens.struct (enc:=enc) (P:=Tryz.prog) (W:=W) (tot:=3) Tryz.underlying129 (by kernel_rfl) (OpensFs.cons (s:=2) rfl (by kernel_rfl) opens_span (OpensFs.cons (s:=1) rfl (by kernel_rfl) opens_stamps OpensFs.nil))).map
  (fun x=>((⟨x.2.1.A,x.2.1.n,x.2.1.c⟩:ZV),(x.1,x.2.1.xs))) _ _ (fun _=>rfl)
  (fun x d ⟨ds,e,d1,_,e1,o1,d2,_,e2,o2,_⟩=>⟨⟨o2.len,o2.rd,cts_of o2⟩,fun hf=>by
   subst e e1 e2;have f2:=stamps_fit (hf.agg Tryz.underlying129 (j:=1) rfl rfl);rw[<-o2.cap] at f2;exact Nat.le_trans o2.rd.cap f2⟩)
theorem opens_zonesC:Opens enc Tryz.prog W 32 slv (SlOk W 3 zvl (fun p d=>ZnOk W p/\(Fit Tryz.prog 129 d->p.1.n<=8796093022208))):=Opens.slice Tryz.underlying32 (by kernel_rfl) (by decide) opens_zoneC
structure VX where
 u:VV
 v:Vw
 L:List (ZV×Zn)
 M:List (BV×Wq.Bd)
structure VwK (v:Vw):Prop where
 k:Wq.cts v.known
 z:∀y∈v.zones,Wq.cts y.2
 h:∀w∈v.held,w.1.1 < 9223372036854775808
 y:∀y∈v.bods,y.s.1 < 9223372036854775808
structure VwOk (W:World) (x:VX):Prop where
 rd:VwRd W W.heap.size x.u x.v x.L x.M
 ct:VwK x.v
structure VwB (x:VX):Prop where
 k:x.v.known.length<=8796093022208
 z:ZnSz x.v.zones.length x.L
 h:x.v.held.length<=4398046511104
 b:x.v.bods.length<=2932031007317
 y:∀p∈x.M,p.2.v.length<=140737488351232
theorem opens_viewC:Opens enc Tryz.prog W 35 (fun x:VX=>(vval x.v x.u).toList) (fun x d=>VwOk W x/\(Fit Tryz.prog 35 d->VwB x)):=
 (Opens.struct (tot:=5) Tryz.underlying35 (by kernel_rfl) (OpensFs.cons (s:=1) rfl (by kernel_rfl) opens_stamps (OpensFs.cons (s:=1) rfl (by kernel_rfl) opens_zonesC (OpensFs.cons (s:=1) rfl (by kernel_rfl) opens_writesC (OpensFs.cons (s:=1) rfl (by kernel_rfl) opens_bodiesC (OpensFs.cons (s:=1) rfl (by kernel_rfl) opens_int OpensFs.nil)))))).mapg
  (fun x=>(⟨⟨x.1.A,x.1.c,x.2.1.A,x.2.1.c,x.2.2.1.A,x.2.2.1.c,x.2.2.2.1.A,x.2.2.2.1.c⟩,⟨x.1.xs,zns x.2.1.xs,x.2.2.1.xs,bds x.2.2.2.1.xs,x.2.2.2.2.1⟩,x.2.1.xs,x.2.2.2.1.xs⟩:VX)) _ _ (fun x d h=>by
   obtain⟨ds,rfl,d1,_,rfl,o1,d2,_,rfl,o2,d3,_,rfl,o3,d4,_,rfl,o4,d5,_,rfl,o5,_⟩:=h;have z2:(zns x.2.1.xs).length=x.2.1.n:=by rw[zns_len];exact o2.len
   have z4:(bds x.2.2.2.1.xs).length=x.2.2.2.1.n:=by rw[bds_len];exact o4.len
   refine⟨?_,⟨⟨?_,?_,rfl,?_,?_,rfl⟩,⟨cts_of o1,?_,wts_of o3,?_⟩⟩,fun hf=>?_⟩
   ·simp only[vval];rw[o1.len,o3.len,z2,z4];rfl
   ·dsimp only;rw[o1.len];exact o1.rd
   ·dsimp only;rw[z2];exact⟨o2.len,o2.rd,fun p hp=>by obtain⟨_,_,h,_⟩:=o2.el p hp;exact⟨h.len,h.rd⟩⟩
   ·dsimp only;rw[o3.len];exact o3.rd
   ·dsimp only;rw[z4];exact⟨o4.len,o4.rd,fun p hp=>by obtain⟨_,_,h,_⟩:=o4.el p hp;exact h.rd,fun p hp=>by obtain⟨_,_,h,_⟩:=o4.el p hp;exact h.wf⟩
   ·intro y hy;obtain⟨p,hp,rfl⟩:=List.mem_map.1 hy;obtain⟨_,_,h,_⟩:=o2.el p hp;exact h.ct
   ·intro y hy;obtain⟨p,hp,rfl⟩:=List.mem_map.1 hy;obtain⟨_,_,h,_⟩:=o4.el p hp;exact h.ct
   ·have f1:=stamps_fit (hf.agg Tryz.underlying35 (j:=0) rfl rfl);have f2:=zones_fit (hf.agg Tryz.underlying35 (j:=1) rfl rfl);have f3:=writes_fit (hf.agg Tryz.underlying35 (j:=2) rfl rfl);have f4:=bodies_fit (hf.agg Tryz.underlying35 (j:=3) rfl rfl);rw[<-o1.cap] at f1;rw[<-o2.cap] at f2;rw[<-o3.cap] at f3;rw[<-o4.cap] at f4;have g1:=o1.rd.cap;have g2:=o2.rd.cap;have g3:=o3.rd.cap;have g4:=o4.rd.cap;have e1:=o1.len;have e3:=o3.len;refine⟨?_,⟨?_,fun p hp=>?_⟩,?_,?_,fun p hp=>?_⟩
    ·dsimp only;omega
    ·dsimp only;rw[z2];have:=f2.1;omega
    ·obtain⟨d',hd,_,h⟩:=o2.el p hp;exact h (f2.2 d' hd)
    ·dsimp only;omega
    ·dsimp only;rw[z4];have:=f4.1;omega
    ·obtain⟨d',hd,_,h⟩:=o4.el p hp;exact h (f4.2 d' hd))
theorem opens_subC:Opens enc Tryz.prog W 65 sbl (fun p d=>Rd W W.heap.size 2 p.1.A p.2.int.length p.1.c (sv p.2.int)/\(Fit Tryz.prog 65 d->p.2.int.length<=8796093022208)):=
 (Opens.struct (tot:=7) Tryz.underlying65 (by kernel_rfl) (OpensFs.cons (s:=1) rfl (by kernel_rfl) opens_int (OpensFs.cons (s:=1) rfl (by kernel_rfl) opens_spans (OpensFs.cons (s:=1) rfl (by kernel_rfl) opens_int (OpensFs.cons (s:=1) rfl (by kernel_rfl) opens_int (OpensFs.cons (s:=1) rfl (by kernel_rfl) opens_bool (OpensFs.cons (s:=1) rfl (by kernel_rfl) opens_bool (OpensFs.cons (s:=1) rfl (by kernel_rfl) opens_bool OpensFs.nil)))))))).mapg
  (fun x=>((⟨x.2.1.A,x.2.1.c⟩,⟨x.1,x.2.1.xs,x.2.2.1,x.2.2.2.1,x.2.2.2.2.1,x.2.2.2.2.2.1,x.2.2.2.2.2.2.1⟩):SV×Sb)) sbl _ (fun x d h=>by
   obtain⟨ds,rfl,d1,_,rfl,o1,d2,_,rfl,o2,_⟩:=h;refine⟨?_,?_,fun hf=>?_⟩
   ·simp only[sbl];rw[o2.len];rfl
   ·have:=o2.rd;rw[<-o2.len] at this;exact this
   ·have f:=spans_fit (hf.agg Tryz.underlying65 (j:=1) rfl rfl);rw[<-o2.cap] at f;have:=o2.rd.cap;have e:=o2.len;show x.2.1.xs.length<=_;omega)
theorem opens_subsC:Opens enc Tryz.prog W 36 slv (SlOk W 7 sbl (fun p d=>Rd W W.heap.size 2 p.1.A p.2.int.length p.1.c (sv p.2.int)/\(Fit Tryz.prog 65 d->p.2.int.length<=8796093022208))):=Opens.slice Tryz.underlying36 (by kernel_rfl) (by decide) opens_subC
theorem subs_ok {s:Sl (SV×Sb)} {d:DataW H} (ok:SlOk W 7 sbl (fun p d=>Rd W W.heap.size 2 p.1.A p.2.int.length p.1.c (sv p.2.int)/\(Fit Tryz.prog 65 d->p.2.int.length<=8796093022208)) s d):RdSb W W.heap.size s.A s.n s.c s.xs:=⟨ok.len,ok.rd,fun p hp=>by obtain⟨_,_,h,_⟩:=ok.el p hp;exact h⟩
structure SbB (n:Nat) (S:List (SV×Sb)):Prop where
 n:n<=2513169434843
 each:∀p∈S,p.2.int.length<=8796093022208
theorem subs_b {s:Sl (SV×Sb)} {d:DataW H} (ok:SlOk W 7 sbl (fun p d=>Rd W W.heap.size 2 p.1.A p.2.int.length p.1.c (sv p.2.int)/\(Fit Tryz.prog 65 d->p.2.int.length<=8796093022208)) s d) (hf:Fit Tryz.prog 36 d):SbB s.n s.xs:=by
 have f:=subs_fit hf;rw[<-ok.cap] at f;have g:=ok.rd.cap;exact⟨by have:=f.1;omega,fun p hp=>by obtain⟨d',hd,_,h⟩:=ok.el p hp;exact h (f.2 d' hd)⟩
structure EX where
 u:EV
 x:Ent
 L:List (ZV×Zn)
 M:List (BV×Wq.Bd)
 S:List (SV×Sb)
structure EntOk (W:World) (x:EX):Prop where
 rd:EntRd W W.heap.size x.u x.x x.L x.M x.S
 ct:Wq.EntC x.x
structure EntB (x:EX):Prop where
 n:NtB (x.u.nv,x.x.note)
 b:x.x.body.v.length<=140737488351232
 i:x.x.int.length<=8796093022208
 v:VwB ⟨x.u.vv,x.x.view,x.L,x.M⟩
 s:SbB x.x.subs.length x.S
theorem EntB.s1 {x:EX} (h:EntB x):x.u.nv.n1+x.u.nv.n2+x.u.nv.n3+x.u.nv.n4<=9223372036854775807:=by
 have h1:=h.n.n1;have h2:=h.n.n2;have h3:=h.n.n3;have h4:=h.n.n4;dsimp only at h1 h2 h3 h4;omega
theorem EntB.s2 {x:EX} (h:EntB x):x.x.view.known.length+x.x.view.zones.length+x.x.view.held.length+x.x.view.bods.length<=9223372036854775807:=by
 have h1:=h.v.k;have h2:=h.v.z.n;have h3:=h.v.h;have h4:=h.v.b;dsimp only at h1 h2 h3 h4;omega
theorem opens_entryC:Opens enc Tryz.prog W 38 (fun x:EX=>(eval x.x x.u).toList) (fun x d=>EntOk W x/\(Fit Tryz.prog 38 d->EntB x)):=
 (Opens.struct (tot:=17) Tryz.underlying38 (by kernel_rfl) (OpensFs.cons (s:=1) rfl (by kernel_rfl) opens_int (OpensFs.cons (s:=4) rfl (by kernel_rfl) opens_noteC (OpensFs.cons (s:=4) rfl (by kernel_rfl) opens_bodyC (OpensFs.cons (s:=1) rfl (by kernel_rfl) opens_int (OpensFs.cons (s:=1) rfl (by kernel_rfl) opens_spans (OpensFs.cons (s:=5) rfl (by kernel_rfl) opens_viewC (OpensFs.cons (s:=1) rfl (by kernel_rfl) opens_subsC OpensFs.nil)))))))).mapg
  (fun x=>(⟨⟨x.2.1.1,x.2.2.1.1.A,x.2.2.1.1.c,x.2.2.2.2.1.A,x.2.2.2.2.1.c,x.2.2.2.2.2.1.u,x.2.2.2.2.2.2.1.A,x.2.2.2.2.2.2.1.c⟩,⟨x.1,x.2.1.2,x.2.2.1.2,x.2.2.2.1,x.2.2.2.2.1.xs,x.2.2.2.2.2.1.v,sbs x.2.2.2.2.2.2.1.xs⟩,x.2.2.2.2.2.1.L,x.2.2.2.2.2.1.M,x.2.2.2.2.2.2.1.xs⟩:EX)) _ _ (fun x d h=>by
   obtain⟨ds,rfl,d1,_,rfl,o1,d2,_,rfl,o2,d3,_,rfl,o3,d4,_,rfl,o4,d5,_,rfl,o5,d6,_,rfl,o6,d7,_,rfl,o7,_⟩:=h;have z7:(sbs x.2.2.2.2.2.2.1.xs).length=x.2.2.2.2.2.2.1.n:=by rw[sbs_len];exact o7.len
   refine⟨?_,⟨⟨o2.1.rd,o3.1.rd,?_,o6.1.rd,?_,rfl⟩,⟨o2.1.cts,o3.1.ct,o6.1.ct.k,o6.1.ct.z,o6.1.ct.h,o6.1.ct.y⟩⟩,fun hf=>⟨o2.2 (hf.agg Tryz.underlying38 (j:=1) rfl rfl),o3.2 (hf.agg Tryz.underlying38 (j:=2) rfl rfl),?_,o6.2 (hf.agg Tryz.underlying38 (j:=5) rfl rfl),?_⟩⟩
   ·simp only[eval];rw[o5.len,z7];rfl
   ·dsimp only;rw[o5.len];exact o5.rd
   ·dsimp only;rw[z7];exact subs_ok o7
   ·have f:=spans_fit (hf.agg Tryz.underlying38 (j:=4) rfl rfl);rw[<-o5.cap] at f;have:=o5.rd.cap;have e:=o5.len;show x.2.2.2.2.1.xs.length<=_;omega
   ·dsimp only;rw[z7];exact subs_b o7 (hf.agg Tryz.underlying38 (j:=6) rfl rfl))
theorem open_viewC {r:Reach} {b0:Nat} {v:Value} {d:DataW H} {p:List MemPlace} (hv:Value.okWide Tryz.prog W r b0 35 v) (hT:DataW.Trod enc Tryz.prog W 0 (fun _=>true) true 35 v d p) (hf:Fit Tryz.prog 35 d):
  ∃(u:VV) (x:Vw) (L:List (ZV×Zn)) (M:List (BV×Wq.Bd)),v=.agg (vval x u)/\VwRd W W.heap.size u x L M/\VwK x/\VwB ⟨u,x,L,M⟩:=by
 obtain⟨q,rfl,ok,hB⟩:=opens_viewC.arg_agg Tryz.underlying35 hv hT;exact⟨q.u,q.v,q.L,q.M,rfl,ok.rd,ok.ct,hB hf⟩
theorem open_subsC {r:Reach} {b0:Nat} {v:Value} {d:DataW H} {p:List MemPlace} (hv:Value.okWide Tryz.prog W r b0 36 v) (hT:DataW.Trod enc Tryz.prog W 0 (fun _=>true) true 36 v d p) (hf:Fit Tryz.prog 36 d):
  ∃(A:Option Addr) (n c:Nat) (S:List (SV×Sb)),v=.slice A n c/\RdSb W W.heap.size A n c S/\SbB n S:=by
 obtain⟨s,rfl,ok⟩:=opens_subsC.arg_slice Tryz.underlying36 hv hT;exact⟨s.A,s.n,s.c,s.xs,rfl,subs_ok ok,subs_b ok hf⟩
end
theorem plain_of {nm:String} {k:FuncId} {fk:Func} (h1:Tryz.prog.funcNamed nm=some k) (h2:Tryz.prog.funcs[k]?=some fk) (h3:(fk.params.toList.all fun t=>!Tryz.prog.wantsStandIn t)=true) (h4:true=Tryz.pinned.checked.prog.looks [])
  (f:FuncId) (fn:Func) (hf:Tryz.pinned.checked.prog.funcNamed nm=some f) (hfn:Tryz.pinned.checked.prog.funcs[f]?=some fn):
  true=Tryz.pinned.checked.prog.looks []/\∀(j:Nat) t,fn.params[j]?=some t->Tryz.pinned.checked.prog.wantsStandIn t=false:=by
 obtain rfl:f=k:=(Option.some.inj (h1.symm.trans hf)).symm;obtain rfl:fn=fk:=(Option.some.inj (h2.symm.trans hfn)).symm;refine⟨h4,fun j t ht=>?_⟩;have:=List.all_eq_true.1 h3 t (by simpa using Array.mem_of_getElem? ht);show Tryz.prog.wantsStandIn t=false;simpa using this
end Go.Proofs.YtmbeahbgafkjfaaGreatDoor
namespace Go.Proofs.YtmbeahbgafkjfaaGreatDoor
open Go.RowKit
theorem entLay_any (A A2:Option Addr) (n c m c2:Nat) (l:List UInt8) (xs:List Int) (w:World) (hl:l.length=n) (hR:Rd w w.heap.size 1 A n c (bv l)) (hx:xs.length=m) (hR2:Rd w w.heap.size 1 A2 m c2 (iv xs))
  (hu:∀x∈xs,Wq.u63 x) (h0:0 < m) (hn:n+9 * m<=140737488355328):
  Calls Tryz.prog 27 #[.slice A n c,.slice A2 m c2] w fun e w'=>∃v,e=.returned v/\BytesAre w.heap.size w (l++layAll xs) v w':=by
 have hmax:m<=9223372036854775807:=by have h1:=hR2.cap;have h2:=hR2.max;unfold maxLen at h2;omega
 have HLA:=Hz_ (layAll_len);have HL:=Hz_ hl;have HX:=Hz_ hx;have HU:=Hz_ hu;have HR:=Hz_ hR;clear hl hu hR;go_enter Tryz.func27,Tryz.ntmps27;go_wp2;go_loopw [0,6,9] (fun v0 _ v9 wr=>∃(k N c':Nat) (A':Option Addr),v9=.int .i64 k/\v0=.slice A' N c'/\k<=m/\N<=n+9 * k/\Rd wr wr.heap.size 1 A' N c' (bv (l++layAll (xs.take k)))/\Below w.heap.size w wr /\
  Hid ((l++layAll (xs.take k)).length=N/\(0 < k->wr.ownsRow w.heap.size 5 1 (.slice A' N c') N (bv (l++layAll (xs.take k)))))) (fun _ _ v9 _=>m - (intOf v9).toNat)
 case atStart=>exact⟨0,n,c,A,rfl,rfl,by omega,by omega,by simpa[layAll] using HR.out,Below.refl _ _,by simp[layAll,HL.out],fun h=>absurd h (by omega)⟩
 case round=>
  obtain⟨k,N,c',A',rfl,rfl,hk,hN,hR1,hb,hq⟩:=hrel;have hbs:=hb.size;by_cases hlt:k < m
  ·have hkx:k < xs.length:=by rw[HX.out];exact hlt
   obtain⟨ad,u,rfl,hab,hu1,hc1⟩:=hR2.at_ hlt;rw[iv_at xs k hkx] at hu1;obtain⟨y,hy⟩:∃y:Nat,xs[k]=(y:Int):=⟨xs[k].toNat,by have:=(HU.out _ (List.getElem_mem hkx)).1;omega⟩;have hylt:y < 9223372036854775808:=by have:=(HU.out _ (List.getElem_mem hkx)).2;omega
   have hy9:=Pk.lay_len9 hylt;have ht:=layAll_take xs k hkx;rw[hy,Int.toNat_natCast] at ht;have HT:=Hz_ ht;rw[hy] at hu1;simp only[Option.some.injEq] at hu1;subst hu1;have q1:=(hb.cell (p:=ad.add k) (by rw[block_of_add];exact hab)).trans hc1;have G:=Hz_ (appendNumber_any A' N c' y (l++layAll (xs.take k)) wr hq.out.1 hR1 (by omega) hy9);have HY9:=Hz_ hy9;obtain⟨ly,hly⟩:∃ly,ly=(Pk.lay y).length:=⟨_,rfl⟩;rw[<-hly] at G hy9;have HLY:=Hz_ hly;clear hR1 ht hy hkx hylt hly hc1 hR2;go_wp2_with fail;refine G.out.mono ?_;rintro e w2 ⟨A2,c3,rfl,ho2,hb2⟩;go_wp2;go_roundw
   case rel=>
    have e1:l++layAll (xs.take (k+1))=l++layAll (xs.take k)++Pk.lay y:=by rw[HT.out,List.append_assoc]
    refine⟨k+1,N+ly,c3,A2,by go_num,rfl,by omega,by omega,by rw[e1];exact Rd.of_own ho2,btn hb hb2,?_,fun _=>?_⟩
    ·rw[e1,List.length_append,hq.out.1,HLY.out]
    ·rw[e1];exact own_less ho2 hbs
   case measure=>simp[intOf];omega
  ·obtain rfl:k=m:=by omega
   clear hR1 hR2;go_wp2;go_ret;have e0:xs.take k=xs:=List.take_of_length_le (by rw[HX.out];exact Nat.le_refl _);obtain⟨q1,q2⟩:=hq.out;have q3:=q2 h0;rw[e0] at q1 q3;exact⟨_,rfl,A',c',by rw[q1];rfl,by rw[q1];exact q3,hb⟩
theorem nIs {W:World} {xs:List Int} {m:Nat} (hm:xs.length=m) (h9:m<=9):Rd (W.alloc (.cells (iv xs).toArray 3)) (W.alloc (.cells (iv xs).toArray 3)).heap.size 1 (some ⟨W.heap.size,0,none⟩) m m (iv xs):=by
 rw[World.size_alloc];have:=Rd.new W 3 1 m (iv xs).toArray (by simp[iv,hm]) (by unfold maxLen;omega);simpa using this
theorem nIs1 {W:World} {x:Int} (_:Below W.heap.size W (W.alloc (.cells #[.int .i64 x] 3))):Rd (W.alloc (.cells #[.int .i64 x] 3)) (W.alloc (.cells #[.int .i64 x] 3)).heap.size 1 (some ⟨W.heap.size,0,none⟩) 1 1 (iv [x]):=nIs (xs:=[x]) rfl (by omega)
theorem nIs2 {W:World} {x y:Int} (_:Below W.heap.size W (W.alloc (.cells #[.int .i64 x,.int .i64 y] 3))):Rd (W.alloc (.cells #[.int .i64 x,.int .i64 y] 3)) (W.alloc (.cells #[.int .i64 x,.int .i64 y] 3)).heap.size 1 (some ⟨W.heap.size,0,none⟩) 2 2 (iv [x,y]):=nIs (xs:=[x,y]) rfl (by omega)
theorem nIs4 {W:World} {x y z t:Int} (_:Below W.heap.size W (W.alloc (.cells #[.int .i64 x,.int .i64 y,.int .i64 z,.int .i64 t] 3))):Rd (W.alloc (.cells #[.int .i64 x,.int .i64 y,.int .i64 z,.int .i64 t] 3)) (W.alloc (.cells #[.int .i64 x,.int .i64 y,.int .i64 z,.int .i64 t] 3)).heap.size 1 (some ⟨W.heap.size,0,none⟩) 4 4 (iv [x,y,z,t]):=nIs (xs:=[x,y,z,t]) rfl (by omega)
theorem flat_take {α:Type} (f:α->List UInt8) (l:List α) (k:Nat) (h:k < l.length):(l.take (k+1)).flatMap f=(l.take k).flatMap f++f l[k]:=by
 rw[List.take_succ_eq_append_getElem h,List.flatMap_append];simp
theorem one63 {x:Int} (h:Wq.u63 x):∀y∈[x],Wq.u63 y:=fun y hy=>by rw[List.mem_singleton] at hy;rw[hy];exact h
theorem two63 {x y:Int} (h:Wq.u63 x) (h2:Wq.u63 y):∀z∈[x,y],Wq.u63 z:=fun z hz=>by
 rcases List.mem_cons.1 hz with rfl | hz
 ·exact h
 ·exact one63 h2 z hz
theorem four63 {x y z t:Int} (h1:Wq.u63 x) (h2:Wq.u63 y) (h3:Wq.u63 z) (h4:Wq.u63 t):∀q∈[x,y,z,t],Wq.u63 q:=fun q hq=>by
 rcases List.mem_cons.1 hq with rfl | hq
 ·exact h1
 ·rcases List.mem_cons.1 hq with rfl | hq
  ·exact h2
  ·exact two63 h3 h4 q hq
theorem lB_len {x:Wq.Bd} (h:Wq.bdF x=true) (hc:x.s.1 < 9223372036854775808):(Wq.lB x).length<=300:=by
 obtain⟨a,b,c,d,e,f⟩:=(Wq.bdF_iff x).1 h;have h1:=u63_len (x:=x.o) ⟨by omega,by omega⟩;have h2:=u63_len (x:=x.s.1) ⟨by omega,by omega⟩;have h3:=u63_len (x:=x.s.2) ⟨by omega,by omega⟩;have h4:=Pk.lay_len9 (n:=x.v.length) (by omega);unfold Wq.lB Wq.lR;simp only[List.length_append];omega
theorem nat63 {n:Nat} (h:n<=256):Wq.u63 ((n:Nat):Int):=⟨by omega,by omega⟩
theorem entView_any (A:Option Addr) (n c:Nat) (l:List UInt8) (u:VV) (v:Vw) (L:List (ZV×Zn)) (M:List (BV×Wq.Bd)) (w:World) (hl:l.length=n) (hR:Rd w w.heap.size 1 A n c (bv l)) (hV:VwRd w w.heap.size u v L M) (hC:Wq.VwC v)
  (h1:v.zones.length<=256) (h2:v.held.length<=256) (h3:v.bods.length<=256) (hn:n<=1000):
  Calls Tryz.prog 31 #[.slice A n c,.agg (vval v u)] w fun e w'=>∃y,e=.returned y/\BytesAre w.heap.size w (l++lVw v) y w':=by
 obtain⟨ck,cz,ch,cb,cr⟩:=hC;obtain⟨kA,kc,zA,zc,hA,hc,vA,vc⟩:=u;obtain⟨known,zones,held,bods,rm⟩:=v;obtain⟨rk,rz,ez,rh,rb,eb⟩:=hV;dsimp only at ck cz ch cb cr rk rz ez rh rb eb h1 h2 h3;subst ez eb;rw[zns_len] at h1 rz;rw[bds_len] at h3 rb;unfold vval;dsimp only;rw[zns_len,bds_len];have hlv:lVw ⟨known,zns L,held,bds M,rm⟩=Wq.lV known++(layAll [(L.length:Int)]++((zns L).flatMap lZn++(layAll [(held.length:Int)]++(held.flatMap lHd++(layAll [(M.length:Int)]++((bds M).flatMap Wq.lB++layAll [rm])))))):=by
  unfold lVw layAll;simp[lI,zns_len,bds_len]
 rw[hlv];have hb0:Below w.heap.size w (w.alloc (.cells #[.slice kA known.length kc,.slice zA L.length zc,.slice hA held.length hc,.slice vA M.length vc,.int .i64 rm] 35)):=Zr.alloc Zl _;have hX:=Blk.new w 35 #[.slice kA known.length kc,.slice zA L.length zc,.slice hA held.length hc,.slice vA M.length vc,.int .i64 rm];generalize hW0:w.alloc (.cells #[.slice kA known.length kc,.slice zA L.length zc,.slice hA held.length hc,.slice vA M.length vc,.int .i64 rm] 35)=W0 at hb0 hX;have hs0:W0.heap.size=w.heap.size+1:=by rw[<-hW0];simp
 replace rk:=rk.go hb0;replace rz:=rz.go hb0;replace rh:=rh.go hb0;replace rb:=rb.go hb0;replace hR:=hR.go hb0;have HX:=Hz_ fun (W:World) (hb:Below W0.heap.size W0 W)=>(hX.go hb).five;have G1:=appendVec_any A kA n c known.length kc l known W0 hl hR rfl rk ck.1 ck.2 (by omega);obtain⟨b1,hb1⟩:∃x,x=l++Wq.lV known:=⟨_,rfl⟩;have n1:b1.length<=2200:=by have:=lV_len ck.1 ck.2;rw[hb1,List.length_append];omega
 rw[<-hb1] at G1;have G2:=fun (W:World) (A D:Option Addr) (c d:Nat) (h:Rd W W.heap.size 1 A b1.length c (bv b1)) (h2:Rd W W.heap.size 1 D 1 d (iv [(L.length:Int)]))=>entLay_any A D b1.length c 1 d b1 [(L.length:Int)] W rfl h rfl h2 (one63 (nat63 h1)) (by omega) (by omega);obtain⟨b2,hb2⟩:∃x,x=b1++layAll [(L.length:Int)]:=⟨_,rfl⟩;have n2:b2.length<=2300:=by have:=layAll_len _ (one63 (nat63 h1));rw[hb2,List.length_append];simp only[List.length_cons,List.length_nil] at this;omega
 rw[<-hb2] at G2;obtain⟨b3,hb3⟩:∃x,x=b2++(zns L).flatMap lZn:=⟨_,rfl⟩;have G3:=fun (W:World) (A D:Option Addr) (c d:Nat) (h:Rd W W.heap.size 1 A b3.length c (bv b3)) (h2':Rd W W.heap.size 1 D 1 d (iv [(held.length:Int)])) (hn:b3.length<=400000)=>entLay_any A D b3.length c 1 d b3 [(held.length:Int)] W rfl h rfl h2' (one63 (nat63 h2)) (by omega) (by omega);obtain⟨b4,hb4⟩:∃x,x=b3++layAll [(held.length:Int)]:=⟨_,rfl⟩;have n4:b4.length<=b3.length+9:=by have:=layAll_len _ (one63 (nat63 h2));rw[hb4,List.length_append];simp only[List.length_cons,List.length_nil] at this;omega
 rw[<-hb4] at G3;obtain⟨b5,hb5⟩:∃x,x=b4++held.flatMap lHd:=⟨_,rfl⟩;have G4:=fun (W:World) (A D:Option Addr) (c d:Nat) (h:Rd W W.heap.size 1 A b5.length c (bv b5)) (h2':Rd W W.heap.size 1 D 1 d (iv [(M.length:Int)])) (hn:b5.length<=500000)=>entLay_any A D b5.length c 1 d b5 [(M.length:Int)] W rfl h rfl h2' (one63 (nat63 h3)) (by omega) (by omega);obtain⟨b6,hb6⟩:∃x,x=b5++layAll [(M.length:Int)]:=⟨_,rfl⟩;have n6:b6.length<=b5.length+9:=by have:=layAll_len _ (one63 (nat63 h3));rw[hb6,List.length_append];simp only[List.length_cons,List.length_nil] at this;omega
 rw[<-hb6] at G4;obtain⟨b7,hb7⟩:∃x,x=b6++(bds M).flatMap Wq.lB:=⟨_,rfl⟩;have G5:=fun (W:World) (A D:Option Addr) (c d:Nat) (h:Rd W W.heap.size 1 A b7.length c (bv b7)) (h2':Rd W W.heap.size 1 D 1 d (iv [rm])) (hn:b7.length<=700000)=>entLay_any A D b7.length c 1 d b7 [rm] W rfl h rfl h2' (one63 cr) (by omega) (by omega);obtain⟨b8,hb8⟩:∃x,x=b7++layAll [rm]:=⟨_,rfl⟩;rw[<-hb8] at G5;have HE:=Hz_ (show l++(Wq.lV known++(layAll [(L.length:Int)]++((zns L).flatMap lZn++(layAll [(held.length:Int)]++(held.flatMap lHd++(layAll [(M.length:Int)]++((bds M).flatMap Wq.lB++layAll [rm])))))))=b8 by rw[hb8,hb7,hb6,hb5,hb4,hb3,hb2,hb1];simp only[List.append_assoc]);have HB3:=Hz_ hb3;have HB5:=Hz_ hb5;have HB7:=Hz_ hb7
 -- the rounds
 have GZ:=Hz_ fun (W:World) (hb:Below W0.heap.size W0 W) (j:Nat) (hj:j < L.length)=>(rz.go hb).zone hj;have GH:=Hz_ fun (W:World) (hb:Below W0.heap.size W0 W) (j:Nat) (hj:j < held.length)=>(rh.go hb).write rfl hj;have GB:=Hz_ fun (W:World) (hb:Below W0.heap.size W0 W) (j:Nat) (hj:j < M.length)=>(rb.go hb).body hj;have EZ:=Hz_ fun (W:World) (hb:Below W0.heap.size W0 W) (j:Nat) (hj:j < L.length)=>(rz.go hb).each _ (List.getElem_mem hj);have EB:=Hz_ fun (W:World) (hb:Below W0.heap.size W0 W) (j:Nat) (hj:j < M.length)=>(rb.go hb).each _ (List.getElem_mem hj);have CZ:=Hz_ fun (j:Nat) (hj:j < L.length)=>(show Wq.znC L[j].2 from cz.2 _ (List.mem_map_of_mem (List.getElem_mem hj)));have CH:=Hz_ fun (j:Nat) (hj:j < held.length)=>(show Wq.hdC held[j] from ch.2 _ (List.getElem_mem hj));have CB:=Hz_ fun (j:Nat) (hj:j < M.length)=>(show Wq.bdF M[j].2=true/\M[j].2.s.1 < 9223372036854775808 from cb.2 _ (List.mem_map_of_mem (List.getElem_mem hj)));have TZ:=Hz_ fun (j:Nat) (hj:j < L.length)=>(show b2++((zns L).take (j+1)).flatMap lZn=(b2++((zns L).take j).flatMap lZn)++layAll [L[j].2.1.1,L[j].2.1.2]++Wq.lV L[j].2.2 by
  rw[flat_take _ _ j (by rw[zns_len];exact hj),zns_at L j hj];simp[lZn,lI,layAll])
 have TH:=Hz_ fun (j:Nat) (hj:j < held.length)=>(show b4++(held.take (j+1)).flatMap lHd=(b4++(held.take j).flatMap lHd)++layAll [held[j].2.1,held[j].1.2,held[j].1.1,if held[j].2.2=true then 1 else 0] by
  rw[flat_take _ _ j hj];simp[lHd,lI,layAll])
 have TB:=Hz_ fun (j:Nat) (hj:j < M.length)=>(show b6++((bds M).take (j+1)).flatMap Wq.lB=(b6++((bds M).take j).flatMap Wq.lB)++Wq.lB M[j].2 by
  rw[flat_take _ _ j (by rw[bds_len];exact hj),bds_at M j hj];simp)
 have AZ:=Hz_ (show b2++((zns L).take L.length).flatMap lZn=b3 by rw[hb3,List.take_of_length_le (by rw[zns_len];exact Nat.le_refl _)]);have AH:=Hz_ (show b4++(held.take held.length).flatMap lHd=b5 by rw[hb5,List.take_length]);have AB:=Hz_ (show b6++((bds M).take M.length).flatMap Wq.lB=b7 by rw[hb7,List.take_of_length_le (by rw[bds_len];exact Nat.le_refl _)]);clear hb8 hb3 hb4 hb5 hb6 hb7 hb1 hb2 rk rz rh rb hR ck cz ch cb cr hlv hX hl;generalize hnk:known.length=nk at HX G1 hW0 ⊢;obtain⟨nz,hnz⟩:∃x,x=L.length:=⟨_,rfl⟩;obtain⟨nh,hnh⟩:∃x,x=held.length:=⟨_,rfl⟩;obtain⟨nb,hnb⟩:∃x,x=M.length:=⟨_,rfl⟩;rw[<-hnz] at HX G2 h1 AZ hW0 HE ⊢;rw[<-hnh] at HX G3 h2 AH hW0 HE ⊢;rw[<-hnb] at HX G4 h3 AB hW0 HE ⊢;have NZ:=Hz_ hnz;have NH:=Hz_ hnh;have NB:=Hz_ hnb;have G1:=Hz_ G1;have G2:=Hz_ G2;have G3:=Hz_ G3;have G4:=Hz_ G4;have G5:=Hz_ G5;have HW0:=Hz_ hW0;have HB0:=Hz_ hb0;clear hb0 hW0 hnk hnz hnh hnb;obtain⟨q0,q1,q2,q3,q4⟩:=HX.out _ Zr;go_enter Tryz.func31,Tryz.ntmps31;go_upto_region 1 with fail;rw[HW0.out];go_wp2_with fail;refine G1.out.mono ?_;rintro e w1 ⟨_,rfl,D,d,rfl,ho,kw⟩;have E:=Hz_ ho;clear ho;clear q0 q1 q2 q3 q4;obtain⟨q0,q1,q2,q3,q4⟩:=HX.out _ kw;have hb':=then_alloc kw (.cells #[.int .i64 nz] 3);have NW:=Hz_ (nIs1 hb');have E:=Hz_ (own_below E.out hb' Zl);have kw:=btn kw hb';clear hb';go_wp2_with fail;refine(G2.out _ _ _ _ _ (Rd.of_own E.out) NW.out).mono ?_;rintro e w2 ⟨_,rfl,D2,d2,rfl,ho,hb'⟩;have E2:=Hz_ (own_less ho kw.size);have kw:=btn kw hb';clear ho hb' NW E G1 G2;clear q0 q1 q2 q3 q4;obtain⟨q0,q1,q2,q3,q4⟩:=HX.out _ kw;have K2:=Hz_ kw;clear kw;go_wp2_with fail;go_loopw [0,6,28] (fun v0 _ v28 wr=>∃(j N c':Nat) (A':Option Addr),v28=.int .i64 j/\v0=.slice A' N c'/\j<=nz/\N<=2300+1200 * j/\Hid (wr.ownsRow W0.heap.size 5 1 (.slice A' N c') N (bv (b2++((zns L).take j).flatMap lZn)))/\Hid ((b2++((zns L).take j).flatMap lZn).length=N)/\Below W0.heap.size W0 wr) (fun _ _ v28 _=>nz - (intOf v28).toNat)
 case atStart=>exact⟨0,b2.length,d2,D2,rfl,rfl,by omega,by omega,by show World.ownsRow _ _ _ _ _ _ _;simpa using E2.out,by show _=_;simp,K2.out⟩
 case round=>
  obtain⟨j,N,c',A',rfl,rfl,hj,hN,ho,hq,hb⟩:=hrel;have hbs:=hb.size;clear q0 q1 q2 q3 q4;by_cases hlt:j < nz
  ·have hjl:j < L.length:=by rw[<-NZ.out];exact hlt
   obtain⟨bb,oo,rfl,hbb,g0,g1,g2⟩:=GZ.out wr hb j hjl;have ht:=TZ.out j hjl;obtain⟨lx,hlx⟩:∃x,x=b2++((zns L).take j).flatMap lZn:=⟨_,rfl⟩;have hlN:lx.length=N:=by rw[hlx];exact hq.out
   rw[<-hlx] at ht;have E0:=Hz_ (show wr.ownsRow W0.heap.size 5 1 (.slice A' N c') N (bv lx) by rw[hlx];exact ho.out);have cz:=CZ.out j hjl;have ez:=fun W hb=>EZ.out W hb j hjl;clear hlx;obtain⟨⟨⟨aA,an,ac⟩,⟨lo,hi⟩,vec⟩,hpx⟩:∃p,p=L[j]:=⟨_,rfl⟩;rw[<-hpx] at g0 g1 g2 cz ez ht;clear hpx;dsimp only at g0 g1 g2 cz ez ht;have hb9:Below wr.heap.size wr (wr.alloc (.cells #[.int .i64 lo,.int .i64 hi,.slice aA an ac] 129)):=Zr.alloc Zl _;have hX9:=Blk.new wr 129 #[.int .i64 lo,.int .i64 hi,.slice aA an ac];have ho9:=own_below E0.out hb9 Zl;have kw:=btn hb hb9;have E:=Hz_ ho9;clear ho9 hb9 ho;generalize hV9:wr.alloc (.cells #[.int .i64 lo,.int .i64 hi,.slice aA an ac] 129)=V9 at hX9 kw E;have HV9:=Hz_ hV9;have ez9:=ez V9 kw;have HS:=Hz_ fun (W:World) (hb:Below V9.heap.size V9 W)=>(show W.cell? ⟨wr.heap.size,0,none⟩=some (.int .i64 lo)/\W.cell? ⟨wr.heap.size,1,none⟩=some (.int .i64 hi)/\W.cell? ⟨wr.heap.size,2,none⟩=some (.slice aA an ac) from ⟨(hX9.go hb).cell 0,(hX9.go hb).cell 1,(hX9.go hb).cell 2⟩);have GY1:=fun (W:World) (A D:Option Addr) (c d:Nat) (h:Rd W W.heap.size 1 A lx.length c (bv lx)) (h2:Rd W W.heap.size 1 D 2 d (iv [lo,hi]))=>entLay_any A D lx.length c 2 d lx [lo,hi] W rfl h rfl h2 (two63 cz.1.1 cz.1.2) (by omega) (by omega);obtain⟨ly,hly⟩:∃x,x=lx++layAll [lo,hi]:=⟨_,rfl⟩;have n9:ly.length<=N+18:=by have:=layAll_len _ (two63 cz.1.1 cz.1.2);rw[hly,List.length_append];simp only[List.length_cons,List.length_nil] at this;omega
   rw[<-hly] at GY1 ht;have GY2:=fun (W:World) (hb:Below V9.heap.size V9 W) (A:Option Addr) (c:Nat) (h:Rd W W.heap.size 1 A ly.length c (bv ly))=>appendVec_any A aA ly.length c an ac ly vec W rfl h ez9.1 (ez9.2.go hb) cz.2.1 cz.2.2 (by omega);obtain⟨lz,hlz⟩:∃x,x=ly++Wq.lV vec:=⟨_,rfl⟩;have HZL:=Hz_ (show lz.length<=N+1200 by have:=lV_len cz.2.1 cz.2.2;dsimp only at this;rw[hlz,List.length_append];omega);rw[<-hlz] at GY2 ht;have HT:=Hz_ ht;have E:=Hz_ (show V9.ownsRow W0.heap.size 5 1 (.slice A' lx.length c') lx.length (bv lx) by rw[hlN];exact E.out);rw[hlN] at GY1 E;have GY1:=Hz_ GY1;have GY2:=Hz_ GY2;obtain⟨r0,r1,r2⟩:=HS.out _ Zr;have k9:Below V9.heap.size V9 V9:=Below.refl _ _;have HHB:=Hz_ hb;clear hV9 ez9 hX9 ez cz ht hly hlz hlN hq hb;go_wp2_with fail;rw[HV9.out];clear g0 g1 g2 r0 r1 r2;go_upto_region 6 with fail;have kw:=kw.drew;have k9:=k9.drew;have E:=Hz_ (show (V9.drew).ownsRow W0.heap.size 5 1 (.slice A' N c') N (bv lx) from E.out);refine region_nrm fun KK hKK=>?_;refine wp_region_held_drew (S:=(fun W=>W.cell? ⟨wr.heap.size,0,none⟩=some (.int .i64 lo)/\W.cell? ⟨wr.heap.size,1,none⟩=some (.int .i64 hi)/\W.cell? ⟨wr.heap.size,2,none⟩=some (.slice aA an ac))) (by kernel_rfl) (by first | exact HS.out _ k9) (fun hHeld=>?_);refine puA 0 33 (HS.out _ k9) ?_;refine puA 1 34 (HS.out _ k9) ?_;refine puA 2 35 (HS.out _ k9) ?_;refine puA 3 36 (HS.out _ k9) ?_;refine puA 4 37 (HS.out _ k9) ?_;refine puA 5 38 (HS.out _ k9) ?_;refine puA 6 39 (HS.out _ k9) ?_;refine puA 9 42 (HS.out _ k9) ?_;refine puA 10 43 (HS.out _ k9) ?_;refine puR 7 fun K hK=>?_;go_simp;have hb':=then_alloc kw (.cells #[.int .i64 lo,.int .i64 hi] 3);have NW:=Hz_ (nIs2 hb');have E:=Hz_ (own_below E.out hb' Zl);have kw:=btn kw hb';have k9:=btn k9 hb';clear hb';refine hK.out _ _ (HS.out _ k9) fun hHeld=>?_;clear hK K;refine puR 8 fun K hK=>?_;go_simp;refine(GY1.out _ _ _ _ _ (Rd.of_own E.out) NW.out).mono ?_;rintro e W1 ⟨_,rfl,D3,d3,rfl,ho1,hb'⟩;have E:=Hz_ (own_less ho1 kw.size);have kw:=btn kw hb';have k9:=btn k9 hb';clear ho1 hb' NW;refine hK.out _ _ (HS.out _ k9) fun hHeld=>?_;clear hK K;refine puR 11 fun K hK=>?_;go_simp;refine(GY2.out _ k9 _ _ (Rd.of_own E.out)).mono ?_;rintro e W2 ⟨_,rfl,D4,d4,rfl,ho1,hb'⟩;have E:=Hz_ (own_less ho1 kw.size);have kw:=btn kw hb';have k9:=btn k9 hb';clear ho1 hb';refine hK.out _ _ (HS.out _ k9) fun hHeld=>?_;clear hK K;refine puA 12 32 (HS.out _ k9) ?_;refine puA 13 45 (HS.out _ k9) ?_;refine puA 14 46 (HS.out _ k9) ?_;refine puA 15 0 (HS.out _ k9) ?_;refine wpAnyH_done (by kernel_rfl) ?_ _;refine Nrm.out (hKK _ _ ?_);clear hHeld;go_wp2_with fail;go_roundw
   case rel=>
    refine⟨j+1,lz.length,d4,D4,by go_num,rfl,by omega,by have:=HZL.out;omega,?_,?_,kw⟩
    ·show World.ownsRow _ _ _ _ _ _ _;rw[HT.out];exact E.out
    ·show _=_;rw[HT.out]
   case measure=>simp[intOf];omega
  ·obtain rfl:nz=j:=by omega
   have q9:=hq.out;have E1:=Hz_ ho.out;rw[AZ.out] at q9;have E:=Hz_ (show wr.ownsRow W0.heap.size 5 1 (.slice A' b3.length c') b3.length (bv b3) by have h:=E1.out;rw[AZ.out] at h;rw[q9];exact h);clear E1;subst q9;have kw:=hb;clear hq ho hbs hb;obtain⟨q0,q1,q2,q3,q4⟩:=HX.out _ kw;have hb':=then_alloc kw (.cells #[.int .i64 nh] 3);have NW:=Hz_ (nIs1 hb');have E:=Hz_ (own_below E.out hb' Zl);have kw:=btn kw hb';clear hb';go_wp2_with fail;refine(G3.out _ _ _ _ _ (Rd.of_own E.out) NW.out (by omega)).mono ?_;rintro e w3 ⟨_,rfl,D2,d2,rfl,ho,hb'⟩;have E2:=Hz_ (own_less ho kw.size);have kw:=btn kw hb';clear ho hb' NW E;clear q0 q1 q2 q3 q4;obtain⟨q0,q1,q2,q3,q4⟩:=HX.out _ kw;have K2:=Hz_ kw;clear kw;go_wp2_with fail;go_loopw [0,8,9,57] (fun v0 _ _ v57 wr=>∃(j N c':Nat) (A':Option Addr),v57=.int .i64 j/\v0=.slice A' N c'/\j<=nh/\N<=b4.length+40 * j/\Hid (wr.ownsRow W0.heap.size 5 1 (.slice A' N c') N (bv (b4++(held.take j).flatMap lHd)))/\Hid ((b4++(held.take j).flatMap lHd).length=N)/\Below W0.heap.size W0 wr) (fun _ _ _ v57 _=>nh - (intOf v57).toNat)
   case atStart=>exact⟨0,b4.length,d2,D2,rfl,rfl,by omega,by omega,by show World.ownsRow _ _ _ _ _ _ _;simpa using E2.out,by show _=_;simp,K2.out⟩
   case round=>
    obtain⟨j,N,c',A',rfl,rfl,hj,hN,ho,hq,hb⟩:=hrel;have hbs:=hb.size;clear q0 q1 q2 q3 q4;by_cases hlt:j < nh
    ·have hjl:j < held.length:=by rw[<-NH.out];exact hlt
     obtain⟨bb,oo,rfl,hbb,g0,g1,g2,g3⟩:=GH.out wr hb j hjl;have ht:=TH.out j hjl;obtain⟨lx,hlx⟩:∃x,x=b4++(held.take j).flatMap lHd:=⟨_,rfl⟩;have hlN:lx.length=N:=by rw[hlx];exact hq.out
     rw[<-hlx] at ht;have E0:=Hz_ (show wr.ownsRow W0.heap.size 5 1 (.slice A' N c') N (bv lx) by rw[hlx];exact ho.out);have ch:=CH.out j hjl;clear hlx;obtain⟨⟨⟨sc,sn⟩,ob,gn⟩,hpx⟩:∃p,p=held[j]:=⟨_,rfl⟩;rw[<-hpx] at g0 g1 g2 g3 ch ht;clear hpx;dsimp only at g0 g1 g2 g3 ch ht;have hb9:Below wr.heap.size wr (wr.alloc (.cells #[.int .i64 sc,.int .i64 sn,.int .i64 ob,.bool gn] 70)):=Zr.alloc Zl _;have hX9:=Blk.new wr 70 #[.int .i64 sc,.int .i64 sn,.int .i64 ob,.bool gn];have E:=Hz_ (own_below E0.out hb9 Zl);have kw:=btn hb hb9;clear hb9 ho;generalize hV9:wr.alloc (.cells #[.int .i64 sc,.int .i64 sn,.int .i64 ob,.bool gn] 70)=V9 at hX9 kw E;have HV9:=Hz_ hV9;obtain⟨gi,hgi⟩:∃x:Int,x=if gn=true then 1 else 0:=⟨_,rfl⟩;rw[<-hgi] at ht;have ug:Wq.u63 gi:=by rw[hgi];exact Wq.u63_g gn
     have GY:=fun (W:World) (A D:Option Addr) (c d:Nat) (h:Rd W W.heap.size 1 A lx.length c (bv lx)) (h2:Rd W W.heap.size 1 D 4 d (iv [ob,sn,sc,gi]))=>entLay_any A D lx.length c 4 d lx [ob,sn,sc,gi] W rfl h rfl h2 (four63 ch.1 ch.2.1 ch.2.2 ug) (by omega) (by omega);obtain⟨lz,hlz⟩:∃x,x=lx++layAll [ob,sn,sc,gi]:=⟨_,rfl⟩;have HZL:=Hz_ (show lz.length<=N+40 by have:=layAll_len _ (four63 ch.1 ch.2.1 ch.2.2 ug);rw[hlz,List.length_append];simp only[List.length_cons,List.length_nil] at this;omega);rw[<-hlz] at GY ht;have HT:=Hz_ ht;rw[hlN] at GY;have GY:=Hz_ GY;obtain⟨r0,r1,r2,r3⟩:=hX9.quad;have hb':=then_alloc kw (.cells #[.int .i64 ob,.int .i64 sn,.int .i64 sc,.int .i64 gi] 3);have NW:=Hz_ (nIs4 hb');have E:=Hz_ (own_below E.out hb' Zl);have kw:=btn kw hb';clear hb' hV9 hX9 ch ht hlz hlN hq hb ug;cases gn
     all_goals
      first | obtain rfl:gi=0:=hgi | obtain rfl:gi=1:=hgi
      go_upto_region 12 with fail;rw[HV9.out];go_wp2_with fail;refine(GY.out _ _ _ _ _ (Rd.of_own E.out) NW.out).mono ?_;rintro e w5 ⟨_,rfl,D4,d4,rfl,ho1,hb'⟩;have E:=Hz_ (own_less ho1 kw.size);have kw:=btn kw hb';clear ho1 hb' NW;go_wp2_with fail;go_roundw
      case rel=>
       refine⟨j+1,lz.length,d4,D4,by go_num,rfl,by omega,by have:=HZL.out;omega,?_,?_,kw⟩
       ·show World.ownsRow _ _ _ _ _ _ _;rw[HT.out];exact E.out
       ·show _=_;rw[HT.out]
      case measure=>simp[intOf];omega
    ·obtain rfl:nh=j:=by omega
     have q9:=hq.out;have E1:=Hz_ ho.out;rw[AH.out] at q9;have E:=Hz_ (show wr.ownsRow W0.heap.size 5 1 (.slice A' b5.length c') b5.length (bv b5) by have h:=E1.out;rw[AH.out] at h;rw[q9];exact h);clear E1;subst q9;have kw:=hb;clear hq ho hbs hb;obtain⟨q0,q1,q2,q3,q4⟩:=HX.out _ kw;have hb':=then_alloc kw (.cells #[.int .i64 nb] 3);have NW:=Hz_ (nIs1 hb');have E:=Hz_ (own_below E.out hb' Zl);have kw:=btn kw hb';clear hb';go_wp2_with fail;refine(G4.out _ _ _ _ _ (Rd.of_own E.out) NW.out (by omega)).mono ?_;rintro e w6 ⟨_,rfl,D2,d2,rfl,ho,hb'⟩;have E2:=Hz_ (own_less ho kw.size);have kw:=btn kw hb';clear ho hb' NW E;clear q0 q1 q2 q3 q4;obtain⟨q0,q1,q2,q3,q4⟩:=HX.out _ kw;have K2:=Hz_ kw;clear kw;go_wp2_with fail;go_loopw [0,11,85] (fun v0 _ v85 wr=>∃(j N c':Nat) (A':Option Addr),v85=.int .i64 j/\v0=.slice A' N c'/\j<=nb/\N<=b6.length+300 * j/\Hid (wr.ownsRow W0.heap.size 5 1 (.slice A' N c') N (bv (b6++((bds M).take j).flatMap Wq.lB)))/\Hid ((b6++((bds M).take j).flatMap Wq.lB).length=N)/\Below W0.heap.size W0 wr) (fun _ _ v85 _=>nb - (intOf v85).toNat)
     case atStart=>exact⟨0,b6.length,d2,D2,rfl,rfl,by omega,by omega,by show World.ownsRow _ _ _ _ _ _ _;simpa using E2.out,by show _=_;simp,K2.out⟩
     case round=>
      obtain⟨j,N,c',A',rfl,rfl,hj,hN,ho,hq,hb⟩:=hrel;have hbs:=hb.size;clear q0 q1 q2 q3 q4;by_cases hlt:j < nb
      ·have hjl:j < M.length:=by rw[<-NB.out];exact hlt
       obtain⟨bb,oo,rfl,hbb,g0,g1,g2,g3⟩:=GB.out wr hb j hjl;have ht:=TB.out j hjl;obtain⟨lx,hlx⟩:∃x,x=b6++((bds M).take j).flatMap Wq.lB:=⟨_,rfl⟩;have hlN:lx.length=N:=by rw[hlx];exact hq.out
       rw[<-hlx] at ht;have E0:=Hz_ (show wr.ownsRow W0.heap.size 5 1 (.slice A' N c') N (bv lx) by rw[hlx];exact ho.out);have cb:=CB.out j hjl;have eb:=fun W hb=>EB.out W hb j hjl;clear hlx;obtain⟨⟨⟨xA,xc⟩,⟨o_,⟨a_,b_⟩,xv⟩⟩,hpx⟩:∃p,p=M[j]:=⟨_,rfl⟩;rw[<-hpx] at g0 g1 g2 g3 cb eb ht;clear hpx;dsimp only at g0 g1 g2 g3 cb eb ht;have hb9:Below wr.heap.size wr (wr.alloc (.cells #[.int .i64 o_,.int .i64 a_,.int .i64 b_,.slice xA xv.length xc] 31)):=Zr.alloc Zl _;have hX9:=Blk.new wr 31 #[.int .i64 o_,.int .i64 a_,.int .i64 b_,.slice xA xv.length xc];have E:=Hz_ (own_below E0.out hb9 Zl);have kw:=btn hb hb9;clear hb9 ho;generalize hV9:wr.alloc (.cells #[.int .i64 o_,.int .i64 a_,.int .i64 b_,.slice xA xv.length xc] 31)=V9 at hX9 kw E;have eb9:=eb V9 kw;have E:=Hz_ (show V9.ownsRow W0.heap.size 5 1 (.slice A' lx.length c') lx.length (bv lx) by rw[hlN];exact E.out);have GY:=appendBody_any A' lx.length c' lx ⟨o_,(a_,b_),xv⟩ xA xc V9 rfl (Rd.of_own E.out) eb9 cb.1 cb.2 (by omega);unfold bval at GY;dsimp only at GY;obtain⟨lz,hlz⟩:∃x,x=lx++Wq.lB ⟨o_,(a_,b_),xv⟩:=⟨_,rfl⟩;have HZL:=Hz_ (show lz.length<=N+300 by have:=lB_len cb.1 cb.2;rw[hlz,List.length_append];omega);rw[<-hlz] at GY ht;have HT:=Hz_ ht;rw[hlN] at GY;obtain⟨xn,hxn⟩:∃x,x=xv.length:=⟨_,rfl⟩;rw[<-hxn] at GY g3 hX9 hV9;have HV9:=Hz_ hV9;have GY:=Hz_ GY;obtain⟨r0,r1,r2,r3⟩:=hX9.quad;clear hV9 hX9 cb eb eb9 ht hlz hlN hq hb hxn E;go_upto_region 21 with fail;rw[HV9.out];go_wp2_with fail;refine GY.out.mono ?_;rintro e w7 ⟨_,rfl,D4,d4,rfl,ho1,hb'⟩;have E:=Hz_ (own_less ho1 kw.size);have kw:=btn kw hb';clear ho1 hb';go_wp2_with fail;go_roundw
       case rel=>
        refine⟨j+1,lz.length,d4,D4,by go_num,rfl,by omega,by have:=HZL.out;omega,?_,?_,kw⟩
        ·show World.ownsRow _ _ _ _ _ _ _;rw[HT.out];exact E.out
        ·show _=_;rw[HT.out]
       case measure=>simp[intOf];omega
      ·obtain rfl:nb=j:=by omega
       have q9:=hq.out;have E1:=Hz_ ho.out;rw[AB.out] at q9;have E:=Hz_ (show wr.ownsRow W0.heap.size 5 1 (.slice A' b7.length c') b7.length (bv b7) by have h:=E1.out;rw[AB.out] at h;rw[q9];exact h);clear E1;subst q9;have kw:=hb;clear hq ho hbs hb;obtain⟨q0,q1,q2,q3,q4⟩:=HX.out _ kw;have hb':=then_alloc kw (.cells #[.int .i64 rm] 3);have NW:=Hz_ (nIs1 hb');have E:=Hz_ (own_below E.out hb' Zl);have kw:=btn kw hb';clear hb';go_wp2_with fail;refine(G5.out _ _ _ _ _ (Rd.of_own E.out) NW.out (by omega)).mono ?_;rintro e w8 ⟨_,rfl,D2,d2,rfl,ho,hb'⟩;have E2:=Hz_ (own_less ho kw.size);have kw:=btn kw hb';clear ho hb' NW E;clear q0 q1 q2 q3 q4;go_wp2;go_ret;refine⟨_,rfl,?_⟩;rw[HE.out];exact⟨D2,d2,rfl,own_less E2.out (by have:=HB0.out.size;omega),btn HB0.out kw⟩
end Go.Proofs.YtmbeahbgafkjfaaGreatDoor
