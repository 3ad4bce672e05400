/- Lemmas for the claim, layer 45. -/
import Derived.Test.YtmbeahbgafkjfaaGreatDoorKc44
set_option maxRecDepth 100000
namespace Go.Proofs.YtmbeahbgafkjfaaGreatDoor
open Go.ChangeShapes Go.WideShapes Go.ChangeAt Go.RowKit
structure EntSz (x:Ent):Prop where
 c:x.body.s.1 < 9223372036854775808
 s1:x.note.s.length+x.note.e.length+x.note.b.length+x.note.w.length<=9223372036854775807
 s2:x.view.known.length+x.view.zones.length+x.view.held.length+x.view.bods.length<=9223372036854775807
theorem EntSz.to {x:Ent} {u:EV} {w:World} {B:Nat} {L:List (ZV×Zn)} {M:List (BV×Wq.Bd)} {S:List (SV×Sb)} (h:EntSz x) (hE:EntRd w B u x L M S):PlySz u x:=
 ⟨h.c,by rw[<-hE.nt.l1,<-hE.nt.l2,<-hE.nt.l3,<-hE.nt.l4];exact h.s1,h.s2⟩
theorem chk_sz {v:Vw} {t:List Sb} (hv:vwF v=true):EntSz (chk v t):=by
 obtain⟨a,b,c⟩:=vw_lens hv;have d:=Wq.fm_len ((vwF_iff _).1 hv).k;refine⟨(show (0:Int) < 9223372036854775808 by decide),(show 0+0+0+0<=9223372036854775807 by decide),?_⟩;show v.known.length+v.zones.length+v.held.length+v.bods.length<=_;omega
def IsN (w:World) (B:Nat) (E:Array Value) (x:Ent):Prop:=∃u,E=eval x u/\EntR w B u x
theorem IsN.go {w w':World} {E:Array Value} {x:Ent} (h:IsN w w.heap.size E x) (hb:Below w.heap.size w w'):IsN w' w'.heap.size E x:=by
 obtain⟨u,e,h⟩:=h;exact⟨u,e,h.go hb⟩
theorem IsN.info {w:World} {B:Nat} {E:Array Value} {x:Ent} (h:IsN w B E x):(Tryz.prog.info? 38).map (·.size)=some E.size:=by
 obtain⟨u,rfl,_⟩:=h;kernel_rfl
theorem IsN.one {w:World} {B:Nat} {E:Array Value} {x:Ent} (h:IsN w B E x):E.all (·.oneCell')=true:=by
 obtain⟨u,rfl,_⟩:=h;simp[eval,Value.oneCell']
theorem IsN.size {w:World} {B:Nat} {E:Array Value} {x:Ent} (h:IsN w B E x):17=E.size:=by
 obtain⟨u,rfl,_⟩:=h;rfl
def IsV (w:World) (B:Nat) (E:Array Value) (v:Vw):Prop:=∃u L M,E=vval v u/\VwRd w B u v L M
theorem IsV.go {w w':World} {E:Array Value} {v:Vw} (h:IsV w w.heap.size E v) (hb:Below w.heap.size w w'):IsV w' w'.heap.size E v:=by
 obtain⟨u,L,M,e,h⟩:=h;exact⟨u,L,M,e,h.go hb⟩
theorem IsV.info {w:World} {B:Nat} {E:Array Value} {v:Vw} (h:IsV w B E v):(Tryz.prog.info? 35).map (·.size)=some E.size:=by
 obtain⟨u,L,M,rfl,_⟩:=h;kernel_rfl
theorem IsV.one {w:World} {B:Nat} {E:Array Value} {v:Vw} (h:IsV w B E v):E.all (·.oneCell')=true:=by
 obtain⟨u,L,M,rfl,_⟩:=h;simp[vval,Value.oneCell']
theorem IsV.size {w:World} {B:Nat} {E:Array Value} {v:Vw} (h:IsV w B E v):5=E.size:=by
 obtain⟨u,L,M,rfl,_⟩:=h;rfl
def IsT (w:World) (B:Nat) (A:Option Addr) (n c:Nat) (T:List Sb):Prop:=∃S,RdSb w B A n c S/\sbs S=T
theorem IsT.go {w w':World} {A:Option Addr} {n c:Nat} {T:List Sb} (h:IsT w w.heap.size A n c T) (hb:Below w.heap.size w w'):IsT w' w'.heap.size A n c T:=by
 obtain⟨S,h,e⟩:=h;exact⟨S,h.go hb,e⟩
def PlyI (w:World) (V:Vw) (T:List Sb) (x:Ent) (e:Ending) (w':World):Prop:=∃VA A c,e=.returned (.tuple #[.agg VA,.slice A (playS V T x).length c,.int .i64 (playE V T x)])/\IsV w' w'.heap.size VA (playV V T x)/\IsT w' w'.heap.size A (playS V T x).length c (playS V T x)/\Below w.heap.size w w'
theorem play_is {w:World} (hT:Tab w) {VA:Array Value} {V:Vw} (hV:IsV w w.heap.size VA V) {A:Option Addr} {n c:Nat} {T:List Sb} (hS:IsT w w.heap.size A n c T) {E:Array Value} {x:Ent} (hE:IsN w w.heap.size E x) (hz:EntSz x):
  Calls Tryz.prog 20 #[.agg VA,.slice A n c,.agg E] w (PlyI w V T x):=by
 obtain⟨u,L,M,rfl,hV⟩:=hV;obtain⟨S,hS,rfl⟩:=hS;obtain⟨ue,rfl,L2,M2,S2,hE⟩:=hE;refine(play_any u V L M A n c S ue x w hT hV hS ⟨L2,M2,S2,hE⟩ (hz.to hE)).mono ?_;rintro e w' ⟨u',A',c',rfl,⟨L',M',hr⟩,h2,h3⟩;exact⟨_,A',c',rfl,⟨u',L',M',rfl,hr⟩,h2,h3⟩
theorem DecE.is {w w':World} {l:List UInt8} {e:Ending} {x:Ent} (hd:Wq.decE l=some x) (h:DecE l w e w'):∃E,e=.returned (.tuple #[.agg E,.int .i64 0])/\IsN w' w'.heap.size E x/\Below w.heap.size w w':=by
 obtain⟨u,h1,h2,h3⟩:=DecE.some_ hd h;exact⟨_,h1,⟨u,rfl,h2⟩,h3⟩
/-! ### Entries as an argument -/
def ecv (Q:List EX):List Value:=Q.flatMap fun x=>(eval x.x x.u).toList
theorem ecv_at (Q:List EX) (k:Nat) (h:k < Q.length) (j:Nat) (hj:j < 17):(ecv Q)[k * 17+j]?=(eval Q[k].x Q[k].u).toList[j]?:=flat_at (fun x:EX=>(eval x.x x.u).toList) 17 (by decide) Q (fun _ _=>rfl) k h j hj
structure RdE (w:World) (A:Option Addr) (n c:Nat) (Q:List EX):Prop where
 len:Q.length=n
 rd:Rd w w.heap.size 17 A n c (ecv Q)
 each:∀x∈Q,EntRd w w.heap.size x.u x.x x.L x.M x.S
theorem RdE.go {w w':World} {A:Option Addr} {n c:Nat} {Q:List EX} (h:RdE w A n c Q) (hb:Below w.heap.size w w'):RdE w' A n c Q:=⟨h.len,h.rd.go hb,fun x hx=>(h.each x hx).go hb⟩
theorem RdE.at {w:World} {A:Option Addr} {n c k:Nat} {Q:List EX} (h:RdE w A n c Q) (hk:k < Q.length):∃b o,A=some ⟨b,o,none⟩/\b < w.heap.size/\w.rangeAt b (o+k * 17) (eval Q[k].x Q[k].u).toList:=by
 obtain⟨b,o,rfl,hb,hc⟩:=h.rd.plain (by have:=h.len;omega) (by decide);refine⟨b,o,rfl,hb,fun j v hv=>?_⟩;have hj:j < 17:=by
  rcases Nat.lt_or_ge j (eval Q[k].x Q[k].u).toList.length with q | q
  ·exact q
  ·rw[List.getElem?_eq_none q] at hv;cases hv
 rw[Nat.add_assoc];exact hc (k * 17+j) v (by rw[ecv_at Q k hk j hj];exact hv)
structure EntsK (Q:List EX):Prop where
 ct:∀x∈Q,Wq.EntC x.x
 sz:∀x∈Q,EntSz x.x
section
variable {H:Type} {enc:TypeId×Value->H} {W:World}
theorem entries_fit {d:DataW H} (hf:Fit Tryz.prog 58 d):∀d'∈elemsOf d,Fit Tryz.prog 38 d':=(hf.slice Tryz.underlying58).2
theorem opens_entriesC:Opens enc Tryz.prog W 58 slv (SlOk W 17 (fun x:EX=>(eval x.x x.u).toList) (fun x d=>EntOk W x/\(Fit Tryz.prog 38 d->EntB x))):=Opens.slice Tryz.underlying58 (by kernel_rfl) (by decide) opens_entryC
theorem open_entriesC {r:Reach} {b0:Nat} {v:Value} {d:DataW H} {p:List MemPlace} (hv:Value.okWide Tryz.prog W r b0 58 v) (hT:DataW.Trod enc Tryz.prog W 0 (fun _=>true) true 58 v d p) (hf:Fit Tryz.prog 58 d):
  ∃(A:Option Addr) (n c:Nat) (Q:List EX),v=.slice A n c/\RdE W A n c Q/\EntsK Q:=by
 obtain⟨s,rfl,ok⟩:=opens_entriesC.arg_slice Tryz.underlying58 hv hT;have ff:=entries_fit hf;refine⟨s.A,s.n,s.c,s.xs,rfl,⟨ok.len,ok.rd,fun x hx=>?_⟩,⟨fun x hx=>?_,fun x hx=>?_⟩⟩
 ·obtain⟨_,_,h,_⟩:=ok.el x hx;exact h.rd
 ·obtain⟨_,_,h,_⟩:=ok.el x hx;exact h.ct
 ·obtain⟨d',hd,h,hB⟩:=ok.el x hx;have hB:=hB (ff d' hd);exact⟨h.ct.b,by rw[h.rd.nt.l1,h.rd.nt.l2,h.rd.nt.l3,h.rd.nt.l4];exact hB.s1,hB.s2⟩
end
end Go.Proofs.YtmbeahbgafkjfaaGreatDoor
namespace Go.Proofs.YtmbeahbgafkjfaaGreatDoor
open Go.RowKit
def x0E:Ent:=⟨0,Wq.ntz,Wq.bdz,0,[],Wq.vw0,[]⟩
def u0E:EV:=⟨⟨none,0,0,none,0,0,none,0,0,none,0,0⟩,none,0,none,0,⟨none,0,none,0,none,0,none,0⟩,none,0⟩
theorem VwOwn.nil (w:World) (base:Nat):VwOwn w base ⟨none,0,none,0,none,0,none,0⟩ Wq.vw0 [] []:=⟨World.ownsRow_nil _ _ _ _,OwnZ.nil _ _,rfl,World.ownsRow_nil _ _ _ _,OwnBd.nil _ _,rfl⟩
theorem NtOwn.nil (w:World) (base:Nat):NtOwn w base ⟨none,0,0,none,0,0,none,0,0,none,0,0⟩ Wq.ntz:=⟨rfl,World.ownsRow_nil _ _ _ _,rfl,World.ownsRow_nil _ _ _ _,rfl,World.ownsRow_nil _ _ _ _,rfl,World.ownsRow_nil _ _ _ _⟩
theorem dec_start (w:World) (A:Option Addr) (c:Nat) (l:List UInt8) (hR:Rd w w.heap.size 1 A l.length c (bv l)) (hn:l.length<=4294967296):
  ES w (((w.alloc (.cells entZ 38)).alloc (.cells #[.int .i64 0] 40)).alloc (.cells #[.slice A l.length c] 86)) w.heap.size l u0E x0E [] [] []:=by
 have h1:Below w.heap.size w (w.alloc (.cells entZ 38)):=Zr.alloc Zl _;have h2:Below w.heap.size w ((w.alloc (.cells entZ 38)).alloc (.cells #[.int .i64 0] 40)):=h1.alloc (by simp) _;have h3:=h2.alloc (by simp;omega) (.cells #[.slice A l.length c] 86);have b1:=((Blk.new w 38 entZ).alloc (.cells #[.int .i64 0] 40)).alloc (.cells #[.slice A l.length c] 86);have b2:=(Blk.new (w.alloc (.cells entZ 38)) 40 #[.int .i64 0]).alloc (.cells #[.slice A l.length c] 86);have b3:=Blk.new ((w.alloc (.cells entZ 38)).alloc (.cells #[.int .i64 0] 40)) 86 #[.slice A l.length c];rw[World.size_alloc] at b2;rw[World.size_alloc,World.size_alloc] at b3;exact⟨⟨b1,NtOwn.nil _ _,World.ownsRow_nil _ _ _ _,World.ownsRow_nil _ _ _ _,VwOwn.nil _ _,OwnSb.nil _ _,rfl⟩,b2,⟨⟨A,c,b3,hR.below h3⟩,by omega,hn⟩,h3,rfl⟩
theorem run_build_sub (w:World) (f:Int) (A:Option Addr) (n c:Nat):
  (Instr.build 65 #[(0,.int .i64 f),(1,.slice A n c)]).run Tryz.prog w=.ok (.agg #[.int .i64 f,.slice A n c,.int .i64 0,.int .i64 0,.bool false,.bool false,.bool false]) w:=by kernel_rfl
theorem run_row_sub (w:World) (f:Int) (A:Option Addr) (n c:Nat):
  (Instr.buildSlice 36 1 #[(0,.agg #[.int .i64 f,.slice A n c,.int .i64 0,.int .i64 0,.bool false,.bool false,.bool false])]).run Tryz.prog w=.ok (.slice (some ⟨w.heap.size,0,none⟩) 1 1) (w.alloc (.cells #[.int .i64 f,.slice A n c,.int .i64 0,.int .i64 0,.bool false,.bool false,.bool false] 65)):=by kernel_rfl
theorem run_op_sub {o:Oper} {a:Act} {w:World} {x y:Operand} {f:Int} {A:Option Addr} {n c:Nat} (ho:o.op=.build 65 #[(0,x),(1,y)]) (hx:a.eval x=.int .i64 f) (hy:a.eval y=.slice A n c):
  (execOp a.eval o).run Tryz.prog w=.ok (.value (.agg #[.int .i64 f,.slice A n c,.int .i64 0,.int .i64 0,.bool false,.bool false,.bool false])) w:=by
 unfold execOp;simp only[ho,List.map_toArray,List.map_cons,List.map_nil,hx,hy,Sem.run_bind,run_build_sub,Result.andThen_ok,Sem.run_pure]
theorem wp_op_sub {o:Oper} {a:Act} {w:World} {K:Act->World->Prop} {Q:Exit->Act->World->Prop} {x:Operand} {f:Int} {A:Option Addr} {n c:Nat} (ho:o.op=.buildSlice 36 1 #[(0,x)]) (hx:a.eval x=.agg #[.int .i64 f,.slice A n c,.int .i64 0,.int .i64 0,.bool false,.bool false,.bool false])
  (h:K (a.put o.dst (.slice (some ⟨w.heap.size,0,none⟩) 1 1)) (w.alloc (.cells #[.int .i64 f,.slice A n c,.int .i64 0,.int .i64 0,.bool false,.bool false,.bool false] 65))):o.wp Tryz.prog a w K Q:=by
 unfold Oper.wp execOp;simp only[ho,List.map_toArray,List.map_cons,List.map_nil,hx,Sem.run_bind,run_row_sub,Result.andThen_ok,Sem.run_pure];exact h
theorem run_load_blk {P:Program} {o:Oper} {a:Act} {w:World} (ty:TypeId) (x:Operand) (ho:o.op=.load ty x) (g:Nat) (hx:a.eval x=.pointer (some ⟨g,0,none⟩)) (t:TypeId) (cs:Array Value) (d:TypeDesc)
  (hg:Blk w g t cs) (hu:P.underlying ty=some d) (hd:(match d with | .struct _ | .array _ _=>true | _=>false)=true) (hi:(P.info? ty).map (·.size)=some cs.size):
  (execOp a.eval o).run P w=.ok (.value (.agg cs)) w:=by
 unfold execOp;simp only[ho,hx,Instr.loadAt,Instr.sureAddr,Sem.run_bind,Sem.run_pure,Result.andThen_ok,run_loadVar_row w g t ty cs (0,0) d hg hu hd hi]
theorem wpList_load_rowg {P:Program} {ops:Array Oper} {rest:List Oper} {o:Oper} {a:Act} {w:World} {Q:Exit->Act->World->Prop} (hw:Region.wanted o (yielded ops a.tmps)=true) (ty:TypeId) (x:Operand) (ho:o.op=.load ty x)
  (g:Nat) (hx:a.eval x=.pointer (some ⟨g,0,none⟩)) (t:TypeId) (cs:Array Value) (d:TypeDesc) (hg:Blk w g t cs)
  (hu:P.underlying ty=some d) (hd:(match d with | .struct _ | .array _ _=>true | _=>false)=true) (hi:(P.info? ty).map (·.size)=some cs.size)
  (h:wpList P ops Q rest (a.put o.dst (.agg cs)) w):wpList P ops Q (o :: rest) a w:=
 wpList_step fun K hK=>by
  rw[if_pos hw];exact wp_load_row ty x ho g hx t cs (0,0) d hg hu hd hi (hK _ _ h)
end Go.Proofs.YtmbeahbgafkjfaaGreatDoor
