/- Lemmas for the claim, layer 45. -/
import Derived.Test.YtmbeahbgafkjfaaGreatDoorKb35
import Derived.Test.YtmbeahbgafkjfaaGreatDoorKb44
set_option maxRecDepth 100000
set_option maxHeartbeats 16000000
namespace Go.Proofs.YtmbeahbgafkjfaaGreatDoor
open Go.RowKit
def gu0 (r:Bool):List PanicEntry:=[{ v:=.iface 82 (.agg #[]),recovered:=r }]
def entZ:Array Value:=#[.int .i64 0,.slice none 0 0,.slice none 0 0,.slice none 0 0,.slice none 0 0,.int .i64 0,.int .i64 0,.int .i64 0,.slice none 0 0,.int .i64 0,.slice none 0 0,.slice none 0 0,.slice none 0 0,.slice none 0 0,.slice none 0 0,.int .i64 0,.slice none 0 0]
theorem assert_no (w:World):(Instr.typeAssert .nilIface 20 82 true).run Tryz.prog w=.ok (.tuple #[.agg #[],.bool false]) w:=rfl
theorem assert_yes (w:World):(Instr.typeAssert (.iface 82 (.agg #[])) 20 82 true).run Tryz.prog w=.ok (.tuple #[.agg #[],.bool true]) w:=rfl
theorem catch_idle (p q:Addr) (w:World):
  CallsD Tryz.prog 47 #[.pointer (some p),.pointer (some q)] .returning w fun e u' w'=>e=.returned (.tuple #[])∧u'=.returning∧Below w.heap.size w w':=by
 refine callsD_of_wpS Tryz.func47 rfl fun c₀ cs hu=>?_
 apply wpS_seq
 apply wpS_region
 simp[wpOpsS,go_sem,recoverD,hu,Tryz.ntmps47,Exit.thenS,assert_no]
 apply wpS_seq
 apply wpS_region
 simp[wpOpsS,go_sem,Exit.thenS]
 refine wpS_cond (t:=false) (by simp[Act.eval,Array.replicate]) ?_
 simp only[Bool.false_eq_true,if_false]
 refine wpS_of_wp (wp_skip ?_)
 cases c₀
 simp_all [bodyPostS,results,Tryz.results47]
 exact(Below.refl _ _).alloc (Nat.le_refl _) _
theorem catch_panic (X Y:Nat) (c17:Array Value) (ev:Value) (w:World) (hX:Blk w X 38 c17) (hs:c17.size=17) (hY:Blk w Y 40 #[ev]) (hne:X≠Y):
  CallsD Tryz.prog 47 #[.pointer (some ⟨X,0,none⟩),.pointer (some ⟨Y,0,none⟩)] (.panicking (gu0 false)) w fun e u' w'=>e=.returned (.tuple #[])∧u'=.panicking (gu0 true)∧Blk w' X 38 entZ∧Blk w' Y 40 #[.int .i64 4]∧∀B,B≤X→B≤Y→B≤w.heap.size→Below B w w':=by
 refine callsD_of_wpS Tryz.func47 rfl fun c₀ cs hu=>?_
 apply wpS_seq
 apply wpS_region
 unfold gu0 at hu
 simp[wpOpsS,go_sem,recoverD,hu,Tryz.ntmps47,Exit.thenS,assert_yes]
 apply wpS_seq
 apply wpS_region
 simp[wpOpsS,go_sem,Exit.thenS]
 refine wpS_cond (t:=true) (by simp[Act.eval,Array.replicate]) ?_
 simp only[if_true]
 refine wpS_of_wp ?_
 have hi:(Tryz.prog.info? 38).map (·.size)=some entZ.size:=by kernel_rfl
 have hw0:Below w.heap.size w (w.alloc (.cells #[] 82)):=(Below.refl _ _).alloc (Nat.le_refl _) _
 have hX':=hX.go hw0
 have hY':=hY.go hw0
 have hs':c17.size=entZ.size:=hs
 have HI:=Hz_ hi
 have HS:=Hz_ hs'
 clear hi hs hs'
 go_wp2_with (refine wpList_store_blk rfl 38 _ _ rfl X 38 _ entZ rfl rfl hX' HI.out HS.out (by simp[entZ,Value.oneCell']) ?_;intro Wc hblk hg;have hY2:=hY'.grown hg (by intro e;injection e with e;exact hne e.symm);have c0:=hY2.cell 0;have f0:=hY2.frozen 0)
 refine⟨rfl,_,rfl,.tuple #[],by simp[results,Tryz.results47],rfl,rfl,hblk.far (p:=⟨Y,0,none⟩) hne _,hY2.set_ 0 _,fun B h1 h2 h3=>?_⟩
 exact((hw0.mono h3).trans (grown_below hg (Nat.le_trans h3 hw0.size) (fun k hk=>by injection hk with hk;subst hk;exact h1))).setCell (p:=⟨Y,0,none⟩) h2 _
theorem res_cc {P:Program} {fn:Func} {p q:Tmp} {ty ty2:TypeId} (h:fn.results=#[.cell p ty,.cell q ty2]) (tmps:Array Value) (w:World) (g g2:Nat) (t t2:TypeId) (cs:Array Value) (z:Value) (fr fr2:Nat×Nat) (d d2:TypeDesc)
  (hp:tmps.getD p undef=.pointer (some ⟨g,0,none⟩)) (hg:w.heap[g]?=some (.cells cs t fr))
  (hu:P.underlying ty=some d) (hd:(match d with | .struct _ | .array _ _=>true | _=>false)=true) (hi:(P.info? ty).map (·.size)=some cs.size)
  (hq:tmps.getD q undef=.pointer (some ⟨g2,0,none⟩)) (hg2:w.heap[g2]?=some (.cells #[z] t2 fr2))
  (hu2:P.underlying ty2=some d2) (hd2:(match d2 with | .struct _ | .array _ _=>true | _=>false)=false):
  (results fn tmps).run P w=.ok (.tuple #[.agg cs,z]) w:=by
 have hp':tmps[p]?.getD undef=.pointer (some ⟨g,0,none⟩):=by simpa using hp
 have hq':tmps[q]?.getD undef=.pointer (some ⟨g2,0,none⟩):=by simpa using hq
 have hc:w.cell? ⟨g2,0,none⟩=some z:=by rw[cell_of_row w g2 0 #[z] t2 fr2 hg2];rfl
 have hagg:(isAgg ty2).run P w=.ok false w:=by
  unfold isAgg
  rw[Sem.run_bind,run_underlying hu2 w]
  cases d2<;>simp_all
 have hl:(loadVar ty2 ⟨g2,0,none⟩).run P w=.ok z w:=by
  simp[loadVar,Sem.run_bind,hagg,go_sem,hc]
 simp[results,h,hp',hq',asAddr,run_loadVar_row w g t ty cs fr d hg hu hd hi,hl]
def PncA (K:Act→World→Prop) (R:List PanicEntry→World→Prop) (D:List Deferred) (v2 v3:Value):Exit→Act→World→Prop
 | .normal,a,w=>K a w
 | .panic c,a,w=>(a.defers=D∧a.tmps.getD 2 undef=v2∧a.tmps.getD 3 undef=v3)∧R c w
 | _,_,_=>False
theorem PncA.out {K:Act→World→Prop} {R:List PanicEntry→World→Prop} {D:List Deferred} {v2 v3:Value} {a:Act} {w:World} (h:K a w):PncA K R D v2 v3 .normal a w:=h
theorem PncA.put {K:Act→World→Prop} {R:List PanicEntry→World→Prop} {D:List Deferred} {v2 v3 v:Value} {d:Nat} (h2:d≠2) (h3:d≠3) {c:List PanicEntry} {a:Act} {w:World} (h:PncA K R D v2 v3 (.panic c) (a.put (some d) v) w):PncA K R D v2 v3 (.panic c) a w:=by
 obtain⟨⟨a1,a2,a3⟩,a4⟩:=h
 refine⟨⟨a1,?_,?_⟩,a4⟩
 ·rw[←a2]
  simp[Act.put,Array.getD_eq_getD_getElem?,h2]
 ·rw[←a3]
  simp[Act.put,Array.getD_eq_getD_getElem?,h3]
theorem region_pnca {P:Program} {id:Nat} {ops:Array Oper} {d:Bool} {Q:Exit→Act→World→Prop} {a:Act} {w:World} (D:List Deferred) (v2 v3:Value)
  (h:∀(K:Act→World→Prop) (R:List PanicEntry→World→Prop),(∀a w,Q .normal a w→K a w)→(∀c w,(∀a,a.defers=D→a.tmps.getD 2 undef=v2→a.tmps.getD 3 undef=v3→Q (.panic c) a w)→R c w)→(Code.region id ops d).wp P (PncA K R D v2 v3) a w):(Code.region id ops d).wp P Q a w:=by
 refine Code.wp_mono (Q:=PncA (fun a w=>Q .normal a w) (fun c w=>∀a,a.defers=D→a.tmps.getD 2 undef=v2→a.tmps.getD 3 undef=v3→Q (.panic c) a w) D v2 v3) (fun e a w hh=>?_) (h (fun a w=>Q .normal a w) (fun c w=>∀a,a.defers=D→a.tmps.getD 2 undef=v2→a.tmps.getD 3 undef=v3→Q (.panic c) a w) (fun _ _ hh=>hh) (fun _ _ hh=>hh))
 cases e with
 | normal=>exact hh
 | panic c=>exact hh.2 a hh.1.1 hh.1.2.1 hh.1.2.2
 | _=>exact False.elim hh
structure EC (W:World) (X base:Nat) (u:EV) (x:Ent) (L:List (ZV×Zn)) (M:List (BV×Wq.Bd)) (S:List (SV×Sb)):Prop where
 blk:Blk W X 38 (eval x u)
 nt:NtOwn W base u.nv x.note
 bd:W.ownsRow base 5 1 (.slice u.bA x.body.v.length u.bc) x.body.v.length (bv x.body.v)
 it:W.ownsRow base 63 2 (.slice u.iA x.int.length u.ic) x.int.length (sv x.int)
 vw:VwOwn W base u.vv x.view L M
 sb:OwnSb W base u.sA x.subs.length u.sc S
 ns:sbs S=x.subs
theorem NtOwn.kp {w w':World} {base:Nat} {t:TypeId} {v:NV} {n:Nt} (h:NtOwn w base v n) (k:Kp t w w') (h1:28≠t) (h2:63≠t) (h3:70≠t):NtOwn w' base v n:=
 ⟨h.l1,k _ _ _ _ _ _ h1 h.o1,h.l2,k _ _ _ _ _ _ h1 h.o2,h.l3,k _ _ _ _ _ _ h2 h.o3,h.l4,k _ _ _ _ _ _ h3 h.o4⟩
theorem OwnSb.kp {w w':World} {base k c:Nat} {t:TypeId} {A:Option Addr} {S:List (SV×Sb)} (h:OwnSb w base A k c S) (q:Kp t w w') (h1:65≠t) (h2:63≠t):OwnSb w' base A k c S:=
 ⟨q _ _ _ _ _ _ h1 h.row,fun p hp=>q _ _ _ _ _ _ h2 (h.el p hp)⟩
structure ES (w W:World) (X:Nat) (cur:List UInt8) (u:EV) (x:Ent) (L:List (ZV×Zn)) (M:List (BV×Wq.Bd)) (S:List (SV×Sb)):Prop extends EC W X (X+3) u x L M S where
 err:Blk W (X+1) 40 #[.int .i64 0]
 tr:TR W (X+2) X cur
 out:Below X w W
 hX:X=w.heap.size
theorem But.grown {g:Nat} {W W':World} (hg:W.grownBy W' (some g)):But g W W':=⟨hg.os,hg.tape,hg.output,hg.size,fun k hk hn=>hg.block k hk (fun e=>hn (Option.some.inj e))⟩
theorem VwOwn.row_ {W W':World} {L:List (ZV×Zn)} {M:List (BV×Wq.Bd)} {base b size n:Nat} {e:TypeId} {t:Value} {xs:List Value} {z:VV} {v:Vw} (h:VwOwn W base z v L M) (ho:W.ownsRow b e size t n xs) (h1:28≠e) (h2:129≠e) (h3:70≠e) (h4:31≠e) (h5:5≠e) (hg:W.grownBy W' t.ownBlock):VwOwn W' base z v L M:=
 ⟨h.k.kept hg (own_two h.k ho h1),h.z.row_ ho h2 h1 hg,h.nz,h.h.kept hg (own_two h.h ho h3),h.b.row_ ho h4 h5 hg,h.nb⟩
section
variable {W W':World} {X base g:Nat} {u:EV} {x:Ent} {L:List (ZV×Zn)} {M:List (BV×Wq.Bd)} {S:List (SV×Sb)}
theorem EC.call (h:EC W X base u x L M S) (hb:But g W W') (h1:X≠g) (h2:g < base):EC W' X base u x L M S:=
 ⟨h.blk.but hb h1,h.nt.but hb h2,own_but h.bd hb h2,own_but h.it hb h2,h.vw.but hb h2,h.sb.but hb h2,h.ns⟩
theorem EC.grow (h:EC W X base u x L M S) (hb:Below W.heap.size W W'):EC W' X base u x L M S:=
 ⟨h.blk.go hb,h.nt.below hb,own_below h.bd hb (Nat.le_refl _),own_below h.it hb (Nat.le_refl _),h.vw.below hb,h.sb.below hb,h.ns⟩
theorem EC.put {u':EV} {x':Ent} (h:EC W X base u x L M S) (hu:But X W W') (hblk:Blk W' X 38 (eval x' u'))
  (hn:NtOwn W base u'.nv x'.note) (hb:W.ownsRow base 5 1 (.slice u'.bA x'.body.v.length u'.bc) x'.body.v.length (bv x'.body.v)) (hi:W.ownsRow base 63 2 (.slice u'.iA x'.int.length u'.ic) x'.int.length (sv x'.int))
  {L':List (ZV×Zn)} {M':List (BV×Wq.Bd)} (hv:VwOwn W base u'.vv x'.view L' M') {S':List (SV×Sb)} (hs:OwnSb W base u'.sA x'.subs.length u'.sc S') (hns:sbs S'=x'.subs):But X W W'∧EC W' X base u' x' L' M' S':=
 have k:=Kp.blk h.blk hu
 ⟨hu,hblk,hn.kp k (by decide) (by decide) (by decide),k _ _ _ _ _ _ (by decide) hb,k _ _ _ _ _ _ (by decide) hi,hv.kp k (by decide) (by decide) (by decide) (by decide) (by decide),hs.kp k (by decide) (by decide),hns⟩
theorem EC.kind_ (h:EC W X base u x L M S) (k:Int):But X W (W.setCell ⟨X,0,none⟩ (.int .i64 k))∧EC (W.setCell ⟨X,0,none⟩ (.int .i64 k)) X base ⟨u.nv,u.bA,u.bc,u.iA,u.ic,u.vv,u.sA,u.sc⟩ ⟨k,x.note,x.body,x.from_,x.int,x.view,x.subs⟩ L M S:=
 h.put (u':=⟨u.nv,u.bA,u.bc,u.iA,u.ic,u.vv,u.sA,u.sc⟩) (x':=⟨k,x.note,x.body,x.from_,x.int,x.view,x.subs⟩) (But.set_ (g:=X) W (p:=⟨X,0,none⟩) rfl _) (h.blk.set_ 0 (.int .i64 k)) h.nt h.bd h.it h.vw h.sb h.ns
theorem EC.note_ (h:EC W X base u x L M S) {v:NV} {n:Nt} (hn:NtOwn W base v n):But X W ((((W.setCell ⟨X,1,none⟩ (.slice v.A1 v.n1 v.c1)).setCell ⟨X,2,none⟩ (.slice v.A2 v.n2 v.c2)).setCell ⟨X,3,none⟩ (.slice v.A3 v.n3 v.c3)).setCell ⟨X,4,none⟩ (.slice v.A4 v.n4 v.c4))∧EC ((((W.setCell ⟨X,1,none⟩ (.slice v.A1 v.n1 v.c1)).setCell ⟨X,2,none⟩ (.slice v.A2 v.n2 v.c2)).setCell ⟨X,3,none⟩ (.slice v.A3 v.n3 v.c3)).setCell ⟨X,4,none⟩ (.slice v.A4 v.n4 v.c4)) X base ⟨v,u.bA,u.bc,u.iA,u.ic,u.vv,u.sA,u.sc⟩ ⟨x.kind,n,x.body,x.from_,x.int,x.view,x.subs⟩ L M S:=
 h.put (u':=⟨v,u.bA,u.bc,u.iA,u.ic,u.vv,u.sA,u.sc⟩) (x':=⟨x.kind,n,x.body,x.from_,x.int,x.view,x.subs⟩) ((((But.set_ (g:=X) W (p:=⟨X,1,none⟩) rfl _).trans (But.set_ (g:=X) _ (p:=⟨X,2,none⟩) rfl _)).trans (But.set_ (g:=X) _ (p:=⟨X,3,none⟩) rfl _)).trans (But.set_ (g:=X) _ (p:=⟨X,4,none⟩) rfl _)) ((((h.blk.set_ 1 (.slice v.A1 v.n1 v.c1)).set_ 2 (.slice v.A2 v.n2 v.c2)).set_ 3 (.slice v.A3 v.n3 v.c3)).set_ 4 (.slice v.A4 v.n4 v.c4)) hn h.bd h.it h.vw h.sb h.ns
theorem EC.body_ (h:EC W X base u x L M S) {b:Wq.Bd} {A:Option Addr} {c:Nat} (hb:W.ownsRow base 5 1 (.slice A b.v.length c) b.v.length (bv b.v)):But X W ((((W.setCell ⟨X,5,none⟩ (.int .i64 b.o)).setCell ⟨X,6,none⟩ (.int .i64 b.s.1)).setCell ⟨X,7,none⟩ (.int .i64 b.s.2)).setCell ⟨X,8,none⟩ (.slice A b.v.length c))∧EC ((((W.setCell ⟨X,5,none⟩ (.int .i64 b.o)).setCell ⟨X,6,none⟩ (.int .i64 b.s.1)).setCell ⟨X,7,none⟩ (.int .i64 b.s.2)).setCell ⟨X,8,none⟩ (.slice A b.v.length c)) X base ⟨u.nv,A,c,u.iA,u.ic,u.vv,u.sA,u.sc⟩ ⟨x.kind,x.note,b,x.from_,x.int,x.view,x.subs⟩ L M S:=
 h.put (u':=⟨u.nv,A,c,u.iA,u.ic,u.vv,u.sA,u.sc⟩) (x':=⟨x.kind,x.note,b,x.from_,x.int,x.view,x.subs⟩) ((((But.set_ (g:=X) W (p:=⟨X,5,none⟩) rfl _).trans (But.set_ (g:=X) _ (p:=⟨X,6,none⟩) rfl _)).trans (But.set_ (g:=X) _ (p:=⟨X,7,none⟩) rfl _)).trans (But.set_ (g:=X) _ (p:=⟨X,8,none⟩) rfl _)) ((((h.blk.set_ 5 (.int .i64 b.o)).set_ 6 (.int .i64 b.s.1)).set_ 7 (.int .i64 b.s.2)).set_ 8 (.slice A b.v.length c)) h.nt hb h.it h.vw h.sb h.ns
theorem EC.frm_ (h:EC W X base u x L M S) (f:Int):But X W (W.setCell ⟨X,9,none⟩ (.int .i64 f))∧EC (W.setCell ⟨X,9,none⟩ (.int .i64 f)) X base ⟨u.nv,u.bA,u.bc,u.iA,u.ic,u.vv,u.sA,u.sc⟩ ⟨x.kind,x.note,x.body,f,x.int,x.view,x.subs⟩ L M S:=
 h.put (u':=⟨u.nv,u.bA,u.bc,u.iA,u.ic,u.vv,u.sA,u.sc⟩) (x':=⟨x.kind,x.note,x.body,f,x.int,x.view,x.subs⟩) (But.set_ (g:=X) W (p:=⟨X,9,none⟩) rfl _) (h.blk.set_ 9 (.int .i64 f)) h.nt h.bd h.it h.vw h.sb h.ns
theorem EC.int_ (h:EC W X base u x L M S) {i:List Sn.Sp} {A:Option Addr} {c:Nat} (hi:W.ownsRow base 63 2 (.slice A i.length c) i.length (sv i)):But X W (W.setCell ⟨X,10,none⟩ (.slice A i.length c))∧EC (W.setCell ⟨X,10,none⟩ (.slice A i.length c)) X base ⟨u.nv,u.bA,u.bc,A,c,u.vv,u.sA,u.sc⟩ ⟨x.kind,x.note,x.body,x.from_,i,x.view,x.subs⟩ L M S:=
 h.put (u':=⟨u.nv,u.bA,u.bc,A,c,u.vv,u.sA,u.sc⟩) (x':=⟨x.kind,x.note,x.body,x.from_,i,x.view,x.subs⟩) (But.set_ (g:=X) W (p:=⟨X,10,none⟩) rfl _) (h.blk.set_ 10 (.slice A i.length c)) h.nt h.bd hi h.vw h.sb h.ns
theorem EC.view_ (h:EC W X base u x L M S) {z:VV} {v:Vw} {L':List (ZV×Zn)} {M':List (BV×Wq.Bd)} (hv:VwOwn W base z v L' M'):But X W (((((W.setCell ⟨X,11,none⟩ (.slice z.kA v.known.length z.kc)).setCell ⟨X,12,none⟩ (.slice z.zA v.zones.length z.zc)).setCell ⟨X,13,none⟩ (.slice z.hA v.held.length z.hc)).setCell ⟨X,14,none⟩ (.slice z.bA v.bods.length z.bc)).setCell ⟨X,15,none⟩ (.int .i64 v.room))∧EC (((((W.setCell ⟨X,11,none⟩ (.slice z.kA v.known.length z.kc)).setCell ⟨X,12,none⟩ (.slice z.zA v.zones.length z.zc)).setCell ⟨X,13,none⟩ (.slice z.hA v.held.length z.hc)).setCell ⟨X,14,none⟩ (.slice z.bA v.bods.length z.bc)).setCell ⟨X,15,none⟩ (.int .i64 v.room)) X base ⟨u.nv,u.bA,u.bc,u.iA,u.ic,z,u.sA,u.sc⟩ ⟨x.kind,x.note,x.body,x.from_,x.int,v,x.subs⟩ L' M' S:=
 h.put (u':=⟨u.nv,u.bA,u.bc,u.iA,u.ic,z,u.sA,u.sc⟩) (x':=⟨x.kind,x.note,x.body,x.from_,x.int,v,x.subs⟩) (((((But.set_ (g:=X) W (p:=⟨X,11,none⟩) rfl _).trans (But.set_ (g:=X) _ (p:=⟨X,12,none⟩) rfl _)).trans (But.set_ (g:=X) _ (p:=⟨X,13,none⟩) rfl _)).trans (But.set_ (g:=X) _ (p:=⟨X,14,none⟩) rfl _)).trans (But.set_ (g:=X) _ (p:=⟨X,15,none⟩) rfl _)) (((((h.blk.set_ 11 (.slice z.kA v.known.length z.kc)).set_ 12 (.slice z.zA v.zones.length z.zc)).set_ 13 (.slice z.hA v.held.length z.hc)).set_ 14 (.slice z.bA v.bods.length z.bc)).set_ 15 (.int .i64 v.room)) h.nt h.bd h.it hv h.sb h.ns
theorem EC.low (h:EC W X base u x L M S) (hgr:W.grownBy W' (Value.slice u.sA x.subs.length u.sc).ownBlock) (hs:base≤W.heap.size):Below base W W':=grown_below hgr hs (fun k hk=>(h.sb.row.lt k hk).1)
theorem EC.sub_ (h:EC W X base u x L M S) {p:SV×Sb} (hp:W.ownsRow base 63 2 (.slice p.1.A p.2.int.length p.1.c) p.2.int.length (sv p.2.int)) {A':Option Addr} {c':Nat}
  (hgr:W.grownBy W' (Value.slice u.sA x.subs.length u.sc).ownBlock) (ho:W'.ownsRow base 65 7 (.slice A' (x.subs.length+1) c') (x.subs.length+1) (sbv S++sbl p)):
  But X W' (W'.setCell ⟨X,16,none⟩ (.slice A' (x.subs.length+1) c'))∧EC (W'.setCell ⟨X,16,none⟩ (.slice A' (x.subs.length+1) c')) X base ⟨u.nv,u.bA,u.bc,u.iA,u.ic,u.vv,A',c'⟩ ⟨x.kind,x.note,x.body,x.from_,x.int,x.view,x.subs++[p.2]⟩ L M (S++[p]):=by
 have hr:=h.sb.row
 have hl:(x.subs++[p.2]).length=x.subs.length+1:=by simp
 have hB:=blk_grow h.blk hr hgr (by decide)
 have hb:W'.ownsRow base 5 1 (.slice u.bA x.body.v.length u.bc) x.body.v.length (bv x.body.v):=h.bd.kept hgr (own_two h.bd hr (by decide))
 have hi:W'.ownsRow base 63 2 (.slice u.iA x.int.length u.ic) x.int.length (sv x.int):=h.it.kept hgr (own_two h.it hr (by decide))
 have hu:But X W' (W'.setCell ⟨X,16,none⟩ (.slice A' (x.subs.length+1) c')):=But.set_ W' (p:=⟨X,16,none⟩) rfl _
 have k:=Kp.blk hB hu
 refine⟨hu,?_,(h.nt.row hr (by decide) (by decide) (by decide) hgr).kp k (by decide) (by decide) (by decide),k _ _ _ _ _ _ (by decide) hb,k _ _ _ _ _ _ (by decide) hi,(h.vw.row_ hr (by decide) (by decide) (by decide) (by decide) (by decide) hgr).kp k (by decide) (by decide) (by decide) (by decide) (by decide),?_,?_⟩
 ·have:=hB.set_ 16 (.slice A' (x.subs.length+1) c')
  unfold eval
  dsimp only
  rw[hl]
  exact this
 ·dsimp only
  rw[hl]
  exact(h.sb.push hp hgr ho).kp k (by decide) (by decide)
 ·show sbs (S++[p])=x.subs++[p.2]
  rw[sbs_app,h.ns];rfl
end
section
variable {w W W':World} {X:Nat} {cur cur':List UInt8} {u u':EV} {x x':Ent} {L L':List (ZV×Zn)} {M M':List (BV×Wq.Bd)} {S S':List (SV×Sb)}
theorem ES.call (h:ES w W X cur u x L M S) (hb:But (X+2) W W') (ht:TR W' (X+2) X cur'):ES w W' X cur' u x L M S:=
 ⟨h.toEC.call hb (by omega) (by omega),h.err.but hb (by omega),ht,below_but h.out hb (by have:=h.blk.lt;omega) (by omega),h.hX⟩
theorem ES.grow (h:ES w W X cur u x L M S) (hb:Below W.heap.size W W'):ES w W' X cur u x L M S:=
 ⟨h.toEC.grow hb,h.err.go hb,h.tr.go hb,below_then h.out (Nat.le_of_eq h.hX) hb,h.hX⟩
theorem ES.new (_:ES w W X cur u x L M S) (o:Obj):Below W.heap.size W (W.alloc o):=(Below.refl _ _).alloc (Nat.le_refl _) _
theorem ES.err_ (h:ES w W X cur u x L M S):ES w (W.setCell ⟨X+1,0,none⟩ (.int .i64 0)) X cur u x L M S:=
 have hu:But (X+1) W (W.setCell ⟨X+1,0,none⟩ (.int .i64 0)):=But.set_ W (p:=⟨X+1,0,none⟩) rfl _
 ⟨h.toEC.call hu (by omega) (by omega),h.err.set_ 0 _,h.tr.but hu (by omega) (by omega),below_but h.out hu (by have:=h.blk.lt;omega) (by omega),h.hX⟩
theorem ES.put (h:ES w W X cur u x L M S) (k:But X W W'∧EC W' X (X+3) u' x' L' M' S'):ES w W' X cur u' x' L' M' S':=
 ⟨k.2,h.err.but k.1 (by omega),h.tr.but k.1 (Nat.le_refl _) (by omega),below_but h.out k.1 (by have:=h.blk.lt;omega) (Nat.le_refl _),h.hX⟩
theorem ES.same_ (h:ES w W X cur u x L M S) (hg:W.grownBy W' (some X)) (hb:Blk W' X 38 (eval x u)):ES w W' X cur u x L M S:=h.put (h.toEC.put (But.grown hg) hb h.nt h.bd h.it h.vw h.sb h.ns)
theorem ES.tab (h:ES w W X cur u x L M S) (hT:Tab w):Tab W:=hT.below (by rw[←h.hX];exact h.out)
theorem ES.sub_ (h:ES w W X cur u x L M S) {p:SV×Sb} (hp:W.ownsRow (X+3) 63 2 (.slice p.1.A p.2.int.length p.1.c) p.2.int.length (sv p.2.int)) {A':Option Addr} {c':Nat}
  (hgr:W.grownBy W' (Value.slice u.sA x.subs.length u.sc).ownBlock) (ho:W'.ownsRow (X+3) 65 7 (.slice A' (x.subs.length+1) c') (x.subs.length+1) (sbv S++sbl p)):
  ES w (W'.setCell ⟨X,16,none⟩ (.slice A' (x.subs.length+1) c')) X cur ⟨u.nv,u.bA,u.bc,u.iA,u.ic,u.vv,A',c'⟩ ⟨x.kind,x.note,x.body,x.from_,x.int,x.view,x.subs++[p.2]⟩ L M (S++[p]):=by
 have k:=h.toEC.sub_ hp hgr ho
 have hbl:=h.toEC.low hgr h.tr.lt
 exact⟨k.2,(blk_grow h.err h.sb.row hgr (by decide)).but k.1 (by omega),(h.tr.low hbl (by omega)).but k.1 (Nat.le_refl _) (by omega),below_but (h.out.trans (hbl.mono (by omega))) k.1 (by have:=h.blk.lt;have:=hbl.size;omega) (Nat.le_refl _),h.hX⟩
end
def DecE (l:List UInt8) (w:World) (e:Ending) (w':World):Prop:=
 (Wq.decE l=none∧e=.returned (.tuple #[.agg entZ,.int .i64 4])∧Below w.heap.size w w') ∨
 ∃x u,Wq.decE l=some x∧e=.returned (.tuple #[.agg (eval x u),.int .i64 0])∧(∃L M S,EntRd w' w'.heap.size u x L M S)∧Below w.heap.size w w'
def decD (X:Nat):List Deferred:=[{ target:=.fn (.func 47) #[.pointer (some ⟨X,0,none⟩),.pointer (some ⟨X+1,0,none⟩)],args:=#[] }]
theorem dec_gave {l cur:List UInt8} {w W0 W:World} {X:Nat} {u:EV} {x:Ent} {L:List (ZV×Zn)} {M:List (BV×Wq.Bd)} {S:List (SV×Sb)} {tmps:Array Value} (h:ES w W0 X cur u x L M S) (hb:But (X+2) W0 W) (hd:Wq.decE l=none)
  (h2:tmps.getD 2 undef=.pointer (some ⟨X,0,none⟩)) (h3:tmps.getD 3 undef=.pointer (some ⟨X+1,0,none⟩)):
  bodyPostD Tryz.prog Tryz.f15 (DecE l w) (.panic (gu0 false)) { tmps:=tmps,defers:=decD X } W:=by
 unfold decD
 refine leaves_cons (f:=47) (args:=#[.pointer (some ⟨X,0,none⟩),.pointer (some ⟨X+1,0,none⟩)]) (by simp) (by simp[go_sem]) ?_
 refine(catch_panic X (X+1) _ _ W (h.blk.but hb (by omega)) rfl (h.err.but hb (by omega)) (by omega)).mono ?_
 rintro e u' w' ⟨rfl,rfl,hbX,hbY,hlow⟩
 show ∃v,(results Tryz.f15 tmps).run Tryz.prog w'=.ok v w'∧DecE l w (.returned v) w'
 refine⟨_,res_cc rfl _ _ X (X+1) 38 40 entZ _ _ _ _ _ h2 hbX Tryz.underlying38 rfl (by kernel_rfl) h3 hbY Tryz.underlying40 rfl,.inl ⟨hd,rfl,?_⟩⟩
 rw[←h.hX]
 exact(below_but h.out hb (by have:=h.blk.lt;omega) (by omega)).trans (hlow X (Nat.le_refl _) (by omega) (by have:=h.blk.lt;have:=hb.size;omega))
theorem dec_out {l:List UInt8} {w W:World} {X:Nat} {cs:Array Value} {z:Value} {tmps:Array Value} (hX:Blk W X 38 cs) (hs:cs.size=17) (hE:Blk W (X+1) 40 #[z])
  (hp:∀w',Below W.heap.size W w'→DecE l w (.returned (.tuple #[.agg cs,z])) w')
  (h2:tmps.getD 2 undef=.pointer (some ⟨X,0,none⟩)) (h3:tmps.getD 3 undef=.pointer (some ⟨X+1,0,none⟩)):
  bodyPostD Tryz.prog Tryz.f15 (DecE l w) .ret { tmps:=tmps,defers:=decD X } W:=by
 unfold decD
 refine leaves_cons (f:=47) (args:=#[.pointer (some ⟨X,0,none⟩),.pointer (some ⟨X+1,0,none⟩)]) (by simp) (by simp[go_sem]) ?_
 refine(catch_idle _ _ W).mono ?_
 rintro e u' w' ⟨rfl,rfl,hb⟩
 show ∃v,(results Tryz.f15 tmps).run Tryz.prog w'=.ok v w'∧DecE l w (.returned v) w'
 have hi:(Tryz.prog.info? 38).map (·.size)=some cs.size:=by rw[hs];kernel_rfl
 exact⟨_,res_cc rfl _ _ X (X+1) 38 40 cs _ _ _ _ _ h2 (hX.go hb) Tryz.underlying38 rfl hi h3 (hE.go hb) Tryz.underlying40 rfl,hp w' hb⟩
structure EntBd (x:Ent):Prop where
 c:x.body.s.1 < 9223372036854775808
 n:x.note.s.length+x.note.e.length+x.note.b.length+x.note.w.length≤9223372036854775807
 v:x.view.known.length+x.view.zones.length+x.view.held.length+x.view.bods.length≤9223372036854775807
 o:∀y∈x.view.bods,(Lit.int .i64 y.o).wf=true
theorem ES.rd {w W:World} {X:Nat} {cur:List UInt8} {u:EV} {x:Ent} {L:List (ZV×Zn)} {M:List (BV×Wq.Bd)} {S:List (SV×Sb)} (h:ES w W X cur u x L M S) (hb:EntBd x):EntRd W W.heap.size u x L M S:=
 ⟨h.nt.rd,Rd.of_own h.bd,Rd.of_own h.it,h.vw.rd (fun p hp=>hb.o p.2 (by rw[←h.vw.nb];exact List.mem_map_of_mem hp)),h.sb.rd,h.ns⟩
end Go.Proofs.YtmbeahbgafkjfaaGreatDoor
namespace Go.Proofs.YtmbeahbgafkjfaaGreatDoor
open Go.RowKit
theorem DecE.some_ {w w':World} {l:List UInt8} {e:Ending} {x:Ent} (hd:Wq.decE l=some x) (h:DecE l w e w'):∃u,e=.returned (.tuple #[.agg (eval x u),.int .i64 0])∧(∃L M S,EntRd w' w'.heap.size u x L M S)∧Below w.heap.size w w':=by
 rcases h with ⟨h1,_⟩ | ⟨y,u,h1,h2,h3,h4⟩
 ·rw[hd] at h1;cases h1
 ·rw[hd] at h1;cases h1;exact⟨u,h2,h3,h4⟩
theorem DecE.none_ {w w':World} {l:List UInt8} {e:Ending} (hd:Wq.decE l=none) (h:DecE l w e w'):e=.returned (.tuple #[.agg entZ,.int .i64 4])∧Below w.heap.size w w':=by
 rcases h with ⟨_,h2,h3⟩ | ⟨y,u,h1,_⟩
 ·exact⟨h2,h3⟩
 ·rw[hd] at h1;cases h1
def xal:Ent:=⟨4,Wq.ntz,Wq.bdz,2,[(1,3)],Wq.vw0,[]⟩
def xz0:Ent:=⟨0,Wq.ntz,Wq.bdz,0,[],Wq.vw0,[]⟩
def uz0:EV:=⟨⟨none,0,0,none,0,0,none,0,0,none,0,0⟩,none,0,none,0,⟨none,0,none,0,none,0,none,0⟩,none,0⟩
theorem xz0_rd (w:World) (B:Nat):EntRd w B uz0 xz0 [] [] []:=⟨⟨rfl,Rd.none_,rfl,Rd.none_,rfl,Rd.none_,rfl,Rd.none_⟩,Rd.none_,Rd.none_,⟨Rd.none_,RdZ.none_ _ _,rfl,Rd.none_,RdBs.none_ _ _,rfl⟩,RdSb.none_ _ _,rfl⟩
theorem xz0_f (w:World) (hT:Tab w):Calls Tryz.prog 12 #[.agg entZ] w fun e w'=>e=.returned (.bool false)∧Below w.heap.size w w':=by
 have h:=entFormed_any uz0 xz0 [] [] [] w hT (xz0_rd w _) (by decide) (by decide) (by decide)
 rw[show entF xz0=false by decide +kernel] at h
 exact h
theorem EntRd.below {w w':World} {B:Nat} {u:EV} {x:Ent} {L:List (ZV×Zn)} {M:List (BV×Wq.Bd)} {S:List (SV×Sb)} (h:EntRd w B u x L M S) (hb:Below B w w'):EntRd w' B u x L M S:=⟨h.nt.below hb,h.bd.below hb,h.it.below hb,h.vw.below hb,h.sb.below hb,h.ns⟩
theorem EntRd.more {w:World} {B B':Nat} {u:EV} {x:Ent} {L:List (ZV×Zn)} {M:List (BV×Wq.Bd)} {S:List (SV×Sb)} (h:EntRd w B u x L M S) (hb:B≤B'):EntRd w B' u x L M S:=⟨h.nt.more hb,h.bd.more hb,h.it.more hb,h.vw.more hb,h.sb.more hb,h.ns⟩
def EntR (w:World) (B:Nat) (u:EV) (x:Ent):Prop:=∃L M S,EntRd w B u x L M S
theorem EntR.below {w w':World} {B:Nat} {u:EV} {x:Ent} (h:EntR w B u x) (hb:Below B w w'):EntR w' B u x:=by
 obtain⟨L,M,S,h⟩:=h;exact⟨L,M,S,h.below hb⟩
theorem EntR.more {w:World} {B B':Nat} {u:EV} {x:Ent} (h:EntR w B u x) (hb:B≤B'):EntR w B' u x:=by
 obtain⟨L,M,S,h⟩:=h;exact⟨L,M,S,h.more hb⟩
theorem EntR.go {w w':World} {u:EV} {x:Ent} (h:EntR w w.heap.size u x) (hb:Below w.heap.size w w'):EntR w' w'.heap.size u x:=(h.below hb).more hb.size
def x0E:Ent:=⟨0,Wq.ntz,Wq.bdz,0,[],Wq.vw0,[]⟩
def u0E:EV:=⟨⟨none,0,0,none,0,0,none,0,0,none,0,0⟩,none,0,none,0,⟨none,0,none,0,none,0,none,0⟩,none,0⟩
theorem VwOwn.nil (w:World) (base:Nat):VwOwn w base ⟨none,0,none,0,none,0,none,0⟩ Wq.vw0 [] []:=⟨World.ownsRow_nil _ _ _ _,OwnZ.nil _ _,rfl,World.ownsRow_nil _ _ _ _,OwnBd.nil _ _,rfl⟩
theorem NtOwn.nil (w:World) (base:Nat):NtOwn w base ⟨none,0,0,none,0,0,none,0,0,none,0,0⟩ Wq.ntz:=⟨rfl,World.ownsRow_nil _ _ _ _,rfl,World.ownsRow_nil _ _ _ _,rfl,World.ownsRow_nil _ _ _ _,rfl,World.ownsRow_nil _ _ _ _⟩
theorem dec_start (w:World) (A:Option Addr) (c:Nat) (l:List UInt8) (hR:Rd w w.heap.size 1 A l.length c (bv l)) (hn:l.length≤4294967296):
  ES w (((w.alloc (.cells entZ 38)).alloc (.cells #[.int .i64 0] 40)).alloc (.cells #[.slice A l.length c] 86)) w.heap.size l u0E x0E [] [] []:=by
 have h1:Below w.heap.size w (w.alloc (.cells entZ 38)):=(Below.refl _ _).alloc (Nat.le_refl _) _
 have h2:Below w.heap.size w ((w.alloc (.cells entZ 38)).alloc (.cells #[.int .i64 0] 40)):=h1.alloc (by simp) _
 have h3:=h2.alloc (by simp;omega) (.cells #[.slice A l.length c] 86)
 have b1:=((Blk.new w 38 entZ).alloc (.cells #[.int .i64 0] 40)).alloc (.cells #[.slice A l.length c] 86)
 have b2:=(Blk.new (w.alloc (.cells entZ 38)) 40 #[.int .i64 0]).alloc (.cells #[.slice A l.length c] 86)
 have b3:=Blk.new ((w.alloc (.cells entZ 38)).alloc (.cells #[.int .i64 0] 40)) 86 #[.slice A l.length c]
 rw[World.size_alloc] at b2
 rw[World.size_alloc,World.size_alloc] at b3
 exact⟨⟨b1,NtOwn.nil _ _,World.ownsRow_nil _ _ _ _,World.ownsRow_nil _ _ _ _,VwOwn.nil _ _,OwnSb.nil _ _,rfl⟩,b2,⟨⟨A,c,b3,hR.below h3⟩,by omega,hn⟩,h3,rfl⟩
theorem run_build_sub (w:World) (f:Int) (A:Option Addr) (n c:Nat):
  (Instr.build 65 #[(0,.int .i64 f),(1,.slice A n c)]).run Tryz.prog w=.ok (.agg #[.int .i64 f,.slice A n c,.int .i64 0,.int .i64 0,.bool false,.bool false,.bool false]) w:=by kernel_rfl
theorem run_row_sub (w:World) (f:Int) (A:Option Addr) (n c:Nat):
  (Instr.buildSlice 36 1 #[(0,.agg #[.int .i64 f,.slice A n c,.int .i64 0,.int .i64 0,.bool false,.bool false,.bool false])]).run Tryz.prog w=.ok (.slice (some ⟨w.heap.size,0,none⟩) 1 1) (w.alloc (.cells #[.int .i64 f,.slice A n c,.int .i64 0,.int .i64 0,.bool false,.bool false,.bool false] 65)):=by kernel_rfl
theorem run_op_sub {o:Oper} {a:Act} {w:World} {x y:Operand} {f:Int} {A:Option Addr} {n c:Nat} (ho:o.op=.build 65 #[(0,x),(1,y)]) (hx:a.eval x=.int .i64 f) (hy:a.eval y=.slice A n c):
  (execOp a.eval o).run Tryz.prog w=.ok (.value (.agg #[.int .i64 f,.slice A n c,.int .i64 0,.int .i64 0,.bool false,.bool false,.bool false])) w:=by
 unfold execOp
 simp only[ho,List.map_toArray,List.map_cons,List.map_nil,hx,hy,Sem.run_bind,run_build_sub,Result.andThen_ok,Sem.run_pure]
theorem wp_op_sub {o:Oper} {a:Act} {w:World} {K:Act→World→Prop} {Q:Exit→Act→World→Prop} {x:Operand} {f:Int} {A:Option Addr} {n c:Nat} (ho:o.op=.buildSlice 36 1 #[(0,x)]) (hx:a.eval x=.agg #[.int .i64 f,.slice A n c,.int .i64 0,.int .i64 0,.bool false,.bool false,.bool false])
  (h:K (a.put o.dst (.slice (some ⟨w.heap.size,0,none⟩) 1 1)) (w.alloc (.cells #[.int .i64 f,.slice A n c,.int .i64 0,.int .i64 0,.bool false,.bool false,.bool false] 65))):o.wp Tryz.prog a w K Q:=by
 unfold Oper.wp execOp
 simp only[ho,List.map_toArray,List.map_cons,List.map_nil,hx,Sem.run_bind,run_row_sub,Result.andThen_ok,Sem.run_pure]
 exact h
theorem wpList_load_rowg {P:Program} {ops:Array Oper} {rest:List Oper} {o:Oper} {a:Act} {w:World} {Q:Exit→Act→World→Prop} (hw:Region.wanted o (yielded ops a.tmps)=true) (ty:TypeId) (x:Operand) (ho:o.op=.load ty x)
  (g:Nat) (hx:a.eval x=.pointer (some ⟨g,0,none⟩)) (t:TypeId) (cs:Array Value) (d:TypeDesc) (hg:Blk w g t cs)
  (hu:P.underlying ty=some d) (hd:(match d with | .struct _ | .array _ _=>true | _=>false)=true) (hi:(P.info? ty).map (·.size)=some cs.size)
  (h:wpList P ops Q rest (a.put o.dst (.agg cs)) w):wpList P ops Q (o :: rest) a w:=
 wpList_step fun K hK=>by
  rw[if_pos hw]
  exact wp_load_row ty x ho g hx t cs (0,0) d hg hu hd hi (hK _ _ h)
end Go.Proofs.YtmbeahbgafkjfaaGreatDoor
