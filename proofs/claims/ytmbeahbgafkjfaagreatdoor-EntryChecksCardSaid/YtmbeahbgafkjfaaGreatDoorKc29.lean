/- Lemmas for the claim, layer 29. -/
import Derived.Test.YtmbeahbgafkjfaaGreatDoorKc26
import Derived.Test.YtmbeahbgafkjfaaGreatDoorKc28
set_option maxRecDepth 100000
set_option maxHeartbeats 16000000
namespace Go.Proofs.YtmbeahbgafkjfaaGreatDoor
open Go.RowKit
theorem empty_len {α:Type} (l:List α):l.isEmpty=decide (l.length=0):=by cases l<;>simp
theorem entBare_any (x:Wq.Bd) (A:Option Addr) (c:Nat) (w:World):
  Calls Tryz.prog 38 #[.agg (bval x A c)] w fun e w'=>e=.returned (.bool (bareB x))/\Below w.heap.size w w':=by
 obtain⟨o,⟨a,b⟩,v⟩:=x;unfold bval bareB;dsimp only;rw[empty_len];generalize v.length=n;have HB:=Hz_ (show Below w.heap.size w (w.alloc (.cells #[.int .i64 o,.int .i64 a,.int .i64 b,.slice A n c] 31)) from Zr.alloc Zl _);by_cases e1:o=0
 ·subst e1;by_cases e2:a=0
  ·subst e2;by_cases e3:b=0
   ·subst e3;by_cases e4:n=0
    ·subst e4;go_enter Tryz.func38,Tryz.ntmps38;go_wp2;go_ret;exact⟨rfl,HB.out⟩
    ·have HN:=Hz_ (show (decide ((0:Int)=0) && (decide (((0:Int),(0:Int))=(0,0)) && decide (n=0)))=false by simp[e4]);rw[HN.out];have e5:((n:Int) == 0)=false:=by simpa using e4
     go_enter Tryz.func38,Tryz.ntmps38;go_wp2;go_ret;exact⟨rfl,HB.out⟩
   ·have HN:=Hz_ (show (decide ((0:Int)=0) && (decide (((0:Int),b)=(0,0)) && decide (n=0)))=false by simp[e3]);rw[HN.out];go_enter Tryz.func38,Tryz.ntmps38;go_wp2;go_ret;exact⟨rfl,HB.out⟩
  ·have HN:=Hz_ (show (decide ((0:Int)=0) && (decide ((a,b)=(0,0)) && decide (n=0)))=false by simp[e2]);rw[HN.out];go_enter Tryz.func38,Tryz.ntmps38;go_wp2;go_ret;exact⟨rfl,HB.out⟩
 ·have HN:=Hz_ (show (decide (o=0) && (decide ((a,b)=(0,0)) && decide (n=0)))=false by simp[e1]);rw[HN.out];go_enter Tryz.func38,Tryz.ntmps38;go_wp2;go_ret;exact⟨rfl,HB.out⟩
theorem emptyN_len (x:Nt):emptyN x=decide (x.s.length+x.e.length+x.b.length+x.w.length=0):=by
 unfold emptyN;rw[empty_len,empty_len,empty_len,empty_len,Bool.eq_iff_iff];simp only[Bool.and_eq_true,decide_eq_true_eq];omega
theorem blankV_len (v:Vw):blankV v=(decide (v.known.length+v.zones.length+v.held.length+v.bods.length=0) && decide (v.room=0)):=by
 unfold blankV;rw[empty_len,empty_len,empty_len,empty_len];congr 1;rw[Bool.eq_iff_iff];simp only[Bool.and_eq_true,decide_eq_true_eq];omega
theorem entEmpty_any (v:NV) (x:Nt) (w:World) (h1:x.s.length=v.n1) (h2:x.e.length=v.n2) (h3:x.b.length=v.n3) (h4:x.w.length=v.n4) (hs:v.n1+v.n2+v.n3+v.n4<=9223372036854775807):
  Calls Tryz.prog 39 #[.agg v.val] w fun e w'=>e=.returned (.bool (emptyN x))/\Below w.heap.size w w':=by
 rw[emptyN_len,h1,h2,h3,h4];clear h1 h2 h3 h4;obtain⟨A1,n1,c1,A2,n2,c2,A3,n3,c3,A4,n4,c4⟩:=v;dsimp only at hs ⊢;have HB:=Hz_ (show Below w.heap.size w (w.alloc (.cells #[.slice A1 n1 c1,.slice A2 n2 c2,.slice A3 n3 c3,.slice A4 n4 c4] 26)) from Zr.alloc Zl _);have s1:IntKind.i64.wrap ((n1:Int)+(n2:Int))=((n1+n2:Nat):Int):=by rw[IntWalk.i64_in _ (by omega)];omega
 have s2:IntKind.i64.wrap (((n1+n2:Nat):Int)+(n3:Int))=((n1+n2+n3:Nat):Int):=by rw[IntWalk.i64_in _ (by omega)];omega
 have s3:IntKind.i64.wrap (((n1+n2+n3:Nat):Int)+(n4:Int))=((n1+n2+n3+n4:Nat):Int):=by rw[IntWalk.i64_in _ (by omega)];omega
 go_enter Tryz.func39,Tryz.ntmps39;go_wp2;go_ret;exact⟨ret_bool (by rw[Bool.eq_iff_iff];simp;omega),HB.out⟩
theorem entBlank_any (u:VV) (v:Vw) (w:World) (hs:v.known.length+v.zones.length+v.held.length+v.bods.length<=9223372036854775807):
  Calls Tryz.prog 36 #[.agg (vval v u)] w fun e w'=>e=.returned (.bool (blankV v))/\Below w.heap.size w w':=by
 rw[blankV_len];obtain⟨kA,kc,zA,zc,hA,hc,bA,bc⟩:=u;obtain⟨known,zones,held,bods,room⟩:=v;unfold vval;dsimp only at hs ⊢;generalize known.length=nk at *;generalize zones.length=nz at *;generalize held.length=nh at *;generalize bods.length=nb at *;have HB:=Hz_ (show Below w.heap.size w (w.alloc (.cells #[.slice kA nk kc,.slice zA nz zc,.slice hA nh hc,.slice bA nb bc,.int .i64 room] 35)) from Zr.alloc Zl _);have s1:IntKind.i64.wrap ((nk:Int)+(nz:Int))=((nk+nz:Nat):Int):=by rw[IntWalk.i64_in _ (by omega)];omega
 have s2:IntKind.i64.wrap (((nk+nz:Nat):Int)+(nh:Int))=((nk+nz+nh:Nat):Int):=by rw[IntWalk.i64_in _ (by omega)];omega
 have s3:IntKind.i64.wrap (((nk+nz+nh:Nat):Int)+(nb:Int))=((nk+nz+nh+nb:Nat):Int):=by rw[IntWalk.i64_in _ (by omega)];omega
 by_cases e1:nk+nz+nh+nb=0
 ·obtain⟨rfl,rfl,rfl,rfl⟩:nk=0/\nz=0/\nh=0/\nb=0:=by omega
  clear s1 s2 s3 e1;by_cases e2:room=0
  ·subst e2;go_enter Tryz.func36,Tryz.ntmps36;go_wp2;go_ret;exact⟨ret_bool (by simp),HB.out⟩
  ·have HN:=Hz_ (show (decide (0+0+0+0=0) && decide (room=0))=false by simp[e2]);rw[HN.out];have e3:(room == 0)=false:=by simpa using e2
   go_enter Tryz.func36,Tryz.ntmps36;go_wp2;go_ret;exact⟨rfl,HB.out⟩
 ·have HN:=Hz_ (show (decide (nk+nz+nh+nb=0) && decide (room=0))=false by rw[decide_eq_false e1];rfl);rw[HN.out];have e3:(((nk+nz+nh+nb:Nat):Int) == 0)=false:=beq_eq_false_iff_ne.2 (by omega);have e4:¬ ((nk+nz+nh+nb:Nat):Int)=0:=by omega
  go_enter Tryz.func36,Tryz.ntmps36;go_wp2;go_ret;exact⟨rfl,HB.out⟩
theorem entBody_any (x:Wq.Bd) (A:Option Addr) (c:Nat) (w:World) (hR:Rd w w.heap.size 1 A x.v.length c (bv x.v)) (hc:x.s.1 < 9223372036854775808):
  Calls Tryz.prog 40 #[.agg (bval x A c)] w fun e w'=>e=.returned (.bool (Wq.bdF x))/\Below w.heap.size w w':=by
 have hb0:Below w.heap.size w (w.alloc (.cells (bval x A c) 31)):=Zr.alloc Zl _;have HB:=Hz_ hb0;have GN:=appendBody_no none 0 0 x A c (w.alloc (.cells (bval x A c) 31));have GY:=fun hf=>appendBody_any none 0 0 [] x A c (w.alloc (.cells (bval x A c) 31)) rfl Rd.none_ (hR.go hb0) hf hc (by omega);generalize Wq.bdF x=z at GN GY ⊢;generalize Wq.lB x=l at GY;unfold bval at GN GY ⊢;clear hR hc hb0;cases z
 ·have G:=Hz_ (GN rfl);clear GN GY;go_enter Tryz.func40,Tryz.ntmps40;go_wp2_with (go_at_call 29;go_must (refine G.out.mono ?_);rintro e w1 ⟨rfl,hb1⟩);go_ret;exact⟨rfl,btn HB.out hb1⟩
 ·have G:=Hz_ (GY rfl);clear GN GY;go_enter Tryz.func40,Tryz.ntmps40;go_wp2_with (go_at_call 29;go_must (refine G.out.mono ?_);rintro e w1 ⟨v,rfl,hby⟩;obtain⟨A1,c1,hv,ho,hb1⟩:=hby;clear hv ho);go_ret;exact⟨rfl,btn HB.out hb1⟩
structure EV where
 nv:NV
 bA:Option Addr
 bc:Nat
 iA:Option Addr
 ic:Nat
 vv:VV
 sA:Option Addr
 sc:Nat
def eval (x:Ent) (u:EV):Array Value:=#[.int .i64 x.kind,.slice u.nv.A1 u.nv.n1 u.nv.c1,.slice u.nv.A2 u.nv.n2 u.nv.c2,.slice u.nv.A3 u.nv.n3 u.nv.c3,.slice u.nv.A4 u.nv.n4 u.nv.c4,.int .i64 x.body.o,.int .i64 x.body.s.1,.int .i64 x.body.s.2,.slice u.bA x.body.v.length u.bc,.int .i64 x.from_,.slice u.iA x.int.length u.ic,.slice u.vv.kA x.view.known.length u.vv.kc,.slice u.vv.zA x.view.zones.length u.vv.zc,.slice u.vv.hA x.view.held.length u.vv.hc,.slice u.vv.bA x.view.bods.length u.vv.bc,.int .i64 x.view.room,.slice u.sA x.subs.length u.sc]
structure EntRd (w:World) (B:Nat) (u:EV) (x:Ent) (L:List (ZV×Zn)) (M:List (BV×Wq.Bd)) (S:List (SV×Sb)):Prop where
 nt:NtRd w B u.nv x.note
 bd:Rd w B 1 u.bA x.body.v.length u.bc (bv x.body.v)
 it:Rd w B 2 u.iA x.int.length u.ic (sv x.int)
 vw:VwRd w B u.vv x.view L M
 sb:RdSb w B u.sA x.subs.length u.sc S
 ns:sbs S=x.subs
theorem EntRd.go {w w':World} {u:EV} {x:Ent} {L:List (ZV×Zn)} {M:List (BV×Wq.Bd)} {S:List (SV×Sb)} (h:EntRd w w.heap.size u x L M S) (hb:Below w.heap.size w w'):EntRd w' w'.heap.size u x L M S:=⟨h.nt.go hb,h.bd.go hb,h.it.go hb,h.vw.go hb,h.sb.go hb,h.ns⟩
theorem Blk.c17 {w:World} {g:Nat} {t:TypeId} {a0 a1 a2 a3 a4 a5 a6 a7 a8 a9 a10 a11 a12 a13 a14 a15 a16:Value} (h:Blk w g t #[a0,a1,a2,a3,a4,a5,a6,a7,a8,a9,a10,a11,a12,a13,a14,a15,a16]):w.cell? ⟨g,0,none⟩=some a0/\w.cell? ⟨g,1,none⟩=some a1/\w.cell? ⟨g,2,none⟩=some a2/\w.cell? ⟨g,3,none⟩=some a3/\w.cell? ⟨g,4,none⟩=some a4/\w.cell? ⟨g,5,none⟩=some a5/\w.cell? ⟨g,6,none⟩=some a6/\w.cell? ⟨g,7,none⟩=some a7/\w.cell? ⟨g,8,none⟩=some a8/\w.cell? ⟨g,9,none⟩=some a9/\w.cell? ⟨g,10,none⟩=some a10/\w.cell? ⟨g,11,none⟩=some a11/\w.cell? ⟨g,12,none⟩=some a12/\w.cell? ⟨g,13,none⟩=some a13/\w.cell? ⟨g,14,none⟩=some a14/\w.cell? ⟨g,15,none⟩=some a15/\w.cell? ⟨g,16,none⟩=some a16:=⟨h.cell 0,h.cell 1,h.cell 2,h.cell 3,h.cell 4,h.cell 5,h.cell 6,h.cell 7,h.cell 8,h.cell 9,h.cell 10,h.cell 11,h.cell 12,h.cell 13,h.cell 14,h.cell 15,h.cell 16⟩
def entE (x y:Ent):Bool:=decide (x.kind=y.kind) && (ntSame x.note y.note && (bdE x.body y.body && (decide (x.from_=y.from_) && (decide (x.int=y.int) && (vwE x.view y.view && sbsE x.subs y.subs)))))
theorem entE_iff (x y:Ent):entE x y=true↔x=y:=by
 cases x;cases y;simp[entE,ntSame_iff,bdE_iff,vwE_iff,sbsE_iff]
def Pnc (K:Act->World->Prop) (R:List PanicEntry->World->Prop) (D:List Deferred):Exit->Act->World->Prop
 | .normal,a,w=>K a w
 | .panic c,a,w=>a.defers=D/\R c w
 | _,_,_=>False
theorem Pnc.out {K:Act->World->Prop} {R:List PanicEntry->World->Prop} {D:List Deferred} {a:Act} {w:World} (h:K a w):Pnc K R D .normal a w:=h
theorem region_pnc {P:Program} {id:Nat} {ops:Array Oper} {d:Bool} {Q:Exit->Act->World->Prop} {a:Act} {w:World} (D:List Deferred)
  (h:∀(K:Act->World->Prop) (R:List PanicEntry->World->Prop),(∀a w,Q .normal a w->K a w)->(∀c w,(∀a,a.defers=D->Q (.panic c) a w)->R c w)->(Code.region id ops d).wp P (Pnc K R D) a w):(Code.region id ops d).wp P Q a w:=by
 refine Code.wp_mono (Q:=Pnc (fun a w=>Q .normal a w) (fun c w=>∀a,a.defers=D->Q (.panic c) a w) D) (fun e a w hh=>?_) (h (fun a w=>Q .normal a w) (fun c w=>∀a,a.defers=D->Q (.panic c) a w) (fun _ _ hh=>hh) (fun _ _ hh=>hh))
 cases e with
 | normal=>exact hh
 | panic c=>exact hh.2 a hh.1
 | _=>exact False.elim hh
theorem body_info:(Tryz.prog.info? 31).map (fun i=>(i.zero,i.size,i.bytes))=some (some (.agg #[.int .i64 0,.int .i64 0,.int .i64 0,.slice none 0 0]),4,48):=by kernel_rfl
theorem sub_info:(Tryz.prog.info? 65).map (fun i=>(i.zero,i.size,i.bytes))=some (some (.agg #[.int .i64 0,.slice none 0 0,.int .i64 0,.int .i64 0,.bool false,.bool false,.bool false]),7,56):=by kernel_rfl
structure OwnBd (w:World) (base:Nat) (A:Option Addr) (k c:Nat) (L:List (BV×Wq.Bd)):Prop where
 row:w.ownsRow base 31 4 (.slice A k c) k (bvv L)
 el:∀p∈L,w.ownsRow base 5 1 (.slice p.1.A p.2.v.length p.1.c) p.2.v.length (bv p.2.v)
theorem OwnBd.nil (w:World) (base:Nat):OwnBd w base none 0 0 []:=⟨World.ownsRow_nil _ _ _ _,by simp⟩
theorem OwnBd.below {w w':World} {base:Nat} {A:Option Addr} {k c:Nat} {L:List (BV×Wq.Bd)} (h:OwnBd w base A k c L) (hb:Below w.heap.size w w'):OwnBd w' base A k c L:=
 ⟨own_below h.row hb Zl,fun p hp=>own_below (h.el p hp) hb Zl⟩
theorem OwnBd.less {w:World} {base base':Nat} {A:Option Addr} {k c:Nat} {L:List (BV×Wq.Bd)} (h:OwnBd w base A k c L) (hb:base'<=base):OwnBd w base' A k c L:=
 ⟨own_less h.row hb,fun p hp=>own_less (h.el p hp) hb⟩
theorem OwnBd.but {w w':World} {g base:Nat} {A:Option Addr} {k c:Nat} {L:List (BV×Wq.Bd)} (h:OwnBd w base A k c L) (hb:But g w w') (hg:g < base):OwnBd w' base A k c L:=
 ⟨own_but h.row hb hg,fun p hp=>own_but (h.el p hp) hb hg⟩
theorem OwnBd.push {w w':World} {base:Nat} {A A':Option Addr} {k c c':Nat} {L:List (BV×Wq.Bd)} {p:BV×Wq.Bd} (h:OwnBd w base A k c L) (hp:w.ownsRow base 5 1 (.slice p.1.A p.2.v.length p.1.c) p.2.v.length (bv p.2.v))
  (hg:w.grownBy w' (Value.slice A k c).ownBlock) (ho:w'.ownsRow base 31 4 (.slice A' (k+1) c') (k+1) (bvv L++bvl p)):OwnBd w' base A' (k+1) c' (L++[p]):=by
 refine⟨by rw[bvv_app];simpa[bvv] using ho,fun z hz=>?_⟩;rcases List.mem_append.1 hz with hz | hz
 ·exact(h.el z hz).kept hg (own_two (h.el z hz) h.row (by decide))
 ·obtain rfl:z=p:=by simpa using hz
  exact hp.kept hg (own_two hp h.row (by decide))
theorem OwnBd.len {w:World} {base:Nat} {A:Option Addr} {k c:Nat} {L:List (BV×Wq.Bd)} (h:OwnBd w base A k c L):L.length=k:=by
 have:=h.row.1;rw[bvv_len] at this;omega
theorem OwnBd.rd {w:World} {base:Nat} {A:Option Addr} {k c:Nat} {L:List (BV×Wq.Bd)} (h:OwnBd w base A k c L) (hw:∀p∈L,(Lit.int .i64 p.2.o).wf=true):RdBs w w.heap.size A k c L:=
 ⟨h.len,Rd.of_own h.row,fun p hp=>Rd.of_own (h.el p hp),hw⟩
theorem OwnBd.row_ {w w':World} {base b size n:Nat} {e:TypeId} {u:Value} {xs:List Value} {A:Option Addr} {k c:Nat} {L:List (BV×Wq.Bd)} (h:OwnBd w base A k c L) (ho:w.ownsRow b e size u n xs) (h1:31≠e) (h2:5≠e) (hg:w.grownBy w' u.ownBlock):OwnBd w' base A k c L:=
 ⟨h.row.kept hg (own_two h.row ho h1),fun p hp=>(h.el p hp).kept hg (own_two (h.el p hp) ho h2)⟩
theorem OwnZ.but {w w':World} {g base:Nat} {A:Option Addr} {k c:Nat} {L:List (ZV×Zn)} (h:OwnZ w base A k c L) (hb:But g w w') (hg:g < base):OwnZ w' base A k c L:=
 ⟨own_but h.row hb hg,fun p hp=>⟨(h.el p hp).1,own_but (h.el p hp).2 hb hg⟩⟩
theorem OwnZ.row_ {w w':World} {base b size n:Nat} {e:TypeId} {u:Value} {xs:List Value} {A:Option Addr} {k c:Nat} {L:List (ZV×Zn)} (h:OwnZ w base A k c L) (ho:w.ownsRow b e size u n xs) (h1:129≠e) (h2:28≠e) (hg:w.grownBy w' u.ownBlock):OwnZ w' base A k c L:=
 ⟨h.row.kept hg (own_two h.row ho h1),fun p hp=>⟨(h.el p hp).1,(h.el p hp).2.kept hg (own_two (h.el p hp).2 ho h2)⟩⟩
structure OwnSb (w:World) (base:Nat) (A:Option Addr) (k c:Nat) (L:List (SV×Sb)):Prop where
 row:w.ownsRow base 65 7 (.slice A k c) k (sbv L)
 el:∀p∈L,w.ownsRow base 63 2 (.slice p.1.A p.2.int.length p.1.c) p.2.int.length (sv p.2.int)
theorem OwnSb.nil (w:World) (base:Nat):OwnSb w base none 0 0 []:=⟨World.ownsRow_nil _ _ _ _,by simp⟩
theorem OwnSb.below {w w':World} {base:Nat} {A:Option Addr} {k c:Nat} {L:List (SV×Sb)} (h:OwnSb w base A k c L) (hb:Below w.heap.size w w'):OwnSb w' base A k c L:=
 ⟨own_below h.row hb Zl,fun p hp=>own_below (h.el p hp) hb Zl⟩
theorem OwnSb.less {w:World} {base base':Nat} {A:Option Addr} {k c:Nat} {L:List (SV×Sb)} (h:OwnSb w base A k c L) (hb:base'<=base):OwnSb w base' A k c L:=
 ⟨own_less h.row hb,fun p hp=>own_less (h.el p hp) hb⟩
theorem OwnSb.but {w w':World} {g base:Nat} {A:Option Addr} {k c:Nat} {L:List (SV×Sb)} (h:OwnSb w base A k c L) (hb:But g w w') (hg:g < base):OwnSb w' base A k c L:=
 ⟨own_but h.row hb hg,fun p hp=>own_but (h.el p hp) hb hg⟩
theorem OwnSb.push {w w':World} {base:Nat} {A A':Option Addr} {k c c':Nat} {L:List (SV×Sb)} {p:SV×Sb} (h:OwnSb w base A k c L) (hp:w.ownsRow base 63 2 (.slice p.1.A p.2.int.length p.1.c) p.2.int.length (sv p.2.int))
  (hg:w.grownBy w' (Value.slice A k c).ownBlock) (ho:w'.ownsRow base 65 7 (.slice A' (k+1) c') (k+1) (sbv L++sbl p)):OwnSb w' base A' (k+1) c' (L++[p]):=by
 refine⟨by rw[sbv_app];simpa[sbv] using ho,fun z hz=>?_⟩;rcases List.mem_append.1 hz with hz | hz
 ·exact(h.el z hz).kept hg (own_two (h.el z hz) h.row (by decide))
 ·obtain rfl:z=p:=by simpa using hz
  exact hp.kept hg (own_two hp h.row (by decide))
theorem OwnSb.len {w:World} {base:Nat} {A:Option Addr} {k c:Nat} {L:List (SV×Sb)} (h:OwnSb w base A k c L):L.length=k:=by
 have:=h.row.1;rw[sbv_len] at this;omega
theorem OwnSb.rd {w:World} {base:Nat} {A:Option Addr} {k c:Nat} {L:List (SV×Sb)} (h:OwnSb w base A k c L):RdSb w w.heap.size A k c L:=
 ⟨h.len,Rd.of_own h.row,fun p hp=>Rd.of_own (h.el p hp)⟩
namespace Wq
def repK {α β:Type} (p:List UInt8->Option (α×List UInt8)) (K:List α->List UInt8->Option β) (n:Nat) (l:List UInt8) (acc:List α):Option β:=match pRep p n l with
 | none=>none
 | some (v,q)=>K (acc++v) q
section
variable {α β:Type} {p:List UInt8->Option (α×List UInt8)} {K:List α->List UInt8->Option β} {n:Nat} {l r:List UInt8} {acc:List α} {x:α}
theorem repK_zero:repK p K 0 l acc=K acc l:=by unfold repK pRep;simp
theorem repK_no (h:p l=none):repK p K (n+1) l acc=none:=by unfold repK pRep;rw[h]
theorem repK_yes (h:p l=some (x,r)):repK p K (n+1) l acc=repK p K n r (acc++[x]):=by
 unfold repK;rw[pRep,h];simp only;rcases pRep p n r with _ | ⟨v,q⟩
 ·rfl
 ·simp
end
def lstK {α β:Type} (p:List UInt8->Option (α×List UInt8)) (K:List α->List UInt8->Option β) (l:List UInt8):Option β:=match pN l with
 | none=>none
 | some (n,r)=>repK p K n r []
theorem lst_is {α β:Type} (p:List UInt8->Option (α×List UInt8)) (K:List α->List UInt8->Option β) (l:List UInt8):(match pLst p l with | none=>none | some (v,q)=>K v q)=lstK p K l:=by
 unfold pLst lstK repK;rcases pN l with _ | ⟨n,r⟩
 ·rfl
 ·simp only[List.nil_append]
def vw4 (k:List Vc.St) (z:List Zn) (h:List Wr) (b:List Bd) (l:List UInt8):Option (Vw×List UInt8):=match pI l with
 | none=>none
 | some (m,r)=>some (⟨k,z,h,b,m⟩,r)
def vw3 (k:List Vc.St) (z:List Zn) (h:List Wr) (l:List UInt8):Option (Vw×List UInt8):=lstK pB (fun b q=>vw4 k z h b q) l
def vw2 (k:List Vc.St) (z:List Zn) (l:List UInt8):Option (Vw×List UInt8):=lstK pHd (fun h q=>vw3 k z h q) l
def vw1 (k:List Vc.St) (l:List UInt8):Option (Vw×List UInt8):=lstK pZn (fun z q=>vw2 k z q) l
theorem pVw_is (l:List UInt8):pVw l=(match pV l with | none=>none | some (k,r)=>vw1 k r):=by
 unfold pVw pTwo;rcases pV l with _ | ⟨k,r⟩
 ·rfl
 simp only;unfold vw1;rw[<-lst_is];rcases pLst pZn r with _ | ⟨z,r⟩
 ·rfl
 simp only;unfold vw2;rw[<-lst_is];rcases pLst pHd r with _ | ⟨h,r⟩
 ·rfl
 simp only;unfold vw3;rw[<-lst_is];rcases pLst pB r with _ | ⟨b,r⟩
 ·rfl
 simp only;unfold vw4;rcases pI r with _ | ⟨m,r⟩<;>rfl
theorem pVw_no {l:List UInt8} (h:pV l=none):pVw l=none:=by rw[pVw_is,h]
theorem pVw_yes {l r:List UInt8} {k:List Vc.St} (h:pV l=some (k,r)):pVw l=vw1 k r:=by rw[pVw_is,h]
theorem lstK_no {α β:Type} {p:List UInt8->Option (α×List UInt8)} {K:List α->List UInt8->Option β} {l:List UInt8} (h:pI l=none):lstK p K l=none:=by
 unfold pI at h;unfold lstK;rcases hn:pN l with _ | ⟨n,r⟩
 ·rfl
 ·rw[hn] at h;cases h
theorem lstK_yes {α β:Type} {p:List UInt8->Option (α×List UInt8)} {K:List α->List UInt8->Option β} {l r:List UInt8} {x:Int} (h:pI l=some (x,r)):∃n:Nat,x=(n:Int)/\n < 9223372036854775808/\lstK p K l=repK p K n r []:=by
 unfold pI at h;unfold lstK;rcases hn:pN l with _ | ⟨n,r'⟩
 ·rw[hn] at h;cases h
 ·rw[hn] at h;injection h with h;injection h with h1 h2;subst h1 h2;exact⟨n,rfl,(pN_back hn).2,rfl⟩
theorem lay_pos (n:Nat):0 < (Pk.lay n).length:=by
 rw[Pk.lay];split<;>simp
theorem pZn_short {l r:List UInt8} {x:Zn} (h:pZn l=some (x,r)):r.length < l.length:=by
 rw[(pZn_back h).1,List.length_append];have:=lay_pos x.1.1.toNat;unfold lZn lI;simp only[List.length_append];omega
theorem pHd_short {l r:List UInt8} {x:Wr} (h:pHd l=some (x,r)):r.length < l.length:=by
 rw[(pHd_back h).1,List.length_append];have:=lay_pos x.2.1.toNat;unfold lHd lI;simp only[List.length_append];omega
theorem pB_short {l r:List UInt8} {x:Bd} (h:pB l=some (x,r)):r.length < l.length:=by
 rw[(pB_back h).1,List.length_append];have:=lay_pos x.o.toNat;unfold lB;simp only[List.length_append];omega
end Wq
end Go.Proofs.YtmbeahbgafkjfaaGreatDoor
