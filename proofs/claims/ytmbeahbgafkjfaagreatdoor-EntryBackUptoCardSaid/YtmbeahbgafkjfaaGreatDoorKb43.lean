/- Lemmas for the claim, layer 43. -/
import Derived.Test.YtmbeahbgafkjfaaGreatDoorKb34
import Derived.Test.YtmbeahbgafkjfaaGreatDoorKb42
set_option maxRecDepth 100000
namespace Go.Proofs.YtmbeahbgafkjfaaGreatDoor
open Go.RowKit
def Pnc (K:Act→World→Prop) (R:List PanicEntry→World→Prop) (D:List Deferred):Exit→Act→World→Prop
 | .normal,a,w=>K a w
 | .panic c,a,w=>a.defers=D∧R c w
 | _,_,_=>False
theorem Pnc.out {K:Act→World→Prop} {R:List PanicEntry→World→Prop} {D:List Deferred} {a:Act} {w:World} (h:K a w):Pnc K R D .normal a w:=h
theorem region_pnc {P:Program} {id:Nat} {ops:Array Oper} {d:Bool} {Q:Exit→Act→World→Prop} {a:Act} {w:World} (D:List Deferred)
  (h:∀(K:Act→World→Prop) (R:List PanicEntry→World→Prop),(∀a w,Q .normal a w→K a w)→(∀c w,(∀a,a.defers=D→Q (.panic c) a w)→R c w)→(Code.region id ops d).wp P (Pnc K R D) a w):(Code.region id ops d).wp P Q a w:=by
 refine Code.wp_mono (Q:=Pnc (fun a w=>Q .normal a w) (fun c w=>∀a,a.defers=D→Q (.panic c) a w) D) (fun e a w hh=>?_) (h (fun a w=>Q .normal a w) (fun c w=>∀a,a.defers=D→Q (.panic c) a w) (fun _ _ hh=>hh) (fun _ _ hh=>hh))
 cases e with
 | normal=>exact hh
 | panic c=>exact hh.2 a hh.1
 | _=>exact False.elim hh
theorem body_info:(Tryz.prog.info? 31).map (fun i=>(i.zero,i.size,i.bytes))=some (some (.agg #[.int .i64 0,.int .i64 0,.int .i64 0,.slice none 0 0]),4,48):=by kernel_rfl
theorem sub_info:(Tryz.prog.info? 65).map (fun i=>(i.zero,i.size,i.bytes))=some (some (.agg #[.int .i64 0,.slice none 0 0,.int .i64 0,.int .i64 0,.bool false,.bool false,.bool false]),7,56):=by kernel_rfl
structure OwnBd (w:World) (base:Nat) (A:Option Addr) (k c:Nat) (L:List (BV×Wq.Bd)):Prop where
 row:w.ownsRow base 31 4 (.slice A k c) k (bvv L)
 el:∀p∈L,w.ownsRow base 5 1 (.slice p.1.A p.2.v.length p.1.c) p.2.v.length (bv p.2.v)
theorem OwnBd.nil (w:World) (base:Nat):OwnBd w base none 0 0 []:=⟨World.ownsRow_nil _ _ _ _,by simp⟩
theorem OwnBd.below {w w':World} {base:Nat} {A:Option Addr} {k c:Nat} {L:List (BV×Wq.Bd)} (h:OwnBd w base A k c L) (hb:Below w.heap.size w w'):OwnBd w' base A k c L:=
 ⟨own_below h.row hb (Nat.le_refl _),fun p hp=>own_below (h.el p hp) hb (Nat.le_refl _)⟩
theorem OwnBd.less {w:World} {base base':Nat} {A:Option Addr} {k c:Nat} {L:List (BV×Wq.Bd)} (h:OwnBd w base A k c L) (hb:base'≤base):OwnBd w base' A k c L:=
 ⟨own_less h.row hb,fun p hp=>own_less (h.el p hp) hb⟩
theorem OwnBd.but {w w':World} {g base:Nat} {A:Option Addr} {k c:Nat} {L:List (BV×Wq.Bd)} (h:OwnBd w base A k c L) (hb:But g w w') (hg:g < base):OwnBd w' base A k c L:=
 ⟨own_but h.row hb hg,fun p hp=>own_but (h.el p hp) hb hg⟩
theorem OwnBd.push {w w':World} {base:Nat} {A A':Option Addr} {k c c':Nat} {L:List (BV×Wq.Bd)} {p:BV×Wq.Bd} (h:OwnBd w base A k c L) (hp:w.ownsRow base 5 1 (.slice p.1.A p.2.v.length p.1.c) p.2.v.length (bv p.2.v))
  (hg:w.grownBy w' (Value.slice A k c).ownBlock) (ho:w'.ownsRow base 31 4 (.slice A' (k+1) c') (k+1) (bvv L++bvl p)):OwnBd w' base A' (k+1) c' (L++[p]):=by
 refine⟨by rw[bvv_app];simpa[bvv] using ho,fun z hz=>?_⟩
 rcases List.mem_append.1 hz with hz | hz
 ·exact(h.el z hz).kept hg (own_two (h.el z hz) h.row (by decide))
 ·obtain rfl:z=p:=by simpa using hz
  exact hp.kept hg (own_two hp h.row (by decide))
theorem OwnBd.len {w:World} {base:Nat} {A:Option Addr} {k c:Nat} {L:List (BV×Wq.Bd)} (h:OwnBd w base A k c L):L.length=k:=by
 have:=h.row.1
 rw[bvv_len] at this
 omega
theorem OwnBd.rd {w:World} {base:Nat} {A:Option Addr} {k c:Nat} {L:List (BV×Wq.Bd)} (h:OwnBd w base A k c L) (hw:∀p∈L,(Lit.int .i64 p.2.o).wf=true):RdBs w w.heap.size A k c L:=
 ⟨h.len,Rd.of_own h.row,fun p hp=>Rd.of_own (h.el p hp),hw⟩
theorem OwnBd.row_ {w w':World} {base b size n:Nat} {e:TypeId} {u:Value} {xs:List Value} {A:Option Addr} {k c:Nat} {L:List (BV×Wq.Bd)} (h:OwnBd w base A k c L) (ho:w.ownsRow b e size u n xs) (h1:31≠e) (h2:5≠e) (hg:w.grownBy w' u.ownBlock):OwnBd w' base A k c L:=
 ⟨h.row.kept hg (own_two h.row ho h1),fun p hp=>(h.el p hp).kept hg (own_two (h.el p hp) ho h2)⟩
theorem OwnZ.but {w w':World} {g base:Nat} {A:Option Addr} {k c:Nat} {L:List (ZV×Zn)} (h:OwnZ w base A k c L) (hb:But g w w') (hg:g < base):OwnZ w' base A k c L:=
 ⟨own_but h.row hb hg,fun p hp=>⟨(h.el p hp).1,own_but (h.el p hp).2 hb hg⟩⟩
theorem OwnZ.row_ {w w':World} {base b size n:Nat} {e:TypeId} {u:Value} {xs:List Value} {A:Option Addr} {k c:Nat} {L:List (ZV×Zn)} (h:OwnZ w base A k c L) (ho:w.ownsRow b e size u n xs) (h1:129≠e) (h2:28≠e) (hg:w.grownBy w' u.ownBlock):OwnZ w' base A k c L:=
 ⟨h.row.kept hg (own_two h.row ho h1),fun p hp=>⟨(h.el p hp).1,(h.el p hp).2.kept hg (own_two (h.el p hp).2 ho h2)⟩⟩
structure OwnSb (w:World) (base:Nat) (A:Option Addr) (k c:Nat) (L:List (SV×Sb)):Prop where
 row:w.ownsRow base 65 7 (.slice A k c) k (sbv L)
 el:∀p∈L,w.ownsRow base 63 2 (.slice p.1.A p.2.int.length p.1.c) p.2.int.length (sv p.2.int)
theorem OwnSb.nil (w:World) (base:Nat):OwnSb w base none 0 0 []:=⟨World.ownsRow_nil _ _ _ _,by simp⟩
theorem OwnSb.below {w w':World} {base:Nat} {A:Option Addr} {k c:Nat} {L:List (SV×Sb)} (h:OwnSb w base A k c L) (hb:Below w.heap.size w w'):OwnSb w' base A k c L:=
 ⟨own_below h.row hb (Nat.le_refl _),fun p hp=>own_below (h.el p hp) hb (Nat.le_refl _)⟩
theorem OwnSb.but {w w':World} {g base:Nat} {A:Option Addr} {k c:Nat} {L:List (SV×Sb)} (h:OwnSb w base A k c L) (hb:But g w w') (hg:g < base):OwnSb w' base A k c L:=
 ⟨own_but h.row hb hg,fun p hp=>own_but (h.el p hp) hb hg⟩
theorem OwnSb.push {w w':World} {base:Nat} {A A':Option Addr} {k c c':Nat} {L:List (SV×Sb)} {p:SV×Sb} (h:OwnSb w base A k c L) (hp:w.ownsRow base 63 2 (.slice p.1.A p.2.int.length p.1.c) p.2.int.length (sv p.2.int))
  (hg:w.grownBy w' (Value.slice A k c).ownBlock) (ho:w'.ownsRow base 65 7 (.slice A' (k+1) c') (k+1) (sbv L++sbl p)):OwnSb w' base A' (k+1) c' (L++[p]):=by
 refine⟨by rw[sbv_app];simpa[sbv] using ho,fun z hz=>?_⟩
 rcases List.mem_append.1 hz with hz | hz
 ·exact(h.el z hz).kept hg (own_two (h.el z hz) h.row (by decide))
 ·obtain rfl:z=p:=by simpa using hz
  exact hp.kept hg (own_two hp h.row (by decide))
theorem OwnSb.len {w:World} {base:Nat} {A:Option Addr} {k c:Nat} {L:List (SV×Sb)} (h:OwnSb w base A k c L):L.length=k:=by
 have:=h.row.1
 rw[sbv_len] at this
 omega
theorem OwnSb.rd {w:World} {base:Nat} {A:Option Addr} {k c:Nat} {L:List (SV×Sb)} (h:OwnSb w base A k c L):RdSb w w.heap.size A k c L:=
 ⟨h.len,Rd.of_own h.row,fun p hp=>Rd.of_own (h.el p hp)⟩
namespace Wq
def repK {α β:Type} (p:List UInt8→Option (α×List UInt8)) (K:List α→List UInt8→Option β) (n:Nat) (l:List UInt8) (acc:List α):Option β:=match pRep p n l with
 | none=>none
 | some (v,q)=>K (acc++v) q
section
variable {α β:Type} {p:List UInt8→Option (α×List UInt8)} {K:List α→List UInt8→Option β} {n:Nat} {l r:List UInt8} {acc:List α} {x:α}
theorem repK_zero:repK p K 0 l acc=K acc l:=by unfold repK pRep;simp
theorem repK_no (h:p l=none):repK p K (n+1) l acc=none:=by unfold repK pRep;rw[h]
theorem repK_yes (h:p l=some (x,r)):repK p K (n+1) l acc=repK p K n r (acc++[x]):=by
 unfold repK
 rw[pRep,h]
 simp only
 rcases pRep p n r with _ | ⟨v,q⟩
 ·rfl
 ·simp
end
def lstK {α β:Type} (p:List UInt8→Option (α×List UInt8)) (K:List α→List UInt8→Option β) (l:List UInt8):Option β:=match pN l with
 | none=>none
 | some (n,r)=>repK p K n r []
theorem lst_is {α β:Type} (p:List UInt8→Option (α×List UInt8)) (K:List α→List UInt8→Option β) (l:List UInt8):(match pLst p l with | none=>none | some (v,q)=>K v q)=lstK p K l:=by
 unfold pLst lstK repK
 rcases pN l with _ | ⟨n,r⟩
 ·rfl
 ·simp only[List.nil_append]
def vw4 (k:List Vc.St) (z:List Zn) (h:List Wr) (b:List Bd) (l:List UInt8):Option (Vw×List UInt8):=match pI l with
 | none=>none
 | some (m,r)=>some (⟨k,z,h,b,m⟩,r)
def vw3 (k:List Vc.St) (z:List Zn) (h:List Wr) (l:List UInt8):Option (Vw×List UInt8):=lstK pB (fun b q=>vw4 k z h b q) l
def vw2 (k:List Vc.St) (z:List Zn) (l:List UInt8):Option (Vw×List UInt8):=lstK pHd (fun h q=>vw3 k z h q) l
def vw1 (k:List Vc.St) (l:List UInt8):Option (Vw×List UInt8):=lstK pZn (fun z q=>vw2 k z q) l
theorem pVw_is (l:List UInt8):pVw l=(match pV l with | none=>none | some (k,r)=>vw1 k r):=by
 unfold pVw pTwo
 rcases pV l with _ | ⟨k,r⟩
 ·rfl
 simp only
 unfold vw1
 rw[←lst_is]
 rcases pLst pZn r with _ | ⟨z,r⟩
 ·rfl
 simp only
 unfold vw2
 rw[←lst_is]
 rcases pLst pHd r with _ | ⟨h,r⟩
 ·rfl
 simp only
 unfold vw3
 rw[←lst_is]
 rcases pLst pB r with _ | ⟨b,r⟩
 ·rfl
 simp only
 unfold vw4
 rcases pI r with _ | ⟨m,r⟩<;>rfl
theorem pVw_no {l:List UInt8} (h:pV l=none):pVw l=none:=by rw[pVw_is,h]
theorem pVw_yes {l r:List UInt8} {k:List Vc.St} (h:pV l=some (k,r)):pVw l=vw1 k r:=by rw[pVw_is,h]
theorem lstK_no {α β:Type} {p:List UInt8→Option (α×List UInt8)} {K:List α→List UInt8→Option β} {l:List UInt8} (h:pI l=none):lstK p K l=none:=by
 unfold pI at h
 unfold lstK
 rcases hn:pN l with _ | ⟨n,r⟩
 ·rfl
 ·rw[hn] at h;cases h
theorem lstK_yes {α β:Type} {p:List UInt8→Option (α×List UInt8)} {K:List α→List UInt8→Option β} {l r:List UInt8} {x:Int} (h:pI l=some (x,r)):∃n:Nat,x=(n:Int)∧n < 9223372036854775808∧lstK p K l=repK p K n r []:=by
 unfold pI at h
 unfold lstK
 rcases hn:pN l with _ | ⟨n,r'⟩
 ·rw[hn] at h;cases h
 ·rw[hn] at h
  injection h with h
  injection h with h1 h2
  subst h1 h2
  exact⟨n,rfl,(pN_back hn).2,rfl⟩
theorem lay_pos (n:Nat):0 < (Pk.lay n).length:=by
 rw[Pk.lay]
 split<;>simp
theorem pZn_short {l r:List UInt8} {x:Zn} (h:pZn l=some (x,r)):r.length < l.length:=by
 rw[(pZn_back h).1,List.length_append]
 have:=lay_pos x.1.1.toNat
 unfold lZn lI
 simp only[List.length_append]
 omega
theorem pHd_short {l r:List UInt8} {x:Wr} (h:pHd l=some (x,r)):r.length < l.length:=by
 rw[(pHd_back h).1,List.length_append]
 have:=lay_pos x.2.1.toNat
 unfold lHd lI
 simp only[List.length_append]
 omega
theorem pB_short {l r:List UInt8} {x:Bd} (h:pB l=some (x,r)):r.length < l.length:=by
 rw[(pB_back h).1,List.length_append]
 have:=lay_pos x.o.toNat
 unfold lB
 simp only[List.length_append]
 omega
end Wq
end Go.Proofs.YtmbeahbgafkjfaaGreatDoor
