/- Lemmas for the claim, layer 4. -/
import Derived.Test.YtmbeahbgafkjfaaGreatDoorKq03
set_option maxRecDepth 100000
set_option maxHeartbeats 16000000
namespace Go.Proofs.YtmbeahbgafkjfaaGreatDoor
def shF:Int→List Wr→Bool
 | _,[]=>true
 | last,w :: r=>((decide (0≤w.2.1) && decide (w.2.1≤255)) && Vc.right w.1) && (decide (last < w.2.1) && shF w.2.1 r)
theorem shF_rise:∀{l:List Wr} {last:Int},shF last l=true→rise last l=true
 | [],_,_=>rfl
 | w :: r,last,h=>by
  simp only[shF,Bool.and_eq_true] at h
  rw[rise,h.2.1,shF_rise h.2.2];rfl
theorem shF_drop (last:Int) (l:List Wr) (k:Nat) (h:k < l.length):shF last (l.drop k)=(((decide (0≤l[k].2.1) && decide (l[k].2.1≤255)) && Vc.right l[k].1) && (decide (last < l[k].2.1) && shF l[k].2.1 (l.drop (k+1)))):=by
 rw[List.drop_eq_getElem_cons h,shF]
def usedB:List Wq.Bd→Nat
 | []=>0
 | x :: r=>x.v.length+usedB r
theorem usedB_snoc (l:List Wq.Bd) (x:Wq.Bd):usedB (l++[x])=usedB l+x.v.length:=by
 induction l with
 | nil=>simp[usedB]
 | cons y r ih=>rw[List.cons_append,usedB,usedB,ih];omega
def newsB:List Int→List Wq.Bd→Bool
 | _,[]=>true
 | seen,x :: r=>(!seen.contains x.o && Wq.bdF x) && newsB (seen++[x.o]) r
theorem newsB_drop (seen:List Int) (l:List Wq.Bd) (k:Nat) (h:k < l.length):newsB seen (l.drop k)=((!seen.contains l[k].o && Wq.bdF l[k]) && newsB (seen++[l[k].o]) (l.drop (k+1))):=by
 rw[List.drop_eq_getElem_cons h,newsB]
def caF (l:List Wq.Bd) (room:Int):Bool:=(decide (0≤room) && (decide (room≤16777216) && decide (l.length≤256))) && (newsB [] l && decide ((usedB l:Int)≤room))
structure Vw where
 known:List Vc.St
 zones:List Zn
 held:List Wr
 bods:List Wq.Bd
 room:Int
def reachd (z:List Zn) (known:List Vc.St) (w:Wr):Bool:=hasB (reach z known w.2.1) w.1
def wantd (held:List Wr) (x:Wq.Bd):Bool:=match atO held x.o with
 | none=>false
 | some w=>decide (w.1=x.s) && !w.2.2
def ahead1 (known:List Vc.St) (x:Zn):Bool:=decide (standB (covB (Vc.cnt x.2) (Vc.cnt known)) (covB (Vc.cnt known) (Vc.cnt x.2))=1)
def vwF (v:Vw):Bool:=(fm (-1) v.known && (zF (-1) none v.zones && (shF (-1) v.held && caF v.bods v.room))) && (v.zones.all (ahead1 v.known) && (v.held.all (reachd v.zones v.known) && v.bods.all (wantd v.held)))
structure Sb where
 from_:Int
 int:List Sn.Sp
 ses:Int
 seq:Int
 live:Bool
 heard:Bool
 idle:Bool
def sbZ (s:Sb):Bool:=(decide (s.ses=0) && decide (s.seq=0)) && (!s.live && (!s.heard && !s.idle))
def sbF (last:Int) (s:Sb):Bool:=(decide (last < s.from_) && decide (s.from_≤63)) && ((!s.int.isEmpty && Sn.fmS (-2) s.int) && sbZ s)
def rstF:Int→List Sb→Bool
 | _,[]=>true
 | last,s :: r=>sbF last s && rstF s.from_ r
def restF (l:List Sb):Bool:=rstF (-1) l && decide (l.length≤16)
theorem rstF_drop (last:Int) (l:List Sb) (k:Nat) (h:k < l.length):rstF last (l.drop k)=(sbF last l[k] && rstF l[k].from_ (l.drop (k+1))):=by
 rw[List.drop_eq_getElem_cons h,rstF]
structure Ent where
 kind:Int
 note:Nt
 body:Wq.Bd
 from_:Int
 int:List Sn.Sp
 view:Vw
 subs:List Sb
def bareB (x:Wq.Bd):Bool:=decide (x.o=0) && (decide (x.s=(0,0)) && x.v.isEmpty)
def emptyN (n:Nt):Bool:=(n.s.isEmpty && n.e.isEmpty) && (n.b.isEmpty && n.w.isEmpty)
def blankV (v:Vw):Bool:=((v.known.isEmpty && v.zones.isEmpty) && (v.held.isEmpty && v.bods.isEmpty)) && decide (v.room=0)
def noSub (x:Ent):Bool:=decide (x.from_=0) && x.int.isEmpty
def noChk (x:Ent):Bool:=blankV x.view && x.subs.isEmpty
def ofWr (w:Wr) (x:Wq.Bd):Bool:=if w.2.2=true then bareB x else (Wq.bdF x && (decide (x.o=w.2.1) && decide (x.s=w.1)))
def entF (x:Ent):Bool:=
 if x.kind=1 then ntF x.note && (bareB x.body && (noSub x && noChk x))
 else if x.kind=2 then emptyN x.note && (Wq.bdF x.body && (noSub x && noChk x))
 else if x.kind=3 then (noSub x && noChk x) && (match x.note.w with
  | [w]=>ntF x.note && ofWr w x.body
  | _=>false)
 else if x.kind=4 then (emptyN x.note && (bareB x.body && noChk x)) && ((decide (0≤x.from_) && decide (x.from_≤63)) && Sn.fmS (-2) x.int)
 else if x.kind=5 then (emptyN x.note && (bareB x.body && noSub x)) && (vwF x.view && restF x.subs)
 else false
/-! ### Bytes -/
open Wq
def lI (n:Int):List UInt8:=Pk.lay n.toNat
def lZn (x:Zn):List UInt8:=lI x.1.1++(lI x.1.2++lV x.2)
def lHd (w:Wr):List UInt8:=lI w.2.1++(lI w.1.2++(lI w.1.1++lI (if w.2.2=true then 1 else 0)))
def lVw (v:Vw):List UInt8:=lV v.known++(Pk.lay v.zones.length++(v.zones.flatMap lZn++(Pk.lay v.held.length++(v.held.flatMap lHd++(Pk.lay v.bods.length++(v.bods.flatMap lB++lI v.room))))))
def lSb (s:Sb):List UInt8:=lI s.from_++lS s.int
def lEnt (x:Ent):List UInt8:=lI x.kind++(
 if x.kind=1 then lNt x.note
 else if x.kind=2 then lB x.body
 else if x.kind=3 then lNt x.note++(match x.note.w with
  | w :: _=>if w.2.2=true then [] else lB x.body
  | []=>[])
 else if x.kind=4 then lI x.from_++lS x.int
 else lVw x.view++(Pk.lay x.subs.length++x.subs.flatMap lSb))
open Go.RowKit
def b256 (p:Nat→Bool):Array Value:=((List.range 256).map fun n=>.bool (p n)).toArray
theorem b256_size (p:Nat→Bool):(b256 p).size=256:=by simp[b256]
theorem b256_at (p:Nat→Bool) (n:Nat) (hn:n < 256):(b256 p)[n]?=some (.bool (p n)):=by simp[b256,hn]
def updB (p:Nat→Bool) (m:Nat) (b:Bool):Nat→Bool:=fun n=>if n=m then b else p n
theorem b256_set (p:Nat→Bool) (m:Nat) (b:Bool) (hm:m < 256):(b256 p).setIfInBounds m (.bool b)=b256 (updB p m b):=by
 apply Array.ext_getElem?
 intro i
 rw[Array.getElem?_setIfInBounds]
 by_cases hi:i < 256
 ·rw[b256_at (updB p m b) i hi]
  by_cases he:m=i
  ·subst he;simp[b256_size,updB,hm]
  ·rw[if_neg he,b256_at p i hi,updB,if_neg (by omega)]
 ·rw[if_neg (by omega),Array.getElem?_eq_none (by rw[b256_size];omega),Array.getElem?_eq_none (by rw[b256_size];omega)]
theorem b256_congr {p q:Nat→Bool} (e:∀n,n < 256→p n=q n):b256 p=b256 q:=by
 unfold b256
 congr 1
 exact List.map_congr_left fun n hn=>by rw[e n (by simpa using hn)]
theorem b256_oneCell (p:Nat→Bool):(b256 p).all (·.oneCell')=true:=by
 rw[Array.all_eq_true']
 intro x hx
 simp only[b256,List.mem_toArray,List.mem_map] at hx
 obtain⟨n,_,rfl⟩:=hx
 rfl
theorem zero_marks:(Tryz.prog.info? 149).map (fun i=>(i.zero,i.size))=some (some (.agg (b256 (fun _=>false))),256):=by kernel_rfl
theorem span_info:(Tryz.prog.info? 63).map (fun i=>(i.zero,i.size,i.bytes))=some (some (.agg #[.int .i64 0,.int .i64 0]),2,16):=by kernel_rfl
theorem setOf_next (l:List Sn.Sp) (k:Nat) (h:k < l.length) (o:Nat):Sn.setOf (l.take (k+1)) o=(Sn.setOf (l.take k) o || (decide (l[k].1≤(o:Int)) && decide ((o:Int)≤l[k].2))):=by
 unfold Sn.setOf
 rw[List.take_succ_eq_append_getElem h,Sn.inB_app]
 simp[Sn.inB]
def part (p:Nat→Bool) (lo o:Nat):Nat→Bool:=fun n=>p n || (decide (lo≤n) && decide (n < o))
theorem part_start (p:Nat→Bool) (lo:Nat):∀n,part p lo lo n=p n:=fun n=>by
 unfold part
 have:(decide (lo≤n) && decide (n < lo))=false:=by simp
 rw[this,Bool.or_false]
theorem part_next (p:Nat→Bool) (lo o:Nat) (h:lo≤o):∀n,updB (part p lo o) o true n=part p lo (o+1) n:=fun n=>by
 unfold updB part
 by_cases e:n=o
 ·subst e;simp
  exact .inr h
 ·rw[if_neg e]
  have:decide (n < o+1)=decide (n < o):=by simp;omega
  rw[this]
theorem refSet_any (A:Option Addr) (n c:Nat) (l:List Sn.Sp) (w:World) (hl:l.length=n) (hR:Rd w w.heap.size 2 A n c (sv l)):
  Calls Tryz.prog 118 #[.slice A n c] w fun e w'=>e=.returned (.agg (b256 (Sn.setOf l)))∧Below w.heap.size w w':=by
 obtain⟨hz,hi⟩:=zero_of_info zero_marks
 have HI:=Hz_ hi
 clear hi
 have hmax:n≤9223372036854775807:=by have h1:=hR.cap;have h2:=hR.max;unfold maxLen at h2;omega
 go_enter Tryz.func118,Tryz.ntmps118
 go_wp2
 go_loopw [4] (fun i wr=>∃k:Nat,k≤n∧i=.int .i64 k∧Below w.heap.size w wr∧Blk wr w.heap.size 149 (b256 fun _=>false)∧Blk wr (w.heap.size+1) 149 (b256 (Sn.setOf (l.take k)))) (fun i _=>n - (intOf i).toNat)
 case atStart=>
  refine⟨0,by omega,rfl,((Below.refl _ _).alloc (Nat.le_refl _) _).alloc (by simp) _,(Blk.new _ _ _).alloc _,?_⟩
  have:=Blk.new (w.alloc (.cells (b256 fun _=>false) 149)) 149 (b256 fun _=>false)
  rw[World.size_alloc] at this
  exact this
 case round=>
  obtain⟨k,hk,rfl,hb,hz2,hblk⟩:=hrel
  have HB:=Hz_ hb
  have HZ:=Hz_ hz2
  by_cases hlt:k < n
  ·have hkl:k < l.length:=by omega
   obtain⟨b,o,rfl,hab,g0,g1⟩:=hR.stamp hl hlt
   have h0:=(hb.cell (p:=⟨b,o+k * 2,none⟩) hab).trans g0
   have h1:=(hb.cell (p:=⟨b,o+k * 2+1,none⟩) hab).trans g1
   have HS:=Hz_ (setOf_next l k hkl)
   have HK:=Hz_ hblk
   generalize hlo:(l[k]'hkl).1=lo at h0 g0 HS
   generalize hhi:(l[k]'hkl).2=hi at h1 g1 HS
   clear hlo hhi hblk hb hz2
   by_cases hp:0 < lo
   all_goals
    obtain⟨lo',hlo',HL⟩:∃lo':Nat,(lo=(lo':Int)∨(¬ 0 < lo∧lo'=0))∧Hid (∀m:Nat,lo≤(m:Int)↔lo'≤m):=by
     by_cases h:0 < lo
     ·exact⟨lo.toNat,.inl (by omega),fun m=>by omega⟩
     ·exact⟨0,.inr ⟨h,rfl⟩,fun m=>by omega⟩
    have hst:Hid (∀x:Int,(x=lo∧0 < lo∨x=0∧¬ 0 < lo)→x=(lo':Int)):=fun x hx=>by omega
    clear hlo'
    go_wp2
    go_loopw [5] (fun x wr=>∃j:Nat,lo'≤j∧j≤max lo' 256∧x=.int .i64 j∧Below w.heap.size w wr∧Blk wr w.heap.size 149 (b256 fun _=>false) ∧
     Blk wr (w.heap.size+1) 149 (b256 (part (Sn.setOf (l.take k)) lo' j))∧Hid (lo' < j→(j:Int) - 1≤hi)) (fun x _=>256 - (intOf x).toNat)
    case atStart=>
     refine⟨lo',Nat.le_refl _,by omega,?_,HB.out,HZ.out,?_,fun h=>absurd h (by omega)⟩
     ·have:=hst.out _ (by first | exact .inl ⟨rfl,hp⟩ | exact .inr ⟨rfl,hp⟩)
      first | (rw[this];done) | (rw[←this];done) | exact congrArg _ this
     ·rw[b256_congr fun n _=>part_start _ lo' n];exact HK.out
    case round=>
     obtain⟨j,hj1,hj2,rfl,hb5,q1,q2,hq⟩:=hrel
     have HB5:=Hz_ hb5
     have Q1:=Hz_ q1
     have Q2:=Hz_ q2
     have hsz:=q2.lt
     have k1:=(hb5.cell (p:=⟨b,o+k * 2+1,none⟩) hab).trans g1
     have fj:=q2.frozen j
     clear hb5 q1 q2
     by_cases hm:hi < 255
     all_goals
      by_cases hj:(j:Int)≤255∧(j:Int)≤hi
      ·obtain⟨hja,hjb⟩:=hj
       have gj:=Q2.out.cell j
       rw[b256_at _ _ (by omega)] at gj
       go_wp2
       go_roundw
       case rel=>
        refine⟨j+1,by omega,by omega,by go_num,HB5.out.setCell (p:=⟨w.heap.size+1,j,none⟩) (by show _≤w.heap.size+1;omega) _,Blk.far Q1.out (by simp) _,?_,fun _=>by omega⟩
        have h5:=Q2.out.set_ j (.bool true)
        rw[b256_set _ _ _ (by omega),b256_congr (fun n _=>part_next _ _ _ hj1 n)] at h5
        exact h5
       case measure=>simp[intOf];omega
      ·go_wp2
       go_roundw
       case rel=>
        refine⟨k+1,by omega,by go_num,HB5.out,Q1.out,?_⟩
        have hh:∀n:Nat,n < 256→part (Sn.setOf (l.take k)) lo' j n=Sn.setOf (l.take (k+1)) n:=fun n hn=>by
         rw[HS.out n,part]
         congr 1
         have e1:=HL.out n
         have e2:=hq.out
         rw[Bool.eq_iff_iff]
         simp only[Bool.and_eq_true,decide_eq_true_eq]
         omega
        rw[←b256_congr hh]
        exact Q2.out
       case measure=>simp[intOf];omega
  ·obtain rfl:k=n:=by omega
   have ht:l.take k=l:=List.take_of_length_le (by omega)
   rw[ht] at hblk
   have HK:=Hz_ hblk
   clear hR hblk hz2 ht hl
   go_wp2_with (first
    | (refine wpList_load_row rfl 149 _ rfl (w.heap.size+1) rfl 149 _ _ _ HK.out Tryz.underlying149 rfl (by rw[b256_size];exact HI.out) ?_)
    | (refine wpList_store_blk rfl 149 _ _ rfl w.heap.size 149 _ (b256 (Sn.setOf l)) rfl rfl HZ.out (by rw[b256_size];exact HI.out) rfl (b256_oneCell _) ?_;intro w4 hk4 hg4))
   refine bodyPost_ret (results_cell_row rfl _ _ w.heap.size 149 _ _ _ rfl hk4 Tryz.underlying149 rfl (by rw[b256_size];exact HI.out)) rfl ⟨rfl,HB.out.trans (grown_below hg4 HB.out.size (fun k hk=>by cases hk;exact Nat.le_refl _))⟩
theorem ext_len (l:List Sn.Sp) (x:Int):(Sn.ext l x).length=l.length:=by
 rcases List.eq_nil_or_concat l with rfl | ⟨r,s,rfl⟩
 ·rfl
 ·rw[List.concat_eq_append,Sn.ext_snoc];simp
theorem sv_ext (l:List Sn.Sp) (x:Int) (h:l≠[]):sv (Sn.ext l x)=(sv l).set ((l.length - 1) * 2+1) (.int .i64 x):=by
 rcases List.eq_nil_or_concat l with rfl | ⟨r,s,rfl⟩
 ·exact absurd rfl h
 ·rw[List.concat_eq_append,Sn.ext_snoc,sv_app,sv_app,List.length_append,List.length_singleton,Nat.add_sub_cancel,List.set_append_right _ _ (by rw[sv_len];omega),sv_len,Nat.add_sub_cancel_left]
  rfl
theorem ofTo_hit (p:Nat→Bool) (k:Nat) (h:p k=true) (h2:¬ (k≠0∧p (k - 1)=true)):Sn.ofTo p (k+1)=Sn.ofTo p k++[((k:Int),(k:Int))]:=by rw[Sn.ofTo,if_pos h,if_neg h2]
theorem ofTo_ext (p:Nat→Bool) (k:Nat) (h:p k=true) (h2:k≠0∧p (k - 1)=true):Sn.ofTo p (k+1)=Sn.ext (Sn.ofTo p k) k:=by rw[Sn.ofTo,if_pos h,if_pos h2]
theorem ofTo_miss (p:Nat→Bool) (k:Nat) (h:p k=false):Sn.ofTo p (k+1)=Sn.ofTo p k:=by rw[Sn.ofTo,if_neg (by simp[h])]
theorem refOfS_any (p:Nat→Bool) (w:World):
  Calls Tryz.prog 117 #[.agg (b256 p)] w fun e w'=>∃A' c',e=.returned (.slice A' (Sn.of p).length c') ∧
   w'.ownsRow w.heap.size 63 2 (.slice A' (Sn.of p).length c') (Sn.of p).length (sv (Sn.of p))∧Below w.heap.size w w':=by
 obtain⟨i0,hi0,hz0,hz1,hz2⟩:=info_parts span_info
 go_enter Tryz.func117,Tryz.ntmps117
 go_wp2
 go_loopw [3,4] (fun s i wr=>∃(k m c':Nat) (A':Option Addr),k≤256∧i=.int .i64 k∧s=.slice A' m c'∧m≤k∧Below w.heap.size w wr∧Blk wr w.heap.size 149 (b256 p) ∧
  Hid ((Sn.ofTo p k).length=m)∧wr.ownsRow (w.heap.size+1) 63 2 (.slice A' m c') m (sv (Sn.ofTo p k))) (fun _ i _=>256 - (intOf i).toNat)
 case atStart=>exact⟨0,0,0,none,by omega,rfl,rfl,by omega,(Below.refl _ _).alloc (Nat.le_refl _) _,Blk.new _ _ _,rfl,World.ownsRow_nil _ _ _ _⟩
 case round=>
  obtain⟨k,m,c',A',hk,rfl,rfl,hm,hb,hblk,hlen,ho⟩:=hrel
  have HO:=Hz_ ho
  have HK:=Hz_ hblk
  have HB:=Hz_ hb
  have hsz:=hblk.lt
  clear ho hb
  by_cases hlt:k < 256
  ·have gk:=hblk.cell k
   rw[b256_at _ _ hlt] at gk
   rcases hp:p k with _ | _
   ·have HN:=Hz_ (ofTo_miss p k hp)
    rw[hp] at gk
    clear hblk hp
    go_wp2
    go_roundw
    case rel=>exact⟨k+1,m,c',A',by omega,by go_num,rfl,by omega,HB.out,HK.out,by show _=_;rw[HN.out,hlen.out],by rw[HN.out];exact HO.out⟩
    case measure=>simp[intOf];omega
   ·rw[hp] at gk
    by_cases hext:k≠0∧p (k - 1)=true
    ·have hn1:Sn.ofTo p k≠[]:=(Sn.ofTo_ok p k hk).2.2.2 hext
     have hm0:0 < m:=by rw[←hlen.out];exact List.length_pos_iff.2 hn1
     have HN:=Hz_ (ofTo_ext p k hp hext)
     have HX:=Hz_ (sv_ext (Sn.ofTo p k) k hn1)
     obtain⟨hk0,hp1⟩:=hext
     have gk1:=hblk.cell (k - 1)
     rw[b256_at _ _ (by omega),hp1] at gk1
     obtain⟨j,hj⟩:∃j,k=j+1:=⟨k - 1,by omega⟩
     subst hj
     rw[Nat.add_sub_cancel] at gk1
     obtain⟨i,rfl⟩:∃i,m=i+1:=⟨m - 1,by omega⟩
     obtain⟨g,cap,hv,hbg,hlg⟩:=HO.out.form (by omega)
     obtain⟨rfl,rfl⟩:A'=some ⟨g,0,none⟩∧c'=cap:=by injection hv with a1 a2 a3;exact⟨a1,a3⟩
     have fz:=HO.out.frozenAt (i * 2+1)
     have hcl:=HO.out.cellAt (i * 2+1) (by have:=HO.out.1;omega)
     obtain⟨u,hu⟩:∃u,(sv (Sn.ofTo p (j+1)))[i * 2+1]?=some u:=⟨_,List.getElem?_eq_getElem (by have:=HO.out.1;omega)⟩
     rw[hu] at hcl
     have e1:(((j+1:Nat):Int) - 1)=(j:Int):=by omega
     have e2:(((i+1:Nat):Int) - 1)=(i:Int):=by omega
     have hst:=HO.out.stored (i * 2+1) (.int .i64 ((j+1:Nat):Int))
     have HST:=Hz_ hst
     clear hblk hp hp1 hv hu hst
     go_wp2
     go_roundw
     case rel=>
      refine⟨j+1+1,i+1,c',some ⟨g,0,none⟩,by omega,by go_num,rfl,by omega,HB.out.setCell (p:=⟨g,i * 2+1,none⟩) (by show _≤g;omega) _,Blk.far HK.out (by show _≠g;omega) _,?_,?_⟩
      ·show _=_
       rw[HN.out,ext_len,hlen.out]
      ·rw[HN.out,HX.out,hlen.out,Nat.add_sub_cancel]
       exact HST.out.1
     case measure=>simp[intOf];omega
    ·have HN:=Hz_ (ofTo_hit p k hp hext)
     have h63:m+1≤maxLen:=by unfold maxLen;omega
     have h1max:1≤maxLen:=by unfold maxLen;omega
     by_cases hk0:k=0
     ·subst hk0
      clear hblk hp hext
      go_wp2_with (at_builtin;go_must (refine wpList_append_rd _ rfl (.tmp 28) (.tmp 32) _ rfl (w.heap.size+1) 63 i0 _ 2 16 Tryz.underlying23 hi0 hz0 hz1 hz2 rfl (by decide) (.slice A' m c') m _ rfl (HO.out.alloc _) (wr.heap.size+1) (some ⟨wr.heap.size,0,none⟩) 1 1 [.int .i64 ((0:Nat):Int),.int .i64 ((0:Nat):Int)] rfl (Rd.new wr _ 2 1 #[.int .i64 ((0:Nat):Int),.int .i64 ((0:Nat):Int)] rfl h1max) (sv_oneCell [(((0:Nat):Int),((0:Nat):Int))]) h63 (by omega) (by simp;omega) ?_);intro A3 c3 w3 ho3 hg3 hat3)
      go_roundw
      case rel=>
       refine⟨0+1,m+1,c3,A3,by omega,by go_num,rfl,by omega,(HB.out.alloc (by omega) _).trans (grown_below hg3 (by simp;omega) (fun g hg=>by have:=own_lt HO.out g hg;omega)),(HK.out.alloc _).grown hg3 (fun e=>by have:=own_lt HO.out _ e.symm;omega),?_,?_⟩
       ·show _=_
        rw[HN.out,List.length_append,hlen.out];rfl
       ·rw[HN.out,sv_app]
        exact ho3
      case measure=>simp[intOf]
     ·have hp1:p (k - 1)=false:=by
       rcases hh:p (k - 1) with _ | _
       ·rfl
       ·exact absurd ⟨hk0,hh⟩ hext
      have gk1:=hblk.cell (k - 1)
      rw[b256_at _ _ (by omega),hp1] at gk1
      obtain⟨j,hj⟩:∃j,k=j+1:=⟨k - 1,by omega⟩
      subst hj
      rw[Nat.add_sub_cancel] at gk1
      have e1:(((j+1:Nat):Int) - 1)=(j:Int):=by omega
      clear hblk hp hp1 hext
      go_wp2_with (at_builtin;go_must (refine wpList_append_rd _ rfl (.tmp 28) (.tmp 32) _ rfl (w.heap.size+1) 63 i0 _ 2 16 Tryz.underlying23 hi0 hz0 hz1 hz2 rfl (by decide) (.slice A' m c') m _ rfl (HO.out.alloc _) (wr.heap.size+1) (some ⟨wr.heap.size,0,none⟩) 1 1 [.int .i64 ((j+1:Nat):Int),.int .i64 ((j+1:Nat):Int)] rfl (Rd.new wr _ 2 1 #[.int .i64 ((j+1:Nat):Int),.int .i64 ((j+1:Nat):Int)] rfl h1max) (sv_oneCell [(((j+1:Nat):Int),((j+1:Nat):Int))]) h63 (by omega) (by simp;omega) ?_);intro A3 c3 w3 ho3 hg3 hat3)
      go_roundw
      case rel=>
       refine⟨j+1+1,m+1,c3,A3,by omega,by go_num,rfl,by omega,(HB.out.alloc (by omega) _).trans (grown_below hg3 (by simp;omega) (fun g hg=>by have:=own_lt HO.out g hg;omega)),(HK.out.alloc _).grown hg3 (fun e=>by have:=own_lt HO.out _ e.symm;omega),?_,?_⟩
       ·show _=_
        rw[HN.out,List.length_append,hlen.out];rfl
       ·rw[HN.out,sv_app]
        exact ho3
      case measure=>simp[intOf];omega
  ·obtain rfl:k=256:=by omega
   clear hblk
   go_wp2
   go_ret
   have hl:(Sn.of p).length=m:=hlen.out
   exact⟨A',c',by rw[hl];rfl,by rw[hl];exact own_less HO.out (by omega),HB.out⟩
theorem sameS_any (A D:Option Addr) (n c m d:Nat) (u v:List Vc.St) (w:World) (hl:u.length=n) (hl2:v.length=m) (hR:Rd w w.heap.size 2 A n c (sv u)) (hR2:Rd w w.heap.size 2 D m d (sv v)):
  Calls Tryz.prog 62 #[.slice A n c,.slice D m d] w fun e w'=>e=.returned (.bool (decide (u=v)))∧Below w.heap.size w w':=by
 have hmax:n≤9223372036854775807:=by have h1:=hR.cap;have h2:=hR.max;unfold maxLen at h2;omega
 by_cases hnm:n=m
 ·subst hnm
  go_enter Tryz.func62,Tryz.ntmps62
  go_wp2
  go_loopw [5] (fun i wr=>∃(k:Nat),k≤n∧i=.int .i64 k∧decide (u=v)=decide (u.drop k=v.drop k)∧Below w.heap.size w wr) (fun i _=>n - (intOf i).toNat)
  case atStart=>exact⟨0,by omega,rfl,rfl,Below.refl _ _⟩
  case round=>
   obtain⟨k,hk,rfl,hdd,hb⟩:=hrel
   by_cases hlt:k < n
   ·have hk1:k < u.length:=by omega
    have hk2:k < v.length:=by omega
    obtain⟨b,o,rfl,hab,h0,h1⟩:=(hR.below hb).stamp hl hlt
    obtain⟨b2,o2,rfl,hab2,h02,h12⟩:=(hR2.below hb).stamp hl2 hlt
    have HD:=Hz_ hdd
    have HE:=Hz_ (show u[k]=((u[k]'hk1).1,(u[k]'hk1).2) from rfl)
    have HE2:=Hz_ (show v[k]=((v[k]'hk2).1,(v[k]'hk2).2) from rfl)
    generalize (u[k]'hk1).1=sc at h0 HE
    generalize (u[k]'hk1).2=sn at h1 HE
    generalize (v[k]'hk2).1=tc at h02 HE2
    generalize (v[k]'hk2).2=tn at h12 HE2
    have HB:=Hz_ hb
    clear hdd hb hR hR2
    by_cases e1:sc=tc
    ·subst e1
     by_cases e2:sn=tn
     ·subst e2
      have HN:=Hz_ (dec_drop hk1 hk2 (by rw[HE.out,HE2.out]))
      go_wp2
      go_quiet (fail)
      go_wp2
      go_roundw
      case rel=>exact⟨k+1,by omega,by go_num,by rw[HD.out,HN.out],below_drewN HB.out _⟩
      case measure=>simp[intOf];omega
     ·have HN:=Hz_ (show decide (u=v)=false by
       rw[decide_eq_false_iff_not];intro h;subst h;exact e2 (congrArg Prod.snd (HE.out.symm.trans HE2.out)))
      go_wp2
      go_quiet (fail)
      go_wp2
      go_ret
      exact⟨by rw[HN.out];rfl,below_drewN HB.out _⟩
    ·have HN:=Hz_ (show decide (u=v)=false by
      rw[decide_eq_false_iff_not];intro h;subst h;exact e1 (congrArg Prod.fst (HE.out.symm.trans HE2.out)))
     go_wp2
     go_quiet (fail)
     go_wp2
     go_ret
     exact⟨by rw[HN.out];rfl,below_drewN HB.out _⟩
   ·obtain rfl:k=n:=by omega
    have HX:=Hz_ (show decide (u=v)=true by rw[hdd,List.drop_of_length_le (by omega),List.drop_of_length_le (by omega)];simp)
    clear hdd
    go_wp2
    go_ret
    exact⟨by rw[HX.out];rfl,hb⟩
 ·have HN:=Hz_ (show decide (u=v)=false by rw[decide_eq_false_iff_not];intro h;subst h;omega)
  have hne:¬ ((n:Int)=(m:Int)):=by omega
  go_enter Tryz.func62,Tryz.ntmps62
  go_wp2
  all_goals first
   | (exfalso;omega)
   | (go_ret;exact⟨by rw[HN.out];rfl,Below.refl _ _⟩)
theorem refFormedS_any (A:Option Addr) (n c:Nat) (l:List Sn.Sp) (w:World) (hl:l.length=n) (hR:Rd w w.heap.size 2 A n c (sv l)):
  Calls Tryz.prog 46 #[.slice A n c] w fun e w'=>e=.returned (.bool (Sn.fmS (-2) l))∧Below w.heap.size w w':=by
 have HF:=Hz_ (Sn.formed_both l)
 by_cases h128:n≤128
 ·have HR:=Hz_ hR
  have H1:=Hz_ (refSet_any A n c l w hl hR)
  obtain⟨r,hr⟩:∃r,r=Sn.of (Sn.setOf l):=⟨_,rfl⟩
  have H2:=fun W=>refOfS_any (Sn.setOf l) W
  rw[←hr] at H2
  obtain⟨m,hm⟩:∃m,m=r.length:=⟨_,rfl⟩
  rw[←hm] at H2
  have H3:=Hz_ fun (W:World) D d hR hD=>sameS_any A D n c m d l r W hl hm.symm hR hD
  have HX:=Hz_ (show decide (l=r)=Sn.fmS (-2) l by rw[HF.out,hl,decide_eq_true h128,Bool.true_and,hr])
  rw[HX.out] at H3
  have H2:=Hz_ H2
  generalize Sn.fmS (-2) l=z at H3 ⊢
  generalize Sn.setOf l=q at H1 H2
  clear hR hl hr hm HF HX
  go_enter Tryz.func46,Tryz.ntmps46
  go_wp2_with fail
  refine H1.out.mono ?_
  rintro e w1 ⟨rfl,hb1⟩
  go_wp2_with fail
  refine(H2.out w1).mono ?_
  rintro e w2 ⟨D,d,rfl,ho,hb2⟩
  have hb:=btn hb1 hb2
  go_wp2_with fail
  refine(H3.out w2 D d (HR.out.go hb) (Rd.of_own ho)).mono ?_
  rintro e w3 ⟨rfl,hb3⟩
  go_wp2
  go_ret
  exact⟨rfl,btn hb hb3⟩
 ·have HN:=Hz_ (show Sn.fmS (-2) l=false by rw[HF.out,hl,decide_eq_false h128];rfl)
  have hd:decide ((n:Int)≤128)=false:=by simp;omega
  clear HF hR hl
  go_enter Tryz.func46,Tryz.ntmps46
  go_wp2
  go_ret
  exact⟨by rw[HN.out];rfl,Below.refl _ _⟩
theorem refHasS_any (A:Option Addr) (n c:Nat) (l:List Sn.Sp) (x:Int) (w:World) (hl:l.length=n) (hR:Rd w w.heap.size 2 A n c (sv l)):
  Calls Tryz.prog 115 #[.slice A n c,.int .i64 x] w fun e w'=>e=.returned (.bool (hasO l x))∧Below w.heap.size w w':=by
 by_cases h:0≤x∧x≤255
 ·have HX:=Hz_ (show hasO l x=Sn.inB l x by unfold hasO;simp[h.1,h.2])
  obtain⟨h1,h2⟩:=h
  obtain⟨k,rfl⟩:=Int.eq_ofNat_of_zero_le h1
  have H1:=refSet_any A n c l w hl hR
  have hY:Sn.inB l (k:Int)=Sn.setOf l k:=rfl
  rw[hY] at HX
  generalize Sn.setOf l=q at H1 HX
  have H1:=Hz_ H1
  have hix:∀W,(Instr.index 149 (.agg (b256 q)) (.int .i64 (k:Int))).run Tryz.prog W=.ok (.bool (q k)) W:=by
   intro W
   have hk:k < 256:=by omega
   have hk2:0≤(k:Int)∧(k:Int) < ((256:Nat):Int):=by omega
   have hat:=b256_at q k hk
   simp[Instr.index,run_underlying Tryz.underlying149,asIntOf,hk,hk2,hat,go_sem]
  clear hY hl hR
  go_enter Tryz.func115,Tryz.ntmps115
  go_wp2_with (go_at_call 118;go_must (refine H1.out.mono ?_);rintro e w1 ⟨rfl,hb1⟩)
  go_ret
  exact⟨by rw[HX.out];rfl,hb1⟩
 ·have HX:=Hz_ (show hasO l x=false by unfold hasO;simp;omega)
  clear hl hR
  by_cases h1:0≤x
  ·have h2:255 < x:=by omega
   have hd:decide (x≤255)=false:=by simp;omega
   clear h
   go_enter Tryz.func115,Tryz.ntmps115
   go_wp2
   go_ret
   exact⟨by rw[HX.out];rfl,Below.refl _ _⟩
  ·have hd:decide (0≤x)=false:=by simp;omega
   clear h
   go_enter Tryz.func115,Tryz.ntmps115
   go_wp2
   go_ret
   exact⟨by rw[HX.out];rfl,Below.refl _ _⟩
theorem fmS_drop (e:Int) (l:List Sn.Sp) (k:Nat) (h:k < l.length):Sn.fmS e (l.drop k)=(decide (l[k].1≤l[k].2) && (decide (l[k].2≤255) && (decide (0≤l[k].1) && (decide (e+1 < l[k].1) && Sn.fmS l[k].2 (l.drop (k+1)))))):=by
 rw[List.drop_eq_getElem_cons h,Sn.fmS]
theorem formedS_any (A:Option Addr) (n c:Nat) (l:List Sn.Sp) (w:World) (hl:l.length=n) (hR:Rd w w.heap.size 2 A n c (sv l)):
  Calls Tryz.prog 41 #[.slice A n c] w fun e w'=>e=.returned (.bool (Sn.fmS (-2) l))∧Below w.heap.size w w':=by
 have hmax:n≤9223372036854775807:=by have h1:=hR.cap;have h2:=hR.max;unfold maxLen at h2;omega
 go_enter Tryz.func41,Tryz.ntmps41
 go_wp2
 go_loopw [3,8] (fun x i wr=>∃(k:Nat) (e:Int),k≤n∧i=.int .i64 k∧x=.int .i64 e∧-2≤e∧e≤255∧Below w.heap.size w wr∧Hid (Sn.fmS (-2) l=Sn.fmS e (l.drop k))) (fun _ i _=>n - (intOf i).toNat)
 case atStart=>exact⟨0,-2,by omega,rfl,rfl,by omega,by omega,Below.refl _ _,rfl⟩
 case round=>
  obtain⟨k,e,hk,rfl,rfl,he1,he2,hb,hf⟩:=hrel
  by_cases hlt:k < n
  ·have hkl:k < l.length:=by omega
   obtain⟨b,o,rfl,hab,h0,h1⟩:=(hR.below hb).stamp hl hlt
   have HD:=Hz_ (fmS_drop e l k hkl)
   generalize hlo:(l[k]'hkl).1=lo at h0 HD
   generalize hhi:(l[k]'hkl).2=hi at h1 HD
   have HB:=Hz_ (hb.alloc hb.size (.cells #[.int .i64 lo,.int .i64 hi] 63))
   have HF:=Hz_ (hf.out.trans HD.out)
   clear hlo hhi hb hf HD hR hl
   by_cases c1:lo≤hi
   ·by_cases c2:hi≤255
    ·by_cases c3:0≤lo
     ·by_cases c4:e+1 < lo
      ·have HN:=Hz_ (show Sn.fmS (-2) l=Sn.fmS hi (l.drop (k+1)) by rw[HF.out];simp[c1,c2,c3,c4])
       have d1:decide (lo > hi)=false:=by simp;omega
       have d2:decide (hi > 255)=false:=by simp;omega
       have d3:decide (lo < 0)=false:=by simp;omega
       go_wp2
       go_roundw
       case rel=>exact⟨k+1,hi,by omega,by go_num,rfl,by omega,by omega,HB.out,HN.out⟩
       case measure=>simp[intOf];omega
      ·have HN:=Hz_ (show Sn.fmS (-2) l=false by rw[HF.out];simp[c4])
       go_wp2
       go_ret
       exact⟨by rw[HN.out];rfl,HB.out⟩
     ·have HN:=Hz_ (show Sn.fmS (-2) l=false by rw[HF.out];simp[c3])
      have d3:decide (lo < 0)=true:=by simp;omega
      go_wp2
      go_ret
      exact⟨by rw[HN.out];rfl,HB.out⟩
    ·have HN:=Hz_ (show Sn.fmS (-2) l=false by rw[HF.out];simp[c2])
     have d3:decide (hi > 255)=true:=by simp;omega
     go_wp2
     go_ret
     exact⟨by rw[HN.out];rfl,HB.out⟩
   ·have HN:=Hz_ (show Sn.fmS (-2) l=false by rw[HF.out];simp[c1])
    have d3:decide (lo > hi)=true:=by simp;omega
    go_wp2
    go_ret
    exact⟨by rw[HN.out];rfl,HB.out⟩
  ·obtain rfl:k=n:=by omega
   have HN:=Hz_ (show Sn.fmS (-2) l=true by rw[hf.out,List.drop_of_length_le (by omega)];rfl)
   have HB:=Hz_ hb
   clear hb hf hR hl
   go_wp2
   go_ret
   exact⟨by rw[HN.out];rfl,HB.out⟩
theorem hasTest_any (lo hi x:Int) (Bx:Nat) (w:World) (hx:w.cell? ⟨Bx,0,none⟩=some (.int .i64 x)):
  Calls Tryz.prog 172 #[.agg #[.int .i64 lo,.int .i64 hi],.pointer (some ⟨Bx,0,none⟩)] w fun e w'=>e=.returned (.bool (decide (lo≤x) && decide (x≤hi)))∧Below w.heap.size w w':=by
 have hlt:=World.block_lt_of_cell? _ _ hx
 have hb:Below w.heap.size w (w.alloc (.cells #[.int .i64 lo,.int .i64 hi] 63)):=(Below.refl _ _).alloc (Nat.le_refl _) _
 by_cases c1:lo≤x
 ·have HX:=Hz_ (show (decide (lo≤x) && decide (x≤hi))=decide (x≤hi) by simp[c1])
  rw[HX.out]
  go_enter Tryz.func172,Tryz.ntmps172
  go_wp2
  go_ret
  exact⟨rfl,hb⟩
 ·have HX:=Hz_ (show (decide (lo≤x) && decide (x≤hi))=false by simp[c1])
  rw[HX.out]
  have hd:decide (lo≤x)=false:=by simpa using c1
  go_enter Tryz.func172,Tryz.ntmps172
  go_wp2
  go_ret
  exact⟨rfl,hb⟩
def ixS (x:Int):Nat→List Sn.Sp→Int
 | _,[]=>-1
 | k,s :: r=>if (decide (s.1≤x) && decide (x≤s.2))=true then (k:Int) else ixS x (k+1) r
theorem ixS_drop (x:Int) (k:Nat) (l:List Sn.Sp) (h:k < l.length):ixS x k (l.drop k)=if (decide (l[k].1≤x) && decide (x≤l[k].2))=true then (k:Int) else ixS x (k+1) (l.drop (k+1)):=by
 rw[List.drop_eq_getElem_cons h,ixS]
theorem ixS_in (x:Int) (k:Nat) (l:List Sn.Sp):decide (0≤ixS x k l)=Sn.inB l x:=by
 induction l generalizing k with
 | nil=>rfl
 | cons s r ih=>
  rw[ixS,Sn.inB_cons]
  cases decide (s.1≤x) && decide (x≤s.2)
  ·simpa using ih (k+1)
  ·simp
theorem indexS_any (A:Option Addr) (n c:Nat) (l:List Sn.Sp) (x:Int) (Bx:Nat) (w:World) (hx:w.cell? ⟨Bx,0,none⟩=some (.int .i64 x)) (hl:l.length=n) (hR:Rd w w.heap.size 2 A n c (sv l)):
  Calls Tryz.prog 204 #[.slice A n c,.func (.func 172) #[] #[.pointer (some ⟨Bx,0,none⟩)]] w fun e w'=>e=.returned (.int .i64 (ixS x 0 l))∧Below w.heap.size w w':=by
 have hmax:n≤9223372036854775807:=by have h1:=hR.cap;have h2:=hR.max;unfold maxLen at h2;omega
 have hBx:=World.block_lt_of_cell? _ _ hx
 have HXC:=Hz_ hx
 clear hx
 go_enter Tryz.func204,Tryz.ntmps204
 go_wp2
 go_loopw [8] (fun i wr=>∃(k:Nat),k≤n∧i=.int .i64 k∧Below w.heap.size w wr∧Hid (ixS x 0 l=ixS x k (l.drop k))) (fun i _=>n - (intOf i).toNat)
 case atStart=>exact⟨0,by omega,rfl,Below.refl _ _,rfl⟩
 case round=>
  obtain⟨k,hk,rfl,hb,hf⟩:=hrel
  by_cases hlt:k < n
  ·have hkl:k < l.length:=by omega
   obtain⟨b,o,rfl,hab,h0,h1⟩:=(hR.below hb).stamp hl hlt
   have HD:=Hz_ (ixS_drop x k l hkl)
   generalize hlo:(l[k]'hkl).1=lo at h0 HD
   generalize hhi:(l[k]'hkl).2=hi at h1 HD
   have H1:=hasTest_any lo hi x Bx wr ((hb.cell (p:=⟨Bx,0,none⟩) hBx).trans HXC.out)
   have HB:=Hz_ hb
   have HF:=hf.out.trans HD.out
   generalize (decide (lo≤x) && decide (x≤hi))=z at H1 HF
   have H1:=Hz_ H1
   have HF:=Hz_ HF
   clear hlo hhi hb hf HD hR hl
   cases z
   ·go_wp2_with (go_at_call 172;go_must (refine H1.out.mono ?_);rintro e w1 ⟨rfl,hb1⟩)
    go_roundw
    case rel=>exact⟨k+1,by omega,by go_num,btn HB.out hb1,by show _=_;rw[HF.out];rfl⟩
    case measure=>simp[intOf];omega
   ·go_wp2_with (go_at_call 172;go_must (refine H1.out.mono ?_);rintro e w1 ⟨rfl,hb1⟩)
    go_ret
    exact⟨by rw[HF.out];rfl,btn HB.out hb1⟩
  ·obtain rfl:k=n:=by omega
   have HN:=Hz_ (show ixS x 0 l=-1 by rw[hf.out,List.drop_of_length_le (by omega)];rfl)
   have HB:=Hz_ hb
   clear hb hf hR hl
   go_wp2
   go_ret
   exact⟨by rw[HN.out];rfl,HB.out⟩
theorem containsS_any (A:Option Addr) (n c:Nat) (l:List Sn.Sp) (x:Int) (Bx:Nat) (w:World) (hx:w.cell? ⟨Bx,0,none⟩=some (.int .i64 x)) (hl:l.length=n) (hR:Rd w w.heap.size 2 A n c (sv l)):
  Calls Tryz.prog 171 #[.slice A n c,.func (.func 172) #[] #[.pointer (some ⟨Bx,0,none⟩)]] w fun e w'=>e=.returned (.bool (Sn.inB l x))∧Below w.heap.size w w':=by
 have H1:=indexS_any A n c l x Bx w hx hl hR
 have HN:=Hz_ (ixS_in x 0 l)
 generalize ixS x 0 l=z at H1 HN
 have H1:=Hz_ H1
 clear hx hl hR
 go_enter Tryz.func171,Tryz.ntmps171
 go_wp2_with (go_at_call 204;go_must (refine H1.out.mono ?_);rintro e w1 ⟨rfl,hb1⟩)
 go_ret
 exact⟨ret_bool HN.out,hb1⟩
theorem hasS_any (A:Option Addr) (n c:Nat) (l:List Sn.Sp) (x:Int) (w:World) (hl:l.length=n) (hR:Rd w w.heap.size 2 A n c (sv l)):
  Calls Tryz.prog 111 #[.slice A n c,.int .i64 x] w fun e w'=>e=.returned (.bool (hasO l x))∧Below w.heap.size w w':=by
 have hb0:Below w.heap.size w (w.alloc (.cells #[.int .i64 x] 3)):=(Below.refl _ _).alloc (Nat.le_refl _) _
 have hBx:=Blk.new w 3 #[.int .i64 x]
 by_cases h1:0≤x
 ·by_cases h2:x≤255
  ·have HX:=Hz_ (show hasO l x=Sn.inB l x by unfold hasO;simp[h1,h2])
   have H1:=Hz_ (containsS_any A n c l x w.heap.size _ (hBx.cell 0) hl (hR.go hb0))
   generalize Sn.inB l x=z at H1 HX
   clear hl hR hBx
   go_enter Tryz.func111,Tryz.ntmps111
   go_wp2_with (go_at_call 171;go_must (refine H1.out.mono ?_);rintro e w1 ⟨rfl,hb1⟩)
   go_ret
   exact⟨by rw[HX.out];rfl,btn hb0 hb1⟩
  ·have HX:=Hz_ (show hasO l x=false by unfold hasO;simp[h2])
   have hd:decide (x≤255)=false:=by simpa using h2
   clear hl hR hBx
   go_enter Tryz.func111,Tryz.ntmps111
   go_wp2
   go_ret
   exact⟨by rw[HX.out];rfl,hb0⟩
 ·have HX:=Hz_ (show hasO l x=false by unfold hasO;simp[h1])
  have hd:decide (0≤x)=false:=by simpa using h1
  clear hl hR hBx
  go_enter Tryz.func111,Tryz.ntmps111
  go_wp2
  go_ret
  exact⟨by rw[HX.out];rfl,hb0⟩
end Go.Proofs.YtmbeahbgafkjfaaGreatDoor
