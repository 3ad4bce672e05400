/- Lemmas for the claim, layer 7. -/
import Derived.Test.YtmbeahbgafkjfaaGreatDoorKq04
import Derived.Test.YtmbeahbgafkjfaaGreatDoorKq06
set_option maxRecDepth 100000
set_option maxHeartbeats 16000000
namespace Go.Proofs.YtmbeahbgafkjfaaGreatDoor
open Go.RowKit
def wc (w:Wr):List Value:=[.int .i64 w.1.1,.int .i64 w.1.2,.int .i64 w.2.1,.bool w.2.2]
def wv (l:List Wr):List Value:=l.flatMap wc
theorem wv_at (l:List Wr) (k:Nat) (h:k < l.length) (j:Nat) (hj:j < 4):(wv l)[k * 4+j]?=(wc l[k])[j]?:=flat_at wc 4 (by decide) l (fun _ _=>rfl) k h j hj
theorem Rd.write {w:World} {B n c k:Nat} {A:Option Addr} {l:List Wr} (h:Rd w B 4 A n c (wv l)) (hl:l.length=n) (hk:k < l.length):
  ∃b o,A=some ⟨b,o,none⟩∧b < B∧w.cell? ⟨b,o+k * 4,none⟩=some (.int .i64 l[k].1.1)∧w.cell? ⟨b,o+k * 4+1,none⟩=some (.int .i64 l[k].1.2) ∧
   w.cell? ⟨b,o+k * 4+2,none⟩=some (.int .i64 l[k].2.1)∧w.cell? ⟨b,o+k * 4+3,none⟩=some (.bool l[k].2.2):=by
 obtain⟨b,o,rfl,hb,hc⟩:=h.plain (by omega) (by decide)
 have e:∀j,j < 4→∀u,(wc l[k])[j]?=some u→w.cell? ⟨b,o+k * 4+j,none⟩=some u:=fun j hj u hu=>by
  rw[Nat.add_assoc]
  exact hc (k * 4+j) u (by rw[wv_at l k (by omega) j hj,hu])
 exact⟨b,o,rfl,hb,e 0 (by decide) _ rfl,e 1 (by decide) _ rfl,e 2 (by decide) _ rfl,e 3 (by decide) _ rfl⟩
structure NV where
 A1:Option Addr
 n1:Nat
 c1:Nat
 A2:Option Addr
 n2:Nat
 c2:Nat
 A3:Option Addr
 n3:Nat
 c3:Nat
 A4:Option Addr
 n4:Nat
 c4:Nat
abbrev NV.val (v:NV):Array Value:=#[.slice v.A1 v.n1 v.c1,.slice v.A2 v.n2 v.c2,.slice v.A3 v.n3 v.c3,.slice v.A4 v.n4 v.c4]
structure NtRd (w:World) (B:Nat) (v:NV) (x:Nt):Prop where
 l1:x.s.length=v.n1
 r1:Rd w B 2 v.A1 v.n1 v.c1 (sv x.s)
 l2:x.e.length=v.n2
 r2:Rd w B 2 v.A2 v.n2 v.c2 (sv x.e)
 l3:x.b.length=v.n3
 r3:Rd w B 2 v.A3 v.n3 v.c3 (sv x.b)
 l4:x.w.length=v.n4
 r4:Rd w B 4 v.A4 v.n4 v.c4 (wv x.w)
theorem NtRd.go {w w':World} {v:NV} {x:Nt} (h:NtRd w w.heap.size v x) (hb:Below w.heap.size w w'):NtRd w' w'.heap.size v x:=
 ⟨h.l1,h.r1.go hb,h.l2,h.r2.go hb,h.l3,h.r3.go hb,h.l4,h.r4.go hb⟩
theorem NtRd.more {w:World} {B B':Nat} {v:NV} {x:Nt} (h:NtRd w B v x) (hB:B≤B'):NtRd w B' v x:=
 ⟨h.l1,h.r1.more hB,h.l2,h.r2.more hB,h.l3,h.r3.more hB,h.l4,h.r4.more hB⟩
theorem NtRd.below {w w':World} {B:Nat} {v:NV} {x:Nt} (h:NtRd w B v x) (hb:Below B w w'):NtRd w' B v x:=
 ⟨h.l1,h.r1.below hb,h.l2,h.r2.below hb,h.l3,h.r3.below hb,h.l4,h.r4.below hb⟩
theorem object_any (o:Int) (w:World):Calls Tryz.prog 110 #[.int .i64 o] w fun e w'=>e=.returned (.bool (decide (0≤o) && decide (o≤255)))∧w=w':=by
 by_cases c1:0≤o
 ·have HX:=Hz_ (show (decide (0≤o) && decide (o≤255))=decide (o≤255) by simp[c1])
  rw[HX.out]
  by_cases c2:o≤255
  ·have HX:=Hz_ (show decide (o≤255)=true by simp[c2])
   rw[HX.out]
   go_enter Tryz.func110,Tryz.ntmps110
   go_wp2
   go_ret
   exact⟨ret_bool (by simp;omega),rfl⟩
  ·have HX:=Hz_ (show decide (o≤255)=false by simp[c2])
   rw[HX.out]
   go_enter Tryz.func110,Tryz.ntmps110
   go_wp2
   go_ret
   exact⟨ret_bool (by simp;omega),rfl⟩
 ·have HX:=Hz_ (show (decide (0≤o) && decide (o≤255))=false by simp[c1])
  rw[HX.out]
  have hd:decide (0≤o)=false:=by simpa using c1
  go_enter Tryz.func110,Tryz.ntmps110
  go_wp2
  go_ret
  exact⟨rfl,rfl⟩
theorem noteFormed_any (v:NV) (x:Nt) (w:World) (hT:Tab w) (hN:NtRd w w.heap.size v x):
  Calls Tryz.prog 37 #[.agg v.val] w fun e w'=>e=.returned (.bool (ntF x))∧Below w.heap.size w w':=by
 obtain⟨A1,n1,c1,A2,n2,c2,A3,n3,c3,A4,n4,c4⟩:=v
 have hb0:Below w.heap.size w (w.alloc (.cells #[.slice A1 n1 c1,.slice A2 n2 c2,.slice A3 n3 c3,.slice A4 n4 c4] 26)):=(Below.refl _ _).alloc (Nat.le_refl _) _
 have hBx:=Blk.new w 26 #[.slice A1 n1 c1,.slice A2 n2 c2,.slice A3 n3 c3,.slice A4 n4 c4]
 obtain⟨w0,hw0⟩:∃w0,w0=w.alloc (.cells #[.slice A1 n1 c1,.slice A2 n2 c2,.slice A3 n3 c3,.slice A4 n4 c4] 26):=⟨_,rfl⟩
 rw[←hw0] at hb0 hBx
 have hN0:=hN.go hb0
 obtain⟨l1,m1,l2,m2,l3,m3,l4,m4⟩:=hN0
 dsimp only at l1 m1 l2 m2 l3 m3 l4 m4
 have hT0:=hT.below hb0
 have hQ:∀W,Below w0.heap.size w0 W→(W.cell? ⟨w.heap.size,0,none⟩=some (.slice A1 n1 c1)∧W.cell? ⟨w.heap.size,1,none⟩=some (.slice A2 n2 c2)∧W.cell? ⟨w.heap.size,2,none⟩=some (.slice A3 n3 c3)∧W.cell? ⟨w.heap.size,3,none⟩=some (.slice A4 n4 c4)):=
  fun W hb=>⟨(hBx.go hb).cell 0,(hBx.go hb).cell 1,(hBx.go hb).cell 2,(hBx.go hb).cell 3⟩
 have HQ:=Hz_ hQ
 have H1:=Hz_ fun (W:World) (hb:Below w0.heap.size w0 W)=>formed_any A1 n1 c1 x.s W l1 (m1.go hb)
 have H2:=Hz_ fun (W:World) (hb:Below w0.heap.size w0 W)=>formed_any A2 n2 c2 x.e W l2 (m2.go hb)
 have H3:=Hz_ fun (W:World) (hb:Below w0.heap.size w0 W)=>covers_any A2 A1 n2 c2 n1 c1 x.e x.s W (hT0.below hb) l2 l1 (m2.go hb) (m1.go hb)
 have H4:=Hz_ fun (W:World) (hb:Below w0.heap.size w0 W)=>formedS_any A3 n3 c3 x.b W l3 (m3.go hb)
 have H5:=Hz_ fun (W:World) (hb:Below w0.heap.size w0 W) o=>hasS_any A3 n3 c3 x.b o W l3 (m3.go hb)
 have H6:=Hz_ fun (W:World) (hb:Below w0.heap.size w0 W) sc sn=>has_any A2 n2 c2 x.e (sc,sn) W l2 (m2.go hb)
 have HW4:=Hz_ fun (W:World) (hb:Below w0.heap.size w0 W) k (hk:k < x.w.length)=>(m4.go hb).write l4 hk
 have HL4:=Hz_ l4
 have hmax:n4≤9223372036854775807:=by have h1:=m4.cap;have h2:=m4.max;unfold maxLen at h2;omega
 have hf0:ntF x=((fm (-1) x.s && (fm (-1) x.e && (covB (Vc.cnt x.e) (Vc.cnt x.s) && Sn.fmS (-2) x.b))) && ntW x.e x.b (-1) x.w):=rfl
 have HDrop:=Hz_ fun last k h=>ntW_drop x.e x.b last x.w k h
 have HNil:=Hz_ fun last k (h:n4≤k)=>show ntW x.e x.b last (x.w.drop k)=true by rw[List.drop_of_length_le (by rw[HL4.out];exact h)];rfl
 generalize fm (-1) x.s=f1 at H1 hf0
 generalize fm (-1) x.e=f2 at H2 hf0
 generalize covB (Vc.cnt x.e) (Vc.cnt x.s)=f3 at H3 hf0
 generalize Sn.fmS (-2) x.b=f4 at H4 hf0
 have HF:=Hz_ hf0
 have HW:=Hz_ hw0.symm
 have k:=Below.refl w0.heap.size w0
 obtain⟨q0,q1,q2,q3⟩:=hQ w0 k
 clear hN hT l1 m1 l2 m2 l3 m3 l4 m4 hT0 hBx hQ hf0 hw0
 go_enter Tryz.func37,Tryz.ntmps37
 go_wp2_with fail
 rw[HW.out]
 cases f1<;>cases f2<;>cases f3<;>cases f4
 all_goals
  go_wp2_with (first
   | (go_at_call 91;(first
    | ((with_reducible refine(H1.out _ k).mono ?_);rintro e w' ⟨rfl,hb'⟩;have k:=btn k hb';clear hb';obtain⟨q0,q1,q2,q3⟩:=HQ.out _ k)
    | ((with_reducible refine(H2.out _ k).mono ?_);rintro e w' ⟨rfl,hb'⟩;have k:=btn k hb';clear hb';obtain⟨q0,q1,q2,q3⟩:=HQ.out _ k)))
   | (go_at_call 109;go_must (with_reducible refine(H3.out _ k).mono ?_);rintro e w' ⟨rfl,hb'⟩;have k:=btn k hb';clear hb';obtain⟨q0,q1,q2,q3⟩:=HQ.out _ k)
   | (go_at_call 41;go_must (with_reducible refine(H4.out _ k).mono ?_);rintro e w' ⟨rfl,hb'⟩;have k:=btn k hb';clear hb';obtain⟨q0,q1,q2,q3⟩:=HQ.out _ k))
  first
  | (go_ret;exact⟨by rw[HF.out];rfl,btn hb0 k⟩)
  | skip
 have hbw:=btn hb0 k
 go_loopw [3,33] (fun a i wr=>∃(j:Nat) (last:Int),j≤n4∧i=.int .i64 j∧a=.int .i64 last∧Below w0.heap.size w0 wr∧Hid (ntW x.e x.b (-1) x.w=ntW x.e x.b last (x.w.drop j))) (fun _ i _=>n4 - (intOf i).toNat)
 case atStart=>exact⟨0,-1,by omega,rfl,rfl,k,rfl⟩
 case round=>
  obtain⟨j,last,hj,rfl,rfl,hb,hr⟩:=hrel
  clear q0 q1 q2 q3 k hbw
  by_cases hlt:j < n4
  ·have hjl:j < x.w.length:=by rw[HL4.out];exact hlt
   obtain⟨b,o,rfl,hbb,g0,g1,g2,g3⟩:=HW4.out wr hb j hjl
   obtain⟨q0,q1,q2,q3⟩:=HQ.out _ hb
   have HD:=hr.out.trans (HDrop.out last j hjl)
   unfold wOk at HD
   generalize hc:x.w[j].1.1=sc at g0
   generalize hn:x.w[j].1.2=sn at g1
   generalize ho:x.w[j].2.1=ob at g2 HD
   generalize hg:x.w[j].2.2=gn at g3
   have hst:x.w[j].1=(sc,sn):=by rw[←hc,←hn]
   rw[hst] at HD
   have H5':=H5.out
   have H6':=H6.out
   have H7:=object_any ob
   have H5'':=fun W hb=>H5' W hb ob
   have H6'':=fun W hb=>H6' W hb sc sn
   generalize hasO x.b ob=z2 at H5'' HD
   generalize hasB x.e (sc,sn)=z3 at H6'' HD
   generalize (decide (0≤ob) && decide (ob≤255))=z1 at H7 HD
   have G5:=Hz_ H5''
   have G6:=Hz_ H6''
   have G7:=Hz_ H7
   have HB:=Hz_ hb
   have hB1:=Blk.new wr 70 #[.int .i64 sc,.int .i64 sn,.int .i64 ob,.bool gn]
   have k1:Below w0.heap.size w0 (wr.alloc (.cells #[.int .i64 sc,.int .i64 sn,.int .i64 ob,.bool gn] 70)):=hb.alloc hb.size _
   obtain⟨w1,hw1⟩:∃w1,w1=wr.alloc (.cells #[.int .i64 sc,.int .i64 sn,.int .i64 ob,.bool gn] 70):=⟨_,rfl⟩
   rw[←hw1] at hB1 k1
   have hR:∀W,Below w1.heap.size w1 W→(W.cell? ⟨wr.heap.size,0,none⟩=some (.int .i64 sc)∧W.cell? ⟨wr.heap.size,1,none⟩=some (.int .i64 sn)∧W.cell? ⟨wr.heap.size,2,none⟩=some (.int .i64 ob)∧W.cell? ⟨wr.heap.size,3,none⟩=some (.bool gn)):=
    fun W hb=>⟨(hB1.go hb).cell 0,(hB1.go hb).cell 1,(hB1.go hb).cell 2,(hB1.go hb).cell 3⟩
   have HR:=Hz_ hR
   have HW1:=Hz_ hw1.symm
   have K1:=Hz_ k1
   clear hc hn ho hg hst H5' H6' H5'' H6'' H7 hb hr hB1 hR k1 hw1
   by_cases c1:last < ob
   ·have HD':ntW x.e x.b (-1) x.w=((z1 && (!z2 && z3)) && ntW x.e x.b ob (x.w.drop (j+1))):=by rw[HD,decide_eq_true c1,Bool.true_and]
    have HD':=Hz_ HD'
    have hd:decide (ob≤last)=false:=by simp;omega
    clear HD
    go_wp2_with fail
    rw[HW1.out]
    refine(G7.out _).mono ?_
    rintro e w' ⟨rfl,rfl⟩
    have k:=K1.out
    have kk:=Below.refl w1.heap.size w1
    clear q0 q1 q2 q3
    obtain⟨q0,q1,q2,q3⟩:=HQ.out _ k
    obtain⟨r0,r1,r2,r3⟩:=HR.out _ kk
    cases z1<;>cases z2<;>cases z3
    all_goals
     go_wp2_with (first
      | (go_at_call 111;go_must (with_reducible refine(G5.out _ k).mono ?_);rintro e w' ⟨rfl,hb'⟩;have k:=btn k hb';have kk:=btn kk hb';clear hb';obtain⟨q0,q1,q2,q3⟩:=HQ.out _ k;obtain⟨r0,r1,r2,r3⟩:=HR.out _ kk)
      | (go_at_call 112;go_must (with_reducible refine(G6.out _ k).mono ?_);rintro e w' ⟨rfl,hb'⟩;have k:=btn k hb';have kk:=btn kk hb';clear hb';obtain⟨q0,q1,q2,q3⟩:=HQ.out _ k;obtain⟨r0,r1,r2,r3⟩:=HR.out _ kk))
     first
     | (go_ret;exact⟨by rw[HF.out,HD'.out];rfl,btn hb0 k⟩)
     | skip
    go_roundw
    case rel=>exact⟨j+1,ob,by omega,by go_num,rfl,k,by show _=_;rw[HD'.out];rfl⟩
    case measure=>simp[intOf];omega
   ·have HN:=Hz_ (show ntF x=false by rw[HF.out,HD,decide_eq_false c1];rfl)
    have hd:decide (ob≤last)=true:=by simp;omega
    clear HD
    go_wp2
    go_ret
    exact⟨by rw[HN.out];rfl,by rw[HW1.out];exact btn hb0 K1.out⟩
  ·obtain rfl:j=n4:=by omega
   have HN:=Hz_ (show ntF x=true by rw[HF.out,hr.out,HNil.out _ _ (Nat.le_refl _)];rfl)
   clear hr
   go_wp2
   go_ret
   exact⟨by rw[HN.out];rfl,btn hb0 hb⟩
theorem wpAnyH_putD {P:Program} {ops:Array Oper} {Q:Exit→Act→World→Prop} {md:Region.Mode} {S:World→Prop} {i d:Nat} {oi:Oper} {v:Value} {fuel:Nat} {listed:Array Bool} {a:Act} {w:World} (hi:ops[i]?=some oi) (hd:oi.dst=some d)
  (hs:Region.noSelect ops=true) (hf:Region.free md ops listed i=true) (hr:(Region.ready md ops listed).contains i=true)
  (hQ:∀c a w,Q (.panic c) (a.put oi.dst v) w→Q (.panic c) a w) (hy:YieldsIf P ops S oi v a) (hS:S w)
  (h:wpAnyH P md ops Q S fuel (listed.setIfInBounds i true) { tmps:=a.tmps.setIfInBounds d v,defers:=a.defers } w):wpAnyH P md ops Q S (fuel+1) listed a w:=
 wpAnyH_take hi hs hf hr hQ hy hS (by rw[hd];exact h)
/-! The same in few words. -/
theorem puA {P:Program} {ops:Array Oper} {Q:Exit→Act→World→Prop} {md:Region.Mode} {S:World→Prop} (i d:Nat) {oi:Oper} {v:Value} {fuel:Nat} {listed:Array Bool} {a:Act} {w:World} {b:Array Value} (hS:S w)
  (h:wpAnyH P md ops Q S fuel (listed.setIfInBounds i true) { tmps:=b,defers:=a.defers } w)
  (hi:ops[i]?=some oi:=by exact rfl) (hd:oi.dst=some d:=by exact rfl)
  (hs:Region.noSelect ops=true:=by kernel_rfl) (hf:Region.free md ops listed i=true:=by kernel_rfl) (hr:(Region.ready md ops listed).contains i=true:=by kernel_rfl)
  (hQ:∀c a w,Q (.panic c) (a.put oi.dst v) w→Q (.panic c) a w:=by exact fun _ _ _ h=>h) (hw:Region.wanted oi (yielded ops a.tmps)=true:=by kernel_rfl)
  (hy:∀w,S w→(execOp a.eval oi).run P w=.ok (.value v) w:=by (intro w hS;(try dsimp only at hS);go_simp<;>with_reducible rfl))
  (hb:a.tmps.setIfInBounds d v=b:=by (first | (simp only[List.setIfInBounds_toArray,List.set_cons_zero,List.set_cons_succ];done) | (simp only[List.setIfInBounds_toArray,List.set_cons_zero,List.set_cons_succ];exact rfl) | exact rfl)):wpAnyH P md ops Q S (fuel+1) listed a w:=
 wpAnyH_putD hi hd hs hf hr hQ (.inl ⟨hw,hy⟩) hS (hb ▸ h)
theorem puB {P:Program} {ops:Array Oper} {Q:Exit→Act→World→Prop} {md:Region.Mode} {S:World→Prop} (i d:Nat) (v:Value) {oi:Oper} {fuel:Nat} {listed:Array Bool} {a:Act} {w:World} {b:Array Value} (hS:S w)
  (h:wpAnyH P md ops Q S fuel (listed.setIfInBounds i true) { tmps:=b,defers:=a.defers } w)
  (hi:ops[i]?=some oi:=by exact rfl) (hd:oi.dst=some d:=by exact rfl)
  (hs:Region.noSelect ops=true:=by kernel_rfl) (hf:Region.free md ops listed i=true:=by kernel_rfl) (hr:(Region.ready md ops listed).contains i=true:=by kernel_rfl)
  (hQ:∀c a w,Q (.panic c) (a.put oi.dst v) w→Q (.panic c) a w:=by exact fun _ _ _ h=>h) (hw:Region.wanted oi (yielded ops a.tmps)=true:=by kernel_rfl)
  (hy:∀w,S w→(execOp a.eval oi).run P w=.ok (.value v) w:=by (intro w hS;(try dsimp only at hS);go_simp<;>with_reducible rfl))
  (hb:a.tmps.setIfInBounds d v=b:=by (first | (simp only[List.setIfInBounds_toArray,List.set_cons_zero,List.set_cons_succ];done) | (simp only[List.setIfInBounds_toArray,List.set_cons_zero,List.set_cons_succ];exact rfl) | exact rfl)):wpAnyH P md ops Q S (fuel+1) listed a w:=
 wpAnyH_putD hi hd hs hf hr hQ (.inl ⟨hw,hy⟩) hS (hb ▸ h)
theorem puC {P:Program} {ops:Array Oper} {Q:Exit→Act→World→Prop} {md:Region.Mode} {S:World→Prop} (i d:Nat) {oi:Oper} {fuel:Nat} {listed:Array Bool} {a:Act} {w:World} {b:Array Value} (hS:S w)
  (h:wpAnyH P md ops Q S fuel (listed.setIfInBounds i true) { tmps:=b,defers:=a.defers } w)
  (hi:ops[i]?=some oi:=by exact rfl) (hd:oi.dst=some d:=by exact rfl)
  (hs:Region.noSelect ops=true:=by kernel_rfl) (hf:Region.free md ops listed i=true:=by kernel_rfl) (hr:(Region.ready md ops listed).contains i=true:=by kernel_rfl)
  (hQ:∀c a w,Q (.panic c) (a.put oi.dst undef) w→Q (.panic c) a w:=by exact fun _ _ _ h=>h) (hw:Region.wanted oi (yielded ops a.tmps)=false:=by kernel_rfl)
  (hb:a.tmps.setIfInBounds d undef=b:=by (first | (simp only[List.setIfInBounds_toArray,List.set_cons_zero,List.set_cons_succ];done) | (simp only[List.setIfInBounds_toArray,List.set_cons_zero,List.set_cons_succ];exact rfl) | exact rfl)):wpAnyH P md ops Q S (fuel+1) listed a w:=
 wpAnyH_putD hi hd hs hf hr hQ (.inr ⟨hw,rfl⟩) hS (hb ▸ h)
theorem puR {P:Program} {ops:Array Oper} {Q:Exit→Act→World→Prop} {md:Region.Mode} {S:World→Prop} (i:Nat) {o:Oper} {fuel:Nat} {listed:Array Bool} {a:Act} {w:World}
  (h:∀K':Act→World→Prop,Shut (∀a w,S w→(S w→wpAnyH P md ops Q S fuel (listed.setIfInBounds i true) a w)→K' a w)→if Region.wanted o (yielded ops a.tmps)=true then Oper.wp P o a w K' Q else K' (a.put o.dst undef) w)
  (hr:Region.ready md ops listed=[i]:=by kernel_rfl) (ho:ops[i]?=some o:=by exact rfl):wpAnyH P md ops Q S (fuel+1) listed a w:=
 wpAnyH_ready hr (by simp) (AllReadyH.cons ho h AllReadyH.nil)
end Go.Proofs.YtmbeahbgafkjfaaGreatDoor
