/- Lemmas for the claim, layer 10. -/
import Derived.Test.YtmbeahbgafkjfaaGreatDoorKb09
set_option maxRecDepth 100000
set_option maxHeartbeats 16000000
namespace Go.Proofs.YtmbeahbgafkjfaaGreatDoor
open Go.RowKit
theorem Blk.quad {W:World} {g:Nat} {t:TypeId} {a b c d:Value} (h:Blk W g t #[a,b,c,d]):W.cell? ⟨g,0,none⟩=some a∧W.cell? ⟨g,1,none⟩=some b∧W.cell? ⟨g,2,none⟩=some c∧W.cell? ⟨g,3,none⟩=some d:=⟨h.cell 0,h.cell 1,h.cell 2,h.cell 3⟩
theorem plainElem_bool_inv {H:Type} {P:Program} {e:TypeId} (he:P.underlying e=some .bool) {v:Value} {z:DataW H×List MemPlace} (h:plainElem P e v=some z):∃b,v=.bool b∧z=(.lit (.bool b),[]):=by
 unfold plainElem at h
 rw[he] at h
 cases v<;>simp at h
 obtain rfl:=h
 exact⟨_,rfl,rfl⟩
theorem wpList_lookup_own_bool {H:Type} {P:Program} (w:World) {ops:Array Oper} {rest:List Oper} {o:Oper} {a:Act} {Q:Exit→Act→World→Prop}
  (hg:o.guard=none) (m x:Operand) (t:TypeId) (hop:o.op=Op.lookup t m x false)
  (k e:TypeId) (K:Maps.Keyed P k) (ht:P.underlying t=some (.map k e)) (he:P.underlying e=some .bool) (hz:(zeroValue e).run P w=.ok (.bool false) w) (b n:Nat) (D:DataW H)
  (hm:a.eval m=.map (some b)) (hown:w.ownsMap P k (plainElem P e) b n D) (key:Value) (kl:Lit) (hx:a.eval x=key) (hkey:keyOf P k key=some kl)
  (hK:∀c:Bool,D.atKey kl (.lit (.bool false))=.lit (.bool c)→wpList P ops Q rest (a.put o.dst (.bool c)) w):
  wpList P ops Q (o :: rest) a w:=by
 refine wpList_plain hg fun K' hK'=>?_
 obtain⟨v,ps,hrun,hv⟩:=hown.lookup K ht hz (plainElem_bool he false) hkey
 obtain⟨c,rfl,hc⟩:=plainElem_bool_inv he hv
 simp only[Prod.mk.injEq] at hc
 unfold Oper.wp
 simp[execOp,hop,hm,hx,hrun,Result.andThen]
 exact hK' _ _ (hK c hc.1)
theorem shelfRight_any (sc sn ob:Int) (gn:Bool) (w:World):Calls Tryz.prog 161 #[.agg #[.int .i64 sc,.int .i64 sn,.int .i64 ob,.bool gn]] w fun e w'=>e=.returned (.bool ((decide (0≤ob) && decide (ob≤255)) && Vc.right (sc,sn)))∧Below w.heap.size w w':=by
 have H1:=Hz_ fun (W:World)=>right_any sc sn W
 have hb0:Below w.heap.size w (w.alloc (.cells #[.int .i64 sc,.int .i64 sn,.int .i64 ob,.bool gn] 70)):=(Below.refl _ _).alloc (Nat.le_refl _) _
 have HB:=Hz_ hb0
 generalize Vc.right (sc,sn)=z at H1 ⊢
 clear hb0
 by_cases h1:0≤ob
 ·by_cases h2:ob≤255
  ·have d1:decide (ob ≥ 0)=true:=decide_eq_true h1
   have d2:decide (ob < 256)=true:=decide_eq_true (by omega)
   have HX:=Hz_ (show ((decide (0≤ob) && decide (ob≤255)) && z)=z by simp[h1,h2])
   rw[HX.out]
   go_enter Tryz.func161,Tryz.ntmps161
   go_wp2_with (go_at_call 159;go_must (refine(H1.out _).mono ?_);rintro e w1 ⟨rfl,hb1⟩)
   go_ret
   exact⟨rfl,btn HB.out hb1⟩
  ·have d2:decide (ob < 256)=false:=decide_eq_false (by omega)
   have HX:=Hz_ (show ((decide (0≤ob) && decide (ob≤255)) && z)=false by simp[h2])
   rw[HX.out]
   go_enter Tryz.func161,Tryz.ntmps161
   go_wp2
   go_ret
   exact⟨rfl,HB.out⟩
 ·have d1:decide (ob ≥ 0)=false:=decide_eq_false (by omega)
  have HX:=Hz_ (show ((decide (0≤ob) && decide (ob≤255)) && z)=false by simp[h1])
  rw[HX.out]
  go_enter Tryz.func161,Tryz.ntmps161
  go_wp2
  go_ret
  exact⟨rfl,HB.out⟩
theorem shelfFormed_any (A:Option Addr) (n c:Nat) (l:List Wr) (w:World) (hl:l.length=n) (hR:Rd w w.heap.size 4 A n c (wv l)):
  Calls Tryz.prog 93 #[.slice A n c] w fun e w'=>e=.returned (.bool (shF (-1) l))∧Below w.heap.size w w':=by
 have hmax:n≤9223372036854775807:=by have h1:=hR.cap;have h2:=hR.max;unfold maxLen at h2;omega
 have HW:=Hz_ fun (W:World) (hb:Below w.heap.size w W) k (hk:k < l.length)=>(hR.below hb).write hl hk
 have HL:=Hz_ hl
 clear hR hl
 go_enter Tryz.func93,Tryz.ntmps93
 go_wp2
 go_loopw [3,8] (fun a i wr=>∃(j:Nat) (last:Int),j≤n∧i=.int .i64 j∧a=.int .i64 last∧Below w.heap.size w wr∧Hid (shF (-1) l=shF last (l.drop j))) (fun _ i _=>n - (intOf i).toNat)
 case atStart=>exact⟨0,-1,by omega,rfl,rfl,Below.refl _ _,rfl⟩
 case round=>
  obtain⟨j,last,hj,rfl,rfl,hb,hr⟩:=hrel
  by_cases hlt:j < n
  ·have hjl:j < l.length:=by rw[HL.out];exact hlt
   obtain⟨b,o,rfl,hbb,g0,g1,g2,g3⟩:=HW.out wr hb j hjl
   have HD:=hr.out.trans (shF_drop last l j hjl)
   generalize hc:l[j].1.1=sc at g0
   generalize hn:l[j].1.2=sn at g1
   generalize ho:l[j].2.1=ob at g2 HD
   generalize hg:l[j].2.2=gn at g3
   have hst:l[j].1=(sc,sn):=by rw[←hc,←hn]
   rw[hst] at HD
   have G0:=fun W=>shelfRight_any sc sn ob gn W
   generalize ((decide (0≤ob) && decide (ob≤255)) && Vc.right (sc,sn))=z at G0 HD
   have G:=Hz_ G0
   have HDD:=Hz_ HD
   have HB:=Hz_ (hb.alloc hb.size (.cells #[.int .i64 sc,.int .i64 sn,.int .i64 ob,.bool gn] 70))
   have HX:=Hz_ (Blk.new wr 70 #[.int .i64 sc,.int .i64 sn,.int .i64 ob,.bool gn])
   clear hc hn ho hg hst G0 HD hr hb hbb
   cases z
   ·have HN:=Hz_ (show shF (-1) l=false by rw[HDD.out];rfl)
    go_wp2_with (go_at_call 161;go_must (refine(G.out _).mono ?_);rintro e w1 ⟨rfl,hb1⟩;have HB1:=Hz_ (btn HB.out hb1);clear hb1)
    go_ret
    exact⟨by rw[HN.out];rfl,HB1.out⟩
   ·by_cases c1:last < ob
    ·have HN:=Hz_ (show shF (-1) l=shF ob (l.drop (j+1)) by rw[HDD.out,decide_eq_true c1];rfl)
     have d1:decide (ob≤last)=false:=by simp;omega
     clear c1
     go_wp2_with (go_at_call 161;go_must (refine(G.out _).mono ?_);rintro e w1 ⟨rfl,hb1⟩;have HB1:=Hz_ (btn HB.out hb1);obtain⟨x0,x1,x2,x3⟩:=(HX.out.go hb1).quad;clear hb1)
     go_roundw
     case rel=>exact⟨j+1,ob,by omega,by go_num,rfl,HB1.out,HN⟩
     case measure=>simp[intOf];omega
    ·have HN:=Hz_ (show shF (-1) l=false by rw[HDD.out,decide_eq_false c1];rfl)
     have d1:decide (ob≤last)=true:=by simp;omega
     clear c1
     go_wp2_with (go_at_call 161;go_must (refine(G.out _).mono ?_);rintro e w1 ⟨rfl,hb1⟩;have HB1:=Hz_ (btn HB.out hb1);obtain⟨x0,x1,x2,x3⟩:=(HX.out.go hb1).quad;clear hb1)
     go_ret
     exact⟨by rw[HN.out];rfl,HB1.out⟩
  ·obtain rfl:j=n:=by omega
   have HN:=Hz_ (show shF (-1) l=true by rw[hr.out,List.drop_of_length_le (by rw[HL.out];exact Nat.le_refl _)];rfl)
   clear hr
   go_wp2
   go_ret
   exact⟨by rw[HN.out];rfl,hb⟩
theorem writes_info:(Tryz.prog.info? 70).map (fun i=>(i.zero,i.size,i.bytes))=some (some (.agg #[.int .i64 0,.int .i64 0,.int .i64 0,.bool false]),4,32):=by kernel_rfl
theorem wp_store_blk {P:Program} {op:Oper} {a:Act} {w:World} {K:Act→World→Prop} {Q:Exit→Act→World→Prop} (ty:TypeId) (x y:Operand) (ho:op.op=.store ty x y)
  (g:Nat) (t:TypeId) (old cells:Array Value) (hx:a.eval x=.pointer (some ⟨g,0,none⟩)) (hy:a.eval y=.agg cells) (hg:Blk w g t old)
  (hi:(P.info? ty).map (·.size)=some cells.size) (hs:old.size=cells.size) (h1:cells.all (·.oneCell')=true)
  (h:∀w',Blk w' g t cells→w.grownBy w' (some g)→K (a.put op.dst undef) w'):op.wp P a w K Q:=by
 unfold Oper.wp execOp
 simp only[ho,hx,hy,Instr.storeAt,Instr.sureAddr,Sem.run_bind,Sem.run_pure,Result.andThen_ok,run_storeVar_row w g t ty old cells hg hi hs h1]
 exact h _ (setRow_heap w g old _ t _ hg) ⟨rfl,rfl,rfl,by simp,fun k _ hk=>setRow_other w g k _ (fun e=>hk (by rw[e]))⟩
theorem own_two {w:World} {b1 b2:Nat} {e1 e2:TypeId} {s1 s2 n1 n2:Nat} {v1 v2:Value} {xs1 xs2:List Value} (h1:w.ownsRow b1 e1 s1 v1 n1 xs1) (h2:w.ownsRow b2 e2 s2 v2 n2 xs2) (he:e1≠e2):v1.ownBlock=none∨v1.ownBlock≠v2.ownBlock:=by
 rcases h1.2 with ⟨rfl,_⟩ | ⟨g,cap,cur,rfl,_,hh,_⟩
 ·exact .inl rfl
 ·refine .inr ?_
  rcases h2.2 with ⟨rfl,_⟩ | ⟨g',cap',cur',rfl,_,hh',_⟩
  ·exact fun h=>by cases h
  ·intro h
   obtain rfl:g=g':=by simpa[Value.ownBlock] using h
   rw[hh] at hh'
   injection hh' with hh'
   injection hh' with _ h2
   exact he h2
theorem own_ne {w:World} {base g:Nat} {e:TypeId} {size n:Nat} {v:Value} {xs:List Value} (h:w.ownsRow base e size v n xs) (hg:g < base):v.ownBlock=none∨v.ownBlock≠some g:=by
 refine .inr fun e=>?_
 have:=(h.lt g e).1
 omega
theorem then_alloc {B:Nat} {a W:World} (_:Below B a W) (o:Obj):Below W.heap.size W (W.alloc o):=(Below.refl _ _).alloc (Nat.le_refl _) _
theorem cloneSt_any (A:Option Addr) (n c:Nat) (xs:List Value) (w:World) (hR:Rd w w.heap.size 2 A n c xs) (h1:∀u∈xs,u.oneCell'=true) (hn:n≤8796093022208):
  Calls Tryz.prog 148 #[.slice A n c] w fun e w'=>∃A' c',e=.returned (.slice A' n c')∧w'.ownsRow w.heap.size 28 2 (.slice A' n c') n xs∧Below w.heap.size w w':=by
 have hmax:=hR.max
 have hcap:=hR.cap
 rcases A with _ | ad
 ·have hc0:=hR.nil rfl
  obtain rfl:n=0:=by omega
  subst hc0
  have hx:xs=[]:=List.eq_nil_of_length_eq_zero (by simpa using hR.len)
  subst hx
  have ht:=fun W=>Lib.run_eql_slice_nil (P:=Tryz.prog) W 22 28 none 0 0 0 0 Tryz.underlying22
  clear hR h1
  go_enter Tryz.func148,Tryz.ntmps148
  go_wp2
  go_ret
  exact⟨none,0,rfl,World.ownsRow_nil _ _ _ _,Below.refl _ _⟩
 ·have ht:=fun W=>Lib.run_eql_slice_nil (P:=Tryz.prog) W 22 28 (some ad) n c 0 0 Tryz.underlying22
  obtain⟨i0,hi0,hz0,hz1,hz2⟩:=info_parts stamp_info
  have h63:0+n≤maxLen:=by omega
  go_enter Tryz.func148,Tryz.ntmps148
  go_wp2_with (at_builtin;go_must (refine wpList_append_rd _ rfl (.tmp 5) (.tmp 6) _ rfl w.heap.size 28 i0 _ 2 16 Tryz.underlying22 hi0 hz0 hz1 hz2 rfl (by decide) (.slice (some ⟨w.heap.size,0,none⟩) 0 0) 0 [] rfl (own_empty w _ _) w.heap.size (some ad) n c xs rfl (hR.alloc (Nat.le_refl _) _) h1 h63 (by omega) (by simp) ?_);intro A' c' w1 hown hg hat)
  go_ret
  exact⟨A',c',rfl,by simpa using hown,((Below.refl _ _).alloc (Nat.le_refl _) _).trans (grown_below hg (by simp) (by simp[Value.ownBlock]))⟩
def ntFits (x:Nt) (known:List Vc.St):Bool:=covB (Vc.cnt known) (Vc.cnt x.s)
theorem fits_any (v:NV) (x:Nt) (A:Option Addr) (n c:Nat) (u:List Vc.St) (w:World) (hT:Tab w) (hN:NtRd w w.heap.size v x) (hl:u.length=n) (hR:Rd w w.heap.size 2 A n c (sv u)):
  Calls Tryz.prog 179 #[.agg v.val,.slice A n c] w fun e w'=>e=.returned (.bool (ntFits x u))∧Below w.heap.size w w':=by
 obtain⟨A1,n1,c1,A2,n2,c2,A3,n3,c3,A4,n4,c4⟩:=v
 have hb0:Below w.heap.size w (w.alloc (.cells #[.slice A1 n1 c1,.slice A2 n2 c2,.slice A3 n3 c3,.slice A4 n4 c4] 26)):=(Below.refl _ _).alloc (Nat.le_refl _) _
 have H1:=Hz_ (covers_any A A1 n c n1 c1 u x.s _ (hT.below hb0) hl hN.l1 (hR.go hb0) (hN.go hb0).r1)
 have HX:=Hz_ (show ntFits x u=covB (Vc.cnt u) (Vc.cnt x.s) from rfl)
 generalize covB (Vc.cnt u) (Vc.cnt x.s)=z at H1 HX
 have HB:=Hz_ hb0
 clear hN hl hR hb0 hT
 go_enter Tryz.func179,Tryz.ntmps179
 go_wp2_with (go_at_call 109;go_must (refine H1.out.mono ?_);rintro e w1 ⟨rfl,hb1⟩)
 go_ret
 exact⟨by rw[HX.out];rfl,btn HB.out hb1⟩
theorem dec_dropW {u v:List Wr} {k:Nat} (h1:k < u.length) (h2:k < v.length) (h:u[k]=v[k]):decide (u.drop k=v.drop k)=decide (u.drop (k+1)=v.drop (k+1)):=by
 refine decide_eq_decide.2 ?_
 rw[List.drop_eq_getElem_cons h1,List.drop_eq_getElem_cons h2,h]
 exact⟨fun e=>(List.cons.inj e).2,fun e=>by rw[e]⟩
theorem sameW_any (A D:Option Addr) (n c m d:Nat) (u v:List Wr) (w:World) (hl:u.length=n) (hl2:v.length=m) (hR:Rd w w.heap.size 4 A n c (wv u)) (hR2:Rd w w.heap.size 4 D m d (wv v)):
  Calls Tryz.prog 82 #[.slice A n c,.slice D m d] w fun e w'=>e=.returned (.bool (decide (u=v)))∧Below w.heap.size w w':=by
 have hmax:n≤9223372036854775807:=by have h1:=hR.cap;have h2:=hR.max;unfold maxLen at h2;omega
 by_cases hnm:n=m
 ·subst hnm
  go_enter Tryz.func82,Tryz.ntmps82
  go_wp2
  go_loopw [5] (fun i wr=>∃(k:Nat),k≤n∧i=.int .i64 k∧Hid (decide (u=v)=decide (u.drop k=v.drop k))∧Below w.heap.size w wr) (fun i _=>n - (intOf i).toNat)
  case atStart=>exact⟨0,by omega,rfl,rfl,Below.refl _ _⟩
  case round=>
   obtain⟨k,hk,rfl,hdd,hb⟩:=hrel
   by_cases hlt:k < n
   ·have hk1:k < u.length:=by omega
    have hk2:k < v.length:=by omega
    obtain⟨b,o,rfl,hab,g0,g1,g2,g3⟩:=(hR.below hb).write hl hk1
    obtain⟨b2,o2,rfl,hab2,p0,p1,p2,p3⟩:=(hR2.below hb).write hl2 hk2
    have HE:=Hz_ (show u[k]=(((u[k]'hk1).1.1,(u[k]'hk1).1.2),(u[k]'hk1).2.1,(u[k]'hk1).2.2) from rfl)
    have HE2:=Hz_ (show v[k]=(((v[k]'hk2).1.1,(v[k]'hk2).1.2),(v[k]'hk2).2.1,(v[k]'hk2).2.2) from rfl)
    generalize (u[k]'hk1).1.1=sc at g0 HE
    generalize (u[k]'hk1).1.2=sn at g1 HE
    generalize (u[k]'hk1).2.1=so at g2 HE
    generalize (u[k]'hk1).2.2=sg at g3 HE
    generalize (v[k]'hk2).1.1=tc at p0 HE2
    generalize (v[k]'hk2).1.2=tn at p1 HE2
    generalize (v[k]'hk2).2.1=to at p2 HE2
    generalize (v[k]'hk2).2.2=tg at p3 HE2
    have HB:=Hz_ hb
    clear hb hR hR2
    by_cases e0:sc=tc∧sn=tn∧so=to∧sg=tg
    ·obtain⟨rfl,rfl,rfl,rfl⟩:=e0
     have HN:=Hz_ (dec_dropW hk1 hk2 (by rw[HE.out,HE2.out]))
     clear hl hl2
     go_wp2
     go_quiet (fail)
     go_wp2
     go_roundw
     case rel=>exact⟨k+1,by omega,by go_num,by show _=_;rw[hdd.out,HN.out],below_drewN HB.out _⟩
     case measure=>simp[intOf];omega
    ·have HN:=Hz_ (show decide (u=v)=false by
      rw[decide_eq_false_iff_not];intro h;subst h
      have h2:=HE.out.symm.trans HE2.out
      simp only[Prod.mk.injEq] at h2
      exact e0 ⟨h2.1.1,h2.1.2,h2.2.1,h2.2.2⟩)
     clear hl hl2
     by_cases e1:sc=tc
     ·by_cases e2:sn=tn
      ·by_cases e3:so=to
       ·have e4:¬ sg=tg:=fun h=>e0 ⟨e1,e2,e3,h⟩
        subst e1 e2 e3
        clear e0
        cases sg<;>cases tg<;>first | exact absurd rfl e4 | skip
        all_goals
         clear e4
         go_wp2
         go_quiet (fail)
         go_wp2
         go_ret
         exact⟨by rw[HN.out];rfl,below_drewN HB.out _⟩
       ·subst e1 e2
        clear e0
        go_wp2
        go_quiet (fail)
        go_wp2
        go_ret
        exact⟨by rw[HN.out];rfl,below_drewN HB.out _⟩
      ·subst e1
       clear e0
       go_wp2
       go_quiet (fail)
       go_wp2
       go_ret
       exact⟨by rw[HN.out];rfl,below_drewN HB.out _⟩
     ·clear e0
      go_wp2
      go_quiet (fail)
      go_wp2
      go_ret
      exact⟨by rw[HN.out];rfl,below_drewN HB.out _⟩
   ·obtain rfl:k=n:=by omega
    have HX:=Hz_ (show decide (u=v)=true by rw[hdd.out,List.drop_of_length_le (by omega),List.drop_of_length_le (by omega)];simp)
    clear hdd
    go_wp2
    go_ret
    exact⟨by rw[HX.out];rfl,hb⟩
 ·have HN:=Hz_ (show decide (u=v)=false by rw[decide_eq_false_iff_not];intro h;subst h;omega)
  have hne:¬ ((n:Int)=(m:Int)):=by omega
  clear hl hl2
  go_enter Tryz.func82,Tryz.ntmps82
  go_wp2
  all_goals first
   | (exfalso;omega)
   | (go_ret;exact⟨by rw[HN.out];rfl,Below.refl _ _⟩)
def ntSame (x y:Nt):Bool:=decide (x.s=y.s) && (decide (x.e=y.e) && (decide (x.b=y.b) && decide (x.w=y.w)))
theorem ntSame_iff (x y:Nt):ntSame x y=true↔x=y:=by
 cases x;cases y;simp[ntSame]
theorem refNtSame_any (v v':NV) (x y:Nt) (w:World) (hN:NtRd w w.heap.size v x) (hM:NtRd w w.heap.size v' y):
  Calls Tryz.prog 61 #[.agg v.val,.agg v'.val] w fun e w'=>e=.returned (.bool (ntSame x y))∧Below w.heap.size w w':=by
 obtain⟨A1,n1,c1,A2,n2,c2,A3,n3,c3,A4,n4,c4⟩:=v
 obtain⟨D1,m1,d1,D2,m2,d2,D3,m3,d3,D4,m4,d4⟩:=v'
 have hb1:Below w.heap.size w (w.alloc (.cells #[.slice A1 n1 c1,.slice A2 n2 c2,.slice A3 n3 c3,.slice A4 n4 c4] 26)):=(Below.refl _ _).alloc (Nat.le_refl _) _
 have hb0:Below w.heap.size w ((w.alloc (.cells #[.slice A1 n1 c1,.slice A2 n2 c2,.slice A3 n3 c3,.slice A4 n4 c4] 26)).alloc (.cells #[.slice D1 m1 d1,.slice D2 m2 d2,.slice D3 m3 d3,.slice D4 m4 d4] 26)):=hb1.alloc hb1.size _
 have hB1:=(Blk.new w 26 #[.slice A1 n1 c1,.slice A2 n2 c2,.slice A3 n3 c3,.slice A4 n4 c4]).alloc (.cells #[.slice D1 m1 d1,.slice D2 m2 d2,.slice D3 m3 d3,.slice D4 m4 d4] 26)
 have hB2:=Blk.new (w.alloc (.cells #[.slice A1 n1 c1,.slice A2 n2 c2,.slice A3 n3 c3,.slice A4 n4 c4] 26)) 26 #[.slice D1 m1 d1,.slice D2 m2 d2,.slice D3 m3 d3,.slice D4 m4 d4]
 rw[World.size_alloc] at hB2
 obtain⟨w0,hw0⟩:∃w0,w0=(w.alloc (.cells #[.slice A1 n1 c1,.slice A2 n2 c2,.slice A3 n3 c3,.slice A4 n4 c4] 26)).alloc (.cells #[.slice D1 m1 d1,.slice D2 m2 d2,.slice D3 m3 d3,.slice D4 m4 d4] 26):=⟨_,rfl⟩
 rw[←hw0] at hb0 hB1 hB2
 obtain⟨l1,r1,l2,r2,l3,r3,l4,r4⟩:=hN.go hb0
 obtain⟨k1,s1,k2,s2,k3,s3,k4,s4⟩:=hM.go hb0
 dsimp only at l1 r1 l2 r2 l3 r3 l4 r4 k1 s1 k2 s2 k3 s3 k4 s4
 have hQ:∀W,Below w0.heap.size w0 W→(W.cell? ⟨w.heap.size,0,none⟩=some (.slice A1 n1 c1)∧W.cell? ⟨w.heap.size,1,none⟩=some (.slice A2 n2 c2)∧W.cell? ⟨w.heap.size,2,none⟩=some (.slice A3 n3 c3)∧W.cell? ⟨w.heap.size,3,none⟩=some (.slice A4 n4 c4) ∧
   W.cell? ⟨w.heap.size+1,0,none⟩=some (.slice D1 m1 d1)∧W.cell? ⟨w.heap.size+1,1,none⟩=some (.slice D2 m2 d2)∧W.cell? ⟨w.heap.size+1,2,none⟩=some (.slice D3 m3 d3)∧W.cell? ⟨w.heap.size+1,3,none⟩=some (.slice D4 m4 d4)):=
  fun W hb=>⟨(hB1.go hb).cell 0,(hB1.go hb).cell 1,(hB1.go hb).cell 2,(hB1.go hb).cell 3,(hB2.go hb).cell 0,(hB2.go hb).cell 1,(hB2.go hb).cell 2,(hB2.go hb).cell 3⟩
 have HQ:=Hz_ hQ
 have H1:=Hz_ fun (W:World) (hb:Below w0.heap.size w0 W)=>same_any A1 D1 n1 c1 m1 d1 x.s y.s W l1 k1 (r1.go hb) (s1.go hb)
 have H2:=Hz_ fun (W:World) (hb:Below w0.heap.size w0 W)=>same_any A2 D2 n2 c2 m2 d2 x.e y.e W l2 k2 (r2.go hb) (s2.go hb)
 have H3:=Hz_ fun (W:World) (hb:Below w0.heap.size w0 W)=>sameS_any A3 D3 n3 c3 m3 d3 x.b y.b W l3 k3 (r3.go hb) (s3.go hb)
 have H4:=Hz_ fun (W:World) (hb:Below w0.heap.size w0 W)=>sameW_any A4 D4 n4 c4 m4 d4 x.w y.w W l4 k4 (r4.go hb) (s4.go hb)
 have hf0:ntSame x y=(decide (x.s=y.s) && (decide (x.e=y.e) && (decide (x.b=y.b) && decide (x.w=y.w)))):=rfl
 generalize decide (x.s=y.s)=f1 at H1 hf0
 generalize decide (x.e=y.e)=f2 at H2 hf0
 generalize decide (x.b=y.b)=f3 at H3 hf0
 generalize decide (x.w=y.w)=f4 at H4 hf0
 have HF:=Hz_ hf0
 have HW:=Hz_ hw0.symm
 have k:=Below.refl w0.heap.size w0
 obtain⟨q0,q1,q2,q3,q4,q5,q6,q7⟩:=hQ w0 k
 clear hN hM l1 r1 l2 r2 l3 r3 l4 r4 k1 s1 k2 s2 k3 s3 k4 s4 hB1 hB2 hQ hf0 hw0 hb1
 go_enter Tryz.func61,Tryz.ntmps61
 go_wp2_with fail
 rw[HW.out]
 cases f1<;>cases f2<;>cases f3<;>cases f4
 all_goals
  go_wp2_with (first
   | (go_at_call 80;(first
    | ((with_reducible refine(H1.out _ k).mono ?_);rintro e w' ⟨rfl,hb'⟩;have k:=btn k hb';clear hb';obtain⟨q0,q1,q2,q3,q4,q5,q6,q7⟩:=HQ.out _ k)
    | ((with_reducible refine(H2.out _ k).mono ?_);rintro e w' ⟨rfl,hb'⟩;have k:=btn k hb';clear hb';obtain⟨q0,q1,q2,q3,q4,q5,q6,q7⟩:=HQ.out _ k)))
   | (go_at_call 62;go_must (with_reducible refine(H3.out _ k).mono ?_);rintro e w' ⟨rfl,hb'⟩;have k:=btn k hb';clear hb';obtain⟨q0,q1,q2,q3,q4,q5,q6,q7⟩:=HQ.out _ k)
   | (go_at_call 82;go_must (with_reducible refine(H4.out _ k).mono ?_);rintro e w' ⟨rfl,hb'⟩;have k:=btn k hb';clear hb';obtain⟨q0,q1,q2,q3,q4,q5,q6,q7⟩:=HQ.out _ k))
  go_ret
  exact⟨by rw[HF.out];rfl,btn hb0 k⟩
def SeqTold {α:Type} (F:Fence) (n:Nat) (P:Program) (g:Nat) (lb:Array Value) (encs:α→Array Value) (T:α→World→Prop) (Kp:World→World→Prop) (S Sp:List α→Prop) (N:Nat) (w:World):Prop:=
 ∀(l:Nat) (J Jx:List α→World→Prop) (W:World),Below w.heap.size w W→AbidesFrom W.heap.size J→AbidesFrom W.heap.size Jx →
  (∀pre x W1,J pre W1→T x W1→pre.length < N→YieldAt F (n - 1) P l (encs x) W1 fun e W'=>
   (e=.returned (.bool true)∧J (pre++[x]) W'∧Kp W1 W')∨(e=.returned (.bool false)∧Jx (pre++[x]) W')) →
  J [] W →
  CallsIn F n P g (#[.func (.yield l) #[] #[]]++lb) W fun e W'=>(∃v,e=.returned v)∧((∃xs,S xs∧J xs W')∨(∃pre,Sp pre∧Jx pre W'))
def RoundLeft {α:Type} (B:Nat) (Kp:World→World→Prop) (I:List α→World→Prop) (Ix:Code→List α→World→Prop) (xs:List α) (W:World):Exit→Act→World→Prop
 | .normal,_,V=>KeepsFrom B W V∧Kp W V∧I xs V
 | .ret,_,V=>KeepsFrom B W V∧Ix .ret xs V
 | .exit id,_,V=>KeepsFrom B W V∧Ix (.exit id) xs V
 | .goto t,_,V=>KeepsFrom B W V∧Ix (.goto t) xs V
 | .panic _,_,_=>False
 | .outgrown,_,_=>False
variable {F:Fence} {n:Nat} {P:Program}
theorem wpIn_rangeFunc_told {α:Type} {g:Operand} {ps:Array Tmp} {assign body:Code} {Q:Exit→Act→World→Prop} {a:Act} {w:World}
  (hro:F.round=none) (h1:1≤n) {gf:Nat} {lb:Array Value} (hg:a.eval g=.func (.func gf) #[] lb) (hFg:F.fn gf) (eg:∀args w,(callFunc gf args).run P w=.ok (.enter gf args) w)
  {encs:α→Array Value} {T:α→World→Prop} {Kp:World→World→Prop} {S Sp:List α→Prop} {N:Nat} {w0:World} (hseq:SeqTold F (n - 1) P gf lb encs T Kp S Sp N w0)
  (hKt:∀{A B C:World},Kp A B→Kp B C→Kp A C) (hKb:∀(W:World) (l:Nat) (o o':Obj),w.heap.size≤l→W.heap[l]?=some o→o.isCells=false→o.isWalk=false→Kp W (W.putObj l o')) (hb0:Below w0.heap.size w0 w) (hps:∀x,(encs x).size=ps.size)
  (I:List α→World→Prop) (Ix:Code→List α→World→Prop) (hI:OwnFrom w.heap.size I) (hIx:∀c,OwnFrom w.heap.size (Ix c)) (h0:I [] w)
  (Ax:α→Act→World→Prop) (hAx:∀a₁,OwnFrom w.heap.size (fun x V=>Ax x a₁ V))
  (hassign:∀(l:Nat) (pre:List α) (x:α) (W:World) (K:Act→World→Prop),I pre W→T x W→(∀a₁ V,KeepsFrom w.heap.size W V→Kp W V→I pre V→Ax x a₁ V→K a₁ V) →
   assign.wpIn (F.inRound l) (n - 1 - 1) P (Exit.then K (fun _ _ _=>False)) { tmps:=(ps.zip (encs x)).foldl (fun t (p,v)=>t.setIfInBounds p v) a.tmps,defers:=[] } W)
  (hbody:∀(l:Nat) (pre:List α) (x:α) (a₁:Act) (W:World),w.heap.size≤l→I pre W→Ax x a₁ W→pre.length < N→body.wpIn (F.inRound l) (n - 1 - 1) P (RoundLeft w.heap.size Kp I Ix (pre++[x]) W) a₁ W)
  (hdone:∀(D:Nat) (xs:List α) (W:World),w.heap.size≤D→S xs→I xs W→W.heap[D]?=some (.deferred (some []))→Q .normal { a with defers:={ target:=.collected D,args:=#[] } :: a.defers } W)
  (hstop:∀(D:Nat) (c:Code) (pre:List α) (W:World),w.heap.size≤D→Sp pre→Ix c pre W→W.heap[D]?=some (.deferred (some []))→c.wpIn F n P Q { a with defers:={ target:=.collected D,args:=#[] } :: a.defers } W):
  (Code.rangeFunc g ps assign body).wpIn F n P Q a w:=by
 refine wpIn_rangeFunc fun fn hfn=>?_
 rw[hro]
 -- the loop's record,in each of its states
 let R:LoopState→Option Code→Obj:=fun st pe=>.loop { state:=st,pending:=pe,fn,tmps:=a.tmps,params:=ps,assign,body,defers:=w.heap.size }
 have hsz:(w.alloc (.deferred (some []))).heap.size=w.heap.size+1:=by simp
 obtain⟨W1,hW1⟩:∃W1,W1=(w.alloc (.deferred (some []))).alloc (R .ready none):=⟨_,rfl⟩
 have rec1:W1.heap[w.heap.size+1]?=some (R .ready none):=by
  have h:=World.alloc_heap_new (w.alloc (.deferred (some []))) (R .ready none)
  rwa [hsz,←hW1] at h
 have mark1:W1.heap[w.heap.size]?=some (.deferred (some [])):=by
  rw[hW1];exact(Below.heap_alloc _ _ _ (by omega)).trans (World.alloc_heap_new w _)
 have i1:I [] W1:=by rw[hW1];exact hI.alloc _ (hI.alloc _ h0)
 have below1:Below w0.heap.size w0 W1:=by
  rw[hW1];exact hb0.trans ((((Below.refl _ w).alloc (Nat.le_refl _) _).alloc (by simp) _).mono hb0.size)
 have size1:w.heap.size+2≤W1.heap.size:=by rw[hW1];simp
 refine⟨w.heap.size+1,[{ target:=.collected w.heap.size,args:=#[] }],W1,{ target:=.fn (.func gf) lb,args:=#[.func (.yield (w.heap.size+1)) #[] #[]] },W1,gf,#[.func (.yield (w.heap.size+1)) #[] #[]]++lb,W1,
  by rw[hW1];exact run_enterLoop_outer _ _ _ _ _,by simp only[resolve,hg];simp[go_sem],fun f' hf'=>by simp[Target.leads] at hf';subst hf';exact hFg,by simp[invoke,go_sem,eg],fun _=>h1,?_⟩
 have stays:∀{A B:World} {row:Option Nat} {k:Nat} {o:Obj},A.grownBy B row→(∀r,row=some r→W1.heap.size≤r∧∃o:Obj,A.heap[r]?=some o∧o.isWalk=true)→k < W1.heap.size→A.heap[k]?=some o→B.heap[k]?=some o:=
  fun {A B row k o} hg' hr hk h=>(hg'.block k (Array.getElem?_eq_some_iff.1 h).1 (fun e=>by have:=(hr k e.symm).1;omega)).trans h
 have asOwn:∀{A:World} {row:Option Nat},(∀r,row=some r→W1.heap.size≤r∧∃o:Obj,A.heap[r]?=some o∧o.isWalk=true)→(∀r,row=some r→w.heap.size≤r∧∃o:Obj,A.heap[r]?=some o∧o.isCells=false):=
  fun hr r e=>by obtain⟨hle,o,ho,hwk⟩:=hr r e;exact⟨by omega,o,ho,Obj.not_cells_of_walk hwk⟩
 refine(hseq (w.heap.size+1) (fun pre W=>I pre W∧W.heap[w.heap.size+1]?=some (R .ready none)∧W.heap[w.heap.size]?=some (.deferred (some [])))
  (fun pre W=>∃c,Ix c pre W∧W.heap[w.heap.size+1]?=some (R .done (some c))∧W.heap[w.heap.size]?=some (.deferred (some []))) W1 below1
  (fun s A B row hs hg' hr=>⟨hI s A B row hs.1 hg' (asOwn hr),stays hg' hr (by omega) hs.2.1,stays hg' hr (by omega) hs.2.2⟩)
  (fun s A B row hs hg' hr=>by
   obtain⟨c,hc,hl,hk⟩:=hs
   exact⟨c,hIx c s A B row hc hg' (asOwn hr),stays hg' hr (by omega) hl,stays hg' hr (by omega) hk⟩) ?_ ⟨i1,rec1,mark1⟩).mono ?_
 ·-- one round
  rintro pre x W ⟨hi,hl,hk⟩ hx hlen
  refine⟨fn,_,assign,body,run_yield (P:=P) (args:=encs x) hl (hps x),roundIn_of_wpIn hfn ?_⟩
  refine hassign _ pre x W _ hi hx fun a₁ V hkV hpV iV axV=>?_
  ·have lV:=hkV.same _ _ (by omega) hl rfl
   have kV:=hkV.same _ _ (Nat.le_refl _) hk rfl
   have hltV:=(Array.getElem?_eq_some_iff.1 lV).1
   refine⟨_,run_beginRound lV rfl,wpIn_mono (hbody _ pre x a₁ _ (by omega) (hI.putObj _ iV (by omega) lV rfl) ((hAx a₁).putObj _ axV (by omega) lV rfl) hlen) ?_⟩
   have l2:(V.putObj (w.heap.size+1) (R .busy none)).heap[w.heap.size+1]?=some (R .busy none):=World.putObj_heap_same hltV
   have k2:(V.putObj (w.heap.size+1) (R .busy none)).heap[w.heap.size]?=some (.deferred (some [])):=(World.putObj_heap_other (by omega)).trans kV
   have kp2:Kp W (V.putObj (w.heap.size+1) (R .busy none)):=hKt hpV (hKb _ _ _ _ (by omega) lV rfl rfl)
   have shut:∀(jump:Option Code) (Z:World),KeepsFrom w.heap.size (V.putObj (w.heap.size+1) (R .busy none)) Z →
     (Instr.endRound (w.heap.size+1) jump).run P Z=.ok (.bool jump.isNone) (Z.putObj (w.heap.size+1) (R (if jump.isNone then .ready else .done) jump))∧Z.heap[w.heap.size+1]?=some (R .busy none) ∧
     (Z.putObj (w.heap.size+1) (R (if jump.isNone then .ready else .done) jump)).heap[w.heap.size+1]?=some (R (if jump.isNone then .ready else .done) jump) ∧
     (Z.putObj (w.heap.size+1) (R (if jump.isNone then .ready else .done) jump)).heap[w.heap.size]?=some (.deferred (some [])):=fun jump Z hz=>by
    have lz:=hz.same _ _ (by omega) l2 rfl
    exact⟨run_endRound (P:=P) jump lz,lz,World.putObj_heap_same (Array.getElem?_eq_some_iff.1 lz).1,(World.putObj_heap_other (by omega)).trans (hz.same _ _ (Nat.le_refl _) k2 rfl)⟩
   rintro e2 a2 Z hq
   cases e2 with
   | normal=>
    obtain⟨hz,kpz,iz⟩:=hq
    obtain⟨hrun,lz,l4,k4⟩:=shut none Z hz
    exact⟨_,_,hrun,.inl ⟨rfl,⟨hI.putObj _ iz (by omega) lz rfl,l4,k4⟩,hKt (hKt kp2 kpz) (hKb _ _ _ _ (by omega) lz rfl rfl)⟩⟩
   | ret=>
    obtain⟨hz,iz⟩:=hq
    obtain⟨hrun,lz,l4,k4⟩:=shut (some .ret) Z hz
    exact⟨_,_,hrun,.inr ⟨rfl,.ret,(hIx _).putObj _ iz (by omega) lz rfl,l4,k4⟩⟩
   | exit id=>
    obtain⟨hz,iz⟩:=hq
    obtain⟨hrun,lz,l4,k4⟩:=shut (some (.exit id)) Z hz
    exact⟨_,_,hrun,.inr ⟨rfl,.exit id,(hIx _).putObj _ iz (by omega) lz rfl,l4,k4⟩⟩
   | goto t=>
    obtain⟨hz,iz⟩:=hq
    obtain⟨hrun,lz,l4,k4⟩:=shut (some (.goto t)) Z hz
    exact⟨_,_,hrun,.inr ⟨rfl,.goto t,(hIx _).putObj _ iz (by omega) lz rfl,l4,k4⟩⟩
   | panic ch=>exact hq.elim
   | outgrown=>exact hq.elim
 ·-- behind the iterator
  rintro e W2 ⟨⟨v,rfl⟩,(⟨xs,hS,hi,hl,hk⟩ | ⟨pre,hSp,c,hi,hl,hk⟩)⟩
  ·exact⟨none,_,run_endLoop (P:=P) hl (by simp),hdone _ xs _ (Nat.le_refl _) hS (hI.putObj _ hi (by omega) hl rfl) ((World.putObj_heap_other (by omega)).trans hk)⟩
  ·exact⟨some c,_,run_endLoop (P:=P) hl (by simp),hstop _ c pre _ (Nat.le_refl _) hSp ((hIx c).putObj _ hi (by omega) hl rfl) ((World.putObj_heap_other (by omega)).trans hk)⟩
end Go.Proofs.YtmbeahbgafkjfaaGreatDoor
namespace Go.Proofs.YtmbeahbgafkjfaaGreatDoor
open Go.RowKit
structure But (g:Nat) (w w':World):Prop where
 os:w'.os=w.os
 tape:w'.tape=w.tape
 output:w'.output=w.output
 size:w.heap.size≤w'.heap.size
 block:∀k,k < w.heap.size→k≠g→w'.heap[k]?=w.heap[k]?
theorem But.refl (g:Nat) (w:World):But g w w:=⟨rfl,rfl,rfl,Nat.le_refl _,fun _ _ _=>rfl⟩
theorem But.trans {g:Nat} {a b c:World} (h:But g a b) (k:But g b c):But g a c:=
 ⟨k.os.trans h.os,k.tape.trans h.tape,k.output.trans h.output,Nat.le_trans h.size k.size,fun i hi hn=>(k.block i (Nat.lt_of_lt_of_le hi h.size) hn).trans (h.block i hi hn)⟩
theorem But.of {g:Nat} {w w':World} (h:Below w.heap.size w w'):But g w w':=⟨h.os,h.tape,h.output,h.size,fun k hk _=>h.block k hk⟩
theorem But.set_ {g:Nat} (w:World) {p:Addr} (hp:p.block=g) (u:Value):But g w (w.setCell p u):=
 ⟨rfl,rfl,rfl,by simp,fun k _ hn=>Below.heap_setCell w p u k (by rw[hp];exact hn)⟩
theorem But.drew {g:Nat} (w:World):But g w w.drew:=⟨rfl,rfl,rfl,Nat.le_refl _,fun _ _ _=>rfl⟩
theorem below_but {g B:Nat} {a w w':World} (h:Below B a w) (k:But g w w') (hB:B≤w.heap.size) (hg:B≤g):Below B a w':=
 ⟨k.os.trans h.os,k.tape.trans h.tape,k.output.trans h.output,Nat.le_trans h.size k.size,fun i hi=>(k.block i (by omega) (by omega)).trans (h.block i hi)⟩
theorem But.below {g:Nat} {a b c:World} (h:But g a b) (k:Below a.heap.size b c):But g a c:=
 ⟨k.os.trans h.os,k.tape.trans h.tape,k.output.trans h.output,Nat.le_trans h.size k.size,fun i hi hn=>(k.block i hi).trans (h.block i hi hn)⟩
theorem Rd.but {g B size n c:Nat} {A:Option Addr} {xs:List Value} {w w':World} (h:Rd w B size A n c xs) (k:But g w w') (hB:B≤w.heap.size) (hg:B≤g):Rd w' B size A n c xs:=
 h.keep fun p hp=>World.cell?_of_block (k.block p.block (by omega) (by omega))
theorem Blk.but {g q:Nat} {t:TypeId} {cs:Array Value} {w w':World} (h:Blk w q t cs) (k:But g w w') (hq:q≠g):Blk w' q t cs:=(k.block q h.lt hq).trans h
theorem own_but {g base size n:Nat} {e:TypeId} {v:Value} {xs:List Value} {w w':World} (h:w.ownsRow base e size v n xs) (k:But g w w') (hg:g < base):w'.ownsRow base e size v n xs:=by
 refine⟨h.1,?_⟩
 rcases h.2 with h2 | ⟨r,cap,cur,rfl,hbg,hh,rest⟩
 ·exact .inl h2
 ·exact .inr ⟨r,cap,cur,rfl,hbg,by rw[k.block r (Array.getElem?_eq_some_iff.1 hh).1 (by omega)];exact hh,rest⟩
theorem own_butN {g base size n:Nat} {e:TypeId} {v:Value} {xs:List Value} {w w':World} (h:w.ownsRow base e size v n xs) (k:But g w w') (hg:v.ownBlock≠some g):w'.ownsRow base e size v n xs:=by
 refine⟨h.1,?_⟩
 rcases h.2 with h2 | ⟨r,cap,cur,rfl,hbg,hh,rest⟩
 ·exact .inl h2
 ·exact .inr ⟨r,cap,cur,rfl,hbg,by rw[k.block r (Array.getElem?_eq_some_iff.1 hh).1 (fun e=>hg (by subst e;rfl))];exact hh,rest⟩
theorem rd_kept {W W':World} {row:Option Nat} {B size n c:Nat} {A:Option Addr} {xs:List Value} (h:Rd W B size A n c xs) (hg:W.grownBy W' row) (hr:∀r,row=some r→∃o:Obj,W.heap[r]?=some o∧o.isCells=false):Rd W' B size A n c xs:=
 ⟨h.len,h.cap,h.max,h.nil,fun hn=>by
  obtain⟨ad,e,hb,hc⟩:=h.at0 hn
  exact⟨ad,e,hb,fun j u hu=>cell_kept (hc j u hu) hg hr⟩⟩
structure Olds (w0 W:World):Prop where
 size:w0.heap.size≤W.heap.size
 cell:∀p u,w0.cell? p=some u→W.cell? p=some u
theorem Olds.refl (w:World):Olds w w:=⟨Nat.le_refl _,fun _ _ h=>h⟩
theorem Olds.below {w0 W V:World} (h:Olds w0 W) (hb:Below W.heap.size W V):Olds w0 V:=
 ⟨Nat.le_trans h.size hb.size,fun p u hp=>(hb.cell (p:=p) (Nat.lt_of_lt_of_le (World.block_lt_of_cell? _ _ hp) h.size)).trans (h.cell p u hp)⟩
theorem Olds.of_below {w0 W:World} (h:Below w0.heap.size w0 W):Olds w0 W:=(Olds.refl w0).below h
end Go.Proofs.YtmbeahbgafkjfaaGreatDoor
