/- Lemmas for the claim, layer 9. -/
import Derived.Test.YtmbeahbgafkjfaaGreatDoorKc06
import Derived.Test.YtmbeahbgafkjfaaGreatDoorKc08
set_option maxRecDepth 100000
set_option maxHeartbeats 16000000
namespace Go.Proofs.YtmbeahbgafkjfaaGreatDoor
open Go.RowKit
def wc (w:Wr):List Value:=[.int .i64 w.1.1,.int .i64 w.1.2,.int .i64 w.2.1,.bool w.2.2]
def wv (l:List Wr):List Value:=l.flatMap wc
theorem wv_len (l:List Wr):(wv l).length=l.length * 4:=flat_len wc 4 l fun _ _=>rfl
theorem wv_app (l r:List Wr):wv (l++r)=wv l++wv r:=by simp[wv]
theorem wv_at (l:List Wr) (k:Nat) (h:k < l.length) (j:Nat) (hj:j < 4):(wv l)[k * 4+j]?=(wc l[k])[j]?:=flat_at wc 4 (by decide) l (fun _ _=>rfl) k h j hj
theorem wv_oneCell (l:List Wr):∀u∈wv l,u.oneCell'=true:=by
 intro u hu;simp only[wv,wc,List.mem_flatMap,List.mem_cons,List.not_mem_nil,or_false] at hu;obtain⟨s,_,h | h | h | h⟩:=hu<;>subst h<;>rfl
theorem Rd.write {w:World} {B n c k:Nat} {A:Option Addr} {l:List Wr} (h:Rd w B 4 A n c (wv l)) (hl:l.length=n) (hk:k < l.length):
  ∃b o,A=some ⟨b,o,none⟩/\b < B/\w.cell? ⟨b,o+k * 4,none⟩=some (.int .i64 l[k].1.1)/\w.cell? ⟨b,o+k * 4+1,none⟩=some (.int .i64 l[k].1.2) /\
   w.cell? ⟨b,o+k * 4+2,none⟩=some (.int .i64 l[k].2.1)/\w.cell? ⟨b,o+k * 4+3,none⟩=some (.bool l[k].2.2):=by
 obtain⟨b,o,rfl,hb,hc⟩:=h.plain (by omega) (by decide);have e:∀j,j < 4->∀u,(wc l[k])[j]?=some u->w.cell? ⟨b,o+k * 4+j,none⟩=some u:=fun j hj u hu=>by
  rw[Nat.add_assoc];exact hc (k * 4+j) u (by rw[wv_at l k (by omega) j hj,hu])
 exact⟨b,o,rfl,hb,e 0 (by decide) _ rfl,e 1 (by decide) _ rfl,e 2 (by decide) _ rfl,e 3 (by decide) _ rfl⟩
structure NV where
 A1:Option Addr
 n1:Nat
 c1:Nat
 A2:Option Addr
 n2:Nat
 c2:Nat
 A3:Option Addr
 n3:Nat
 c3:Nat
 A4:Option Addr
 n4:Nat
 c4:Nat
abbrev NV.val (v:NV):Array Value:=#[.slice v.A1 v.n1 v.c1,.slice v.A2 v.n2 v.c2,.slice v.A3 v.n3 v.c3,.slice v.A4 v.n4 v.c4]
structure NtRd (w:World) (B:Nat) (v:NV) (x:Nt):Prop where
 l1:x.s.length=v.n1
 r1:Rd w B 2 v.A1 v.n1 v.c1 (sv x.s)
 l2:x.e.length=v.n2
 r2:Rd w B 2 v.A2 v.n2 v.c2 (sv x.e)
 l3:x.b.length=v.n3
 r3:Rd w B 2 v.A3 v.n3 v.c3 (sv x.b)
 l4:x.w.length=v.n4
 r4:Rd w B 4 v.A4 v.n4 v.c4 (wv x.w)
theorem NtRd.go {w w':World} {v:NV} {x:Nt} (h:NtRd w w.heap.size v x) (hb:Below w.heap.size w w'):NtRd w' w'.heap.size v x:=
 ⟨h.l1,h.r1.go hb,h.l2,h.r2.go hb,h.l3,h.r3.go hb,h.l4,h.r4.go hb⟩
theorem NtRd.more {w:World} {B B':Nat} {v:NV} {x:Nt} (h:NtRd w B v x) (hB:B<=B'):NtRd w B' v x:=
 ⟨h.l1,h.r1.more hB,h.l2,h.r2.more hB,h.l3,h.r3.more hB,h.l4,h.r4.more hB⟩
theorem NtRd.below {w w':World} {B:Nat} {v:NV} {x:Nt} (h:NtRd w B v x) (hb:Below B w w'):NtRd w' B v x:=
 ⟨h.l1,h.r1.below hb,h.l2,h.r2.below hb,h.l3,h.r3.below hb,h.l4,h.r4.below hb⟩
theorem object_any (o:Int) (w:World):Calls Tryz.prog 110 #[.int .i64 o] w fun e w'=>e=.returned (.bool (decide (0<=o) && decide (o<=255)))/\w=w':=by
 by_cases c1:0<=o
 ·have HX:=Hz_ (show (decide (0<=o) && decide (o<=255))=decide (o<=255) by simp[c1]);rw[HX.out];by_cases c2:o<=255
  ·have HX:=Hz_ (show decide (o<=255)=true by simp[c2]);rw[HX.out];go_enter Tryz.func110,Tryz.ntmps110;go_wp2;go_ret;exact⟨ret_bool (by simp;omega),rfl⟩
  ·have HX:=Hz_ (show decide (o<=255)=false by simp[c2]);rw[HX.out];go_enter Tryz.func110,Tryz.ntmps110;go_wp2;go_ret;exact⟨ret_bool (by simp;omega),rfl⟩
 ·have HX:=Hz_ (show (decide (0<=o) && decide (o<=255))=false by simp[c1]);rw[HX.out];have hd:decide (0<=o)=false:=by simpa using c1
  go_enter Tryz.func110,Tryz.ntmps110;go_wp2;go_ret;exact⟨rfl,rfl⟩
theorem noteFormed_any (v:NV) (x:Nt) (w:World) (hT:Tab w) (hN:NtRd w w.heap.size v x):
  Calls Tryz.prog 37 #[.agg v.val] w fun e w'=>e=.returned (.bool (ntF x))/\Below w.heap.size w w':=by
 obtain⟨A1,n1,c1,A2,n2,c2,A3,n3,c3,A4,n4,c4⟩:=v;have hb0:Below w.heap.size w (w.alloc (.cells #[.slice A1 n1 c1,.slice A2 n2 c2,.slice A3 n3 c3,.slice A4 n4 c4] 26)):=Zr.alloc Zl _;have hBx:=Blk.new w 26 #[.slice A1 n1 c1,.slice A2 n2 c2,.slice A3 n3 c3,.slice A4 n4 c4];obtain⟨w0,hw0⟩:∃w0,w0=w.alloc (.cells #[.slice A1 n1 c1,.slice A2 n2 c2,.slice A3 n3 c3,.slice A4 n4 c4] 26):=⟨_,rfl⟩;rw[<-hw0] at hb0 hBx;have hN0:=hN.go hb0;obtain⟨l1,m1,l2,m2,l3,m3,l4,m4⟩:=hN0;dsimp only at l1 m1 l2 m2 l3 m3 l4 m4;have hT0:=hT.below hb0;have hQ:∀W,Below w0.heap.size w0 W->(W.cell? ⟨w.heap.size,0,none⟩=some (.slice A1 n1 c1)/\W.cell? ⟨w.heap.size,1,none⟩=some (.slice A2 n2 c2)/\W.cell? ⟨w.heap.size,2,none⟩=some (.slice A3 n3 c3)/\W.cell? ⟨w.heap.size,3,none⟩=some (.slice A4 n4 c4)):=
  fun W hb=>⟨(hBx.go hb).cell 0,(hBx.go hb).cell 1,(hBx.go hb).cell 2,(hBx.go hb).cell 3⟩
 have HQ:=Hz_ hQ;have H1:=Hz_ fun (W:World) (hb:Below w0.heap.size w0 W)=>formed_any A1 n1 c1 x.s W l1 (m1.go hb);have H2:=Hz_ fun (W:World) (hb:Below w0.heap.size w0 W)=>formed_any A2 n2 c2 x.e W l2 (m2.go hb);have H3:=Hz_ fun (W:World) (hb:Below w0.heap.size w0 W)=>covers_any A2 A1 n2 c2 n1 c1 x.e x.s W (hT0.below hb) l2 l1 (m2.go hb) (m1.go hb);have H4:=Hz_ fun (W:World) (hb:Below w0.heap.size w0 W)=>formedS_any A3 n3 c3 x.b W l3 (m3.go hb);have H5:=Hz_ fun (W:World) (hb:Below w0.heap.size w0 W) o=>hasS_any A3 n3 c3 x.b o W l3 (m3.go hb);have H6:=Hz_ fun (W:World) (hb:Below w0.heap.size w0 W) sc sn=>has_any A2 n2 c2 x.e (sc,sn) W l2 (m2.go hb);have HW4:=Hz_ fun (W:World) (hb:Below w0.heap.size w0 W) k (hk:k < x.w.length)=>(m4.go hb).write l4 hk;have HL4:=Hz_ l4;have hmax:n4<=9223372036854775807:=by have h1:=m4.cap;have h2:=m4.max;unfold maxLen at h2;omega
 have hf0:ntF x=((fm (-1) x.s && (fm (-1) x.e && (covB (Vc.cnt x.e) (Vc.cnt x.s) && Sn.fmS (-2) x.b))) && ntW x.e x.b (-1) x.w):=rfl;have HDrop:=Hz_ fun last k h=>ntW_drop x.e x.b last x.w k h;have HNil:=Hz_ fun last k (h:n4<=k)=>show ntW x.e x.b last (x.w.drop k)=true by rw[List.drop_of_length_le (by rw[HL4.out];exact h)];rfl
 generalize fm (-1) x.s=f1 at H1 hf0;generalize fm (-1) x.e=f2 at H2 hf0;generalize covB (Vc.cnt x.e) (Vc.cnt x.s)=f3 at H3 hf0;generalize Sn.fmS (-2) x.b=f4 at H4 hf0;have HF:=Hz_ hf0;have HW:=Hz_ hw0.symm;have k:=Below.refl w0.heap.size w0;obtain⟨q0,q1,q2,q3⟩:=hQ w0 k;clear hN hT l1 m1 l2 m2 l3 m3 l4 m4 hT0 hBx hQ hf0 hw0;go_enter Tryz.func37,Tryz.ntmps37;go_wp2_with fail;rw[HW.out];cases f1<;>cases f2<;>cases f3<;>cases f4
 all_goals
  go_wp2_with (first
   | (go_at_call 91;(first
    | ((with_reducible refine(H1.out _ k).mono ?_);rintro e w' ⟨rfl,hb'⟩;have k:=btn k hb';clear hb';obtain⟨q0,q1,q2,q3⟩:=HQ.out _ k)
    | ((with_reducible refine(H2.out _ k).mono ?_);rintro e w' ⟨rfl,hb'⟩;have k:=btn k hb';clear hb';obtain⟨q0,q1,q2,q3⟩:=HQ.out _ k)))
   | (go_at_call 109;go_must (with_reducible refine(H3.out _ k).mono ?_);rintro e w' ⟨rfl,hb'⟩;have k:=btn k hb';clear hb';obtain⟨q0,q1,q2,q3⟩:=HQ.out _ k)
   | (go_at_call 41;go_must (with_reducible refine(H4.out _ k).mono ?_);rintro e w' ⟨rfl,hb'⟩;have k:=btn k hb';clear hb';obtain⟨q0,q1,q2,q3⟩:=HQ.out _ k))
  first
  | (go_ret;exact⟨by rw[HF.out];rfl,btn hb0 k⟩)
  | skip
 have hbw:=btn hb0 k;go_loopw [3,33] (fun a i wr=>∃(j:Nat) (last:Int),j<=n4/\i=.int .i64 j/\a=.int .i64 last/\Below w0.heap.size w0 wr/\Hid (ntW x.e x.b (-1) x.w=ntW x.e x.b last (x.w.drop j))) (fun _ i _=>n4 - (intOf i).toNat)
 case atStart=>exact⟨0,-1,by omega,rfl,rfl,k,rfl⟩
 case round=>
  obtain⟨j,last,hj,rfl,rfl,hb,hr⟩:=hrel;clear q0 q1 q2 q3 k hbw;by_cases hlt:j < n4
  ·have hjl:j < x.w.length:=by rw[HL4.out];exact hlt
   obtain⟨b,o,rfl,hbb,g0,g1,g2,g3⟩:=HW4.out wr hb j hjl;obtain⟨q0,q1,q2,q3⟩:=HQ.out _ hb;have HD:=hr.out.trans (HDrop.out last j hjl);unfold wOk at HD;generalize hc:x.w[j].1.1=sc at g0;generalize hn:x.w[j].1.2=sn at g1;generalize ho:x.w[j].2.1=ob at g2 HD;generalize hg:x.w[j].2.2=gn at g3;have hst:x.w[j].1=(sc,sn):=by rw[<-hc,<-hn]
   rw[hst] at HD;have H5':=H5.out;have H6':=H6.out;have H7:=object_any ob;have H5'':=fun W hb=>H5' W hb ob;have H6'':=fun W hb=>H6' W hb sc sn;generalize hasO x.b ob=z2 at H5'' HD;generalize hasB x.e (sc,sn)=z3 at H6'' HD;generalize (decide (0<=ob) && decide (ob<=255))=z1 at H7 HD;have G5:=Hz_ H5'';have G6:=Hz_ H6'';have G7:=Hz_ H7;have HB:=Hz_ hb;have hB1:=Blk.new wr 70 #[.int .i64 sc,.int .i64 sn,.int .i64 ob,.bool gn];have k1:Below w0.heap.size w0 (wr.alloc (.cells #[.int .i64 sc,.int .i64 sn,.int .i64 ob,.bool gn] 70)):=hb.alloc hb.size _;obtain⟨w1,hw1⟩:∃w1,w1=wr.alloc (.cells #[.int .i64 sc,.int .i64 sn,.int .i64 ob,.bool gn] 70):=⟨_,rfl⟩;rw[<-hw1] at hB1 k1;have hR:∀W,Below w1.heap.size w1 W->(W.cell? ⟨wr.heap.size,0,none⟩=some (.int .i64 sc)/\W.cell? ⟨wr.heap.size,1,none⟩=some (.int .i64 sn)/\W.cell? ⟨wr.heap.size,2,none⟩=some (.int .i64 ob)/\W.cell? ⟨wr.heap.size,3,none⟩=some (.bool gn)):=
    fun W hb=>⟨(hB1.go hb).cell 0,(hB1.go hb).cell 1,(hB1.go hb).cell 2,(hB1.go hb).cell 3⟩
   have HR:=Hz_ hR;have HW1:=Hz_ hw1.symm;have K1:=Hz_ k1;clear hc hn ho hg hst H5' H6' H5'' H6'' H7 hb hr hB1 hR k1 hw1;by_cases c1:last < ob
   ·have HD':ntW x.e x.b (-1) x.w=((z1 && (!z2 && z3)) && ntW x.e x.b ob (x.w.drop (j+1))):=by rw[HD,decide_eq_true c1,Bool.true_and]
    have HD':=Hz_ HD';have hd:decide (ob<=last)=false:=by simp;omega
    clear HD;go_wp2_with fail;rw[HW1.out];refine(G7.out _).mono ?_;rintro e w' ⟨rfl,rfl⟩;have k:=K1.out;have kk:=Below.refl w1.heap.size w1;clear q0 q1 q2 q3;obtain⟨q0,q1,q2,q3⟩:=HQ.out _ k;obtain⟨r0,r1,r2,r3⟩:=HR.out _ kk;cases z1<;>cases z2<;>cases z3
    all_goals
     go_wp2_with (first
      | (go_at_call 111;go_must (with_reducible refine(G5.out _ k).mono ?_);rintro e w' ⟨rfl,hb'⟩;have k:=btn k hb';have kk:=btn kk hb';clear hb';obtain⟨q0,q1,q2,q3⟩:=HQ.out _ k;obtain⟨r0,r1,r2,r3⟩:=HR.out _ kk)
      | (go_at_call 112;go_must (with_reducible refine(G6.out _ k).mono ?_);rintro e w' ⟨rfl,hb'⟩;have k:=btn k hb';have kk:=btn kk hb';clear hb';obtain⟨q0,q1,q2,q3⟩:=HQ.out _ k;obtain⟨r0,r1,r2,r3⟩:=HR.out _ kk))
     first
     | (go_ret;exact⟨by rw[HF.out,HD'.out];rfl,btn hb0 k⟩)
     | skip
    go_roundw
    case rel=>exact⟨j+1,ob,by omega,by go_num,rfl,k,by show _=_;rw[HD'.out];rfl⟩
    case measure=>simp[intOf];omega
   ·have HN:=Hz_ (show ntF x=false by rw[HF.out,HD,decide_eq_false c1];rfl);have hd:decide (ob<=last)=true:=by simp;omega
    clear HD;go_wp2;go_ret;exact⟨by rw[HN.out];rfl,by rw[HW1.out];exact btn hb0 K1.out⟩
  ·obtain rfl:j=n4:=by omega
   have HN:=Hz_ (show ntF x=true by rw[HF.out,hr.out,HNil.out _ _ Zl];rfl);clear hr;go_wp2;go_ret;exact⟨by rw[HN.out];rfl,btn hb0 hb⟩
theorem writes_info:(Tryz.prog.info? 70).map (fun i=>(i.zero,i.size,i.bytes))=some (some (.agg #[.int .i64 0,.int .i64 0,.int .i64 0,.bool false]),4,32):=by kernel_rfl
theorem wp_store_blk {P:Program} {op:Oper} {a:Act} {w:World} {K:Act->World->Prop} {Q:Exit->Act->World->Prop} (ty:TypeId) (x y:Operand) (ho:op.op=.store ty x y)
  (g:Nat) (t:TypeId) (old cells:Array Value) (hx:a.eval x=.pointer (some ⟨g,0,none⟩)) (hy:a.eval y=.agg cells) (hg:Blk w g t old)
  (hi:(P.info? ty).map (·.size)=some cells.size) (hs:old.size=cells.size) (h1:cells.all (·.oneCell')=true)
  (h:∀w',Blk w' g t cells->w.grownBy w' (some g)->K (a.put op.dst undef) w'):op.wp P a w K Q:=by
 unfold Oper.wp execOp;simp only[ho,hx,hy,Instr.storeAt,Instr.sureAddr,Sem.run_bind,Sem.run_pure,Result.andThen_ok,run_storeVar_row w g t ty old cells hg hi hs h1];exact h _ (setRow_heap w g old _ t _ hg) ⟨rfl,rfl,rfl,by simp,fun k _ hk=>setRow_other w g k _ (fun e=>hk (by rw[e]))⟩
theorem own_two {w:World} {b1 b2:Nat} {e1 e2:TypeId} {s1 s2 n1 n2:Nat} {v1 v2:Value} {xs1 xs2:List Value} (h1:w.ownsRow b1 e1 s1 v1 n1 xs1) (h2:w.ownsRow b2 e2 s2 v2 n2 xs2) (he:e1≠e2):v1.ownBlock=none\/v1.ownBlock≠v2.ownBlock:=by
 rcases h1.2 with ⟨rfl,_⟩ | ⟨g,cap,cur,rfl,_,hh,_⟩
 ·exact .inl rfl
 ·refine .inr ?_;rcases h2.2 with ⟨rfl,_⟩ | ⟨g',cap',cur',rfl,_,hh',_⟩
  ·exact fun h=>by cases h
  ·intro h;obtain rfl:g=g':=by simpa[Value.ownBlock] using h
   rw[hh] at hh';injection hh' with hh';injection hh' with _ h2;exact he h2
theorem own_ne {w:World} {base g:Nat} {e:TypeId} {size n:Nat} {v:Value} {xs:List Value} (h:w.ownsRow base e size v n xs) (hg:g < base):v.ownBlock=none\/v.ownBlock≠some g:=by
 refine .inr fun e=>?_;have:=(h.lt g e).1;omega
theorem then_alloc {B:Nat} {a W:World} (_:Below B a W) (o:Obj):Below W.heap.size W (W.alloc o):=Zr.alloc Zl _
def At (w:World) (size:Nat) (A:Option Addr) (n c:Nat) (xs:List Value):Prop:=Rd w w.heap.size size A n c xs
theorem cloneSt_any (A:Option Addr) (n c:Nat) (xs:List Value) (w:World) (hR:Rd w w.heap.size 2 A n c xs) (h1:∀u∈xs,u.oneCell'=true) (hn:n<=8796093022208):
  Calls Tryz.prog 148 #[.slice A n c] w fun e w'=>∃A' c',e=.returned (.slice A' n c')/\w'.ownsRow w.heap.size 28 2 (.slice A' n c') n xs/\Below w.heap.size w w':=by
 have hmax:=hR.max;have hcap:=hR.cap;rcases A with _ | ad
 ·have hc0:=hR.nil rfl;obtain rfl:n=0:=by omega
  subst hc0;have hx:xs=[]:=List.eq_nil_of_length_eq_zero (by simpa using hR.len);subst hx;have ht:=fun W=>Lib.run_eql_slice_nil (P:=Tryz.prog) W 22 28 none 0 0 0 0 Tryz.underlying22;clear hR h1;go_enter Tryz.func148,Tryz.ntmps148;go_wp2;go_ret;exact⟨none,0,rfl,World.ownsRow_nil _ _ _ _,Below.refl _ _⟩
 ·have ht:=fun W=>Lib.run_eql_slice_nil (P:=Tryz.prog) W 22 28 (some ad) n c 0 0 Tryz.underlying22;obtain⟨i0,hi0,hz0,hz1,hz2⟩:=info_parts stamp_info;have h63:0+n<=maxLen:=by omega
  go_enter Tryz.func148,Tryz.ntmps148;go_wp2_with (at_builtin;go_must (refine wpList_append_rd _ rfl (.tmp 5) (.tmp 6) _ rfl w.heap.size 28 i0 _ 2 16 Tryz.underlying22 hi0 hz0 hz1 hz2 rfl (by decide) (.slice (some ⟨w.heap.size,0,none⟩) 0 0) 0 [] rfl (own_empty w _ _) w.heap.size (some ad) n c xs rfl (hR.alloc Zl _) h1 h63 (by omega) (by simp) ?_);intro A' c' w1 hown hg hat);go_ret;exact⟨A',c',rfl,by simpa using hown,(Zr.alloc Zl _).trans (grown_below hg (by simp) (by simp[Value.ownBlock]))⟩
def ntFits (x:Nt) (known:List Vc.St):Bool:=covB (Vc.cnt known) (Vc.cnt x.s)
theorem fits_any (v:NV) (x:Nt) (A:Option Addr) (n c:Nat) (u:List Vc.St) (w:World) (hT:Tab w) (hN:NtRd w w.heap.size v x) (hl:u.length=n) (hR:Rd w w.heap.size 2 A n c (sv u)):
  Calls Tryz.prog 179 #[.agg v.val,.slice A n c] w fun e w'=>e=.returned (.bool (ntFits x u))/\Below w.heap.size w w':=by
 obtain⟨A1,n1,c1,A2,n2,c2,A3,n3,c3,A4,n4,c4⟩:=v;have hb0:Below w.heap.size w (w.alloc (.cells #[.slice A1 n1 c1,.slice A2 n2 c2,.slice A3 n3 c3,.slice A4 n4 c4] 26)):=Zr.alloc Zl _;have H1:=Hz_ (covers_any A A1 n c n1 c1 u x.s _ (hT.below hb0) hl hN.l1 (hR.go hb0) (hN.go hb0).r1);have HX:=Hz_ (show ntFits x u=covB (Vc.cnt u) (Vc.cnt x.s) from rfl);generalize covB (Vc.cnt u) (Vc.cnt x.s)=z at H1 HX;have HB:=Hz_ hb0;clear hN hl hR hb0 hT;go_enter Tryz.func179,Tryz.ntmps179;go_wp2_with (go_at_call 109;go_must (refine H1.out.mono ?_);rintro e w1 ⟨rfl,hb1⟩);go_ret;exact⟨by rw[HX.out];rfl,btn HB.out hb1⟩
theorem dec_dropW {u v:List Wr} {k:Nat} (h1:k < u.length) (h2:k < v.length) (h:u[k]=v[k]):decide (u.drop k=v.drop k)=decide (u.drop (k+1)=v.drop (k+1)):=by
 refine decide_eq_decide.2 ?_;rw[List.drop_eq_getElem_cons h1,List.drop_eq_getElem_cons h2,h];exact⟨fun e=>(List.cons.inj e).2,fun e=>by rw[e]⟩
theorem sameW_any (A D:Option Addr) (n c m d:Nat) (u v:List Wr) (w:World) (hl:u.length=n) (hl2:v.length=m) (hR:Rd w w.heap.size 4 A n c (wv u)) (hR2:Rd w w.heap.size 4 D m d (wv v)):
  Calls Tryz.prog 82 #[.slice A n c,.slice D m d] w fun e w'=>e=.returned (.bool (decide (u=v)))/\Below w.heap.size w w':=by
 have hmax:n<=9223372036854775807:=by have h1:=hR.cap;have h2:=hR.max;unfold maxLen at h2;omega
 by_cases hnm:n=m
 ·subst hnm;go_enter Tryz.func82,Tryz.ntmps82;go_wp2;go_loopw [5] (fun i wr=>∃(k:Nat),k<=n/\i=.int .i64 k/\Hid (decide (u=v)=decide (u.drop k=v.drop k))/\Below w.heap.size w wr) (fun i _=>n - (intOf i).toNat)
  case atStart=>exact⟨0,by omega,rfl,rfl,Below.refl _ _⟩
  case round=>
   obtain⟨k,hk,rfl,hdd,hb⟩:=hrel;by_cases hlt:k < n
   ·have hk1:k < u.length:=by omega
    have hk2:k < v.length:=by omega
    obtain⟨b,o,rfl,hab,g0,g1,g2,g3⟩:=(hR.below hb).write hl hk1;obtain⟨b2,o2,rfl,hab2,p0,p1,p2,p3⟩:=(hR2.below hb).write hl2 hk2;have HE:=Hz_ (show u[k]=(((u[k]'hk1).1.1,(u[k]'hk1).1.2),(u[k]'hk1).2.1,(u[k]'hk1).2.2) from rfl);have HE2:=Hz_ (show v[k]=(((v[k]'hk2).1.1,(v[k]'hk2).1.2),(v[k]'hk2).2.1,(v[k]'hk2).2.2) from rfl);generalize (u[k]'hk1).1.1=sc at g0 HE;generalize (u[k]'hk1).1.2=sn at g1 HE;generalize (u[k]'hk1).2.1=so at g2 HE;generalize (u[k]'hk1).2.2=sg at g3 HE;generalize (v[k]'hk2).1.1=tc at p0 HE2;generalize (v[k]'hk2).1.2=tn at p1 HE2;generalize (v[k]'hk2).2.1=to at p2 HE2;generalize (v[k]'hk2).2.2=tg at p3 HE2;have HB:=Hz_ hb;clear hb hR hR2;by_cases e0:sc=tc/\sn=tn/\so=to/\sg=tg
    ·obtain⟨rfl,rfl,rfl,rfl⟩:=e0;have HN:=Hz_ (dec_dropW hk1 hk2 (by rw[HE.out,HE2.out]));clear hl hl2;go_wp2;go_quiet (fail);go_wp2;go_roundw
     case rel=>exact⟨k+1,by omega,by go_num,by show _=_;rw[hdd.out,HN.out],below_drewN HB.out _⟩
     case measure=>simp[intOf];omega
    ·have HN:=Hz_ (show decide (u=v)=false by
      rw[decide_eq_false_iff_not];intro h;subst h;have h2:=HE.out.symm.trans HE2.out;simp only[Prod.mk.injEq] at h2;exact e0 ⟨h2.1.1,h2.1.2,h2.2.1,h2.2.2⟩)
     clear hl hl2;by_cases e1:sc=tc
     ·by_cases e2:sn=tn
      ·by_cases e3:so=to
       ·have e4:¬ sg=tg:=fun h=>e0 ⟨e1,e2,e3,h⟩;subst e1 e2 e3;clear e0;cases sg<;>cases tg<;>first | exact absurd rfl e4 | skip
        all_goals
         clear e4;go_wp2;go_quiet (fail);go_wp2;go_ret;exact⟨by rw[HN.out];rfl,below_drewN HB.out _⟩
       ·subst e1 e2;clear e0;go_wp2;go_quiet (fail);go_wp2;go_ret;exact⟨by rw[HN.out];rfl,below_drewN HB.out _⟩
      ·subst e1;clear e0;go_wp2;go_quiet (fail);go_wp2;go_ret;exact⟨by rw[HN.out];rfl,below_drewN HB.out _⟩
     ·clear e0;go_wp2;go_quiet (fail);go_wp2;go_ret;exact⟨by rw[HN.out];rfl,below_drewN HB.out _⟩
   ·obtain rfl:k=n:=by omega
    have HX:=Hz_ (show decide (u=v)=true by rw[hdd.out,List.drop_of_length_le (by omega),List.drop_of_length_le (by omega)];simp);clear hdd;go_wp2;go_ret;exact⟨by rw[HX.out];rfl,hb⟩
 ·have HN:=Hz_ (show decide (u=v)=false by rw[decide_eq_false_iff_not];intro h;subst h;omega);have hne:¬ ((n:Int)=(m:Int)):=by omega
  clear hl hl2;go_enter Tryz.func82,Tryz.ntmps82;go_wp2
  all_goals first
   | (exfalso;omega)
   | (go_ret;exact⟨by rw[HN.out];rfl,Below.refl _ _⟩)
def ntSame (x y:Nt):Bool:=decide (x.s=y.s) && (decide (x.e=y.e) && (decide (x.b=y.b) && decide (x.w=y.w)))
theorem ntSame_iff (x y:Nt):ntSame x y=true↔x=y:=by
 cases x;cases y;simp[ntSame]
theorem results_cell_tmp {P:Program} {fn:Func} {p q:Tmp} {ty:TypeId} (h:fn.results=#[.cell p ty,.tmp q]) (tmps:Array Value) (w:World) (g:Nat) (t:TypeId) (cs:Array Value) (fr:Nat×Nat) (d:TypeDesc)
  (hp:tmps.getD p undef=.pointer (some ⟨g,0,none⟩)) (hg:w.heap[g]?=some (.cells cs t fr))
  (hu:P.underlying ty=some d) (hd:(match d with | .struct _ | .array _ _=>true | _=>false)=true) (hi:(P.info? ty).map (·.size)=some cs.size):
  (results fn tmps).run P w=.ok (.tuple #[.agg cs,tmps.getD q undef]) w:=by
 have hp':tmps[p]?.getD undef=.pointer (some ⟨g,0,none⟩):=by simpa using hp
 simp[results,h,hp',asAddr,run_loadVar_row w g t ty cs fr d hg hu hd hi]
structure NtOwn (w:World) (base:Nat) (v:NV) (x:Nt):Prop where
 l1:x.s.length=v.n1
 o1:w.ownsRow base 28 2 (.slice v.A1 v.n1 v.c1) v.n1 (sv x.s)
 l2:x.e.length=v.n2
 o2:w.ownsRow base 28 2 (.slice v.A2 v.n2 v.c2) v.n2 (sv x.e)
 l3:x.b.length=v.n3
 o3:w.ownsRow base 63 2 (.slice v.A3 v.n3 v.c3) v.n3 (sv x.b)
 l4:x.w.length=v.n4
 o4:w.ownsRow base 70 4 (.slice v.A4 v.n4 v.c4) v.n4 (wv x.w)
theorem NtOwn.rd {w:World} {base:Nat} {v:NV} {x:Nt} (h:NtOwn w base v x):NtRd w w.heap.size v x:=⟨h.l1,Rd.of_own h.o1,h.l2,Rd.of_own h.o2,h.l3,Rd.of_own h.o3,h.l4,Rd.of_own h.o4⟩
theorem NtOwn.below {w w':World} {base:Nat} {v:NV} {x:Nt} (h:NtOwn w base v x) (hb:Below w.heap.size w w'):NtOwn w' base v x:=
 ⟨h.l1,own_below h.o1 hb Zl,h.l2,own_below h.o2 hb Zl,h.l3,own_below h.o3 hb Zl,h.l4,own_below h.o4 hb Zl⟩
theorem NtOwn.row {w w':World} {base b size n:Nat} {e:TypeId} {u:Value} {xs:List Value} {v:NV} {x:Nt} (h:NtOwn w base v x) (ho:w.ownsRow b e size u n xs) (h1:28≠e) (h2:63≠e) (h3:70≠e) (hg:w.grownBy w' u.ownBlock):NtOwn w' base v x:=
 ⟨h.l1,h.o1.kept hg (own_two h.o1 ho h1),h.l2,h.o2.kept hg (own_two h.o2 ho h1),h.l3,h.o3.kept hg (own_two h.o3 ho h2),h.l4,h.o4.kept hg (own_two h.o4 ho h3)⟩
theorem own_blk {w:World} {base g:Nat} {e t:TypeId} {size n:Nat} {v:Value} {xs:List Value} {cs:Array Value} (h:w.ownsRow base e size v n xs) (hg:Blk w g t cs) (he:e≠t):v.ownBlock=none\/v.ownBlock≠some g:=by
 rcases h.2 with ⟨rfl,_⟩ | ⟨g',cap,cur,rfl,_,hh,_⟩
 ·exact .inl rfl
 ·refine .inr fun e'=>?_;obtain rfl:g'=g:=by simpa[Value.ownBlock] using e'
  unfold Blk at hg;rw[hh] at hg;injection hg with hg;injection hg with _ h2;exact he h2
theorem res_ctt {P:Program} {fn:Func} {p q r:Tmp} {ty:TypeId} (h:fn.results=#[.cell p ty,.tmp q,.tmp r]) (tmps:Array Value) (w:World) (g:Nat) (t:TypeId) (cs:Array Value) (fr:Nat×Nat) (d:TypeDesc)
  (hp:tmps.getD p undef=.pointer (some ⟨g,0,none⟩)) (hg:w.heap[g]?=some (.cells cs t fr))
  (hu:P.underlying ty=some d) (hd:(match d with | .struct _ | .array _ _=>true | _=>false)=true) (hi:(P.info? ty).map (·.size)=some cs.size):
  (results fn tmps).run P w=.ok (.tuple #[.agg cs,tmps.getD q undef,tmps.getD r undef]) w:=by
 have hp':tmps[p]?.getD undef=.pointer (some ⟨g,0,none⟩):=by simpa using hp
 simp[results,h,hp',asAddr,run_loadVar_row w g t ty cs fr d hg hu hd hi]
def bval (x:Wq.Bd) (A:Option Addr) (c:Nat):Array Value:=#[.int .i64 x.o,.int .i64 x.s.1,.int .i64 x.s.2,.slice A x.v.length c]
theorem endB_ok (g T:Nat) (o a b:Int) (A4:Option Addr) (n4 c4:Nat) (l:List UInt8) (w:World) (h:PR w g T (some l)):
  Calls Tryz.prog 130 #[.pointer (some ⟨g,0,none⟩),.agg #[.int .i64 o,.int .i64 a,.int .i64 b,.slice A4 n4 c4],.bool true] w fun e w'=>e=.returned (.tuple #[.agg #[.int .i64 o,.int .i64 a,.int .i64 b,.slice A4 n4 c4],.int .i64 ((T - l.length:Nat):Int),.int .i64 0])/\Below w.heap.size w w':=by
 have hlt:=h.lt;obtain⟨A,n,c,hB,hq⟩:=h;generalize (T - l.length:Nat)=z at hB;have HB:=Hz_ hB;clear hB hq;go_enter Tryz.func130,Tryz.ntmps130;have d1:=HB.out.cell 1;have d2:=HB.out.cell 2;go_wp2;have hX:=(Blk.new w 31 #[.int .i64 o,.int .i64 a,.int .i64 b,.slice A4 n4 c4]).alloc (.cells #[.int .i64 0,.int .i64 0,.int .i64 0,.slice none 0 0] 31);have hY:=Blk.new (w.alloc (.cells #[.int .i64 o,.int .i64 a,.int .i64 b,.slice A4 n4 c4] 31)) 31 #[.int .i64 0,.int .i64 0,.int .i64 0,.slice none 0 0];rw[World.size_alloc] at hY;have hB1:=(HB.out.alloc (.cells #[.int .i64 o,.int .i64 a,.int .i64 b,.slice A4 n4 c4] 31)).alloc (.cells #[.int .i64 0,.int .i64 0,.int .i64 0,.slice none 0 0] 31);have hb0:Below w.heap.size w ((w.alloc (.cells #[.int .i64 o,.int .i64 a,.int .i64 b,.slice A4 n4 c4] 31)).alloc (.cells #[.int .i64 0,.int .i64 0,.int .i64 0,.slice none 0 0] 31)):=(Zr.alloc Zl _).alloc (by simp) _;obtain⟨W0,hW0⟩:∃W0,W0=(w.alloc (.cells #[.int .i64 o,.int .i64 a,.int .i64 b,.slice A4 n4 c4] 31)).alloc (.cells #[.int .i64 0,.int .i64 0,.int .i64 0,.slice none 0 0] 31):=⟨_,rfl⟩;rw[<-hW0] at hX hY hB1 hb0 ⊢;clear hW0 d1 d2;have x0:=hX.cell 0;have x1:=hX.cell 1;have x2:=hX.cell 2;have x3:=hX.cell 3;have y0:=hY.cell 0;have y1:=hY.cell 1;have y2:=hY.cell 2;have y3:=hY.cell 3;have z0:=hY.frozen 0;have z1:=hY.frozen 1;have z2:=hY.frozen 2;have z3:=hY.frozen 3;have d1:=hB1.cell 1;have HY:=Hz_ hY;have HB0:=Hz_ hb0;clear hX hY hB1 hb0;go_region;go_wp2;have hY4:=(((HY.out.set_ 0 (.int .i64 o)).set_ 1 (.int .i64 a)).set_ 2 (.int .i64 b)).set_ 3 (.slice A4 n4 c4);refine bodyPost_ret (res_ctt rfl _ _ (w.heap.size+1) 31 _ _ _ rfl hY4 Tryz.underlying31 rfl (by kernel_rfl)) rfl ⟨rfl,?_⟩;exact((((HB0.out.setCell (p:=⟨w.heap.size+1,0,none⟩) (Nat.le_succ _) _).setCell (p:=⟨w.heap.size+1,1,none⟩) (Nat.le_succ _) _).setCell (p:=⟨w.heap.size+1,2,none⟩) (Nat.le_succ _) _).setCell (p:=⟨w.heap.size+1,3,none⟩) (Nat.le_succ _) _).drew
theorem endB_bad (g T:Nat) (o a b:Int) (A4:Option Addr) (n4 c4:Nat) (f:Bool) (s:Option (List UInt8)) (w:World) (h:PR w g T s) (hs:s=none\/f=false):
  Calls Tryz.prog 130 #[.pointer (some ⟨g,0,none⟩),.agg #[.int .i64 o,.int .i64 a,.int .i64 b,.slice A4 n4 c4],.bool f] w fun e w'=>e=.returned (.tuple #[.agg #[.int .i64 0,.int .i64 0,.int .i64 0,.slice none 0 0],.int .i64 0,.int .i64 4])/\But g w w':=by
 have hlt:=h.lt;obtain⟨u0,u1,q,hB,hbf⟩:∃u0 u1 q,Blk w g 156 #[u0,u1,.bool q]/\(q=true\/f=false):=by
  rcases s with _ | l
  ·obtain⟨A,n,c,k,hB⟩:=h;exact⟨_,_,_,hB,.inl rfl⟩
  ·obtain⟨A,n,c,hB,_⟩:=h;exact⟨_,_,_,hB,.inr (hs.resolve_left (by simp))⟩
 have HB:=Hz_ hB;clear hB h hs;rcases q with _ | _
 ·obtain rfl:f=false:=hbf.resolve_left (by simp);clear hbf;go_enter Tryz.func130,Tryz.ntmps130;have d2:=HB.out.cell 2;have f2:=HB.out.frozen 2;go_wp2;have hY:=(Blk.new ((w.setCell ⟨g,2,none⟩ (.bool true)).alloc (.cells #[.int .i64 o,.int .i64 a,.int .i64 b,.slice A4 n4 c4] 31)) 31 #[.int .i64 0,.int .i64 0,.int .i64 0,.slice none 0 0]).alloc (.cells #[.int .i64 0,.int .i64 0,.int .i64 0,.slice none 0 0] 31);rw[World.size_alloc,show (w.setCell ⟨g,2,none⟩ (.bool true)).heap.size=w.heap.size by simp] at hY;refine bodyPost_ret (res_ctt rfl _ _ (w.heap.size+1) 31 _ _ _ rfl hY Tryz.underlying31 rfl (by kernel_rfl)) rfl ⟨rfl,?_⟩;exact(But.set_ (g:=g) w (p:=⟨g,2,none⟩) rfl (.bool true)).trans (But.of (((Zr.alloc Zl _).alloc (by simp) _).alloc (by simp;omega) _))
 ·clear hbf;go_enter Tryz.func130,Tryz.ntmps130;have d2:=HB.out.cell 2;have f2:=HB.out.frozen 2;go_wp2;have hY:=(Blk.new ((w.setCell ⟨g,2,none⟩ (.bool true)).alloc (.cells #[.int .i64 o,.int .i64 a,.int .i64 b,.slice A4 n4 c4] 31)) 31 #[.int .i64 0,.int .i64 0,.int .i64 0,.slice none 0 0]).alloc (.cells #[.int .i64 0,.int .i64 0,.int .i64 0,.slice none 0 0] 31);rw[World.size_alloc,show (w.setCell ⟨g,2,none⟩ (.bool true)).heap.size=w.heap.size by simp] at hY;refine bodyPost_ret (res_ctt rfl _ _ (w.heap.size+1) 31 _ _ _ rfl hY Tryz.underlying31 rfl (by kernel_rfl)) rfl ⟨rfl,?_⟩;exact(But.set_ (g:=g) w (p:=⟨g,2,none⟩) rfl (.bool true)).trans (But.of (((Zr.alloc Zl _).alloc (by simp) _).alloc (by simp;omega) _))
theorem bodyRight_any (x:Wq.Bd) (A:Option Addr) (c:Nat) (w:World):
  Calls Tryz.prog 104 #[.agg (bval x A c)] w fun e w'=>e=.returned (.bool (Wq.bdF x))/\Below w.heap.size w w':=by
 obtain⟨o,⟨a,b⟩,v⟩:=x;unfold bval Wq.bdF;dsimp only;generalize v.length=n;have hX:=Blk.new w 31 #[.int .i64 o,.int .i64 a,.int .i64 b,.slice A n c];have hb0:Below w.heap.size w (w.alloc (.cells #[.int .i64 o,.int .i64 a,.int .i64 b,.slice A n c] 31)):=Zr.alloc Zl _;have HX:=Hz_ hX;have HB:=Hz_ hb0;have HG:=Hz_ fun W=>right_any a b W;have e2:decide (n<=256)=decide ((n:Int)<=256):=by rw[Bool.eq_iff_iff];simp;omega
 rw[e2];clear hX hb0 e2;generalize Vc.right (a,b)=z at HG;by_cases h0:0<=o
 ·by_cases h1:o < 256
  ·have e1:decide (o<=255)=true:=by simp;omega
   have h2:o<=255:=by omega
   rw[decide_eq_true h0,e1];simp only[Bool.true_and];rcases z with _ | _
   all_goals
    go_enter Tryz.func104,Tryz.ntmps104;go_wp2_with (go_at_call 159;go_must (refine(HG.out _).mono ?_);rintro e w1 ⟨rfl,hb1⟩;have q2:=(HX.out.go hb1).cell 3);go_ret;exact⟨rfl,btn HB.out hb1⟩
  ·have e1:decide (o<=255)=false:=by simp;omega
   have h2:¬ o<=255:=by omega
   rw[decide_eq_true h0,e1];simp only[Bool.true_and,Bool.false_and];go_enter Tryz.func104,Tryz.ntmps104;go_wp2;go_ret;exact⟨rfl,HB.out⟩
 ·rw[decide_eq_false h0];simp only[Bool.false_and];go_enter Tryz.func104,Tryz.ntmps104;go_wp2;go_ret;exact⟨rfl,HB.out⟩
theorem refBodyRight_any (x:Wq.Bd) (A:Option Addr) (c:Nat) (w:World):
  Calls Tryz.prog 44 #[.agg (bval x A c)] w fun e w'=>e=.returned (.bool (Wq.bdF x))/\Below w.heap.size w w':=by
 obtain⟨o,⟨a,b⟩,v⟩:=x;unfold bval Wq.bdF;dsimp only;generalize v.length=n;have hX:=Blk.new w 31 #[.int .i64 o,.int .i64 a,.int .i64 b,.slice A n c];have hb0:Below w.heap.size w (w.alloc (.cells #[.int .i64 o,.int .i64 a,.int .i64 b,.slice A n c] 31)):=Zr.alloc Zl _;have HX:=Hz_ hX;have HB:=Hz_ hb0;have HG:=Hz_ fun W=>refRight_any a b W;have e2:decide (n<=256)=decide ((n:Int)<=256):=by rw[Bool.eq_iff_iff];simp;omega
 rw[e2];clear hX hb0 e2;generalize Vc.right (a,b)=z at HG;by_cases h0:0<=o
 ·by_cases h1:o < 256
  ·have e1:decide (o<=255)=true:=by simp;omega
   have h2:o<=255:=by omega
   rw[decide_eq_true h0,e1];simp only[Bool.true_and];rcases z with _ | _
   all_goals
    go_enter Tryz.func44,Tryz.ntmps44;go_wp2_with (go_at_call 116;go_must (refine(HG.out _).mono ?_);rintro e w1 ⟨rfl,hb1⟩;have q2:=(HX.out.go hb1).cell 3);go_ret;exact⟨rfl,btn HB.out hb1⟩
  ·have e1:decide (o<=255)=false:=by simp;omega
   have h2:¬ o<=255:=by omega
   rw[decide_eq_true h0,e1];simp only[Bool.true_and,Bool.false_and];go_enter Tryz.func44,Tryz.ntmps44;go_wp2;go_ret;exact⟨rfl,HB.out⟩
 ·rw[decide_eq_false h0];simp only[Bool.false_and];go_enter Tryz.func44,Tryz.ntmps44;go_wp2;go_ret;exact⟨rfl,HB.out⟩
theorem numV_vl (s:Option (List UInt8)):numV s=Wq.vl Wq.pN 0 s:=by
 rcases s with _ | l
 ·rfl
 ·rcases h:Wq.pN l with _ | ⟨_,_⟩<;>simp only[numV,Wq.vl,h]
theorem numS_st (s:Option (List UInt8)):numS s=Wq.st Wq.pN s:=by
 rcases s with _ | l
 ·rfl
 ·rcases h:Wq.pN l with _ | ⟨_,_⟩<;>simp only[numS,Wq.st,h]
theorem Blk.four {W:World} {g:Nat} {t:TypeId} {a b c d:Value} (h:Blk W g t #[a,b,c,d]):W.cell? ⟨g,0,none⟩=some a/\W.cell? ⟨g,1,none⟩=some b/\W.cell? ⟨g,2,none⟩=some c/\W.cell? ⟨g,3,none⟩=some d:=
 ⟨h.cell 0,h.cell 1,h.cell 2,h.cell 3⟩
theorem wireBody_any (A:Option Addr) (n c:Nat) (l:List UInt8) (w:World) (hl:l.length=n) (hR:Rd w w.heap.size 1 A n c (bv l)) (hn:n<=140737488355328):
  Calls Tryz.prog 52 #[.slice A n c] w fun e w'=>∃A' c',e=.returned (.tuple #[.agg (bval (gV Wq.pB Wq.bd0 l) A' c'),.int .i64 (gK Wq.pB l),.int .i64 (gE Wq.pB l)]) /\
   w'.ownsRow w.heap.size 5 1 (.slice A' (gV Wq.pB Wq.bd0 l).v.length c') (gV Wq.pB Wq.bd0 l).v.length (bv (gV Wq.pB Wq.bd0 l).v)/\Below w.heap.size w w':=by
 have hb0:Below w.heap.size w ((w.alloc (.cells #[.int .i64 0,.int .i64 0,.int .i64 0,.slice none 0 0] 31)).alloc (.cells #[.slice A n c,.int .i64 0,.bool false] 156)):=(Zr.alloc Zl _).alloc (by simp) _;have hR0:=(Blk.new w 31 #[.int .i64 0,.int .i64 0,.int .i64 0,.slice none 0 0]).alloc (.cells #[.slice A n c,.int .i64 0,.bool false] 156);have hG0:=Blk.new (w.alloc (.cells #[.int .i64 0,.int .i64 0,.int .i64 0,.slice none 0 0] 31)) 156 #[.slice A n c,.int .i64 0,.bool false];rw[World.size_alloc] at hG0;obtain⟨W0,hW0⟩:∃W0,W0=(w.alloc (.cells #[.int .i64 0,.int .i64 0,.int .i64 0,.slice none 0 0] 31)).alloc (.cells #[.slice A n c,.int .i64 0,.bool false] 156):=⟨_,rfl⟩;have hs0:W0.heap.size=w.heap.size+1+1:=by rw[hW0];simp
 rw[<-hW0] at hb0 hR0 hG0;have hP0:PR W0 (w.heap.size+1) n (some l):=by
  refine⟨A,n,c,?_,(hR.below hb0).more (by omega),hl,by omega,by have:=hR.cap;have:=hR.max;omega⟩;rw[hl,Nat.sub_self];exact hG0
 have HW:=Hz_ hW0.symm;have HL:=Hz_ hl;have HB0:=Hz_ hb0;have HPA:=Hz_ (Wq.pB_all l);have G1:=Hz_ fun (W:World) (s:Option (List UInt8)) (h:PR W (w.heap.size+1) n s)=>rdNum_any (w.heap.size+1) n s W h;have G2:=Hz_ fun (W:World) (s:Option (List UInt8)) (h:PR W (w.heap.size+1) n s)=>rdStamp_any (w.heap.size+1) n s W h;have G3:=Hz_ fun (W:World) (s:Option (List UInt8)) (h:PR W (w.heap.size+1) n s)=>partRow_any (w.heap.size+1) n s W h hn;clear hl hR hG0 hW0 hb0;go_enter Tryz.func52,Tryz.ntmps52;go_wp2_with fail;rw[HW.out];refine(G1.out _ _ hP0).mono ?_;rintro e w1 ⟨rfl,hP1,hu1⟩;have hs1:=hu1.size;have hR1:=hR0.but hu1 (by omega);have hb1:=below_but HB0.out hu1 (by omega) (by omega);obtain⟨o,ho⟩:∃o,o=numV (some l):=⟨_,rfl⟩;obtain⟨s1,hs1e⟩:∃s,s=numS (some l):=⟨_,rfl⟩;rw[<-hs1e] at hP1;rw[<-ho];have HO:=Hz_ ho;have HS1:=Hz_ hs1e;have hbX:Below w1.heap.size w1 (w1.alloc (.cells #[.int .i64 o,.int .i64 0,.int .i64 0,.slice none 0 0] 31)):=Zr.alloc Zl _;have hX:=Blk.new w1 31 #[.int .i64 o,.int .i64 0,.int .i64 0,.slice none 0 0];obtain⟨W2,hW2⟩:∃W2,W2=w1.alloc (.cells #[.int .i64 o,.int .i64 0,.int .i64 0,.slice none 0 0] 31):=⟨_,rfl⟩;have hs2:W2.heap.size=w1.heap.size+1:=by rw[hW2];simp
 rw[<-hW2] at hbX hX;have HW2:=Hz_ hW2.symm;have hP2:=hP1.go hbX;have hR2:=hR1.go hbX;have hb2:=below_then hb1 (by omega) hbX;clear hP0 hu1 hR0 hP1 hR1 hb1 ho hs1e hW2 hbX;go_wp2_with fail;rw[HW2.out];refine(G2.out _ _ hP2).mono ?_;rintro e w3 ⟨rfl,hP3,hu3⟩;have hs3:=hu3.size;obtain⟨nd,hnd⟩:∃x,x=numV s1:=⟨_,rfl⟩;obtain⟨s2,hs2e⟩:∃s,s=numS s1:=⟨_,rfl⟩;rw[<-hs2e] at hP3;rw[<-hs2e,<-hnd];obtain⟨ct,hct⟩:∃x,x=numV s2:=⟨_,rfl⟩;obtain⟨s3,hs3e⟩:∃s,s=numS s2:=⟨_,rfl⟩;rw[<-hs3e] at hP3;rw[<-hct];have HND:=Hz_ hnd;have HS2:=Hz_ hs2e;have HCT:=Hz_ hct;have HS3:=Hz_ hs3e;have hX3:=hX.but hu3 (by omega);have hR3:=hR2.but hu3 (by omega);have hb3:=below_but hb2 hu3 (by omega) (by omega);have fX1:=hX3.frozen 1;have fX2:=hX3.frozen 2;have cX1:=hX3.cell 1;have cX2:=hX3.cell 2;clear hP2 hu3 hX hR2 hb2 hnd hs2e hct hs3e;go_wp2_with fail;have hX4:=(hX3.set_ 1 (.int .i64 ct)).set_ 2 (.int .i64 nd);have hu4:But w1.heap.size w3 ((w3.setCell ⟨w1.heap.size,1,none⟩ (.int .i64 ct)).setCell ⟨w1.heap.size,2,none⟩ (.int .i64 nd)):=(But.set_ (g:=w1.heap.size) w3 (p:=⟨w1.heap.size,1,none⟩) rfl _).trans (But.set_ (g:=w1.heap.size) _ (p:=⟨w1.heap.size,2,none⟩) rfl _);obtain⟨W4,hW4⟩:∃W4,W4=(w3.setCell ⟨w1.heap.size,1,none⟩ (.int .i64 ct)).setCell ⟨w1.heap.size,2,none⟩ (.int .i64 nd):=⟨_,rfl⟩;have hs4:W4.heap.size=w3.heap.size:=by rw[hW4];simp
 rw[<-hW4] at hX4 hu4;have HW4:=Hz_ hW4.symm;have hX4:Blk W4 w1.heap.size 31 #[.int .i64 o,.int .i64 ct,.int .i64 nd,.slice none 0 0]:=hX4;have hP4:=hP3.but hu4 (by omega);have hR4:=hR3.but hu4 (by omega);have hb4:=below_but hb3 hu4 (by omega) (by omega);clear hP3 hX3 hR3 hb3 hu4 hW4 fX1 fX2 cX1 cX2;rw[HW4.out];refine(G3.out _ _ hP4).mono ?_;rintro e w5 ⟨Av,cv,rfl,ho5,hP5,hu5⟩;have hs5:=hu5.size;obtain⟨v,hv⟩:∃v,v=Wq.vl (Wq.pR 256) [] s3:=⟨_,rfl⟩;obtain⟨s4,hs4e⟩:∃s,s=Wq.st (Wq.pR 256) s3:=⟨_,rfl⟩;rw[<-hs4e] at hP5;rw[<-hv] at ho5;rw[<-hv];have HV:=Hz_ hv;have HS4:=Hz_ hs4e;have hX5:=hX4.but hu5 (by omega);have hR5:=hR4.but hu5 (by omega);have hb5:=below_but hb4 hu5 (by omega) (by omega);have fX3:=hX5.frozen 3;have cX3:=hX5.cell 3;have hX6:=hX5.set_ 3 (.slice Av v.length cv);have hu6:But w1.heap.size w5 (w5.setCell ⟨w1.heap.size,3,none⟩ (.slice Av v.length cv)):=But.set_ (g:=w1.heap.size) w5 (p:=⟨w1.heap.size,3,none⟩) rfl _;obtain⟨x,hx⟩:∃x:Wq.Bd,x=⟨(o:Int),((ct:Int),(nd:Int)),v⟩:=⟨_,rfl⟩;have hX6:Blk (w5.setCell ⟨w1.heap.size,3,none⟩ (.slice Av v.length cv)) w1.heap.size 31 #[.int .i64 o,.int .i64 ct,.int .i64 nd,.slice Av v.length cv]:=hX6;have hP6:=hP5.but hu6 (by omega);have hR6:=hR5.but hu6 (by omega);have hb6:=below_but hb5 hu6 (by omega) (by omega);have ho6:=own_but ho5 hu6 (by omega);have HX:=Hz_ hx;clear hP4 hX4 hR4 hb4 hP5 hX5 hR5 hb5 hu5 ho5 hu6 hv hs4e G1 G2 G3 hx;have HR1:=Hz_ fun (W:World)=>(show Calls Tryz.prog 104 #[.agg #[.int .i64 o,.int .i64 ct,.int .i64 nd,.slice Av v.length cv]] W fun e w'=>e=.returned (.bool (Wq.bdF x))/\Below W.heap.size W w' from by rw[HX.out];exact bodyRight_any ⟨(o:Int),((ct:Int),(nd:Int)),v⟩ Av cv W);go_wp2_with fail;clear fX3 cX3 hX4;obtain⟨W6,hW6⟩:∃W6,W6=w5.setCell ⟨w1.heap.size,3,none⟩ (.slice Av v.length cv):=⟨_,rfl⟩;have hs6:W6.heap.size=w5.heap.size:=by rw[hW6];simp
 rw[<-hW6] at hX6 hP6 hR6 hb6 ho6 ⊢;clear hW6;obtain⟨q0,q1,q2,q3⟩:W6.drew.cell? ⟨w1.heap.size,0,none⟩=some (.int .i64 (o:Int))/\W6.drew.cell? ⟨w1.heap.size,1,none⟩=some (.int .i64 (ct:Int))/\W6.drew.cell? ⟨w1.heap.size,2,none⟩=some (.int .i64 (nd:Int))/\W6.drew.cell? ⟨w1.heap.size,3,none⟩=some (.slice Av v.length cv):=hX6.four;have HX6:=Hz_ (show Blk W6.drew w1.heap.size 31 #[.int .i64 o,.int .i64 ct,.int .i64 nd,.slice Av v.length cv] from hX6);have HR6:=Hz_ (show Blk W6.drew w.heap.size 31 #[.int .i64 0,.int .i64 0,.int .i64 0,.slice none 0 0] from hR6);have hP6:PR W6.drew (w.heap.size+1) n s4:=hP6.go Zr.drew;have HB6:=Hz_ hb6.drew;have HO6:=Hz_ (show W6.drew.ownsRow W4.heap.size 5 1 (.slice Av v.length cv) v.length (bv v) from ho6);have hlX:=hX6.lt;clear hX6 hR6 hb6 ho6;refine region_nrm fun K hK=>?_;by_cases hgood:(∃r,s4=some r)/\Wq.bdF x=true
 ·obtain⟨⟨r,hr⟩,hbd⟩:=hgood;rw[hr] at hP6;rw[hbd] at HR1;have HP6:=Hz_ hP6;have HP:=Hz_ (show Wq.pB l=some (x,r) by
   have h:=HPA.out;rw[<-numS_st,<-numS_st,<-numS_st,<-numV_vl,<-numV_vl,<-numV_vl,<-HO.out,<-HS1.out,<-HND.out,<-HS2.out,<-HCT.out,<-HS3.out,<-HV.out,<-HS4.out,hr] at h;simp only at h;rw[<-HX.out,if_pos hbd] at h;exact h)
  have HE:=Hz_ fun (W:World) (h:PR W (w.heap.size+1) n (some r))=>endB_ok (w.heap.size+1) n o ct nd Av v.length cv r W h;clear hP6;go_region_held3 (fun w'=>w'.cell? ⟨w1.heap.size,0,none⟩=some (.int .i64 (o:Int))/\w'.cell? ⟨w1.heap.size,1,none⟩=some (.int .i64 (ct:Int))/\w'.cell? ⟨w1.heap.size,2,none⟩=some (.int .i64 (nd:Int))/\w'.cell? ⟨w1.heap.size,3,none⟩=some (.slice Av v.length cv)) (first | exact⟨u0,u1,u2,u3⟩ | exact⟨t0,t1,t2,t3⟩ | exact⟨r0,r1,r2,r3⟩ | exact⟨q0,q1,q2,q3⟩ | go_keep) (first
   | (go_at_call 104;go_must (refine(HR1.out _).mono ?_);rintro e w7 ⟨rfl,hb7⟩;obtain⟨r0,r1,r2,r3⟩:=(HX6.out.go hb7).four)
   | (go_at_call 130;go_must (refine(HE.out _ (HP6.out.go hb7)).mono ?_);rintro e w8 ⟨rfl,hb8⟩;have hX8:=(HX6.out.go hb7).go hb8;obtain⟨t0,t1,t2,t3⟩:=hX8.four;obtain⟨u0,u1,u2,u3⟩:=((((hX8.far (p:=⟨w.heap.size,0,none⟩) (by show _≠w.heap.size;omega) (.int .i64 o)).far (p:=⟨w.heap.size,1,none⟩) (by show _≠w.heap.size;omega) (.int .i64 ct)).far (p:=⟨w.heap.size,2,none⟩) (by show _≠w.heap.size;omega) (.int .i64 nd)).far (p:=⟨w.heap.size,3,none⟩) (by show _≠w.heap.size;omega) (.slice Av v.length cv)).four;have hR8:=(HR6.out.go hb7).go hb8;obtain⟨z0,z1,z2,z3⟩:=hR8.four;have y0:=hR8.frozen 0;have y1:=hR8.frozen 1;have y2:=hR8.frozen 2;have y3:=hR8.frozen 3))
  refine Nrm.out (hK _ _ ?_);go_wp2;have hF:=(((hR8.set_ 0 (.int .i64 o)).set_ 1 (.int .i64 ct)).set_ 2 (.int .i64 nd)).set_ 3 (.slice Av v.length cv);have hbw:=below_then (btn HB6.out hb7) Zl hb8;obtain⟨e1,e2,e3⟩:=g_yes (d:=Wq.bd0) HP.out;rw[e1,e2,e3];have hxx:=HX.out;subst hxx;refine bodyPost_ret (res_ctt rfl _ _ w.heap.size 31 _ _ _ rfl hF Tryz.underlying31 rfl (by kernel_rfl)) rfl ⟨Av,cv,by rw[HL.out]<;>rfl,?_,(((hbw.setCell (p:=⟨w.heap.size,0,none⟩) Zl _).setCell (p:=⟨w.heap.size,1,none⟩) Zl _).setCell (p:=⟨w.heap.size,2,none⟩) Zl _).setCell (p:=⟨w.heap.size,3,none⟩) Zl _⟩;have hu:But w.heap.size w8 ((((w8.setCell ⟨w.heap.size,0,none⟩ (.int .i64 o)).setCell ⟨w.heap.size,1,none⟩ (.int .i64 ct)).setCell ⟨w.heap.size,2,none⟩ (.int .i64 nd)).setCell ⟨w.heap.size,3,none⟩ (.slice Av v.length cv)):=
   (((But.set_ (g:=w.heap.size) _ (p:=⟨w.heap.size,0,none⟩) rfl _).trans (But.set_ (g:=w.heap.size) _ (p:=⟨w.heap.size,1,none⟩) rfl _)).trans (But.set_ (g:=w.heap.size) _ (p:=⟨w.heap.size,2,none⟩) rfl _)).trans (But.set_ (g:=w.heap.size) _ (p:=⟨w.heap.size,3,none⟩) rfl _)
  exact own_less (own_but (own_below (own_below HO6.out hb7 Zl) hb8 Zl) hu (by omega)) (by omega)
 ·have hs:s4=none\/Wq.bdF x=false:=by
   rcases s4 with _ | r
   ·exact .inl rfl
   ·refine .inr ?_;rcases hz:Wq.bdF x with _ | _
    ·rfl
    ·exact absurd ⟨⟨r,rfl⟩,hz⟩ hgood
  have HP6:=Hz_ hP6;have HP:=Hz_ (show Wq.pB l=none by
   have h:=HPA.out;rw[<-numS_st,<-numS_st,<-numS_st,<-numV_vl,<-numV_vl,<-numV_vl,<-HO.out,<-HS1.out,<-HND.out,<-HS2.out,<-HCT.out,<-HS3.out,<-HV.out,<-HS4.out] at h;rw[h];rcases hs with hs | hs
   ·rw[hs]
   ·rcases s4 with _ | r
    ·rfl
    ·simp only;rw[<-HX.out,hs];rfl)
  generalize Wq.bdF x=z at HR1 hs;have HE:=Hz_ fun (W:World) (h:PR W (w.heap.size+1) n s4)=>endB_bad (w.heap.size+1) n o ct nd Av v.length cv z s4 W h hs;clear hP6 hgood hs;go_region_held3 (fun w'=>w'.cell? ⟨w1.heap.size,0,none⟩=some (.int .i64 (o:Int))/\w'.cell? ⟨w1.heap.size,1,none⟩=some (.int .i64 (ct:Int))/\w'.cell? ⟨w1.heap.size,2,none⟩=some (.int .i64 (nd:Int))/\w'.cell? ⟨w1.heap.size,3,none⟩=some (.slice Av v.length cv)) (first | exact⟨u0,u1,u2,u3⟩ | exact⟨t0,t1,t2,t3⟩ | exact⟨r0,r1,r2,r3⟩ | exact⟨q0,q1,q2,q3⟩ | go_keep) (first
   | (go_at_call 104;go_must (refine(HR1.out _).mono ?_);rintro e w7 ⟨rfl,hb7⟩;obtain⟨r0,r1,r2,r3⟩:=(HX6.out.go hb7).four)
   | (go_at_call 130;go_must (refine(HE.out _ (HP6.out.go hb7)).mono ?_);rintro e w8 ⟨rfl,hu8⟩;have hX8:=(HX6.out.go hb7).but hu8 (by omega);obtain⟨t0,t1,t2,t3⟩:=hX8.four;obtain⟨u0,u1,u2,u3⟩:=((((hX8.far (p:=⟨w.heap.size,0,none⟩) (by show _≠w.heap.size;omega) (.int .i64 0)).far (p:=⟨w.heap.size,1,none⟩) (by show _≠w.heap.size;omega) (.int .i64 0)).far (p:=⟨w.heap.size,2,none⟩) (by show _≠w.heap.size;omega) (.int .i64 0)).far (p:=⟨w.heap.size,3,none⟩) (by show _≠w.heap.size;omega) (.slice none 0 0)).four;have hR8:=(HR6.out.go hb7).but hu8 (by omega);obtain⟨z0,z1,z2,z3⟩:=hR8.four;have y0:=hR8.frozen 0;have y1:=hR8.frozen 1;have y2:=hR8.frozen 2;have y3:=hR8.frozen 3))
  refine Nrm.out (hK _ _ ?_);go_wp2;have hF:=(((hR8.set_ 0 (.int .i64 0)).set_ 1 (.int .i64 0)).set_ 2 (.int .i64 0)).set_ 3 (.slice none 0 0);have hbw:=below_but (btn HB6.out hb7) hu8 (by have:=hb7.size;simp at this;omega) (by omega);obtain⟨e1,e2,e3⟩:=g_no (d:=Wq.bd0) HP.out;rw[e1,e2,e3];refine bodyPost_ret (res_ctt rfl _ _ w.heap.size 31 _ _ _ rfl hF Tryz.underlying31 rfl (by kernel_rfl)) rfl ⟨none,0,rfl,World.ownsRow_nil _ _ _ _,(((hbw.setCell (p:=⟨w.heap.size,0,none⟩) Zl _).setCell (p:=⟨w.heap.size,1,none⟩) Zl _).setCell (p:=⟨w.heap.size,2,none⟩) Zl _).setCell (p:=⟨w.heap.size,3,none⟩) Zl _⟩
end Go.Proofs.YtmbeahbgafkjfaaGreatDoor
