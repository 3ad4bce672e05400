/- Lemmas for the claim, layer 14. -/
import Derived.Test.YtmbeahbgafkjfaaGreatDoorKb13
set_option maxRecDepth 100000
set_option maxHeartbeats 16000000
namespace Go.Proofs.YtmbeahbgafkjfaaGreatDoor
open Go.RowKit
def gV {α:Type} (p:List UInt8→Option (α×List UInt8)) (d:α) (l:List UInt8):α:=match p l with | none=>d | some (v,_)=>v
def gK {α:Type} (p:List UInt8→Option (α×List UInt8)) (l:List UInt8):Nat:=match p l with | none=>0 | some (_,r)=>l.length - r.length
def gE {α:Type} (p:List UInt8→Option (α×List UInt8)) (l:List UInt8):Nat:=match p l with | none=>4 | some _=>0
theorem g_no {α:Type} {p:List UInt8→Option (α×List UInt8)} {d:α} {l:List UInt8} (h:p l=none):gV p d l=d∧gK p l=0∧gE p l=4:=by unfold gV gK gE;rw[h];exact⟨rfl,rfl,rfl⟩
theorem g_yes {α:Type} {p:List UInt8→Option (α×List UInt8)} {d:α} {l r:List UInt8} {v:α} (h:p l=some (v,r)):gV p d l=v∧gK p l=l.length - r.length∧gE p l=0:=by unfold gV gK gE;rw[h];exact⟨rfl,rfl,rfl⟩
theorem rdStamp_any (g T:Nat) (s:Option (List UInt8)) (w:World) (h:PR w g T s):
  Calls Tryz.prog 125 #[.pointer (some ⟨g,0,none⟩)] w fun e w'=>e=.returned (.agg #[.int .i64 (numV (numS s):Nat),.int .i64 (numV s:Nat)])∧PR w' g T (numS (numS s))∧But g w w':=by
 have hb0:Below w.heap.size w (w.alloc (.cells #[.int .i64 0,.int .i64 0] 28)):=(Below.refl _ _).alloc (Nat.le_refl _) _
 have hlt:=h.lt
 have hx:=Blk.new w 28 #[.int .i64 0,.int .i64 0]
 have G1:=Hz_ (rdNum_any g T s _ (h.go hb0))
 have G2:=Hz_ fun (W:World) h=>rdNum_any g T (numS s) W h
 have HX:=Hz_ hx
 have HB:=Hz_ hb0
 clear h hx hb0
 generalize numV s=a at G1
 generalize numV (numS s)=b at G2
 go_enter Tryz.func125,Tryz.ntmps125
 go_wp2_with (go_at_call 124;first
  | (refine(G2.out _ hP1).mono ?_;rintro e w2 ⟨rfl,hP2,hu2⟩;have hx2:=(HX.out.but hu1 (by omega)).but hu2 (by omega);have f0:=hx2.frozen 0;have f1:=hx2.frozen 1;have c0:=hx2.cell 0;have c1:=hx2.cell 1)
  | (refine G1.out.mono ?_;rintro e w1 ⟨rfl,hP1,hu1⟩))
 have hx3:Blk ((w2.setCell ⟨w.heap.size,0,none⟩ (.int .i64 b)).setCell ⟨w.heap.size,1,none⟩ (.int .i64 a)) w.heap.size 28 #[.int .i64 b,.int .i64 a]:=(hx2.set_ 0 (.int .i64 b)).set_ 1 (.int .i64 a)
 refine bodyPost_ret (results_cell_row rfl _ _ w.heap.size 28 _ _ _ rfl hx3 Tryz.underlying28 rfl (by kernel_rfl)) rfl ⟨rfl,?_,?_⟩
 ·exact hP2.but ((But.set_ (g:=w.heap.size) w2 (p:=⟨w.heap.size,0,none⟩) rfl _).trans (But.set_ (g:=w.heap.size) _ (p:=⟨w.heap.size,1,none⟩) rfl _)) hlt
 ·exact(((But.of HB.out).trans hu1).trans hu2).below (((Below.refl _ _).setCell (p:=⟨w.heap.size,0,none⟩) (Nat.le_refl _) _).setCell (p:=⟨w.heap.size,1,none⟩) (Nat.le_refl _) _)
theorem pV_all {l:List UInt8}:Wq.pV l=match all2 l with | none=>none | some (v,q)=>if fm (-1) (v.map Wq.sw)=true then some (v.map Wq.sw,q) else none:=by
 unfold Wq.pV all2
 rcases Wq.pN l with _ | ⟨n,r⟩<;>rfl
theorem endV_ok (g T:Nat) (v:Value) (l:List UInt8) (w:World) (h:PR w g T (some l)):
  Calls Tryz.prog 177 #[.pointer (some ⟨g,0,none⟩),v,.bool true] w fun e w'=>e=.returned (.tuple #[v,.int .i64 ((T - l.length:Nat):Int),.int .i64 0])∧∃n,w'=w.drewN n:=by
 obtain⟨A,n,c,hB,hq⟩:=h
 have c1:=hB.cell 1
 have c2:=hB.cell 2
 clear hB hq
 go_enter Tryz.func177,Tryz.ntmps177
 go_wp2
 go_quiet (fail)
 go_wp2
 go_ret3
 exact⟨rfl,_,rfl⟩
theorem endV_bad (g T:Nat) (v:Value) (f:Bool) (s:Option (List UInt8)) (w:World) (h:PR w g T s) (hs:s=none∨f=false):
  Calls Tryz.prog 177 #[.pointer (some ⟨g,0,none⟩),v,.bool f] w fun e w'=>e=.returned (.tuple #[.slice none 0 0,.int .i64 0,.int .i64 4])∧PR w' g T none∧But g w w':=by
 rcases s with _ | l
 ·obtain⟨A,n,c,k,hB⟩:=h
  have c2:=hB.cell 2
  have f2:=hB.frozen 2
  have HB:=Hz_ hB
  clear hB hs
  go_enter Tryz.func177,Tryz.ntmps177
  go_wp2
  go_ret3
  exact⟨rfl,⟨A,n,c,k,HB.out.set_ 2 (.bool true)⟩,But.set_ w (p:=⟨g,2,none⟩) rfl _⟩
 ·obtain rfl:f=false:=by
   rcases hs with h | h
   ·cases h
   ·exact h
  obtain⟨A,n,c,hB,_⟩:=h
  have c2:=hB.cell 2
  have f2:=hB.frozen 2
  have HB:=Hz_ hB
  clear hB hs
  go_enter Tryz.func177,Tryz.ntmps177
  go_wp2
  go_ret3
  exact⟨rfl,⟨A,n,c,_,HB.out.set_ 2 (.bool true)⟩,But.set_ w (p:=⟨g,2,none⟩) rfl _⟩
theorem wireVec_any (A:Option Addr) (n c:Nat) (l:List UInt8) (w:World) (hl:l.length=n) (hR:Rd w w.heap.size 1 A n c (bv l)) (hn:n≤4294967296):
  Calls Tryz.prog 122 #[.slice A n c] w fun e w'=>∃A' c',e=.returned (.tuple #[.slice A' (gV Wq.pV [] l).length c',.int .i64 (gK Wq.pV l),.int .i64 (gE Wq.pV l)]) ∧
   w'.ownsRow w.heap.size 28 2 (.slice A' (gV Wq.pV [] l).length c') (gV Wq.pV [] l).length (sv (gV Wq.pV [] l))∧Below w.heap.size w w':=by
 obtain⟨i0,hi0,hz0,hz1,hz2⟩:=info_parts stamp_info
 have hP0:PR (w.alloc (.cells #[.slice A n c,.int .i64 0,.bool false] 156)) w.heap.size n (some l):=by
  refine⟨A,n,c,?_,hR.alloc (Nat.le_refl _) _,hl,by omega,by have:=hR.cap;have:=hR.max;omega⟩
  rw[hl,Nat.sub_self]
  exact Blk.new w _ _
 have hb0:Below w.heap.size w (w.alloc (.cells #[.slice A n c,.int .i64 0,.bool false] 156)):=(Below.refl _ _).alloc (Nat.le_refl _) _
 obtain⟨w0,hw0⟩:∃w0,w0=w.alloc (.cells #[.slice A n c,.int .i64 0,.bool false] 156):=⟨_,rfl⟩
 rw[←hw0] at hP0 hb0
 have HW:=Hz_ hw0.symm
 have HL:=Hz_ hl
 have hcap:=Hz_ (show Cap2 0 (numS (some l)) n from numS_cap (show 0+l.length≤n by omega))
 have hinv:=Hz_ (Inv2.start l)
 have hk0:=numV_lt (some l)
 obtain⟨k0,hk0e⟩:∃k0,k0=numV (some l):=⟨_,rfl⟩
 have H1:=Hz_ fun (W:World) (s:Option (List UInt8)) (h:PR W w.heap.size n s)=>rdNum_any w.heap.size n s W h
 have H10:=H1.out w0 (some l) hP0
 rw[←hk0e] at H10 hk0 hinv
 have H0:=Hz_ H10
 clear H10 hk0e hl hR hw0
 go_enter Tryz.func122,Tryz.ntmps122
 go_wp2_with fail
 rw[HW.out]
 refine H0.out.mono ?_
 rintro e w1 ⟨rfl,hP1,hu1⟩
 have hs0:=hP0.lt
 have hs1:=hu1.size
 have hb1:=below_but hb0 hu1 (by omega) (Nat.le_refl _)
 clear H0 hu1 hP0 hb0
 go_wp2_with fail
 go_loopw [6,7] (fun v6 v7 wr=>∃(k m c':Nat) (A':Option Addr) (s:Option (List UInt8)) (acc:List (Int×Int)),v7=.int .i64 k∧v6=.slice A' m c'∧k≤k0∧PR wr w.heap.size n s∧Below w.heap.size w wr ∧
  wr.ownsRow (w.heap.size+1) 28 2 (.slice A' m c') m (sv (acc.map Wq.sw))∧Hid (acc.length=m)∧Hid (Cap2 m s n)∧Hid (Inv2 k s acc (all2 l))) (fun _ v7 _=>(intOf v7).toNat)
 case atStart=>exact⟨k0,0,0,none,_,[],rfl,rfl,Nat.le_refl _,hP1,hb1,World.ownsRow_nil _ _ _ _,rfl,hcap,hinv⟩
 case round=>
  obtain⟨k,m,c',A',s,acc,rfl,rfl,hk,hP,hb,ho,hacc,hca,hin⟩:=hrel
  have hlt:=hP.lt
  have HP:=Hz_ hP
  have HO:=Hz_ ho
  clear hP ho
  by_cases hgo:0 < k∧s≠none
  ·obtain⟨hk1,hs⟩:=hgo
   obtain⟨l1,rfl⟩:∃l1,s=some l1:=by
    cases s with
    | none=>exact absurd rfl hs
    | some l1=>exact⟨l1,rfl⟩
   obtain⟨Ar,nr,cr,hBr,hqr⟩:=HP.out
   have c2:=hBr.cell 2
   clear hBr hqr hs
   obtain⟨lo,hlo⟩:∃lo,lo=numV (some l1):=⟨_,rfl⟩
   obtain⟨s1,hs1⟩:∃s1,s1=numS (some l1):=⟨_,rfl⟩
   obtain⟨hi,hhi⟩:∃hi,hi=numV s1:=⟨_,rfl⟩
   obtain⟨s2,hs2⟩:∃s2,s2=numS s1:=⟨_,rfl⟩
   have hcap1:m+l1.length≤n:=hca.out
   have HIN:=Hz_ (show Inv2 (k - 1) s2 (acc++[((lo:Int),(hi:Int))]) (all2 l) by
    have h:=hin.out
    rw[show k=(k - 1)+1 by omega] at h
    rw[hs2,hlo,hhi,hs1]
    exact h.next)
   have HCA:=Hz_ (show Cap2 (m+1) s2 n by rw[hs2];exact numS_cap (by rw[hs1];exact numS_cap1 hca.out))
   have C1:=rdStamp_any w.heap.size n (some l1) wr HP.out
   rw[←hlo,←hs1,←hhi,←hs2] at C1
   have G1:=Hz_ C1
   have h63:m+1≤maxLen:=by unfold maxLen;omega
   have h1max:1≤maxLen:=by unfold maxLen;omega
   have hbs:=hb.size
   have hm32:m≤4294967296:=by omega
   clear C1 hlo hs1 hhi hs2 hin hca hcap1
   go_wp2_with fail
   refine G1.out.mono ?_
   rintro e w3 ⟨rfl,hP3,hu3⟩
   have hs3:=hu3.size
   have ho3:=own_but HO.out hu3 (by omega)
   have hb3:=below_but hb hu3 (by omega) (Nat.le_refl _)
   clear hu3 HO hb HP c2 G1
   go_wp2_with (at_builtin;go_must (refine wpList_append_rd _ rfl (.tmp 24) (.tmp 27) _ rfl (w.heap.size+1) 28 i0 _ 2 16 Tryz.underlying22 hi0 hz0 hz1 hz2 rfl (by decide) (.slice A' m c') m _ rfl (ho3.alloc _) (w3.heap.size+1) (some ⟨w3.heap.size,0,none⟩) 1 1 [.int .i64 (hi:Int),.int .i64 (lo:Int)] rfl (Rd.new w3 _ 2 1 #[.int .i64 (hi:Int),.int .i64 (lo:Int)] rfl h1max) (sv_oneCell [((hi:Int),(lo:Int))]) h63 (by omega) (by simp;omega) ?_);intro A3 c3 w4 ho4 hg4 hat4)
   have hbg:Below (w.heap.size+1) w3 w4:=((Below.refl _ _).alloc (by omega) _).trans (grown_below hg4 (by simp;omega) (fun g hg=>own_lt ho3 g hg))
   go_roundw
   case rel=>
    exact⟨k - 1,m+1,c3,A3,s2,acc++[((lo:Int),(hi:Int))],by rw[show ((k:Int) - 1)=((k - 1:Nat):Int) by omega],rfl,by omega,hP3.below hbg (by omega),hb3.trans (hbg.mono (by omega)),by rw[List.map_append,sv_app];exact ho4,
     by show _=_;rw[List.length_append,hacc.out];rfl,HCA,HIN⟩
   case measure=>simp[intOf];omega
  ·have HF:=Hz_ fun (W:World) (hR:Rd W W.heap.size 2 A' m c' (sv (acc.map Wq.sw)))=>formed_any A' m c' (acc.map Wq.sw) W (by rw[List.length_map];exact hacc.out) hR
   have hbs:=hb.size
   rcases s with _ | r
   ·have hpS:Wq.pV l=none:=by
     have h:all2 l=none:=hin.out
     rw[pV_all,h]
    have HE:=Hz_ (g_no (d:=[]) hpS)
    obtain⟨Ar,nr,cr,kr,hBr⟩:=HP.out
    have c2:=hBr.cell 2
    clear hBr hpS hgo hinv hcap
    by_cases hk0:0 < k
    all_goals
     go_wp2_with fail
     refine(HF.out wr (Rd.of_own HO.out)).mono ?_
     rintro e w5 ⟨rfl,hb5⟩
     go_wp2_with fail
     refine(endV_bad w.heap.size n (.slice A' m c') (fm (-1) (acc.map Wq.sw)) none w5 (HP.out.go hb5) (.inl rfl)).mono ?_
     rintro e w6 ⟨rfl,hP6,hu6⟩
     go_wp2
     go_ret3
     obtain⟨e1,e2,e3⟩:=HE.out
     rw[e1,e2,e3]
     exact⟨none,0,rfl,World.ownsRow_nil _ _ _ _,below_but (btn hb hb5) hu6 (by have:=hb5.size;omega) (Nat.le_refl _)⟩
   ·obtain rfl:k=0:=by
     rcases Nat.eq_zero_or_pos k with h | h
     ·exact h
     ·exact absurd ⟨h,by simp⟩ hgo
    have hF:=hin.out.done
    obtain⟨Ar,nr,cr,hBr,hqr⟩:=HP.out
    have c2:=hBr.cell 2
    by_cases hf:fm (-1) (acc.map Wq.sw)=true
    ·have hpS:Wq.pV l=some (acc.map Wq.sw,r):=by rw[pV_all,hF];simp only;rw[if_pos hf]
     have HE:=Hz_ (g_yes (d:=[]) hpS)
     have HA:=Hz_ (show (acc.map Wq.sw).length=m by rw[List.length_map];exact hacc.out)
     rw[hf] at HF
     clear hBr hqr hpS hgo hinv hcap hF hf
     go_wp2_with fail
     refine(HF.out wr (Rd.of_own HO.out)).mono ?_
     rintro e w5 ⟨rfl,hb5⟩
     have ho5:=own_below HO.out hb5 (Nat.le_refl _)
     go_wp2_with fail
     refine(endV_ok w.heap.size n (.slice A' m c') r w5 (HP.out.go hb5)).mono ?_
     rintro e w6 ⟨rfl,n6,rfl⟩
     go_wp2
     go_ret3
     obtain⟨e1,e2,e3⟩:=HE.out
     rw[e1,e2,e3,HL.out,HA.out]
     exact⟨A',c',rfl,own_less (own_drewN ho5 n6) (by omega),below_drewN (btn hb hb5) n6⟩
    ·have hf':fm (-1) (acc.map Wq.sw)=false:=by simpa using hf
     have hpS:Wq.pV l=none:=by rw[pV_all,hF];simp only;rw[if_neg hf]
     have HE:=Hz_ (g_no (d:=[]) hpS)
     rw[hf'] at HF
     clear hBr hqr hpS hgo hinv hcap hF hf hf'
     go_wp2_with fail
     refine(HF.out wr (Rd.of_own HO.out)).mono ?_
     rintro e w5 ⟨rfl,hb5⟩
     go_wp2_with fail
     refine(endV_bad w.heap.size n (.slice A' m c') false (some r) w5 (HP.out.go hb5) (.inr rfl)).mono ?_
     rintro e w6 ⟨rfl,hP6,hu6⟩
     go_wp2
     go_ret3
     obtain⟨e1,e2,e3⟩:=HE.out
     rw[e1,e2,e3]
     exact⟨none,0,rfl,World.ownsRow_nil _ _ _ _,below_but (btn hb hb5) hu6 (by have:=hb5.size;omega) (Nat.le_refl _)⟩
theorem row_is {A:Option Addr} {n c:Nat} {l:List UInt8} {most:Int} {w:World} {r:List UInt8} {j er m:Nat} (h:rowOf l most=(r,j,er)) (hm:r.length=m) (hl:l.length=n) (hR:Rd w w.heap.size 1 A n c (bv l)) (hn:n≤140737488355328):
  Calls Tryz.prog 129 #[.slice A n c,.int .i64 most] w fun e w'=>∃A' c',e=.returned (.tuple #[.slice A' m c',.int .i64 j,.int .i64 er])∧w'.ownsRow w.heap.size 5 1 (.slice A' m c') m (bv r)∧Below w.heap.size w w':=by
 have:=row_any A n c l most w hl hR hn
 rw[h] at this
 subst hm
 exact this
theorem drop_back {l x r:List UInt8} (h:l=x++r):l.drop (l.length - r.length)=r∧r.length≤l.length:=by
 subst h
 exact⟨by simp,by simp⟩
theorem gS_some {α:Type} {p:List UInt8→Option (α×List UInt8)} {l r:List UInt8} {v:α} (h:p l=some (v,r)):Wq.st p (some l)=some r:=by unfold Wq.st;simp only[h]
theorem gS_no {α:Type} {p:List UInt8→Option (α×List UInt8)} {l:List UInt8} (h:p l=none):Wq.st p (some l)=none:=by unfold Wq.st;simp only[h]
theorem wireSet_g (A:Option Addr) (n c:Nat) (l:List UInt8) (w:World) (hl:l.length=n) (hR:Rd w w.heap.size 1 A n c (bv l)) (hn:n≤4294967296):
  Calls Tryz.prog 54 #[.slice A n c] w fun e w'=>∃A' c',e=.returned (.tuple #[.slice A' (gV Wq.pS [] l).length c',.int .i64 (gK Wq.pS l),.int .i64 (gE Wq.pS l)]) ∧
   w'.ownsRow w.heap.size 63 2 (.slice A' (gV Wq.pS [] l).length c') (gV Wq.pS [] l).length (sv (gV Wq.pS [] l))∧Below w.heap.size w w':=by
 have h:=wireSet_any A n c l w hl hR hn
 have e1:setV l=gV Wq.pS [] l:=by unfold setV gV;rcases Wq.pS l with _ | ⟨_,_⟩<;>rfl
 have e2:setK l=gK Wq.pS l:=by unfold setK gK;rcases Wq.pS l with _ | ⟨_,_⟩<;>rfl
 have e3:setE l=gE Wq.pS l:=by unfold setE gE;rcases Wq.pS l with _ | ⟨_,_⟩<;>rfl
 rw[e1,e2,e3] at h
 exact h
theorem partVec_any (g T:Nat) (s:Option (List UInt8)) (w:World) (h:PR w g T s) (hT32:T≤4294967296):
  Calls Tryz.prog 121 #[.pointer (some ⟨g,0,none⟩),.func (.func 122) #[] #[]] w fun e w'=>∃A' c',e=.returned (.slice A' (Wq.vl Wq.pV [] s).length c') ∧
   w'.ownsRow w.heap.size 28 2 (.slice A' (Wq.vl Wq.pV [] s).length c') (Wq.vl Wq.pV [] s).length (sv (Wq.vl Wq.pV [] s))∧PR w' g T (Wq.st Wq.pV s)∧But g w w':=by
 rcases s with _ | l
 ·have h':=h
  obtain⟨A,n,c,k,hB⟩:=h
  have c2:=hB.cell 2
  have H:=Hz_ h'
  clear hB h'
  go_enter Tryz.func121,Tryz.ntmps121
  go_wp2
  go_ret
  exact⟨none,0,rfl,World.ownsRow_nil _ _ _ _,H.out,But.refl _ _⟩
 ·obtain⟨A,n,c,hB,hR,hl,hT,hm⟩:=h
  have H1:=wireVec_any A n c l w hl (hR.more (Nat.le_of_lt hB.lt)) (by omega)
  have c0:=hB.cell 0
  have c2:=hB.cell 2
  have hlt:=hB.lt
  unfold maxLen at hm
  have hgv:Wq.vl Wq.pV [] (some l)=gV Wq.pV [] l:=rfl
  rw[hgv]
  rcases hp:Wq.pV l with _ | ⟨v,r⟩
  ·obtain⟨e1,e2,e3⟩:=g_no (d:=[]) hp
   rw[e1,e2,e3] at H1
   rw[e1,gS_no hp]
   have G1:=Hz_ H1
   have G2:=Hz_ fun (W:World) hB=>took_bad g (.slice A n c) (.int .i64 ((T - l.length:Nat):Int)) 0 4 W hB (by omega)
   have HB:=Hz_ hB
   clear H1 hR hl hp hB e1 e2 e3 hgv
   go_enter Tryz.func121,Tryz.ntmps121
   go_wp2_with fail
   refine G1.out.mono ?_
   rintro e w1 ⟨A1,c1,rfl,ho1,hb1⟩
   have hB1:=HB.out.go hb1
   clear c0 c2
   go_wp2_with fail
   refine(G2.out w1 hB1).mono ?_
   rintro e w2 ⟨rfl,hB2,hu2⟩
   go_wp2
   go_ret
   exact⟨A1,c1,rfl,own_but ho1 hu2 hlt,⟨_,_,_,_,hB2⟩,(But.of hb1).trans hu2⟩
  ·obtain⟨e1,e2,e3⟩:=g_yes (d:=[]) hp
   obtain⟨d1,d2⟩:=drop_back (Wq.pV_back hp).1
   rw[e1,e2,e3] at H1
   rw[e1,gS_some hp]
   obtain⟨k,hk⟩:∃k,k=l.length - r.length:=⟨_,rfl⟩
   rw[←hk] at H1 d1
   have G1:=Hz_ H1
   have G2:=Hz_ fun (W:World) hB=>took_ok g k n c A ((T - l.length:Nat):Int) W hB (by omega) (by omega) (by omega)
   have HB:=Hz_ hB
   have HR:=Hz_ (hR.from_ (k:=k) (by omega))
   have HE:=Hz_ (show (((T - l.length:Nat):Int)+k)=((T - r.length:Nat):Int) by omega)
   have HD:=Hz_ d1
   have hrl:r.length=n - k:=by omega
   have hrt:r.length≤T:=by omega
   clear H1 hR hl hp hB e1 e2 e3 hgv d1 hk
   go_enter Tryz.func121,Tryz.ntmps121
   go_wp2_with fail
   refine G1.out.mono ?_
   rintro e w1 ⟨A1,c1,rfl,ho1,hb1⟩
   have hB1:=HB.out.go hb1
   have hs1:=hb1.size
   clear c0 c2
   go_wp2_with fail
   refine(G2.out w1 hB1).mono ?_
   rintro e w2 ⟨rfl,hB2,hu2⟩
   go_wp2
   go_ret
   have h2:=HR.out
   rw[Nat.mul_one,←bv_drop,HD.out] at h2
   rw[HE.out] at hB2
   exact⟨A1,c1,rfl,own_but ho1 hu2 hlt,⟨_,_,_,hB2,((h2.below (hb1.mono (Nat.le_of_lt hlt))).but hu2 (by omega) (Nat.le_refl _)),hrl,hrt,by unfold maxLen;exact hm⟩,(But.of hb1).trans hu2⟩
theorem partSet_any (g T:Nat) (s:Option (List UInt8)) (w:World) (h:PR w g T s) (hT32:T≤4294967296):
  Calls Tryz.prog 123 #[.pointer (some ⟨g,0,none⟩),.func (.func 54) #[] #[]] w fun e w'=>∃A' c',e=.returned (.slice A' (Wq.vl Wq.pS [] s).length c') ∧
   w'.ownsRow w.heap.size 63 2 (.slice A' (Wq.vl Wq.pS [] s).length c') (Wq.vl Wq.pS [] s).length (sv (Wq.vl Wq.pS [] s))∧PR w' g T (Wq.st Wq.pS s)∧But g w w':=by
 rcases s with _ | l
 ·have h':=h
  obtain⟨A,n,c,k,hB⟩:=h
  have c2:=hB.cell 2
  have H:=Hz_ h'
  clear hB h'
  go_enter Tryz.func123,Tryz.ntmps123
  go_wp2
  go_ret
  exact⟨none,0,rfl,World.ownsRow_nil _ _ _ _,H.out,But.refl _ _⟩
 ·obtain⟨A,n,c,hB,hR,hl,hT,hm⟩:=h
  have H1:=wireSet_g A n c l w hl (hR.more (Nat.le_of_lt hB.lt)) (by omega)
  have c0:=hB.cell 0
  have c2:=hB.cell 2
  have hlt:=hB.lt
  unfold maxLen at hm
  have hgv:Wq.vl Wq.pS [] (some l)=gV Wq.pS [] l:=rfl
  rw[hgv]
  rcases hp:Wq.pS l with _ | ⟨v,r⟩
  ·obtain⟨e1,e2,e3⟩:=g_no (d:=[]) hp
   rw[e1,e2,e3] at H1
   rw[e1,gS_no hp]
   have G1:=Hz_ H1
   have G2:=Hz_ fun (W:World) hB=>took_bad g (.slice A n c) (.int .i64 ((T - l.length:Nat):Int)) 0 4 W hB (by omega)
   have HB:=Hz_ hB
   clear H1 hR hl hp hB e1 e2 e3 hgv
   go_enter Tryz.func123,Tryz.ntmps123
   go_wp2_with fail
   refine G1.out.mono ?_
   rintro e w1 ⟨A1,c1,rfl,ho1,hb1⟩
   have hB1:=HB.out.go hb1
   clear c0 c2
   go_wp2_with fail
   refine(G2.out w1 hB1).mono ?_
   rintro e w2 ⟨rfl,hB2,hu2⟩
   go_wp2
   go_ret
   exact⟨A1,c1,rfl,own_but ho1 hu2 hlt,⟨_,_,_,_,hB2⟩,(But.of hb1).trans hu2⟩
  ·obtain⟨e1,e2,e3⟩:=g_yes (d:=[]) hp
   obtain⟨d1,d2⟩:=drop_back (Wq.pS_back hp).1
   rw[e1,e2,e3] at H1
   rw[e1,gS_some hp]
   obtain⟨k,hk⟩:∃k,k=l.length - r.length:=⟨_,rfl⟩
   rw[←hk] at H1 d1
   have G1:=Hz_ H1
   have G2:=Hz_ fun (W:World) hB=>took_ok g k n c A ((T - l.length:Nat):Int) W hB (by omega) (by omega) (by omega)
   have HB:=Hz_ hB
   have HR:=Hz_ (hR.from_ (k:=k) (by omega))
   have HE:=Hz_ (show (((T - l.length:Nat):Int)+k)=((T - r.length:Nat):Int) by omega)
   have HD:=Hz_ d1
   have hrl:r.length=n - k:=by omega
   have hrt:r.length≤T:=by omega
   clear H1 hR hl hp hB e1 e2 e3 hgv d1 hk
   go_enter Tryz.func123,Tryz.ntmps123
   go_wp2_with fail
   refine G1.out.mono ?_
   rintro e w1 ⟨A1,c1,rfl,ho1,hb1⟩
   have hB1:=HB.out.go hb1
   have hs1:=hb1.size
   clear c0 c2
   go_wp2_with fail
   refine(G2.out w1 hB1).mono ?_
   rintro e w2 ⟨rfl,hB2,hu2⟩
   go_wp2
   go_ret
   have h2:=HR.out
   rw[Nat.mul_one,←bv_drop,HD.out] at h2
   rw[HE.out] at hB2
   exact⟨A1,c1,rfl,own_but ho1 hu2 hlt,⟨_,_,_,hB2,((h2.below (hb1.mono (Nat.le_of_lt hlt))).but hu2 (by omega) (Nat.le_refl _)),hrl,hrt,by unfold maxLen;exact hm⟩,(But.of hb1).trans hu2⟩
theorem bodyRow_is {A:Option Addr} {n c:Nat} {l:List UInt8} {w:World} {r:List UInt8} {j er m:Nat} (h:rowOf l (256:Nat)=(r,j,er)) (hm:r.length=m) (hl:l.length=n) (hR:Rd w w.heap.size 1 A n c (bv l)) (hn:n≤140737488355328):
  Calls Tryz.prog 128 #[.slice A n c] w fun e w'=>∃A' c',e=.returned (.tuple #[.slice A' m c',.int .i64 j,.int .i64 er])∧w'.ownsRow w.heap.size 5 1 (.slice A' m c') m (bv r)∧Below w.heap.size w w':=by
 have G1:=Hz_ (row_is h hm hl hR hn)
 clear h hl hR
 go_enter Tryz.func128,Tryz.ntmps128
 go_wp2_with (go_at_call 129;go_must (refine G1.out.mono ?_);rintro e w1 ⟨A1,c1,rfl,ho1,hb1⟩)
 go_ret3
 exact⟨A1,c1,rfl,ho1,hb1⟩
theorem partRow_any (g T:Nat) (s:Option (List UInt8)) (w:World) (h:PR w g T s) (hT32:T≤140737488355328):
  Calls Tryz.prog 127 #[.pointer (some ⟨g,0,none⟩),.func (.func 128) #[] #[]] w fun e w'=>∃A' c',e=.returned (.slice A' (Wq.vl (Wq.pR 256) [] s).length c') ∧
   w'.ownsRow w.heap.size 5 1 (.slice A' (Wq.vl (Wq.pR 256) [] s).length c') (Wq.vl (Wq.pR 256) [] s).length (bv (Wq.vl (Wq.pR 256) [] s))∧PR w' g T (Wq.st (Wq.pR 256) s)∧But g w w':=by
 rcases s with _ | l
 ·have h':=h
  obtain⟨A,n,c,k,hB⟩:=h
  have c2:=hB.cell 2
  have H:=Hz_ h'
  clear hB h'
  go_enter Tryz.func127,Tryz.ntmps127
  go_wp2
  go_ret
  exact⟨none,0,rfl,World.ownsRow_nil _ _ _ _,H.out,But.refl _ _⟩
 ·obtain⟨A,n,c,hB,hR,hl,hT,hm⟩:=h
  have c0:=hB.cell 0
  have c2:=hB.cell 2
  have hlt:=hB.lt
  unfold maxLen at hm
  have hgv:Wq.vl (Wq.pR 256) [] (some l)=gV (Wq.pR 256) [] l:=rfl
  rw[hgv]
  rcases rowOf_pR l 256 with ⟨v,k0,hr,hk0,hp⟩ | ⟨er,her,hr,hp⟩
  rotate_left
  ·have H1:=bodyRow_is hr rfl hl (hR.more (Nat.le_of_lt hB.lt)) (by omega)
   obtain⟨e1,e2,e3⟩:=g_no (d:=[]) hp
   rw[e1,gS_no hp]
   have he2:(er:Int)≠0:=by omega
   have G1:=Hz_ H1
   have G2:=Hz_ fun (W:World) hB=>took_bad g (.slice A n c) (.int .i64 ((T - l.length:Nat):Int)) 0 er W hB he2
   have HB:=Hz_ hB
   clear H1 hR hl hp hB e1 e2 e3 hgv hr
   go_enter Tryz.func127,Tryz.ntmps127
   go_wp2_with fail
   refine G1.out.mono ?_
   rintro e w1 ⟨A1,c1,rfl,ho1,hb1⟩
   have hB1:=HB.out.go hb1
   clear c0 c2
   go_wp2_with fail
   refine(G2.out w1 hB1).mono ?_
   rintro e w2 ⟨rfl,hB2,hu2⟩
   go_wp2
   go_ret
   exact⟨A1,c1,rfl,own_but ho1 hu2 hlt,⟨_,_,_,_,hB2⟩,(But.of hb1).trans hu2⟩
  ·have H1:=bodyRow_is hr rfl hl (hR.more (Nat.le_of_lt hB.lt)) (by omega)
   obtain⟨e1,e2,e3⟩:=g_yes (d:=[]) hp
   obtain⟨r,hre⟩:∃r,r=l.drop k0:=⟨_,rfl⟩
   rw[←hre] at hp
   have d1:=hre.symm
   have d2:r.length≤l.length:=by rw[hre,List.length_drop];omega
   have hk:k0=l.length - r.length:=by rw[hre,List.length_drop];omega
   rw[e1,gS_some hp]
   obtain⟨k,rfl⟩:∃k,k=k0:=⟨_,rfl⟩
   have G1:=Hz_ H1
   have G2:=Hz_ fun (W:World) hB=>took_ok g k n c A ((T - l.length:Nat):Int) W hB (by omega) (by omega) (by omega)
   have HB:=Hz_ hB
   have HR:=Hz_ (hR.from_ (k:=k) (by omega))
   have HE:=Hz_ (show (((T - l.length:Nat):Int)+k)=((T - r.length:Nat):Int) by omega)
   have HD:=Hz_ d1
   have hrl:r.length=n - k:=by omega
   have hrt:r.length≤T:=by omega
   clear H1 hR hl hp hB e1 e2 e3 hgv d1 hk hr hre
   go_enter Tryz.func127,Tryz.ntmps127
   go_wp2_with fail
   refine G1.out.mono ?_
   rintro e w1 ⟨A1,c1,rfl,ho1,hb1⟩
   have hB1:=HB.out.go hb1
   have hs1:=hb1.size
   clear c0 c2
   go_wp2_with fail
   refine(G2.out w1 hB1).mono ?_
   rintro e w2 ⟨rfl,hB2,hu2⟩
   go_wp2
   go_ret
   have h2:=HR.out
   rw[Nat.mul_one,←bv_drop,HD.out] at h2
   rw[HE.out] at hB2
   exact⟨A1,c1,rfl,own_but ho1 hu2 hlt,⟨_,_,_,hB2,((h2.below (hb1.mono (Nat.le_of_lt hlt))).but hu2 (by omega) (Nat.le_refl _)),hrl,hrt,by unfold maxLen;exact hm⟩,(But.of hb1).trans hu2⟩
end Go.Proofs.YtmbeahbgafkjfaaGreatDoor
