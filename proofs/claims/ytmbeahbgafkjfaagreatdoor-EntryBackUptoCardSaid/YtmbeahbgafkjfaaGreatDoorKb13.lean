/- Lemmas for the claim, layer 13. -/
import Derived.Test.YtmbeahbgafkjfaaGreatDoorKb10
import Derived.Test.YtmbeahbgafkjfaaGreatDoorKb12
set_option maxRecDepth 100000
set_option maxHeartbeats 16000000
namespace Go.Proofs.YtmbeahbgafkjfaaGreatDoor
open Go.RowKit
def numV:Option (List UInt8)→Nat
 | none=>0
 | some l=>match Wq.pN l with | none=>0 | some (x,_)=>x
def numS:Option (List UInt8)→Option (List UInt8)
 | none=>none
 | some l=>match Wq.pN l with | none=>none | some (_,r)=>some r
theorem numV_some {l r:List UInt8} {x:Nat} (h:Wq.pN l=some (x,r)):numV (some l)=x:=by simp only[numV,h]
theorem numS_some {l r:List UInt8} {x:Nat} (h:Wq.pN l=some (x,r)):numS (some l)=some r:=by simp only[numS,h]
theorem numS_no {l:List UInt8} (h:Wq.pN l=none):numS (some l)=none:=by simp only[numS,h]
theorem numV_lt (s:Option (List UInt8)):numV s < 9223372036854775808:=by
 cases s with
 | none=>show 0 < _;omega
 | some l=>
  unfold numV
  simp only
  split
  ·omega
  ·rename_i x r h;exact(Wq.pN_back h).2
def PR (w:World) (g T:Nat):Option (List UInt8)→Prop
 | some l=>∃A n c,Blk w g 156 #[.slice A n c,.int .i64 (((T - l.length:Nat)):Int),.bool false]∧Rd w g 1 A n c (bv l)∧l.length=n∧l.length≤T∧T≤maxLen
 | none=>∃A n c k,Blk w g 156 #[.slice A n c,.int .i64 k,.bool true]
theorem PR.lt {w:World} {g T:Nat} {s:Option (List UInt8)} (h:PR w g T s):g < w.heap.size:=by
 cases s with
 | none=>obtain⟨A,n,c,k,h⟩:=h;exact h.lt
 | some l=>obtain⟨A,n,c,h,_⟩:=h;exact h.lt
theorem PR.go {w w':World} {g T:Nat} {s:Option (List UInt8)} (h:PR w g T s) (hb:Below w.heap.size w w'):PR w' g T s:=by
 cases s with
 | none=>obtain⟨A,n,c,k,h⟩:=h;exact⟨A,n,c,k,h.go hb⟩
 | some l=>obtain⟨A,n,c,h,h2,h3⟩:=h;exact⟨A,n,c,h.go hb,h2.below (hb.mono (Nat.le_of_lt h.lt)),h3⟩
theorem PR.below {w w':World} {g T B:Nat} {s:Option (List UInt8)} (h:PR w g T s) (hb:Below B w w') (hg:g < B):PR w' g T s:=by
 cases s with
 | none=>obtain⟨A,n,c,k,h⟩:=h;exact⟨A,n,c,k,h.below hb hg⟩
 | some l=>obtain⟨A,n,c,h,h2,h3⟩:=h;exact⟨A,n,c,h.below hb hg,h2.below (hb.mono (by omega)),h3⟩
theorem PR.but {w w':World} {g q T:Nat} {s:Option (List UInt8)} (h:PR w g T s) (hb:But q w w') (hq:g < q):PR w' g T s:=by
 cases s with
 | none=>obtain⟨A,n,c,k,h⟩:=h;exact⟨A,n,c,k,h.but hb (by omega)⟩
 | some l=>obtain⟨A,n,c,h,h2,h3⟩:=h;exact⟨A,n,c,h.but hb (by omega),h2.but hb (Nat.le_of_lt h.lt) (by omega),h3⟩
theorem took_ok (g k n c:Nat) (A:Option Addr) (z:Int) (w:World) (hB:Blk w g 156 #[.slice A n c,.int .i64 z,.bool false]) (hk:k≤n) (h0:0≤z) (hz:z+k≤9223372036854775807):
  Calls Tryz.prog 176 #[.pointer (some ⟨g,0,none⟩),.int .i64 k,.int .i64 0] w fun e w'=>e=.returned (.bool true) ∧
   Blk w' g 156 #[.slice (cutAt 1 A c k) (n - k) (c - k),.int .i64 (z+k),.bool false]∧But g w w':=by
 have hs:=fun W=>run_from (P:=Tryz.prog) W 29 5 1 Tryz.underlying29 size_u8 A n c .i64 k k rfl hk
 have f0:=hB.frozen 0
 have c0:=hB.cell 0
 have f1:=hB.frozen 1
 have c1:=hB.cell 1
 have HB:=Hz_ hB
 clear hB
 go_enter Tryz.func176,Tryz.ntmps176
 go_wp2
 go_region
 go_wp2
 go_ret
 exact⟨rfl,((HB.out.set_ 0 (.slice (cutAt 1 A c k) (n - k) (c - k))).set_ 1 (.int .i64 (z+k))),((But.set_ w (p:=⟨g,0,none⟩) rfl _).trans (But.set_ _ (p:=⟨g,1,none⟩) rfl _)).trans (But.drew _)⟩
theorem took_bad (g:Nat) (v z:Value) (k er:Int) (w:World) (hB:Blk w g 156 #[v,z,.bool false]) (he:er≠0):
  Calls Tryz.prog 176 #[.pointer (some ⟨g,0,none⟩),.int .i64 k,.int .i64 er] w fun e w'=>e=.returned (.bool false) ∧
   Blk w' g 156 #[v,z,.bool true]∧But g w w':=by
 have f2:=hB.frozen 2
 have c2:=hB.cell 2
 have HB:=Hz_ hB
 clear hB
 go_enter Tryz.func176,Tryz.ntmps176
 go_wp2
 go_ret
 exact⟨rfl,HB.out.set_ 2 (.bool true),But.set_ w (p:=⟨g,2,none⟩) rfl _⟩
theorem rdNum_any (g T:Nat) (s:Option (List UInt8)) (w:World) (h:PR w g T s):
  Calls Tryz.prog 124 #[.pointer (some ⟨g,0,none⟩)] w fun e w'=>e=.returned (.int .i64 (numV s))∧PR w' g T (numS s)∧But g w w':=by
 rcases s with _ | l
 ·have h':=h
  obtain⟨A,n,c,k,hB⟩:=h
  have c2:=hB.cell 2
  have H:=Hz_ h'
  clear hB h'
  go_enter Tryz.func124,Tryz.ntmps124
  go_wp2
  go_ret
  exact⟨rfl,H.out,But.refl _ _⟩
 ·obtain⟨A,n,c,hB,hR,hl,hT,hm⟩:=h
  obtain⟨x,k,er,hx⟩:∃x k er,Pk.num l 0 l=(x,k,er):=⟨_,_,_,rfl⟩
  have H1:=Hz_ (number_is hx hl (hR.more (Nat.le_of_lt hB.lt)))
  have c0:=hB.cell 0
  have c2:=hB.cell 2
  unfold maxLen at hm
  by_cases he:er=0
  ·subst he
   obtain⟨b1,b2,b3,b4,b5⟩:=Pk.num_back hx
   have hp:=Wq.pN_some hx
   have hv:numV (some l)=x:=by simp only[numV,hp]
   have hss:numS (some l)=some (l.drop k):=by simp only[numS,hp]
   rw[hv,hss]
   have H2:=Hz_ (took_ok g k n c A ((T - l.length:Nat):Int) w hB (by omega) (by omega) (by omega))
   have HR:=Hz_ (hR.from_ (k:=k) (by omega))
   have HE:=Hz_ (show (((T - l.length:Nat):Int)+k)=((T - (l.drop k).length:Nat):Int) by rw[List.length_drop];omega)
   have HL:=Hz_ (show (l.drop k).length=n - k by rw[List.length_drop];omega)
   have HM:=Hz_ (show (l.drop k).length≤T by rw[List.length_drop];omega)
   clear hR hl hx hp hv hss b1 b2 b3 b4 b5 hT
   go_enter Tryz.func124,Tryz.ntmps124
   go_wp2_with fail
   refine H1.out.mono ?_
   rintro e w1 ⟨rfl,rfl⟩
   go_wp2_with fail
   refine H2.out.mono ?_
   rintro e w2 ⟨rfl,hB2,hb2⟩
   go_wp2
   go_ret
   have h2:=HR.out
   rw[Nat.mul_one,←bv_drop] at h2
   rw[HE.out] at hB2
   exact⟨rfl,⟨_,_,_,hB2,(h2.but hb2 (Nat.le_of_lt hB.lt) (Nat.le_refl _)),HL.out,HM.out,by unfold maxLen;exact hm⟩,hb2⟩
  ·have hp:=Wq.pN_none hx he
   have hv:numV (some l)=0:=by simp only[numV,hp]
   have hss:numS (some l)=none:=by simp only[numS,hp]
   rw[hv,hss]
   have he2:(er:Int)≠0:=by omega
   have hx0:x=0:=by
    rcases Pk.num_err l l 0 with h3 | h3 | h3<;>rw[hx] at h3
    ·exact absurd h3 he
    ·exact(Prod.mk.inj h3).1
    ·exact(Prod.mk.inj h3).1
   subst hx0
   have H2:=Hz_ (took_bad g (.slice A n c) (.int .i64 ((T - l.length:Nat):Int)) k er w hB he2)
   clear hR hl hx hp hv hss hT he he2
   go_enter Tryz.func124,Tryz.ntmps124
   go_wp2_with fail
   refine H1.out.mono ?_
   rintro e w1 ⟨rfl,rfl⟩
   go_wp2_with fail
   refine H2.out.mono ?_
   rintro e w2 ⟨rfl,hB2,hb2⟩
   go_wp2
   go_ret
   exact⟨rfl,⟨_,_,_,_,hB2⟩,hb2⟩
def RR (w:World) (g:Nat) (L:List UInt8):Option (List UInt8)→Prop
 | some l=>∃A n c,Blk w g 97 #[.slice A n c,.int .i64 ((L.length - l.length:Nat):Int),.bool false]∧Rd w g 1 A n c (bv L)∧L.length=n∧l=L.drop (L.length - l.length)∧l.length≤L.length
 | none=>∃A n c k,Blk w g 97 #[.slice A n c,.int .i64 k,.bool true]
theorem rowOf_pR (l:List UInt8) (most:Nat):(∃v k,rowOf l most=(v,k,0)∧k≤l.length∧Wq.pR most l=some (v,l.drop k))∨(∃er,er≠0∧rowOf l most=([],0,er)∧Wq.pR most l=none):=by
 obtain⟨x,k,er,hx⟩:∃x k er,Pk.num l 0 l=(x,k,er):=⟨_,_,_,rfl⟩
 have h0:¬ ((most:Int) < 0):=by omega
 by_cases he:er=0
 ·subst he
  obtain⟨b1,b2,b3,b4,b5⟩:=Pk.num_back hx
  have hp:=Wq.pN_some hx
  by_cases hm:(most:Int) < (x:Int)
  ·refine .inr ⟨4,by omega,rowOf_most h0 hx hm,?_⟩
   unfold Wq.pR;rw[hp];simp only;rw[if_neg (by omega)]
  ·by_cases hs:(l.length:Int) - (k:Int) < (x:Int)
   ·refine .inr ⟨5,by omega,rowOf_short h0 hx hm hs,?_⟩
    unfold Wq.pR;rw[hp];simp only;rw[if_neg (by rw[List.length_drop];omega)]
   ·refine .inl ⟨_,_,rowOf_ok h0 hx hm hs,by omega,?_⟩
    unfold Wq.pR;rw[hp];simp only;rw[if_pos (by rw[List.length_drop];omega),List.drop_drop]
 ·refine .inr ⟨er,he,rowOf_err h0 hx he,?_⟩
  unfold Wq.pR;rw[Wq.pN_none hx he]
def Inv2 (k:Nat) (s:Option (List UInt8)) (acc:List (Int×Int)) (F:Option (List (Int×Int)×List UInt8)):Prop:=match s with
 | none=>F=none
 | some l=>F=match Wq.pP k l with | none=>none | some (v,r)=>some (acc++v,r)
def all2 (l:List UInt8):Option (List (Int×Int)×List UInt8):=match Wq.pN l with | none=>none | some (n,r)=>Wq.pP n r
theorem Inv2.start (l:List UInt8):Inv2 (numV (some l)) (numS (some l)) [] (all2 l):=by
 rcases h:Wq.pN l with _ | ⟨n,r⟩
 ·rw[numS_no h]
  show all2 l=none
  unfold all2;rw[h]
 ·rw[numS_some h,numV_some h]
  show all2 l=match Wq.pP n r with | none=>none | some (v,r)=>some ([]++v,r)
  unfold all2;rw[h]
  simp only[List.nil_append]
  rcases Wq.pP n r with _ | ⟨v,q⟩<;>rfl
theorem Inv2.next {k:Nat} {l:List UInt8} {acc:List (Int×Int)} {F:Option (List (Int×Int)×List UInt8)} (h:Inv2 (k+1) (some l) acc F):
  Inv2 k (numS (numS (some l))) (acc++[((numV (some l):Int),(numV (numS (some l)):Int))]) F:=by
 have h':F=match Wq.pP (k+1) l with | none=>none | some (v,r)=>some (acc++v,r):=h
 rw[Wq.pP] at h'
 rcases h1:Wq.pN l with _ | ⟨a,r⟩
 ·rw[numS_no h1]
  rw[h1] at h'
  exact h'
 ·rw[numS_some h1,numV_some h1]
  rw[h1] at h'
  rcases h2:Wq.pN r with _ | ⟨b,q⟩
  ·rw[numS_no h2]
   simp only[h2] at h'
   exact h'
  ·rw[numS_some h2,numV_some h2]
   simp only[h2] at h'
   show F=match Wq.pP k q with | none=>none | some (v,r)=>some (_++v,r)
   rw[h']
   rcases Wq.pP k q with _ | ⟨v,t⟩
   ·rfl
   ·simp
theorem Inv2.done {l:List UInt8} {acc:List (Int×Int)} {F:Option (List (Int×Int)×List UInt8)} (h:Inv2 0 (some l) acc F):F=some (acc,l):=by
 have:F=some (acc++[],l):=h
 rwa [List.append_nil] at this
def Cap2 (m:Nat) (s:Option (List UInt8)) (N:Nat):Prop:=match s with | none=>m≤N+1 | some l=>m+l.length≤N
theorem numS_cap {s:Option (List UInt8)} {m N:Nat} (h:Cap2 m s N):Cap2 m (numS s) N:=by
 cases s with
 | none=>exact h
 | some l=>
  have h':m+l.length≤N:=h
  rcases h1:Wq.pN l with _ | ⟨a,r⟩
  ·rw[numS_no h1];show m≤N+1;omega
  ·have:=Wq.pN_len h1
   rw[numS_some h1];show m+r.length≤N;omega
theorem numS_cap1 {l:List UInt8} {m N:Nat} (h:Cap2 m (some l) N):Cap2 (m+1) (numS (some l)) N:=by
 have h':m+l.length≤N:=h
 rcases h1:Wq.pN l with _ | ⟨a,r⟩
 ·rw[numS_no h1];show m+1≤N+1;omega
 ·have:=Wq.pN_len h1
  rw[numS_some h1];show m+1+r.length≤N;omega
theorem Cap2.le {s:Option (List UInt8)} {m N:Nat} (h:Cap2 m s N):m≤N+1:=by
 cases s with
 | none=>exact h
 | some l=>have h':m+l.length≤N:=h;omega
def setV (l:List UInt8):List Sn.Sp:=match Wq.pS l with | none=>[] | some (v,_)=>v
def setK (l:List UInt8):Nat:=match Wq.pS l with | none=>0 | some (_,r)=>l.length - r.length
def setE (l:List UInt8):Nat:=match Wq.pS l with | none=>4 | some _=>0
theorem set_no {l:List UInt8} (h:Wq.pS l=none):setV l=[]∧setK l=0∧setE l=4:=by unfold setV setK setE;rw[h];exact⟨rfl,rfl,rfl⟩
theorem set_yes {l r:List UInt8} {v:List Sn.Sp} (h:Wq.pS l=some (v,r)):setV l=v∧setK l=l.length - r.length∧setE l=0:=by unfold setV setK setE;rw[h];exact⟨rfl,rfl,rfl⟩
theorem pS_all {l:List UInt8}:Wq.pS l=match all2 l with | none=>none | some (v,q)=>if Sn.fmS (-2) v=true then some (v,q) else none:=by
 unfold Wq.pS all2
 rcases Wq.pN l with _ | ⟨n,r⟩<;>rfl
theorem endS_ok (g T:Nat) (v:Value) (l:List UInt8) (w:World) (h:PR w g T (some l)):
  Calls Tryz.prog 131 #[.pointer (some ⟨g,0,none⟩),v,.bool true] w fun e w'=>e=.returned (.tuple #[v,.int .i64 ((T - l.length:Nat):Int),.int .i64 0])∧∃n,w'=w.drewN n:=by
 obtain⟨A,n,c,hB,hq⟩:=h
 have c1:=hB.cell 1
 have c2:=hB.cell 2
 clear hB hq
 go_enter Tryz.func131,Tryz.ntmps131
 go_wp2
 go_quiet (fail)
 go_wp2
 go_ret3
 exact⟨rfl,_,rfl⟩
theorem endS_bad (g T:Nat) (v:Value) (f:Bool) (s:Option (List UInt8)) (w:World) (h:PR w g T s) (hs:s=none∨f=false):
  Calls Tryz.prog 131 #[.pointer (some ⟨g,0,none⟩),v,.bool f] w fun e w'=>e=.returned (.tuple #[.slice none 0 0,.int .i64 0,.int .i64 4])∧PR w' g T none∧But g w w':=by
 rcases s with _ | l
 ·obtain⟨A,n,c,k,hB⟩:=h
  have c2:=hB.cell 2
  have f2:=hB.frozen 2
  have HB:=Hz_ hB
  clear hB hs
  go_enter Tryz.func131,Tryz.ntmps131
  go_wp2
  go_ret3
  exact⟨rfl,⟨A,n,c,k,HB.out.set_ 2 (.bool true)⟩,But.set_ w (p:=⟨g,2,none⟩) rfl _⟩
 ·obtain rfl:f=false:=by
   rcases hs with h | h
   ·cases h
   ·exact h
  obtain⟨A,n,c,hB,_⟩:=h
  have c2:=hB.cell 2
  have f2:=hB.frozen 2
  have HB:=Hz_ hB
  clear hB hs
  go_enter Tryz.func131,Tryz.ntmps131
  go_wp2
  go_ret3
  exact⟨rfl,⟨A,n,c,_,HB.out.set_ 2 (.bool true)⟩,But.set_ w (p:=⟨g,2,none⟩) rfl _⟩
theorem wireSet_any (A:Option Addr) (n c:Nat) (l:List UInt8) (w:World) (hl:l.length=n) (hR:Rd w w.heap.size 1 A n c (bv l)) (hn:n≤4294967296):
  Calls Tryz.prog 54 #[.slice A n c] w fun e w'=>∃A' c',e=.returned (.tuple #[.slice A' (setV l).length c',.int .i64 (setK l),.int .i64 (setE l)]) ∧
   w'.ownsRow w.heap.size 63 2 (.slice A' (setV l).length c') (setV l).length (sv (setV l))∧Below w.heap.size w w':=by
 obtain⟨i0,hi0,hz0,hz1,hz2⟩:=info_parts span_info
 have hP0:PR (w.alloc (.cells #[.slice A n c,.int .i64 0,.bool false] 156)) w.heap.size n (some l):=by
  refine⟨A,n,c,?_,hR.alloc (Nat.le_refl _) _,hl,by omega,by have:=hR.cap;have:=hR.max;omega⟩
  rw[hl,Nat.sub_self]
  exact Blk.new w _ _
 have hb0:Below w.heap.size w (w.alloc (.cells #[.slice A n c,.int .i64 0,.bool false] 156)):=(Below.refl _ _).alloc (Nat.le_refl _) _
 obtain⟨w0,hw0⟩:∃w0,w0=w.alloc (.cells #[.slice A n c,.int .i64 0,.bool false] 156):=⟨_,rfl⟩
 rw[←hw0] at hP0 hb0
 have HW:=Hz_ hw0.symm
 have HL:=Hz_ hl
 have hcap:=Hz_ (show Cap2 0 (numS (some l)) n from numS_cap (show 0+l.length≤n by omega))
 have hinv:=Hz_ (Inv2.start l)
 have hk0:=numV_lt (some l)
 obtain⟨k0,hk0e⟩:∃k0,k0=numV (some l):=⟨_,rfl⟩
 have H1:=Hz_ fun (W:World) (s:Option (List UInt8)) (h:PR W w.heap.size n s)=>rdNum_any w.heap.size n s W h
 have H10:=H1.out w0 (some l) hP0
 rw[←hk0e] at H10 hk0 hinv
 have H0:=Hz_ H10
 clear H10 hk0e hl hR hw0
 go_enter Tryz.func54,Tryz.ntmps54
 go_wp2_with fail
 rw[HW.out]
 refine H0.out.mono ?_
 rintro e w1 ⟨rfl,hP1,hu1⟩
 have hs0:=hP0.lt
 have hs1:=hu1.size
 have hb1:=below_but hb0 hu1 (by omega) (Nat.le_refl _)
 clear H0 hu1 hP0 hb0
 go_wp2_with fail
 go_loopw [6,7,8] (fun v6 v7 _ wr=>∃(k m c':Nat) (A':Option Addr) (s:Option (List UInt8)) (acc:List (Int×Int)),v7=.int .i64 k∧v6=.slice A' m c'∧k≤k0∧PR wr w.heap.size n s∧Below w.heap.size w wr ∧
  wr.ownsRow (w.heap.size+1) 63 2 (.slice A' m c') m (sv acc)∧Hid (acc.length=m)∧Hid (Cap2 m s n)∧Hid (Inv2 k s acc (all2 l))) (fun _ v7 _ _=>(intOf v7).toNat)
 case atStart=>exact⟨k0,0,0,none,_,[],rfl,rfl,Nat.le_refl _,hP1,hb1,World.ownsRow_nil _ _ _ _,rfl,hcap,hinv⟩
 case round=>
  obtain⟨k,m,c',A',s,acc,rfl,rfl,hk,hP,hb,ho,hacc,hca,hin⟩:=hrel
  have hlt:=hP.lt
  have HP:=Hz_ hP
  have HO:=Hz_ ho
  clear hP ho
  by_cases hgo:0 < k∧s≠none
  ·obtain⟨hk1,hs⟩:=hgo
   obtain⟨l1,rfl⟩:∃l1,s=some l1:=by
    cases s with
    | none=>exact absurd rfl hs
    | some l1=>exact⟨l1,rfl⟩
   obtain⟨Ar,nr,cr,hBr,hqr⟩:=HP.out
   have c2:=hBr.cell 2
   clear hBr hqr hs
   obtain⟨lo,hlo⟩:∃lo,lo=numV (some l1):=⟨_,rfl⟩
   obtain⟨s1,hs1⟩:∃s1,s1=numS (some l1):=⟨_,rfl⟩
   obtain⟨hi,hhi⟩:∃hi,hi=numV s1:=⟨_,rfl⟩
   obtain⟨s2,hs2⟩:∃s2,s2=numS s1:=⟨_,rfl⟩
   have hcap1:m+l1.length≤n:=hca.out
   have HIN:=Hz_ (show Inv2 (k - 1) s2 (acc++[((lo:Int),(hi:Int))]) (all2 l) by
    have h:=hin.out
    rw[show k=(k - 1)+1 by omega] at h
    rw[hs2,hlo,hhi,hs1]
    exact h.next)
   have HCA:=Hz_ (show Cap2 (m+1) s2 n by rw[hs2];exact numS_cap (by rw[hs1];exact numS_cap1 hca.out))
   have C1:=H1.out wr (some l1) HP.out
   rw[←hlo,←hs1] at C1
   have C2:=H1.out
   have G1:=Hz_ C1
   have G2:=Hz_ fun (W:World) (h:PR W w.heap.size n s1)=>H1.out W s1 h
   rw[←hhi,←hs2] at G2
   have h63:m+1≤maxLen:=by unfold maxLen;omega
   have h1max:1≤maxLen:=by unfold maxLen;omega
   have hbs:=hb.size
   have hm32:m≤4294967296:=by omega
   clear C1 C2 hlo hs1 hhi hs2 hin hca hcap1
   go_wp2_with fail
   refine G1.out.mono ?_
   rintro e w2 ⟨rfl,hP2,hu2⟩
   have hs2:=hu2.size
   go_wp2_with fail
   refine(G2.out w2 hP2).mono ?_
   rintro e w3 ⟨rfl,hP3,hu3⟩
   have hs3:=hu3.size
   have ho3:=own_but (own_but HO.out hu2 (by omega)) hu3 (by omega)
   have hb3:=below_but (below_but hb hu2 (by omega) (Nat.le_refl _)) hu3 (by omega) (Nat.le_refl _)
   clear hu2 hu3 hP2 HO hb HP c2 G1 G2
   go_wp2_with (at_builtin;go_must (refine wpList_append_rd _ rfl (.tmp 27) (.tmp 32) _ rfl (w.heap.size+1) 63 i0 _ 2 16 Tryz.underlying23 hi0 hz0 hz1 hz2 rfl (by decide) (.slice A' m c') m _ rfl (ho3.alloc _) (w3.heap.size+1) (some ⟨w3.heap.size,0,none⟩) 1 1 [.int .i64 (lo:Int),.int .i64 (hi:Int)] rfl (Rd.new w3 _ 2 1 #[.int .i64 (lo:Int),.int .i64 (hi:Int)] rfl h1max) (sv_oneCell [((lo:Int),(hi:Int))]) h63 (by omega) (by simp;omega) ?_);intro A3 c3 w4 ho4 hg4 hat4)
   have hbg:Below (w.heap.size+1) w3 w4:=((Below.refl _ _).alloc (by omega) _).trans (grown_below hg4 (by simp;omega) (fun g hg=>own_lt ho3 g hg))
   go_roundw
   case rel=>
    exact⟨k - 1,m+1,c3,A3,s2,acc++[((lo:Int),(hi:Int))],by rw[show ((k:Int) - 1)=((k - 1:Nat):Int) by omega],rfl,by omega,hP3.below hbg (by omega),hb3.trans (hbg.mono (by omega)),by rw[sv_app];exact ho4,
     by show _=_;rw[List.length_append,hacc.out];rfl,HCA,HIN⟩
   case measure=>simp[intOf];omega
  ·have HF:=Hz_ fun (W:World) (hR:Rd W W.heap.size 2 A' m c' (sv acc))=>formedS_any A' m c' acc W hacc.out hR
   have hbs:=hb.size
   rcases s with _ | r
   ·have hpS:Wq.pS l=none:=by
     have h:all2 l=none:=hin.out
     rw[pS_all,h]
    have HE:=Hz_ (set_no hpS)
    obtain⟨Ar,nr,cr,kr,hBr⟩:=HP.out
    have c2:=hBr.cell 2
    clear hBr hpS hgo hinv hcap
    by_cases hk0:0 < k
    all_goals
     go_wp2_with fail
     refine(HF.out wr (Rd.of_own HO.out)).mono ?_
     rintro e w5 ⟨rfl,hb5⟩
     go_wp2_with fail
     refine(endS_bad w.heap.size n (.slice A' m c') (Sn.fmS (-2) acc) none w5 (HP.out.go hb5) (.inl rfl)).mono ?_
     rintro e w6 ⟨rfl,hP6,hu6⟩
     go_wp2
     go_ret3
     obtain⟨e1,e2,e3⟩:=HE.out
     rw[e1,e2,e3]
     exact⟨none,0,rfl,World.ownsRow_nil _ _ _ _,below_but (btn hb hb5) hu6 (by have:=hb5.size;omega) (Nat.le_refl _)⟩
   ·obtain rfl:k=0:=by
     rcases Nat.eq_zero_or_pos k with h | h
     ·exact h
     ·exact absurd ⟨h,by simp⟩ hgo
    have hF:=hin.out.done
    obtain⟨Ar,nr,cr,hBr,hqr⟩:=HP.out
    have c2:=hBr.cell 2
    by_cases hf:Sn.fmS (-2) acc=true
    ·have hpS:Wq.pS l=some (acc,r):=by rw[pS_all,hF];simp only;rw[if_pos hf]
     have HE:=Hz_ (set_yes hpS)
     have HA:=Hz_ hacc.out
     rw[hf] at HF
     clear hBr hqr hpS hgo hinv hcap hF hf
     go_wp2_with fail
     refine(HF.out wr (Rd.of_own HO.out)).mono ?_
     rintro e w5 ⟨rfl,hb5⟩
     have ho5:=own_below HO.out hb5 (Nat.le_refl _)
     go_wp2_with fail
     refine(endS_ok w.heap.size n (.slice A' m c') r w5 (HP.out.go hb5)).mono ?_
     rintro e w6 ⟨rfl,n6,rfl⟩
     go_wp2
     go_ret3
     obtain⟨e1,e2,e3⟩:=HE.out
     rw[e1,e2,e3,HL.out,HA.out]
     exact⟨A',c',rfl,own_less (own_drewN ho5 n6) (by omega),below_drewN (btn hb hb5) n6⟩
    ·have hf':Sn.fmS (-2) acc=false:=by simpa using hf
     have hpS:Wq.pS l=none:=by rw[pS_all,hF];simp only;rw[if_neg hf]
     have HE:=Hz_ (set_no hpS)
     rw[hf'] at HF
     clear hBr hqr hpS hgo hinv hcap hF hf hf'
     go_wp2_with fail
     refine(HF.out wr (Rd.of_own HO.out)).mono ?_
     rintro e w5 ⟨rfl,hb5⟩
     go_wp2_with fail
     refine(endS_bad w.heap.size n (.slice A' m c') false (some r) w5 (HP.out.go hb5) (.inr rfl)).mono ?_
     rintro e w6 ⟨rfl,hP6,hu6⟩
     go_wp2
     go_ret3
     obtain⟨e1,e2,e3⟩:=HE.out
     rw[e1,e2,e3]
     exact⟨none,0,rfl,World.ownsRow_nil _ _ _ _,below_but (btn hb hb5) hu6 (by have:=hb5.size;omega) (Nat.le_refl _)⟩
end Go.Proofs.YtmbeahbgafkjfaaGreatDoor
namespace Go.Proofs.YtmbeahbgafkjfaaGreatDoor.Wq
def lL (v:List Nt):List UInt8:=v.flatMap lNt
structure Ms where
 k:Int
 f:Int
 t:Int
 n:Int
 q:Int
 i:List Sn.Sp
 v:List Vc.St
 l:List Nt
 b:Bd
def bd0:Bd:=⟨0,(0,0),[]⟩
def lK (m:Ms):List UInt8:=
 if m.k=1 then Pk.lay m.n.toNat++(lS m.i++lV m.v)
 else if m.k=3 then Pk.lay m.n.toNat++(Pk.lay m.q.toNat++(Pk.lay m.l.length++lL m.l))
 else if m.k=4 then Pk.lay m.b.o.toNat
 else if m.k=5 then lB m.b
 else []
def enc (m:Ms):List UInt8:=Pk.lay m.k.toNat++(Pk.lay m.f.toNat++(Pk.lay m.t.toNat++lK m))
end Go.Proofs.YtmbeahbgafkjfaaGreatDoor.Wq
namespace Go.Proofs.YtmbeahbgafkjfaaGreatDoor.Wq
def st {α:Type} (p:List UInt8→Option (α×List UInt8)):Option (List UInt8)→Option (List UInt8)
 | none=>none
 | some l=>match p l with | none=>none | some (_,r)=>some r
def vl {α:Type} (p:List UInt8→Option (α×List UInt8)) (d:α):Option (List UInt8)→α
 | none=>d
 | some l=>match p l with | none=>d | some (v,_)=>v
def InvW (k:Nat) (s:Option (List UInt8)) (acc:List Wr) (F:Option (List Wr×List UInt8)):Prop:=match s with
 | none=>F=none
 | some l=>F=match pW k l with | none=>none | some (v,r)=>some (acc++v,r)
def stW (s:Option (List UInt8)) (g:Nat):Option (List UInt8):=if 1 < g then none else s
theorem InvW.next {k:Nat} {l:List UInt8} {acc:List Wr} {F:Option (List Wr×List UInt8)} (h:InvW (k+1) (some l) acc F):
  InvW k (stW (st pN (st pN (st pN (st pN (some l))))) (vl pN 0 (st pN (st pN (st pN (some l)))))) (acc++[((((vl pN 0 (st pN (st pN (some l))):Nat):Int),((vl pN 0 (st pN (some l)):Nat):Int)),((vl pN 0 (some l):Nat):Int),decide (vl pN 0 (st pN (st pN (st pN (some l))))=1))]) F:=by
 have h':F=match pW (k+1) l with | none=>none | some (v,r)=>some (acc++v,r):=h
 rw[pW] at h'
 have none_:∀g,stW none g=none:=fun g=>by unfold stW;split<;>rfl
 rcases h1:pN l with _ | ⟨o,r1⟩
 ·simp only[st,h1,none_]
  rw[h1] at h'
  exact h'
 ·rw[h1] at h'
  rcases h2:pN r1 with _ | ⟨a,r2⟩
  ·simp only[st,h1,h2,none_]
   simp only[h2] at h'
   exact h'
  ·simp only[h2] at h'
   rcases h3:pN r2 with _ | ⟨b,r3⟩
   ·simp only[st,h1,h2,h3,none_]
    simp only[h3] at h'
    exact h'
   ·simp only[h3] at h'
    rcases h4:pN r3 with _ | ⟨g,r4⟩
    ·simp only[st,h1,h2,h3,h4,none_]
     simp only[h4] at h'
     exact h'
    ·simp only[h4] at h'
     simp only[st,vl,h1,h2,h3,h4]
     unfold stW
     by_cases hg:1 < g
     ·rw[if_pos hg] at h' ⊢
      exact h'
     ·rw[if_neg hg] at h' ⊢
      show F=match pW k r4 with | none=>none | some (v,r)=>some ((acc++[(((b:Int),(a:Int)),(o:Int),decide (g=1))])++v,r)
      rw[h']
      rcases pW k r4 with _ | ⟨v,t⟩
      ·rfl
      ·simp
theorem InvW.done {l:List UInt8} {acc:List Wr} {F:Option (List Wr×List UInt8)} (h:InvW 0 (some l) acc F):F=some (acc,l):=by
 have:F=some (acc++[],l):=h
 rwa [List.append_nil] at this
def allW:Option (List UInt8)→Option (List Wr×List UInt8)
 | none=>none
 | some l=>match pN l with | none=>none | some (n,r)=>pW n r
theorem InvW.start (s:Option (List UInt8)):InvW (vl pN 0 s) (st pN s) [] (allW s):=by
 rcases s with _ | l
 ·exact rfl
 ·rcases h:pN l with _ | ⟨n,r⟩
  ·simp only[st,vl,allW,h];exact rfl
  ·simp only[st,vl,allW,h]
   show pW n r=match pW n r with | none=>none | some (v,q)=>some ([]++v,q)
   rcases pW n r with _ | ⟨v,q⟩<;>rfl
theorem pNt_all (l:List UInt8):pNt l=match allW (st pS (st pV (st pV (some l)))) with
  | none=>none
  | some (w,r)=>if ntF ⟨vl pV [] (some l),vl pV [] (st pV (some l)),vl pS [] (st pV (st pV (some l))),w⟩=true then some (⟨vl pV [] (some l),vl pV [] (st pV (some l)),vl pS [] (st pV (st pV (some l))),w⟩,r) else none:=by
 unfold pNt
 rcases h1:pV l with _ | ⟨s,r1⟩
 ·simp only[st,allW,h1]
 ·rcases h2:pV r1 with _ | ⟨e,r2⟩
  ·simp only[st,allW,h1,h2]
  ·rcases h3:pS r2 with _ | ⟨b,r3⟩
   ·simp only[st,allW,h1,h2,h3]
   ·rcases h4:pN r3 with _ | ⟨n,r4⟩
    ·simp only[st,allW,h1,h2,h3,h4]
    ·rcases h5:pW n r4 with _ | ⟨w,r5⟩
     ·simp only[st,allW,h1,h2,h3,h4,h5]
     ·simp only[st,vl,allW,h1,h2,h3,h4,h5]
theorem pB_all (l:List UInt8):pB l=match st (pR 256) (st pN (st pN (st pN (some l)))) with
  | none=>none
  | some r=>if bdF ⟨(vl pN 0 (some l):Nat),((vl pN 0 (st pN (st pN (some l))):Nat),(vl pN 0 (st pN (some l)):Nat)),vl (pR 256) [] (st pN (st pN (st pN (some l))))⟩=true then some (⟨(vl pN 0 (some l):Nat),((vl pN 0 (st pN (st pN (some l))):Nat),(vl pN 0 (st pN (some l)):Nat)),vl (pR 256) [] (st pN (st pN (st pN (some l))))⟩,r) else none:=by
 unfold pB
 rcases h1:pN l with _ | ⟨o,r1⟩
 ·simp only[st,h1]
 ·rcases h2:pN r1 with _ | ⟨a,r2⟩
  ·simp only[st,h1,h2]
  ·rcases h3:pN r2 with _ | ⟨b,r3⟩
   ·simp only[st,h1,h2,h3]
   ·rcases h4:pR 256 r3 with _ | ⟨v,r4⟩
    ·simp only[st,h1,h2,h3,h4]
    ·simp only[st,vl,h1,h2,h3,h4]
end Go.Proofs.YtmbeahbgafkjfaaGreatDoor.Wq
