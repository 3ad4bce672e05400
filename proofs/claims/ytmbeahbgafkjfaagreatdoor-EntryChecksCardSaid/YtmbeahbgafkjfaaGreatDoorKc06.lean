/- Lemmas for the claim, layer 6. -/
import Derived.Test.YtmbeahbgafkjfaaGreatDoorKc05
set_option maxRecDepth 100000
set_option maxHeartbeats 16000000
namespace Go.Proofs.YtmbeahbgafkjfaaGreatDoor
open Go.RowKit
def Inv2 (k:Nat) (s:Option (List UInt8)) (acc:List (Int×Int)) (F:Option (List (Int×Int)×List UInt8)):Prop:=match s with
 | none=>F=none
 | some l=>F=match Wq.pP k l with | none=>none | some (v,r)=>some (acc++v,r)
def all2 (l:List UInt8):Option (List (Int×Int)×List UInt8):=match Wq.pN l with | none=>none | some (n,r)=>Wq.pP n r
theorem Inv2.start (l:List UInt8):Inv2 (numV (some l)) (numS (some l)) [] (all2 l):=by
 rcases h:Wq.pN l with _ | ⟨n,r⟩
 ·rw[numS_no h];show all2 l=none;unfold all2;rw[h]
 ·rw[numS_some h,numV_some h];show all2 l=match Wq.pP n r with | none=>none | some (v,r)=>some ([]++v,r)
  unfold all2;rw[h];simp only[List.nil_append];rcases Wq.pP n r with _ | ⟨v,q⟩<;>rfl
theorem Inv2.next {k:Nat} {l:List UInt8} {acc:List (Int×Int)} {F:Option (List (Int×Int)×List UInt8)} (h:Inv2 (k+1) (some l) acc F):
  Inv2 k (numS (numS (some l))) (acc++[((numV (some l):Int),(numV (numS (some l)):Int))]) F:=by
 have h':F=match Wq.pP (k+1) l with | none=>none | some (v,r)=>some (acc++v,r):=h
 rw[Wq.pP] at h';rcases h1:Wq.pN l with _ | ⟨a,r⟩
 ·rw[numS_no h1];rw[h1] at h';exact h'
 ·rw[numS_some h1,numV_some h1];rw[h1] at h';rcases h2:Wq.pN r with _ | ⟨b,q⟩
  ·rw[numS_no h2];simp only[h2] at h';exact h'
  ·rw[numS_some h2,numV_some h2];simp only[h2] at h';show F=match Wq.pP k q with | none=>none | some (v,r)=>some (_++v,r)
   rw[h'];rcases Wq.pP k q with _ | ⟨v,t⟩
   ·rfl
   ·simp
theorem Inv2.done {l:List UInt8} {acc:List (Int×Int)} {F:Option (List (Int×Int)×List UInt8)} (h:Inv2 0 (some l) acc F):F=some (acc,l):=by
 have:F=some (acc++[],l):=h
 rwa [List.append_nil] at this
def Cap2 (m:Nat) (s:Option (List UInt8)) (N:Nat):Prop:=match s with | none=>m<=N+1 | some l=>m+l.length<=N
theorem numS_cap {s:Option (List UInt8)} {m N:Nat} (h:Cap2 m s N):Cap2 m (numS s) N:=by
 cases s with
 | none=>exact h
 | some l=>
  have h':m+l.length<=N:=h;rcases h1:Wq.pN l with _ | ⟨a,r⟩
  ·rw[numS_no h1];show m<=N+1;omega
  ·have:=Wq.pN_len h1;rw[numS_some h1];show m+r.length<=N;omega
theorem numS_cap1 {l:List UInt8} {m N:Nat} (h:Cap2 m (some l) N):Cap2 (m+1) (numS (some l)) N:=by
 have h':m+l.length<=N:=h;rcases h1:Wq.pN l with _ | ⟨a,r⟩
 ·rw[numS_no h1];show m+1<=N+1;omega
 ·have:=Wq.pN_len h1;rw[numS_some h1];show m+1+r.length<=N;omega
def setV (l:List UInt8):List Sn.Sp:=match Wq.pS l with | none=>[] | some (v,_)=>v
def setK (l:List UInt8):Nat:=match Wq.pS l with | none=>0 | some (_,r)=>l.length - r.length
def setE (l:List UInt8):Nat:=match Wq.pS l with | none=>4 | some _=>0
theorem set_no {l:List UInt8} (h:Wq.pS l=none):setV l=[]/\setK l=0/\setE l=4:=by unfold setV setK setE;rw[h];exact⟨rfl,rfl,rfl⟩
theorem set_yes {l r:List UInt8} {v:List Sn.Sp} (h:Wq.pS l=some (v,r)):setV l=v/\setK l=l.length - r.length/\setE l=0:=by unfold setV setK setE;rw[h];exact⟨rfl,rfl,rfl⟩
theorem pS_all {l:List UInt8}:Wq.pS l=match all2 l with | none=>none | some (v,q)=>if Sn.fmS (-2) v=true then some (v,q) else none:=by
 unfold Wq.pS all2;rcases Wq.pN l with _ | ⟨n,r⟩<;>rfl
theorem endS_ok (g T:Nat) (v:Value) (l:List UInt8) (w:World) (h:PR w g T (some l)):
  Calls Tryz.prog 131 #[.pointer (some ⟨g,0,none⟩),v,.bool true] w fun e w'=>e=.returned (.tuple #[v,.int .i64 ((T - l.length:Nat):Int),.int .i64 0])/\∃n,w'=w.drewN n:=by
 obtain⟨A,n,c,hB,hq⟩:=h;have c1:=hB.cell 1;have c2:=hB.cell 2;clear hB hq;go_enter Tryz.func131,Tryz.ntmps131;go_wp2;go_quiet (fail);go_wp2;go_ret3;exact⟨rfl,_,rfl⟩
theorem endS_bad (g T:Nat) (v:Value) (f:Bool) (s:Option (List UInt8)) (w:World) (h:PR w g T s) (hs:s=none\/f=false):
  Calls Tryz.prog 131 #[.pointer (some ⟨g,0,none⟩),v,.bool f] w fun e w'=>e=.returned (.tuple #[.slice none 0 0,.int .i64 0,.int .i64 4])/\PR w' g T none/\But g w w':=by
 rcases s with _ | l
 ·obtain⟨A,n,c,k,hB⟩:=h;have c2:=hB.cell 2;have f2:=hB.frozen 2;have HB:=Hz_ hB;clear hB hs;go_enter Tryz.func131,Tryz.ntmps131;go_wp2;go_ret3;exact⟨rfl,⟨A,n,c,k,HB.out.set_ 2 (.bool true)⟩,But.set_ w (p:=⟨g,2,none⟩) rfl _⟩
 ·obtain rfl:f=false:=by
   rcases hs with h | h
   ·cases h
   ·exact h
  obtain⟨A,n,c,hB,_⟩:=h;have c2:=hB.cell 2;have f2:=hB.frozen 2;have HB:=Hz_ hB;clear hB hs;go_enter Tryz.func131,Tryz.ntmps131;go_wp2;go_ret3;exact⟨rfl,⟨A,n,c,_,HB.out.set_ 2 (.bool true)⟩,But.set_ w (p:=⟨g,2,none⟩) rfl _⟩
theorem wireSet_any (A:Option Addr) (n c:Nat) (l:List UInt8) (w:World) (hl:l.length=n) (hR:Rd w w.heap.size 1 A n c (bv l)) (hn:n<=4294967296):
  Calls Tryz.prog 54 #[.slice A n c] w fun e w'=>∃A' c',e=.returned (.tuple #[.slice A' (setV l).length c',.int .i64 (setK l),.int .i64 (setE l)]) /\
   w'.ownsRow w.heap.size 63 2 (.slice A' (setV l).length c') (setV l).length (sv (setV l))/\Below w.heap.size w w':=by
 obtain⟨i0,hi0,hz0,hz1,hz2⟩:=info_parts span_info;have hP0:PR (w.alloc (.cells #[.slice A n c,.int .i64 0,.bool false] 156)) w.heap.size n (some l):=by
  refine⟨A,n,c,?_,hR.alloc Zl _,hl,by omega,by have:=hR.cap;have:=hR.max;omega⟩;rw[hl,Nat.sub_self];exact Blk.new w _ _
 have hb0:Below w.heap.size w (w.alloc (.cells #[.slice A n c,.int .i64 0,.bool false] 156)):=Zr.alloc Zl _;obtain⟨w0,hw0⟩:∃w0,w0=w.alloc (.cells #[.slice A n c,.int .i64 0,.bool false] 156):=⟨_,rfl⟩;rw[<-hw0] at hP0 hb0;have HW:=Hz_ hw0.symm;have HL:=Hz_ hl;have hcap:=Hz_ (show Cap2 0 (numS (some l)) n from numS_cap (show 0+l.length<=n by omega));have hinv:=Hz_ (Inv2.start l);have hk0:=numV_lt (some l);obtain⟨k0,hk0e⟩:∃k0,k0=numV (some l):=⟨_,rfl⟩;have H1:=Hz_ fun (W:World) (s:Option (List UInt8)) (h:PR W w.heap.size n s)=>rdNum_any w.heap.size n s W h;have H10:=H1.out w0 (some l) hP0;rw[<-hk0e] at H10 hk0 hinv;have H0:=Hz_ H10;clear H10 hk0e hl hR hw0;go_enter Tryz.func54,Tryz.ntmps54;go_wp2_with fail;rw[HW.out];refine H0.out.mono ?_;rintro e w1 ⟨rfl,hP1,hu1⟩;have hs0:=hP0.lt;have hs1:=hu1.size;have hb1:=below_but hb0 hu1 (by omega) Zl;clear H0 hu1 hP0 hb0;go_wp2_with fail;go_loopw [6,7,8] (fun v6 v7 _ wr=>∃(k m c':Nat) (A':Option Addr) (s:Option (List UInt8)) (acc:List (Int×Int)),v7=.int .i64 k/\v6=.slice A' m c'/\k<=k0/\PR wr w.heap.size n s/\Below w.heap.size w wr /\
  wr.ownsRow (w.heap.size+1) 63 2 (.slice A' m c') m (sv acc)/\Hid (acc.length=m)/\Hid (Cap2 m s n)/\Hid (Inv2 k s acc (all2 l))) (fun _ v7 _ _=>(intOf v7).toNat)
 case atStart=>exact⟨k0,0,0,none,_,[],rfl,rfl,Nat.le_refl _,hP1,hb1,World.ownsRow_nil _ _ _ _,rfl,hcap,hinv⟩
 case round=>
  obtain⟨k,m,c',A',s,acc,rfl,rfl,hk,hP,hb,ho,hacc,hca,hin⟩:=hrel;have hlt:=hP.lt;have HP:=Hz_ hP;have HO:=Hz_ ho;clear hP ho;by_cases hgo:0 < k/\s≠none
  ·obtain⟨hk1,hs⟩:=hgo;obtain⟨l1,rfl⟩:∃l1,s=some l1:=by
    cases s with
    | none=>exact absurd rfl hs
    | some l1=>exact⟨l1,rfl⟩
   obtain⟨Ar,nr,cr,hBr,hqr⟩:=HP.out;have c2:=hBr.cell 2;clear hBr hqr hs;obtain⟨lo,hlo⟩:∃lo,lo=numV (some l1):=⟨_,rfl⟩;obtain⟨s1,hs1⟩:∃s1,s1=numS (some l1):=⟨_,rfl⟩;obtain⟨hi,hhi⟩:∃hi,hi=numV s1:=⟨_,rfl⟩;obtain⟨s2,hs2⟩:∃s2,s2=numS s1:=⟨_,rfl⟩;have hcap1:m+l1.length<=n:=hca.out;have HIN:=Hz_ (show Inv2 (k - 1) s2 (acc++[((lo:Int),(hi:Int))]) (all2 l) by
    have h:=hin.out;rw[show k=(k - 1)+1 by omega] at h;rw[hs2,hlo,hhi,hs1];exact h.next)
   have HCA:=Hz_ (show Cap2 (m+1) s2 n by rw[hs2];exact numS_cap (by rw[hs1];exact numS_cap1 hca.out));have C1:=H1.out wr (some l1) HP.out;rw[<-hlo,<-hs1] at C1;have C2:=H1.out;have G1:=Hz_ C1;have G2:=Hz_ fun (W:World) (h:PR W w.heap.size n s1)=>H1.out W s1 h;rw[<-hhi,<-hs2] at G2;have h63:m+1<=maxLen:=by unfold maxLen;omega
   have h1max:1<=maxLen:=by unfold maxLen;omega
   have hbs:=hb.size;have hm32:m<=4294967296:=by omega
   clear C1 C2 hlo hs1 hhi hs2 hin hca hcap1;go_wp2_with fail;refine G1.out.mono ?_;rintro e w2 ⟨rfl,hP2,hu2⟩;have hs2:=hu2.size;go_wp2_with fail;refine(G2.out w2 hP2).mono ?_;rintro e w3 ⟨rfl,hP3,hu3⟩;have hs3:=hu3.size;have ho3:=own_but (own_but HO.out hu2 (by omega)) hu3 (by omega);have hb3:=below_but (below_but hb hu2 (by omega) Zl) hu3 (by omega) Zl;clear hu2 hu3 hP2 HO hb HP c2 G1 G2;go_wp2_with (at_builtin;go_must (refine wpList_append_rd _ rfl (.tmp 27) (.tmp 32) _ rfl (w.heap.size+1) 63 i0 _ 2 16 Tryz.underlying23 hi0 hz0 hz1 hz2 rfl (by decide) (.slice A' m c') m _ rfl (ho3.alloc _) (w3.heap.size+1) (some ⟨w3.heap.size,0,none⟩) 1 1 [.int .i64 (lo:Int),.int .i64 (hi:Int)] rfl (Rd.new w3 _ 2 1 #[.int .i64 (lo:Int),.int .i64 (hi:Int)] rfl h1max) (sv_oneCell [((lo:Int),(hi:Int))]) h63 (by omega) (by simp;omega) ?_);intro A3 c3 w4 ho4 hg4 hat4);have hbg:Below (w.heap.size+1) w3 w4:=(Zr.alloc (by omega) _).trans (grown_below hg4 (by simp;omega) (fun g hg=>own_lt ho3 g hg));go_roundw
   case rel=>
    exact⟨k - 1,m+1,c3,A3,s2,acc++[((lo:Int),(hi:Int))],by rw[show ((k:Int) - 1)=((k - 1:Nat):Int) by omega],rfl,by omega,hP3.below hbg (by omega),hb3.trans (hbg.mono (by omega)),by rw[sv_app];exact ho4,
     by show _=_;rw[List.length_append,hacc.out];rfl,HCA,HIN⟩
   case measure=>simp[intOf];omega
  ·have HF:=Hz_ fun (W:World) (hR:Rd W W.heap.size 2 A' m c' (sv acc))=>formedS_any A' m c' acc W hacc.out hR;have hbs:=hb.size;rcases s with _ | r
   ·have hpS:Wq.pS l=none:=by
     have h:all2 l=none:=hin.out;rw[pS_all,h]
    have HE:=Hz_ (set_no hpS);obtain⟨Ar,nr,cr,kr,hBr⟩:=HP.out;have c2:=hBr.cell 2;clear hBr hpS hgo hinv hcap;by_cases hk0:0 < k
    all_goals
     go_wp2_with fail;refine(HF.out wr (Rd.of_own HO.out)).mono ?_;rintro e w5 ⟨rfl,hb5⟩;go_wp2_with fail;refine(endS_bad w.heap.size n (.slice A' m c') (Sn.fmS (-2) acc) none w5 (HP.out.go hb5) (.inl rfl)).mono ?_;rintro e w6 ⟨rfl,hP6,hu6⟩;go_wp2;go_ret3;obtain⟨e1,e2,e3⟩:=HE.out;rw[e1,e2,e3];exact⟨none,0,rfl,World.ownsRow_nil _ _ _ _,below_but (btn hb hb5) hu6 (by have:=hb5.size;omega) Zl⟩
   ·obtain rfl:k=0:=by
     rcases Nat.eq_zero_or_pos k with h | h
     ·exact h
     ·exact absurd ⟨h,by simp⟩ hgo
    have hF:=hin.out.done;obtain⟨Ar,nr,cr,hBr,hqr⟩:=HP.out;have c2:=hBr.cell 2;by_cases hf:Sn.fmS (-2) acc=true
    ·have hpS:Wq.pS l=some (acc,r):=by rw[pS_all,hF];simp only;rw[if_pos hf]
     have HE:=Hz_ (set_yes hpS);have HA:=Hz_ hacc.out;rw[hf] at HF;clear hBr hqr hpS hgo hinv hcap hF hf;go_wp2_with fail;refine(HF.out wr (Rd.of_own HO.out)).mono ?_;rintro e w5 ⟨rfl,hb5⟩;have ho5:=own_below HO.out hb5 Zl;go_wp2_with fail;refine(endS_ok w.heap.size n (.slice A' m c') r w5 (HP.out.go hb5)).mono ?_;rintro e w6 ⟨rfl,n6,rfl⟩;go_wp2;go_ret3;obtain⟨e1,e2,e3⟩:=HE.out;rw[e1,e2,e3,HL.out,HA.out];exact⟨A',c',rfl,own_less (own_drewN ho5 n6) (by omega),below_drewN (btn hb hb5) n6⟩
    ·have hf':Sn.fmS (-2) acc=false:=by simpa using hf
     have hpS:Wq.pS l=none:=by rw[pS_all,hF];simp only;rw[if_neg hf]
     have HE:=Hz_ (set_no hpS);rw[hf'] at HF;clear hBr hqr hpS hgo hinv hcap hF hf hf';go_wp2_with fail;refine(HF.out wr (Rd.of_own HO.out)).mono ?_;rintro e w5 ⟨rfl,hb5⟩;go_wp2_with fail;refine(endS_bad w.heap.size n (.slice A' m c') false (some r) w5 (HP.out.go hb5) (.inr rfl)).mono ?_;rintro e w6 ⟨rfl,hP6,hu6⟩;go_wp2;go_ret3;obtain⟨e1,e2,e3⟩:=HE.out;rw[e1,e2,e3];exact⟨none,0,rfl,World.ownsRow_nil _ _ _ _,below_but (btn hb hb5) hu6 (by have:=hb5.size;omega) Zl⟩
end Go.Proofs.YtmbeahbgafkjfaaGreatDoor
namespace Go.Proofs.YtmbeahbgafkjfaaGreatDoor.Wq
def lL (v:List Nt):List UInt8:=v.flatMap lNt
structure Ms where
 k:Int
 f:Int
 t:Int
 n:Int
 q:Int
 i:List Sn.Sp
 v:List Vc.St
 l:List Nt
 b:Bd
def bd0:Bd:=⟨0,(0,0),[]⟩
def lK (m:Ms):List UInt8:=
 if m.k=1 then Pk.lay m.n.toNat++(lS m.i++lV m.v)
 else if m.k=3 then Pk.lay m.n.toNat++(Pk.lay m.q.toNat++(Pk.lay m.l.length++lL m.l))
 else if m.k=4 then Pk.lay m.b.o.toNat
 else if m.k=5 then lB m.b
 else []
def enc (m:Ms):List UInt8:=Pk.lay m.k.toNat++(Pk.lay m.f.toNat++(Pk.lay m.t.toNat++lK m))
end Go.Proofs.YtmbeahbgafkjfaaGreatDoor.Wq
namespace Go.Proofs.YtmbeahbgafkjfaaGreatDoor.Wq
def st {α:Type} (p:List UInt8->Option (α×List UInt8)):Option (List UInt8)->Option (List UInt8)
 | none=>none
 | some l=>match p l with | none=>none | some (_,r)=>some r
def vl {α:Type} (p:List UInt8->Option (α×List UInt8)) (d:α):Option (List UInt8)->α
 | none=>d
 | some l=>match p l with | none=>d | some (v,_)=>v
theorem pB_all (l:List UInt8):pB l=match st (pR 256) (st pN (st pN (st pN (some l)))) with
  | none=>none
  | some r=>if bdF ⟨(vl pN 0 (some l):Nat),((vl pN 0 (st pN (st pN (some l))):Nat),(vl pN 0 (st pN (some l)):Nat)),vl (pR 256) [] (st pN (st pN (st pN (some l))))⟩=true then some (⟨(vl pN 0 (some l):Nat),((vl pN 0 (st pN (st pN (some l))):Nat),(vl pN 0 (st pN (some l)):Nat)),vl (pR 256) [] (st pN (st pN (st pN (some l))))⟩,r) else none:=by
 unfold pB;rcases h1:pN l with _ | ⟨o,r1⟩
 ·simp only[st,h1]
 ·rcases h2:pN r1 with _ | ⟨a,r2⟩
  ·simp only[st,h1,h2]
  ·rcases h3:pN r2 with _ | ⟨b,r3⟩
   ·simp only[st,h1,h2,h3]
   ·rcases h4:pR 256 r3 with _ | ⟨v,r4⟩
    ·simp only[st,h1,h2,h3,h4]
    ·simp only[st,vl,h1,h2,h3,h4]
end Go.Proofs.YtmbeahbgafkjfaaGreatDoor.Wq
namespace Go.Proofs.YtmbeahbgafkjfaaGreatDoor
open Go.RowKit
def gV {α:Type} (p:List UInt8->Option (α×List UInt8)) (d:α) (l:List UInt8):α:=match p l with | none=>d | some (v,_)=>v
def gK {α:Type} (p:List UInt8->Option (α×List UInt8)) (l:List UInt8):Nat:=match p l with | none=>0 | some (_,r)=>l.length - r.length
def gE {α:Type} (p:List UInt8->Option (α×List UInt8)) (l:List UInt8):Nat:=match p l with | none=>4 | some _=>0
theorem g_no {α:Type} {p:List UInt8->Option (α×List UInt8)} {d:α} {l:List UInt8} (h:p l=none):gV p d l=d/\gK p l=0/\gE p l=4:=by unfold gV gK gE;rw[h];exact⟨rfl,rfl,rfl⟩
theorem g_yes {α:Type} {p:List UInt8->Option (α×List UInt8)} {d:α} {l r:List UInt8} {v:α} (h:p l=some (v,r)):gV p d l=v/\gK p l=l.length - r.length/\gE p l=0:=by unfold gV gK gE;rw[h];exact⟨rfl,rfl,rfl⟩
theorem rdStamp_any (g T:Nat) (s:Option (List UInt8)) (w:World) (h:PR w g T s):
  Calls Tryz.prog 125 #[.pointer (some ⟨g,0,none⟩)] w fun e w'=>e=.returned (.agg #[.int .i64 (numV (numS s):Nat),.int .i64 (numV s:Nat)])/\PR w' g T (numS (numS s))/\But g w w':=by
 have hb0:Below w.heap.size w (w.alloc (.cells #[.int .i64 0,.int .i64 0] 28)):=Zr.alloc Zl _;have hlt:=h.lt;have hx:=Blk.new w 28 #[.int .i64 0,.int .i64 0];have G1:=Hz_ (rdNum_any g T s _ (h.go hb0));have G2:=Hz_ fun (W:World) h=>rdNum_any g T (numS s) W h;have HX:=Hz_ hx;have HB:=Hz_ hb0;clear h hx hb0;generalize numV s=a at G1;generalize numV (numS s)=b at G2;go_enter Tryz.func125,Tryz.ntmps125;go_wp2_with (go_at_call 124;first
  | (refine(G2.out _ hP1).mono ?_;rintro e w2 ⟨rfl,hP2,hu2⟩;have hx2:=(HX.out.but hu1 (by omega)).but hu2 (by omega);have f0:=hx2.frozen 0;have f1:=hx2.frozen 1;have c0:=hx2.cell 0;have c1:=hx2.cell 1)
  | (refine G1.out.mono ?_;rintro e w1 ⟨rfl,hP1,hu1⟩))
 have hx3:Blk ((w2.setCell ⟨w.heap.size,0,none⟩ (.int .i64 b)).setCell ⟨w.heap.size,1,none⟩ (.int .i64 a)) w.heap.size 28 #[.int .i64 b,.int .i64 a]:=(hx2.set_ 0 (.int .i64 b)).set_ 1 (.int .i64 a);refine bodyPost_ret (results_cell_row rfl _ _ w.heap.size 28 _ _ _ rfl hx3 Tryz.underlying28 rfl (by kernel_rfl)) rfl ⟨rfl,?_,?_⟩
 ·exact hP2.but ((But.set_ (g:=w.heap.size) w2 (p:=⟨w.heap.size,0,none⟩) rfl _).trans (But.set_ (g:=w.heap.size) _ (p:=⟨w.heap.size,1,none⟩) rfl _)) hlt
 ·exact(((But.of HB.out).trans hu1).trans hu2).below ((Zr.setCell (p:=⟨w.heap.size,0,none⟩) Zl _).setCell (p:=⟨w.heap.size,1,none⟩) Zl _)
theorem pV_all {l:List UInt8}:Wq.pV l=match all2 l with | none=>none | some (v,q)=>if fm (-1) (v.map Wq.sw)=true then some (v.map Wq.sw,q) else none:=by
 unfold Wq.pV all2;rcases Wq.pN l with _ | ⟨n,r⟩<;>rfl
theorem endV_ok (g T:Nat) (v:Value) (l:List UInt8) (w:World) (h:PR w g T (some l)):
  Calls Tryz.prog 177 #[.pointer (some ⟨g,0,none⟩),v,.bool true] w fun e w'=>e=.returned (.tuple #[v,.int .i64 ((T - l.length:Nat):Int),.int .i64 0])/\∃n,w'=w.drewN n:=by
 obtain⟨A,n,c,hB,hq⟩:=h;have c1:=hB.cell 1;have c2:=hB.cell 2;clear hB hq;go_enter Tryz.func177,Tryz.ntmps177;go_wp2;go_quiet (fail);go_wp2;go_ret3;exact⟨rfl,_,rfl⟩
theorem endV_bad (g T:Nat) (v:Value) (f:Bool) (s:Option (List UInt8)) (w:World) (h:PR w g T s) (hs:s=none\/f=false):
  Calls Tryz.prog 177 #[.pointer (some ⟨g,0,none⟩),v,.bool f] w fun e w'=>e=.returned (.tuple #[.slice none 0 0,.int .i64 0,.int .i64 4])/\PR w' g T none/\But g w w':=by
 rcases s with _ | l
 ·obtain⟨A,n,c,k,hB⟩:=h;have c2:=hB.cell 2;have f2:=hB.frozen 2;have HB:=Hz_ hB;clear hB hs;go_enter Tryz.func177,Tryz.ntmps177;go_wp2;go_ret3;exact⟨rfl,⟨A,n,c,k,HB.out.set_ 2 (.bool true)⟩,But.set_ w (p:=⟨g,2,none⟩) rfl _⟩
 ·obtain rfl:f=false:=by
   rcases hs with h | h
   ·cases h
   ·exact h
  obtain⟨A,n,c,hB,_⟩:=h;have c2:=hB.cell 2;have f2:=hB.frozen 2;have HB:=Hz_ hB;clear hB hs;go_enter Tryz.func177,Tryz.ntmps177;go_wp2;go_ret3;exact⟨rfl,⟨A,n,c,_,HB.out.set_ 2 (.bool true)⟩,But.set_ w (p:=⟨g,2,none⟩) rfl _⟩
theorem wireVec_any (A:Option Addr) (n c:Nat) (l:List UInt8) (w:World) (hl:l.length=n) (hR:Rd w w.heap.size 1 A n c (bv l)) (hn:n<=4294967296):
  Calls Tryz.prog 122 #[.slice A n c] w fun e w'=>∃A' c',e=.returned (.tuple #[.slice A' (gV Wq.pV [] l).length c',.int .i64 (gK Wq.pV l),.int .i64 (gE Wq.pV l)]) /\
   w'.ownsRow w.heap.size 28 2 (.slice A' (gV Wq.pV [] l).length c') (gV Wq.pV [] l).length (sv (gV Wq.pV [] l))/\Below w.heap.size w w':=by
 obtain⟨i0,hi0,hz0,hz1,hz2⟩:=info_parts stamp_info;have hP0:PR (w.alloc (.cells #[.slice A n c,.int .i64 0,.bool false] 156)) w.heap.size n (some l):=by
  refine⟨A,n,c,?_,hR.alloc Zl _,hl,by omega,by have:=hR.cap;have:=hR.max;omega⟩;rw[hl,Nat.sub_self];exact Blk.new w _ _
 have hb0:Below w.heap.size w (w.alloc (.cells #[.slice A n c,.int .i64 0,.bool false] 156)):=Zr.alloc Zl _;obtain⟨w0,hw0⟩:∃w0,w0=w.alloc (.cells #[.slice A n c,.int .i64 0,.bool false] 156):=⟨_,rfl⟩;rw[<-hw0] at hP0 hb0;have HW:=Hz_ hw0.symm;have HL:=Hz_ hl;have hcap:=Hz_ (show Cap2 0 (numS (some l)) n from numS_cap (show 0+l.length<=n by omega));have hinv:=Hz_ (Inv2.start l);have hk0:=numV_lt (some l);obtain⟨k0,hk0e⟩:∃k0,k0=numV (some l):=⟨_,rfl⟩;have H1:=Hz_ fun (W:World) (s:Option (List UInt8)) (h:PR W w.heap.size n s)=>rdNum_any w.heap.size n s W h;have H10:=H1.out w0 (some l) hP0;rw[<-hk0e] at H10 hk0 hinv;have H0:=Hz_ H10;clear H10 hk0e hl hR hw0;go_enter Tryz.func122,Tryz.ntmps122;go_wp2_with fail;rw[HW.out];refine H0.out.mono ?_;rintro e w1 ⟨rfl,hP1,hu1⟩;have hs0:=hP0.lt;have hs1:=hu1.size;have hb1:=below_but hb0 hu1 (by omega) Zl;clear H0 hu1 hP0 hb0;go_wp2_with fail;go_loopw [6,7] (fun v6 v7 wr=>∃(k m c':Nat) (A':Option Addr) (s:Option (List UInt8)) (acc:List (Int×Int)),v7=.int .i64 k/\v6=.slice A' m c'/\k<=k0/\PR wr w.heap.size n s/\Below w.heap.size w wr /\
  wr.ownsRow (w.heap.size+1) 28 2 (.slice A' m c') m (sv (acc.map Wq.sw))/\Hid (acc.length=m)/\Hid (Cap2 m s n)/\Hid (Inv2 k s acc (all2 l))) (fun _ v7 _=>(intOf v7).toNat)
 case atStart=>exact⟨k0,0,0,none,_,[],rfl,rfl,Nat.le_refl _,hP1,hb1,World.ownsRow_nil _ _ _ _,rfl,hcap,hinv⟩
 case round=>
  obtain⟨k,m,c',A',s,acc,rfl,rfl,hk,hP,hb,ho,hacc,hca,hin⟩:=hrel;have hlt:=hP.lt;have HP:=Hz_ hP;have HO:=Hz_ ho;clear hP ho;by_cases hgo:0 < k/\s≠none
  ·obtain⟨hk1,hs⟩:=hgo;obtain⟨l1,rfl⟩:∃l1,s=some l1:=by
    cases s with
    | none=>exact absurd rfl hs
    | some l1=>exact⟨l1,rfl⟩
   obtain⟨Ar,nr,cr,hBr,hqr⟩:=HP.out;have c2:=hBr.cell 2;clear hBr hqr hs;obtain⟨lo,hlo⟩:∃lo,lo=numV (some l1):=⟨_,rfl⟩;obtain⟨s1,hs1⟩:∃s1,s1=numS (some l1):=⟨_,rfl⟩;obtain⟨hi,hhi⟩:∃hi,hi=numV s1:=⟨_,rfl⟩;obtain⟨s2,hs2⟩:∃s2,s2=numS s1:=⟨_,rfl⟩;have hcap1:m+l1.length<=n:=hca.out;have HIN:=Hz_ (show Inv2 (k - 1) s2 (acc++[((lo:Int),(hi:Int))]) (all2 l) by
    have h:=hin.out;rw[show k=(k - 1)+1 by omega] at h;rw[hs2,hlo,hhi,hs1];exact h.next)
   have HCA:=Hz_ (show Cap2 (m+1) s2 n by rw[hs2];exact numS_cap (by rw[hs1];exact numS_cap1 hca.out));have C1:=rdStamp_any w.heap.size n (some l1) wr HP.out;rw[<-hlo,<-hs1,<-hhi,<-hs2] at C1;have G1:=Hz_ C1;have h63:m+1<=maxLen:=by unfold maxLen;omega
   have h1max:1<=maxLen:=by unfold maxLen;omega
   have hbs:=hb.size;have hm32:m<=4294967296:=by omega
   clear C1 hlo hs1 hhi hs2 hin hca hcap1;go_wp2_with fail;refine G1.out.mono ?_;rintro e w3 ⟨rfl,hP3,hu3⟩;have hs3:=hu3.size;have ho3:=own_but HO.out hu3 (by omega);have hb3:=below_but hb hu3 (by omega) Zl;clear hu3 HO hb HP c2 G1;go_wp2_with (at_builtin;go_must (refine wpList_append_rd _ rfl (.tmp 24) (.tmp 27) _ rfl (w.heap.size+1) 28 i0 _ 2 16 Tryz.underlying22 hi0 hz0 hz1 hz2 rfl (by decide) (.slice A' m c') m _ rfl (ho3.alloc _) (w3.heap.size+1) (some ⟨w3.heap.size,0,none⟩) 1 1 [.int .i64 (hi:Int),.int .i64 (lo:Int)] rfl (Rd.new w3 _ 2 1 #[.int .i64 (hi:Int),.int .i64 (lo:Int)] rfl h1max) (sv_oneCell [((hi:Int),(lo:Int))]) h63 (by omega) (by simp;omega) ?_);intro A3 c3 w4 ho4 hg4 hat4);have hbg:Below (w.heap.size+1) w3 w4:=(Zr.alloc (by omega) _).trans (grown_below hg4 (by simp;omega) (fun g hg=>own_lt ho3 g hg));go_roundw
   case rel=>
    exact⟨k - 1,m+1,c3,A3,s2,acc++[((lo:Int),(hi:Int))],by rw[show ((k:Int) - 1)=((k - 1:Nat):Int) by omega],rfl,by omega,hP3.below hbg (by omega),hb3.trans (hbg.mono (by omega)),by rw[List.map_append,sv_app];exact ho4,
     by show _=_;rw[List.length_append,hacc.out];rfl,HCA,HIN⟩
   case measure=>simp[intOf];omega
  ·have HF:=Hz_ fun (W:World) (hR:Rd W W.heap.size 2 A' m c' (sv (acc.map Wq.sw)))=>formed_any A' m c' (acc.map Wq.sw) W (by rw[List.length_map];exact hacc.out) hR;have hbs:=hb.size;rcases s with _ | r
   ·have hpS:Wq.pV l=none:=by
     have h:all2 l=none:=hin.out;rw[pV_all,h]
    have HE:=Hz_ (g_no (d:=[]) hpS);obtain⟨Ar,nr,cr,kr,hBr⟩:=HP.out;have c2:=hBr.cell 2;clear hBr hpS hgo hinv hcap;by_cases hk0:0 < k
    all_goals
     go_wp2_with fail;refine(HF.out wr (Rd.of_own HO.out)).mono ?_;rintro e w5 ⟨rfl,hb5⟩;go_wp2_with fail;refine(endV_bad w.heap.size n (.slice A' m c') (fm (-1) (acc.map Wq.sw)) none w5 (HP.out.go hb5) (.inl rfl)).mono ?_;rintro e w6 ⟨rfl,hP6,hu6⟩;go_wp2;go_ret3;obtain⟨e1,e2,e3⟩:=HE.out;rw[e1,e2,e3];exact⟨none,0,rfl,World.ownsRow_nil _ _ _ _,below_but (btn hb hb5) hu6 (by have:=hb5.size;omega) Zl⟩
   ·obtain rfl:k=0:=by
     rcases Nat.eq_zero_or_pos k with h | h
     ·exact h
     ·exact absurd ⟨h,by simp⟩ hgo
    have hF:=hin.out.done;obtain⟨Ar,nr,cr,hBr,hqr⟩:=HP.out;have c2:=hBr.cell 2;by_cases hf:fm (-1) (acc.map Wq.sw)=true
    ·have hpS:Wq.pV l=some (acc.map Wq.sw,r):=by rw[pV_all,hF];simp only;rw[if_pos hf]
     have HE:=Hz_ (g_yes (d:=[]) hpS);have HA:=Hz_ (show (acc.map Wq.sw).length=m by rw[List.length_map];exact hacc.out);rw[hf] at HF;clear hBr hqr hpS hgo hinv hcap hF hf;go_wp2_with fail;refine(HF.out wr (Rd.of_own HO.out)).mono ?_;rintro e w5 ⟨rfl,hb5⟩;have ho5:=own_below HO.out hb5 Zl;go_wp2_with fail;refine(endV_ok w.heap.size n (.slice A' m c') r w5 (HP.out.go hb5)).mono ?_;rintro e w6 ⟨rfl,n6,rfl⟩;go_wp2;go_ret3;obtain⟨e1,e2,e3⟩:=HE.out;rw[e1,e2,e3,HL.out,HA.out];exact⟨A',c',rfl,own_less (own_drewN ho5 n6) (by omega),below_drewN (btn hb hb5) n6⟩
    ·have hf':fm (-1) (acc.map Wq.sw)=false:=by simpa using hf
     have hpS:Wq.pV l=none:=by rw[pV_all,hF];simp only;rw[if_neg hf]
     have HE:=Hz_ (g_no (d:=[]) hpS);rw[hf'] at HF;clear hBr hqr hpS hgo hinv hcap hF hf hf';go_wp2_with fail;refine(HF.out wr (Rd.of_own HO.out)).mono ?_;rintro e w5 ⟨rfl,hb5⟩;go_wp2_with fail;refine(endV_bad w.heap.size n (.slice A' m c') false (some r) w5 (HP.out.go hb5) (.inr rfl)).mono ?_;rintro e w6 ⟨rfl,hP6,hu6⟩;go_wp2;go_ret3;obtain⟨e1,e2,e3⟩:=HE.out;rw[e1,e2,e3];exact⟨none,0,rfl,World.ownsRow_nil _ _ _ _,below_but (btn hb hb5) hu6 (by have:=hb5.size;omega) Zl⟩
theorem row_is {A:Option Addr} {n c:Nat} {l:List UInt8} {most:Int} {w:World} {r:List UInt8} {j er m:Nat} (h:rowOf l most=(r,j,er)) (hm:r.length=m) (hl:l.length=n) (hR:Rd w w.heap.size 1 A n c (bv l)) (hn:n<=140737488355328):
  Calls Tryz.prog 129 #[.slice A n c,.int .i64 most] w fun e w'=>∃A' c',e=.returned (.tuple #[.slice A' m c',.int .i64 j,.int .i64 er])/\w'.ownsRow w.heap.size 5 1 (.slice A' m c') m (bv r)/\Below w.heap.size w w':=by
 have:=row_any A n c l most w hl hR hn;rw[h] at this;subst hm;exact this
theorem drop_back {l x r:List UInt8} (h:l=x++r):l.drop (l.length - r.length)=r/\r.length<=l.length:=by
 subst h;exact⟨by simp,by simp⟩
theorem gS_some {α:Type} {p:List UInt8->Option (α×List UInt8)} {l r:List UInt8} {v:α} (h:p l=some (v,r)):Wq.st p (some l)=some r:=by unfold Wq.st;simp only[h]
theorem gS_no {α:Type} {p:List UInt8->Option (α×List UInt8)} {l:List UInt8} (h:p l=none):Wq.st p (some l)=none:=by unfold Wq.st;simp only[h]
theorem wireSet_g (A:Option Addr) (n c:Nat) (l:List UInt8) (w:World) (hl:l.length=n) (hR:Rd w w.heap.size 1 A n c (bv l)) (hn:n<=4294967296):
  Calls Tryz.prog 54 #[.slice A n c] w fun e w'=>∃A' c',e=.returned (.tuple #[.slice A' (gV Wq.pS [] l).length c',.int .i64 (gK Wq.pS l),.int .i64 (gE Wq.pS l)]) /\
   w'.ownsRow w.heap.size 63 2 (.slice A' (gV Wq.pS [] l).length c') (gV Wq.pS [] l).length (sv (gV Wq.pS [] l))/\Below w.heap.size w w':=by
 have h:=wireSet_any A n c l w hl hR hn;have e1:setV l=gV Wq.pS [] l:=by unfold setV gV;rcases Wq.pS l with _ | ⟨_,_⟩<;>rfl
 have e2:setK l=gK Wq.pS l:=by unfold setK gK;rcases Wq.pS l with _ | ⟨_,_⟩<;>rfl
 have e3:setE l=gE Wq.pS l:=by unfold setE gE;rcases Wq.pS l with _ | ⟨_,_⟩<;>rfl
 rw[e1,e2,e3] at h;exact h
theorem bodyRow_is {A:Option Addr} {n c:Nat} {l:List UInt8} {w:World} {r:List UInt8} {j er m:Nat} (h:rowOf l (256:Nat)=(r,j,er)) (hm:r.length=m) (hl:l.length=n) (hR:Rd w w.heap.size 1 A n c (bv l)) (hn:n<=140737488355328):
  Calls Tryz.prog 128 #[.slice A n c] w fun e w'=>∃A' c',e=.returned (.tuple #[.slice A' m c',.int .i64 j,.int .i64 er])/\w'.ownsRow w.heap.size 5 1 (.slice A' m c') m (bv r)/\Below w.heap.size w w':=by
 have G1:=Hz_ (row_is h hm hl hR hn);clear h hl hR;go_enter Tryz.func128,Tryz.ntmps128;go_wp2_with (go_at_call 129;go_must (refine G1.out.mono ?_);rintro e w1 ⟨A1,c1,rfl,ho1,hb1⟩);go_ret3;exact⟨A1,c1,rfl,ho1,hb1⟩
theorem partRow_any (g T:Nat) (s:Option (List UInt8)) (w:World) (h:PR w g T s) (hT32:T<=140737488355328):
  Calls Tryz.prog 127 #[.pointer (some ⟨g,0,none⟩),.func (.func 128) #[] #[]] w fun e w'=>∃A' c',e=.returned (.slice A' (Wq.vl (Wq.pR 256) [] s).length c') /\
   w'.ownsRow w.heap.size 5 1 (.slice A' (Wq.vl (Wq.pR 256) [] s).length c') (Wq.vl (Wq.pR 256) [] s).length (bv (Wq.vl (Wq.pR 256) [] s))/\PR w' g T (Wq.st (Wq.pR 256) s)/\But g w w':=by
 rcases s with _ | l
 ·have h':=h;obtain⟨A,n,c,k,hB⟩:=h;have c2:=hB.cell 2;have H:=Hz_ h';clear hB h';go_enter Tryz.func127,Tryz.ntmps127;go_wp2;go_ret;exact⟨none,0,rfl,World.ownsRow_nil _ _ _ _,H.out,But.refl _ _⟩
 ·obtain⟨A,n,c,hB,hR,hl,hT,hm⟩:=h;have c0:=hB.cell 0;have c2:=hB.cell 2;have hlt:=hB.lt;unfold maxLen at hm;have hgv:Wq.vl (Wq.pR 256) [] (some l)=gV (Wq.pR 256) [] l:=rfl;rw[hgv];rcases rowOf_pR l 256 with ⟨v,k0,hr,hk0,hp⟩ | ⟨er,her,hr,hp⟩;rotate_left
  ·have H1:=bodyRow_is hr rfl hl (hR.more (Nat.le_of_lt hB.lt)) (by omega);obtain⟨e1,e2,e3⟩:=g_no (d:=[]) hp;rw[e1,gS_no hp];have he2:(er:Int)≠0:=by omega
   have G1:=Hz_ H1;have G2:=Hz_ fun (W:World) hB=>took_bad g (.slice A n c) (.int .i64 ((T - l.length:Nat):Int)) 0 er W hB he2;have HB:=Hz_ hB;clear H1 hR hl hp hB e1 e2 e3 hgv hr;go_enter Tryz.func127,Tryz.ntmps127;go_wp2_with fail;refine G1.out.mono ?_;rintro e w1 ⟨A1,c1,rfl,ho1,hb1⟩;have hB1:=HB.out.go hb1;clear c0 c2;go_wp2_with fail;refine(G2.out w1 hB1).mono ?_;rintro e w2 ⟨rfl,hB2,hu2⟩;go_wp2;go_ret;exact⟨A1,c1,rfl,own_but ho1 hu2 hlt,⟨_,_,_,_,hB2⟩,(But.of hb1).trans hu2⟩
  ·have H1:=bodyRow_is hr rfl hl (hR.more (Nat.le_of_lt hB.lt)) (by omega);obtain⟨e1,e2,e3⟩:=g_yes (d:=[]) hp;obtain⟨r,hre⟩:∃r,r=l.drop k0:=⟨_,rfl⟩;rw[<-hre] at hp;have d1:=hre.symm;have d2:r.length<=l.length:=by rw[hre,List.length_drop];omega
   have hk:k0=l.length - r.length:=by rw[hre,List.length_drop];omega
   rw[e1,gS_some hp];obtain⟨k,rfl⟩:∃k,k=k0:=⟨_,rfl⟩;have G1:=Hz_ H1;have G2:=Hz_ fun (W:World) hB=>took_ok g k n c A ((T - l.length:Nat):Int) W hB (by omega) (by omega) (by omega);have HB:=Hz_ hB;have HR:=Hz_ (hR.from_ (k:=k) (by omega));have HE:=Hz_ (show (((T - l.length:Nat):Int)+k)=((T - r.length:Nat):Int) by omega);have HD:=Hz_ d1;have hrl:r.length=n - k:=by omega
   have hrt:r.length<=T:=by omega
   clear H1 hR hl hp hB e1 e2 e3 hgv d1 hk hr hre;go_enter Tryz.func127,Tryz.ntmps127;go_wp2_with fail;refine G1.out.mono ?_;rintro e w1 ⟨A1,c1,rfl,ho1,hb1⟩;have hB1:=HB.out.go hb1;have hs1:=hb1.size;clear c0 c2;go_wp2_with fail;refine(G2.out w1 hB1).mono ?_;rintro e w2 ⟨rfl,hB2,hu2⟩;go_wp2;go_ret;have h2:=HR.out;rw[Nat.mul_one,<-bv_drop,HD.out] at h2;rw[HE.out] at hB2;exact⟨A1,c1,rfl,own_but ho1 hu2 hlt,⟨_,_,_,hB2,((h2.below (hb1.mono (Nat.le_of_lt hlt))).but hu2 (by omega) Zl),hrl,hrt,by unfold maxLen;exact hm⟩,(But.of hb1).trans hu2⟩
def ixS (x:Int):Nat->List Sn.Sp->Int
 | _,[]=>-1
 | k,s :: r=>if (decide (s.1<=x) && decide (x<=s.2))=true then (k:Int) else ixS x (k+1) r
theorem ixS_drop (x:Int) (k:Nat) (l:List Sn.Sp) (h:k < l.length):ixS x k (l.drop k)=if (decide (l[k].1<=x) && decide (x<=l[k].2))=true then (k:Int) else ixS x (k+1) (l.drop (k+1)):=by
 rw[List.drop_eq_getElem_cons h,ixS]
theorem ixS_in (x:Int) (k:Nat) (l:List Sn.Sp):decide (0<=ixS x k l)=Sn.inB l x:=by
 induction l generalizing k with
 | nil=>rfl
 | cons s r ih=>
  rw[ixS,Sn.inB_cons];cases decide (s.1<=x) && decide (x<=s.2)
  ·simpa using ih (k+1)
  ·simp
theorem indexS_any (A:Option Addr) (n c:Nat) (l:List Sn.Sp) (x:Int) (Bx:Nat) (w:World) (hx:w.cell? ⟨Bx,0,none⟩=some (.int .i64 x)) (hl:l.length=n) (hR:Rd w w.heap.size 2 A n c (sv l)):
  Calls Tryz.prog 204 #[.slice A n c,.func (.func 172) #[] #[.pointer (some ⟨Bx,0,none⟩)]] w fun e w'=>e=.returned (.int .i64 (ixS x 0 l))/\Below w.heap.size w w':=by
 have hmax:n<=9223372036854775807:=by have h1:=hR.cap;have h2:=hR.max;unfold maxLen at h2;omega
 have hBx:=World.block_lt_of_cell? _ _ hx;have HXC:=Hz_ hx;clear hx;go_enter Tryz.func204,Tryz.ntmps204;go_wp2;go_loopw [8] (fun i wr=>∃(k:Nat),k<=n/\i=.int .i64 k/\Below w.heap.size w wr/\Hid (ixS x 0 l=ixS x k (l.drop k))) (fun i _=>n - (intOf i).toNat)
 case atStart=>exact⟨0,by omega,rfl,Below.refl _ _,rfl⟩
 case round=>
  obtain⟨k,hk,rfl,hb,hf⟩:=hrel;by_cases hlt:k < n
  ·have hkl:k < l.length:=by omega
   obtain⟨b,o,rfl,hab,h0,h1⟩:=(hR.below hb).stamp hl hlt;have HD:=Hz_ (ixS_drop x k l hkl);generalize hlo:(l[k]'hkl).1=lo at h0 HD;generalize hhi:(l[k]'hkl).2=hi at h1 HD;have H1:=hasTest_any lo hi x Bx wr ((hb.cell (p:=⟨Bx,0,none⟩) hBx).trans HXC.out);have HB:=Hz_ hb;have HF:=hf.out.trans HD.out;generalize (decide (lo<=x) && decide (x<=hi))=z at H1 HF;have H1:=Hz_ H1;have HF:=Hz_ HF;clear hlo hhi hb hf HD hR hl;cases z
   ·go_wp2_with (go_at_call 172;go_must (refine H1.out.mono ?_);rintro e w1 ⟨rfl,hb1⟩);go_roundw
    case rel=>exact⟨k+1,by omega,by go_num,btn HB.out hb1,by show _=_;rw[HF.out];rfl⟩
    case measure=>simp[intOf];omega
   ·go_wp2_with (go_at_call 172;go_must (refine H1.out.mono ?_);rintro e w1 ⟨rfl,hb1⟩);go_ret;exact⟨by rw[HF.out];rfl,btn HB.out hb1⟩
  ·obtain rfl:k=n:=by omega
   have HN:=Hz_ (show ixS x 0 l=-1 by rw[hf.out,List.drop_of_length_le (by omega)];rfl);have HB:=Hz_ hb;clear hb hf hR hl;go_wp2;go_ret;exact⟨by rw[HN.out];rfl,HB.out⟩
theorem containsS_any (A:Option Addr) (n c:Nat) (l:List Sn.Sp) (x:Int) (Bx:Nat) (w:World) (hx:w.cell? ⟨Bx,0,none⟩=some (.int .i64 x)) (hl:l.length=n) (hR:Rd w w.heap.size 2 A n c (sv l)):
  Calls Tryz.prog 171 #[.slice A n c,.func (.func 172) #[] #[.pointer (some ⟨Bx,0,none⟩)]] w fun e w'=>e=.returned (.bool (Sn.inB l x))/\Below w.heap.size w w':=by
 have H1:=indexS_any A n c l x Bx w hx hl hR;have HN:=Hz_ (ixS_in x 0 l);generalize ixS x 0 l=z at H1 HN;have H1:=Hz_ H1;clear hx hl hR;go_enter Tryz.func171,Tryz.ntmps171;go_wp2_with (go_at_call 204;go_must (refine H1.out.mono ?_);rintro e w1 ⟨rfl,hb1⟩);go_ret;exact⟨ret_bool HN.out,hb1⟩
theorem hasS_any (A:Option Addr) (n c:Nat) (l:List Sn.Sp) (x:Int) (w:World) (hl:l.length=n) (hR:Rd w w.heap.size 2 A n c (sv l)):
  Calls Tryz.prog 111 #[.slice A n c,.int .i64 x] w fun e w'=>e=.returned (.bool (hasO l x))/\Below w.heap.size w w':=by
 have hb0:Below w.heap.size w (w.alloc (.cells #[.int .i64 x] 3)):=Zr.alloc Zl _;have hBx:=Blk.new w 3 #[.int .i64 x];by_cases h1:0<=x
 ·by_cases h2:x<=255
  ·have HX:=Hz_ (show hasO l x=Sn.inB l x by unfold hasO;simp[h1,h2]);have H1:=Hz_ (containsS_any A n c l x w.heap.size _ (hBx.cell 0) hl (hR.go hb0));generalize Sn.inB l x=z at H1 HX;clear hl hR hBx;go_enter Tryz.func111,Tryz.ntmps111;go_wp2_with (go_at_call 171;go_must (refine H1.out.mono ?_);rintro e w1 ⟨rfl,hb1⟩);go_ret;exact⟨by rw[HX.out];rfl,btn hb0 hb1⟩
  ·have HX:=Hz_ (show hasO l x=false by unfold hasO;simp[h2]);have hd:decide (x<=255)=false:=by simpa using h2
   clear hl hR hBx;go_enter Tryz.func111,Tryz.ntmps111;go_wp2;go_ret;exact⟨by rw[HX.out];rfl,hb0⟩
 ·have HX:=Hz_ (show hasO l x=false by unfold hasO;simp[h1]);have hd:decide (0<=x)=false:=by simpa using h1
  clear hl hR hBx;go_enter Tryz.func111,Tryz.ntmps111;go_wp2;go_ret;exact⟨by rw[HX.out];rfl,hb0⟩
end Go.Proofs.YtmbeahbgafkjfaaGreatDoor
