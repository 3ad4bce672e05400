/- Lemmas for the claim, layer 37. -/
import Derived.Test.YtmbeahbgafkjfaaGreatDoorKb32
set_option maxRecDepth 100000
set_option maxHeartbeats 16000000
namespace Go.Proofs.YtmbeahbgafkjfaaGreatDoor
open Go.RowKit
theorem cap_stW {s:Option (List UInt8)} {m N g:Nat} (h:Cap2 m s N):Cap2 m (Wq.stW s g) N:=by
 unfold Wq.stW
 split
 ·exact h.le
 ·exact h
theorem PR.spoil {W:World} {g T:Nat} {s:Option (List UInt8)} (h:PR W g T s):PR (W.setCell ⟨g,2,none⟩ (.bool true)) g T none:=by
 cases s with
 | none=>obtain⟨A,n,c,k,h⟩:=h;exact⟨A,n,c,k,h.set_ 2 (.bool true)⟩
 | some l=>obtain⟨A,n,c,h,_⟩:=h;exact⟨A,n,c,_,h.set_ 2 (.bool true)⟩
theorem PR.keep_ {W:World} {g T:Nat} {l:List UInt8} (h:PR W g T (some l)):PR (W.setCell ⟨g,2,none⟩ (.bool false)) g T (some l):=by
 obtain⟨A,n,c,h,h2,h3⟩:=h
 exact⟨A,n,c,h.set_ 2 (.bool false),h2.but (But.set_ (g:=g) W (p:=⟨g,2,none⟩) rfl _) (Nat.le_of_lt h.lt) (Nat.le_refl _),h3⟩
theorem grown_set (w:World) (X i:Nat) (u:Value):w.grownBy (w.setCell ⟨X,i,none⟩ u) (some X):=
 ⟨rfl,rfl,rfl,by simp,fun k _ hne=>Below.heap_setCell w ⟨X,i,none⟩ u k (by rintro rfl;exact hne rfl)⟩
theorem NtOwn.but {w w':World} {g base:Nat} {v:NV} {x:Nt} (h:NtOwn w base v x) (k:But g w w') (hg:g < base):NtOwn w' base v x:=
 ⟨h.l1,own_but h.o1 k hg,h.l2,own_but h.o2 k hg,h.l3,own_but h.o3 k hg,h.l4,own_but h.o4 k hg⟩
structure NtX (w:World) (base X:Nat) (v:NV) (x:Nt):Prop where
 blk:Blk w X 26 v.val
 own:NtOwn w base v x
section
variable {w w':World} {base X:Nat} {v:NV} {x:Nt}
theorem NtX.but {g:Nat} (h:NtX w base X v x) (k:But g w w') (hg:g < base) (hX:X≠g):NtX w' base X v x:=⟨h.blk.but k hX,h.own.but k hg⟩
theorem NtX.go (h:NtX w base X v x) (hb:Below w.heap.size w w'):NtX w' base X v x:=⟨h.blk.go hb,h.own.below hb⟩
def NtLt (v:NV) (B:Nat):Prop:=∀u∈[Value.slice v.A1 v.n1 v.c1,.slice v.A2 v.n2 v.c2,.slice v.A3 v.n3 v.c3,.slice v.A4 v.n4 v.c4],∀k,u.ownBlock=some k→k < B
theorem NtOwn.lt (h:NtOwn w base v x):NtLt v w.heap.size:=by
 intro u hu k hk
 simp only[List.mem_cons,List.not_mem_nil,or_false] at hu
 rcases hu with rfl | rfl | rfl | rfl
 ·exact(h.o1.lt k hk).2
 ·exact(h.o2.lt k hk).2
 ·exact(h.o3.lt k hk).2
 ·exact(h.o4.lt k hk).2
theorem NtX.butN {g:Nat} (h:NtX w base X v x) (k:But g w w') (hl:NtLt v g) (hX:X≠g):NtX w' base X v x:=by
 have ne:∀u∈[Value.slice v.A1 v.n1 v.c1,.slice v.A2 v.n2 v.c2,.slice v.A3 v.n3 v.c3,.slice v.A4 v.n4 v.c4],u.ownBlock≠some g:=fun u hu e=>by have:=hl u hu g e;omega
 exact⟨h.blk.but k hX,⟨h.own.l1,own_butN h.own.o1 k (ne _ (by simp)),h.own.l2,own_butN h.own.o2 k (ne _ (by simp)),h.own.l3,own_butN h.own.o3 k (ne _ (by simp)),h.own.l4,own_butN h.own.o4 k (ne _ (by simp))⟩⟩
theorem NtOwn.setX (h:NtX w base X v x) (i:Nat) (u:Value):NtOwn (w.setCell ⟨X,i,none⟩ u) base v x:=h.own.blk h.blk (by decide) (by decide) (by decide) (grown_set w X i u)
theorem NtX.set1 (h:NtX w base X v x) {A:Option Addr} {n c:Nat} {y:List Vc.St} (hl:y.length=n) (o:w.ownsRow base 28 2 (.slice A n c) n (sv y)):
  NtX (w.setCell ⟨X,1,none⟩ (.slice A n c)) base X ⟨v.A1,v.n1,v.c1,A,n,c,v.A3,v.n3,v.c3,v.A4,v.n4,v.c4⟩ ⟨x.s,y,x.b,x.w⟩:=by
 have k:=NtOwn.setX h 1 (.slice A n c)
 exact⟨h.blk.set_ 1 (.slice A n c),⟨k.l1,k.o1,hl,o.kept (grown_set w X 1 _) (own_blk o h.blk (by decide)),k.l3,k.o3,k.l4,k.o4⟩⟩
theorem NtX.set2 (h:NtX w base X v x) {A:Option Addr} {n c:Nat} {y:List Sn.Sp} (hl:y.length=n) (o:w.ownsRow base 63 2 (.slice A n c) n (sv y)):
  NtX (w.setCell ⟨X,2,none⟩ (.slice A n c)) base X ⟨v.A1,v.n1,v.c1,v.A2,v.n2,v.c2,A,n,c,v.A4,v.n4,v.c4⟩ ⟨x.s,x.e,y,x.w⟩:=by
 have k:=NtOwn.setX h 2 (.slice A n c)
 exact⟨h.blk.set_ 2 (.slice A n c),⟨k.l1,k.o1,k.l2,k.o2,hl,o.kept (grown_set w X 2 _) (own_blk o h.blk (by decide)),k.l4,k.o4⟩⟩
theorem NtX.grow (h:NtX w base X v x) (hg:w.grownBy w' (Value.slice v.A4 v.n4 v.c4).ownBlock):Blk w' X 26 v.val∧NtOwn w' base ⟨v.A1,v.n1,v.c1,v.A2,v.n2,v.c2,v.A3,v.n3,v.c3,none,0,0⟩ ⟨x.s,x.e,x.b,[]⟩:=by
 have o:=h.own
 refine⟨(hg.block X h.blk.lt (fun e=>?_)).trans h.blk,⟨o.l1,o.o1.kept hg (own_two o.o1 o.o4 (by decide)),o.l2,o.o2.kept hg (own_two o.o2 o.o4 (by decide)),o.l3,o.o3.kept hg (own_two o.o3 o.o4 (by decide)),rfl,World.ownsRow_nil _ _ _ _⟩⟩
 rcases own_blk o.o4 h.blk (by decide) with h1 | h1
 ·rw[h1] at e;cases e
 ·exact h1 e.symm
end
theorem NtX.push {w w':World} {base X:Nat} {v:NV} {x:Nt} (h:NtX w base X v x) (hg:w.grownBy w' (Value.slice v.A4 v.n4 v.c4).ownBlock) {A:Option Addr} {n c:Nat} {y:List Wr} (hl:y.length=n) (o:w'.ownsRow base 70 4 (.slice A n c) n (wv y)):
  NtX (w'.setCell ⟨X,3,none⟩ (.slice A n c)) base X ⟨v.A1,v.n1,v.c1,v.A2,v.n2,v.c2,v.A3,v.n3,v.c3,A,n,c⟩ ⟨x.s,x.e,x.b,y⟩:=by
 obtain⟨hB,hO⟩:=h.grow hg
 have gs:=grown_set w' X 3 (.slice A n c)
 exact⟨hB.set_ 3 (.slice A n c),⟨hO.l1,hO.o1.kept gs (own_blk hO.o1 hB (by decide)),hO.l2,hO.o2.kept gs (own_blk hO.o2 hB (by decide)),hO.l3,hO.o3.kept gs (own_blk hO.o3 hB (by decide)),hl,o.kept gs (own_blk o hB (by decide))⟩⟩
theorem wireNote_any (A:Option Addr) (n c:Nat) (l:List UInt8) (w:World) (hT:Tab w) (hl:l.length=n) (hR:Rd w w.heap.size 1 A n c (bv l)) (hn:n≤4294967296):
  Calls Tryz.prog 50 #[.slice A n c] w fun e w'=>∃v:NV,e=.returned (.tuple #[.agg v.val,.int .i64 (gK Wq.pNt l),.int .i64 (gE Wq.pNt l)]) ∧
   NtOwn w' w.heap.size v (gV Wq.pNt ⟨[],[],[],[]⟩ l)∧Below w.heap.size w w':=by
 obtain⟨i0,hi0,hz0,hz1,hz2⟩:=info_parts writes_info
 have hb0:Below w.heap.size w ((w.alloc (.cells #[.slice none 0 0,.slice none 0 0,.slice none 0 0,.slice none 0 0] 26)).alloc (.cells #[.slice A n c,.int .i64 0,.bool false] 156)):=((Below.refl _ _).alloc (Nat.le_refl _) _).alloc (by simp) _
 have hR0:=(Blk.new w 26 #[.slice none 0 0,.slice none 0 0,.slice none 0 0,.slice none 0 0]).alloc (.cells #[.slice A n c,.int .i64 0,.bool false] 156)
 have hG0:=Blk.new (w.alloc (.cells #[.slice none 0 0,.slice none 0 0,.slice none 0 0,.slice none 0 0] 26)) 156 #[.slice A n c,.int .i64 0,.bool false]
 rw[World.size_alloc] at hG0
 obtain⟨W0,hW0⟩:∃W0,W0=(w.alloc (.cells #[.slice none 0 0,.slice none 0 0,.slice none 0 0,.slice none 0 0] 26)).alloc (.cells #[.slice A n c,.int .i64 0,.bool false] 156):=⟨_,rfl⟩
 have hs0:W0.heap.size=w.heap.size+1+1:=by rw[hW0];simp
 rw[←hW0] at hb0 hR0 hG0
 have hP0:PR W0 (w.heap.size+1) n (some l):=by
  refine⟨A,n,c,?_,(hR.below hb0).more (by omega),hl,by omega,by have:=hR.cap;have:=hR.max;omega⟩
  rw[hl,Nat.sub_self]
  exact hG0
 have HW:=Hz_ hW0.symm
 have HL:=Hz_ hl
 have HB0:=Hz_ hb0
 have HPA:=Hz_ (Wq.pNt_all l)
 have HTB:=Hz_ hT
 have G1:=Hz_ fun (W:World) (s:Option (List UInt8)) (h:PR W (w.heap.size+1) n s)=>rdNum_any (w.heap.size+1) n s W h
 have G2:=Hz_ fun (W:World) (s:Option (List UInt8)) (h:PR W (w.heap.size+1) n s)=>rdStamp_any (w.heap.size+1) n s W h
 have G3:=Hz_ fun (W:World) (s:Option (List UInt8)) (h:PR W (w.heap.size+1) n s)=>partVec_any (w.heap.size+1) n s W h hn
 have G4:=Hz_ fun (W:World) (s:Option (List UInt8)) (h:PR W (w.heap.size+1) n s)=>partSet_any (w.heap.size+1) n s W h hn
 clear hl hR hG0 hW0 hb0 hT
 go_enter Tryz.func50,Tryz.ntmps50
 go_wp2_with fail
 rw[HW.out]
 -- the start
 refine(G3.out _ _ hP0).mono ?_
 rintro e w1 ⟨A1,c1,rfl,o1,hP1,hu1⟩
 have hs1:=hu1.size
 have hR1:=hR0.but hu1 (by omega)
 have hb1:=below_but HB0.out hu1 (by omega) (by omega)
 obtain⟨vs,hvs⟩:∃x,x=Wq.vl Wq.pV [] (some l):=⟨_,rfl⟩
 obtain⟨s1,hs1e⟩:∃s,s=Wq.st Wq.pV (some l):=⟨_,rfl⟩
 rw[←hs1e] at hP1
 rw[←hvs] at o1 ⊢
 have HVS:=Hz_ hvs
 have HS1:=Hz_ hs1e
 have hbX:Below w1.heap.size w1 (w1.alloc (.cells #[.slice A1 vs.length c1,.slice none 0 0,.slice none 0 0,.slice none 0 0] 26)):=(Below.refl _ _).alloc (Nat.le_refl _) _
 have hX:=Blk.new w1 26 #[.slice A1 vs.length c1,.slice none 0 0,.slice none 0 0,.slice none 0 0]
 obtain⟨W2,hW2⟩:∃W2,W2=w1.alloc (.cells #[.slice A1 vs.length c1,.slice none 0 0,.slice none 0 0,.slice none 0 0] 26):=⟨_,rfl⟩
 have hs2:W2.heap.size=w1.heap.size+1:=by rw[hW2];simp
 rw[←hW2] at hbX hX
 have HW2:=Hz_ hW2.symm
 have hP2:=hP1.go hbX
 have hR2:=hR1.go hbX
 have hb2:=below_then hb1 (by omega) hbX
 have hN2:NtX W2 W0.heap.size w1.heap.size ⟨A1,vs.length,c1,none,0,0,none,0,0,none,0,0⟩ ⟨vs,[],[],[]⟩:=⟨hX,⟨rfl,own_below o1 hbX (Nat.le_refl _),rfl,World.ownsRow_nil _ _ _ _,rfl,World.ownsRow_nil _ _ _ _,rfl,World.ownsRow_nil _ _ _ _⟩⟩
 clear hP0 hu1 hR0 hP1 hR1 hb1 hvs hs1e hW2 hbX hX o1
 go_wp2_with fail
 rw[HW2.out]
 -- the end
 refine(G3.out _ _ hP2).mono ?_
 rintro e w3 ⟨A2,c2,rfl,o2,hP3,hu3⟩
 have hs3:=hu3.size
 obtain⟨ve,hve⟩:∃x,x=Wq.vl Wq.pV [] s1:=⟨_,rfl⟩
 obtain⟨s2,hs2e⟩:∃s,s=Wq.st Wq.pV s1:=⟨_,rfl⟩
 rw[←hs2e] at hP3
 rw[←hve] at o2 ⊢
 have HVE:=Hz_ hve
 have HS2:=Hz_ hs2e
 have hN3:=hN2.but hu3 (by omega) (by omega)
 have hR3:=hR2.but hu3 (by omega)
 have hb3:=below_but hb2 hu3 (by omega) (by omega)
 have fX1:=hN3.blk.frozen 1
 have cX1:=hN3.blk.cell 1
 have hN4:=hN3.set1 rfl (own_less o2 (by omega))
 have hu4:But w1.heap.size w3 (w3.setCell ⟨w1.heap.size,1,none⟩ (.slice A2 ve.length c2)):=But.set_ (g:=w1.heap.size) w3 (p:=⟨w1.heap.size,1,none⟩) rfl _
 have hP4:=hP3.but hu4 (by omega)
 have hR4:=hR3.but hu4 (by omega)
 have hb4:=below_but hb3 hu4 (by omega) (by omega)
 obtain⟨W4,hW4⟩:∃W4,W4=w3.setCell ⟨w1.heap.size,1,none⟩ (.slice A2 ve.length c2):=⟨_,rfl⟩
 have hs4:W4.heap.size=w3.heap.size:=by rw[hW4];simp
 rw[←hW4] at hN4 hP4 hR4 hb4
 have HW4:=Hz_ hW4.symm
 dsimp only at hN4
 clear hP2 hu3 hN2 hR2 hb2 hve hs2e hN3 hP3 hR3 hb3 hu4 o2 hW4
 go_wp2_with fail
 rw[HW4.out]
 -- the blur
 refine(G4.out _ _ hP4).mono ?_
 rintro e w5 ⟨A3,c3,rfl,o3,hP5,hu5⟩
 have hs5:=hu5.size
 obtain⟨vb,hvb⟩:∃x,x=Wq.vl Wq.pS [] s2:=⟨_,rfl⟩
 obtain⟨s3,hs3e⟩:∃s,s=Wq.st Wq.pS s2:=⟨_,rfl⟩
 rw[←hs3e] at hP5
 rw[←hvb] at o3 ⊢
 have HVB:=Hz_ hvb
 have HS3:=Hz_ hs3e
 have hN5:=hN4.but hu5 (by omega) (by omega)
 have hR5:=hR4.but hu5 (by omega)
 have hb5:=below_but hb4 hu5 (by omega) (by omega)
 have fX2:=hN5.blk.frozen 2
 have cX2:=hN5.blk.cell 2
 have hN6:=hN5.set2 rfl (own_less o3 (by omega))
 have hu6:But w1.heap.size w5 (w5.setCell ⟨w1.heap.size,2,none⟩ (.slice A3 vb.length c3)):=But.set_ (g:=w1.heap.size) w5 (p:=⟨w1.heap.size,2,none⟩) rfl _
 have hP6:=hP5.but hu6 (by omega)
 have hR6:=hR5.but hu6 (by omega)
 have hb6:=below_but hb5 hu6 (by omega) (by omega)
 obtain⟨W6,hW6⟩:∃W6,W6=w5.setCell ⟨w1.heap.size,2,none⟩ (.slice A3 vb.length c3):=⟨_,rfl⟩
 have hs6:W6.heap.size=w5.heap.size:=by rw[hW6];simp
 rw[←hW6] at hN6 hP6 hR6 hb6
 have HW6:=Hz_ hW6.symm
 dsimp only at hN6
 clear hN4 hP4 hR4 hb4 hu5 hvb hs3e hN5 hP5 hR5 hb5 hu6 o3 hW6 fX1 cX1
 go_wp2_with fail
 rw[HW6.out]
 -- how many writes
 refine(G1.out _ _ hP6).mono ?_
 rintro e w7 ⟨rfl,hP7,hu7⟩
 have hs7:=hu7.size
 have hN7:=hN6.but hu7 (by omega) (by omega)
 have hR7:=hR6.but hu7 (by omega)
 have hb7:=below_but hb6 hu7 (by omega) (by omega)
 have hk0:=numV_lt s3
 have hcap:Cap2 0 (numS s3) n:=numS_cap (by
  cases s3 with
  | none=>show 0≤n+1;omega
  | some l3=>obtain⟨_,_,_,_,_,_,h,_⟩:=hP6;show 0+l3.length≤n;omega)
 have hinv:Wq.InvW (numV s3) (numS s3) [] (Wq.allW s3):=by rw[numV_vl,numS_st];exact Wq.InvW.start s3
 obtain⟨k0,hk0e⟩:∃k,k=numV s3:=⟨_,rfl⟩
 obtain⟨sk,hske⟩:∃s,s=numS s3:=⟨_,rfl⟩
 rw[←hk0e] at hk0 hinv
 rw[←hske] at hP7 hcap hinv
 rw[←hk0e]
 have HCAP:=Hz_ hcap
 have HINV:=Hz_ hinv
 clear hN6 hP6 hR6 hb6 hu7 fX2 cX2 hk0e hske hcap hinv
 go_wp2
 go_loopw [7,8,9] (fun v7 _ _ wr=>∃(k m c':Nat) (A':Option Addr) (s:Option (List UInt8)) (acc:List Wr),v7=.int .i64 k∧k≤k0∧PR wr (w.heap.size+1) n s∧NtX wr W0.heap.size w1.heap.size ⟨A1,vs.length,c1,A2,ve.length,c2,A3,vb.length,c3,A',m,c'⟩ ⟨vs,ve,vb,acc⟩∧Below w.heap.size w wr ∧
  Blk wr w.heap.size 26 #[.slice none 0 0,.slice none 0 0,.slice none 0 0,.slice none 0 0]∧Hid (Cap2 m s n)∧Hid (Wq.InvW k s acc (Wq.allW s3))) (fun v7 _ _ _=>(intOf v7).toNat)
 case atStart=>exact⟨k0,0,0,none,sk,[],rfl,Nat.le_refl _,hP7,hN7,hb7,hR7,HCAP.out,HINV.out⟩
 case round=>
  obtain⟨k,m,c',A',s,acc,rfl,hk,hP,hN,hb,hRr,hca,hin⟩:=hrel
  clear hP7 hN7 hb7 hR7
  have hXl:=hN.blk.lt
  by_cases hgo:0 < k∧s≠none
  ·obtain⟨hk1,hs⟩:=hgo
   obtain⟨l1,rfl⟩:∃l1,s=some l1:=by
    cases s with
    | none=>exact absurd rfl hs
    | some l1=>exact⟨l1,rfl⟩
   have hP':=hP
   obtain⟨Ar,nr,cr,hBr,hqr⟩:=hP'
   have b2:=hBr.cell 2
   clear hBr hqr hs
   have hcap1:m+l1.length≤n:=hca.out
   have HNX:=Hz_ (show Wq.InvW (k - 1) (Wq.stW (numS (numS (numS (numS (some l1))))) (numV (numS (numS (numS (some l1)))))) (acc++[((((numV (numS (numS (some l1))):Nat):Int),((numV (numS (some l1)):Nat):Int)),((numV (some l1):Nat):Int),decide (numV (numS (numS (numS (some l1))))=1))]) (Wq.allW s3) by
    have h:=hin.out
    rw[show k=(k - 1)+1 by omega] at h
    simp only[numV_vl,numS_st]
    exact h.next)
   have HCX:=Hz_ (show Cap2 (m+1) (Wq.stW (numS (numS (numS (numS (some l1))))) (numV (numS (numS (numS (some l1)))))) n from cap_stW (numS_cap (numS_cap (numS_cap (numS_cap1 hca.out)))))
   obtain⟨o,ho⟩:∃x,x=numV (some l1):=⟨_,rfl⟩
   obtain⟨t1,ht1⟩:∃x,x=numS (some l1):=⟨_,rfl⟩
   obtain⟨a,ha⟩:∃x,x=numV t1:=⟨_,rfl⟩
   obtain⟨t2,ht2⟩:∃x,x=numS t1:=⟨_,rfl⟩
   obtain⟨b,hb'⟩:∃x,x=numV t2:=⟨_,rfl⟩
   obtain⟨t3,ht3⟩:∃x,x=numS t2:=⟨_,rfl⟩
   obtain⟨q,hq⟩:∃x,x=numV t3:=⟨_,rfl⟩
   obtain⟨t4,ht4⟩:∃x,x=numS t3:=⟨_,rfl⟩
   have hlq:q < 9223372036854775808:=by rw[hq];exact numV_lt _
   have C1:=G1.out wr (some l1) hP
   have C2:=fun W (h:PR W (w.heap.size+1) n t1)=>G2.out W t1 h
   have C3:=fun W (h:PR W (w.heap.size+1) n t3)=>G1.out W t3 h
   rw[←ho,←ht1] at C1
   rw[←ht2,←hb',←ha,←ht3] at C2
   rw[←hq,←ht4] at C3
   rw[←ho,←ht1,←ht2,←ha,←hb',←ht3,←ht4,←hq] at HNX
   rw[←ht1,←ht2,←ht3,←ht4,←hq] at HCX
   have C1:=Hz_ C1
   have C2:=Hz_ C2
   have C3:=Hz_ C3
   have HN:=Hz_ hN
   have HR:=Hz_ hRr
   have HB:=Hz_ hb
   have hwb:=hb.size
   clear ho ht1 ha ht2 hb' ht3 hq ht4 hca hin hP hN hRr hb
   go_wp2_with fail
   refine C1.out.mono ?_
   rintro e w8 ⟨rfl,hP8,hu8⟩
   have hs8:=hu8.size
   have hY:=Blk.new w8 70 #[.int .i64 0,.int .i64 0,.int .i64 o,.bool false]
   have hbY:Below w8.heap.size w8 (w8.alloc (.cells #[.int .i64 0,.int .i64 0,.int .i64 o,.bool false] 70)):=(Below.refl _ _).alloc (Nat.le_refl _) _
   obtain⟨W9,hW9⟩:∃W9,W9=w8.alloc (.cells #[.int .i64 0,.int .i64 0,.int .i64 o,.bool false] 70):=⟨_,rfl⟩
   have hs9:W9.heap.size=w8.heap.size+1:=by rw[hW9];simp
   rw[←hW9] at hY hbY
   have HW9:=Hz_ hW9.symm
   have hP9:=hP8.go hbY
   have hN8:=HN.out.but hu8 (by omega) (by omega)
   have HLT:=Hz_ (NtOwn.lt hN8.own)
   have hN9:=hN8.go hbY
   have hR9:=(HR.out.but hu8 (by omega)).go hbY
   have hb9:=below_then (below_but HB.out hu8 (by omega) (by omega)) (by omega) hbY
   clear b2 hu8 hP8 hbY hW9 HN HR HB hN8
   go_wp2_with fail
   rw[HW9.out]
   refine(C2.out _ hP9).mono ?_
   rintro e w10 ⟨rfl,hP10,hu10⟩
   have hs10:=hu10.size
   have hY10:=hY.but hu10 (by omega)
   have hY11:=(hY10.set_ 0 (.int .i64 b)).set_ 1 (.int .i64 a)
   have yf0:=hY10.frozen 0
   have yf1:=hY10.frozen 1
   have yc0:=hY10.cell 0
   have yc1:=hY10.cell 1
   have hu11:But w8.heap.size w10 ((w10.setCell ⟨w8.heap.size,0,none⟩ (.int .i64 b)).setCell ⟨w8.heap.size,1,none⟩ (.int .i64 a)):=(But.set_ (g:=w8.heap.size) w10 (p:=⟨w8.heap.size,0,none⟩) rfl _).trans (But.set_ (g:=w8.heap.size) _ (p:=⟨w8.heap.size,1,none⟩) rfl _)
   have hP11:=hP10.but hu11 (by omega)
   have hN11:=(hN9.but hu10 (by omega) (by omega)).butN hu11 HLT.out (by omega)
   have hR11:=(hR9.but hu10 (by omega)).but hu11 (by omega)
   have hb11:=below_but (below_but hb9 hu10 (by omega) (by omega)) hu11 (by omega) (by omega)
   obtain⟨W11,hW11⟩:∃W11,W11=(w10.setCell ⟨w8.heap.size,0,none⟩ (.int .i64 b)).setCell ⟨w8.heap.size,1,none⟩ (.int .i64 a):=⟨_,rfl⟩
   have hs11:W11.heap.size=w10.heap.size:=by rw[hW11];simp
   rw[←hW11] at hP11 hN11 hR11 hb11 hY11
   have hY11:Blk W11 w8.heap.size 70 #[.int .i64 b,.int .i64 a,.int .i64 o,.bool false]:=hY11
   have HW11:=Hz_ hW11.symm
   clear hP9 hN9 hR9 hb9 hu10 hP10 hY hY10 hu11 hW11
   go_wp2_with fail
   rw[HW11.out]
   refine(C3.out _ hP11).mono ?_
   rintro e w12 ⟨rfl,hP12,hu12⟩
   have hs12:=hu12.size
   have hY12:=hY11.but hu12 (by omega)
   have hN12:=hN11.but hu12 (by omega) (by omega)
   have hR12:=hR11.but hu12 (by omega)
   have hb12:=below_but hb11 hu12 (by omega) (by omega)
   have yf3:=hY12.frozen 3
   have yc3:=hY12.cell 3
   have hY13:=hY12.set_ 3 (.bool (decide (q=1)))
   have hu13:But w8.heap.size w12 (w12.setCell ⟨w8.heap.size,3,none⟩ (.bool (decide (q=1)))):=But.set_ (g:=w8.heap.size) w12 (p:=⟨w8.heap.size,3,none⟩) rfl _
   have hP13:=hP12.but hu13 (by omega)
   have hN13:=hN12.butN hu13 HLT.out (by omega)
   have hR13:=hR12.but hu13 (by omega)
   have hb13:=below_but hb12 hu13 (by omega) (by omega)
   have HQ:=Hz_ (show ((q:Int) == 1)=decide (q=1) by rw[Bool.eq_iff_iff];simp;omega)
   clear hY11 hN11 hR11 hb11 hP11 hu12 hP12 hN12 hR12 hb12 hu13 yf0 yf1 yc0 yc1 hY12
   have hY13:Blk (w12.setCell ⟨w8.heap.size,3,none⟩ (.bool (decide (q=1)))) w8.heap.size 70 #[.int .i64 b,.int .i64 a,.int .i64 o,.bool (decide (q=1))]:=hY13
   have hq1:((q:Int) == 1)=decide (q=1):=HQ.out
   have hs13:(w12.setCell ⟨w8.heap.size,3,none⟩ (.bool (decide (q=1)))).heap.size=w12.heap.size:=by simp
   have hq1:((q:Int) == 1)=decide (q=1):=HQ.out
   have hs13:(w12.setCell ⟨w8.heap.size,3,none⟩ (.bool (decide (q=1)))).heap.size=w12.heap.size:=by simp
   have hq1:((q:Int) == 1)=decide (q=1):=HQ.out
   have hs13:(w12.setCell ⟨w8.heap.size,3,none⟩ (.bool (decide (q=1)))).heap.size=w12.heap.size:=by simp
   have hq1:((q:Int) == 1)=decide (q=1):=HQ.out
   have hs13:(w12.setCell ⟨w8.heap.size,3,none⟩ (.bool (decide (q=1)))).heap.size=w12.heap.size:=by simp
   rcases hA:t4 with _ | r4
   ·rw[hA] at hP13 HNX HCX
    rw[show Wq.stW none q=none by unfold Wq.stW;split<;>rfl] at HNX HCX
    have hP13':=hP13
    obtain⟨Ag,ng,cg,kg,hBg⟩:=hP13'
    have gc2:=hBg.cell 2
    have gf2:=hBg.frozen 2
    clear hBg
    have hu14:But (w.heap.size+1) (w12.setCell ⟨w8.heap.size,3,none⟩ (.bool (decide (q=1)))) ((w12.setCell ⟨w8.heap.size,3,none⟩ (.bool (decide (q=1)))).setCell ⟨w.heap.size+1,2,none⟩ (.bool true)):=But.set_ (g:=w.heap.size+1) _ (p:=⟨w.heap.size+1,2,none⟩) rfl _
    have hP14:PR ((w12.setCell ⟨w8.heap.size,3,none⟩ (.bool (decide (q=1)))).setCell ⟨w.heap.size+1,2,none⟩ (.bool true)) (w.heap.size+1) n _:=hP13.spoil
    have hY14:=hY13.but hu14 (by omega)
    have hN14:=hN13.but hu14 (by omega) (by omega)
    have hR14:=hR13.but hu14 (by omega)
    have hb14:=below_but hb13 hu14 (by omega) (by omega)
    obtain⟨y0,y1,y2,y3⟩:=hY14.four
    have xc3:=hN14.blk.cell 3
    obtain⟨W14,hW14⟩:∃W14,W14=(w12.setCell ⟨w8.heap.size,3,none⟩ (.bool (decide (q=1)))).setCell ⟨w.heap.size+1,2,none⟩ (.bool true):=⟨_,rfl⟩
    have hs14:W14.heap.size=w12.heap.size:=by rw[hW14];simp
    have HW14:=Hz_ hW14.symm
    rw[←hW14] at hP14 hN14 hR14 hb14
    have hl4:=hN14.own.l4
    dsimp only at hl4
    have hmm:m≤4294967296:=by omega
    have h63:m+1≤maxLen:=by unfold maxLen;omega
    have h1max:1≤maxLen:=by unfold maxLen;omega
    have hoc:∀u∈[Value.int .i64 (b:Int),.int .i64 (a:Int),.int .i64 (o:Int),.bool (decide (q=1))],u.oneCell'=true:=by
     intro u hu
     simp only[List.mem_cons,List.not_mem_nil,or_false] at hu
     rcases hu with rfl | rfl | rfl | rfl<;>rfl
    have HRN:=Hz_ (show Rd (W14.alloc (.cells #[.int .i64 b,.int .i64 a,.int .i64 o,.bool (decide (q=1))] 70)) (w12.heap.size+1) 4 (some ⟨w12.heap.size,0,none⟩) 1 1 [.int .i64 b,.int .i64 a,.int .i64 o,.bool (decide (q=1))] from by have h:=Rd.new W14 70 4 1 #[.int .i64 b,.int .i64 a,.int .i64 o,.bool (decide (q=1))] rfl h1max;rw[hs14] at h;exact h)
    have HN14:=Hz_ hN14
    have HP14:=Hz_ hP14
    have HR14:=Hz_ hR14
    have HB14:=Hz_ hb14
    clear hu14 hY14 hN14 hR14 hb14 hP14 hY13 hN13 hR13 hb13 hP13 hW14 hA
    go_wp2_with (at_builtin;rw[HW14.out];go_must (refine wpList_append_rd _ rfl (.tmp 58) (.tmp 60) _ rfl W0.heap.size 70 i0 _ 4 32 Tryz.underlying24 hi0 hz0 hz1 hz2 rfl (by decide) (.slice A' m c') m _ rfl (HN14.out.own.o4.alloc _) (w12.heap.size+1) (some ⟨w12.heap.size,0,none⟩) 1 1 [.int .i64 b,.int .i64 a,.int .i64 o,.bool (decide (q=1))] rfl HRN.out hoc h63 (by omega) (by simp;omega) ?_);intro A16 c16 w16 ho16 hg16 hat16;have hN15:=HN14.out.go (w':=W14.alloc (.cells #[.int .i64 b,.int .i64 a,.int .i64 o,.bool (decide (q=1))] 70)) ((Below.refl _ _).alloc (Nat.le_refl _) _);have hB16:=(hN15.grow hg16).1;have xf3:=hB16.frozen 3;have xd3:=hB16.cell 3)
    have hbg:Below W0.heap.size W14 w16:=((Below.refl _ _).alloc (by omega) _).trans (grown_below hg16 (by simp;omega) (fun j hj=>own_lt HN14.out.own.o4 j hj))
    have hs16:=hbg.size
    have hl5:(acc++[(((b:Int),(a:Int)),(o:Int),decide (q=1))]).length=m+1:=by rw[List.length_append,hl4];rfl
    have hN17:=hN15.push hg16 hl5 (by rw[wv_app];exact ho16)
    have hu17:But w1.heap.size w16 (w16.setCell ⟨w1.heap.size,3,none⟩ (.slice A16 (m+1) c16)):=But.set_ (g:=w1.heap.size) w16 (p:=⟨w1.heap.size,3,none⟩) rfl _
    go_roundw
    case rel=>
     exact⟨k - 1,m+1,c16,A16,_,acc++[(((b:Int),(a:Int)),(o:Int),decide (q=1))],by rw[show ((k:Int) - 1)=((k - 1:Nat):Int) by omega],by omega,(HP14.out.below hbg (by omega)).but hu17 (by omega),hN17,below_but (HB14.out.trans (hbg.mono (by omega))) hu17 (by omega) (by omega),(HR14.out.below hbg (by omega)).but hu17 (by omega),HCX.out,HNX.out⟩
    case measure=>simp[intOf];omega
   ·rw[hA] at hP13 HNX HCX
    have hP13':=hP13
    obtain⟨Ag,ng,cg,hBg,_⟩:=hP13'
    have gc2:=hBg.cell 2
    have gf2:=hBg.frozen 2
    clear hBg
    by_cases hq2:1 < q
    ·rw[show Wq.stW (some r4) q=none from if_pos hq2] at HNX HCX
     have hq3:decide ((1:Int) < (q:Int))=true:=by simp;omega
     have hu14:But (w.heap.size+1) (w12.setCell ⟨w8.heap.size,3,none⟩ (.bool (decide (q=1)))) ((w12.setCell ⟨w8.heap.size,3,none⟩ (.bool (decide (q=1)))).setCell ⟨w.heap.size+1,2,none⟩ (.bool true)):=But.set_ (g:=w.heap.size+1) _ (p:=⟨w.heap.size+1,2,none⟩) rfl _
     have hP14:PR ((w12.setCell ⟨w8.heap.size,3,none⟩ (.bool (decide (q=1)))).setCell ⟨w.heap.size+1,2,none⟩ (.bool true)) (w.heap.size+1) n _:=hP13.spoil
     have hY14:=hY13.but hu14 (by omega)
     have hN14:=hN13.but hu14 (by omega) (by omega)
     have hR14:=hR13.but hu14 (by omega)
     have hb14:=below_but hb13 hu14 (by omega) (by omega)
     obtain⟨y0,y1,y2,y3⟩:=hY14.four
     have xc3:=hN14.blk.cell 3
     obtain⟨W14,hW14⟩:∃W14,W14=(w12.setCell ⟨w8.heap.size,3,none⟩ (.bool (decide (q=1)))).setCell ⟨w.heap.size+1,2,none⟩ (.bool true):=⟨_,rfl⟩
     have hs14:W14.heap.size=w12.heap.size:=by rw[hW14];simp
     have HW14:=Hz_ hW14.symm
     rw[←hW14] at hP14 hN14 hR14 hb14
     have hl4:=hN14.own.l4
     dsimp only at hl4
     have hmm:m≤4294967296:=by omega
     have h63:m+1≤maxLen:=by unfold maxLen;omega
     have h1max:1≤maxLen:=by unfold maxLen;omega
     have hoc:∀u∈[Value.int .i64 (b:Int),.int .i64 (a:Int),.int .i64 (o:Int),.bool (decide (q=1))],u.oneCell'=true:=by
      intro u hu
      simp only[List.mem_cons,List.not_mem_nil,or_false] at hu
      rcases hu with rfl | rfl | rfl | rfl<;>rfl
     have HRN:=Hz_ (show Rd (W14.alloc (.cells #[.int .i64 b,.int .i64 a,.int .i64 o,.bool (decide (q=1))] 70)) (w12.heap.size+1) 4 (some ⟨w12.heap.size,0,none⟩) 1 1 [.int .i64 b,.int .i64 a,.int .i64 o,.bool (decide (q=1))] from by have h:=Rd.new W14 70 4 1 #[.int .i64 b,.int .i64 a,.int .i64 o,.bool (decide (q=1))] rfl h1max;rw[hs14] at h;exact h)
     have HN14:=Hz_ hN14
     have HP14:=Hz_ hP14
     have HR14:=Hz_ hR14
     have HB14:=Hz_ hb14
     clear hu14 hY14 hN14 hR14 hb14 hP14 hY13 hN13 hR13 hb13 hP13 hW14 hA
     go_wp2_with (at_builtin;rw[HW14.out];go_must (refine wpList_append_rd _ rfl (.tmp 58) (.tmp 60) _ rfl W0.heap.size 70 i0 _ 4 32 Tryz.underlying24 hi0 hz0 hz1 hz2 rfl (by decide) (.slice A' m c') m _ rfl (HN14.out.own.o4.alloc _) (w12.heap.size+1) (some ⟨w12.heap.size,0,none⟩) 1 1 [.int .i64 b,.int .i64 a,.int .i64 o,.bool (decide (q=1))] rfl HRN.out hoc h63 (by omega) (by simp;omega) ?_);intro A16 c16 w16 ho16 hg16 hat16;have hN15:=HN14.out.go (w':=W14.alloc (.cells #[.int .i64 b,.int .i64 a,.int .i64 o,.bool (decide (q=1))] 70)) ((Below.refl _ _).alloc (Nat.le_refl _) _);have hB16:=(hN15.grow hg16).1;have xf3:=hB16.frozen 3;have xd3:=hB16.cell 3)
     have hbg:Below W0.heap.size W14 w16:=((Below.refl _ _).alloc (by omega) _).trans (grown_below hg16 (by simp;omega) (fun j hj=>own_lt HN14.out.own.o4 j hj))
     have hs16:=hbg.size
     have hl5:(acc++[(((b:Int),(a:Int)),(o:Int),decide (q=1))]).length=m+1:=by rw[List.length_append,hl4];rfl
     have hN17:=hN15.push hg16 hl5 (by rw[wv_app];exact ho16)
     have hu17:But w1.heap.size w16 (w16.setCell ⟨w1.heap.size,3,none⟩ (.slice A16 (m+1) c16)):=But.set_ (g:=w1.heap.size) w16 (p:=⟨w1.heap.size,3,none⟩) rfl _
     go_roundw
     case rel=>
      exact⟨k - 1,m+1,c16,A16,_,acc++[(((b:Int),(a:Int)),(o:Int),decide (q=1))],by rw[show ((k:Int) - 1)=((k - 1:Nat):Int) by omega],by omega,(HP14.out.below hbg (by omega)).but hu17 (by omega),hN17,below_but (HB14.out.trans (hbg.mono (by omega))) hu17 (by omega) (by omega),(HR14.out.below hbg (by omega)).but hu17 (by omega),HCX.out,HNX.out⟩
     case measure=>simp[intOf];omega
    ·rw[show Wq.stW (some r4) q=some r4 from if_neg hq2] at HNX HCX
     have hq3:decide ((1:Int) < (q:Int))=false:=by simp;omega
     have hu14:But (w.heap.size+1) (w12.setCell ⟨w8.heap.size,3,none⟩ (.bool (decide (q=1)))) ((w12.setCell ⟨w8.heap.size,3,none⟩ (.bool (decide (q=1)))).setCell ⟨w.heap.size+1,2,none⟩ (.bool false)):=But.set_ (g:=w.heap.size+1) _ (p:=⟨w.heap.size+1,2,none⟩) rfl _
     have hP14:PR ((w12.setCell ⟨w8.heap.size,3,none⟩ (.bool (decide (q=1)))).setCell ⟨w.heap.size+1,2,none⟩ (.bool false)) (w.heap.size+1) n _:=hP13.keep_
     have hY14:=hY13.but hu14 (by omega)
     have hN14:=hN13.but hu14 (by omega) (by omega)
     have hR14:=hR13.but hu14 (by omega)
     have hb14:=below_but hb13 hu14 (by omega) (by omega)
     obtain⟨y0,y1,y2,y3⟩:=hY14.four
     have xc3:=hN14.blk.cell 3
     obtain⟨W14,hW14⟩:∃W14,W14=(w12.setCell ⟨w8.heap.size,3,none⟩ (.bool (decide (q=1)))).setCell ⟨w.heap.size+1,2,none⟩ (.bool false):=⟨_,rfl⟩
     have hs14:W14.heap.size=w12.heap.size:=by rw[hW14];simp
     have HW14:=Hz_ hW14.symm
     rw[←hW14] at hP14 hN14 hR14 hb14
     have hl4:=hN14.own.l4
     dsimp only at hl4
     have hmm:m≤4294967296:=by omega
     have h63:m+1≤maxLen:=by unfold maxLen;omega
     have h1max:1≤maxLen:=by unfold maxLen;omega
     have hoc:∀u∈[Value.int .i64 (b:Int),.int .i64 (a:Int),.int .i64 (o:Int),.bool (decide (q=1))],u.oneCell'=true:=by
      intro u hu
      simp only[List.mem_cons,List.not_mem_nil,or_false] at hu
      rcases hu with rfl | rfl | rfl | rfl<;>rfl
     have HRN:=Hz_ (show Rd (W14.alloc (.cells #[.int .i64 b,.int .i64 a,.int .i64 o,.bool (decide (q=1))] 70)) (w12.heap.size+1) 4 (some ⟨w12.heap.size,0,none⟩) 1 1 [.int .i64 b,.int .i64 a,.int .i64 o,.bool (decide (q=1))] from by have h:=Rd.new W14 70 4 1 #[.int .i64 b,.int .i64 a,.int .i64 o,.bool (decide (q=1))] rfl h1max;rw[hs14] at h;exact h)
     have HN14:=Hz_ hN14
     have HP14:=Hz_ hP14
     have HR14:=Hz_ hR14
     have HB14:=Hz_ hb14
     clear hu14 hY14 hN14 hR14 hb14 hP14 hY13 hN13 hR13 hb13 hP13 hW14 hA
     go_wp2_with (at_builtin;rw[HW14.out];go_must (refine wpList_append_rd _ rfl (.tmp 58) (.tmp 60) _ rfl W0.heap.size 70 i0 _ 4 32 Tryz.underlying24 hi0 hz0 hz1 hz2 rfl (by decide) (.slice A' m c') m _ rfl (HN14.out.own.o4.alloc _) (w12.heap.size+1) (some ⟨w12.heap.size,0,none⟩) 1 1 [.int .i64 b,.int .i64 a,.int .i64 o,.bool (decide (q=1))] rfl HRN.out hoc h63 (by omega) (by simp;omega) ?_);intro A16 c16 w16 ho16 hg16 hat16;have hN15:=HN14.out.go (w':=W14.alloc (.cells #[.int .i64 b,.int .i64 a,.int .i64 o,.bool (decide (q=1))] 70)) ((Below.refl _ _).alloc (Nat.le_refl _) _);have hB16:=(hN15.grow hg16).1;have xf3:=hB16.frozen 3;have xd3:=hB16.cell 3)
     have hbg:Below W0.heap.size W14 w16:=((Below.refl _ _).alloc (by omega) _).trans (grown_below hg16 (by simp;omega) (fun j hj=>own_lt HN14.out.own.o4 j hj))
     have hs16:=hbg.size
     have hl5:(acc++[(((b:Int),(a:Int)),(o:Int),decide (q=1))]).length=m+1:=by rw[List.length_append,hl4];rfl
     have hN17:=hN15.push hg16 hl5 (by rw[wv_app];exact ho16)
     have hu17:But w1.heap.size w16 (w16.setCell ⟨w1.heap.size,3,none⟩ (.slice A16 (m+1) c16)):=But.set_ (g:=w1.heap.size) w16 (p:=⟨w1.heap.size,3,none⟩) rfl _
     go_roundw
     case rel=>
      exact⟨k - 1,m+1,c16,A16,_,acc++[(((b:Int),(a:Int)),(o:Int),decide (q=1))],by rw[show ((k:Int) - 1)=((k - 1:Nat):Int) by omega],by omega,(HP14.out.below hbg (by omega)).but hu17 (by omega),hN17,below_but (HB14.out.trans (hbg.mono (by omega))) hu17 (by omega) (by omega),(HR14.out.below hbg (by omega)).but hu17 (by omega),HCX.out,HNX.out⟩
     case measure=>simp[intOf];omega
  ·have HN6:=Hz_ (show NtX wr.drew W0.heap.size w1.heap.size ⟨A1,vs.length,c1,A2,ve.length,c2,A3,vb.length,c3,A',m,c'⟩ ⟨vs,ve,vb,acc⟩ from hN.go (Below.refl _ _).drew)
   have HR6:=Hz_ (show Blk wr.drew w.heap.size 26 #[.slice none 0 0,.slice none 0 0,.slice none 0 0,.slice none 0 0] from hRr)
   have HB6:=Hz_ hb.drew
   have HP6:=Hz_ (hP.go (Below.refl _ _).drew)
   have hwb:W0.heap.size≤wr.heap.size:=by omega
   have HF:=Hz_ fun (W:World) (hb':Below wr.drew.heap.size wr.drew W)=>noteFormed_any ⟨A1,vs.length,c1,A2,ve.length,c2,A3,vb.length,c3,A',m,c'⟩ ⟨vs,ve,vb,acc⟩ W ((HTB.out.below hb.drew).below hb') ((HN6.out.own.below hb').rd)
   obtain⟨q0,q1,q2,q3⟩:=HN6.out.blk.four
   have hl4:=hN.own.l4
   dsimp only at hl4
   have hP':=hP
   obtain⟨Ag,v1,bd,hBg⟩:∃(Ag v1:Value) (bd:Bool),Blk wr (w.heap.size+1) 156 #[Ag,v1,.bool bd]∧(bd=true↔s=none):=by
    cases s with
    | none=>obtain⟨A',n',c',k',h⟩:=hP';exact⟨_,_,_,h,by simp⟩
    | some l'=>obtain⟨A',n',c',h,_⟩:=hP';exact⟨_,_,_,h,by simp⟩
   obtain⟨hBg,hbd⟩:=hBg
   have gc2:=hBg.cell 2
   clear hN hRr hb hP hP' hBg
   by_cases hgood:(∃r,s=some r)∧ntF ⟨vs,ve,vb,acc⟩=true
   ·obtain⟨⟨r,rfl⟩,hnf⟩:=hgood
    obtain rfl:k=0:=by
     rcases Nat.eq_zero_or_pos k with h | h
     ·exact h
     ·exact absurd ⟨h,by simp⟩ hgo
    have HPP:=Hz_ (show Wq.pNt l=some (⟨vs,ve,vb,acc⟩,r) by
     have h:=HPA.out
     rw[←HS1.out,←HS2.out,←HS3.out,←HVS.out,←HVE.out,←HVB.out,hin.out.done] at h
     simp only at h
     rw[if_pos hnf] at h
     exact h)
    rw[hnf] at HF
    have HE:=Hz_ fun (W:World) (h:PR W (w.heap.size+1) n (some r))=>endN_ok (w.heap.size+1) n ⟨A1,vs.length,c1,A2,ve.length,c2,A3,vb.length,c3,A',m,c'⟩ r W h
    obtain rfl:bd=false:=by
     rcases bd with _ | _
     ·rfl
     ·exact absurd (hbd.1 rfl) (by simp)
    clear hbd hgo hin hca hnf
    go_wp2_with fail
    refine region_nrm fun K hK=>?_
    go_region_held3 (fun w'=>w'.cell? ⟨w1.heap.size,0,none⟩=some (.slice A1 vs.length c1)∧w'.cell? ⟨w1.heap.size,1,none⟩=some (.slice A2 ve.length c2)∧w'.cell? ⟨w1.heap.size,2,none⟩=some (.slice A3 vb.length c3)∧w'.cell? ⟨w1.heap.size,3,none⟩=some (.slice A' m c')) (first | exact⟨u0,u1,u2,u3⟩ | exact⟨t0,t1,t2,t3⟩ | exact⟨r0,r1,r2,r3⟩ | exact⟨q0,q1,q2,q3⟩ | go_keep) (first
     | (go_at_call 37;go_must (refine(HF.out _ (Below.refl _ _)).mono ?_);rintro e w17 ⟨rfl,hb17⟩;obtain⟨r0,r1,r2,r3⟩:=(HN6.out.go hb17).blk.four)
     | (go_at_call 126;go_must (refine(HE.out _ (HP6.out.go hb17)).mono ?_);rintro e w18 ⟨rfl,h18⟩;have hN8:=(HN6.out.go hb17).go h18;have hX8:=hN8.blk;obtain⟨t0,t1,t2,t3⟩:=hX8.four;obtain⟨u0,u1,u2,u3⟩:=((((hX8.far (p:=⟨w.heap.size,0,none⟩) (by show _≠w.heap.size;omega) (.slice A1 vs.length c1)).far (p:=⟨w.heap.size,1,none⟩) (by show _≠w.heap.size;omega) (.slice A2 ve.length c2)).far (p:=⟨w.heap.size,2,none⟩) (by show _≠w.heap.size;omega) (.slice A3 vb.length c3)).far (p:=⟨w.heap.size,3,none⟩) (by show _≠w.heap.size;omega) (.slice A' m c')).four;have hR8:=(HR6.out.go hb17).go h18;obtain⟨z0,z1,z2,z3⟩:=hR8.four;have y0:=hR8.frozen 0;have y1:=hR8.frozen 1;have y2:=hR8.frozen 2;have y3:=hR8.frozen 3))
    refine Nrm.out (hK _ _ ?_)
    go_wp2
    have hF:=(((hR8.set_ 0 (.slice A1 vs.length c1)).set_ 1 (.slice A2 ve.length c2)).set_ 2 (.slice A3 vb.length c3)).set_ 3 (.slice A' m c')
    have hbw:=below_then (btn HB6.out hb17) (Nat.le_refl _) h18
    obtain⟨e1,e2,e3⟩:=g_yes (d:=(⟨[],[],[],[]⟩:Nt)) HPP.out
    rw[e1,e2,e3]
    have hu:But w.heap.size w18 ((((w18.setCell ⟨w.heap.size,0,none⟩ (.slice A1 vs.length c1)).setCell ⟨w.heap.size,1,none⟩ (.slice A2 ve.length c2)).setCell ⟨w.heap.size,2,none⟩ (.slice A3 vb.length c3)).setCell ⟨w.heap.size,3,none⟩ (.slice A' m c')):=
     (((But.set_ (g:=w.heap.size) _ (p:=⟨w.heap.size,0,none⟩) rfl _).trans (But.set_ (g:=w.heap.size) _ (p:=⟨w.heap.size,1,none⟩) rfl _)).trans (But.set_ (g:=w.heap.size) _ (p:=⟨w.heap.size,2,none⟩) rfl _)).trans (But.set_ (g:=w.heap.size) _ (p:=⟨w.heap.size,3,none⟩) rfl _)
    refine bodyPost_ret (res_ctt rfl _ _ w.heap.size 26 _ _ _ rfl hF Tryz.underlying26 rfl (by kernel_rfl)) rfl ⟨⟨A1,vs.length,c1,A2,ve.length,c2,A3,vb.length,c3,A',m,c'⟩,by rw[HL.out]<;>rfl,(hN8.own.but hu (by omega)).less (by omega),((((hbw.setCell (p:=⟨w.heap.size,0,none⟩) (Nat.le_refl _) _).setCell (p:=⟨w.heap.size,1,none⟩) (Nat.le_refl _) _).setCell (p:=⟨w.heap.size,2,none⟩) (Nat.le_refl _) _).setCell (p:=⟨w.heap.size,3,none⟩) (Nat.le_refl _) _)⟩
   ·have hs:s=none∨ntF ⟨vs,ve,vb,acc⟩=false:=by
     rcases s with _ | r
     ·exact .inl rfl
     ·refine .inr ?_
      rcases hz:ntF ⟨vs,ve,vb,acc⟩ with _ | _
      ·rfl
      ·exact absurd ⟨⟨r,rfl⟩,hz⟩ hgood
    have hk00:s≠none→k=0:=fun h=>by
     rcases Nat.eq_zero_or_pos k with h' | h'
     ·exact h'
     ·exact absurd ⟨h',h⟩ hgo
    have HPP:=Hz_ (show Wq.pNt l=none by
     have h:=HPA.out
     rw[←HS1.out,←HS2.out,←HS3.out,←HVS.out,←HVE.out,←HVB.out] at h
     rw[h]
     rcases s with _ | r
     ·have hf:Wq.allW s3=none:=hin.out
      rw[hf]
     ·obtain rfl:=hk00 (by simp)
      rw[hin.out.done]
      simp only
      rcases hs with hs | hs
      ·cases hs
      ·rw[hs];rfl)
    generalize ntF ⟨vs,ve,vb,acc⟩=z at HF hs
    have HE:=Hz_ fun (W:World) (h:PR W (w.heap.size+1) n s)=>endN_bad (w.heap.size+1) n ⟨A1,vs.length,c1,A2,ve.length,c2,A3,vb.length,c3,A',m,c'⟩ z s W h hs
    have hcond:bd=true∨k=0:=by
     rcases bd with _ | _
     ·exact .inr (hk00 (fun h=>by have:=hbd.2 h;cases this))
     ·exact .inl rfl
    clear hbd hgo hin hca hs hgood hk00
    rcases hcond with rfl | rfl
    ·by_cases hk1:0 < k
     ·go_wp2_with fail
      refine region_nrm fun K hK=>?_
      go_region_held3 (fun w'=>w'.cell? ⟨w1.heap.size,0,none⟩=some (.slice A1 vs.length c1)∧w'.cell? ⟨w1.heap.size,1,none⟩=some (.slice A2 ve.length c2)∧w'.cell? ⟨w1.heap.size,2,none⟩=some (.slice A3 vb.length c3)∧w'.cell? ⟨w1.heap.size,3,none⟩=some (.slice A' m c')) (first | exact⟨u0,u1,u2,u3⟩ | exact⟨t0,t1,t2,t3⟩ | exact⟨r0,r1,r2,r3⟩ | exact⟨q0,q1,q2,q3⟩ | go_keep) (first
       | (go_at_call 37;go_must (refine(HF.out _ (Below.refl _ _)).mono ?_);rintro e w17 ⟨rfl,hb17⟩;obtain⟨r0,r1,r2,r3⟩:=(HN6.out.go hb17).blk.four)
       | (go_at_call 126;go_must (refine(HE.out _ (HP6.out.go hb17)).mono ?_);rintro e w18 ⟨rfl,h18⟩;have hN8:=(HN6.out.go hb17).but h18 (by omega) (by omega);have hX8:=hN8.blk;obtain⟨t0,t1,t2,t3⟩:=hX8.four;obtain⟨u0,u1,u2,u3⟩:=((((hX8.far (p:=⟨w.heap.size,0,none⟩) (by show _≠w.heap.size;omega) (.slice none 0 0)).far (p:=⟨w.heap.size,1,none⟩) (by show _≠w.heap.size;omega) (.slice none 0 0)).far (p:=⟨w.heap.size,2,none⟩) (by show _≠w.heap.size;omega) (.slice none 0 0)).far (p:=⟨w.heap.size,3,none⟩) (by show _≠w.heap.size;omega) (.slice none 0 0)).four;have hR8:=(HR6.out.go hb17).but h18 (by omega);obtain⟨z0,z1,z2,z3⟩:=hR8.four;have y0:=hR8.frozen 0;have y1:=hR8.frozen 1;have y2:=hR8.frozen 2;have y3:=hR8.frozen 3))
      refine Nrm.out (hK _ _ ?_)
      go_wp2
      have hF:=(((hR8.set_ 0 (.slice none 0 0)).set_ 1 (.slice none 0 0)).set_ 2 (.slice none 0 0)).set_ 3 (.slice none 0 0)
      have hbw:=below_but (btn HB6.out hb17) h18 (by have:=hb17.size;simp at this;omega) (by omega)
      obtain⟨e1,e2,e3⟩:=g_no (d:=(⟨[],[],[],[]⟩:Nt)) HPP.out
      rw[e1,e2,e3]
      refine bodyPost_ret (res_ctt rfl _ _ w.heap.size 26 _ _ _ rfl hF Tryz.underlying26 rfl (by kernel_rfl)) rfl ⟨NV0,rfl,⟨rfl,World.ownsRow_nil _ _ _ _,rfl,World.ownsRow_nil _ _ _ _,rfl,World.ownsRow_nil _ _ _ _,rfl,World.ownsRow_nil _ _ _ _⟩,((((hbw.setCell (p:=⟨w.heap.size,0,none⟩) (Nat.le_refl _) _).setCell (p:=⟨w.heap.size,1,none⟩) (Nat.le_refl _) _).setCell (p:=⟨w.heap.size,2,none⟩) (Nat.le_refl _) _).setCell (p:=⟨w.heap.size,3,none⟩) (Nat.le_refl _) _)⟩
     ·obtain rfl:k=0:=by omega
      go_wp2_with fail
      refine region_nrm fun K hK=>?_
      go_region_held3 (fun w'=>w'.cell? ⟨w1.heap.size,0,none⟩=some (.slice A1 vs.length c1)∧w'.cell? ⟨w1.heap.size,1,none⟩=some (.slice A2 ve.length c2)∧w'.cell? ⟨w1.heap.size,2,none⟩=some (.slice A3 vb.length c3)∧w'.cell? ⟨w1.heap.size,3,none⟩=some (.slice A' m c')) (first | exact⟨u0,u1,u2,u3⟩ | exact⟨t0,t1,t2,t3⟩ | exact⟨r0,r1,r2,r3⟩ | exact⟨q0,q1,q2,q3⟩ | go_keep) (first
       | (go_at_call 37;go_must (refine(HF.out _ (Below.refl _ _)).mono ?_);rintro e w17 ⟨rfl,hb17⟩;obtain⟨r0,r1,r2,r3⟩:=(HN6.out.go hb17).blk.four)
       | (go_at_call 126;go_must (refine(HE.out _ (HP6.out.go hb17)).mono ?_);rintro e w18 ⟨rfl,h18⟩;have hN8:=(HN6.out.go hb17).but h18 (by omega) (by omega);have hX8:=hN8.blk;obtain⟨t0,t1,t2,t3⟩:=hX8.four;obtain⟨u0,u1,u2,u3⟩:=((((hX8.far (p:=⟨w.heap.size,0,none⟩) (by show _≠w.heap.size;omega) (.slice none 0 0)).far (p:=⟨w.heap.size,1,none⟩) (by show _≠w.heap.size;omega) (.slice none 0 0)).far (p:=⟨w.heap.size,2,none⟩) (by show _≠w.heap.size;omega) (.slice none 0 0)).far (p:=⟨w.heap.size,3,none⟩) (by show _≠w.heap.size;omega) (.slice none 0 0)).four;have hR8:=(HR6.out.go hb17).but h18 (by omega);obtain⟨z0,z1,z2,z3⟩:=hR8.four;have y0:=hR8.frozen 0;have y1:=hR8.frozen 1;have y2:=hR8.frozen 2;have y3:=hR8.frozen 3))
      refine Nrm.out (hK _ _ ?_)
      go_wp2
      have hF:=(((hR8.set_ 0 (.slice none 0 0)).set_ 1 (.slice none 0 0)).set_ 2 (.slice none 0 0)).set_ 3 (.slice none 0 0)
      have hbw:=below_but (btn HB6.out hb17) h18 (by have:=hb17.size;simp at this;omega) (by omega)
      obtain⟨e1,e2,e3⟩:=g_no (d:=(⟨[],[],[],[]⟩:Nt)) HPP.out
      rw[e1,e2,e3]
      refine bodyPost_ret (res_ctt rfl _ _ w.heap.size 26 _ _ _ rfl hF Tryz.underlying26 rfl (by kernel_rfl)) rfl ⟨NV0,rfl,⟨rfl,World.ownsRow_nil _ _ _ _,rfl,World.ownsRow_nil _ _ _ _,rfl,World.ownsRow_nil _ _ _ _,rfl,World.ownsRow_nil _ _ _ _⟩,((((hbw.setCell (p:=⟨w.heap.size,0,none⟩) (Nat.le_refl _) _).setCell (p:=⟨w.heap.size,1,none⟩) (Nat.le_refl _) _).setCell (p:=⟨w.heap.size,2,none⟩) (Nat.le_refl _) _).setCell (p:=⟨w.heap.size,3,none⟩) (Nat.le_refl _) _)⟩
    ·rcases bd with _ | _
     ·go_wp2_with fail
      refine region_nrm fun K hK=>?_
      go_region_held3 (fun w'=>w'.cell? ⟨w1.heap.size,0,none⟩=some (.slice A1 vs.length c1)∧w'.cell? ⟨w1.heap.size,1,none⟩=some (.slice A2 ve.length c2)∧w'.cell? ⟨w1.heap.size,2,none⟩=some (.slice A3 vb.length c3)∧w'.cell? ⟨w1.heap.size,3,none⟩=some (.slice A' m c')) (first | exact⟨u0,u1,u2,u3⟩ | exact⟨t0,t1,t2,t3⟩ | exact⟨r0,r1,r2,r3⟩ | exact⟨q0,q1,q2,q3⟩ | go_keep) (first
       | (go_at_call 37;go_must (refine(HF.out _ (Below.refl _ _)).mono ?_);rintro e w17 ⟨rfl,hb17⟩;obtain⟨r0,r1,r2,r3⟩:=(HN6.out.go hb17).blk.four)
       | (go_at_call 126;go_must (refine(HE.out _ (HP6.out.go hb17)).mono ?_);rintro e w18 ⟨rfl,h18⟩;have hN8:=(HN6.out.go hb17).but h18 (by omega) (by omega);have hX8:=hN8.blk;obtain⟨t0,t1,t2,t3⟩:=hX8.four;obtain⟨u0,u1,u2,u3⟩:=((((hX8.far (p:=⟨w.heap.size,0,none⟩) (by show _≠w.heap.size;omega) (.slice none 0 0)).far (p:=⟨w.heap.size,1,none⟩) (by show _≠w.heap.size;omega) (.slice none 0 0)).far (p:=⟨w.heap.size,2,none⟩) (by show _≠w.heap.size;omega) (.slice none 0 0)).far (p:=⟨w.heap.size,3,none⟩) (by show _≠w.heap.size;omega) (.slice none 0 0)).four;have hR8:=(HR6.out.go hb17).but h18 (by omega);obtain⟨z0,z1,z2,z3⟩:=hR8.four;have y0:=hR8.frozen 0;have y1:=hR8.frozen 1;have y2:=hR8.frozen 2;have y3:=hR8.frozen 3))
      refine Nrm.out (hK _ _ ?_)
      go_wp2
      have hF:=(((hR8.set_ 0 (.slice none 0 0)).set_ 1 (.slice none 0 0)).set_ 2 (.slice none 0 0)).set_ 3 (.slice none 0 0)
      have hbw:=below_but (btn HB6.out hb17) h18 (by have:=hb17.size;simp at this;omega) (by omega)
      obtain⟨e1,e2,e3⟩:=g_no (d:=(⟨[],[],[],[]⟩:Nt)) HPP.out
      rw[e1,e2,e3]
      refine bodyPost_ret (res_ctt rfl _ _ w.heap.size 26 _ _ _ rfl hF Tryz.underlying26 rfl (by kernel_rfl)) rfl ⟨NV0,rfl,⟨rfl,World.ownsRow_nil _ _ _ _,rfl,World.ownsRow_nil _ _ _ _,rfl,World.ownsRow_nil _ _ _ _,rfl,World.ownsRow_nil _ _ _ _⟩,((((hbw.setCell (p:=⟨w.heap.size,0,none⟩) (Nat.le_refl _) _).setCell (p:=⟨w.heap.size,1,none⟩) (Nat.le_refl _) _).setCell (p:=⟨w.heap.size,2,none⟩) (Nat.le_refl _) _).setCell (p:=⟨w.heap.size,3,none⟩) (Nat.le_refl _) _)⟩
     ·go_wp2_with fail
      refine region_nrm fun K hK=>?_
      go_region_held3 (fun w'=>w'.cell? ⟨w1.heap.size,0,none⟩=some (.slice A1 vs.length c1)∧w'.cell? ⟨w1.heap.size,1,none⟩=some (.slice A2 ve.length c2)∧w'.cell? ⟨w1.heap.size,2,none⟩=some (.slice A3 vb.length c3)∧w'.cell? ⟨w1.heap.size,3,none⟩=some (.slice A' m c')) (first | exact⟨u0,u1,u2,u3⟩ | exact⟨t0,t1,t2,t3⟩ | exact⟨r0,r1,r2,r3⟩ | exact⟨q0,q1,q2,q3⟩ | go_keep) (first
       | (go_at_call 37;go_must (refine(HF.out _ (Below.refl _ _)).mono ?_);rintro e w17 ⟨rfl,hb17⟩;obtain⟨r0,r1,r2,r3⟩:=(HN6.out.go hb17).blk.four)
       | (go_at_call 126;go_must (refine(HE.out _ (HP6.out.go hb17)).mono ?_);rintro e w18 ⟨rfl,h18⟩;have hN8:=(HN6.out.go hb17).but h18 (by omega) (by omega);have hX8:=hN8.blk;obtain⟨t0,t1,t2,t3⟩:=hX8.four;obtain⟨u0,u1,u2,u3⟩:=((((hX8.far (p:=⟨w.heap.size,0,none⟩) (by show _≠w.heap.size;omega) (.slice none 0 0)).far (p:=⟨w.heap.size,1,none⟩) (by show _≠w.heap.size;omega) (.slice none 0 0)).far (p:=⟨w.heap.size,2,none⟩) (by show _≠w.heap.size;omega) (.slice none 0 0)).far (p:=⟨w.heap.size,3,none⟩) (by show _≠w.heap.size;omega) (.slice none 0 0)).four;have hR8:=(HR6.out.go hb17).but h18 (by omega);obtain⟨z0,z1,z2,z3⟩:=hR8.four;have y0:=hR8.frozen 0;have y1:=hR8.frozen 1;have y2:=hR8.frozen 2;have y3:=hR8.frozen 3))
      refine Nrm.out (hK _ _ ?_)
      go_wp2
      have hF:=(((hR8.set_ 0 (.slice none 0 0)).set_ 1 (.slice none 0 0)).set_ 2 (.slice none 0 0)).set_ 3 (.slice none 0 0)
      have hbw:=below_but (btn HB6.out hb17) h18 (by have:=hb17.size;simp at this;omega) (by omega)
      obtain⟨e1,e2,e3⟩:=g_no (d:=(⟨[],[],[],[]⟩:Nt)) HPP.out
      rw[e1,e2,e3]
      refine bodyPost_ret (res_ctt rfl _ _ w.heap.size 26 _ _ _ rfl hF Tryz.underlying26 rfl (by kernel_rfl)) rfl ⟨NV0,rfl,⟨rfl,World.ownsRow_nil _ _ _ _,rfl,World.ownsRow_nil _ _ _ _,rfl,World.ownsRow_nil _ _ _ _,rfl,World.ownsRow_nil _ _ _ _⟩,((((hbw.setCell (p:=⟨w.heap.size,0,none⟩) (Nat.le_refl _) _).setCell (p:=⟨w.heap.size,1,none⟩) (Nat.le_refl _) _).setCell (p:=⟨w.heap.size,2,none⟩) (Nat.le_refl _) _).setCell (p:=⟨w.heap.size,3,none⟩) (Nat.le_refl _) _)⟩
end Go.Proofs.YtmbeahbgafkjfaaGreatDoor
