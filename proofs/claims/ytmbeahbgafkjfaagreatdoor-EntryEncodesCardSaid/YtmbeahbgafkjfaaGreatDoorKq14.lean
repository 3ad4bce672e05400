/- Lemmas for the claim, layer 14. -/
import Derived.Test.YtmbeahbgafkjfaaGreatDoorKq07
set_option maxRecDepth 100000
set_option maxHeartbeats 16000000
namespace Go.Proofs.YtmbeahbgafkjfaaGreatDoor
open Go.RowKit
theorem refNoteFormed_any (v:NV) (x:Nt) (w:World) (hN:NtRd w w.heap.size v x):
  Calls Tryz.prog 43 #[.agg v.val] w fun e w'=>e=.returned (.bool (ntF x))∧Below w.heap.size w w':=by
 obtain⟨A1,n1,c1,A2,n2,c2,A3,n3,c3,A4,n4,c4⟩:=v
 have hb0:Below w.heap.size w (w.alloc (.cells #[.slice A1 n1 c1,.slice A2 n2 c2,.slice A3 n3 c3,.slice A4 n4 c4] 26)):=(Below.refl _ _).alloc (Nat.le_refl _) _
 have hBx:=Blk.new w 26 #[.slice A1 n1 c1,.slice A2 n2 c2,.slice A3 n3 c3,.slice A4 n4 c4]
 obtain⟨w0,hw0⟩:∃w0,w0=w.alloc (.cells #[.slice A1 n1 c1,.slice A2 n2 c2,.slice A3 n3 c3,.slice A4 n4 c4] 26):=⟨_,rfl⟩
 rw[←hw0] at hb0 hBx
 have hN0:=hN.go hb0
 obtain⟨l1,m1,l2,m2,l3,m3,l4,m4⟩:=hN0
 dsimp only at l1 m1 l2 m2 l3 m3 l4 m4
 have hQ:∀W,Below w0.heap.size w0 W→(W.cell? ⟨w.heap.size,0,none⟩=some (.slice A1 n1 c1)∧W.cell? ⟨w.heap.size,1,none⟩=some (.slice A2 n2 c2)∧W.cell? ⟨w.heap.size,2,none⟩=some (.slice A3 n3 c3)∧W.cell? ⟨w.heap.size,3,none⟩=some (.slice A4 n4 c4)):=
  fun W hb=>⟨(hBx.go hb).cell 0,(hBx.go hb).cell 1,(hBx.go hb).cell 2,(hBx.go hb).cell 3⟩
 have HQ:=Hz_ hQ
 have H1:=Hz_ fun (W:World) (hb:Below w0.heap.size w0 W)=>refFormed_any A1 n1 c1 x.s W l1 (m1.go hb)
 have H2:=Hz_ fun (W:World) (hb:Below w0.heap.size w0 W)=>refFormed_any A2 n2 c2 x.e W l2 (m2.go hb)
 have H3:=Hz_ fun (W:World) (hb:Below w0.heap.size w0 W)=>refCovers_any A2 A1 n2 c2 n1 c1 x.e x.s W l2 l1 (m2.go hb) (m1.go hb)
 have H4:=Hz_ fun (W:World) (hb:Below w0.heap.size w0 W)=>refFormedS_any A3 n3 c3 x.b W l3 (m3.go hb)
 have H5:=Hz_ fun (W:World) (hb:Below w0.heap.size w0 W) o=>refHasS_any A3 n3 c3 x.b o W l3 (m3.go hb)
 have H6:=Hz_ fun (W:World) (hb:Below w0.heap.size w0 W) sc sn=>refHas_any A2 n2 c2 x.e (sc,sn) W l2 (m2.go hb)
 have HW4:=Hz_ fun (W:World) (hb:Below w0.heap.size w0 W) k (hk:k < x.w.length)=>(m4.go hb).write l4 hk
 have HL4:=Hz_ l4
 have hmax:n4≤9223372036854775807:=by have h1:=m4.cap;have h2:=m4.max;unfold maxLen at h2;omega
 have hf0:ntF x=((fm (-1) x.s && (fm (-1) x.e && (covB (Vc.cnt x.e) (Vc.cnt x.s) && Sn.fmS (-2) x.b))) && ntW x.e x.b (-1) x.w):=rfl
 have HDrop:=Hz_ fun last k h=>ntW_drop x.e x.b last x.w k h
 have HNil:=Hz_ fun last k (h:n4≤k)=>show ntW x.e x.b last (x.w.drop k)=true by rw[List.drop_of_length_le (by rw[HL4.out];exact h)];rfl
 generalize fm (-1) x.s=f1 at H1 hf0
 generalize fm (-1) x.e=f2 at H2 hf0
 generalize covB (Vc.cnt x.e) (Vc.cnt x.s)=f3 at H3 hf0
 generalize Sn.fmS (-2) x.b=f4 at H4 hf0
 have HF:=Hz_ hf0
 have HW:=Hz_ hw0.symm
 have k:=Below.refl w0.heap.size w0
 obtain⟨q0,q1,q2,q3⟩:=hQ w0 k
 clear hN l1 m1 l2 m2 l3 m3 l4 m4 hBx hQ hf0 hw0
 go_enter Tryz.func43,Tryz.ntmps43
 go_wp2_with fail
 rw[HW.out]
 cases f1<;>cases f2<;>cases f3<;>cases f4
 all_goals
  go_wp2_with (first
   | (go_at_call 84;(first
    | ((with_reducible refine(H1.out _ k).mono ?_);rintro e w' ⟨rfl,hb'⟩;have k:=btn k hb';clear hb';obtain⟨q0,q1,q2,q3⟩:=HQ.out _ k)
    | ((with_reducible refine(H2.out _ k).mono ?_);rintro e w' ⟨rfl,hb'⟩;have k:=btn k hb';clear hb';obtain⟨q0,q1,q2,q3⟩:=HQ.out _ k)))
   | (go_at_call 113;go_must (with_reducible refine(H3.out _ k).mono ?_);rintro e w' ⟨rfl,hb'⟩;have k:=btn k hb';clear hb';obtain⟨q0,q1,q2,q3⟩:=HQ.out _ k)
   | (go_at_call 46;go_must (with_reducible refine(H4.out _ k).mono ?_);rintro e w' ⟨rfl,hb'⟩;have k:=btn k hb';clear hb';obtain⟨q0,q1,q2,q3⟩:=HQ.out _ k))
  first
  | (go_ret;exact⟨by rw[HF.out];rfl,btn hb0 k⟩)
  | skip
 go_loopw [3] (fun i wr=>∃(j:Nat),j≤n4∧i=.int .i64 j∧Below w0.heap.size w0 wr∧Hid (ntW x.e x.b (-1) x.w=ntW x.e x.b (aheadW x.w j) (x.w.drop j))) (fun i _=>n4 - (intOf i).toNat)
 case atStart=>exact⟨0,by omega,rfl,k,rfl⟩
 case round=>
  obtain⟨j,hj,rfl,hb,hr⟩:=hrel
  clear q0 q1 q2 q3 k
  by_cases hlt:j < n4
  ·have hjl:j < x.w.length:=by rw[HL4.out];exact hlt
   obtain⟨b,o,rfl,hbb,g0,g1,g2,g3⟩:=HW4.out wr hb j hjl
   obtain⟨q0,q1,q2,q3⟩:=HQ.out _ hb
   have HD:=hr.out.trans (HDrop.out (aheadW x.w j) j hjl)
   rw[wOk_ref] at HD
   generalize hc:x.w[j].1.1=sc at g0
   generalize hn:x.w[j].1.2=sn at g1
   generalize ho:x.w[j].2.1=ob at g2 HD
   generalize hg:x.w[j].2.2=gn at g3
   have HO:=Hz_ ho
   have hst:x.w[j].1=(sc,sn):=by rw[←hc,←hn]
   rw[hst] at HD
   have H5'':=fun W hb=>H5.out W hb ob
   have H6'':=fun W hb=>H6.out W hb sc sn
   generalize hasO x.b ob=z2 at H5'' HD
   generalize hasB x.e (sc,sn)=z3 at H6'' HD
   have G5:=Hz_ H5''
   have G6:=Hz_ H6''
   have HB:=Hz_ hb
   have hB1:=Blk.new wr 70 #[.int .i64 sc,.int .i64 sn,.int .i64 ob,.bool gn]
   have k1:Below w0.heap.size w0 (wr.alloc (.cells #[.int .i64 sc,.int .i64 sn,.int .i64 ob,.bool gn] 70)):=hb.alloc hb.size _
   obtain⟨w1,hw1⟩:∃w1,w1=wr.alloc (.cells #[.int .i64 sc,.int .i64 sn,.int .i64 ob,.bool gn] 70):=⟨_,rfl⟩
   rw[←hw1] at hB1 k1
   have HR:=Hz_ fun W (hk:Below w0.heap.size w0 W) (hb:Below w1.heap.size w1 W)=>(show (W.cell? ⟨w.heap.size,0,none⟩=some (.slice A1 n1 c1)∧W.cell? ⟨w.heap.size,1,none⟩=some (.slice A2 n2 c2)∧W.cell? ⟨w.heap.size,2,none⟩=some (.slice A3 n3 c3)∧W.cell? ⟨w.heap.size,3,none⟩=some (.slice (some ⟨b,o,none⟩) n4 c4)∧W.cell? ⟨wr.heap.size,0,none⟩=some (.int .i64 sc)∧W.cell? ⟨wr.heap.size,1,none⟩=some (.int .i64 sn)∧W.cell? ⟨wr.heap.size,2,none⟩=some (.int .i64 ob)∧W.cell? ⟨wr.heap.size,3,none⟩=some (.bool gn)) from
    ⟨(HQ.out W hk).1,(HQ.out W hk).2.1,(HQ.out W hk).2.2.1,(HQ.out W hk).2.2.2,(hB1.go hb).cell 0,(hB1.go hb).cell 1,(hB1.go hb).cell 2,(hB1.go hb).cell 3⟩)
   have HW1:=Hz_ hw1.symm
   have K1:=Hz_ k1
   have HDD:=Hz_ HD
   clear HD
   by_cases hj0:j=0
   ·have hah:aheadW x.w j=-1:=by rw[hj0];exact aheadW_zero _
    have dj:decide (0 < j)=false:=by simp;omega
    clear hj0
    rw[hah] at HDD
    have HS:=Hz_ fun W (hb:Below w1.heap.size w1 W)=>HR.out W (btn K1.out hb) hb
    clear hah
    have k:Below w0.heap.size w0 w1.drew:=K1.out.drew
    have kk:Below w1.heap.size w1 w1.drew:=(Below.refl _ w1).drew
    clear hc hn ho hg hst H5'' H6'' hb hr hB1 k1 hw1
    cases z3
    ·have HN:=Hz_ (show ntF x=false by rw[HF.out,HDD.out];rfl)
     go_wp2
     rw[HW1.out]
     refine region_nrm fun KK hKK=>?_
     refine wp_region_held_drew (S:=(fun W=>W.cell? ⟨w.heap.size,0,none⟩=some (.slice A1 n1 c1)∧W.cell? ⟨w.heap.size,1,none⟩=some (.slice A2 n2 c2)∧W.cell? ⟨w.heap.size,2,none⟩=some (.slice A3 n3 c3)∧W.cell? ⟨w.heap.size,3,none⟩=some (.slice (some ⟨b,o,none⟩) n4 c4)∧W.cell? ⟨wr.heap.size,0,none⟩=some (.int .i64 sc)∧W.cell? ⟨wr.heap.size,1,none⟩=some (.int .i64 sn)∧W.cell? ⟨wr.heap.size,2,none⟩=some (.int .i64 ob)∧W.cell? ⟨wr.heap.size,3,none⟩=some (.bool gn))) (by kernel_rfl) (by first | exact HS.out _ kk) (fun hHeld=>?_)
     refine puA 0 41 (HS.out _ kk) ?_
     refine puA 1 42 (HS.out _ kk) ?_
     refine puA 2 43 (HS.out _ kk) ?_
     refine puA 3 44 (HS.out _ kk) ?_
     refine puR 4 fun K hK=>?_
     go_simp
     refine(G6.out _ k).mono ?_
     rintro e w' ⟨rfl,hb'⟩
     have k:=btn k hb'
     have kk:=btn kk hb'
     clear hb'
     refine hK.out _ _ (HS.out _ kk) fun hHeld=>?_
     clear hK K
     refine puA 5 46 (HS.out _ kk) ?_
     refine puA 6 47 (HS.out _ kk) ?_
     refine puC 7 48 (HS.out _ kk) ?_
     refine puC 8 49 (HS.out _ kk) ?_
     refine puC 9 50 (HS.out _ kk) ?_
     refine puA 10 51 (HS.out _ kk) ?_
     refine puA 11 52 (HS.out _ kk) ?_
     refine puC 12 53 (HS.out _ kk) ?_
     refine puC 13 54 (HS.out _ kk) ?_
     refine puC 14 55 (HS.out _ kk) ?_
     refine puA 15 56 (HS.out _ kk) ?_
     refine puA 16 57 (HS.out _ kk) ?_
     refine puC 17 58 (HS.out _ kk) ?_
     refine puC 18 59 (HS.out _ kk) ?_
     refine puC 19 60 (HS.out _ kk) ?_
     refine puC 20 61 (HS.out _ kk) ?_
     refine puC 21 62 (HS.out _ kk) ?_
     refine puA 22 63 (HS.out _ kk) ?_
     refine puA 23 64 (HS.out _ kk) ?_
     refine puC 24 65 (HS.out _ kk) ?_
     refine puC 25 66 (HS.out _ kk) ?_
     refine puC 26 67 (HS.out _ kk) ?_
     refine puC 27 68 (HS.out _ kk) ?_
     refine puC 28 69 (HS.out _ kk) ?_
     refine puC 29 70 (HS.out _ kk) ?_
     refine puC 30 71 (HS.out _ kk) ?_
     refine puC 31 72 (HS.out _ kk) ?_
     refine puC 32 73 (HS.out _ kk) ?_
     refine puC 33 74 (HS.out _ kk) ?_
     refine puC 34 75 (HS.out _ kk) ?_
     refine puC 35 76 (HS.out _ kk) ?_
     refine puC 36 77 (HS.out _ kk) ?_
     refine puC 37 78 (HS.out _ kk) ?_
     refine puA 38 79 (HS.out _ kk) ?_
     refine wpAnyH_done (by kernel_rfl) ?_ _
     refine Nrm.out (hKK _ _ ?_)
     go_wp2
     go_ret
     exact⟨by rw[HN.out];rfl,btn hb0 k⟩
    by_cases u1:ob < 0
    ·have HN:=Hz_ (show ntF x=false by rw[HF.out,HDD.out];simp[show ¬ (0≤ob) by omega])
     go_wp2
     rw[HW1.out]
     refine region_nrm fun KK hKK=>?_
     refine wp_region_held_drew (S:=(fun W=>W.cell? ⟨w.heap.size,0,none⟩=some (.slice A1 n1 c1)∧W.cell? ⟨w.heap.size,1,none⟩=some (.slice A2 n2 c2)∧W.cell? ⟨w.heap.size,2,none⟩=some (.slice A3 n3 c3)∧W.cell? ⟨w.heap.size,3,none⟩=some (.slice (some ⟨b,o,none⟩) n4 c4)∧W.cell? ⟨wr.heap.size,0,none⟩=some (.int .i64 sc)∧W.cell? ⟨wr.heap.size,1,none⟩=some (.int .i64 sn)∧W.cell? ⟨wr.heap.size,2,none⟩=some (.int .i64 ob)∧W.cell? ⟨wr.heap.size,3,none⟩=some (.bool gn))) (by kernel_rfl) (by first | exact HS.out _ kk) (fun hHeld=>?_)
     refine puA 0 41 (HS.out _ kk) ?_
     refine puA 1 42 (HS.out _ kk) ?_
     refine puA 2 43 (HS.out _ kk) ?_
     refine puA 3 44 (HS.out _ kk) ?_
     refine puR 4 fun K hK=>?_
     go_simp
     refine(G6.out _ k).mono ?_
     rintro e w' ⟨rfl,hb'⟩
     have k:=btn k hb'
     have kk:=btn kk hb'
     clear hb'
     refine hK.out _ _ (HS.out _ kk) fun hHeld=>?_
     clear hK K
     refine puA 5 46 (HS.out _ kk) ?_
     refine puA 6 47 (HS.out _ kk) ?_
     refine puA 7 48 (HS.out _ kk) ?_
     refine puA 8 49 (HS.out _ kk) ?_
     refine puA 9 50 (HS.out _ kk) ?_
     refine puA 10 51 (HS.out _ kk) ?_
     refine puA 11 52 (HS.out _ kk) ?_
     refine puC 12 53 (HS.out _ kk) ?_
     refine puC 13 54 (HS.out _ kk) ?_
     refine puC 14 55 (HS.out _ kk) ?_
     refine puA 15 56 (HS.out _ kk) ?_
     refine puA 16 57 (HS.out _ kk) ?_
     refine puC 17 58 (HS.out _ kk) ?_
     refine puC 18 59 (HS.out _ kk) ?_
     refine puC 19 60 (HS.out _ kk) ?_
     refine puC 20 61 (HS.out _ kk) ?_
     refine puC 21 62 (HS.out _ kk) ?_
     refine puA 22 63 (HS.out _ kk) ?_
     refine puA 23 64 (HS.out _ kk) ?_
     refine puC 24 65 (HS.out _ kk) ?_
     refine puC 25 66 (HS.out _ kk) ?_
     refine puC 26 67 (HS.out _ kk) ?_
     refine puC 27 68 (HS.out _ kk) ?_
     refine puC 28 69 (HS.out _ kk) ?_
     refine puC 29 70 (HS.out _ kk) ?_
     refine puC 30 71 (HS.out _ kk) ?_
     refine puC 31 72 (HS.out _ kk) ?_
     refine puC 32 73 (HS.out _ kk) ?_
     refine puC 33 74 (HS.out _ kk) ?_
     refine puC 34 75 (HS.out _ kk) ?_
     refine puC 35 76 (HS.out _ kk) ?_
     refine puC 36 77 (HS.out _ kk) ?_
     refine puC 37 78 (HS.out _ kk) ?_
     refine puA 38 79 (HS.out _ kk) ?_
     refine wpAnyH_done (by kernel_rfl) ?_ _
     refine Nrm.out (hKK _ _ ?_)
     go_wp2
     go_ret
     exact⟨by rw[HN.out];rfl,btn hb0 k⟩
    by_cases u2:255 < ob
    ·have HN:=Hz_ (show ntF x=false by rw[HF.out,HDD.out];simp[show ¬ (ob≤255) by omega])
     have d1:decide (ob < 0)=false:=by simp;omega
     have d2:decide (ob > 255)=true:=by simp;omega
     go_wp2
     rw[HW1.out]
     refine region_nrm fun KK hKK=>?_
     refine wp_region_held_drew (S:=(fun W=>W.cell? ⟨w.heap.size,0,none⟩=some (.slice A1 n1 c1)∧W.cell? ⟨w.heap.size,1,none⟩=some (.slice A2 n2 c2)∧W.cell? ⟨w.heap.size,2,none⟩=some (.slice A3 n3 c3)∧W.cell? ⟨w.heap.size,3,none⟩=some (.slice (some ⟨b,o,none⟩) n4 c4)∧W.cell? ⟨wr.heap.size,0,none⟩=some (.int .i64 sc)∧W.cell? ⟨wr.heap.size,1,none⟩=some (.int .i64 sn)∧W.cell? ⟨wr.heap.size,2,none⟩=some (.int .i64 ob)∧W.cell? ⟨wr.heap.size,3,none⟩=some (.bool gn))) (by kernel_rfl) (by first | exact HS.out _ kk) (fun hHeld=>?_)
     refine puA 0 41 (HS.out _ kk) ?_
     refine puA 1 42 (HS.out _ kk) ?_
     refine puA 2 43 (HS.out _ kk) ?_
     refine puA 3 44 (HS.out _ kk) ?_
     refine puR 4 fun K hK=>?_
     go_simp
     refine(G6.out _ k).mono ?_
     rintro e w' ⟨rfl,hb'⟩
     have k:=btn k hb'
     have kk:=btn kk hb'
     clear hb'
     refine hK.out _ _ (HS.out _ kk) fun hHeld=>?_
     clear hK K
     refine puA 5 46 (HS.out _ kk) ?_
     refine puA 6 47 (HS.out _ kk) ?_
     refine puA 7 48 (HS.out _ kk) ?_
     refine puA 8 49 (HS.out _ kk) ?_
     refine puA 9 50 (HS.out _ kk) ?_
     refine puA 10 51 (HS.out _ kk) ?_
     refine puA 11 52 (HS.out _ kk) ?_
     refine puA 12 53 (HS.out _ kk) ?_
     refine puA 13 54 (HS.out _ kk) ?_
     refine puA 14 55 (HS.out _ kk) ?_
     refine puA 15 56 (HS.out _ kk) ?_
     refine puA 16 57 (HS.out _ kk) ?_
     refine puC 17 58 (HS.out _ kk) ?_
     refine puC 18 59 (HS.out _ kk) ?_
     refine puC 19 60 (HS.out _ kk) ?_
     refine puC 20 61 (HS.out _ kk) ?_
     refine puC 21 62 (HS.out _ kk) ?_
     refine puA 22 63 (HS.out _ kk) ?_
     refine puA 23 64 (HS.out _ kk) ?_
     refine puC 24 65 (HS.out _ kk) ?_
     refine puC 25 66 (HS.out _ kk) ?_
     refine puC 26 67 (HS.out _ kk) ?_
     refine puC 27 68 (HS.out _ kk) ?_
     refine puC 28 69 (HS.out _ kk) ?_
     refine puC 29 70 (HS.out _ kk) ?_
     refine puC 30 71 (HS.out _ kk) ?_
     refine puC 31 72 (HS.out _ kk) ?_
     refine puC 32 73 (HS.out _ kk) ?_
     refine puC 33 74 (HS.out _ kk) ?_
     refine puC 34 75 (HS.out _ kk) ?_
     refine puC 35 76 (HS.out _ kk) ?_
     refine puC 36 77 (HS.out _ kk) ?_
     refine puC 37 78 (HS.out _ kk) ?_
     refine puA 38 79 (HS.out _ kk) ?_
     refine wpAnyH_done (by kernel_rfl) ?_ _
     refine Nrm.out (hKK _ _ ?_)
     go_wp2
     go_ret
     exact⟨by rw[HN.out];rfl,btn hb0 k⟩
    have d1:decide (ob < 0)=false:=by simp;omega
    have d2:decide (ob > 255)=false:=by simp;omega
    cases z2
    ·have HN:=Hz_ (show ntW x.e x.b (-1) x.w=ntW x.e x.b ob (x.w.drop (j+1)) by rw[HDD.out];simp[show 0≤ob by omega,show ob≤255 by omega,show -1 < ob by omega])
     go_wp2
     rw[HW1.out]
     refine region_nrm fun KK hKK=>?_
     refine wp_region_held_drew (S:=(fun W=>W.cell? ⟨w.heap.size,0,none⟩=some (.slice A1 n1 c1)∧W.cell? ⟨w.heap.size,1,none⟩=some (.slice A2 n2 c2)∧W.cell? ⟨w.heap.size,2,none⟩=some (.slice A3 n3 c3)∧W.cell? ⟨w.heap.size,3,none⟩=some (.slice (some ⟨b,o,none⟩) n4 c4)∧W.cell? ⟨wr.heap.size,0,none⟩=some (.int .i64 sc)∧W.cell? ⟨wr.heap.size,1,none⟩=some (.int .i64 sn)∧W.cell? ⟨wr.heap.size,2,none⟩=some (.int .i64 ob)∧W.cell? ⟨wr.heap.size,3,none⟩=some (.bool gn))) (by kernel_rfl) (by first | exact HS.out _ kk) (fun hHeld=>?_)
     refine puA 0 41 (HS.out _ kk) ?_
     refine puA 1 42 (HS.out _ kk) ?_
     refine puA 2 43 (HS.out _ kk) ?_
     refine puA 3 44 (HS.out _ kk) ?_
     refine puR 4 fun K hK=>?_
     go_simp
     refine(G6.out _ k).mono ?_
     rintro e w' ⟨rfl,hb'⟩
     have k:=btn k hb'
     have kk:=btn kk hb'
     clear hb'
     refine hK.out _ _ (HS.out _ kk) fun hHeld=>?_
     clear hK K
     refine puA 5 46 (HS.out _ kk) ?_
     refine puA 6 47 (HS.out _ kk) ?_
     refine puA 7 48 (HS.out _ kk) ?_
     refine puA 8 49 (HS.out _ kk) ?_
     refine puA 9 50 (HS.out _ kk) ?_
     refine puA 10 51 (HS.out _ kk) ?_
     refine puA 11 52 (HS.out _ kk) ?_
     refine puA 12 53 (HS.out _ kk) ?_
     refine puA 13 54 (HS.out _ kk) ?_
     refine puA 14 55 (HS.out _ kk) ?_
     refine puA 15 56 (HS.out _ kk) ?_
     refine puA 16 57 (HS.out _ kk) ?_
     refine puA 17 58 (HS.out _ kk) ?_
     refine puA 18 59 (HS.out _ kk) ?_
     refine puA 19 60 (HS.out _ kk) ?_
     refine puA 20 61 (HS.out _ kk) ?_
     refine puR 21 fun K hK=>?_
     go_simp
     refine(G5.out _ k).mono ?_
     rintro e w' ⟨rfl,hb'⟩
     have k:=btn k hb'
     have kk:=btn kk hb'
     clear hb'
     refine hK.out _ _ (HS.out _ kk) fun hHeld=>?_
     clear hK K
     refine puA 22 63 (HS.out _ kk) ?_
     refine puA 23 64 (HS.out _ kk) ?_
     refine puA 24 65 (HS.out _ kk) ?_
     refine puA 25 66 (HS.out _ kk) ?_
     refine puA 26 67 (HS.out _ kk) ?_
     refine puC 27 68 (HS.out _ kk) ?_
     refine puC 28 69 (HS.out _ kk) ?_
     refine puC 29 70 (HS.out _ kk) ?_
     refine puC 30 71 (HS.out _ kk) ?_
     refine puC 31 72 (HS.out _ kk) ?_
     refine puC 32 73 (HS.out _ kk) ?_
     refine puC 33 74 (HS.out _ kk) ?_
     refine puC 34 75 (HS.out _ kk) ?_
     refine puC 35 76 (HS.out _ kk) ?_
     refine puC 36 77 (HS.out _ kk) ?_
     refine puA 37 78 (HS.out _ kk) ?_
     refine puA 38 79 (HS.out _ kk) ?_
     refine wpAnyH_done (by kernel_rfl) ?_ _
     refine Nrm.out (hKK _ _ ?_)
     go_wp2
     go_roundw
     case rel=>exact⟨j+1,by omega,by go_num,k,by show _=_;rw[HN.out,aheadW_next _ _ hjl,HO.out]⟩
     case measure=>simp[intOf];omega
    ·have HN:=Hz_ (show ntF x=false by rw[HF.out,HDD.out];simp)
     go_wp2
     rw[HW1.out]
     refine region_nrm fun KK hKK=>?_
     refine wp_region_held_drew (S:=(fun W=>W.cell? ⟨w.heap.size,0,none⟩=some (.slice A1 n1 c1)∧W.cell? ⟨w.heap.size,1,none⟩=some (.slice A2 n2 c2)∧W.cell? ⟨w.heap.size,2,none⟩=some (.slice A3 n3 c3)∧W.cell? ⟨w.heap.size,3,none⟩=some (.slice (some ⟨b,o,none⟩) n4 c4)∧W.cell? ⟨wr.heap.size,0,none⟩=some (.int .i64 sc)∧W.cell? ⟨wr.heap.size,1,none⟩=some (.int .i64 sn)∧W.cell? ⟨wr.heap.size,2,none⟩=some (.int .i64 ob)∧W.cell? ⟨wr.heap.size,3,none⟩=some (.bool gn))) (by kernel_rfl) (by first | exact HS.out _ kk) (fun hHeld=>?_)
     refine puA 0 41 (HS.out _ kk) ?_
     refine puA 1 42 (HS.out _ kk) ?_
     refine puA 2 43 (HS.out _ kk) ?_
     refine puA 3 44 (HS.out _ kk) ?_
     refine puR 4 fun K hK=>?_
     go_simp
     refine(G6.out _ k).mono ?_
     rintro e w' ⟨rfl,hb'⟩
     have k:=btn k hb'
     have kk:=btn kk hb'
     clear hb'
     refine hK.out _ _ (HS.out _ kk) fun hHeld=>?_
     clear hK K
     refine puA 5 46 (HS.out _ kk) ?_
     refine puA 6 47 (HS.out _ kk) ?_
     refine puA 7 48 (HS.out _ kk) ?_
     refine puA 8 49 (HS.out _ kk) ?_
     refine puA 9 50 (HS.out _ kk) ?_
     refine puA 10 51 (HS.out _ kk) ?_
     refine puA 11 52 (HS.out _ kk) ?_
     refine puA 12 53 (HS.out _ kk) ?_
     refine puA 13 54 (HS.out _ kk) ?_
     refine puA 14 55 (HS.out _ kk) ?_
     refine puA 15 56 (HS.out _ kk) ?_
     refine puA 16 57 (HS.out _ kk) ?_
     refine puA 17 58 (HS.out _ kk) ?_
     refine puA 18 59 (HS.out _ kk) ?_
     refine puA 19 60 (HS.out _ kk) ?_
     refine puA 20 61 (HS.out _ kk) ?_
     refine puR 21 fun K hK=>?_
     go_simp
     refine(G5.out _ k).mono ?_
     rintro e w' ⟨rfl,hb'⟩
     have k:=btn k hb'
     have kk:=btn kk hb'
     clear hb'
     refine hK.out _ _ (HS.out _ kk) fun hHeld=>?_
     clear hK K
     refine puA 22 63 (HS.out _ kk) ?_
     refine puA 23 64 (HS.out _ kk) ?_
     refine puC 24 65 (HS.out _ kk) ?_
     refine puC 25 66 (HS.out _ kk) ?_
     refine puC 26 67 (HS.out _ kk) ?_
     refine puC 27 68 (HS.out _ kk) ?_
     refine puC 28 69 (HS.out _ kk) ?_
     refine puC 29 70 (HS.out _ kk) ?_
     refine puC 30 71 (HS.out _ kk) ?_
     refine puC 31 72 (HS.out _ kk) ?_
     refine puC 32 73 (HS.out _ kk) ?_
     refine puC 33 74 (HS.out _ kk) ?_
     refine puC 34 75 (HS.out _ kk) ?_
     refine puC 35 76 (HS.out _ kk) ?_
     refine puC 36 77 (HS.out _ kk) ?_
     refine puC 37 78 (HS.out _ kk) ?_
     refine puA 38 79 (HS.out _ kk) ?_
     refine wpAnyH_done (by kernel_rfl) ?_ _
     refine Nrm.out (hKK _ _ ?_)
     go_wp2
     go_ret
     exact⟨by rw[HN.out];rfl,btn hb0 k⟩
   ·obtain⟨i,rfl⟩:∃i,j=i+1:=⟨j - 1,by omega⟩
    have hil:i < x.w.length:=by omega
    clear hj0
    have hah:aheadW x.w (i+1)=x.w[i].2.1:=aheadW_next _ _ hil
    rw[hah] at HDD
    obtain⟨b',o',e',hbb',p0,p1,p2,p3⟩:=HW4.out wr hb i hil
    obtain⟨rfl,rfl⟩:b=b'∧o=o':=by injection e' with e';injection e' with e1 e2;exact⟨e1,e2⟩
    generalize x.w[i].2.1=pv at p2 HDD
    have e9:(((i+1:Nat):Int) - 1)=(i:Int):=by omega
    have e8:IntKind.i64.wrap (i:Int)=(i:Int):=IntWalk.i64_in _ (by omega)
    have hi4:(0:Int)≤(i:Int)∧(i:Int) < (n4:Int):=by omega
    have P2:=Hz_ fun W (hb:Below w1.heap.size w1 W)=>(show W.cell? ⟨b,o+i * 4+2,none⟩=some (.int .i64 pv) from by
      have hlt:=World.block_lt_of_cell? _ _ p2
      rw[hb.cell (p:=⟨b,o+i * 4+2,none⟩) (by show b < w1.heap.size;have:=hB1.lt;have h3:b < wr.heap.size:=hlt;omega)]
      rw[←HW1.out,World.cell?_alloc_lt _ _ _ hlt]
      exact p2)
    have HS:=Hz_ fun W (hb:Below w1.heap.size w1 W)=>(⟨P2.out W hb,HR.out W (btn K1.out hb) hb⟩:_∧_)
    clear p0 p1 p2 p3 e' hbb'
    clear hah
    have k:Below w0.heap.size w0 w1.drew:=K1.out.drew
    have kk:Below w1.heap.size w1 w1.drew:=(Below.refl _ w1).drew
    clear hc hn ho hg hst H5'' H6'' hb hr hB1 k1 hw1
    cases z3
    ·have HN:=Hz_ (show ntF x=false by rw[HF.out,HDD.out];rfl)
     go_wp2
     rw[HW1.out]
     refine region_nrm fun KK hKK=>?_
     refine wp_region_held_drew (S:=(fun W=>W.cell? ⟨b,o+i * 4+2,none⟩=some (.int .i64 pv)∧W.cell? ⟨w.heap.size,0,none⟩=some (.slice A1 n1 c1)∧W.cell? ⟨w.heap.size,1,none⟩=some (.slice A2 n2 c2)∧W.cell? ⟨w.heap.size,2,none⟩=some (.slice A3 n3 c3)∧W.cell? ⟨w.heap.size,3,none⟩=some (.slice (some ⟨b,o,none⟩) n4 c4)∧W.cell? ⟨wr.heap.size,0,none⟩=some (.int .i64 sc)∧W.cell? ⟨wr.heap.size,1,none⟩=some (.int .i64 sn)∧W.cell? ⟨wr.heap.size,2,none⟩=some (.int .i64 ob)∧W.cell? ⟨wr.heap.size,3,none⟩=some (.bool gn))) (by kernel_rfl) (by first | exact HS.out _ kk) (fun hHeld=>?_)
     refine puA 0 41 (HS.out _ kk) ?_
     refine puA 1 42 (HS.out _ kk) ?_
     refine puA 2 43 (HS.out _ kk) ?_
     refine puA 3 44 (HS.out _ kk) ?_
     refine puR 4 fun K hK=>?_
     go_simp
     refine(G6.out _ k).mono ?_
     rintro e w' ⟨rfl,hb'⟩
     have k:=btn k hb'
     have kk:=btn kk hb'
     clear hb'
     refine hK.out _ _ (HS.out _ kk) fun hHeld=>?_
     clear hK K
     refine puA 5 46 (HS.out _ kk) ?_
     refine puA 6 47 (HS.out _ kk) ?_
     refine puC 7 48 (HS.out _ kk) ?_
     refine puC 8 49 (HS.out _ kk) ?_
     refine puC 9 50 (HS.out _ kk) ?_
     refine puA 10 51 (HS.out _ kk) ?_
     refine puA 11 52 (HS.out _ kk) ?_
     refine puC 12 53 (HS.out _ kk) ?_
     refine puC 13 54 (HS.out _ kk) ?_
     refine puC 14 55 (HS.out _ kk) ?_
     refine puA 15 56 (HS.out _ kk) ?_
     refine puA 16 57 (HS.out _ kk) ?_
     refine puC 17 58 (HS.out _ kk) ?_
     refine puC 18 59 (HS.out _ kk) ?_
     refine puC 19 60 (HS.out _ kk) ?_
     refine puC 20 61 (HS.out _ kk) ?_
     refine puC 21 62 (HS.out _ kk) ?_
     refine puA 22 63 (HS.out _ kk) ?_
     refine puA 23 64 (HS.out _ kk) ?_
     refine puC 24 65 (HS.out _ kk) ?_
     refine puC 25 66 (HS.out _ kk) ?_
     refine puC 26 67 (HS.out _ kk) ?_
     refine puC 27 68 (HS.out _ kk) ?_
     refine puC 28 69 (HS.out _ kk) ?_
     refine puC 29 70 (HS.out _ kk) ?_
     refine puC 30 71 (HS.out _ kk) ?_
     refine puC 31 72 (HS.out _ kk) ?_
     refine puC 32 73 (HS.out _ kk) ?_
     refine puC 33 74 (HS.out _ kk) ?_
     refine puC 34 75 (HS.out _ kk) ?_
     refine puC 35 76 (HS.out _ kk) ?_
     refine puC 36 77 (HS.out _ kk) ?_
     refine puC 37 78 (HS.out _ kk) ?_
     refine puA 38 79 (HS.out _ kk) ?_
     refine wpAnyH_done (by kernel_rfl) ?_ _
     refine Nrm.out (hKK _ _ ?_)
     go_wp2
     go_ret
     exact⟨by rw[HN.out];rfl,btn hb0 k⟩
    by_cases u1:ob < 0
    ·have HN:=Hz_ (show ntF x=false by rw[HF.out,HDD.out];simp[show ¬ (0≤ob) by omega])
     go_wp2
     rw[HW1.out]
     refine region_nrm fun KK hKK=>?_
     refine wp_region_held_drew (S:=(fun W=>W.cell? ⟨b,o+i * 4+2,none⟩=some (.int .i64 pv)∧W.cell? ⟨w.heap.size,0,none⟩=some (.slice A1 n1 c1)∧W.cell? ⟨w.heap.size,1,none⟩=some (.slice A2 n2 c2)∧W.cell? ⟨w.heap.size,2,none⟩=some (.slice A3 n3 c3)∧W.cell? ⟨w.heap.size,3,none⟩=some (.slice (some ⟨b,o,none⟩) n4 c4)∧W.cell? ⟨wr.heap.size,0,none⟩=some (.int .i64 sc)∧W.cell? ⟨wr.heap.size,1,none⟩=some (.int .i64 sn)∧W.cell? ⟨wr.heap.size,2,none⟩=some (.int .i64 ob)∧W.cell? ⟨wr.heap.size,3,none⟩=some (.bool gn))) (by kernel_rfl) (by first | exact HS.out _ kk) (fun hHeld=>?_)
     refine puA 0 41 (HS.out _ kk) ?_
     refine puA 1 42 (HS.out _ kk) ?_
     refine puA 2 43 (HS.out _ kk) ?_
     refine puA 3 44 (HS.out _ kk) ?_
     refine puR 4 fun K hK=>?_
     go_simp
     refine(G6.out _ k).mono ?_
     rintro e w' ⟨rfl,hb'⟩
     have k:=btn k hb'
     have kk:=btn kk hb'
     clear hb'
     refine hK.out _ _ (HS.out _ kk) fun hHeld=>?_
     clear hK K
     refine puA 5 46 (HS.out _ kk) ?_
     refine puA 6 47 (HS.out _ kk) ?_
     refine puA 7 48 (HS.out _ kk) ?_
     refine puA 8 49 (HS.out _ kk) ?_
     refine puA 9 50 (HS.out _ kk) ?_
     refine puA 10 51 (HS.out _ kk) ?_
     refine puA 11 52 (HS.out _ kk) ?_
     refine puC 12 53 (HS.out _ kk) ?_
     refine puC 13 54 (HS.out _ kk) ?_
     refine puC 14 55 (HS.out _ kk) ?_
     refine puA 15 56 (HS.out _ kk) ?_
     refine puA 16 57 (HS.out _ kk) ?_
     refine puC 17 58 (HS.out _ kk) ?_
     refine puC 18 59 (HS.out _ kk) ?_
     refine puC 19 60 (HS.out _ kk) ?_
     refine puC 20 61 (HS.out _ kk) ?_
     refine puC 21 62 (HS.out _ kk) ?_
     refine puA 22 63 (HS.out _ kk) ?_
     refine puA 23 64 (HS.out _ kk) ?_
     refine puC 24 65 (HS.out _ kk) ?_
     refine puC 25 66 (HS.out _ kk) ?_
     refine puC 26 67 (HS.out _ kk) ?_
     refine puC 27 68 (HS.out _ kk) ?_
     refine puC 28 69 (HS.out _ kk) ?_
     refine puC 29 70 (HS.out _ kk) ?_
     refine puC 30 71 (HS.out _ kk) ?_
     refine puC 31 72 (HS.out _ kk) ?_
     refine puC 32 73 (HS.out _ kk) ?_
     refine puC 33 74 (HS.out _ kk) ?_
     refine puC 34 75 (HS.out _ kk) ?_
     refine puC 35 76 (HS.out _ kk) ?_
     refine puC 36 77 (HS.out _ kk) ?_
     refine puC 37 78 (HS.out _ kk) ?_
     refine puA 38 79 (HS.out _ kk) ?_
     refine wpAnyH_done (by kernel_rfl) ?_ _
     refine Nrm.out (hKK _ _ ?_)
     go_wp2
     go_ret
     exact⟨by rw[HN.out];rfl,btn hb0 k⟩
    by_cases u2:255 < ob
    ·have HN:=Hz_ (show ntF x=false by rw[HF.out,HDD.out];simp[show ¬ (ob≤255) by omega])
     have d1:decide (ob < 0)=false:=by simp;omega
     have d2:decide (ob > 255)=true:=by simp;omega
     go_wp2
     rw[HW1.out]
     refine region_nrm fun KK hKK=>?_
     refine wp_region_held_drew (S:=(fun W=>W.cell? ⟨b,o+i * 4+2,none⟩=some (.int .i64 pv)∧W.cell? ⟨w.heap.size,0,none⟩=some (.slice A1 n1 c1)∧W.cell? ⟨w.heap.size,1,none⟩=some (.slice A2 n2 c2)∧W.cell? ⟨w.heap.size,2,none⟩=some (.slice A3 n3 c3)∧W.cell? ⟨w.heap.size,3,none⟩=some (.slice (some ⟨b,o,none⟩) n4 c4)∧W.cell? ⟨wr.heap.size,0,none⟩=some (.int .i64 sc)∧W.cell? ⟨wr.heap.size,1,none⟩=some (.int .i64 sn)∧W.cell? ⟨wr.heap.size,2,none⟩=some (.int .i64 ob)∧W.cell? ⟨wr.heap.size,3,none⟩=some (.bool gn))) (by kernel_rfl) (by first | exact HS.out _ kk) (fun hHeld=>?_)
     refine puA 0 41 (HS.out _ kk) ?_
     refine puA 1 42 (HS.out _ kk) ?_
     refine puA 2 43 (HS.out _ kk) ?_
     refine puA 3 44 (HS.out _ kk) ?_
     refine puR 4 fun K hK=>?_
     go_simp
     refine(G6.out _ k).mono ?_
     rintro e w' ⟨rfl,hb'⟩
     have k:=btn k hb'
     have kk:=btn kk hb'
     clear hb'
     refine hK.out _ _ (HS.out _ kk) fun hHeld=>?_
     clear hK K
     refine puA 5 46 (HS.out _ kk) ?_
     refine puA 6 47 (HS.out _ kk) ?_
     refine puA 7 48 (HS.out _ kk) ?_
     refine puA 8 49 (HS.out _ kk) ?_
     refine puA 9 50 (HS.out _ kk) ?_
     refine puA 10 51 (HS.out _ kk) ?_
     refine puA 11 52 (HS.out _ kk) ?_
     refine puA 12 53 (HS.out _ kk) ?_
     refine puA 13 54 (HS.out _ kk) ?_
     refine puA 14 55 (HS.out _ kk) ?_
     refine puA 15 56 (HS.out _ kk) ?_
     refine puA 16 57 (HS.out _ kk) ?_
     refine puC 17 58 (HS.out _ kk) ?_
     refine puC 18 59 (HS.out _ kk) ?_
     refine puC 19 60 (HS.out _ kk) ?_
     refine puC 20 61 (HS.out _ kk) ?_
     refine puC 21 62 (HS.out _ kk) ?_
     refine puA 22 63 (HS.out _ kk) ?_
     refine puA 23 64 (HS.out _ kk) ?_
     refine puC 24 65 (HS.out _ kk) ?_
     refine puC 25 66 (HS.out _ kk) ?_
     refine puC 26 67 (HS.out _ kk) ?_
     refine puC 27 68 (HS.out _ kk) ?_
     refine puC 28 69 (HS.out _ kk) ?_
     refine puC 29 70 (HS.out _ kk) ?_
     refine puC 30 71 (HS.out _ kk) ?_
     refine puC 31 72 (HS.out _ kk) ?_
     refine puC 32 73 (HS.out _ kk) ?_
     refine puC 33 74 (HS.out _ kk) ?_
     refine puC 34 75 (HS.out _ kk) ?_
     refine puC 35 76 (HS.out _ kk) ?_
     refine puC 36 77 (HS.out _ kk) ?_
     refine puC 37 78 (HS.out _ kk) ?_
     refine puA 38 79 (HS.out _ kk) ?_
     refine wpAnyH_done (by kernel_rfl) ?_ _
     refine Nrm.out (hKK _ _ ?_)
     go_wp2
     go_ret
     exact⟨by rw[HN.out];rfl,btn hb0 k⟩
    have d1:decide (ob < 0)=false:=by simp;omega
    have d2:decide (ob > 255)=false:=by simp;omega
    cases z2
    ·by_cases u3:ob≤pv
     ·have HN:=Hz_ (show ntF x=false by rw[HF.out,HDD.out];simp[show ¬ (pv < ob) by omega])
      have d3:decide (pv ≥ ob)=true:=by simp;omega
      go_wp2
      rw[HW1.out]
      refine region_nrm fun KK hKK=>?_
      refine wp_region_held_drew (S:=(fun W=>W.cell? ⟨b,o+i * 4+2,none⟩=some (.int .i64 pv)∧W.cell? ⟨w.heap.size,0,none⟩=some (.slice A1 n1 c1)∧W.cell? ⟨w.heap.size,1,none⟩=some (.slice A2 n2 c2)∧W.cell? ⟨w.heap.size,2,none⟩=some (.slice A3 n3 c3)∧W.cell? ⟨w.heap.size,3,none⟩=some (.slice (some ⟨b,o,none⟩) n4 c4)∧W.cell? ⟨wr.heap.size,0,none⟩=some (.int .i64 sc)∧W.cell? ⟨wr.heap.size,1,none⟩=some (.int .i64 sn)∧W.cell? ⟨wr.heap.size,2,none⟩=some (.int .i64 ob)∧W.cell? ⟨wr.heap.size,3,none⟩=some (.bool gn))) (by kernel_rfl) (by first | exact HS.out _ kk) (fun hHeld=>?_)
      refine puA 0 41 (HS.out _ kk) ?_
      refine puA 1 42 (HS.out _ kk) ?_
      refine puA 2 43 (HS.out _ kk) ?_
      refine puA 3 44 (HS.out _ kk) ?_
      refine puR 4 fun K hK=>?_
      go_simp
      refine(G6.out _ k).mono ?_
      rintro e w' ⟨rfl,hb'⟩
      have k:=btn k hb'
      have kk:=btn kk hb'
      clear hb'
      refine hK.out _ _ (HS.out _ kk) fun hHeld=>?_
      clear hK K
      refine puA 5 46 (HS.out _ kk) ?_
      refine puA 6 47 (HS.out _ kk) ?_
      refine puA 7 48 (HS.out _ kk) ?_
      refine puA 8 49 (HS.out _ kk) ?_
      refine puA 9 50 (HS.out _ kk) ?_
      refine puA 10 51 (HS.out _ kk) ?_
      refine puA 11 52 (HS.out _ kk) ?_
      refine puA 12 53 (HS.out _ kk) ?_
      refine puA 13 54 (HS.out _ kk) ?_
      refine puA 14 55 (HS.out _ kk) ?_
      refine puA 15 56 (HS.out _ kk) ?_
      refine puA 16 57 (HS.out _ kk) ?_
      refine puA 17 58 (HS.out _ kk) ?_
      refine puA 18 59 (HS.out _ kk) ?_
      refine puA 19 60 (HS.out _ kk) ?_
      refine puA 20 61 (HS.out _ kk) ?_
      refine puR 21 fun K hK=>?_
      go_simp
      refine(G5.out _ k).mono ?_
      rintro e w' ⟨rfl,hb'⟩
      have k:=btn k hb'
      have kk:=btn kk hb'
      clear hb'
      refine hK.out _ _ (HS.out _ kk) fun hHeld=>?_
      clear hK K
      refine puA 22 63 (HS.out _ kk) ?_
      refine puA 23 64 (HS.out _ kk) ?_
      refine puA 24 65 (HS.out _ kk) ?_
      refine puA 25 66 (HS.out _ kk) ?_
      refine puA 26 67 (HS.out _ kk) ?_
      refine puA 27 68 (HS.out _ kk) ?_
      refine puA 28 69 (HS.out _ kk) ?_
      refine puA 29 70 (HS.out _ kk) ?_
      refine puA 30 71 (HS.out _ kk) ?_
      refine puA 31 72 (HS.out _ kk) ?_
      refine puA 32 73 (HS.out _ kk) ?_
      refine puA 33 74 (HS.out _ kk) ?_
      refine puA 34 75 (HS.out _ kk) ?_
      refine puA 35 76 (HS.out _ kk) ?_
      refine puA 36 77 (HS.out _ kk) ?_
      refine puA 37 78 (HS.out _ kk) ?_
      refine puA 38 79 (HS.out _ kk) ?_
      refine wpAnyH_done (by kernel_rfl) ?_ _
      refine Nrm.out (hKK _ _ ?_)
      go_wp2
      go_ret
      exact⟨by rw[HN.out];rfl,btn hb0 k⟩
     ·have HN:=Hz_ (show ntW x.e x.b (-1) x.w=ntW x.e x.b ob (x.w.drop (i+1+1)) by rw[HDD.out];simp[show 0≤ob by omega,show ob≤255 by omega,show pv < ob by omega])
      have d3:decide (pv ≥ ob)=false:=by simp;omega
      go_wp2
      rw[HW1.out]
      refine region_nrm fun KK hKK=>?_
      refine wp_region_held_drew (S:=(fun W=>W.cell? ⟨b,o+i * 4+2,none⟩=some (.int .i64 pv)∧W.cell? ⟨w.heap.size,0,none⟩=some (.slice A1 n1 c1)∧W.cell? ⟨w.heap.size,1,none⟩=some (.slice A2 n2 c2)∧W.cell? ⟨w.heap.size,2,none⟩=some (.slice A3 n3 c3)∧W.cell? ⟨w.heap.size,3,none⟩=some (.slice (some ⟨b,o,none⟩) n4 c4)∧W.cell? ⟨wr.heap.size,0,none⟩=some (.int .i64 sc)∧W.cell? ⟨wr.heap.size,1,none⟩=some (.int .i64 sn)∧W.cell? ⟨wr.heap.size,2,none⟩=some (.int .i64 ob)∧W.cell? ⟨wr.heap.size,3,none⟩=some (.bool gn))) (by kernel_rfl) (by first | exact HS.out _ kk) (fun hHeld=>?_)
      refine puA 0 41 (HS.out _ kk) ?_
      refine puA 1 42 (HS.out _ kk) ?_
      refine puA 2 43 (HS.out _ kk) ?_
      refine puA 3 44 (HS.out _ kk) ?_
      refine puR 4 fun K hK=>?_
      go_simp
      refine(G6.out _ k).mono ?_
      rintro e w' ⟨rfl,hb'⟩
      have k:=btn k hb'
      have kk:=btn kk hb'
      clear hb'
      refine hK.out _ _ (HS.out _ kk) fun hHeld=>?_
      clear hK K
      refine puA 5 46 (HS.out _ kk) ?_
      refine puA 6 47 (HS.out _ kk) ?_
      refine puA 7 48 (HS.out _ kk) ?_
      refine puA 8 49 (HS.out _ kk) ?_
      refine puA 9 50 (HS.out _ kk) ?_
      refine puA 10 51 (HS.out _ kk) ?_
      refine puA 11 52 (HS.out _ kk) ?_
      refine puA 12 53 (HS.out _ kk) ?_
      refine puA 13 54 (HS.out _ kk) ?_
      refine puA 14 55 (HS.out _ kk) ?_
      refine puA 15 56 (HS.out _ kk) ?_
      refine puA 16 57 (HS.out _ kk) ?_
      refine puA 17 58 (HS.out _ kk) ?_
      refine puA 18 59 (HS.out _ kk) ?_
      refine puA 19 60 (HS.out _ kk) ?_
      refine puA 20 61 (HS.out _ kk) ?_
      refine puR 21 fun K hK=>?_
      go_simp
      refine(G5.out _ k).mono ?_
      rintro e w' ⟨rfl,hb'⟩
      have k:=btn k hb'
      have kk:=btn kk hb'
      clear hb'
      refine hK.out _ _ (HS.out _ kk) fun hHeld=>?_
      clear hK K
      refine puA 22 63 (HS.out _ kk) ?_
      refine puA 23 64 (HS.out _ kk) ?_
      refine puA 24 65 (HS.out _ kk) ?_
      refine puA 25 66 (HS.out _ kk) ?_
      refine puA 26 67 (HS.out _ kk) ?_
      refine puA 27 68 (HS.out _ kk) ?_
      refine puA 28 69 (HS.out _ kk) ?_
      refine puA 29 70 (HS.out _ kk) ?_
      refine puA 30 71 (HS.out _ kk) ?_
      refine puA 31 72 (HS.out _ kk) ?_
      refine puA 32 73 (HS.out _ kk) ?_
      refine puA 33 74 (HS.out _ kk) ?_
      refine puA 34 75 (HS.out _ kk) ?_
      refine puA 35 76 (HS.out _ kk) ?_
      refine puA 36 77 (HS.out _ kk) ?_
      refine puA 37 78 (HS.out _ kk) ?_
      refine puA 38 79 (HS.out _ kk) ?_
      refine wpAnyH_done (by kernel_rfl) ?_ _
      refine Nrm.out (hKK _ _ ?_)
      go_wp2
      go_roundw
      case rel=>exact⟨i+1+1,by omega,by go_num,k,by show _=_;rw[HN.out,aheadW_next _ _ hjl,HO.out]⟩
      case measure=>simp[intOf];omega
    ·have HN:=Hz_ (show ntF x=false by rw[HF.out,HDD.out];simp)
     go_wp2
     rw[HW1.out]
     refine region_nrm fun KK hKK=>?_
     refine wp_region_held_drew (S:=(fun W=>W.cell? ⟨b,o+i * 4+2,none⟩=some (.int .i64 pv)∧W.cell? ⟨w.heap.size,0,none⟩=some (.slice A1 n1 c1)∧W.cell? ⟨w.heap.size,1,none⟩=some (.slice A2 n2 c2)∧W.cell? ⟨w.heap.size,2,none⟩=some (.slice A3 n3 c3)∧W.cell? ⟨w.heap.size,3,none⟩=some (.slice (some ⟨b,o,none⟩) n4 c4)∧W.cell? ⟨wr.heap.size,0,none⟩=some (.int .i64 sc)∧W.cell? ⟨wr.heap.size,1,none⟩=some (.int .i64 sn)∧W.cell? ⟨wr.heap.size,2,none⟩=some (.int .i64 ob)∧W.cell? ⟨wr.heap.size,3,none⟩=some (.bool gn))) (by kernel_rfl) (by first | exact HS.out _ kk) (fun hHeld=>?_)
     refine puA 0 41 (HS.out _ kk) ?_
     refine puA 1 42 (HS.out _ kk) ?_
     refine puA 2 43 (HS.out _ kk) ?_
     refine puA 3 44 (HS.out _ kk) ?_
     refine puR 4 fun K hK=>?_
     go_simp
     refine(G6.out _ k).mono ?_
     rintro e w' ⟨rfl,hb'⟩
     have k:=btn k hb'
     have kk:=btn kk hb'
     clear hb'
     refine hK.out _ _ (HS.out _ kk) fun hHeld=>?_
     clear hK K
     refine puA 5 46 (HS.out _ kk) ?_
     refine puA 6 47 (HS.out _ kk) ?_
     refine puA 7 48 (HS.out _ kk) ?_
     refine puA 8 49 (HS.out _ kk) ?_
     refine puA 9 50 (HS.out _ kk) ?_
     refine puA 10 51 (HS.out _ kk) ?_
     refine puA 11 52 (HS.out _ kk) ?_
     refine puA 12 53 (HS.out _ kk) ?_
     refine puA 13 54 (HS.out _ kk) ?_
     refine puA 14 55 (HS.out _ kk) ?_
     refine puA 15 56 (HS.out _ kk) ?_
     refine puA 16 57 (HS.out _ kk) ?_
     refine puA 17 58 (HS.out _ kk) ?_
     refine puA 18 59 (HS.out _ kk) ?_
     refine puA 19 60 (HS.out _ kk) ?_
     refine puA 20 61 (HS.out _ kk) ?_
     refine puR 21 fun K hK=>?_
     go_simp
     refine(G5.out _ k).mono ?_
     rintro e w' ⟨rfl,hb'⟩
     have k:=btn k hb'
     have kk:=btn kk hb'
     clear hb'
     refine hK.out _ _ (HS.out _ kk) fun hHeld=>?_
     clear hK K
     refine puA 22 63 (HS.out _ kk) ?_
     refine puA 23 64 (HS.out _ kk) ?_
     refine puC 24 65 (HS.out _ kk) ?_
     refine puC 25 66 (HS.out _ kk) ?_
     refine puC 26 67 (HS.out _ kk) ?_
     refine puC 27 68 (HS.out _ kk) ?_
     refine puC 28 69 (HS.out _ kk) ?_
     refine puC 29 70 (HS.out _ kk) ?_
     refine puC 30 71 (HS.out _ kk) ?_
     refine puC 31 72 (HS.out _ kk) ?_
     refine puC 32 73 (HS.out _ kk) ?_
     refine puC 33 74 (HS.out _ kk) ?_
     refine puC 34 75 (HS.out _ kk) ?_
     refine puC 35 76 (HS.out _ kk) ?_
     refine puC 36 77 (HS.out _ kk) ?_
     refine puC 37 78 (HS.out _ kk) ?_
     refine puA 38 79 (HS.out _ kk) ?_
     refine wpAnyH_done (by kernel_rfl) ?_ _
     refine Nrm.out (hKK _ _ ?_)
     go_wp2
     go_ret
     exact⟨by rw[HN.out];rfl,btn hb0 k⟩
  ·obtain rfl:j=n4:=by omega
   have HN:=Hz_ (show ntF x=true by rw[HF.out,hr.out,HNil.out _ _ (Nat.le_refl _)];rfl)
   obtain⟨q0,q1,q2,q3⟩:=HQ.out _ hb
   clear hr
   go_wp2
   go_ret
   exact⟨by rw[HN.out];rfl,btn hb0 hb⟩
end Go.Proofs.YtmbeahbgafkjfaaGreatDoor
