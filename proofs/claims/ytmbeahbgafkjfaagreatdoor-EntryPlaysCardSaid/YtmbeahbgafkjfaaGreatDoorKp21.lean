/- Lemmas, layer 21. -/
import Derived.Test.YtmbeahbgafkjfaaGreatDoorKp20
set_option linter.unusedSimpArgs false
set_option maxRecDepth 100000
set_option maxHeartbeats 16000000
namespace Go.Proofs.YtmbeahbgafkjfaaGreatDoor
open Go.Proofs.Tryz Go.RowKit
theorem JE {W:World} {t:TypeId} {cs:Array Value} (_:Bz W (W.alloc (.cells cs t))):Jm (W.alloc (.cells cs t)) W.heap.size t cs:=Jm.new W t cs
theorem mg0 {G:World->Prop} {Goal:Prop} (Inv:World->Prop) (main:Hid (∀W ,Inv W ->G W )->Goal) (lem:∀W ,Inv W ->G W ):Goal:=main (Ja lem)
theorem mg1 {G:World->Nat->Prop} {Goal:Prop} (Inv:World->Nat->Prop) (main:Hid (∀W g0,Inv W g0->G W g0)->Goal) (lem:∀W g0,Inv W g0->G W g0):Goal:=main (Ja lem)
theorem mg2 {G:World->Nat->Nat->Prop} {Goal:Prop} (Inv:World->Nat->Nat->Prop) (main:Hid (∀W g0 g1,Inv W g0 g1->G W g0 g1)->Goal) (lem:∀W g0 g1,Inv W g0 g1->G W g0 g1):Goal:=main (Ja lem)
theorem mg3 {G:World->Nat->Nat->Nat->Prop} {Goal:Prop} (Inv:World->Nat->Nat->Nat->Prop) (main:Hid (∀W g0 g1 g2,Inv W g0 g1 g2->G W g0 g1 g2)->Goal) (lem:∀W g0 g1 g2,Inv W g0 g1 g2->G W g0 g1 g2):Goal:=main (Ja lem)
theorem JnE {x:Nt} {o:Int} (v:List Vc.St) (h:atB x.w o=false):Jbz v x o=XM (YG v x.s x.e):=by
 unfold Jbz;unfold atB at h;rcases he:Xy x.w o with _ | q
 ·rfl
 ·rw[he] at h;cases h
theorem Jl2 {x:Nt} {o:Int} (v:List Vc.St) (h:atB x.w o=true):Jbz v x o=Jed (QD (XM (YG v x.s x.e)) (atQ x.w o).1) (XM (YG v x.s x.e)) v:=by
 unfold Jbz;unfold atB at h;unfold atQ;rcases he:Xy x.w o with _ | q
 ·rw[he] at h;cases h
 ·rfl
def Jo0 (w w':World) (e:Ending) (l:List Vc.St):Prop:=∃A' n' c',e=.returned (.slice A' n' c')/\l.length=n'/\Rd w' w'.heap.size 2 A' n' c' (sv l)/\Bz w w'
theorem Kw (A:OA) (n c:Nat) (u:List Vc.St) (v:NV) (x:Nt) (ob:Int) (w:World) (hl:u.length=n) (hR:Rd w w.heap.size 2 A n c (sv u)) (hN:Yf w w.heap.size v x):
  Calls prog 200 #[.slice A n c,.agg v.val,.int .i64 ob] w fun e w'=>Jo0 w w' e (Jbz u x ob):=by
 obtain⟨A1,n1,c1,A2,n2,c2,A3,n3,c3,A4,n4,c4⟩:=v;obtain⟨hz,hi⟩:=FG Ub;obtain⟨hzz,hiw⟩:=FG Jao;have HI:=Ja hi;have HIW:=Ja hiw;clear hi hiw;have hb0:Bz w (w.alloc (.cells #[.slice A1 n1 c1,.slice A2 n2 c2,.slice A3 n3 c3,.slice A4 n4 c4] 26)):=Zr.alloc Zl _;have hX:=Jm.new w 26 #[.slice A1 n1 c1,.slice A2 n2 c2,.slice A3 n3 c3,.slice A4 n4 c4];obtain⟨W0,hW0⟩:∃W0,W0=w.alloc (.cells #[.slice A1 n1 c1,.slice A2 n2 c2,.slice A3 n3 c3,.slice A4 n4 c4] 26):=⟨_,rfl⟩;rw[<-hW0] at hb0 hX;obtain⟨l1,m1,l2,m2,l3,m3,l4,m4⟩:=hN.go hb0;dsimp only at l1 m1 l2 m2 l3 m3 l4 m4;have C1:=fun (V:World) (hb:Bz W0 V)=>QO A n c u V hl ((hR.go hb0).go hb);have C2:=fun (V:World) (hb:Bz W0 V)=>QO A1 n1 c1 x.s V l1 (m1.go hb);have C3:=fun (V:World) (hb:Bz W0 V)=>QO A2 n2 c2 x.e V l2 (m2.go hb);have C4:=Ja fun (V:World) (hb:Bz W0 V)=>JdY A4 n4 c4 x.w ob V l4 (m4.go hb);have HQ:=Ja fun (V:World) (hb:Bz W0 V)=>(show V.cell? ⟨w.heap.size,0,none⟩=some (.slice A1 n1 c1)/\V.cell? ⟨w.heap.size,1,none⟩=some (.slice A2 n2 c2)/\V.cell? ⟨w.heap.size,2,none⟩=some (.slice A3 n3 c3)/\V.cell? ⟨w.heap.size,3,none⟩=some (.slice A4 n4 c4) from ⟨(hX.go hb).cell 0,(hX.go hb).cell 1,(hX.go hb).cell 2,(hX.go hb).cell 3⟩);obtain⟨G,hG⟩:∃G,G=YG u x.s x.e:=⟨_,rfl⟩;have hGn:∀m,G m=if Vc.Jz x.s m<=Vc.Jz u m then max (Vc.Jz u m) (Vc.Jz x.e m) else Vc.Jz u m:=fun m=>by rw[hG];rfl
 obtain⟨f1,hf1⟩:∃f,f=Vc.Jz u:=⟨_,rfl⟩;obtain⟨f2,hf2⟩:∃f,f=Vc.Jz x.s:=⟨_,rfl⟩;obtain⟨f3,hf3⟩:∃f,f=Vc.Jz x.e:=⟨_,rfl⟩;simp only[<-hf1] at C1;simp only[<-hf2] at C2;simp only[<-hf3] at C3;rw[<-hf1,<-hf2,<-hf3] at hGn;have C1:=Ja C1;have C2:=Ja C2;have C3:=Ja C3;have HGN:=Ja hGn;have SN:=Ja (JnE (x:=x) (o:=ob) u);have SY:=Ja (Jl2 (x:=x) (o:=ob) u);rw[<-hG] at SN SY;have HW:=Ja hW0.symm;have HB0:=Ja hb0;have HL:=Ja hl;have HR0:=Ja (hR.go hb0);clear hf1 hf2 hf3 hG hGn hX hW0 hb0 hl hR hN l1 m1 l2 m2 l3 m3 l4 m4;go_enter func200,ntmps200;go_upto_region 1 with fail;rw[HW.out];go_cut [7,8,9] (fun v7 v8 v9 wx=>∃(g7 g8 g9:Nat),v7=.pointer (some ⟨g7,0,none⟩)/\v8=.pointer (some ⟨g8,0,none⟩)/\v9=.pointer (some ⟨g9,0,none⟩)/\Hid (W0.heap.size<=g7/\g7≠g8/\g7≠g9/\Bz W0 wx/\Jm wx g7 200 (JI f1)/\Jm wx g8 200 (JI f2)/\Jm wx g9 200 (JI f3)))
 case first=>
  have k:Bz W0 W0.drew:=(Ec _ W0).drew;refine Jl fun KK hKK=>?_;refine Eg (S:=(fun V=>V.cell? ⟨w.heap.size,0,none⟩=some (.slice A1 n1 c1)/\V.cell? ⟨w.heap.size,1,none⟩=some (.slice A2 n2 c2)/\V.cell? ⟨w.heap.size,2,none⟩=some (.slice A3 n3 c3)/\V.cell? ⟨w.heap.size,3,none⟩=some (.slice A4 n4 c4))) (by kernel_rfl) (by first | exact HQ.out _ k) (fun hHeld=>?_);refine Jc 0 14 2 16 (HQ.out _ k) ?_;refine Jc 3 17 5 19 (HQ.out _ k) ?_;refine Qx 6 20 (HQ.out _ k) ?_;apply mg3 (fun V g7 g8 g9=>Bz W0 V/\W0.heap.size<=g7/\W0.heap.size<=g8/\W0.heap.size<=g9/\g7≠g8/\g7≠g9/\g8≠g9/\Jm V g7 200 (JI fun _=>0)/\Jm V g8 200 (JI fun _=>0)/\Jm V g9 200 (JI fun _=>0));intro E3_789;apply mg2 (fun V g8 g9=>Bz W0 V/\W0.heap.size<=g8/\W0.heap.size<=g9/\g8≠g9/\Jm V g8 200 (JI fun _=>0)/\Jm V g9 200 (JI fun _=>0));intro E3_89;apply mg2 (fun V g7 g9=>Bz W0 V/\W0.heap.size<=g7/\W0.heap.size<=g9/\g7≠g9/\Jm V g7 200 (JI fun _=>0)/\Jm V g9 200 (JI fun _=>0));intro E3_79;apply mg2 (fun V g7 g8=>Bz W0 V/\W0.heap.size<=g7/\W0.heap.size<=g8/\g7≠g8/\Jm V g7 200 (JI fun _=>0)/\Jm V g8 200 (JI fun _=>0));intro E3_78;apply mg3 (fun V g7 g8 g9=>Bz W0 V/\W0.heap.size<=g7/\W0.heap.size<=g8/\W0.heap.size<=g9/\g7≠g8/\g7≠g9/\g8≠g9/\Jm V g7 200 (JI fun _=>0)/\Jm V g8 200 (JI fun _=>0)/\Jm V g9 200 (JI fun _=>0));intro E2_789;apply mg1 (fun V g9=>Bz W0 V/\W0.heap.size<=g9/\Jm V g9 200 (JI fun _=>0));intro E3_9;apply mg1 (fun V g8=>Bz W0 V/\W0.heap.size<=g8/\Jm V g8 200 (JI fun _=>0));intro E3_8;apply mg1 (fun V g7=>Bz W0 V/\W0.heap.size<=g7/\Jm V g7 200 (JI fun _=>0));intro E3_7;apply mg2 (fun V g8 g9=>Bz W0 V/\W0.heap.size<=g8/\W0.heap.size<=g9/\g8≠g9/\Jm V g8 200 (JI fun _=>0)/\Jm V g9 200 (JI fun _=>0));intro E2_89;apply mg2 (fun V g7 g9=>Bz W0 V/\W0.heap.size<=g7/\W0.heap.size<=g9/\g7≠g9/\Jm V g7 200 (JI fun _=>0)/\Jm V g9 200 (JI fun _=>0));intro E2_79;apply mg2 (fun V g7 g8=>Bz W0 V/\W0.heap.size<=g7/\W0.heap.size<=g8/\g7≠g8/\Jm V g7 200 (JI fun _=>0)/\Jm V g8 200 (JI fun _=>0));intro E2_78;apply mg3 (fun V g7 g8 g9=>Bz W0 V/\W0.heap.size<=g7/\W0.heap.size<=g8/\W0.heap.size<=g9/\g7≠g8/\g7≠g9/\g8≠g9/\Jm V g7 200 (JI fun _=>0)/\Jm V g8 200 (JI fun _=>0)/\Jm V g9 200 (JI fun _=>0));intro E1_789;apply mg0 (fun V=>Bz W0 V);intro E3_;apply mg1 (fun V g9=>Bz W0 V/\W0.heap.size<=g9/\Jm V g9 200 (JI fun _=>0));intro E2_9;apply mg1 (fun V g8=>Bz W0 V/\W0.heap.size<=g8/\Jm V g8 200 (JI fun _=>0));intro E2_8;apply mg1 (fun V g7=>Bz W0 V/\W0.heap.size<=g7/\Jm V g7 200 (JI fun _=>0));intro E2_7;apply mg2 (fun V g8 g9=>Bz W0 V/\W0.heap.size<=g8/\W0.heap.size<=g9/\g8≠g9/\Jm V g8 200 (JI fun _=>0)/\Jm V g9 200 (JI fun _=>0));intro E1_89;apply mg2 (fun V g7 g9=>Bz W0 V/\W0.heap.size<=g7/\W0.heap.size<=g9/\g7≠g9/\Jm V g7 200 (JI fun _=>0)/\Jm V g9 200 (JI fun _=>0));intro E1_79;apply mg2 (fun V g7 g8=>Bz W0 V/\W0.heap.size<=g7/\W0.heap.size<=g8/\g7≠g8/\Jm V g7 200 (JI fun _=>0)/\Jm V g8 200 (JI fun _=>0));intro E1_78;apply mg3 (fun V g7 g8 g9=>Bz W0 V/\W0.heap.size<=g7/\W0.heap.size<=g8/\W0.heap.size<=g9/\g7≠g8/\g7≠g9/\g8≠g9/\Jm V g7 200 (JI fun _=>0)/\Jm V g8 200 (JI fun _=>0)/\Jm V g9 200 (JI fun _=>0));intro E0_789;apply mg0 (fun V=>Bz W0 V);intro E2_;apply mg1 (fun V g9=>Bz W0 V/\W0.heap.size<=g9/\Jm V g9 200 (JI fun _=>0));intro E1_9;apply mg1 (fun V g8=>Bz W0 V/\W0.heap.size<=g8/\Jm V g8 200 (JI fun _=>0));intro E1_8;apply mg1 (fun V g7=>Bz W0 V/\W0.heap.size<=g7/\Jm V g7 200 (JI fun _=>0));intro E1_7;apply mg2 (fun V g8 g9=>Bz W0 V/\W0.heap.size<=g8/\W0.heap.size<=g9/\g8≠g9/\Jm V g8 200 (JI fun _=>0)/\Jm V g9 200 (JI fun _=>0));intro E0_89;apply mg2 (fun V g7 g9=>Bz W0 V/\W0.heap.size<=g7/\W0.heap.size<=g9/\g7≠g9/\Jm V g7 200 (JI fun _=>0)/\Jm V g9 200 (JI fun _=>0));intro E0_79;apply mg2 (fun V g7 g8=>Bz W0 V/\W0.heap.size<=g7/\W0.heap.size<=g8/\g7≠g8/\Jm V g7 200 (JI fun _=>0)/\Jm V g8 200 (JI fun _=>0));intro E0_78;apply mg0 (fun V=>Bz W0 V);intro E1_;apply mg1 (fun V g9=>Bz W0 V/\W0.heap.size<=g9/\Jm V g9 200 (JI fun _=>0));intro E0_9;apply mg1 (fun V g8=>Bz W0 V/\W0.heap.size<=g8/\Jm V g8 200 (JI fun _=>0));intro E0_8;apply mg1 (fun V g7=>Bz W0 V/\W0.heap.size<=g7/\Jm V g7 200 (JI fun _=>0));intro E0_7;obtain⟨V,hV⟩:∃V,V=W0.drew:=⟨_,rfl⟩;rw[<-hV] at k ⊢;clear hV;refine EO (rs:=[1,8,9,10]) (by kernel_rfl) (by simp) ?_;refine Ee rfl (fun K hK=>?_) (Ee rfl (fun K hK=>?_) (Ee rfl (fun K hK=>?_) (Ee rfl (fun K hK=>?_) EH)))
  ·go_simp;refine Jd (C1.out _ k) fun V hb'=>?_;have k:=Jg k hb';refine hK.out _ _ (HQ.out _ k) fun hHeld=>?_
   try simp only[Jq,Jo,Jp]
   exact E1_.out V k
  ·go_simp;have hb':=Ji k (.cells (JI fun _=>0) 200);have G7:=JE hb';have b7:=k.size;have k:=Jg k hb';refine hK.out _ _ (HQ.out _ k) fun hHeld=>?_
   try simp only[Jq,Jo,Jp]
   clear hb';generalize V.alloc (.cells (JI fun _=>0) 200)=U at *;generalize V.heap.size=g7 at *;exact E0_7.out U g7 ⟨k,b7,G7⟩
  ·go_simp;have hb':=Ji k (.cells (JI fun _=>0) 200);have G8:=JE hb';have b8:=k.size;have k:=Jg k hb';refine hK.out _ _ (HQ.out _ k) fun hHeld=>?_
   try simp only[Jq,Jo,Jp]
   clear hb';generalize V.alloc (.cells (JI fun _=>0) 200)=U at *;generalize V.heap.size=g8 at *;exact E0_8.out U g8 ⟨k,b8,G8⟩
  ·go_simp;have hb':=Ji k (.cells (JI fun _=>0) 200);have G9:=JE hb';have b9:=k.size;have k:=Jg k hb';refine hK.out _ _ (HQ.out _ k) fun hHeld=>?_
   try simp only[Jq,Jo,Jp]
   clear hb';generalize V.alloc (.cells (JI fun _=>0) 200)=U at *;generalize V.heap.size=g9 at *;exact E0_9.out U g9 ⟨k,b9,G9⟩
  ·intro V g7 hh;obtain⟨k,b7,G7⟩:=hh;refine EO (rs:=[1,9,10]) (by kernel_rfl) (by simp) ?_;refine Ee rfl (fun K hK=>?_) (Ee rfl (fun K hK=>?_) (Ee rfl (fun K hK=>?_) EH))
   ·go_simp;refine Jd (C1.out _ k) fun V hb'=>?_;have k:=Jg k hb';have G7:=G7.go hb';refine hK.out _ _ (HQ.out _ k) fun hHeld=>?_
    try simp only[Jq,Jo,Jp]
    exact E1_7.out V g7 ⟨k,b7,G7⟩
   ·go_simp;have hb':=Ji k (.cells (JI fun _=>0) 200);have G8:=JE hb';have b8:=k.size;have d78:g7≠V.heap.size:=Fi G7.lt;have k:=Jg k hb';have G7:=G7.go hb';refine hK.out _ _ (HQ.out _ k) fun hHeld=>?_
    try simp only[Jq,Jo,Jp]
    clear hb';generalize V.alloc (.cells (JI fun _=>0) 200)=U at *;generalize V.heap.size=g8 at *;exact E0_78.out U g7 g8 ⟨k,b7,b8,d78,G7,G8⟩
   ·go_simp;have hb':=Ji k (.cells (JI fun _=>0) 200);have G9:=JE hb';have b9:=k.size;have d79:g7≠V.heap.size:=Fi G7.lt;have k:=Jg k hb';have G7:=G7.go hb';refine hK.out _ _ (HQ.out _ k) fun hHeld=>?_
    try simp only[Jq,Jo,Jp]
    clear hb';generalize V.alloc (.cells (JI fun _=>0) 200)=U at *;generalize V.heap.size=g9 at *;exact E0_79.out U g7 g9 ⟨k,b7,b9,d79,G7,G9⟩
  ·intro V g8 hh;obtain⟨k,b8,G8⟩:=hh;refine EO (rs:=[1,8,10]) (by kernel_rfl) (by simp) ?_;refine Ee rfl (fun K hK=>?_) (Ee rfl (fun K hK=>?_) (Ee rfl (fun K hK=>?_) EH))
   ·go_simp;refine Jd (C1.out _ k) fun V hb'=>?_;have k:=Jg k hb';have G8:=G8.go hb';refine hK.out _ _ (HQ.out _ k) fun hHeld=>?_
    try simp only[Jq,Jo,Jp]
    exact E1_8.out V g8 ⟨k,b8,G8⟩
   ·go_simp;have hb':=Ji k (.cells (JI fun _=>0) 200);have G7:=JE hb';have b7:=k.size;have d78:V.heap.size≠g8:=Fl G8.lt;have k:=Jg k hb';have G8:=G8.go hb';refine hK.out _ _ (HQ.out _ k) fun hHeld=>?_
    try simp only[Jq,Jo,Jp]
    clear hb';generalize V.alloc (.cells (JI fun _=>0) 200)=U at *;generalize V.heap.size=g7 at *;exact E0_78.out U g7 g8 ⟨k,b7,b8,d78,G7,G8⟩
   ·go_simp;have hb':=Ji k (.cells (JI fun _=>0) 200);have G9:=JE hb';have b9:=k.size;have d89:g8≠V.heap.size:=Fi G8.lt;have k:=Jg k hb';have G8:=G8.go hb';refine hK.out _ _ (HQ.out _ k) fun hHeld=>?_
    try simp only[Jq,Jo,Jp]
    clear hb';generalize V.alloc (.cells (JI fun _=>0) 200)=U at *;generalize V.heap.size=g9 at *;exact E0_89.out U g8 g9 ⟨k,b8,b9,d89,G8,G9⟩
  ·intro V g9 hh;obtain⟨k,b9,G9⟩:=hh;refine EO (rs:=[1,8,9]) (by kernel_rfl) (by simp) ?_;refine Ee rfl (fun K hK=>?_) (Ee rfl (fun K hK=>?_) (Ee rfl (fun K hK=>?_) EH))
   ·go_simp;refine Jd (C1.out _ k) fun V hb'=>?_;have k:=Jg k hb';have G9:=G9.go hb';refine hK.out _ _ (HQ.out _ k) fun hHeld=>?_
    try simp only[Jq,Jo,Jp]
    exact E1_9.out V g9 ⟨k,b9,G9⟩
   ·go_simp;have hb':=Ji k (.cells (JI fun _=>0) 200);have G7:=JE hb';have b7:=k.size;have d79:V.heap.size≠g9:=Fl G9.lt;have k:=Jg k hb';have G9:=G9.go hb';refine hK.out _ _ (HQ.out _ k) fun hHeld=>?_
    try simp only[Jq,Jo,Jp]
    clear hb';generalize V.alloc (.cells (JI fun _=>0) 200)=U at *;generalize V.heap.size=g7 at *;exact E0_79.out U g7 g9 ⟨k,b7,b9,d79,G7,G9⟩
   ·go_simp;have hb':=Ji k (.cells (JI fun _=>0) 200);have G8:=JE hb';have b8:=k.size;have d89:V.heap.size≠g9:=Fl G9.lt;have k:=Jg k hb';have G9:=G9.go hb';refine hK.out _ _ (HQ.out _ k) fun hHeld=>?_
    try simp only[Jq,Jo,Jp]
    clear hb';generalize V.alloc (.cells (JI fun _=>0) 200)=U at *;generalize V.heap.size=g8 at *;exact E0_89.out U g8 g9 ⟨k,b8,b9,d89,G8,G9⟩
  ·intro V hh;have k:=hh;refine EO (rs:=[4,8,9,10]) (by kernel_rfl) (by simp) ?_;refine Ee rfl (fun K hK=>?_) (Ee rfl (fun K hK=>?_) (Ee rfl (fun K hK=>?_) (Ee rfl (fun K hK=>?_) EH)))
   ·go_simp;refine Jd (C2.out _ k) fun V hb'=>?_;have k:=Jg k hb';refine hK.out _ _ (HQ.out _ k) fun hHeld=>?_
    try simp only[Jq,Jo,Jp]
    exact E2_.out V k
   ·go_simp;have hb':=Ji k (.cells (JI fun _=>0) 200);have G7:=JE hb';have b7:=k.size;have k:=Jg k hb';refine hK.out _ _ (HQ.out _ k) fun hHeld=>?_
    try simp only[Jq,Jo,Jp]
    clear hb';generalize V.alloc (.cells (JI fun _=>0) 200)=U at *;generalize V.heap.size=g7 at *;exact E1_7.out U g7 ⟨k,b7,G7⟩
   ·go_simp;have hb':=Ji k (.cells (JI fun _=>0) 200);have G8:=JE hb';have b8:=k.size;have k:=Jg k hb';refine hK.out _ _ (HQ.out _ k) fun hHeld=>?_
    try simp only[Jq,Jo,Jp]
    clear hb';generalize V.alloc (.cells (JI fun _=>0) 200)=U at *;generalize V.heap.size=g8 at *;exact E1_8.out U g8 ⟨k,b8,G8⟩
   ·go_simp;have hb':=Ji k (.cells (JI fun _=>0) 200);have G9:=JE hb';have b9:=k.size;have k:=Jg k hb';refine hK.out _ _ (HQ.out _ k) fun hHeld=>?_
    try simp only[Jq,Jo,Jp]
    clear hb';generalize V.alloc (.cells (JI fun _=>0) 200)=U at *;generalize V.heap.size=g9 at *;exact E1_9.out U g9 ⟨k,b9,G9⟩
  ·intro V g7 g8 hh;obtain⟨k,b7,b8,d78,G7,G8⟩:=hh;refine EO (rs:=[1,10]) (by kernel_rfl) (by simp) ?_;refine Ee rfl (fun K hK=>?_) (Ee rfl (fun K hK=>?_) EH)
   ·go_simp;refine Jd (C1.out _ k) fun V hb'=>?_;have k:=Jg k hb';have G7:=G7.go hb';have G8:=G8.go hb';refine hK.out _ _ (HQ.out _ k) fun hHeld=>?_
    try simp only[Jq,Jo,Jp]
    exact E1_78.out V g7 g8 ⟨k,b7,b8,d78,G7,G8⟩
   ·go_simp;have hb':=Ji k (.cells (JI fun _=>0) 200);have G9:=JE hb';have b9:=k.size;have d79:g7≠V.heap.size:=Fi G7.lt;have d89:g8≠V.heap.size:=Fi G8.lt;have k:=Jg k hb';have G7:=G7.go hb';have G8:=G8.go hb';refine hK.out _ _ (HQ.out _ k) fun hHeld=>?_
    try simp only[Jq,Jo,Jp]
    clear hb';generalize V.alloc (.cells (JI fun _=>0) 200)=U at *;generalize V.heap.size=g9 at *;exact E0_789.out U g7 g8 g9 ⟨k,b7,b8,b9,d78,d79,d89,G7,G8,G9⟩
  ·intro V g7 g9 hh;obtain⟨k,b7,b9,d79,G7,G9⟩:=hh;refine EO (rs:=[1,9]) (by kernel_rfl) (by simp) ?_;refine Ee rfl (fun K hK=>?_) (Ee rfl (fun K hK=>?_) EH)
   ·go_simp;refine Jd (C1.out _ k) fun V hb'=>?_;have k:=Jg k hb';have G7:=G7.go hb';have G9:=G9.go hb';refine hK.out _ _ (HQ.out _ k) fun hHeld=>?_
    try simp only[Jq,Jo,Jp]
    exact E1_79.out V g7 g9 ⟨k,b7,b9,d79,G7,G9⟩
   ·go_simp;have hb':=Ji k (.cells (JI fun _=>0) 200);have G8:=JE hb';have b8:=k.size;have d78:g7≠V.heap.size:=Fi G7.lt;have d89:V.heap.size≠g9:=Fl G9.lt;have k:=Jg k hb';have G7:=G7.go hb';have G9:=G9.go hb';refine hK.out _ _ (HQ.out _ k) fun hHeld=>?_
    try simp only[Jq,Jo,Jp]
    clear hb';generalize V.alloc (.cells (JI fun _=>0) 200)=U at *;generalize V.heap.size=g8 at *;exact E0_789.out U g7 g8 g9 ⟨k,b7,b8,b9,d78,d79,d89,G7,G8,G9⟩
  ·intro V g8 g9 hh;obtain⟨k,b8,b9,d89,G8,G9⟩:=hh;refine EO (rs:=[1,8]) (by kernel_rfl) (by simp) ?_;refine Ee rfl (fun K hK=>?_) (Ee rfl (fun K hK=>?_) EH)
   ·go_simp;refine Jd (C1.out _ k) fun V hb'=>?_;have k:=Jg k hb';have G8:=G8.go hb';have G9:=G9.go hb';refine hK.out _ _ (HQ.out _ k) fun hHeld=>?_
    try simp only[Jq,Jo,Jp]
    exact E1_89.out V g8 g9 ⟨k,b8,b9,d89,G8,G9⟩
   ·go_simp;have hb':=Ji k (.cells (JI fun _=>0) 200);have G7:=JE hb';have b7:=k.size;have d78:V.heap.size≠g8:=Fl G8.lt;have d79:V.heap.size≠g9:=Fl G9.lt;have k:=Jg k hb';have G8:=G8.go hb';have G9:=G9.go hb';refine hK.out _ _ (HQ.out _ k) fun hHeld=>?_
    try simp only[Jq,Jo,Jp]
    clear hb';generalize V.alloc (.cells (JI fun _=>0) 200)=U at *;generalize V.heap.size=g7 at *;exact E0_789.out U g7 g8 g9 ⟨k,b7,b8,b9,d78,d79,d89,G7,G8,G9⟩
  ·intro V g7 hh;obtain⟨k,b7,G7⟩:=hh;refine EO (rs:=[4,9,10]) (by kernel_rfl) (by simp) ?_;refine Ee rfl (fun K hK=>?_) (Ee rfl (fun K hK=>?_) (Ee rfl (fun K hK=>?_) EH))
   ·go_simp;refine Jd (C2.out _ k) fun V hb'=>?_;have k:=Jg k hb';have G7:=G7.go hb';refine hK.out _ _ (HQ.out _ k) fun hHeld=>?_
    try simp only[Jq,Jo,Jp]
    exact E2_7.out V g7 ⟨k,b7,G7⟩
   ·go_simp;have hb':=Ji k (.cells (JI fun _=>0) 200);have G8:=JE hb';have b8:=k.size;have d78:g7≠V.heap.size:=Fi G7.lt;have k:=Jg k hb';have G7:=G7.go hb';refine hK.out _ _ (HQ.out _ k) fun hHeld=>?_
    try simp only[Jq,Jo,Jp]
    clear hb';generalize V.alloc (.cells (JI fun _=>0) 200)=U at *;generalize V.heap.size=g8 at *;exact E1_78.out U g7 g8 ⟨k,b7,b8,d78,G7,G8⟩
   ·go_simp;have hb':=Ji k (.cells (JI fun _=>0) 200);have G9:=JE hb';have b9:=k.size;have d79:g7≠V.heap.size:=Fi G7.lt;have k:=Jg k hb';have G7:=G7.go hb';refine hK.out _ _ (HQ.out _ k) fun hHeld=>?_
    try simp only[Jq,Jo,Jp]
    clear hb';generalize V.alloc (.cells (JI fun _=>0) 200)=U at *;generalize V.heap.size=g9 at *;exact E1_79.out U g7 g9 ⟨k,b7,b9,d79,G7,G9⟩
  ·intro V g8 hh;obtain⟨k,b8,G8⟩:=hh;refine EO (rs:=[4,8,10]) (by kernel_rfl) (by simp) ?_;refine Ee rfl (fun K hK=>?_) (Ee rfl (fun K hK=>?_) (Ee rfl (fun K hK=>?_) EH))
   ·go_simp;refine Jd (C2.out _ k) fun V hb'=>?_;have k:=Jg k hb';have G8:=G8.go hb';refine hK.out _ _ (HQ.out _ k) fun hHeld=>?_
    try simp only[Jq,Jo,Jp]
    exact E2_8.out V g8 ⟨k,b8,G8⟩
   ·go_simp;have hb':=Ji k (.cells (JI fun _=>0) 200);have G7:=JE hb';have b7:=k.size;have d78:V.heap.size≠g8:=Fl G8.lt;have k:=Jg k hb';have G8:=G8.go hb';refine hK.out _ _ (HQ.out _ k) fun hHeld=>?_
    try simp only[Jq,Jo,Jp]
    clear hb';generalize V.alloc (.cells (JI fun _=>0) 200)=U at *;generalize V.heap.size=g7 at *;exact E1_78.out U g7 g8 ⟨k,b7,b8,d78,G7,G8⟩
   ·go_simp;have hb':=Ji k (.cells (JI fun _=>0) 200);have G9:=JE hb';have b9:=k.size;have d89:g8≠V.heap.size:=Fi G8.lt;have k:=Jg k hb';have G8:=G8.go hb';refine hK.out _ _ (HQ.out _ k) fun hHeld=>?_
    try simp only[Jq,Jo,Jp]
    clear hb';generalize V.alloc (.cells (JI fun _=>0) 200)=U at *;generalize V.heap.size=g9 at *;exact E1_89.out U g8 g9 ⟨k,b8,b9,d89,G8,G9⟩
  ·intro V g9 hh;obtain⟨k,b9,G9⟩:=hh;refine EO (rs:=[4,8,9]) (by kernel_rfl) (by simp) ?_;refine Ee rfl (fun K hK=>?_) (Ee rfl (fun K hK=>?_) (Ee rfl (fun K hK=>?_) EH))
   ·go_simp;refine Jd (C2.out _ k) fun V hb'=>?_;have k:=Jg k hb';have G9:=G9.go hb';refine hK.out _ _ (HQ.out _ k) fun hHeld=>?_
    try simp only[Jq,Jo,Jp]
    exact E2_9.out V g9 ⟨k,b9,G9⟩
   ·go_simp;have hb':=Ji k (.cells (JI fun _=>0) 200);have G7:=JE hb';have b7:=k.size;have d79:V.heap.size≠g9:=Fl G9.lt;have k:=Jg k hb';have G9:=G9.go hb';refine hK.out _ _ (HQ.out _ k) fun hHeld=>?_
    try simp only[Jq,Jo,Jp]
    clear hb';generalize V.alloc (.cells (JI fun _=>0) 200)=U at *;generalize V.heap.size=g7 at *;exact E1_79.out U g7 g9 ⟨k,b7,b9,d79,G7,G9⟩
   ·go_simp;have hb':=Ji k (.cells (JI fun _=>0) 200);have G8:=JE hb';have b8:=k.size;have d89:V.heap.size≠g9:=Fl G9.lt;have k:=Jg k hb';have G9:=G9.go hb';refine hK.out _ _ (HQ.out _ k) fun hHeld=>?_
    try simp only[Jq,Jo,Jp]
    clear hb';generalize V.alloc (.cells (JI fun _=>0) 200)=U at *;generalize V.heap.size=g8 at *;exact E1_89.out U g8 g9 ⟨k,b8,b9,d89,G8,G9⟩
  ·intro V hh;have k:=hh;refine EO (rs:=[7,8,9,10]) (by kernel_rfl) (by simp) ?_;refine Ee rfl (fun K hK=>?_) (Ee rfl (fun K hK=>?_) (Ee rfl (fun K hK=>?_) (Ee rfl (fun K hK=>?_) EH)))
   ·go_simp;refine Jd (C3.out _ k) fun V hb'=>?_;have k:=Jg k hb';refine hK.out _ _ (HQ.out _ k) fun hHeld=>?_
    try simp only[Jq,Jo,Jp]
    exact E3_.out V k
   ·go_simp;have hb':=Ji k (.cells (JI fun _=>0) 200);have G7:=JE hb';have b7:=k.size;have k:=Jg k hb';refine hK.out _ _ (HQ.out _ k) fun hHeld=>?_
    try simp only[Jq,Jo,Jp]
    clear hb';generalize V.alloc (.cells (JI fun _=>0) 200)=U at *;generalize V.heap.size=g7 at *;exact E2_7.out U g7 ⟨k,b7,G7⟩
   ·go_simp;have hb':=Ji k (.cells (JI fun _=>0) 200);have G8:=JE hb';have b8:=k.size;have k:=Jg k hb';refine hK.out _ _ (HQ.out _ k) fun hHeld=>?_
    try simp only[Jq,Jo,Jp]
    clear hb';generalize V.alloc (.cells (JI fun _=>0) 200)=U at *;generalize V.heap.size=g8 at *;exact E2_8.out U g8 ⟨k,b8,G8⟩
   ·go_simp;have hb':=Ji k (.cells (JI fun _=>0) 200);have G9:=JE hb';have b9:=k.size;have k:=Jg k hb';refine hK.out _ _ (HQ.out _ k) fun hHeld=>?_
    try simp only[Jq,Jo,Jp]
    clear hb';generalize V.alloc (.cells (JI fun _=>0) 200)=U at *;generalize V.heap.size=g9 at *;exact E2_9.out U g9 ⟨k,b9,G9⟩
  ·intro V g7 g8 g9 hh;obtain⟨k,b7,b8,b9,d78,d79,d89,G7,G8,G9⟩:=hh;refine Qa 1 fun K hK=>?_
   ·go_simp;refine Jd (C1.out _ k) fun V hb'=>?_;have k:=Jg k hb';have G7:=G7.go hb';have G8:=G8.go hb';have G9:=G9.go hb';refine hK.out _ _ (HQ.out _ k) fun hHeld=>?_
    try simp only[Jq,Jo,Jp]
    exact E1_789.out V g7 g8 g9 ⟨k,b7,b8,b9,d78,d79,d89,G7,G8,G9⟩
  ·intro V g7 g8 hh;obtain⟨k,b7,b8,d78,G7,G8⟩:=hh;refine EO (rs:=[4,10]) (by kernel_rfl) (by simp) ?_;refine Ee rfl (fun K hK=>?_) (Ee rfl (fun K hK=>?_) EH)
   ·go_simp;refine Jd (C2.out _ k) fun V hb'=>?_;have k:=Jg k hb';have G7:=G7.go hb';have G8:=G8.go hb';refine hK.out _ _ (HQ.out _ k) fun hHeld=>?_
    try simp only[Jq,Jo,Jp]
    exact E2_78.out V g7 g8 ⟨k,b7,b8,d78,G7,G8⟩
   ·go_simp;have hb':=Ji k (.cells (JI fun _=>0) 200);have G9:=JE hb';have b9:=k.size;have d79:g7≠V.heap.size:=Fi G7.lt;have d89:g8≠V.heap.size:=Fi G8.lt;have k:=Jg k hb';have G7:=G7.go hb';have G8:=G8.go hb';refine hK.out _ _ (HQ.out _ k) fun hHeld=>?_
    try simp only[Jq,Jo,Jp]
    clear hb';generalize V.alloc (.cells (JI fun _=>0) 200)=U at *;generalize V.heap.size=g9 at *;exact E1_789.out U g7 g8 g9 ⟨k,b7,b8,b9,d78,d79,d89,G7,G8,G9⟩
  ·intro V g7 g9 hh;obtain⟨k,b7,b9,d79,G7,G9⟩:=hh;refine EO (rs:=[4,9]) (by kernel_rfl) (by simp) ?_;refine Ee rfl (fun K hK=>?_) (Ee rfl (fun K hK=>?_) EH)
   ·go_simp;refine Jd (C2.out _ k) fun V hb'=>?_;have k:=Jg k hb';have G7:=G7.go hb';have G9:=G9.go hb';refine hK.out _ _ (HQ.out _ k) fun hHeld=>?_
    try simp only[Jq,Jo,Jp]
    exact E2_79.out V g7 g9 ⟨k,b7,b9,d79,G7,G9⟩
   ·go_simp;have hb':=Ji k (.cells (JI fun _=>0) 200);have G8:=JE hb';have b8:=k.size;have d78:g7≠V.heap.size:=Fi G7.lt;have d89:V.heap.size≠g9:=Fl G9.lt;have k:=Jg k hb';have G7:=G7.go hb';have G9:=G9.go hb';refine hK.out _ _ (HQ.out _ k) fun hHeld=>?_
    try simp only[Jq,Jo,Jp]
    clear hb';generalize V.alloc (.cells (JI fun _=>0) 200)=U at *;generalize V.heap.size=g8 at *;exact E1_789.out U g7 g8 g9 ⟨k,b7,b8,b9,d78,d79,d89,G7,G8,G9⟩
  ·intro V g8 g9 hh;obtain⟨k,b8,b9,d89,G8,G9⟩:=hh;refine EO (rs:=[4,8]) (by kernel_rfl) (by simp) ?_;refine Ee rfl (fun K hK=>?_) (Ee rfl (fun K hK=>?_) EH)
   ·go_simp;refine Jd (C2.out _ k) fun V hb'=>?_;have k:=Jg k hb';have G8:=G8.go hb';have G9:=G9.go hb';refine hK.out _ _ (HQ.out _ k) fun hHeld=>?_
    try simp only[Jq,Jo,Jp]
    exact E2_89.out V g8 g9 ⟨k,b8,b9,d89,G8,G9⟩
   ·go_simp;have hb':=Ji k (.cells (JI fun _=>0) 200);have G7:=JE hb';have b7:=k.size;have d78:V.heap.size≠g8:=Fl G8.lt;have d79:V.heap.size≠g9:=Fl G9.lt;have k:=Jg k hb';have G8:=G8.go hb';have G9:=G9.go hb';refine hK.out _ _ (HQ.out _ k) fun hHeld=>?_
    try simp only[Jq,Jo,Jp]
    clear hb';generalize V.alloc (.cells (JI fun _=>0) 200)=U at *;generalize V.heap.size=g7 at *;exact E1_789.out U g7 g8 g9 ⟨k,b7,b8,b9,d78,d79,d89,G7,G8,G9⟩
  ·intro V g7 hh;obtain⟨k,b7,G7⟩:=hh;refine EO (rs:=[7,9,10]) (by kernel_rfl) (by simp) ?_;refine Ee rfl (fun K hK=>?_) (Ee rfl (fun K hK=>?_) (Ee rfl (fun K hK=>?_) EH))
   ·go_simp;refine Jd (C3.out _ k) fun V hb'=>?_;have k:=Jg k hb';have G7:=G7.go hb';refine hK.out _ _ (HQ.out _ k) fun hHeld=>?_
    try simp only[Jq,Jo,Jp]
    exact E3_7.out V g7 ⟨k,b7,G7⟩
   ·go_simp;have hb':=Ji k (.cells (JI fun _=>0) 200);have G8:=JE hb';have b8:=k.size;have d78:g7≠V.heap.size:=Fi G7.lt;have k:=Jg k hb';have G7:=G7.go hb';refine hK.out _ _ (HQ.out _ k) fun hHeld=>?_
    try simp only[Jq,Jo,Jp]
    clear hb';generalize V.alloc (.cells (JI fun _=>0) 200)=U at *;generalize V.heap.size=g8 at *;exact E2_78.out U g7 g8 ⟨k,b7,b8,d78,G7,G8⟩
   ·go_simp;have hb':=Ji k (.cells (JI fun _=>0) 200);have G9:=JE hb';have b9:=k.size;have d79:g7≠V.heap.size:=Fi G7.lt;have k:=Jg k hb';have G7:=G7.go hb';refine hK.out _ _ (HQ.out _ k) fun hHeld=>?_
    try simp only[Jq,Jo,Jp]
    clear hb';generalize V.alloc (.cells (JI fun _=>0) 200)=U at *;generalize V.heap.size=g9 at *;exact E2_79.out U g7 g9 ⟨k,b7,b9,d79,G7,G9⟩
  ·intro V g8 hh;obtain⟨k,b8,G8⟩:=hh;refine EO (rs:=[7,8,10]) (by kernel_rfl) (by simp) ?_;refine Ee rfl (fun K hK=>?_) (Ee rfl (fun K hK=>?_) (Ee rfl (fun K hK=>?_) EH))
   ·go_simp;refine Jd (C3.out _ k) fun V hb'=>?_;have k:=Jg k hb';have G8:=G8.go hb';refine hK.out _ _ (HQ.out _ k) fun hHeld=>?_
    try simp only[Jq,Jo,Jp]
    exact E3_8.out V g8 ⟨k,b8,G8⟩
   ·go_simp;have hb':=Ji k (.cells (JI fun _=>0) 200);have G7:=JE hb';have b7:=k.size;have d78:V.heap.size≠g8:=Fl G8.lt;have k:=Jg k hb';have G8:=G8.go hb';refine hK.out _ _ (HQ.out _ k) fun hHeld=>?_
    try simp only[Jq,Jo,Jp]
    clear hb';generalize V.alloc (.cells (JI fun _=>0) 200)=U at *;generalize V.heap.size=g7 at *;exact E2_78.out U g7 g8 ⟨k,b7,b8,d78,G7,G8⟩
   ·go_simp;have hb':=Ji k (.cells (JI fun _=>0) 200);have G9:=JE hb';have b9:=k.size;have d89:g8≠V.heap.size:=Fi G8.lt;have k:=Jg k hb';have G8:=G8.go hb';refine hK.out _ _ (HQ.out _ k) fun hHeld=>?_
    try simp only[Jq,Jo,Jp]
    clear hb';generalize V.alloc (.cells (JI fun _=>0) 200)=U at *;generalize V.heap.size=g9 at *;exact E2_89.out U g8 g9 ⟨k,b8,b9,d89,G8,G9⟩
  ·intro V g9 hh;obtain⟨k,b9,G9⟩:=hh;refine EO (rs:=[7,8,9]) (by kernel_rfl) (by simp) ?_;refine Ee rfl (fun K hK=>?_) (Ee rfl (fun K hK=>?_) (Ee rfl (fun K hK=>?_) EH))
   ·go_simp;refine Jd (C3.out _ k) fun V hb'=>?_;have k:=Jg k hb';have G9:=G9.go hb';refine hK.out _ _ (HQ.out _ k) fun hHeld=>?_
    try simp only[Jq,Jo,Jp]
    exact E3_9.out V g9 ⟨k,b9,G9⟩
   ·go_simp;have hb':=Ji k (.cells (JI fun _=>0) 200);have G7:=JE hb';have b7:=k.size;have d79:V.heap.size≠g9:=Fl G9.lt;have k:=Jg k hb';have G9:=G9.go hb';refine hK.out _ _ (HQ.out _ k) fun hHeld=>?_
    try simp only[Jq,Jo,Jp]
    clear hb';generalize V.alloc (.cells (JI fun _=>0) 200)=U at *;generalize V.heap.size=g7 at *;exact E2_79.out U g7 g9 ⟨k,b7,b9,d79,G7,G9⟩
   ·go_simp;have hb':=Ji k (.cells (JI fun _=>0) 200);have G8:=JE hb';have b8:=k.size;have d89:V.heap.size≠g9:=Fl G9.lt;have k:=Jg k hb';have G9:=G9.go hb';refine hK.out _ _ (HQ.out _ k) fun hHeld=>?_
    try simp only[Jq,Jo,Jp]
    clear hb';generalize V.alloc (.cells (JI fun _=>0) 200)=U at *;generalize V.heap.size=g8 at *;exact E2_89.out U g8 g9 ⟨k,b8,b9,d89,G8,G9⟩
  ·intro V hh;have k:=hh;refine EO (rs:=[8,9,10]) (by kernel_rfl) (by simp) ?_;refine Ee rfl (fun K hK=>?_) (Ee rfl (fun K hK=>?_) (Ee rfl (fun K hK=>?_) EH))
   ·go_simp;have hb':=Ji k (.cells (JI fun _=>0) 200);have G7:=JE hb';have b7:=k.size;have k:=Jg k hb';refine hK.out _ _ (HQ.out _ k) fun hHeld=>?_
    try simp only[Jq,Jo,Jp]
    clear hb';generalize V.alloc (.cells (JI fun _=>0) 200)=U at *;generalize V.heap.size=g7 at *;exact E3_7.out U g7 ⟨k,b7,G7⟩
   ·go_simp;have hb':=Ji k (.cells (JI fun _=>0) 200);have G8:=JE hb';have b8:=k.size;have k:=Jg k hb';refine hK.out _ _ (HQ.out _ k) fun hHeld=>?_
    try simp only[Jq,Jo,Jp]
    clear hb';generalize V.alloc (.cells (JI fun _=>0) 200)=U at *;generalize V.heap.size=g8 at *;exact E3_8.out U g8 ⟨k,b8,G8⟩
   ·go_simp;have hb':=Ji k (.cells (JI fun _=>0) 200);have G9:=JE hb';have b9:=k.size;have k:=Jg k hb';refine hK.out _ _ (HQ.out _ k) fun hHeld=>?_
    try simp only[Jq,Jo,Jp]
    clear hb';generalize V.alloc (.cells (JI fun _=>0) 200)=U at *;generalize V.heap.size=g9 at *;exact E3_9.out U g9 ⟨k,b9,G9⟩
  ·intro V g7 g8 g9 hh;obtain⟨k,b7,b8,b9,d78,d79,d89,G7,G8,G9⟩:=hh;refine Qa 4 fun K hK=>?_
   ·go_simp;refine Jd (C2.out _ k) fun V hb'=>?_;have k:=Jg k hb';have G7:=G7.go hb';have G8:=G8.go hb';have G9:=G9.go hb';refine hK.out _ _ (HQ.out _ k) fun hHeld=>?_
    try simp only[Jq,Jo,Jp]
    exact E2_789.out V g7 g8 g9 ⟨k,b7,b8,b9,d78,d79,d89,G7,G8,G9⟩
  ·intro V g7 g8 hh;obtain⟨k,b7,b8,d78,G7,G8⟩:=hh;refine EO (rs:=[7,10]) (by kernel_rfl) (by simp) ?_;refine Ee rfl (fun K hK=>?_) (Ee rfl (fun K hK=>?_) EH)
   ·go_simp;refine Jd (C3.out _ k) fun V hb'=>?_;have k:=Jg k hb';have G7:=G7.go hb';have G8:=G8.go hb';refine hK.out _ _ (HQ.out _ k) fun hHeld=>?_
    try simp only[Jq,Jo,Jp]
    exact E3_78.out V g7 g8 ⟨k,b7,b8,d78,G7,G8⟩
   ·go_simp;have hb':=Ji k (.cells (JI fun _=>0) 200);have G9:=JE hb';have b9:=k.size;have d79:g7≠V.heap.size:=Fi G7.lt;have d89:g8≠V.heap.size:=Fi G8.lt;have k:=Jg k hb';have G7:=G7.go hb';have G8:=G8.go hb';refine hK.out _ _ (HQ.out _ k) fun hHeld=>?_
    try simp only[Jq,Jo,Jp]
    clear hb';generalize V.alloc (.cells (JI fun _=>0) 200)=U at *;generalize V.heap.size=g9 at *;exact E2_789.out U g7 g8 g9 ⟨k,b7,b8,b9,d78,d79,d89,G7,G8,G9⟩
  ·intro V g7 g9 hh;obtain⟨k,b7,b9,d79,G7,G9⟩:=hh;refine EO (rs:=[7,9]) (by kernel_rfl) (by simp) ?_;refine Ee rfl (fun K hK=>?_) (Ee rfl (fun K hK=>?_) EH)
   ·go_simp;refine Jd (C3.out _ k) fun V hb'=>?_;have k:=Jg k hb';have G7:=G7.go hb';have G9:=G9.go hb';refine hK.out _ _ (HQ.out _ k) fun hHeld=>?_
    try simp only[Jq,Jo,Jp]
    exact E3_79.out V g7 g9 ⟨k,b7,b9,d79,G7,G9⟩
   ·go_simp;have hb':=Ji k (.cells (JI fun _=>0) 200);have G8:=JE hb';have b8:=k.size;have d78:g7≠V.heap.size:=Fi G7.lt;have d89:V.heap.size≠g9:=Fl G9.lt;have k:=Jg k hb';have G7:=G7.go hb';have G9:=G9.go hb';refine hK.out _ _ (HQ.out _ k) fun hHeld=>?_
    try simp only[Jq,Jo,Jp]
    clear hb';generalize V.alloc (.cells (JI fun _=>0) 200)=U at *;generalize V.heap.size=g8 at *;exact E2_789.out U g7 g8 g9 ⟨k,b7,b8,b9,d78,d79,d89,G7,G8,G9⟩
  ·intro V g8 g9 hh;obtain⟨k,b8,b9,d89,G8,G9⟩:=hh;refine EO (rs:=[7,8]) (by kernel_rfl) (by simp) ?_;refine Ee rfl (fun K hK=>?_) (Ee rfl (fun K hK=>?_) EH)
   ·go_simp;refine Jd (C3.out _ k) fun V hb'=>?_;have k:=Jg k hb';have G8:=G8.go hb';have G9:=G9.go hb';refine hK.out _ _ (HQ.out _ k) fun hHeld=>?_
    try simp only[Jq,Jo,Jp]
    exact E3_89.out V g8 g9 ⟨k,b8,b9,d89,G8,G9⟩
   ·go_simp;have hb':=Ji k (.cells (JI fun _=>0) 200);have G7:=JE hb';have b7:=k.size;have d78:V.heap.size≠g8:=Fl G8.lt;have d79:V.heap.size≠g9:=Fl G9.lt;have k:=Jg k hb';have G8:=G8.go hb';have G9:=G9.go hb';refine hK.out _ _ (HQ.out _ k) fun hHeld=>?_
    try simp only[Jq,Jo,Jp]
    clear hb';generalize V.alloc (.cells (JI fun _=>0) 200)=U at *;generalize V.heap.size=g7 at *;exact E2_789.out U g7 g8 g9 ⟨k,b7,b8,b9,d78,d79,d89,G7,G8,G9⟩
  ·intro V g7 hh;obtain⟨k,b7,G7⟩:=hh;refine EO (rs:=[9,10]) (by kernel_rfl) (by simp) ?_;refine Ee rfl (fun K hK=>?_) (Ee rfl (fun K hK=>?_) EH)
   ·go_simp;have hb':=Ji k (.cells (JI fun _=>0) 200);have G8:=JE hb';have b8:=k.size;have d78:g7≠V.heap.size:=Fi G7.lt;have k:=Jg k hb';have G7:=G7.go hb';refine hK.out _ _ (HQ.out _ k) fun hHeld=>?_
    try simp only[Jq,Jo,Jp]
    clear hb';generalize V.alloc (.cells (JI fun _=>0) 200)=U at *;generalize V.heap.size=g8 at *;exact E3_78.out U g7 g8 ⟨k,b7,b8,d78,G7,G8⟩
   ·go_simp;have hb':=Ji k (.cells (JI fun _=>0) 200);have G9:=JE hb';have b9:=k.size;have d79:g7≠V.heap.size:=Fi G7.lt;have k:=Jg k hb';have G7:=G7.go hb';refine hK.out _ _ (HQ.out _ k) fun hHeld=>?_
    try simp only[Jq,Jo,Jp]
    clear hb';generalize V.alloc (.cells (JI fun _=>0) 200)=U at *;generalize V.heap.size=g9 at *;exact E3_79.out U g7 g9 ⟨k,b7,b9,d79,G7,G9⟩
  ·intro V g8 hh;obtain⟨k,b8,G8⟩:=hh;refine EO (rs:=[8,10]) (by kernel_rfl) (by simp) ?_;refine Ee rfl (fun K hK=>?_) (Ee rfl (fun K hK=>?_) EH)
   ·go_simp;have hb':=Ji k (.cells (JI fun _=>0) 200);have G7:=JE hb';have b7:=k.size;have d78:V.heap.size≠g8:=Fl G8.lt;have k:=Jg k hb';have G8:=G8.go hb';refine hK.out _ _ (HQ.out _ k) fun hHeld=>?_
    try simp only[Jq,Jo,Jp]
    clear hb';generalize V.alloc (.cells (JI fun _=>0) 200)=U at *;generalize V.heap.size=g7 at *;exact E3_78.out U g7 g8 ⟨k,b7,b8,d78,G7,G8⟩
   ·go_simp;have hb':=Ji k (.cells (JI fun _=>0) 200);have G9:=JE hb';have b9:=k.size;have d89:g8≠V.heap.size:=Fi G8.lt;have k:=Jg k hb';have G8:=G8.go hb';refine hK.out _ _ (HQ.out _ k) fun hHeld=>?_
    try simp only[Jq,Jo,Jp]
    clear hb';generalize V.alloc (.cells (JI fun _=>0) 200)=U at *;generalize V.heap.size=g9 at *;exact E3_89.out U g8 g9 ⟨k,b8,b9,d89,G8,G9⟩
  ·intro V g9 hh;obtain⟨k,b9,G9⟩:=hh;refine EO (rs:=[8,9]) (by kernel_rfl) (by simp) ?_;refine Ee rfl (fun K hK=>?_) (Ee rfl (fun K hK=>?_) EH)
   ·go_simp;have hb':=Ji k (.cells (JI fun _=>0) 200);have G7:=JE hb';have b7:=k.size;have d79:V.heap.size≠g9:=Fl G9.lt;have k:=Jg k hb';have G9:=G9.go hb';refine hK.out _ _ (HQ.out _ k) fun hHeld=>?_
    try simp only[Jq,Jo,Jp]
    clear hb';generalize V.alloc (.cells (JI fun _=>0) 200)=U at *;generalize V.heap.size=g7 at *;exact E3_79.out U g7 g9 ⟨k,b7,b9,d79,G7,G9⟩
   ·go_simp;have hb':=Ji k (.cells (JI fun _=>0) 200);have G8:=JE hb';have b8:=k.size;have d89:V.heap.size≠g9:=Fl G9.lt;have k:=Jg k hb';have G9:=G9.go hb';refine hK.out _ _ (HQ.out _ k) fun hHeld=>?_
    try simp only[Jq,Jo,Jp]
    clear hb';generalize V.alloc (.cells (JI fun _=>0) 200)=U at *;generalize V.heap.size=g8 at *;exact E3_89.out U g8 g9 ⟨k,b8,b9,d89,G8,G9⟩
  ·intro V g7 g8 g9 hh;obtain⟨k,b7,b8,b9,d78,d79,d89,G7,G8,G9⟩:=hh;refine Qa 7 fun K hK=>?_
   ·go_simp;refine Jd (C3.out _ k) fun V hb'=>?_;have k:=Jg k hb';have G7:=G7.go hb';have G8:=G8.go hb';have G9:=G9.go hb';refine hK.out _ _ (HQ.out _ k) fun hHeld=>?_
    try simp only[Jq,Jo,Jp]
    exact E3_789.out V g7 g8 g9 ⟨k,b7,b8,b9,d78,d79,d89,G7,G8,G9⟩
  ·intro V g7 g8 hh;obtain⟨k,b7,b8,d78,G7,G8⟩:=hh;refine Qa 10 fun K hK=>?_
   ·go_simp;have hb':=Ji k (.cells (JI fun _=>0) 200);have G9:=JE hb';have b9:=k.size;have d79:g7≠V.heap.size:=Fi G7.lt;have d89:g8≠V.heap.size:=Fi G8.lt;have k:=Jg k hb';have G7:=G7.go hb';have G8:=G8.go hb';refine hK.out _ _ (HQ.out _ k) fun hHeld=>?_
    try simp only[Jq,Jo,Jp]
    clear hb';generalize V.alloc (.cells (JI fun _=>0) 200)=U at *;generalize V.heap.size=g9 at *;exact E3_789.out U g7 g8 g9 ⟨k,b7,b8,b9,d78,d79,d89,G7,G8,G9⟩
  ·intro V g7 g9 hh;obtain⟨k,b7,b9,d79,G7,G9⟩:=hh;refine Qa 9 fun K hK=>?_
   ·go_simp;have hb':=Ji k (.cells (JI fun _=>0) 200);have G8:=JE hb';have b8:=k.size;have d78:g7≠V.heap.size:=Fi G7.lt;have d89:V.heap.size≠g9:=Fl G9.lt;have k:=Jg k hb';have G7:=G7.go hb';have G9:=G9.go hb';refine hK.out _ _ (HQ.out _ k) fun hHeld=>?_
    try simp only[Jq,Jo,Jp]
    clear hb';generalize V.alloc (.cells (JI fun _=>0) 200)=U at *;generalize V.heap.size=g8 at *;exact E3_789.out U g7 g8 g9 ⟨k,b7,b8,b9,d78,d79,d89,G7,G8,G9⟩
  ·intro V g8 g9 hh;obtain⟨k,b8,b9,d89,G8,G9⟩:=hh;refine Qa 8 fun K hK=>?_
   ·go_simp;have hb':=Ji k (.cells (JI fun _=>0) 200);have G7:=JE hb';have b7:=k.size;have d78:V.heap.size≠g8:=Fl G8.lt;have d79:V.heap.size≠g9:=Fl G9.lt;have k:=Jg k hb';have G8:=G8.go hb';have G9:=G9.go hb';refine hK.out _ _ (HQ.out _ k) fun hHeld=>?_
    try simp only[Jq,Jo,Jp]
    clear hb';generalize V.alloc (.cells (JI fun _=>0) 200)=U at *;generalize V.heap.size=g7 at *;exact E3_789.out U g7 g8 g9 ⟨k,b7,b8,b9,d78,d79,d89,G7,G8,G9⟩
  ·intro V g7 g8 g9 hh;obtain⟨k,b7,b8,b9,d78,d79,d89,G7,G8,G9⟩:=hh;refine Qa 11 fun K hK=>?_;rw[Ei (by kernel_rfl)];refine Qe 200 (.tmp 7) (.tmp 15) rfl _ 200 _ (JI f1) rfl rfl G7 (by rw[QG];exact HI.out) rfl (Xz _) ?_;intro Ws hblk hg;have G8:=G8.grown hg (fun e=>by injection e with e;omega);have G9:=G9.grown hg (fun e=>by injection e with e;omega);have k:=k.trans (Jb hg k.size (fun j hj=>by cases hj;exact b7));have G7:=hblk;clear hg hblk;refine hK.out _ _ (HQ.out _ k) fun hHeld=>?_;clear hK K;refine Qa 12 fun K hK=>?_;rw[Ei (by kernel_rfl)];refine Qe 200 (.tmp 8) (.tmp 18) rfl _ 200 _ (JI f2) rfl rfl G8 (by rw[QG];exact HI.out) rfl (Xz _) ?_;intro Ws hblk hg;have G7:=G7.grown hg (fun e=>by injection e with e;omega);have G9:=G9.grown hg (fun e=>by injection e with e;omega);have k:=k.trans (Jb hg k.size (fun j hj=>by cases hj;exact b8));have G8:=hblk;clear hg hblk;refine hK.out _ _ (HQ.out _ k) fun hHeld=>?_;clear hK K;refine Qa 13 fun K hK=>?_;rw[Ei (by kernel_rfl)];refine Qe 200 (.tmp 9) (.tmp 21) rfl _ 200 _ (JI f3) rfl rfl G9 (by rw[QG];exact HI.out) rfl (Xz _) ?_;intro Ws hblk hg;have G7:=G7.grown hg (fun e=>by injection e with e;omega);have G8:=G8.grown hg (fun e=>by injection e with e;omega);have k:=k.trans (Jb hg k.size (fun j hj=>by cases hj;exact b9));have G9:=hblk;clear hg hblk;refine hK.out _ _ (HQ.out _ k) fun hHeld=>?_;clear hK K;refine Es (by kernel_rfl) ?_ _;refine QQ.out (hKK _ _ ?_);go_wp2_with fail;go_meet;exact⟨_,_,_,rfl,rfl,rfl,b7,d78,d79,k,G7,G8,G9⟩
 case rest=>
  obtain⟨g7,g8,g9,rfl,rfl,rfl,hh⟩:=hcut;obtain⟨p1,p2,p3,k,G7,G8,G9⟩:=hh.out;clear C1 C2 C3 hh;go_wp2_with fail;go_loopw [10] (fun v10 wr=>∃j:Nat,v10=.int .i64 j/\j<=64/\Bz W0 wr/\Jm wr g7 200 (JI (mix j f1 G))/\Jm wr g8 200 (JI f2)/\Jm wr g9 200 (JI f3)) (fun v10 _=>64 - (intOf v10).toNat)
  case atStart=>exact⟨0,rfl,by omega,k,by rw[JgX];exact G7,G8,G9⟩
  case round=>
   obtain⟨j,rfl,hj,hb,q1,q2,q3⟩:=hrel;clear k G7 G8 G9;by_cases hlt:j < 64
   ·have d1:=q1.cell j;have d2:=q2.cell j;have d3:=q3.cell j;have fj:=q1.frozen j;rw[US _ _ hlt] at d1 d2 d3;rw[Jmi] at d1;have hgj:=HGN.out j;generalize hy1:f1 j=y1 at d1 hgj;generalize f2 j=y2 at d2 hgj;generalize f3 j=y3 at d3 hgj;have Q1:=Ja q1;have Q2:=Ja q2;have Q3:=Ja q3;have HB:=Ja hb;have HP:=Ja (And.intro p1 (And.intro p2 p3));have HGJ:=Ja hgj;have HY1:=Ja hy1;clear q1 q2 q3 hb p1 p2 p3 hgj hy1;by_cases hc:y2<=y1
    ·have hM:=Ja (show max y1 y3=G j by rw[HGJ.out,Ei hc]);have dc:decide (y1 ≥ y2)=true:=Eu hc;go_wp2;go_quiet (fail);go_wp2;go_region;go_wp2;go_roundw
     case rel=>
      have h5:=fun m=>Jm.set_ (w:=wr.drewN m) Q1.out j (.int .i64 (max y1 y3));rw[hM.out,JeV _ _ _ hlt,Zt (fun n _=>Jgc f1 G j n)] at h5;rw[hM.out];exact⟨j+1,by go_num,by omega,(Jr HB.out _).setCell (p:=⟨g7,j,none⟩) HP.out.1 _,h5 _,Jm.far (w:=wr.drewN _) (p:=⟨g7,j,none⟩) Q2.out (Ne.symm HP.out.2.1) _,Jm.far (w:=wr.drewN _) (p:=⟨g7,j,none⟩) Q3.out (Ne.symm HP.out.2.2) _⟩
     case measure=>simp[intOf];omega
    ·have hM:=Ja (show y1=G j by rw[HGJ.out,Ef hc]);have dc:decide (y1 ≥ y2)=false:=Ew hc;go_wp2;go_quiet (fail);go_wp2;go_roundw
     case rel=>
      have e:JI (mix (j+1) f1 G)=JI (mix j f1 G):=Zt fun m _=>by
       unfold mix;by_cases h:m=j
       ·subst h;rw[Ei (by omega),Ef (by omega),<-hM.out,HY1.out]
       ·by_cases h2:m < j
        ·rw[Ei (by omega),Ei h2]
        ·rw[Ef (by omega),Ef h2]
      exact⟨j+1,by go_num,by omega,Jr HB.out _,by rw[e];exact Q1.out,Q2.out,Q3.out⟩
     case measure=>simp[intOf];omega
   ·obtain rfl:j=64:=by omega
    rw[Zt (Jjb f1 G)] at q1;have HK:=Ja q1;have HB:=Ja hb;clear q1 q2 q3 hb p1 p2 p3;obtain⟨X,hX⟩:∃X,X=XM G:=⟨_,rfl⟩;obtain⟨nX,hnX⟩:∃m,m=X.length:=⟨_,rfl⟩;have O1:=Jev G wr;obtain⟨Q,hQ⟩:∃Q,Q=atQ x.w ob:=⟨_,rfl⟩;obtain⟨B,hB⟩:∃B,B=atB x.w ob:=⟨_,rfl⟩;rw[<-hX] at SN SY O1;rw[<-hnX] at O1;rw[<-hQ,<-hB] at SY C4;rw[<-hB] at SN;obtain⟨⟨sc,sn⟩,obj,gn⟩:=Q;have O1:=Ja O1;have HNX:=Ja hnX.symm;clear hX hnX hQ hB;rcases B with _ | _
    ·have SN2:=Ja (SN.out rfl);clear SY SN C1 C2 C3;go_wp2_with (first
      | (refine FA rfl 200 _ rfl g7 rfl 200 _ _ _ HK.out underlying200 rfl (by rw[QG];exact HI.out) ?_)
      | (go_at_call 220;go_must (refine O1.out.mono ?_);rintro e w5 ⟨A5,c5,rfl,ho5,hb5⟩;have hb5:=Jg HB.out hb5;obtain⟨z0,z1,z2,z3⟩:=HQ.out _ hb5)
      | (go_at_call 158;go_must (refine(C4.out _ hb5).mono ?_);rintro e w6 ⟨h6,hb6⟩;simp only[wcA] at h6;subst h6)
      | (refine Je rfl 70 _ _ rfl w6.heap.size 70 _ #[.int .i64 sc,.int .i64 sn,.int .i64 obj,.bool gn] rfl rfl (Jm.new w6 _ _) HIW.out rfl (by simp[Value.oneCell']) ?_;intro w7 hk7 hg7))
     have hb7:Bz w6 w7:=(Zr.alloc Zl _).trans (Jb hg7 (by simp) (fun k hk=>by cases hk;exact Ek _));go_ret;rw[SN2.out];exact⟨A5,nX,c5,rfl,HNX.out,((Rd.of_own ho5).go hb6).go hb7,Jg HB0.out (Qg (Jg hb5 hb6) Zl hb7)⟩
    ·have SY2:=SY.out rfl;obtain⟨h,hh⟩:∃h,h=QD X (sc,sn):=⟨_,rfl⟩;have H5:=fun (V:World) (D:OA) (d:Nat) (hR:Rd V V.heap.size 2 D nX d (sv X))=>Jaj D nX d X (sc,sn) V HNX.out hR;dsimp only at SY2 H5;rw[<-hh] at SY2;simp only[<-hh] at H5;have SY2:=Ja SY2;have H5:=Ja H5;clear SN SY hh C1 C2 C3;go_wp2_with (first
      | (refine FA rfl 200 _ rfl g7 rfl 200 _ _ _ HK.out underlying200 rfl (by rw[QG];exact HI.out) ?_)
      | (go_at_call 220;go_must (refine O1.out.mono ?_);rintro e w5 ⟨A5,c5,rfl,ho5,hb5⟩;have hb5:=Jg HB.out hb5;obtain⟨z0,z1,z2,z3⟩:=HQ.out _ hb5)
      | (go_at_call 158;go_must (refine(C4.out _ hb5).mono ?_);rintro e w6 ⟨h6,hb6⟩;simp only[wcA] at h6;subst h6)
      | (refine Je rfl 70 _ _ rfl w6.heap.size 70 _ #[.int .i64 sc,.int .i64 sn,.int .i64 obj,.bool gn] rfl rfl (Jm.new w6 _ _) HIW.out rfl (by simp[Value.oneCell']) ?_;intro w7 hk7 hg7;have y0:=hk7.cell 0;have y1:=hk7.cell 1;have hb7:Bz w6 w7:=(Zr.alloc Zl _).trans (Jb hg7 (by simp) (fun k hk=>by cases hk;exact Ek _)))
      | (go_at_call 114;go_must (refine Jd (H5.out _ _ _ (((Rd.of_own ho5).go hb6).go hb7)) fun w8 hb8=>?_);rcases h with _ | _))
     ·go_ret;rw[SY2.out];have hb57:=Qg (Qg (Jg hb5 hb6) Zl hb7) Zl hb8;exact⟨A,n,c,rfl,HL.out,HR0.out.go hb57,Jg HB0.out hb57⟩
     ·go_ret;rw[SY2.out];exact⟨A5,nX,c5,rfl,HNX.out,(((Rd.of_own ho5).go hb6).go hb7).go hb8,Jg HB0.out (Qg (Qg (Jg hb5 hb6) Zl hb7) Zl hb8)⟩
end Go.Proofs.YtmbeahbgafkjfaaGreatDoor
