/- Lemmas for the claim, layer 47. -/
import Derived.Deep.DeepCutAuto
import Derived.Test.YtmbeahbgafkjfaaGreatDoorKq46
set_option maxRecDepth 100000
set_option linter.unusedSimpArgs false
set_option maxHeartbeats 16000000
namespace Go.Proofs.YtmbeahbgafkjfaaGreatDoor
open Go.RowKit
theorem takeSet_any (g:Nat) {B:Nat} (l:List UInt8) (w:World) (h:TR w g B l):
  Calls Tryz.prog 53 #[.pointer (some ⟨g,0,none⟩),.func (.func 54) #[] #[]] w fun e w'=>TkP Wq.pS w g B l (fun x e w'=>∃A' c',e=.returned (.slice A' x.length c')∧w'.ownsRow w.heap.size 63 2 (.slice A' x.length c') x.length (sv x)) e w':=by
 obtain⟨⟨A,c,hB,hR⟩,hle,hl⟩:=h
 have hlt:=hB.lt
 have H1:=wireSet_g A l.length c l w rfl (hR.more (by omega)) (by omega)
 have c0:=hB.cell 0
 have f0:=hB.frozen 0
 rcases hp:Wq.pS l with _ | ⟨x,r⟩
 ·obtain⟨e1,e2,e3⟩:=g_no (d:=[]) hp
  rw[e1,e2,e3] at H1
  have G1:=Hz_ H1
  have HP:=Hz_ hp
  generalize l.length=n at *
  clear H1 hR hp hB e1 e2 e3
  go_enter Tryz.func53,Tryz.ntmps53
  go_wp2_with fail
  refine G1.out.mono ?_
  rintro e w1 ⟨A4,c4,rfl,-,hb1⟩
  have HK:=Hz_ hb1
  clear hb1
  go_wp2
  exact⟨rfl,.inl ⟨HP.out,rfl,But.of HK.out⟩⟩
 ·obtain⟨e1,e2,e3⟩:=g_yes (d:=[]) hp
  obtain⟨d1,d2⟩:=drop_back (Wq.pS_back hp).1
  rw[e1,e2,e3] at H1
  obtain⟨k,hk⟩:∃k,k=l.length - r.length:=⟨_,rfl⟩
  rw[←hk] at H1 d1
  obtain⟨m4,hm4⟩:∃m,m=x.length:=⟨_,rfl⟩
  rw[←hm4] at H1
  have HM4:=Hz_ hm4
  have G1:=Hz_ H1
  have HP:=Hz_ hp
  have HB:=Hz_ hB
  have hkl:k≤l.length:=by omega
  have hs:=fun W=>run_from (P:=Tryz.prog) W 29 5 1 Tryz.underlying29 size_u8 A l.length c .i64 k k rfl hkl
  have HR:=Hz_ (bv_from hR hkl)
  have HD:=Hz_ d1
  have HL:=Hz_ (show r.length=l.length - k by omega)
  obtain⟨n,hn⟩:∃n,n=l.length:=⟨_,rfl⟩
  rw[←hn] at hs HR HL HB G1 c0 hl
  generalize cutAt 1 A c k=A9 at hs HR
  generalize c - k=c9 at hs HR
  obtain⟨n9,hn9⟩:∃m,m=n - k:=⟨_,rfl⟩
  rw[←hn9] at hs HR HL
  have hr32:r.length≤4294967296:=by omega
  clear H1 hR hp hB e1 e2 e3 d1 d2 hk hn hn9 hkl hm4 f0
  go_enter Tryz.func53,Tryz.ntmps53
  go_wp2_with fail
  refine G1.out.mono ?_
  rintro e w1 ⟨A4,c4,rfl,hno,hb1⟩
  have hB1:=HB.out.go hb1
  have HB1:=Hz_ hB1
  have b0:=hB1.cell 0
  have f0:=hB1.frozen 0
  have HNO:=Hz_ hno
  have HK:=Hz_ hb1
  clear c0 hB1 hno hb1
  go_wp2
  go_ret
  have hu:=But.set_ w1 (p:=⟨g,0,none⟩) (g:=g) rfl (.slice A9 n9 c9)
  have h2:=HR.out
  rw[HD.out] at h2
  have hl2:=HL.out
  have hB3:=HB1.out.set_ 0 (.slice A9 n9 c9)
  have h3:=(h2.below (HK.out.mono (by omega))).but hu (by have:=HB1.out.lt;omega) hle
  refine .inr ⟨x,r,HP.out,⟨A4,c4,by rw[←HM4.out];rfl,by rw[←HM4.out];exact own_but HNO.out hu hlt⟩,⟨⟨A9,c9,by rw[hl2];exact hB3,by rw[hl2];exact h3⟩,hle,hr32⟩,(But.of HK.out).trans hu⟩
end Go.Proofs.YtmbeahbgafkjfaaGreatDoor
