/- Lemmas, layer 8. -/
import Derived.Test.YtmbeahbgafkjfaaGreatDoorKp07
set_option linter.unusedSimpArgs false
set_option maxRecDepth 100000
set_option maxHeartbeats 16000000
namespace Go.Proofs.YtmbeahbgafkjfaaGreatDoor
open Go.Proofs.Tryz Go.RowKit
def GU:Ending:=.panicked [{ v:=.iface 82 (.agg #[]),recovered:=false }]
structure TR (w:World) (g B:Nat) (l:List UInt8):Prop where
 ex:∃A c,Jm w g 86 #[.slice A l.length c]/\Rd w B 1 A l.length c (bv l)
 le:B<=g
 len:l.length<=4294967296
theorem TR.lt {w:World} {g B:Nat} {l:List UInt8} (h:TR w g B l):g < w.heap.size:=by
 obtain⟨⟨A,c,h,_⟩,_,_⟩:=h;exact h.lt
theorem TR.go {w w':World} {g B:Nat} {l:List UInt8} (h:TR w g B l) (hb:Bz w w'):TR w' g B l:=by
 obtain⟨⟨A,c,h1,h2⟩,h3,h4⟩:=h;exact⟨⟨A,c,h1.go hb,h2.below (hb.mono (by have:=h1.lt;omega))⟩,h3,h4⟩
theorem TR.but {w w':World} {g B q:Nat} {l:List UInt8} (h:TR w g B l) (hb:JF q w w') (hq:B<=q) (hne:g≠q):TR w' g B l:=by
 obtain⟨⟨A,c,h1,h2⟩,h3,h4⟩:=h;exact⟨⟨A,c,h1.but hb hne,h2.but hb (by have:=h1.lt;omega) hq⟩,h3,h4⟩
def TkP {α:Type} (p:List UInt8->Option (α×List UInt8)) (w:World) (g B:Nat) (l:List UInt8) (ok:α->Ending->World->Prop) (e:Ending) (w':World):Prop:=
 (p l=none/\e=GU/\JF g w w')\/∃x r,p l=some (x,r)/\ok x e w'/\TR w' g B r/\JF g w w'
theorem Jnn {l:List UInt8} {x k:Nat} (h:Pk.Kj l 0 l=(x,k,0)):Wq.pI l=some ((x:Int),l.drop k):=by unfold Wq.pI;rw[Wq.JeI h]
theorem Jnz {l:List UInt8} {x k er:Nat} (h:Pk.Kj l 0 l=(x,k,er)) (he:er≠0):Wq.pI l=none:=by unfold Wq.pI;rw[Wq.Ji6 h he]
theorem JiP {w:World} {B n c k:Nat} {A:OA} {l:List UInt8} (h:Rd w B 1 A n c (bv l)) (hk:k<=n):Rd w B 1 (Qu 1 A c k) (n - k) (c - k) (bv (l.drop k)):=by
 have h2:=h.from_ hk;rw[Nat.mul_one,<-JiV] at h2;exact h2
theorem JgZ (g:Nat) {B:Nat} (l:List UInt8) (w:World) (h:TR w g B l):
  Calls prog 119 #[.pointer (some ⟨g,0,none⟩),.func (.func 120) #[] #[]] w fun e w'=>TkP Wq.pI w g B l (fun x e _=>e=.returned (.int .i64 x)) e w':=by
 obtain⟨⟨A,c,hB,hR⟩,hle,hl⟩:=h;obtain⟨x,k,er,hx⟩:∃x k er,Pk.Kj l 0 l=(x,k,er):=⟨_,_,_,rfl⟩;have H1:=Ja (JdW hx rfl (hR.more (by have:=hB.lt;omega)));have c0:=hB.cell 0;have f0:=hB.frozen 0;by_cases he:er=0
 ·subst he;obtain⟨b1,b2,b3,b4,b5⟩:=Pk.Ja0 hx;have HP:=Ja (Jnn hx);have hk:k<=l.length:=by omega
  have hs:=fun W=>Yh (P:=prog) W 29 5 1 underlying29 JaB A l.length c .i64 k k rfl hk;have HR:=Ja (JiP hR hk);have HL:=Ja (show (l.drop k).length=l.length - k from EP);have HB:=Ja hB;obtain⟨n,hn⟩:∃n,n=l.length:=⟨_,rfl⟩;rw[<-hn] at hs HR HL HB H1 c0 hl;clear hR hx b1 b2 b3 b4 b5 hn hk hB;go_enter func119,ntmps119;go_wp2_with fail;refine H1.out.mono ?_;rintro e w1 ⟨rfl,rfl⟩;go_wp2;go_ret;have h2:=HR.out;have hl2:=HL.out;rw[<-hl2] at h2;refine .inr ⟨_,_,HP.out,rfl,⟨⟨_,_,by rw[hl2];exact HB.out.set_ 0 _,h2.but (JF.set_ w (p:=⟨g,0,none⟩) rfl _) (by have:=HB.out.lt;omega) hle⟩,hle,by omega⟩,JF.set_ w (p:=⟨g,0,none⟩) rfl _⟩
 ·have HP:=Ja (Jnz hx he);have he2:¬ (er:Int)=0:=by omega
  clear hR hx he hB;generalize l.length=n at *;go_enter func119,ntmps119;go_wp2_with fail;refine H1.out.mono ?_;rintro e w1 ⟨rfl,rfl⟩;go_wp2;exact⟨rfl,.inl ⟨HP.out,rfl,JF.refl _ _⟩⟩
theorem OW (g:Nat) {B:Nat} (l:List UInt8) (w:World) (h:TR w g B l):
  Calls prog 48 #[.pointer (some ⟨g,0,none⟩)] w fun e w'=>TkP Wq.pI w g B l (fun x e _=>e=.returned (.int .i64 x)) e w':=by
 have H:=Ja (JgZ g l w h);clear h;go_enter func48,ntmps48;go_wp2_with fail;refine H.out.mono ?_;rintro e w1 (⟨hp,rfl,hb⟩ | ⟨x,r,hp,rfl,ht,hb⟩)
 ·have HP:=Ja hp;have HB:=Ja hb;clear hp hb;unfold GU;go_wp2;exact⟨rfl,.inl ⟨HP.out,rfl,HB.out⟩⟩
 ·have HP:=Ja hp;have HB:=Ja hb;have HT:=Ja ht;clear hp hb ht;go_wp2;go_ret;exact .inr ⟨_,_,HP.out,rfl,HT.out,HB.out⟩
end Go.Proofs.YtmbeahbgafkjfaaGreatDoor
