/- Lemmas for the claim, layer 11. -/
import Derived.Test.YtmbeahbgafkjfaaGreatDoorKc10
set_option maxRecDepth 100000
set_option maxHeartbeats 16000000
namespace Go.Proofs.YtmbeahbgafkjfaaGreatDoor
open Go.RowKit
def GU:Ending:=.panicked [{ v:=.iface 82 (.agg #[]),recovered:=false }]
structure TR (w:World) (g B:Nat) (l:List UInt8):Prop where
 ex:∃A c,Blk w g 86 #[.slice A l.length c]/\Rd w B 1 A l.length c (bv l)
 le:B<=g
 len:l.length<=4294967296
theorem TR.lt {w:World} {g B:Nat} {l:List UInt8} (h:TR w g B l):g < w.heap.size:=by
 obtain⟨⟨A,c,h,_⟩,_,_⟩:=h;exact h.lt
theorem TR.go {w w':World} {g B:Nat} {l:List UInt8} (h:TR w g B l) (hb:Below w.heap.size w w'):TR w' g B l:=by
 obtain⟨⟨A,c,h1,h2⟩,h3,h4⟩:=h;exact⟨⟨A,c,h1.go hb,h2.below (hb.mono (by have:=h1.lt;omega))⟩,h3,h4⟩
theorem TR.but {w w':World} {g B q:Nat} {l:List UInt8} (h:TR w g B l) (hb:But q w w') (hq:B<=q) (hne:g≠q):TR w' g B l:=by
 obtain⟨⟨A,c,h1,h2⟩,h3,h4⟩:=h;exact⟨⟨A,c,h1.but hb hne,h2.but hb (by have:=h1.lt;omega) hq⟩,h3,h4⟩
def TkP {α:Type} (p:List UInt8->Option (α×List UInt8)) (w:World) (g B:Nat) (l:List UInt8) (ok:α->Ending->World->Prop) (e:Ending) (w':World):Prop:=
 (p l=none/\e=GU/\But g w w')\/∃x r,p l=some (x,r)/\ok x e w'/\TR w' g B r/\But g w w'
theorem pI_some {l:List UInt8} {x k:Nat} (h:Pk.num l 0 l=(x,k,0)):Wq.pI l=some ((x:Int),l.drop k):=by unfold Wq.pI;rw[Wq.pN_some h]
theorem pI_none {l:List UInt8} {x k er:Nat} (h:Pk.num l 0 l=(x,k,er)) (he:er≠0):Wq.pI l=none:=by unfold Wq.pI;rw[Wq.pN_none h he]
theorem bv_from {w:World} {B n c k:Nat} {A:Option Addr} {l:List UInt8} (h:Rd w B 1 A n c (bv l)) (hk:k<=n):Rd w B 1 (cutAt 1 A c k) (n - k) (c - k) (bv (l.drop k)):=by
 have h2:=h.from_ hk;rw[Nat.mul_one,<-bv_drop] at h2;exact h2
theorem takeInt_any (g:Nat) {B:Nat} (l:List UInt8) (w:World) (h:TR w g B l):
  Calls Tryz.prog 119 #[.pointer (some ⟨g,0,none⟩),.func (.func 120) #[] #[]] w fun e w'=>TkP Wq.pI w g B l (fun x e _=>e=.returned (.int .i64 x)) e w':=by
 obtain⟨⟨A,c,hB,hR⟩,hle,hl⟩:=h;obtain⟨x,k,er,hx⟩:∃x k er,Pk.num l 0 l=(x,k,er):=⟨_,_,_,rfl⟩;have H1:=Hz_ (number_is hx rfl (hR.more (by have:=hB.lt;omega)));have c0:=hB.cell 0;have f0:=hB.frozen 0;by_cases he:er=0
 ·subst he;obtain⟨b1,b2,b3,b4,b5⟩:=Pk.num_back hx;have HP:=Hz_ (pI_some hx);have hk:k<=l.length:=by omega
  have hs:=fun W=>run_from (P:=Tryz.prog) W 29 5 1 Tryz.underlying29 size_u8 A l.length c .i64 k k rfl hk;have HR:=Hz_ (bv_from hR hk);have HL:=Hz_ (show (l.drop k).length=l.length - k from List.length_drop);have HB:=Hz_ hB;obtain⟨n,hn⟩:∃n,n=l.length:=⟨_,rfl⟩;rw[<-hn] at hs HR HL HB H1 c0 hl;clear hR hx b1 b2 b3 b4 b5 hn hk hB;go_enter Tryz.func119,Tryz.ntmps119;go_wp2_with fail;refine H1.out.mono ?_;rintro e w1 ⟨rfl,rfl⟩;go_wp2;go_ret;have h2:=HR.out;have hl2:=HL.out;rw[<-hl2] at h2;refine .inr ⟨_,_,HP.out,rfl,⟨⟨_,_,by rw[hl2];exact HB.out.set_ 0 _,h2.but (But.set_ w (p:=⟨g,0,none⟩) rfl _) (by have:=HB.out.lt;omega) hle⟩,hle,by omega⟩,But.set_ w (p:=⟨g,0,none⟩) rfl _⟩
 ·have HP:=Hz_ (pI_none hx he);have he2:¬ (er:Int)=0:=by omega
  clear hR hx he hB;generalize l.length=n at *;go_enter Tryz.func119,Tryz.ntmps119;go_wp2_with fail;refine H1.out.mono ?_;rintro e w1 ⟨rfl,rfl⟩;go_wp2;exact⟨rfl,.inl ⟨HP.out,rfl,But.refl _ _⟩⟩
theorem entNumber_any (g:Nat) {B:Nat} (l:List UInt8) (w:World) (h:TR w g B l):
  Calls Tryz.prog 48 #[.pointer (some ⟨g,0,none⟩)] w fun e w'=>TkP Wq.pI w g B l (fun x e _=>e=.returned (.int .i64 x)) e w':=by
 have H:=Hz_ (takeInt_any g l w h);clear h;go_enter Tryz.func48,Tryz.ntmps48;go_wp2_with fail;refine H.out.mono ?_;rintro e w1 (⟨hp,rfl,hb⟩ | ⟨x,r,hp,rfl,ht,hb⟩)
 ·have HP:=Hz_ hp;have HB:=Hz_ hb;clear hp hb;unfold GU;go_wp2;exact⟨rfl,.inl ⟨HP.out,rfl,HB.out⟩⟩
 ·have HP:=Hz_ hp;have HB:=Hz_ hb;have HT:=Hz_ ht;clear hp hb ht;go_wp2;go_ret;exact .inr ⟨_,_,HP.out,rfl,HT.out,HB.out⟩
end Go.Proofs.YtmbeahbgafkjfaaGreatDoor
