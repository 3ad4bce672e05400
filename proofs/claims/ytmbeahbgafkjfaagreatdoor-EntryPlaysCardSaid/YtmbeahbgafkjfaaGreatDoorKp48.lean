/- Lemmas, layer 48. -/
import Derived.Test.YtmbeahbgafkjfaaGreatDoorKp47
set_option linter.unusedSimpArgs false
set_option maxRecDepth 100000
namespace Go.Proofs.YtmbeahbgafkjfaaGreatDoor
open Go.Proofs.Tryz Go.RowKit
section
open Go.ChangeShapes Go.WideShapes Go.ChangeAt Go.RowKit
structure JfV (x:Qw):Prop where
 c:x.body.s.1 < 9223372036854775808
 s1:x.note.s.length+x.note.e.length+x.note.b.length+x.note.w.length<=9223372036854775807
 s2:x.view.known.length+x.view.zones.length+x.view.held.length+x.view.bods.length<=9223372036854775807
theorem JfV.to {x:Qw} {u:EV} {w:World} {B:Nat} {L:List (ZV×Zn)} {M:List (BV×Wq.Bd)} {S:List (SV×Sb)} (h:JfV x) (hE:QP w B u x L M S):JlL u x:=
 ⟨h.c,by rw[<-hE.nt.l1,<-hE.nt.l2,<-hE.nt.l3,<-hE.nt.l4];exact h.s1,h.s2⟩
def IsN (w:World) (B:Nat) (E:Array Value) (x:Qw):Prop:=∃u,E=eval x u/\Oc w B u x
def IsV (w:World) (B:Nat) (E:Array Value) (v:Vw):Prop:=∃u L M,E=Jy v u/\JU w B u v L M
theorem IsV.go {w w':World} {E:Array Value} {v:Vw} (h:IsV w w.heap.size E v) (hb:Bz w w'):IsV w' w'.heap.size E v:=by
 obtain⟨u,L,M,e,h⟩:=h;exact⟨u,L,M,e,h.go hb⟩
theorem IsV.info {w:World} {B:Nat} {E:Array Value} {v:Vw} (h:IsV w B E v):(prog.info? 35).map (·.size)=some E.size:=by
 obtain⟨u,L,M,rfl,_⟩:=h;kernel_rfl
theorem IsV.one {w:World} {B:Nat} {E:Array Value} {v:Vw} (h:IsV w B E v):E.all (·.oneCell')=true:=by
 obtain⟨u,L,M,rfl,_⟩:=h;simp[Jy,Value.oneCell']
theorem IsV.size {w:World} {B:Nat} {E:Array Value} {v:Vw} (h:IsV w B E v):5=E.size:=by
 obtain⟨u,L,M,rfl,_⟩:=h;rfl
def IsT (w:World) (B:Nat) (A:OA) (n c:Nat) (T:List Sb):Prop:=∃S,QM w B A n c S/\JK S=T
theorem IsT.go {w w':World} {A:OA} {n c:Nat} {T:List Sb} (h:IsT w w.heap.size A n c T) (hb:Bz w w'):IsT w' w'.heap.size A n c T:=by
 obtain⟨S,h,e⟩:=h;exact⟨S,h.go hb,e⟩
def JoL (w:World) (V:Vw) (T:List Sb) (x:Qw) (e:Ending) (w':World):Prop:=∃VA A c,e=.returned (.tuple #[.agg VA,.slice A (Ja6 V T x).length c,.int .i64 (JbS V T x)])/\IsV w' w'.heap.size VA (JcP V T x)/\IsT w' w'.heap.size A (Ja6 V T x).length c (Ja6 V T x)/\Bz w w'
theorem JmX {w:World} (hT:UW w) {VA:Array Value} {V:Vw} (hV:IsV w w.heap.size VA V) {A:OA} {n c:Nat} {T:List Sb} (hS:IsT w w.heap.size A n c T) {E:Array Value} {x:Qw} (hE:IsN w w.heap.size E x) (hz:JfV x):
  Calls prog 20 #[.agg VA,.slice A n c,.agg E] w (JoL w V T x):=by
 obtain⟨u,L,M,rfl,hV⟩:=hV;obtain⟨S,hS,rfl⟩:=hS;obtain⟨ue,rfl,L2,M2,S2,hE⟩:=hE;refine(JfE u V L M A n c S ue x w hT hV hS ⟨L2,M2,S2,hE⟩ (hz.to hE)).mono ?_;rintro e w' ⟨u',A',c',rfl,⟨L',M',hr⟩,h2,h3⟩;exact⟨_,A',c',rfl,⟨u',L',M',rfl,hr⟩,h2,h3⟩
/-! ### Entries as an argument -/
section
variable {H:Type} {enc:TypeId×Value->H} {W:World}
end
end
section
def x0E:Qw:=⟨0,Wq.ntz,Wq.bdz,0,[],Wq.vw0,[]⟩
def u0E:EV:=⟨⟨none,0,0,none,0,0,none,0,0,none,0,0⟩,none,0,none,0,⟨none,0,none,0,none,0,none,0⟩,none,0⟩
theorem Yq.nil (w:World) (base:Nat):Yq w base ⟨none,0,none,0,none,0,none,0⟩ Wq.vw0 [] []:=⟨ED _ _ _ _,Qk.nil _ _,rfl,ED _ _ _ _,JZ.nil _ _,rfl⟩
theorem Zd.nil (w:World) (base:Nat):Zd w base ⟨none,0,0,none,0,0,none,0,0,none,0,0⟩ Wq.ntz:=⟨rfl,ED _ _ _ _,rfl,ED _ _ _ _,rfl,ED _ _ _ _,rfl,ED _ _ _ _⟩
theorem Jj0 (w:World) (A:OA) (c:Nat) (l:List UInt8) (hR:Rd w w.heap.size 1 A l.length c (bv l)) (hn:l.length<=4294967296):
  ES w (((w.alloc (.cells Jfo 38)).alloc (.cells #[.int .i64 0] 40)).alloc (.cells #[.slice A l.length c] 86)) w.heap.size l u0E x0E [] [] []:=by
 have h1:Bz w (w.alloc (.cells Jfo 38)):=Zr.alloc Zl _;have h2:Bz w ((w.alloc (.cells Jfo 38)).alloc (.cells #[.int .i64 0] 40)):=h1.alloc (by simp) _;have h3:=h2.alloc (by simp;omega) (.cells #[.slice A l.length c] 86);have b1:=((Jm.new w 38 Jfo).alloc (.cells #[.int .i64 0] 40)).alloc (.cells #[.slice A l.length c] 86);have b2:=(Jm.new (w.alloc (.cells Jfo 38)) 40 #[.int .i64 0]).alloc (.cells #[.slice A l.length c] 86);have b3:=Jm.new ((w.alloc (.cells Jfo 38)).alloc (.cells #[.int .i64 0] 40)) 86 #[.slice A l.length c];rw[El] at b2;rw[El,El] at b3;exact⟨⟨b1,Zd.nil _ _,ED _ _ _ _,ED _ _ _ _,Yq.nil _ _,JY.nil _ _,rfl⟩,b2,⟨⟨A,c,b3,hR.below h3⟩,by omega,hn⟩,h3,rfl⟩
theorem Kx {P:Program} {ops:Array Oper} {rest:List Oper} {o:Oper} {a:Act} {w:World} {Q:Exit->Act->World->Prop} (hw:Region.wanted o (yielded ops a.tmps)=true) (ty:TypeId) (x:Operand) (ho:o.op=.load ty x)
  (g:Nat) (hx:a.eval x=.pointer (some ⟨g,0,none⟩)) (t:TypeId) (cs:Array Value) (d:TypeDesc) (hg:Jm w g t cs)
  (hu:P.underlying ty=some d) (hd:(match d with | .struct _ | .array _ _=>true | _=>false)=true) (hi:(P.info? ty).map (·.size)=some cs.size)
  (h:wpList P ops Q rest (a.put o.dst (.agg cs)) w):wpList P ops Q (o :: rest) a w:=
 wpList_step fun K hK=>by
  rw[Ei hw];exact wp_load_row ty x ho g hx t cs (0,0) d hg hu hd hi (hK _ _ h)
end
end Go.Proofs.YtmbeahbgafkjfaaGreatDoor
