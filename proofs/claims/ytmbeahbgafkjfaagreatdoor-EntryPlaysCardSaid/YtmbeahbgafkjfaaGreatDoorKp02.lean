/- Lemmas, layer 2. -/
import Derived.Lib.TrailingZeros
import Derived.Test.YtmbeahbgafkjfaaGreatDoorRows
import Derived.Deep.WholeRow
import Derived.WalkSmall
import Derived.Deep.RegionHeld3
import Derived.RangeFuncNested
import Derived.LoopNIn
import Derived.LoopIn
import Derived.Maps.OwnIn
import Derived.Shelf.RegionOpen
import Derived.Test.YtmbeahbgafkjfaaGreatDoorKp01
set_option linter.unusedSimpArgs false
set_option maxRecDepth 100000
set_option maxHeartbeats 16000000
namespace Go.Proofs.YtmbeahbgafkjfaaGreatDoor
abbrev Ee:=@Go.AllReadyH.cons
abbrev Eg:=@Go.wp_region_held_drew
abbrev Es:=@Go.wpAnyH_done
abbrev EH:=@Go.AllReadyH.nil
abbrev EO:=@Go.wpAnyH_ready
abbrev Fj:=@Go.World.putObj_heap_other
abbrev FG:=@Go.zero_of_info
abbrev FH:=@Go.callsIn_of_wp_marks
abbrev Gj:=@Go.grownBy_putObj'
abbrev Gn:=@Go.run_takeDeferred
abbrev Gx:=@Go.grownBy_setCell'
abbrev GG:=@Go.Calls.quiet_of
abbrev GZ:=@Go.ownFrom_below
abbrev Nc:=@Go.OwnFrom.and
abbrev Ni:=@Go.World.putObj_heap_same
abbrev Nz:=@Go.World.alloc_heap_new
abbrev NG:=@Go.wpIn_rangeFunc_ownG
abbrev NU:=@Go.Proofs.enters_of
abbrev Rh:=@Go.belowK_b
end Go.Proofs.YtmbeahbgafkjfaaGreatDoor
namespace Go.Proofs.YtmbeahbgafkjfaaGreatDoor.Vc
abbrev St:=Int×Int
def right (s:St):Bool:=decide (0 < s.1) && (decide (0<=s.2) && decide (s.2 < 64))
theorem JT (s:St):right s=true↔0 < s.1/\0<=s.2/\s.2 < 64:=by simp[right]
def Jz:List St->Nat->Int
 | [],_=>0
 | s :: r,n=>if right s=true/\s.2=n then s.1 else Jz r n
theorem Qv (v:List St) (n:Nat):0<=Jz v n:=by
 induction v with
 | nil=>exact Gt _
 | cons s r ih=>
  rw[Jz];split
  ·rename_i h;have:=(JT s).1 h.1;omega
  ·exact ih
theorem JaO (v:List St) (s:St) (n:Nat):Jz (v++[s]) n=if Jz v n=0/\right s=true/\s.2=n then s.1 else Jz v n:=by
 induction v with
 | nil=>simp[Jz]
 | cons t r ih=>
  rw[List.cons_append,Jz,Jz];by_cases h:right t=true/\t.2=n
  ·have:=(JT t).1 h.1;rw[Ei h,Ei h,Ef (by omega)]
  ·rw[Ef h,Ef h,ih]
def Jeu (p:Nat->Bool):Nat->Nat
 | 0=>0
 | k+1=>Jeu p k ||| (if p k then 2 ^ k else 0)
def Ku (p:Nat->Bool):Nat:=Jeu p 64
theorem JdT (p:Nat->Bool) (k n:Nat):(Jeu p k).testBit n=(decide (n < k) && p n):=by
 induction k with
 | zero=>simp[Jeu]
 | succ k ih=>
  rw[Jeu,Nat.testBit_or,ih];by_cases hk:p k=true
  ·rw[Ei hk,Nat.testBit_two_pow];by_cases hn:n=k
   ·subst hn;simp[hk]
   ·have h1:decide (n < k+1)=decide (n < k):=by simp;omega
    have h2:decide (k=n)=false:=by simp;omega
    rw[h1,h2,Bool.or_false]
  ·rw[Ef hk,ND,Bool.or_false];by_cases hn:n=k
   ·subst hn;simp[hk]
   ·have h1:decide (n < k+1)=decide (n < k):=by simp;omega
    rw[h1]
theorem Ou (p:Nat->Bool) (n:Nat):(Ku p).testBit n=(decide (n < 64) && p n):=JdT p 64 n
theorem Jk9 (p:Nat->Bool) (k:Nat):Jeu p k < 2 ^ k:=by
 refine Nat.lt_pow_two_of_testBit _ fun i hi=>?_;rw[JdT];simp;omega
theorem Jbx (p:Nat->Bool):Ku p < 18446744073709551616:=Jk9 p 64
theorem Jft {p:Nat->Bool} {x:Nat} (hx:x < 2 ^ 64) (h:∀n,n < 64->x.testBit n=p n):x=Ku p:=by
 refine Nat.eq_of_testBit_eq fun n=>?_;rw[Ou];by_cases hn:n < 64
 ·simp[hn,h n hn]
 ·rw[Nat.testBit_lt_two_pow (FC hx (Nat.pow_le_pow_right (by omega) (by omega)))];simp[hn]
theorem Jlb:Ku (fun _=>false)=0:=(Jft (by decide) (by simp)).symm
theorem Ji2 (p:Nat->Bool) (k:Nat) (hk:k < 64):Ku p ||| 2 ^ k=Ku fun n=>p n || decide (n=k):=by
 refine Jft ?_ fun n hn=>?_
 ·exact Nat.or_lt_two_pow (Jbx p) (Nat.pow_lt_pow_right (by omega) hk)
 ·rw[Nat.testBit_or,Ou,Nat.testBit_two_pow];simp[hn,eq_comm]
theorem KG {p q:Nat->Bool} (h:∀n,n < 64->p n=q n):Ku p=Ku q:=Jft (Jbx p) fun n hn=>by rw[Ou,h n hn];simp[hn]
theorem JnO (p:Nat->Bool) (n:Nat) (hn:n < 64):Ku p / 2 ^ n % 2=if p n then 1 else 0:=by
 have h:=Ou p n;rw[Nat.testBit_eq_decide_div_mod_eq] at h;by_cases hp:p n=true
 ·rw[Ei hp];simpa[hn,hp] using h
 ·rw[Ef hp];have:¬ Ku p / 2 ^ n % 2=1:=by simpa[hn,hp] using h
  omega
def Jp2 (p:Nat->Bool):List Nat:=(List.range 64).filter p
def from_ (p:Nat->Bool) (k:Nat):Nat->Bool:=fun n=>p n && decide (k<=n)
theorem JdX (p:Nat->Bool):Ku (from_ p 0)=Ku p:=KG fun n _=>by simp[from_]
theorem Jln (y n:Nat):(2 ^ n * (2 * y+1)) &&& (2 ^ n * (2 * y+1) - 1)=2 ^ (n+1) * y:=by
 have e1:2 ^ n * (2 * y+1)=2 ^ (n+1) * y+2 ^ n:=by rw[Nat.pow_succ,Nat.mul_add,Nat.mul_one,Nat.mul_assoc]
 have hp:0 < 2 ^ n:=Nat.pow_pos (by omega);have e2:2 ^ n * (2 * y+1) - 1=2 ^ (n+1) * y+(2 ^ n - 1):=by omega
 have hlt:2 ^ n < 2 ^ (n+1):=Nat.pow_lt_pow_right (by omega) (by omega);rw[e2,e1];refine Nat.eq_of_testBit_eq fun j=>?_;rw[Nat.testBit_and,Gf _ hlt,Gf _ (by omega:2 ^ n - 1 < 2 ^ (n+1))];have e3:=Gf y (Nat.pow_pos (by omega):0 < 2 ^ (n+1)) j;rw[Nat.add_zero] at e3;rw[e3];by_cases hj:j < n+1
 ·rw[Ei hj,Ei hj,Ei hj,Nat.testBit_two_pow,Nat.testBit_two_pow_sub_one,ND];by_cases hjn:n=j
  ·subst hjn;simp
  ·simp[hjn]
 ·rw[Ef hj,Ef hj,Ef hj,Bool.and_self]
end Go.Proofs.YtmbeahbgafkjfaaGreatDoor.Vc
namespace Go.Proofs.YtmbeahbgafkjfaaGreatDoor.Vc
theorem Jl0 (p:Nat->Bool) (k:Nat) (h:Ku (from_ p k)≠0):
  ∃n,Lib.ctz 64 (Ku (from_ p k))=n/\n < 64/\p n=true/\k<=n/\(∀j,k<=j->j < n->p j=false)/\Ku (from_ p k) &&& (Ku (from_ p k) - 1)=Ku (from_ p (n+1)):=by
 have hlt:=Jbx (from_ p k);obtain⟨y,hy,hn⟩:=Lib.ctzFrom_spec 64 (Ku (from_ p k)) (by omega) hlt;have e:Lib.ctz 64 (Ku (from_ p k))=Lib.ctzFrom 64 (Ku (from_ p k)):=by rw[Lib.ctz,Ef h]
 have hbit:=fun j=>Ou (from_ p k) j;rw[e];generalize Lib.ctzFrom 64 (Ku (from_ p k))=n at hy hn;have hb2:∀j,(2 ^ n * (2 * y+1)).testBit j=(if j < n then false else (2 * y+1).testBit (j - n)):=fun j=>by
  have:=Gf (2 * y+1) (Nat.pow_pos (by omega):0 < 2 ^ n) j;rw[Nat.add_zero,ND] at this;exact this
 have hbn:from_ p k n=true:=by
  have h1:=hbit n;rw[hy,hb2,Ef (by omega),GT] at h1;have h2:(2 * y+1).testBit 0=true:=by simp[Nat.testBit_zero]
  rw[h2] at h1;simpa[hn] using h1.symm
 have hlow:∀j,j < n->from_ p k j=false:=fun j hj=>by
  have h1:=hbit j;rw[hy,hb2,Ei hj] at h1;have:j < 64:=by omega
  simpa[this] using h1.symm
 simp only[from_,Bool.and_eq_true,decide_eq_true_eq] at hbn;refine⟨n,rfl,hn,hbn.1,hbn.2,fun j hkj hj=>?_,?_⟩
 ·have:=hlow j hj;simpa[from_,hkj] using this
 ·rw[hy,Jln];refine Jft ?_ fun j hj=>?_
  ·have h1:2 ^ (n+1) * y<=2 ^ n * (2 * y+1):=by
    rw[Nat.pow_succ,Nat.mul_assoc];exact Nat.mul_le_mul_left _ (by omega)
   rw[<-hy] at h1;exact Nat.lt_of_le_of_lt h1 hlt
  ·have h3:=Gf y (Nat.pow_pos (by omega):0 < 2 ^ (n+1)) j;rw[Nat.add_zero,ND] at h3;rw[h3];have h1:=hbit j;rw[hy,hb2] at h1;simp only[from_,hj,Rm,Fb] at h1 ⊢;by_cases hjn:j < n+1
   ·rw[Ei hjn];have:decide (n+1<=j)=false:=by simp;omega
    rw[this,NT]
   ·rw[Ef hjn];rw[Ef (by omega)] at h1;have e2:decide (n+1<=j)=true:=by simp;omega
    have e3:decide (k<=j)=true:=by simp;omega
    rw[e2,No];rw[e3,No] at h1;rw[<-h1,show j - n=(j - (n+1))+1 by omega,Nat.testBit_succ];congr 1;omega
theorem JkG (p:Nat->Bool) (k:Nat) (h:Ku (from_ p k)=0):∀j,k<=j->j < 64->p j=false:=fun j hk hj=>by
 have:=Ou (from_ p k) j;rw[h,ND] at this;simp only[from_,hj,Rm,Fb] at this;have e:decide (k<=j)=true:=by simpa using hk
 rw[e,No] at this;exact this.symm
def Ys (p:Nat->Bool) (k:Nat):List Nat:=(List.range k).filter p
theorem JbA (p:Nat->Bool) (k n:Nat) (hk:k<=n) (h:∀j,k<=j->j < n->p j=false):Ys p n=Ys p k:=by
 induction n with
 | zero=>obtain rfl:k=0:=by omega
         rfl
 | succ n ih=>
  by_cases e:k=n+1
  ·rw[e]
  ·rw[Ys,NM,FD,Ge,h n (by omega) (by omega)];have:=ih (by omega) fun j h1 h2=>h j h1 (by omega);simpa[Ys] using this
theorem JfJ (p:Nat->Bool) (k n:Nat) (hk:k<=n) (h:∀j,k<=j->j < n->p j=false) (hn:p n=true):Ys p (n+1)=Ys p k++[n]:=by
 rw[Ys,NM,FD,Ge,hn,<-JbA p k n hk h];rfl
theorem Jgz (p:Nat->Bool) (k:Nat):(Ys p k).length<=k:=by
 have:=GJ p (List.range k)
 rwa [List.length_range] at this
theorem JnI {p:Nat->Bool} {k m:Nat} (h:k<=m):Ys p k <+: Ys p m:=by
 induction m with
 | zero=>obtain rfl:k=0:=by omega
         exact List.prefix_refl _
 | succ m ih=>
  by_cases e:k=m+1
  ·rw[e];exact List.prefix_refl _
  ·refine(ih (by omega)).trans ?_;rw[Ys,Ys,NM,FD];exact List.prefix_append _ _
end Go.Proofs.YtmbeahbgafkjfaaGreatDoor.Vc
namespace Go.Proofs.YtmbeahbgafkjfaaGreatDoor
open Go.Proofs.Tryz Go.RowKit
section
theorem Jn {a b:Bool} (h:a=b):Ending.returned (.bool a)=.returned (.bool b):=by rw[h]
theorem Yz (c n:Int) (w:World):Calls prog 159 #[.agg #[.int .i64 c,.int .i64 n]] w fun e w'=>e=.returned (.bool (Vc.right (c,n)))/\Bz w w':=by
 have hb:∀cs,Bz w (w.alloc (.cells cs 28)):=fun _=>Zr.alloc Zl _;by_cases h:0 < c/\0<=n/\n < 64
 ·have HR:=Ja ((Vc.JT (c,n)).2 h);obtain⟨h1,h2,h3⟩:=h;go_enter func159,ntmps159;go_wp2;go_ret;exact⟨by rw[HR.out];rfl,hb _⟩
 ·have hr:Vc.right (c,n)=false:=by
   rcases hh:Vc.right (c,n) with _ | _
   ·rfl
   ·exact absurd ((Vc.JT (c,n)).1 hh) h
  have HR:=Ja hr;by_cases h1:0 < c
  ·by_cases h2:0<=n
   ·have h3:64<=n:=by omega
    clear h hr;go_enter func159,ntmps159;go_wp2;go_ret;exact⟨Jn (by rw[HR.out];simp;omega),hb _⟩
   ·clear h hr;go_enter func159,ntmps159;go_wp2;go_ret;exact⟨by rw[HR.out];rfl,hb _⟩
  ·clear h hr;go_enter func159,ntmps159;go_wp2;go_ret;exact⟨by rw[HR.out];rfl,hb _⟩
theorem Ym (c n:Int) (w:World):Calls prog 116 #[.agg #[.int .i64 c,.int .i64 n]] w fun e w'=>e=.returned (.bool (Vc.right (c,n)))/\Bz w w':=by
 have hb:∀cs,Bz w (w.alloc (.cells cs 28)):=fun _=>Zr.alloc Zl _;by_cases h:0 < c/\0<=n/\n < 64
 ·have HR:=Ja ((Vc.JT (c,n)).2 h);obtain⟨h1,h2,h3⟩:=h;go_enter func116,ntmps116;go_wp2;go_ret;exact⟨Jn (by rw[HR.out];simp;omega),hb _⟩
 ·have hr:Vc.right (c,n)=false:=by
   rcases hh:Vc.right (c,n) with _ | _
   ·rfl
   ·exact absurd ((Vc.JT (c,n)).1 hh) h
  have HR:=Ja hr;by_cases h1:0 < c
  ·by_cases h2:0<=n
   ·have h3:64<=n:=by omega
    clear h hr;go_enter func116,ntmps116;go_wp2;go_ret;exact⟨Jn (by rw[HR.out];simp;omega),hb _⟩
   ·clear h hr;go_enter func116,ntmps116;go_wp2;go_ret;exact⟨by rw[HR.out];rfl,hb _⟩
  ·clear h hr;go_enter func116,ntmps116;go_wp2;go_ret;exact⟨by rw[HR.out];rfl,hb _⟩
def UW (w:World):Prop:=∀j,j < Lib.deBruijn64tab.length->w.cell? ⟨0,j,none⟩=some (.int .u8 (Lib.deBruijn64tab.getD j 0))
theorem UW.below {w w':World} (h:UW w) (hb:Bz w w'):UW w':=fun j hj=>by
 have:=h j hj;rw[hb.cell (Ep _ _ this)];exact this
theorem JmA (x a:Nat) (hx:x < 18446744073709551616) (hx0:x≠0) (hlow:x &&& (18446744073709551616 - x)=a):
  IntKind.u64.wrap (bits BinOp.and IntKind.u64 (x:Int) (IntKind.u64.wrap (-(x:Int))) * 285870213051353865) / 288230376151711744=((a * 285870213051353865 % 18446744073709551616 / 288230376151711744:Nat):Int):=by
 have e1:IntKind.u64.wrap (-(x:Int))=((18446744073709551616 - x:Nat):Int):=by rw[IntKind.wrap_u64];omega
 rw[e1,bits_and_u64_nat x _ hx (by omega),hlow,IntKind.wrap_u64];omega
theorem Jkd (x k idx:Nat) (w:World) (hx0:((x:Int) == 0)=false)
  (key:IntKind.u64.wrap (bits BinOp.and IntKind.u64 (x:Int) (IntKind.u64.wrap (-(x:Int))) * 285870213051353865) / 288230376151711744=(idx:Int))
  (hi:idx < 64) (_hk:k < 64) (hcell:w.cell? ⟨0,idx,none⟩=some (.int .u8 k)):
  Calls prog 222 #[.int .u64 x] w fun e w'=>e=.returned (.int .i64 k)/\w=w':=by
 go_enter func222,ntmps222;go_wp2_with (simp only[key]);go_ret;exact⟨rfl,rfl⟩
theorem JkO (x k:Nat) (hx:x < 18446744073709551616) (h0:x≠0) (hk:Lib.ctz 64 x=k) (w:World) (hT:UW w):
  Calls prog 222 #[.int .u64 x] w fun e w'=>e=.returned (.int .i64 k)/\w=w':=by
 obtain⟨hlow,hk'⟩:=Lib.lowest_bit 64 x h0 hx;obtain⟨hi,htab⟩:=Lib.deBruijn64_at _ hk';have hcell:=hT _ hi;rw[htab,hk] at hcell;rw[hk] at hk' hi;rw[hk] at hlow;exact Jkd x k _ w (FX.2 (by omega)) (JmA x _ hx h0 hlow) hi hk' hcell
end
section
def Jm (w:World) (g:Nat) (t:TypeId) (cs:Array Value):Prop:=w.heap[g]?=some (.cells cs t (0,0))
section
variable {w w':World} {g:Nat} {t:TypeId} {cs:Array Value}
theorem Jm.lt (h:Jm w g t cs):g < w.heap.size:=(EA.1 h).1
theorem Jm.cell (h:Jm w g t cs) (i:Nat):w.cell? ⟨g,i,none⟩=cs[i]?:=Nx w g i cs t (0,0) h
theorem Jm.frozen (h:Jm w g t cs) (i:Nat):w.frozen? ⟨g,i,none⟩=false:=frozen_of_row w g i cs t h
theorem Jm.new (w:World) (t:TypeId) (cs:Array Value):Jm (w.alloc (.cells cs t)) w.heap.size t cs:=Nb w _
theorem Jm.alloc (h:Jm w g t cs) (o:Obj):Jm (w.alloc o) g t cs:=(Below.heap_alloc w o g h.lt).trans h
theorem Jm.set_ (h:Jm w g t cs) (i:Nat) (u:Value):Jm (w.setCell ⟨g,i,none⟩ u) g t (cs.setIfInBounds i u):=heap_setCell_same w g i cs t u h
theorem Jm.far (h:Jm w g t cs) {p:Addr} (hp:g≠p.block) (u:Value):Jm (w.setCell p u) g t cs:=(GH w p u g hp).trans h
theorem Jm.below {B:Nat} (h:Jm w g t cs) (hb:Below B w w') (hg:g < B):Jm w' g t cs:=(hb.block g hg).trans h
theorem Jm.go (h:Jm w g t cs) (hb:Bz w w'):Jm w' g t cs:=h.below hb h.lt
end
def sv (v:List Vc.St):List Value:=v.flatMap fun s=>[.int .i64 s.1,.int .i64 s.2]
theorem JeG (v:List Vc.St):(sv v).length=v.length * 2:=by
 induction v with
 | nil=>rfl
 | cons s r ih=>simp only[sv,Gu,Eb,List.length_cons,List.length_nil] at ih ⊢;omega
theorem Xb (v r:List Vc.St):sv (v++r)=sv v++sv r:=by simp[sv]
theorem Jgf (v:List Vc.St) (k:Nat) (h:k < v.length):sv v=sv (v.take k)++([.int .i64 v[k].1,.int .i64 v[k].2]++sv (v.drop (k+1))):=by
 have e:v.take k++([v[k]]++v.drop (k+1))=v:=by rw[List.singleton_append,<-Eh h,List.take_append_drop]
 have:=congrArg sv e;rw[Xb,Xb] at this;exact this.symm
theorem Jn2 (v:List Vc.St) (k:Nat) (h:k < v.length):(sv v)[k * 2]?=some (.int .i64 v[k].1):=by
 have hl:(sv (v.take k)).length=k * 2:=by rw[JeG,Et,FK (by omega)]
 rw[Jgf v k h,List.getElem?_append_right (by omega),hl,GT];rfl
theorem Jof (v:List Vc.St) (k:Nat) (h:k < v.length):(sv v)[k * 2+1]?=some (.int .i64 v[k].2):=by
 have hl:(sv (v.take k)).length=k * 2:=by rw[JeG,Et,FK (by omega)]
 rw[Jgf v k h,List.getElem?_append_right (by omega),hl,FL];rfl
theorem Rd.plain {w:World} {B size n c:Nat} {A:OA} {xs:List Value} (h:Rd w B size A n c xs) (hn:0 < n) (hs:0 < size):
  ∃b o,A=some ⟨b,o,none⟩/\b < B/\∀j u,xs[j]?=some u->w.cell? ⟨b,o+j,none⟩=some u:=by
 obtain⟨ad,rfl,hb,hc⟩:=h.at0 hn;have hx:0 < xs.length:=by rw[h.len];exact Nat.mul_pos hn hs
 have h0:=hc 0 _ (Em hx);rw[Jd9] at h0;obtain⟨b,o,s⟩:=ad;obtain rfl:s=none:=World.cell?_spot h0;refine⟨b,o,rfl,hb,fun j u hu=>?_⟩;have:=hc j u hu
 rwa [show (⟨b,o,none⟩:Addr).add j=⟨b,o+j,none⟩ by unfold Addr.add;split<;>simp_all] at this
theorem Rd.stamp {w:World} {B n c k:Nat} {A:OA} {v:List Vc.St} (h:Rd w B 2 A n c (sv v)) (hl:v.length=n) (hk:k < n):
  ∃b o,A=some ⟨b,o,none⟩/\b < B/\w.cell? ⟨b,o+k * 2,none⟩=some (.int .i64 (v[k]'(by omega)).1)/\w.cell? ⟨b,o+k * 2+1,none⟩=some (.int .i64 (v[k]'(by omega)).2):=by
 obtain⟨b,o,e,hb,hc⟩:=h.plain (by omega) (by omega);exact⟨b,o,e,hb,hc _ _ (Jn2 v k (by omega)),hc _ _ (Jof v k (by omega))⟩
def c64 (f:Nat->Int):List Value:=(List.range 64).map fun n=>.int .i64 (f n)
def cc (f:Nat->Int) (h:Nat):Array Value:=(c64 f++[Value.int .u64 (h:Int)]).toArray
theorem JnD (f:Nat->Int):(c64 f).length=64:=by simp[c64]
theorem Yl (f:Nat->Int) (h:Nat):(cc f h).size=65:=by simp[cc,c64]
theorem JbF (f:Nat->Int) (h n:Nat) (hn:n < 64):(cc f h)[n]?=some (.int .i64 (f n)):=by
 have hl:n < (c64 f).length:=by rw[JnD];exact hn
 simp only[cc,FE,List.getElem?_append_left hl];simp[c64,hn]
theorem Ul (f:Nat->Int) (h:Nat):(cc f h)[64]?=some (.int .u64 (h:Int)):=by simp[cc,c64]
def upd (f:Nat->Int) (m:Nat) (x:Int):Nat->Int:=fun n=>if n=m then x else f n
theorem Jl9 (f:Nat->Int) (h m:Nat) (x:Int) (hm:m < 64):(cc f h).setIfInBounds m (.int .i64 x)=cc (upd f m x) h:=by
 apply NO;intro i;rw[Gw];by_cases hi:i < 64
 ·rw[JbF (upd f m x) h i hi];by_cases he:m=i
  ·subst he;simp[Yl,upd];omega
  ·rw[Ef he,JbF f h i hi,upd,Ef (by omega)]
 ·rw[Ef (by omega)];by_cases h64:i=64
  ·subst h64;rw[Ul,Ul]
  ·rw[FP (by rw[Yl];omega),FP (by rw[Yl];omega)]
theorem JdP (f:Nat->Int) (h h':Nat):(cc f h).setIfInBounds 64 (.int .u64 (h':Int))=cc f h':=by
 apply NO;intro i;rw[Gw];by_cases hi:i < 64
 ·rw[Ef (by omega),JbF f h i hi,JbF f h' i hi]
 ·by_cases h64:i=64
  ·subst h64;rw[Ei rfl,Ei (by rw[Yl];omega),Ul]
  ·rw[Ef (by omega),FP (by rw[Yl];omega),FP (by rw[Yl];omega)]
theorem Jct {f g:Nat->Int} {h:Nat} (e:∀n,n < 64->f n=g n):cc f h=cc g h:=by
 unfold cc c64;congr 2;exact NH fun n hn=>by rw[e n (by simpa using hn)]
theorem Jaf (f:Nat->Int) (h:Nat):(cc f h).all (·.oneCell')=true:=by
 rw[NP];intro x hx;simp only[cc,c64,List.mem_toArray,EB,Gp,Ez] at hx;rcases hx with ⟨n,_,rfl⟩ | rfl<;>rfl
theorem Je {P:Program} {ops:Array Oper} {rest:List Oper} {op:Oper} {a:Act} {w:World} {Q:Exit->Act->World->Prop} (hgd:op.guard=none) (ty:TypeId) (x y:Operand) (ho:op.op=.store ty x y)
  (g:Nat) (t:TypeId) (old cells:Array Value) (hx:a.eval x=.pointer (some ⟨g,0,none⟩)) (hy:a.eval y=.agg cells) (hg:Jm w g t old)
  (hi:(P.info? ty).map (·.size)=some cells.size) (hs:old.size=cells.size) (h1:cells.all (·.oneCell')=true)
  (h:∀w',Jm w' g t cells->w.grownBy w' (some g)->wpList P ops Q rest (a.put op.dst undef) w'):wpList P ops Q (op :: rest) a w:=by
 refine Re hgd fun K hK=>?_;unfold Oper.wp execOp;simp only[ho,hx,hy,Instr.storeAt,Instr.sureAddr,Sem.run_bind,Sem.run_pure,Result.andThen_ok,run_storeVar_row w g t ty old cells hg hi hs h1];exact hK _ _ (h _ (setRow_heap w g old _ t _ hg) ⟨rfl,rfl,rfl,by simp,fun k _ hk=>setRow_other w g k _ (fun e=>hk (by rw[e]))⟩)
theorem Jm.grown {w w':World} {g:Nat} {t:TypeId} {cs:Array Value} {row:Option Nat} (h:Jm w g t cs) (hg:w.grownBy w' row) (hne:some g≠row):Jm w' g t cs:=(hg.block g h.lt hne).trans h
end
section
theorem ZX:(prog.info? 203).map (fun i=>(i.zero,i.size))=some (some (.agg (cc (fun _=>0) 0)),65):=by kernel_rfl
def Jau (f:Nat->Int):Nat:=Vc.Ku fun n=>decide (0 < f n)
theorem Jg4:Jau (Vc.Jz [])=0:=by
 unfold Jau;rw[<-Vc.Jlb];exact Vc.KG fun n _=>by simp[Vc.Jz]
theorem JmW (H m:Nat) (hH:H < 18446744073709551616):bits BinOp.and .u64 ((H:Int) / 2 ^ m) 1=((H / 2 ^ m % 2:Nat):Int):=by
 have e:((H:Int) / 2 ^ m)=((H / 2 ^ m:Nat):Int):=by simp
 have hlt:H / 2 ^ m < 18446744073709551616:=Nat.lt_of_le_of_lt (Nat.div_le_self _ _) hH;rw[e];have:=bits_and_u64_nat (H / 2 ^ m) 1 hlt (by omega);rw[Nat.and_one_is_mod] at this;exact this
theorem Jlu (H m:Nat) (hH:H < 18446744073709551616) (hm:m < 64):bits BinOp.or .u64 (H:Int) (IntKind.u64.wrap (2 ^ m))=((H ||| 2 ^ m:Nat):Int):=by
 have h2:2 ^ m < 18446744073709551616:=Nat.pow_lt_pow_right (n:=64) (by omega) hm;have e:IntKind.u64.wrap ((2:Int) ^ m)=((2 ^ m:Nat):Int):=by
  rw[show ((2:Int) ^ m)=((2 ^ m:Nat):Int) by simp];generalize 2 ^ m=q at h2 ⊢;rw[IntKind.wrap_u64];omega
 rw[e];exact bits_or_u64_nat H (2 ^ m) hH h2
theorem Jbs (v:List Vc.St) (k:Nat) (h:k < v.length):v.take (k+1)=v.take k++[v[k]]:=by
 rw[Eq h]
theorem Jlh (v:List Vc.St) (k:Nat) (sc sn:Int) (h:k < v.length) (h1:v[k].1=sc) (h2:v[k].2=sn) (hr:Vc.right (sc,sn)=false):Vc.Jz (v.take (k+1))=Vc.Jz (v.take k):=by
 funext n
 have e:v[k]=(sc,sn):=by rw[<-h1,<-h2]
 rw[Jbs v k h,Vc.JaO,e,Ef (by rw[hr];simp)]
theorem Jlq (v:List Vc.St) (k:Nat) (m:Nat) (h:k < v.length) (h2:v[k].2=(m:Int)) (hx:Vc.Jz (v.take k) m≠0):Vc.Jz (v.take (k+1))=Vc.Jz (v.take k):=by
 funext n
 rw[Jbs v k h,Vc.JaO,Ef];rintro⟨c1,_,c3⟩;rw[h2] at c3;obtain rfl:m=n:=by omega
 exact hx c1
theorem Jmt (v:List Vc.St) (k:Nat) (sc:Int) (m:Nat) (h:k < v.length) (h1:v[k].1=sc) (h2:v[k].2=(m:Int)) (r1:0 < sc) (hm:m < 64) (hx:Vc.Jz (v.take k) m=0):
  (∀n,n < 64->upd (Vc.Jz (v.take k)) m sc n=Vc.Jz (v.take (k+1)) n)/\Jau (Vc.Jz (v.take (k+1)))=Jau (Vc.Jz (v.take k)) ||| 2 ^ m:=by
 have e:v[k]=(sc,(m:Int)):=by rw[<-h1,<-h2]
 have hr:Vc.right (sc,(m:Int))=true:=(Vc.JT _).2 ⟨r1,by simp,by simp;omega⟩;have h3:∀n,upd (Vc.Jz (v.take k)) m sc n=Vc.Jz (v.take (k+1)) n:=fun n=>by
  rw[Jbs v k h,Vc.JaO,e,upd];by_cases hn:n=m
  ·subst hn;rw[Ei rfl,Ei ⟨hx,hr,rfl⟩]
  ·rw[Ef hn,Ef];rintro⟨_,_,c3⟩;simp only at c3;omega
 refine⟨fun n _=>h3 n,?_⟩;unfold Jau;rw[Vc.Ji2 _ _ hm];refine Vc.KG fun n _=>?_;rw[<-h3 n,upd];by_cases hn:n=m
 ·simp[hn,r1]
 ·simp[hn]
theorem JfZ (A:OA) (n c:Nat) (v:List Vc.St) (w:World) (hl:v.length=n) (hR:Rd w w.heap.size 2 A n c (sv v)):
  Calls prog 169 #[.slice A n c] w fun e w'=>e=.returned (.agg (cc (Vc.Jz v) (Jau (Vc.Jz v))))/\Bz w w':=by
 obtain⟨hz,hi⟩:=FG ZX;have HI:=Ja hi;clear hi;have hmax:n<=9223372036854775807:=by have h1:=hR.cap;have h2:=hR.max;unfold maxLen at h2;omega
 go_enter func169,ntmps169;go_wp2;go_loopw [7] (fun i wr=>∃k:Nat,k<=n/\i=.int .i64 k/\Bz w wr/\Jm wr w.heap.size 203 (cc (Vc.Jz (v.take k)) (Jau (Vc.Jz (v.take k))))) (fun i _=>n - (intOf i).toNat)
 case atStart=>
  exact⟨0,by omega,rfl,Zr.alloc Zl _,by rw[show Jau (Vc.Jz (v.take 0))=0 from Jg4];exact Jm.new _ _ _⟩
 case round=>
  obtain⟨k,hk,rfl,hb,hblk⟩:=hrel;by_cases hlt:k < n
  ·have hkv:k < v.length:=by omega
   obtain⟨b,o,rfl,hab,h0,h1⟩:=(hR.below hb).stamp hl hlt;generalize hs1:(v[k]'hkv).1=sc at h0;generalize hs2:(v[k]'hkv).2=sn at h1;have HS1:=Ja hs1;have HS2:=Ja hs2;clear hs1 hs2 hR;have HB:=Ja hb;have hB:=hblk.lt;have HK:=Ja hblk;clear hb hblk hl;go_wp2_with fail;refine Jd (Yz sc sn _) fun w3 hb3=>?_;have HK3:=Ja ((HK.out.alloc (.cells #[.int .i64 sc,.int .i64 sn] 28)).go hb3);have hs3:=Jm.go (Jm.new wr 28 #[.int .i64 sc,.int .i64 sn]) hb3;have g0:=hs3.cell 0;have g1:=hs3.cell 1;rw[show (#[Value.int .i64 sc,Value.int .i64 sn])[0]?=some (.int .i64 sc) from rfl] at g0;rw[show (#[Value.int .i64 sc,Value.int .i64 sn])[1]?=some (.int .i64 sn) from rfl] at g1;have hb4:=Jg HB.out (((Ec wr.heap.size wr).alloc Zl _).trans (hb3.mono (by simp)));have HB4:=Ja hb4;clear hb3 hs3 hb4 HB HK;by_cases hr:Vc.right (sc,sn)=true
   ·obtain⟨r1,r2,r3⟩:=(Vc.JT (sc,sn)).1 hr;simp only at r1 r2 r3;obtain⟨m,rfl⟩:=Fd r2;obtain⟨H,hH⟩:∃H,H=Jau (Vc.Jz (v.take k)):=⟨_,rfl⟩;have hHlt:H < 18446744073709551616:=by rw[hH];exact Vc.Jbx _
    have hmk:H / 2 ^ m % 2=if (0:Int) < Vc.Jz (v.take k) m then 1 else 0:=by
     rw[hH];unfold Jau;rw[Vc.JnO _ _ (by omega)];simp
    rw[<-hH] at HK3;have gh:=HK3.out.cell 64;rw[Ul] at gh;have gm:=HK3.out.cell m;rw[JbF _ _ _ (by omega)] at gm;have fm:=HK3.out.frozen m;have fh:=HK3.out.frozen 64;have HH:=Ja hH;have hbit:bits BinOp.and .u64 ((H:Int) / 2 ^ m) 1=((H / 2 ^ m % 2:Nat):Int):=JmW H m hHlt;generalize hfm:Vc.Jz (v.take k) m=x at gm hmk;have HX:=Ja hfm;have HL:=Ja hHlt;clear hH hfm hHlt;rw[hr];by_cases hx:0 < x
    ·rw[Ei hx] at hmk;rw[hmk] at hbit;clear hmk;have HS:=Ja (Jlq v k m hkv HS2.out (by rw[HX.out];omega));go_wp2;go_roundw
     case rel=>
      refine⟨k+1,by omega,by go_num,HB4.out,?_⟩;rw[HS.out,<-HH.out];exact HK3.out
     case measure=>simp[intOf];omega
    ·rw[Ef hx] at hmk;rw[hmk] at hbit;clear hmk;have hx0:x=0:=by
      have:=Vc.Qv (v.take k) m;rw[HX.out] at this;omega
     have HS:=Ja (Jmt v k sc m hkv HS1.out HS2.out r1 (by omega) (by rw[HX.out];exact hx0));clear hx0;go_wp2;go_roundw
     case rel=>
      refine⟨k+1,by omega,by go_num,(HB4.out.setCell (p:=⟨w.heap.size,m,none⟩) Zl _).setCell (p:=⟨w.heap.size,64,none⟩) Zl _,?_⟩;have h5:=(HK3.out.set_ m (.int .i64 sc)).set_ 64 (.int .u64 ((H ||| 2 ^ m:Nat):Int));rw[Jl9 _ _ _ _ (by omega),JdP] at h5;rw[Jlu H m HL.out (by omega)];rw[HH.out] at h5 ⊢;rw[HS.out.2,<-Jct HS.out.1];exact h5
     case measure=>simp[intOf];omega
   ·have hr':Vc.right (sc,sn)=false:=by simpa using hr
    have HS:=Ja (Jlh v k sc sn hkv HS1.out HS2.out hr');clear hr;rw[hr'];go_wp2;go_roundw
    case rel=>
     refine⟨k+1,by omega,by go_num,HB4.out,?_⟩;rw[HS.out];exact HK3.out
    case measure=>simp[intOf];omega
  ·obtain rfl:k=n:=by omega
   have ht:v.take k=v:=Eo (by omega);rw[ht] at hblk;have HK:=Ja hblk;have hty:=underlying203;clear hR hblk ht hl;go_wp2_with (first
    | (refine FA rfl 203 _ rfl w.heap.size rfl 203 _ _ _ HK.out underlying203 rfl (by rw[Yl];exact HI.out) ?_)
    | (refine Je rfl 203 _ _ rfl w.heap.size 203 _ (cc (Vc.Jz v) (Jau (Vc.Jz v))) rfl rfl HK.out (by rw[Yl];exact HI.out) rfl (Jaf _ _) ?_;intro w4 hk4 hg4))
   refine EF (Gc rfl _ _ w.heap.size 203 _ _ _ rfl hk4 underlying203 rfl (by rw[Yl];exact HI.out)) rfl ⟨rfl,hb.trans (Jb hg4 hb.size (fun k hk=>by cases hk;exact Ek _))⟩
end
section
def JI (f:Nat->Int):Array Value:=(c64 f).toArray
theorem QG (f:Nat->Int):(JI f).size=64:=by simp[JI,c64]
theorem US (f:Nat->Int) (n:Nat) (hn:n < 64):(JI f)[n]?=some (.int .i64 (f n)):=by simp[JI,c64,hn]
theorem JeV (f:Nat->Int) (m:Nat) (x:Int) (hm:m < 64):(JI f).setIfInBounds m (.int .i64 x)=JI (upd f m x):=by
 apply NO;intro i;rw[Gw];by_cases hi:i < 64
 ·rw[US (upd f m x) i hi];by_cases he:m=i
  ·subst he;simp[QG,upd];omega
  ·rw[Ef he,US f i hi,upd,Ef (by omega)]
 ·rw[Ef (by omega),FP (by rw[QG];omega),FP (by rw[QG];omega)]
theorem Zt {f g:Nat->Int} (e:∀n,n < 64->f n=g n):JI f=JI g:=by
 unfold JI c64;congr 1;exact NH fun n hn=>by rw[e n (by simpa using hn)]
theorem Xz (f:Nat->Int):(JI f).all (·.oneCell')=true:=by
 rw[NP];intro x hx;simp only[JI,c64,List.mem_toArray,Gp] at hx;obtain⟨n,_,rfl⟩:=hx;rfl
theorem Ub:(prog.info? 200).map (fun i=>(i.zero,i.size))=some (some (.agg (JI (fun _=>0))),64):=by kernel_rfl
theorem Je5 (v:List Vc.St) (k:Nat) (sc:Int) (m:Nat) (h:k < v.length) (h1:v[k].1=sc) (h2:v[k].2=(m:Int)) (hr:Vc.right (sc,(m:Int))=true):
  ∀n,upd (Vc.Jz (v.drop (k+1))) m sc n=Vc.Jz (v.drop k) n:=fun n=>by
 have e:v[k]=(sc,(m:Int)):=by rw[<-h1,<-h2]
 rw[Eh h,Vc.Jz,e,upd];by_cases hn:n=m
 ·subst hn;rw[Ei rfl,Ei ⟨hr,rfl⟩]
 ·rw[Ef hn,Ef];rintro⟨_,c⟩;simp only at c;omega
theorem Jdu (v:List Vc.St) (k:Nat) (sc sn:Int) (h:k < v.length) (h1:v[k].1=sc) (h2:v[k].2=sn) (hr:Vc.right (sc,sn)=false):
  Vc.Jz (v.drop (k+1))=Vc.Jz (v.drop k):=by
 funext n
 have e:v[k]=(sc,sn):=by rw[<-h1,<-h2]
 rw[Eh h,Vc.Jz,e,Ef (by rw[hr];simp)]
theorem QO (A:OA) (n c:Nat) (v:List Vc.St) (w:World) (hl:v.length=n) (hR:Rd w w.heap.size 2 A n c (sv v)):
  Calls prog 174 #[.slice A n c] w fun e w'=>e=.returned (.agg (JI (Vc.Jz v)))/\Bz w w':=by
 obtain⟨hz,hi⟩:=FG Ub;have HI:=Ja hi;clear hi;have hmax:n<=9223372036854775807:=by have h1:=hR.cap;have h2:=hR.max;unfold maxLen at h2;omega
 go_enter func174,ntmps174;go_wp2;go_loopw [4] (fun i wr=>∃j:Nat,j<=n/\i=.int .i64 ((j:Int) - 1)/\Bz w wr/\Jm wr w.heap.size 200 (JI fun _=>0)/\Jm wr (w.heap.size+1) 200 (JI (Vc.Jz (v.drop j)))) (fun i _=>(intOf i+1).toNat)
 case atStart=>
  refine⟨n,Ek _,rfl,(Zr.alloc Zl _).alloc (by simp) _,(Jm.new _ _ _).alloc _,?_⟩;rw[Ed (by omega)];have:=Jm.new (w.alloc (.cells (JI fun _=>0) 200)) 200 (JI fun _=>0);rw[El] at this;exact this
 case round=>
  obtain⟨j,hj,rfl,hb,hz2,hblk⟩:=hrel;rcases j with _ | k
  ·have HK:=Ja hblk;have HZ:=Ja hz2;clear hR hblk hz2 hl;rw[Rk] at HK;go_wp2_with (first
    | (refine FA rfl 200 _ rfl (w.heap.size+1) rfl 200 _ _ _ HK.out underlying200 rfl (by rw[QG];exact HI.out) ?_)
    | (refine Je rfl 200 _ _ rfl w.heap.size 200 _ (JI (Vc.Jz v)) rfl rfl HZ.out (by rw[QG];exact HI.out) rfl (Xz _) ?_;intro w4 hk4 hg4))
   refine EF (Gc rfl _ _ w.heap.size 200 _ _ _ rfl hk4 underlying200 rfl (by rw[QG];exact HI.out)) rfl ⟨rfl,hb.trans (Jb hg4 hb.size (fun k hk=>by cases hk;exact Ek _))⟩
  ·have hkv:k < v.length:=by omega
   obtain⟨b,o,rfl,hab,h0,h1⟩:=(hR.below hb).stamp hl (k:=k) (by omega);generalize hs1:(v[k]'hkv).1=sc at h0;generalize hs2:(v[k]'hkv).2=sn at h1;have HS1:=Ja hs1;have HS2:=Ja hs2;clear hs1 hs2 hR;have HB:=Ja hb;have hB:=hblk.lt;have HK:=Ja hblk;have HZ:=Ja hz2;have e1:(((k+1:Nat):Int) - 1)=(k:Int):=by omega
   rw[e1];clear hb hblk hz2 hl e1;go_wp2_with fail;refine Jd (Ym sc sn _) fun w3 hb3=>?_;have HK3:=Ja (HK.out.go hb3);have HZ3:=Ja (HZ.out.go hb3);have HB4:=Ja (Jg HB.out hb3);have k0:w3.cell? ⟨b,o+k * 2,none⟩=some (.int .i64 sc):=by rw[hb3.cell (p:=⟨b,o+k * 2,none⟩) (by simp only;omega)];exact h0
   have k1:w3.cell? ⟨b,o+k * 2+1,none⟩=some (.int .i64 sn):=by rw[hb3.cell (p:=⟨b,o+k * 2+1,none⟩) (by simp only;omega)];exact h1
   clear hb3 HB HK HZ h0 h1;rcases hr:Vc.right (sc,sn) with _ | _
   ·have HS:=Ja (Jdu v k sc sn hkv HS1.out HS2.out hr);clear hr;go_wp2;go_roundw
    case rel=>
     refine⟨k,by omega,by go_num,HB4.out,HZ3.out,?_⟩;rw[<-HS.out];exact HK3.out
    case measure=>simp[intOf]
   ·obtain⟨r1,r2,r3⟩:=(Vc.JT (sc,sn)).1 hr;simp only at r1 r2 r3;obtain⟨m,rfl⟩:=Fd r2;have HS:=Ja (Je5 v k sc m hkv HS1.out HS2.out hr);clear hr;have gm:=HK3.out.cell m;rw[US _ _ (by omega)] at gm;have fm:=HK3.out.frozen m;go_wp2;go_region;go_wp2;go_roundw
    case rel=>
     refine⟨k,by omega,by go_num,(HB4.out.drew).setCell (p:=⟨w.heap.size+1,m,none⟩) (by simp) _,Jm.far (w:=w3.drew) HZ3.out (by simp) _,?_⟩;have h5:=Jm.set_ (w:=w3.drew) HK3.out m (.int .i64 sc);rw[JeV _ _ _ (by omega),Zt (fun n _=>HS.out n)] at h5;exact h5
    case measure=>simp[intOf]
end
section
def Yj (f:Nat->Int) (p:Nat->Bool) (k:Nat):List Vc.St:=(Vc.Ys p k).map fun n=>(f n,(n:Int))
def Zf (f:Nat->Int):Nat->Bool:=fun n=>decide (0 < f n)
def XM (f:Nat->Int):List Vc.St:=Yj f (Zf f) 64
theorem Kn (f:Nat->Int) (p:Nat->Bool) (k:Nat) (h:p k=true):Yj f p (k+1)=Yj f p k++[(f k,(k:Int))]:=by
 rw[Yj,Vc.JfJ p k k Zl (fun j h1 h2=>by omega) h,GM];rfl
theorem Ui (f:Nat->Int) (p:Nat->Bool) (k:Nat) (h:p k=false):Yj f p (k+1)=Yj f p k:=by
 rw[Yj,Vc.JbA p k (k+1) (by omega) (fun j h1 h2=>by obtain rfl:j=k:=by omega
                                                    exact h)];rfl
theorem Jjw (f:Nat->Int) (p:Nat->Bool) (k:Nat):(Yj f p k).length<=k:=by rw[Yj,Gl];exact Vc.Jgz p k
theorem Ju (v:List Vc.St):∀u∈sv v,u.oneCell'=true:=by
 intro u hu;simp only[sv,Gy,List.mem_cons,Gd,Rb] at hu;obtain⟨s,_,h | h⟩:=hu<;>subst h<;>rfl
theorem Uh:(prog.info? 28).map (fun i=>(i.zero,i.size,i.bytes))=some (some (.agg #[.int .i64 0,.int .i64 0]),2,16):=by kernel_rfl
theorem Jev (f:Nat->Int) (w:World):
  Calls prog 220 #[.agg (JI f)] w fun e w'=>∃A' c',e=.returned (.slice A' (XM f).length c') /\
   w'.ownsRow w.heap.size 28 2 (.slice A' (XM f).length c') (XM f).length (sv (XM f))/\Bz w w':=by
 obtain⟨i0,hi0,hz0,hz1,hz2⟩:=EN Uh;go_enter func220,ntmps220;go_wp2;go_loopw [3,4] (fun s i wr=>∃(k m c':Nat) (A':OA),k<=64/\i=.int .i64 k/\s=.slice A' m c'/\m<=64/\Bz w wr/\Jm wr w.heap.size 200 (JI f) /\
  Hid ((Yj f (Zf f) k).length=m)/\wr.ownsRow (w.heap.size+1) 28 2 (.slice A' m c') m (sv (Yj f (Zf f) k))) (fun _ i _=>64 - (intOf i).toNat)
 case atStart=>exact⟨0,0,0,none,by omega,rfl,rfl,by omega,Zr.alloc Zl _,Jm.new _ _ _,rfl,ED _ _ _ _⟩
 case round=>
  obtain⟨k,m,c',A',hk,rfl,rfl,hm,hb,hblk,hlen,ho⟩:=hrel;have HO:=Ja ho;have HK:=Ja hblk;have HB:=Ja hb;have hsz:=hblk.lt;clear ho hb;by_cases hlt:k < 64
  ·have gk:=hblk.cell k;rw[US _ _ hlt] at gk;clear hblk;generalize hx:f k=x at gk;have HX:=Ja hx;clear hx;by_cases hpos:0 < x
   ·have h63:m+1<=maxLen:=by unfold maxLen;omega
    have h1max:1<=maxLen:=by unfold maxLen;omega
    go_wp2_with (at_builtin;go_must (refine Jh _ rfl (.tmp 13) (.tmp 19) _ rfl (w.heap.size+1) 28 i0 _ 2 16 underlying22 hi0 hz0 hz1 hz2 rfl (by decide) (.slice A' m c') m _ rfl (HO.out.alloc _) (wr.heap.size+1) (some ⟨wr.heap.size,0,none⟩) 1 1 [.int .i64 x,.int .i64 (k:Int)] rfl (Rd.new wr _ 2 1 #[.int .i64 x,.int .i64 (k:Int)] rfl h1max) (Ju [(x,(k:Int))]) h63 (by omega) (by simp;omega) ?_);intro A3 c3 w3 ho3 hg3 hat3);go_roundw
    case rel=>
     have hp:Zf f k=true:=by unfold Zf;rw[HX.out];simpa using hpos
     refine⟨k+1,m+1,c3,A3,by omega,by go_num,rfl,by have:=Jjw f (Zf f) (k+1);rw[Kn f _ k hp,Eb,hlen.out] at this;simp at this;omega,(HB.out.alloc (by omega) _).trans (Jb hg3 (by simp;omega) (fun g hg=>by have:=JM HO.out g hg;omega)),(HK.out.alloc _).grown hg3 (fun e=>by have:=JM HO.out _ e.symm;omega),?_,?_⟩
     ·show _=_;rw[Kn f _ k hp,Eb,hlen.out];rfl
     ·rw[Kn f _ k hp,Xb,HX.out];exact ho3
    case measure=>simp[intOf];omega
   ·go_wp2;go_roundw
    case rel=>
     have hp:Zf f k=false:=by unfold Zf;rw[HX.out];simpa using hpos
     refine⟨k+1,m,c',A',by omega,by go_num,rfl,hm,HB.out,HK.out,?_,?_⟩
     ·show _=_;rw[Ui f _ k hp,hlen.out]
     ·rw[Ui f _ k hp];exact HO.out
    case measure=>simp[intOf];omega
  ·obtain rfl:k=64:=by omega
   clear hblk;go_wp2;go_ret;have hl:(XM f).length=m:=hlen.out;exact⟨A',c',by rw[hl];rfl,by rw[hl];exact Jk HO.out (by omega),HB.out⟩
end
section
theorem Qn (A:OA) (n c:Nat) (xs:List Value) (w:World) (hR:Rd w w.heap.size 2 A n c xs) (h1:∀u∈xs,u.oneCell'=true) (hn:n<=8796093022208):
  Calls prog 63 #[.slice A n c] w fun e w'=>∃A' c',e=.returned (.slice A' n c')/\w'.ownsRow w.heap.size 28 2 (.slice A' n c') n xs/\Bz w w':=by
 have hmax:=hR.max;have hcap:=hR.cap;obtain⟨i0,hi0,hz0,hz1,hz2⟩:=EN Uh;have h63:0+n<=maxLen:=by omega
 go_enter func63,ntmps63;go_wp2_with (at_builtin;go_must (refine Jh _ rfl (.tmp 3) (.tmp 4) _ rfl w.heap.size 28 i0 _ 2 16 underlying22 hi0 hz0 hz1 hz2 rfl (by decide) (.slice (some ⟨w.heap.size,0,none⟩) 0 0) 0 [] rfl (QT w _ _) w.heap.size A n c xs rfl (hR.alloc Zl _) h1 h63 (by omega) (by simp) ?_);intro A' c' w1 hown hg hat);go_ret;exact⟨A',c',rfl,by simpa using hown,(Zr.alloc Zl _).trans (Jb hg (by simp) (by simp[Value.ownBlock]))⟩
def QL (f g:Nat->Int):Bool:=(List.range 64).all fun n=>decide (g n<=f n)
theorem UU (f g:Nat->Int):QL f g=true↔∀n,n < 64->g n<=f n:=by simp[QL]
theorem JcL {f g:Nat->Int} {n:Nat} (hn:n < 64) (h:f n < g n):QL f g=false:=by
 rcases hc:QL f g with _ | _
 ·rfl
 ·have:=(UU f g).1 hc n hn;omega
theorem QB (A D:OA) (n c m d:Nat) (u v:List Vc.St) (w:World) (hl:u.length=n) (hl2:v.length=m) (hR:Rd w w.heap.size 2 A n c (sv u)) (hR2:Rd w w.heap.size 2 D m d (sv v)):
  Calls prog 113 #[.slice A n c,.slice D m d] w fun e w'=>e=.returned (.bool (QL (Vc.Jz u) (Vc.Jz v)))/\Bz w w':=by
 obtain⟨hz,hi⟩:=FG Ub;have HI:=Ja hi;have H1:=Ja (QO A n c u w hl hR);have H2:=Ja fun (W:World) (hR:Rd W W.heap.size 2 D m d (sv v))=>QO D m d v W hl2 hR;have HR2:=Ja hR2;obtain⟨f,hf⟩:∃f,f=Vc.Jz u:=⟨_,rfl⟩;obtain⟨g,hg⟩:∃g,g=Vc.Jz v:=⟨_,rfl⟩;rw[<-hf,<-hg];rw[<-hf] at H1;rw[<-hg] at H2;clear hi hR hR2 hl hl2 hf hg;go_enter func113,ntmps113;go_wp2_with fail;refine Jd H1.out fun w1 hb1=>?_;go_wp2_with fail;refine Jd (H2.out w1 (HR2.out.go hb1)) fun w2 hb2=>?_;have hb:=Jg hb1 hb2;have B1:Jm ((w2.alloc (.cells (JI fun _=>0) 200)).alloc (.cells (JI fun _=>0) 200)) w2.heap.size 200 (JI fun _=>0):=(Jm.new _ _ _).alloc _;have B2:Jm ((w2.alloc (.cells (JI fun _=>0) 200)).alloc (.cells (JI fun _=>0) 200)) (w2.heap.size+1) 200 (JI fun _=>0):=by
  have:=Jm.new (w2.alloc (.cells (JI fun _=>0) 200)) 200 (JI fun _=>0)
  rwa [El] at this
 have HB1:=Ja B1;have HB2:=Ja B2;have HB:=Ja hb;have hsz:=hb.size;clear B1 B2 hb hb1 hb2 H1 H2 HR2;go_wp2_with (first
  | (refine Je rfl 200 _ _ rfl w2.heap.size 200 _ (JI f) rfl rfl HB1.out (by rw[QG];exact HI.out) rfl (Xz _) ?_;intro w3 hk3 hg3;have hk4:=HB2.out.grown hg3 (by simp);have HG3:=Ja hg3;have HK3:=Ja hk3;have HK4:=Ja hk4;clear hg3 hk3 hk4)
  | (refine Je rfl 200 _ _ rfl (w2.heap.size+1) 200 _ (JI g) rfl rfl HK4.out (by rw[QG];exact HI.out) rfl (Xz _) ?_;intro w5 hk5 hg5;have hk6:=HK3.out.grown hg5 (by simp)))
 have hbw:Bz w w5:=by
  have h0:Bz w ((w2.alloc (.cells (JI fun _=>0) 200)).alloc (.cells (JI fun _=>0) 200)):=(HB.out.alloc hsz _).alloc (by simp;omega) _;refine h0.trans ?_;exact(Jb HG3.out (by simp;omega) (fun k hk=>by cases hk;exact hsz)).trans (Jb hg5 (by have:=HG3.out.size;simp at this;omega) (fun k hk=>by cases hk;omega))
 clear hg5 HG3 HK3 HK4 HB1 HB2 HB;go_loopw [7] (fun i wr=>∃k:Nat,k<=64/\i=.int .i64 k/\Bz w wr/\Jm wr w2.heap.size 200 (JI f)/\Jm wr (w2.heap.size+1) 200 (JI g)/\Hid (∀j,j < k->g j<=f j)) (fun i _=>64 - (intOf i).toNat)
 case atStart=>exact⟨0,by omega,rfl,hbw,hk6,hk5,fun j hj=>by omega⟩
 case round=>
  obtain⟨k,hk,rfl,hb,q1,q2,hh⟩:=hrel;clear hbw hk6 hk5;by_cases hlt:k < 64
  ·have g1:=q1.cell k;have g2:=q2.cell k;rw[US _ _ hlt] at g1 g2;generalize hx:f k=x at g1;generalize hy:g k=y at g2;have HX:=Ja hx;have HY:=Ja hy;have Q1:=Ja q1;have Q2:=Ja q2;have HB:=Ja hb;clear hx hy q1 q2 hb;by_cases hxy:x < y
   ·have HF:=Ja (JcL (f:=f) (g:=g) hlt (by rw[HX.out,HY.out];exact hxy));go_wp2;go_quiet (fail);go_wp2;go_ret;exact⟨by rw[HF.out];rfl,Jr HB.out _⟩
   ·go_wp2;go_quiet (fail);go_wp2;go_roundw
    case rel=>
     refine⟨k+1,by omega,by go_num,Jr HB.out _,Q1.out,Q2.out,fun j hj=>?_⟩;by_cases hjk:j=k
     ·subst hjk;rw[HX.out,HY.out];omega
     ·exact hh.out j (by omega)
    case measure=>simp[intOf];omega
  ·obtain rfl:k=64:=by omega
   have HF:=Ja ((UU f g).2 hh.out);clear q1 q2;go_wp2;go_ret;exact⟨by rw[HF.out];rfl,hb⟩
end
section
structure RdL (w:World) (B:Nat) (A:OA) (n c:Nat) (vs:List (List Vc.St)):Prop where
 len:vs.length=n
 cap:n<=c
 max:c<=maxLen
 nil:A=none->c=0
 at_:∀k (hk:k < vs.length),∃b o Ak nk ck,A=some ⟨b,o,none⟩/\b < B/\w.cell? ⟨b,o+k,none⟩=some (.slice Ak nk ck)/\vs[k].length=nk/\Rd w B 2 Ak nk ck (sv vs[k])
theorem RdL.below {w w':World} {B n c:Nat} {A:OA} {vs:List (List Vc.St)} (h:RdL w B A n c vs) (hb:Below B w w'):RdL w' B A n c vs:=
 ⟨h.len,h.cap,h.max,h.nil,fun k hk=>by
  obtain⟨b,o,Ak,nk,ck,h1,h2,h3,h4,h5⟩:=h.at_ k hk;exact⟨b,o,Ak,nk,ck,h1,h2,by rw[hb.cell (p:=⟨b,o+k,none⟩) h2];exact h3,h4,h5.below hb⟩⟩
def jn (vs:List (List Vc.St)):Nat->Int:=fun n=>vs.foldl (fun a v=>max a (Vc.Jz v n)) 0
theorem JiN (vs:List (List Vc.St)) (v:List Vc.St) (n:Nat):jn (vs++[v]) n=max (jn vs n) (Vc.Jz v n):=by simp[jn]
theorem Jcw (vs:List (List Vc.St)) (k:Nat) (h:k < vs.length):vs.take (k+1)=vs.take k++[vs[k]]:=by rw[Eq h]
def mix (k:Nat) (f g:Nat->Int):Nat->Int:=fun n=>if n < k then g n else f n
theorem JgX (f g:Nat->Int):mix 0 f g=f:=by funext n;simp[mix]
theorem Jgc (f g:Nat->Int) (k:Nat):∀n,upd (mix k f g) k (g k) n=mix (k+1) f g n:=fun n=>by
 unfold upd mix;by_cases h:n=k
 ·subst h;simp
 ·by_cases h2:n < k
  ·rw[Ef h,Ei h2,Ei (by omega)]
  ·rw[Ef h,Ef h2,Ef (by omega)]
theorem Jmi (f g:Nat->Int) (k:Nat):mix k f g k=f k:=by simp[mix]
theorem Jjb (f g:Nat->Int):∀n,n < 64->mix 64 f g n=g n:=fun n hn=>by simp[mix,hn]
theorem JgM (A:OA) (n c:Nat) (vs:List (List Vc.St)) (w:World) (hR:RdL w w.heap.size A n c vs):
  Calls prog 219 #[.slice A n c] w fun e w'=>∃A' c',e=.returned (.slice A' (XM (jn vs)).length c') /\
   w'.ownsRow w.heap.size 28 2 (.slice A' (XM (jn vs)).length c') (XM (jn vs)).length (sv (XM (jn vs)))/\Bz w w':=by
 obtain⟨hz,hi⟩:=FG Ub;have HI:=Ja hi;clear hi;have hlen:=hR.len;have hmax:n<=9223372036854775807:=by have h1:=hR.cap;have h2:=hR.max;unfold maxLen at h2;omega
 go_enter func219,ntmps219;go_wp2;go_loopw [4] (fun i wr=>∃k:Nat,k<=n/\i=.int .i64 k/\Bz w wr/\Jm wr w.heap.size 200 (JI (jn (vs.take k)))) (fun i _=>n - (intOf i).toNat)
 case atStart=>exact⟨0,by omega,rfl,Zr.alloc Zl _,Jm.new _ _ _⟩
 case round=>
  obtain⟨k,hk,rfl,hb,hblk⟩:=hrel;by_cases hlt:k < n
  ·have hkv:k < vs.length:=by omega
   obtain⟨b,o,Ak,nk,ck,rfl,hbB,hcell,hvl,hRk⟩:=(hR.below hb).at_ k hkv;have hsz:=hblk.lt;have H1:=Ja (QO Ak nk ck vs[k] wr hvl (hRk.more hb.size));obtain⟨g,hg⟩:∃g,g=Vc.Jz vs[k]:=⟨_,rfl⟩;rw[<-hg] at H1;have HG:=Ja hg;have HK:=Ja hblk;have HB:=Ja hb;clear hR hRk hblk hb hvl hg;go_wp2_with fail;refine Jd H1.out fun w1 hb1=>?_;have HK1:=Ja (HK.out.go hb1);have HB1:=Ja (Jg HB.out hb1);have hs1:=hb1.size;have HN:=Ja (Jm.new w1 200 (JI fun _=>0));clear hb1 H1 HK HB;go_wp2_with (refine Je rfl 200 _ _ rfl w1.heap.size 200 _ (JI g) rfl rfl HN.out (by rw[QG];exact HI.out) rfl (Xz _) ?_;intro w3 hk3 hg3);have hb3:Bz w w3:=(HB1.out.alloc (by omega) _).trans (Jb hg3 (by simp;omega) (fun k hk=>by cases hk;omega));have hk4:Jm w3 w.heap.size 200 (JI (jn (vs.take k))):=(HK1.out.alloc _).grown hg3 (by simp;omega);have hlt1:w.heap.size < w1.heap.size:=by omega
   clear hg3 HN HK1 HB1;go_loopw [6] (fun i wr=>∃j:Nat,j<=64/\i=.int .i64 j/\Bz w wr/\Jm wr w1.heap.size 200 (JI g)/\Jm wr w.heap.size 200 (JI (mix j (jn (vs.take k)) (jn (vs.take (k+1)))))) (fun i _=>64 - (intOf i).toNat)
   case atStart=>exact⟨0,by omega,rfl,hb3,hk3,by rw[JgX];exact hk4⟩
   case round=>
    obtain⟨j,hj,rfl,hb5,q1,q2⟩:=hrel;clear hb3 hk3 hk4;by_cases hj6:j < 64
    ·have g1:=q1.cell j;have g2:=q2.cell j;have fj:=q2.frozen j;rw[US _ _ hj6] at g1 g2;rw[Jmi] at g2;generalize hx:jn (vs.take k) j=x at g2;generalize hy:g j=y at g1;have HX:=Ja hx;have HY:=Ja hy;have Q1:=Ja q1;have Q2:=Ja q2;have HB:=Ja hb5;have HM:=Ja (show (if x < y then y else x)=jn (vs.take (k+1)) j by rw[Jcw vs k hkv,JiN,<-HG.out,HX.out,HY.out];split<;>omega);clear hx hy q1 q2 hb5;go_wp2;go_region;go_wp2;go_roundw
     case rel=>
      refine⟨j+1,by omega,by go_num,(HB.out.drew).setCell (p:=⟨w.heap.size,j,none⟩) Zl _,Jm.far (w:=wr.drew) Q1.out (by simp;omega) _,?_⟩;have h5:=Q2.out.set_ j (.int .i64 (jn (vs.take (k+1)) j));rw[JeV _ _ _ hj6,Zt (fun n _=>Jgc _ _ j n)] at h5;rw[HM.out];exact h5
     case measure=>simp[intOf];omega
    ·obtain rfl:j=64:=by omega
     have Q2:=Ja q2;have HB:=Ja hb5;clear q1 q2 hb5;go_wp2;go_roundw
     case rel=>
      refine⟨k+1,by omega,by go_num,HB.out,?_⟩;rw[<-Zt (Jjb (jn (vs.take k)) (jn (vs.take (k+1))))];exact Q2.out
     case measure=>simp[intOf];omega
  ·obtain rfl:k=n:=by omega
   have ht:vs.take k=vs:=Eo (by omega);rw[ht] at hblk;have HK:=Ja hblk;have HB:=Ja hb;have hsz:=hblk.lt;clear hR hblk ht hb;go_wp2_with (first
    | (refine FA rfl 200 _ rfl w.heap.size rfl 200 _ _ _ HK.out underlying200 rfl (by rw[QG];exact HI.out) ?_)
    | (go_at_call 220;go_must (refine(Jev (jn vs) _).mono ?_);rintro e w5 ⟨A5,c5,rfl,ho5,hb5⟩))
   go_ret;exact⟨A5,c5,rfl,Jk ho5 (by omega),Jg HB.out hb5⟩
end
section
end
section
theorem RdL.two {w:World} {A D:OA} {n c m d:Nat} {u v:List Vc.St} (hl:u.length=n) (hl2:v.length=m) (hR:Rd w w.heap.size 2 A n c (sv u)) (hR2:Rd w w.heap.size 2 D m d (sv v)) (t:TypeId):
  RdL (w.alloc (.cells #[.slice A n c,.slice D m d] t)) (w.alloc (.cells #[.slice A n c,.slice D m d] t)).heap.size (some ⟨w.heap.size,0,none⟩) 2 2 [u,v]:=by
 have hb:Bz w (w.alloc (.cells #[.slice A n c,.slice D m d] t)):=Zr.alloc Zl _;have hB:=Jm.new w t #[.slice A n c,.slice D m d];refine⟨rfl,Ek _,by simp[maxLen],(fun h=>by cases h),fun k hk=>?_⟩;rcases k with _ | _ | k
 ·exact⟨w.heap.size,0,A,n,c,rfl,by simp,hB.cell 0,hl,hR.go hb⟩
 ·exact⟨w.heap.size,0,D,m,d,rfl,by simp,hB.cell 1,hl2,hR2.go hb⟩
 ·simp only[List.length_cons,List.length_nil] at hk;omega
theorem Jhm (A D:OA) (n c m d:Nat) (u v:List Vc.St) (w:World) (hl:u.length=n) (hl2:v.length=m) (hR:Rd w w.heap.size 2 A n c (sv u)) (hR2:Rd w w.heap.size 2 D m d (sv v)):
  Calls prog 198 #[.slice A n c,.slice D m d] w fun e w'=>∃A' c',e=.returned (.slice A' (XM (jn [u,v])).length c') /\
   w'.ownsRow w.heap.size 28 2 (.slice A' (XM (jn [u,v])).length c') (XM (jn [u,v])).length (sv (XM (jn [u,v])))/\Bz w w':=by
 have H1:=Ja (JgM _ 2 2 [u,v] _ (RdL.two hl hl2 hR hR2 22));clear hl hl2 hR hR2;go_enter func198,ntmps198;go_wp2_with fail;refine H1.out.mono ?_;rintro e w1 ⟨A',c',rfl,ho,hb⟩;clear H1;go_wp2;go_ret;exact⟨A',c',rfl,Jk ho (by simp),(Zr.alloc Zl _).trans (hb.mono (by simp))⟩
def Oj (x y:Bool):Int:=if x && y then 0 else if y then 1 else if x then 2 else 3
theorem JcE (A D:OA) (n c m d:Nat) (u v:List Vc.St) (w:World) (hl:u.length=n) (hl2:v.length=m) (hR:Rd w w.heap.size 2 A n c (sv u)) (hR2:Rd w w.heap.size 2 D m d (sv v)):
  Calls prog 88 #[.slice A n c,.slice D m d] w fun e w'=>e=.returned (.int .i64 (Oj (QL (Vc.Jz u) (Vc.Jz v)) (QL (Vc.Jz v) (Vc.Jz u))))/\Bz w w':=by
 have H1:=Ja (QB A D n c m d u v w hl hl2 hR hR2);have H2:=Ja fun (W:World) hR hR2=>QB D A m d n c v u W hl2 hl hR2 hR;have HR:=Ja hR;have HR2:=Ja hR2;generalize QL (Vc.Jz u) (Vc.Jz v)=x at H1 ⊢;generalize QL (Vc.Jz v) (Vc.Jz u)=y at H2 ⊢;clear hR hR2 hl hl2;go_enter func88,ntmps88;go_wp2_with fail;refine Jd H1.out fun w1 hb1=>?_;go_wp2_with fail;refine Jd (H2.out w1 (HR.out.go hb1) (HR2.out.go hb1)) fun w2 hb2=>?_;have hb:=Jg hb1 hb2;clear H1 H2 HR HR2 hb1 hb2;cases x<;>cases y
 all_goals
  go_wp2;go_ret;exact⟨rfl,hb⟩
def Zg (v:List Vc.St) (n:Int):Int:=if 0<=n/\n < 64 then Vc.Jz v n.toNat else 0
theorem Jex (A:OA) (n c:Nat) (v:List Vc.St) (x:Int) (w:World) (hl:v.length=n) (hR:Rd w w.heap.size 2 A n c (sv v)):
  Calls prog 175 #[.slice A n c,.int .i64 x] w fun e w'=>e=.returned (.int .i64 (Zg v x))/\Bz w w':=by
 by_cases h:0<=x/\x < 64
 ·have HC:=Ja (show Zg v x=Vc.Jz v x.toNat from Ei h);obtain⟨h1,h2⟩:=h;obtain⟨k,rfl⟩:=Fd h1;have H1:=Ja (QO A n c v w hl hR);have hix:∀W,(Instr.index 200 (.agg (JI (Vc.Jz v))) (.int .i64 (k:Int))).run prog W=.ok (.int .i64 (Vc.Jz v k)) W:=by
   intro W;have hk:k < 64:=by omega
   have hk2:0<=(k:Int)/\(k:Int) < ((64:Nat):Int):=by omega
   have hat:=US (Vc.Jz v) k hk;simp[Instr.index,FR underlying200,asIntOf,part,hk,hk2,hat,go_sem]
  clear hl hR;go_enter func175,ntmps175;go_wp2_with (go_at_call 174;go_must (refine Jd H1.out fun w1 hb1=>?_));go_ret;exact⟨by rw[HC.out];rfl,hb1⟩
 ·have HC:=Ja (show Zg v x=0 from Ef h);clear hl hR;by_cases h1:x < 0
  ·clear h;go_enter func175,ntmps175;go_wp2;go_ret;exact⟨by rw[HC.out];rfl,Ec _ _⟩
  ·have h2:63 < x:=by omega
   clear h;go_enter func175,ntmps175;go_wp2;go_ret;exact⟨by rw[HC.out];rfl,Ec _ _⟩
end
section
open Go.RowKit Go.Shelf
attribute [local go_sem] Oper.semAt_some
abbrev Ev (p:Nat->Bool) (val:Nat->Int->Prop):={ x:Nat×Int // x.1 < 64/\p x.1=true/\val x.1 x.2 }
def evs {p:Nat->Bool} {val:Nat->Int->Prop} (x:Ev p val):Array Value:=#[.int .i64 (x.1.1:Int),.int .i64 x.1.2]
def OG {p:Nat->Bool} {val:Nat->Int->Prop} (l:List (Ev p val)):List Nat:=l.map (·.1.1)
theorem Km {p:Nat->Bool} {val:Nat->Int->Prop} (l:List (Ev p val)) (x:Ev p val):OG (l++[x])=OG l++[x.1.1]:=by simp[OG]
theorem JnT {p:Nat->Bool} {val:Nat->Int->Prop} (l:List (Ev p val)):(OG l).length=l.length:=by simp[OG]
structure XH (G Bx:Nat) (val:Nat->Int->Prop) (W:World):Prop where
 tab:UW W
 box:Jm W Bx 248 #[.pointer (some ⟨G,0,none⟩)]
 cnts:∃f h,Jm W G 203 (cc f h)/\∀m,m < 64->val m (f m)
theorem XH.below {G Bx:Nat} {val:Nat->Int->Prop} {W W':World} {n₀:Nat} (h:XH G Bx val W) (hb:Below n₀ W W') (hG:G < n₀) (hB:Bx < n₀) (h0:0 < n₀):XH G Bx val W':=by
 obtain⟨f,c,hf,hv⟩:=h.cnts;refine⟨fun j hj=>?_,h.box.below hb hB,f,c,hf.below hb hG,hv⟩;have:=h.tab j hj;rw[hb.cell (p:=⟨0,j,none⟩) h0];exact this
theorem JlG (r:Nat) (h:r≠0):r &&& (r - 1) < r:=by
 have:r &&& (r - 1)<=r - 1:=Nat.and_le_right;omega
theorem JnS (r:Nat) (hr:r < 18446744073709551616) (h:r≠0):bits BinOp.and .u64 (r:Int) (IntKind.u64.wrap ((r:Int) - 1))=((r &&& (r - 1):Nat):Int):=by
 have e:IntKind.u64.wrap ((r:Int) - 1)=((r - 1:Nat):Int):=by rw[IntKind.wrap_u64];omega
 rw[e,bits_and_u64_nat r _ hr (by omega)]
theorem Jl3 (n:Nat) (hn:1<=n) (l G Bx:Nat) (p:Nat->Bool) (val:Nat->Int->Prop) (J Jx:List (Ev p val)->World->Prop)
  (hY:∀pre (x:Ev p val) W,J pre W->pre.length < 64->YieldAt Fence.wide (n - 1) prog l (evs x) W fun e W'=>
   (e=.returned (.bool true)/\J (pre++[x]) W'/\(XH G Bx val W->XH G Bx val W'))\/(e=.returned (.bool false)/\Jx (pre++[x]) W'))
  (W:World) (hg:XH G Bx val W) (hh:W.cell? ⟨G,64,none⟩=some (.int .u64 (Vc.Ku p:Int))) (h0:J [] W):
  CallsIn Fence.wide n prog 221 #[.func (.yield l) #[] #[],.pointer (some ⟨Bx,0,none⟩)] W fun e W'=>(∃v,e=.returned v) /\
   ((∃ys,OG ys=Vc.Ys p 64/\J ys W')\/(∃pre,(OG pre <+: Vc.Ys p 64)/\Jx pre W')):=by
 have hbx:=hg.box.cell 0;refine callsIn_of_wp func221 rfl trivial ?_ rfl;simp only[ntmps221,Fo,List.length_cons,List.length_nil,Nat.reduceAdd,Nat.reduceSub,Fm,Array.replicate_zero,Fw,Fr,List.nil_append,List.cons_append]
 gi_wp2
 rw[<-Vc.JdX p] at hh;clear hh hbx
 gi_loopw [3] (fun rv wr=>∃(k r:Nat) (pre:List (Ev p val)),rv=.int .u64 (r:Int)/\r=Vc.Ku (Vc.from_ p k)/\k<=64/\OG pre=Vc.Ys p k/\XH G Bx val wr/\J pre wr)
  (fun rv _=>(intOf rv).toNat)
 case atStart=>exact⟨0,_,[],by rw[<-Vc.JdX p],rfl,by omega,rfl,hg,h0⟩
 case round=>
  obtain⟨k,r,pre,rfl,hr,hk,hnd,hgd,hJ⟩:=hrel;have hrl:r < 18446744073709551616:=by rw[hr];exact Vc.Jbx _
  by_cases hr0:r=0
  ·have hnone:=Vc.JkG p k (by rw[<-hr,hr0]);have hend:=Vc.JbA p k 64 hk hnone;have HD:=Ja (hnd.trans hend.symm);clear hr hnd hnone hend hrl;subst hr0
   gi_wp2
   go_end0;exact⟨⟨_,rfl⟩,.inl ⟨pre,HD.out,hJ⟩⟩
  ·obtain⟨m,hc,hm,hpm,hkm,hskip,hnext⟩:=Vc.Jl0 p k (by rw[<-hr];exact hr0);rw[<-hr] at hc hnext;obtain⟨f,h,hf,hv⟩:=hgd.cnts;have hit:=Vc.JfJ p k m hkm hskip hpm;obtain⟨x,hx⟩:∃x:Ev p val,x=⟨(m,f m),hm,hpm,hv m hm⟩:=⟨_,rfl⟩;have hpl:pre.length < 64:=by
    rw[<-JnT pre,hnd];have:=Vc.Jgz p k;have:k<=m:=hkm;omega
   obtain⟨fn,tmps,assign,body,hy,hR⟩:=hY pre x wr hJ hpl;rw[hx] at hy;dsimp only[evs] at hy;have g1:=hf.cell m;rw[JbF _ _ _ hm] at g1;have g2:=hgd.box.cell 0;have HT:=Ja (JkO r m hrl hr0 hc wr hgd.tab);have HND:=Ja (show OG (pre++[x])=Vc.Ys p (m+1) by rw[Km,hnd,hit,hx]);have HNX:=Ja hnext;have HL:=Ja (JlG r hr0);have HB:=Ja (JnS r hrl hr0);have HG:=Ja hgd;clear hr hnd hgd hc hnext hskip hpm hit hv hf hx hpl hrl
   gi_wp2_with (refine⟨trivial,?_⟩;gi_at_call 222;refine(Ex.2 HT.out).mono ?_;rintro e w1 ⟨rfl,rfl⟩)
   refine hR.mono ?_;rintro e W3 (⟨rfl,hJ3,hk3⟩ | ⟨rfl,hJx3⟩)
   ·gi_wp2
    go_roundw
    case rel=>exact⟨m+1,r &&& (r - 1),pre++[x],by rw[<-HB.out],HNX.out,by omega,HND.out,hk3 HG.out,hJ3⟩
    case measure=>
     have h1:=HL.out;have h2:=HB.out;simp only[intOf];rw[h2];omega
   ·gi_wp2
    refine EF (Nd rfl _ _ _) rfl ?_;exact⟨⟨_,rfl⟩,.inr ⟨pre++[x],by rw[HND.out];exact Vc.JnI (by omega),hJx3⟩⟩
theorem Up (n:Nat) (hn:1<=n) (G Bx:Nat) (p:Nat->Bool) (val:Nat->Int->Prop) (w:World) (hg:XH G Bx val w) (hh:w.cell? ⟨G,64,none⟩=some (.int .u64 (Vc.Ku p:Int))):
  SeqStopsK Fence.wide n prog 221 #[.pointer (some ⟨Bx,0,none⟩)] (evs (p:=p) (val:=val)) (fun W W'=>XH G Bx val W->XH G Bx val W') (fun ys=>OG ys=Vc.Ys p 64) (fun pre=>OG pre <+: Vc.Ys p 64) 64 w:=by
 intro l J Jx W hW _ _ hY h0;obtain⟨f,h,hf,_⟩:=hg.cnts;have h0':0 < w.heap.size:=Ep _ _ (hg.tab 0 (by decide));exact Jl3 n hn l G Bx p val J Jx hY W (hg.below hW hf.lt hg.box.lt h0') ((hW.cell (p:=⟨G,64,none⟩) hf.lt).trans hh) h0
theorem JeA {G Bx:Nat} {val:Nat->Int->Prop} {A B C:World} (h:XH G Bx val A->XH G Bx val B) (k:XH G Bx val B->XH G Bx val C):XH G Bx val A->XH G Bx val C:=fun g=>k (h g)
theorem Jfu {G Bx:Nat} {val:Nat->Int->Prop} {w:World} (hG:G < w.heap.size) (hB:Bx < w.heap.size) (h0:0 < w.heap.size) (W:World) (l:Nat) (o o':Obj) (hl:w.heap.size<=l) (h:W.heap[l]?=some o) (_:o.isCells=false) (_:o.isWalk=false):XH G Bx val W->XH G Bx val (W.putObj l o'):=fun g=>
 g.below (Rh Zl W l o o' hl h ‹_› ‹_›) hG hB h0
theorem JfH (a:Addr) (w:World):Calls prog 203 #[.pointer (some a)] w fun e w'=>
  e=.returned (.func (.func 221) #[] #[.pointer (some ⟨w.heap.size,0,none⟩)])/\w'=w.alloc (.cells #[.pointer (some a)] 248):=by
 go_enter func203,ntmps203;go_wp2;go_ret;exact⟨rfl,rfl⟩
theorem JeM (A:OA) (n c:Nat) (v:List Vc.St) (w:World) (hl:v.length=n) (hR:Rd w w.heap.size 2 A n c (sv v)):
  Calls prog 170 #[.slice A n c] w fun e w'=>∃G Bx,e=.returned (.func (.func 221) #[] #[.pointer (some ⟨Bx,0,none⟩)]) /\
   Jm w' G 203 (cc (Vc.Jz v) (Jau (Vc.Jz v)))/\Jm w' Bx 248 #[.pointer (some ⟨G,0,none⟩)]/\w.heap.size<=G/\w.heap.size<=Bx/\Bz w w':=by
 obtain⟨hz,hi⟩:=FG ZX;have HI:=Ja hi;have H1:=Ja (JfZ A n c v w hl hR);obtain⟨f,hf⟩:∃f,f=Vc.Jz v:=⟨_,rfl⟩;rw[<-hf] at H1 ⊢;obtain⟨hh,hhe⟩:∃hh,hh=Jau f:=⟨_,rfl⟩;rw[<-hhe] at H1 ⊢;clear hi hR hl hf hhe;go_enter func170,ntmps170;go_wp2_with fail;refine Jd H1.out fun w1 hb1=>?_;have HN:=Ja (Jm.new w1 203 (cc (fun _=>0) 0));have hs1:=hb1.size;clear H1;go_wp2_with (refine Je rfl 203 _ _ rfl w1.heap.size 203 _ (cc f hh) rfl rfl HN.out (by rw[Yl];exact HI.out) rfl (Jaf _ _) ?_;intro w3 hk3 hg3);refine(JfH _ w3).mono ?_;rintro e w4 ⟨rfl,rfl⟩;have hb3:Bz w w3:=(hb1.alloc hs1 _).trans (Jb hg3 (by simp;omega) (fun k hk=>by cases hk;omega));have hb4:Bz w (w3.alloc (.cells #[.pointer (some ⟨w1.heap.size,0,none⟩)] 248)):=hb3.alloc hb3.size _;have hB:=Jm.new w3 248 #[.pointer (some ⟨w1.heap.size,0,none⟩)];have hs3:=hb3.size;clear hg3 HN hb1;go_wp2;go_ret;exact⟨_,_,rfl,hk3.alloc _,hB,hs1,hs3,hb4⟩
end
section
open Go.RowKit Go.Shelf
attribute [local go_sem] Oper.semAt_some
theorem Jm.not_row {W:World} {B:Nat} {t e:TypeId} {cs:Array Value} (h:Jm W B t cs) (hte:t≠e) {base size k:Nat} {v:Value} {xs:List Value} (hr:W.ownsRow base e size v k xs):some B≠v.ownBlock:=by
 rcases hr.2 with ⟨rfl,_⟩ | ⟨g,cap,cur,rfl,_,hgb,_⟩
 ·simp[Value.ownBlock]
 ·intro e';obtain rfl:B=g:=by simpa[Value.ownBlock] using e'
  rw[show W.heap[B]?=_ from h] at hgb;injection hgb with hgb;injection hgb with _ h2;exact hte h2
theorem XH.grown {G Bx:Nat} {val:Nat->Int->Prop} {W W':World} {row:Option Nat} (h:XH G Bx val W) (hg:W.grownBy W' row) (h1:some G≠row) (h2:some Bx≠row) (h0:some 0≠row):XH G Bx val W':=by
 obtain⟨f,c,hf,hv⟩:=h.cnts;refine⟨fun j hj=>?_,h.box.grown hg h2,f,c,hf.grown hg h1,hv⟩;have:=h.tab j hj;rw[GQ (hg.block 0 (Ep _ _ this) h0)];exact this
theorem XH.alloc {G Bx:Nat} {val:Nat->Int->Prop} {W:World} (h:XH G Bx val W) (o:Obj):XH G Bx val (W.alloc o):=h.grown (World.grownBy_alloc W o none) (by simp) (by simp) (by simp)
theorem XH.set_ {G Bx:Nat} {val:Nat->Int->Prop} {W:World} (h:XH G Bx val W) {B:Nat} (u:Value) (h1:G≠B) (h2:Bx≠B) (h0:0≠B):XH G Bx val (W.setCell ⟨B,0,none⟩ u):=
 h.grown (Gx W B u) (fun e=>h1 (by cases e;rfl)) (fun e=>h2 (by cases e;rfl)) (fun e=>h0 (by cases e;rfl))
def OP (f:Nat->Int) {p:Nat->Bool} {val:Nat->Int->Prop} (l:List (Ev p val)):List Vc.St:=(OG l).map fun n=>(f n,(n:Int))
theorem Jen (f:Nat->Int) {p:Nat->Bool} (l:List (Ev p fun m k=>k=f m)) (x:Ev p fun m k=>k=f m):OP f (l++[x])=OP f l++[(x.1.2,(x.1.1:Int))]:=by
 have:=x.2.2.2;simp[OP,Km,<-this]
theorem JmB (f:Nat->Int) {p:Nat->Bool} {val:Nat->Int->Prop} (l:List (Ev p val)) (h:OG l=Vc.Ys p 64):OP f l=Yj f p 64:=by rw[OP,h];rfl
theorem JkP (f:Nat->Int) {p:Nat->Bool} {val:Nat->Int->Prop} (l:List (Ev p val)):(OP f l).length=l.length:=by simp[OP,OG]
theorem JeE (w:World) (cs:Array Value) (t:TypeId) (j:Nat):(w.alloc (.cells cs t)).cell? ((⟨w.heap.size,0,none⟩:Addr).add j)=cs[j]?:=by
 have hadd:(⟨w.heap.size,0,none⟩:Addr).add j=⟨w.heap.size,j,none⟩:=by unfold Addr.add;split<;>simp_all
 rw[hadd,Nx _ w.heap.size j cs t (0,0) (Nb w _)]
theorem Jl6 (G:Nat) (f:Nat->Int) (p:Nat->Bool) (w:World) (hT:UW w) (hB:Jm w G 203 (cc f (Vc.Ku p))):
  Calls prog 205 #[.pointer (some ⟨G,0,none⟩)] w fun e w'=>∃A' c',e=.returned (.slice A' (Yj f p 64).length c') /\
   w'.ownsRow w.heap.size 28 2 (.slice A' (Yj f p 64).length c') (Yj f p 64).length (sv (Yj f p 64))/\Bz w w':=by
 obtain⟨i0,hi,hz0,hz1,hz2⟩:=EN Uh;have h0lt:0 < w.heap.size:=Ep _ _ (hT 0 (by decide));refine(Ex (n:=3)).1 ?_;refine FH func205 rfl trivial ?_ rfl;simp only[ntmps205,Fo,List.length_cons,List.length_nil,Nat.reduceAdd,Nat.reduceSub,Fm,Array.replicate_zero,Fw,Fr,List.nil_append,List.cons_append]
 gi_wp2_with (refine⟨trivial,?_⟩;gi_at_call 203;refine(Ex.2 (JfH _ _)).mono ?_;rintro e w' ⟨rfl,rfl⟩)
 have bO:=Boxed.new w 22 (.slice none 0 0);have bN:=Jm.new (w.alloc (.cells #[.slice none 0 0] 22)) 248 #[.pointer (some ⟨G,0,none⟩)];rw[El] at bN;have hB0:Bz w ((w.alloc (.cells #[.slice none 0 0] 22)).alloc (.cells #[.pointer (some ⟨G,0,none⟩)] 248)):=((Ec _ w).alloc Zl _).alloc (by simp) _;have hBG:=(hB.alloc (.cells #[.slice none 0 0] 22)).alloc (.cells #[.pointer (some ⟨G,0,none⟩)] 248);have hGood:XH G (w.heap.size+1) (fun m k=>k=f m) ((w.alloc (.cells #[.slice none 0 0] 22)).alloc (.cells #[.pointer (some ⟨G,0,none⟩)] 248)):=
  ⟨hT.below hB0,bN,f,_,hBG,fun _ _=>rfl⟩
 have hh:=hBG.cell 64;rw[Ul] at hh;have hGlt:=hB.lt;refine NG rfl (by omega) (gf:=221) (lb:=#[.pointer (some ⟨w.heap.size+1,0,none⟩)]) rfl trivial (NU func221 (by kernel_rfl) rfl)
  (Up (3 - 1) (by omega) G (w.heap.size+1) p (fun m k=>k=f m) _ hGood hh) JeA (Jfu (by simp;omega) (by simp) (by simp)) Zr (fun _=>rfl)
  (fun pre W=>(∃v,Boxed W w.heap.size 22 v/\W.ownsRow w.heap.size 28 2 v (OP f pre).length (sv (OP f pre))/\True)/\Bz w W)
  (fun _ _ _=>False)
  (Nc (Own.from (holdsRow_own w.heap.size w.heap.size 22 28 2 (fun pre=>(OP f pre).length) (fun pre=>sv (OP f pre)) (fun pre v=>True)) _) (GZ Zl (by simp;omega)))
  (fun _ _ _ _ _ hs _ _=>hs)
  ⟨⟨_,bO.alloc _,ED _ _ _ _,trivial⟩,hB0⟩
  (fun x=>{ tmps:=#[.pointer (some ⟨G,0,none⟩),undef,.slice none 0 0,.pointer (some ⟨w.heap.size,0,none⟩),.int .i64 (x.1.1:Int),.int .i64 x.1.2,.pointer (some ⟨G,0,none⟩),.func (.func 221) #[] #[.pointer (some ⟨w.heap.size+1,0,none⟩)],.int .i64 (x.1.1:Int),.int .i64 x.1.2,undef,undef,undef,undef,undef,undef,undef],defers:=[] }) ?assign ?body ?done ?stop
 case assign=>
  intro l x W K hK;dsimp only[evs]
  gi_wp2
  exact hK
 case body=>
  rintro l pre x W ⟨⟨v,hv,hrow,_⟩,hB⟩ hlt;have hc:=hv.cell;have hpl:(OP f pre).length < 64:=by rw[JkP];exact hlt
  gi_wp2_with (gi_at_builtin;go_must (refine wpListIn_append_own _ rfl _ _ 22 rfl w.heap.size 28 i0 _ 2 16 underlying22 hi hz0 hz1 hz2 rfl (by decide) _ _ _ rfl (hrow.alloc _) ⟨W.heap.size,0,none⟩ 1 1 [.int .i64 x.1.2,.int .i64 (x.1.1:Int)] rfl rfl (fun j u hu=>by rw[JeE];simpa using hu) (by simp[Value.oneCell']) (by simp[maxLen];omega) (by omega) (by have:=hB.size;simp;omega) ?_);intro v' w1 hown' hgrow _;obtain⟨g',cap',rfl⟩:=ownsRow_succ hown';obtain⟨hv1,hv2,hr2,hk2,hb2⟩:=hv.appended (by decide) hrow hB.size Zl hown' hgrow;have hc1:=hv1.cell;have hf1:=hv1.frozen)
  refine⟨hk2.from _,fun hg=>?_,⟨_,hv2,?own⟩,hB.trans hb2⟩
  ·obtain⟨f',c',h1,_⟩:=hg.cnts;refine((hg.alloc _).grown hgrow (Jm.not_row h1 (by decide) hrow) (Jm.not_row hg.box (by decide) hrow) (fun e=>?_)).set_ _ (by omega) (by omega) (by omega);have:=JM hrow _ e.symm;omega
  case own=>
   have e:sv (OP f (pre++[x]))=sv (OP f pre)++[.int .i64 x.1.2,.int .i64 (x.1.1:Int)]:=by rw[Jen,Xb];rfl
   have e2:(OP f (pre++[x])).length=(OP f pre).length+1:=by rw[Jen,Eb];rfl
   show World.ownsRow _ _ _ _ _ _ _;rw[e,e2];exact hr2
 case done=>
  rintro D ys W hD hys ⟨⟨v,hv,hrow,_⟩,hB⟩ hK;have hc:=hv.cell;rw[JmB f ys hys] at hrow
  gi_wp2
  refine⟨by simp,.inl ⟨_,_,rfl,Gn hK,?_⟩⟩;obtain⟨A',c',rfl,_⟩:=Xi hrow;exact⟨_,results_tmp rfl _ _ _,A',c',rfl,ownsRow_putObj hrow _ hK rfl,hB.trans (Rh (w:=w) Zl W D _ _ (by simp at hD;omega) hK rfl rfl)⟩
 case stop=>
  rintro D c pre W _ _ h _;exact h.elim
end
section
open Go.RowKit Go.Shelf
attribute [local go_sem] Oper.semAt_some
theorem JeD (f:Nat->Int):Jau f=Vc.Ku (Zf f):=rfl
end
section
open Go.RowKit Go.Shelf
attribute [local go_sem] Oper.semAt_some
theorem Jm.kept_ {W W':World} {row:Option Nat} {g:Nat} {t:TypeId} {cs:Array Value} (h:Jm W g t cs) (hg:W.grownBy W' row) (hr:∀r,row=some r->∃o:Obj,W.heap[r]?=some o/\o.isCells=false):Jm W' g t cs:=
 h.grown hg (fun e'=>by obtain⟨o,ho,hc⟩:=hr g e'.symm;rw[show W.heap[g]?=_ from h] at ho;cases ho;cases hc)
theorem Jaz {F:Fence} {nF:Nat} {P:Program} {ops:Array Oper} {rest:List Oper} {op:Oper} {a:Act} {w:World} {Q:Exit->Act->World->Prop} (hgd:op.guard=none) (ty:TypeId) (x y:Operand) (ho:op.op=.store ty x y)
  (g:Nat) (t:TypeId) (old cells:Array Value) (hx:a.eval x=.pointer (some ⟨g,0,none⟩)) (hy:a.eval y=.agg cells) (hg:Jm w g t old)
  (hi:(P.info? ty).map (·.size)=some cells.size) (hs:old.size=cells.size) (h1:cells.all (·.oneCell')=true)
  (h:∀w',Jm w' g t cells->w.grownBy w' (some g)->wpListIn F nF P ops Q rest (a.put op.dst undef) w'):wpListIn F nF P ops Q (op :: rest) a w:=by
 refine wpListIn_plain hgd fun K hK=>?_;unfold Oper.wpIn;refine⟨by simp[Oper.about,ho],?_⟩;rw[Oper.semAt_plain F _ _ (by rw[ho];intro c hc';cases hc')];simp only[execOp,ho,hx,hy,Instr.storeAt,Instr.sureAddr,Sem.run_bind,Sem.run_pure,Result.andThen_ok,run_storeVar_row w g t ty old cells hg hi hs h1];exact hK _ _ (h _ (setRow_heap w g old _ t _ hg) ⟨rfl,rfl,rfl,by simp,fun k _ hk=>setRow_other w g k _ (fun e=>hk (by rw[e]))⟩)
theorem ZG (A D:OA) (n c m d:Nat) (u v:List Vc.St) (w:World) (hT:UW w) (hl:u.length=n) (hl2:v.length=m) (hR:Rd w w.heap.size 2 A n c (sv u)) (hR2:Rd w w.heap.size 2 D m d (sv v)):
  Calls prog 109 #[.slice A n c,.slice D m d] w fun e w'=>e=.returned (.bool (QL (Vc.Jz u) (Vc.Jz v)))/\Bz w w':=by
 have h0lt:0 < w.heap.size:=Ep _ _ (hT 0 (by decide));obtain⟨hz,hi⟩:=FG ZX;have HI:=Ja hi;have H0:=Ja fun (W:World) hR=>JfZ A n c u W hl hR;have H1:=Ja fun (W:World) hR=>JeM D m d v W hl2 hR;have HR:=Ja hR;have HR2:=Ja hR2;obtain⟨hfa,hha⟩:∃hh,hh=Jau (Vc.Jz u):=⟨_,rfl⟩;rw[<-hha] at H0;obtain⟨f,hf⟩:∃f,f=Vc.Jz u:=⟨_,rfl⟩;rw[<-hf] at H0 ⊢;have HP:=Ja (Vc.Qv u);rw[<-hf] at HP;obtain⟨g,hg⟩:∃g,g=Vc.Jz v:=⟨_,rfl⟩;rw[<-hg] at H1 ⊢;clear hR hR2 hl hl2 hf hg hi hha;refine(Ex (n:=3)).1 ?_;refine FH func109 rfl trivial ?_ rfl;simp only[ntmps109,Fo,List.length_cons,List.length_nil,Nat.reduceAdd,Nat.reduceSub,Fm,Array.replicate_zero,Fw,Fr,List.nil_append,List.cons_append]
 gi_wp2_with fail
 have hbA:Bz w (w.alloc (.cells #[.bool false] 4)):=(Ec _ w).alloc Zl _;have bO:=Boxed.new w 4 (.bool false);have hTA:=hT.below hbA;obtain⟨W0,hW0⟩:∃W0,W0=w.alloc (.cells #[.bool false] 4):=⟨_,rfl⟩;have hs0:W0.heap.size=w.heap.size+1:=by rw[hW0];simp
 rw[<-hW0] at bO hbA hTA ⊢;clear hW0;refine⟨trivial,?_⟩;refine(Ex.2 (H0.out W0 (HR.out.go hbA))).mono ?_;rintro e w1 ⟨rfl,hb1⟩;have hbw1:Bz w w1:=Jg hbA hb1;have bO1:Boxed w1 w.heap.size 4 (.bool false):=(hb1.block _ (by omega)).trans bO;have hT1:=hTA.below hb1;have hs1:=hb1.size;have HNw:=Ja (Jm.new w1 203 (cc (fun _=>0) 0));clear H0 hb1 hbA bO hTA HR
 gi_wp2_with (refine Jaz rfl 203 _ _ rfl w1.heap.size 203 _ (cc f hfa) rfl rfl HNw.out (by rw[Yl];exact HI.out) rfl (Jaf _ _) ?_;intro w2 hk2 hg2)
 have hb2:Bz w1 w2:=((Ec w1.heap.size w1).alloc Zl _).trans (Jb hg2 (by simp) (fun k hk=>by cases hk;omega));have hbw2:Bz w w2:=hbw1.trans (hb2.mono (by omega));have bO2:Boxed w2 w.heap.size 4 (.bool false):=(hb2.block _ (by omega)).trans bO1;have hT2:=hT1.below hb2;have hs2:=hb2.size;have hs2':=hk2.lt;refine⟨trivial,?_⟩;refine(Ex.2 (H1.out w2 (HR2.out.go hbw2))).mono ?_;rintro e w3 ⟨G,Bx,rfl,hG,hBx,hg1,hb1,hb⟩;have hbw:Bz w w3:=Jg hbw2 hb;have bO3:Boxed w3 w.heap.size 4 (.bool false):=(hb.block _ (by omega)).trans bO2;have bC3:=hk2.go hb;have hGood:XH G Bx (fun m k=>k=g m) w3:=⟨hT2.below hb,hBx,g,_,hG,fun _ _=>rfl⟩;have hh:=hG.cell 64;rw[Ul,JeD] at hh;have hs3:=hb.size;clear H1 HR2 hb hb2 hbw1 hbw2 bO1 bO2 hk2 hT1 hT2 HNw hg2 hz HI
 gi_wp2
 refine NG rfl (by omega) (gf:=221) (lb:=#[.pointer (some ⟨Bx,0,none⟩)]) rfl trivial (NU func221 (by kernel_rfl) rfl)
  (Up (3 - 1) (by omega) G Bx (Zf g) (fun m k=>k=g m) _ hGood hh) JeA (Jfu hG.lt hBx.lt (by omega)) Zr (fun _=>rfl)
  (fun pre W=>(Jm W w1.heap.size 203 (cc f hfa)/\Boxed W w.heap.size 4 (.bool false)/\∀j∈OG pre,g j<=f j)/\Bz w W)
  (fun c pre W=>(c=.ret/\Boxed W w.heap.size 4 (.bool false)/\QL f g=false)/\Bz w W)
  (Nc (Own.from (fun s X Y row hs hg hr=>⟨hs.1.kept_ hg hr,boxed_own w.heap.size 4 (fun _=>.bool false) s X Y row hs.2.1 hg hr,hs.2.2⟩) _) (GZ Zl (by omega)))
  (fun c=>Nc (Own.from (fun s X Y row hs hg hr=>⟨hs.1,boxed_own w.heap.size 4 (fun _=>.bool false) s X Y row hs.2.1 hg hr,hs.2.2⟩) _) (GZ Zl (by omega)))
  ⟨⟨bC3,bO3,fun j hj=>by simp[OG] at hj⟩,hbw⟩
  (fun x=>{ tmps:=#[.slice A n c,.slice D m d,undef,undef,.pointer (some ⟨w.heap.size,0,none⟩),.pointer (some ⟨w1.heap.size,0,none⟩),.int .i64 (x.1.1:Int),.int .i64 x.1.2,.slice A n c,.agg (cc f hfa),.slice D m d,.func (.func 221) #[] #[.pointer (some ⟨Bx,0,none⟩)],.int .i64 (x.1.1:Int),.int .i64 x.1.2,undef,undef,undef,undef,undef,undef],defers:=[] }) ?assign ?body ?done ?stop
 case assign=>
  intro l x W K hK;dsimp only[evs]
  gi_wp2
  exact hK
 case body=>
  rintro l pre x W ⟨⟨hC,hv,hall⟩,hB⟩ hlt;have hj:=x.2.1;have hc:=hv.cell;have hfz:=hv.frozen;have g1:=hC.cell x.1.1;rw[JbF _ _ _ hj] at g1;have HX:=Ja x.2.2.2;have HA:=Ja hall;obtain⟨y,hy⟩:∃y,y=f x.1.1:=⟨_,rfl⟩;rw[<-hy] at g1;have HY:=Ja hy;clear hall hy
  gi_wp2
  ·rename_i hlt2;refine⟨(KeepsOthers.setCell _ _ _).from _,⟨rfl,hv.set _,JcL hj ?_⟩,hB.setCell (p:=⟨w.heap.size,0,none⟩) Zl _⟩;rw[<-HY.out,<-HX.out];first | exact hlt2 | simpa using hlt2
  ·rename_i hlt2;refine⟨KeepsFrom.refl _ _,fun hg=>hg,⟨hC,hv,fun i hi=>?_⟩,hB⟩;rw[Km] at hi;rcases EB.1 hi with h1 | h1
   ·exact HA.out i h1
   ·rw[show i=x.1.1 by simpa using h1];rw[<-HY.out,<-HX.out]
    first | omega | (have:¬ y < x.1.2:=by simpa using hlt2
                     omega)
 case done=>
  rintro E ys W hD hys ⟨⟨hC,hv,hall⟩,hB⟩ hK;have HX:=Ja (show QL f g=true by
   refine(UU f g).2 fun i hi=>?_;rw[hys] at hall;by_cases h:0 < g i
   ·exact hall i (by simp[Vc.Ys,Zf,hi,h])
   ·have:=HP.out i;omega)
  have hc:=hv.cell;have hfz:=hv.frozen;clear hys hall
  gi_wp2
  have hK':=(KeepsOthers.setCell W ⟨w.heap.size,0,none⟩ (.bool true)).same E _ hK rfl;refine⟨by simp,.inl ⟨_,_,rfl,Gn hK',?_⟩⟩;have hc5:=cell_kept (FW W ⟨w.heap.size,0,none⟩ (.bool true) (by rw[hc];rfl)) (Gj _ E (.deferred none)) (fun r e=>by cases e;exact⟨_,hK',rfl⟩);refine⟨.bool true,?_,by rw[HX.out],(hB.setCell (p:=⟨w.heap.size,0,none⟩) Zl _).trans (Rh (w:=w) Zl _ E _ _ (by omega) hK' rfl rfl)⟩;simp[results,Tryz.f109,go_sem,hc5]
 case stop=>
  rintro E c' pre W hD _ ⟨⟨rfl,hv,hcov⟩,hB⟩ hK;have HX:=Ja hcov;have hc:=hv.cell;clear hcov
  gi_wp2
  refine⟨by simp,.inl ⟨_,_,rfl,Gn hK,?_⟩⟩;have hc5:=cell_kept hc (Gj _ E (.deferred none)) (fun r e=>by cases e;exact⟨_,hK,rfl⟩);refine⟨.bool false,?_,by rw[HX.out],hB.trans (Rh (w:=w) Zl W E _ _ (by omega) hK rfl rfl)⟩;simp[results,Tryz.f109,go_sem,hc5]
theorem Jg1 (A D:OA) (n c m d:Nat) (u v:List Vc.St) (w:World) (hT:UW w) (hl:u.length=n) (hl2:v.length=m) (hR:Rd w w.heap.size 2 A n c (sv u)) (hR2:Rd w w.heap.size 2 D m d (sv v)):
  Calls prog 95 #[.slice A n c,.slice D m d] w fun e w'=>e=.returned (.int .i64 (Oj (QL (Vc.Jz u) (Vc.Jz v)) (QL (Vc.Jz v) (Vc.Jz u))))/\Bz w w':=by
 have H1:=Ja fun (W:World) hT hR hR2=>ZG A D n c m d u v W hT hl hl2 hR hR2;have H2:=Ja fun (W:World) hT hR hR2=>ZG D A m d n c v u W hT hl2 hl hR2 hR;have HR:=Ja hR;have HR2:=Ja hR2;have HT:=Ja hT;generalize QL (Vc.Jz u) (Vc.Jz v)=x at H1 ⊢;generalize QL (Vc.Jz v) (Vc.Jz u)=y at H2 ⊢;clear hR hR2 hl hl2 hT;go_enter func95,ntmps95;go_wp2_with fail;have hbA:Bz w (w.alloc (.cells #[.int .i64 3,.int .i64 1,.int .i64 2,.int .i64 0] 195)):=(Ec _ w).alloc Zl _;have bO:=Jm.new w 195 #[.int .i64 3,.int .i64 1,.int .i64 2,.int .i64 0];refine Jd (H1.out _ (HT.out.below hbA) (HR.out.go hbA) (HR2.out.go hbA)) fun w1 hb1=>?_;have hb:=Jg hbA hb1;have b1:=bO.go hb1;clear hbA bO hb1 H1;cases x
 all_goals
  go_wp2_with fail;refine Jd (H2.out _ (HT.out.below hb) (HR.out.go hb) (HR2.out.go hb)) fun w2 hb2=>?_;have hb':=Jg hb hb2;have b2:=b1.go hb2;have c0:=b2.cell 0;have c1:=b2.cell 1;have c2:=b2.cell 2;have c3:=b2.cell 3;clear hb hb2 H2 b1 b2;cases y
  all_goals
   go_wp2;go_ret;exact⟨rfl,hb'⟩
end
section
open Go.RowKit Go.Shelf
attribute [local go_sem] Oper.semAt_some
theorem JmN {β:Type} (g:Nat) (t:TypeId) (f:β->Array Value):Own (fun s W=>Jm W g t (f s)):=fun _ _ _ _ hs hg hr=>Jm.kept_ hs hg hr
def Xl (n₀:Nat) (w:World):List Deferred->Prop
 | []=>True
 | d :: ds=>(∃D,d={ target:=.collected D,args:=#[] }/\n₀<=D/\w.heap[D]?=some (.deferred (some []))/\∀d'∈ds,d'≠{ target:=.collected D,args:=#[] })/\Xl n₀ w ds
theorem Xl.lt {n₀:Nat} {w:World}:∀{ds:List Deferred},Xl n₀ w ds->∀D,({ target:=.collected D,args:=#[] }:Deferred)∈ds->D < w.heap.size/\w.heap[D]?=some (.deferred (some []))
 | _ :: _,⟨⟨D',hd,_,hk,_⟩,hm⟩,D,h=>by
  rcases List.mem_cons.1 h with e | h
  ·rw[hd] at e;injection e with e _;injection e with e;subst e;exact⟨(EA.1 hk).1,hk⟩
  ·exact hm.lt D h
theorem Xl.keep {n₀:Nat} {w w':World} (hk:∀D:Nat,w.heap[D]?=some (.deferred (some []))->n₀<=D->w'.heap[D]?=some (.deferred (some []))):∀{ds:List Deferred},Xl n₀ w ds->Xl n₀ w' ds
 | [],_=>trivial
 | _ :: _,⟨⟨D,hd,hn,h1,h2⟩,hm⟩=>⟨⟨D,hd,hn,hk D h1 hn,h2⟩,hm.keep hk⟩
theorem Xl.below {n₀:Nat} {w w':World} {ds:List Deferred} (h:Xl n₀ w ds) (hb:Bz w w'):Xl n₀ w' ds:=
 h.keep fun D hD _=>(hb.block D (EA.1 hD).1).trans hD
theorem Xl.set_ {n₀:Nat} {w:World} {ds:List Deferred} (h:Xl n₀ w ds) {g:Nat} {t:TypeId} {cs:Array Value} (hg:Jm w g t cs) (i:Nat) (u:Value):Xl n₀ (w.setCell ⟨g,i,none⟩ u) ds:=
 h.keep fun D hD _=>(GH w ⟨g,i,none⟩ u D (fun e=>by
  subst e;rw[show w.heap[D]?=_ from hg] at hD;cases hD)).trans hD
theorem Xl.push {n₀:Nat} {w w':World} {ds:List Deferred} (h:Xl n₀ w ds) {D:Nat} (hD:w'.heap[D]?=some (.deferred (some []))) (hn:n₀<=D) (hw:w.heap.size<=D) (h':Xl n₀ w' ds):Xl n₀ w' ({ target:=.collected D,args:=#[] } :: ds):=
 ⟨⟨D,rfl,hn,hD,fun d' hd' e=>by subst e;have:=(h.lt D hd').1;omega⟩,h'⟩
theorem JdH {β:Type} {n₀ B:Nat} {w₀:World} {ds:List Deferred} (h:Xl n₀ w₀ ds) (hB:w₀.heap.size<=B):OwnFrom B (fun (_:β) W=>Xl n₀ W ds):=
 fun s W W' row hs hg hr=>by
  have hm:∀{ds:List Deferred},(∀D,({ target:=.collected D,args:=#[] }:Deferred)∈ds->D < B)->Xl n₀ W ds->Xl n₀ W' ds:=by
   intro ds
   induction ds with
   | nil=>intro _ _;trivial
   | cons d ds ih=>
    rintro hlt ⟨⟨D,hd,hn,h1,h2⟩,hm⟩;have hDB:=hlt D (by rw[hd];exact EW ..);exact⟨⟨D,hd,hn,(hg.block D (EA.1 h1).1 (fun e=>by have:=(hr D e.symm).1;omega)).trans h1,h2⟩,ih (fun D' h'=>hlt D' (ER _ h')) hm⟩
  exact hm (fun D hD=>by have:=(h.lt D hD).1;omega) hs
theorem JaJ {n:Nat} {P:Program} {fn:Func} {tmps:Array Value} {R:Ending->World->Prop} {n₀:Nat} (Φ:World->Prop)
  (hΦ:∀w D,Φ w->n₀<=D->w.heap[D]?=some (.deferred (some []))->Φ (w.putObj D (.deferred none)))
  (hend:∀w,Φ w->LeavesInM Fence.wide n P fn tmps R [] .returning w):∀(ds:List Deferred) (w:World),Xl n₀ w ds->Φ w->LeavesInM Fence.wide n P fn tmps R ds .returning w
 | [],w,_,h=>hend w h
 | d :: ds,w,⟨⟨D,hd,hn,hk,hne⟩,hm⟩,h=>by
  refine⟨by simp,.inl ⟨D,_,by rw[hd],Gn hk,?_⟩⟩;refine JaJ Φ hΦ hend ds _ ?_ (hΦ w D h hn hk);have hgo:∀{ds:List Deferred},(∀d'∈ds,d'≠({ target:=.collected D,args:=#[] }:Deferred))->Xl n₀ w ds->Xl n₀ (w.putObj D (.deferred none)) ds:=by
   intro ds
   induction ds with
   | nil=>intro _ _;trivial
   | cons d ds ih=>
    rintro hne ⟨⟨D',hd',hn',h1,h2⟩,hm⟩;refine⟨⟨D',hd',hn',?_,h2⟩,ih (fun d' h'=>hne d' (ER _ h')) hm⟩;have:D'≠D:=fun e=>hne d (EW ..) (by rw[hd',e]);rw[Fj (fun e=>this (by first | exact e | exact e.symm))];exact h1
  exact hgo hne hm
def jl (f g:Nat->Int) (l:List Nat):Nat->Int:=fun j=>if j∈l then max (f j) (g j) else f j
theorem Jop (f g:Nat->Int):jl f g []=f:=by funext j;simp[jl]
theorem Jnk (f g:Nat->Int) (l:List Nat) (m:Nat) (x:Int) (hx:x=max (jl f g l m) (g m)):∀j,upd (jl f g l) m x j=jl f g (l++[m]) j:=fun j=>by
 subst hx;unfold upd jl;by_cases e:j=m
 ·subst e;simp only[Nf,EB,Ez,or_true];split<;>omega
 ·simp[e]
theorem Joh (f g:Nat->Int) (l:List Nat) (m:Nat) (hm:m < 64) (hg:0 < g m):Vc.Ku (Zf (jl f g l)) ||| 2 ^ m=Vc.Ku (Zf (jl f g (l++[m]))):=by
 rw[Vc.Ji2 _ _ hm];refine Vc.KG fun j _=>?_;unfold Zf jl;by_cases e:j=m
 ·subst e;simp only[EB,Ez,or_true,Nf,Rm,Rt];have:0 < max (f j) (g j):=by omega
  simp[this]
 ·simp[e]
theorem Joi (f g:Nat->Int) (hf:∀n,0<=f n) (hg:∀n,0<=g n):∀j,j < 64->jl f g (Vc.Ys (Zf g) 64) j=max (f j) (g j):=fun j hj=>by
 unfold jl;have h1:=hf j;have h2:=hg j;by_cases h:0 < g j
 ·rw[Ei (by simp[Vc.Ys,Zf,hj,h])]
 ·rw[Ef (by simp[Vc.Ys,Zf,h])];omega
theorem JdS (vs:List (List Vc.St)) (n:Nat):0<=jn vs n:=by
 have:∀a:Int,0<=a->0<=vs.foldl (fun a v=>max a (Vc.Jz v n)) a:=by
  induction vs with
  | nil=>exact fun a h=>h
  | cons x l ih=>exact fun a h=>ih (max a (Vc.Jz x n)) (by omega)
 exact this 0 (by omega)
theorem XH.setc {G Bx:Nat} {val:Nat->Int->Prop} {W:World} (h:XH G Bx val W) {p:Addr} (u:Value) (h1:G≠p.block) (h2:Bx≠p.block) (h0:0≠p.block):XH G Bx val (W.setCell p u):=by
 obtain⟨f,c,hf,hv⟩:=h.cnts;refine⟨fun j hj=>?_,h.box.far h2 u,f,c,hf.far h1 u,hv⟩;rw[World.cell?_setCell_other W p _ u (fun e=>h0 (by rw[e]))];exact h.tab j hj
theorem JoC {W:World} {B:Nat} {t:TypeId} {fp f g:Nat->Int} {hp m:Nat} {l l':List Nat} {z:Int} (hC:Jm W B t (cc fp hp)) (hf:fp=jl f g l) (hm:m < 64) (hz:z=max (jl f g l m) (g m))
  (hh:hp ||| 2 ^ m=Vc.Ku (Zf (jl f g l'))) (hl:l'=l++[m]):
  Jm ((W.setCell ⟨B,m,none⟩ (.int .i64 z)).setCell ⟨B,64,none⟩ (.int .u64 ((hp ||| 2 ^ m:Nat):Int))) B t (cc (jl f g l') (Vc.Ku (Zf (jl f g l')))):=by
 have h5:=(hC.set_ m (.int .i64 z)).set_ 64 (.int .u64 ((hp ||| 2 ^ m:Nat):Int));rw[Jl9 _ _ _ _ hm,JdP,hh,hf,Jct (fun j _=>Jnk f g l m z hz j),<-hl] at h5;rw[hh];exact h5
theorem JfP (A:OA) (n c:Nat) (vs:List (List Vc.St)) (w:World) (hT:UW w) (hR:RdL w w.heap.size A n c vs):
  Calls prog 180 #[.slice A n c] w fun e w'=>∃A' c',e=.returned (.slice A' (XM (jn vs)).length c') /\
   w'.ownsRow w.heap.size 28 2 (.slice A' (XM (jn vs)).length c') (XM (jn vs)).length (sv (XM (jn vs)))/\Bz w w':=by
 have h0lt:0 < w.heap.size:=Ep _ _ (hT 0 (by decide));obtain⟨hz,hi⟩:=FG ZX;have HI:=Ja hi;clear hi;have hlen:=hR.len;have hmax:n<=9223372036854775807:=by have h1:=hR.cap;have h2:=hR.max;unfold maxLen at h2;omega
 refine(Ex (n:=3)).1 ?_;refine FH func180 rfl trivial ?_ rfl;simp only[ntmps180,Fo,List.length_cons,List.length_nil,Nat.reduceAdd,Nat.reduceSub,Fm,Array.replicate_zero,Fw,Fr,List.nil_append,List.cons_append]
 gi_wp2
 refine wpIn_loop (fun a' w'=>∃(ds:List Deferred) (i u5 u6 u7 u11 u12 u13 u14 u15 u18 u19 u20 u21 u22 u23 u24 u25 u26 u27 u28 u29 u30 u31 u32 u33 u34:Value),(∃k:Nat,k<=n/\i=.int .i64 k/\Bz w w'/\Jm w' w.heap.size 203 (cc (jn (vs.take k)) (Vc.Ku (Zf (jn (vs.take k)))))/\Xl w.heap.size w' ds) /\
  a'={ tmps:=#[.slice A n c,undef,.slice none 0 0,.pointer (some ⟨w.heap.size,0,none⟩),undef,u5,u6,u7,.slice A n c,.int .i64 (n:Int),i,u11,u12,u13,u14,u15,undef,undef,u18,u19,u20,u21,u22,u23,u24,u25,u26,u27,u28,u29,u30,u31,u32,u33,u34,undef],defers:=ds })
  (fun a' _=>n - (intOf (a'.tmps.getD 10 undef)).toNat) ?atStart ?round
 case atStart=>
  (repeat apply Exists.intro)
  refine⟨?_,rfl⟩;exact⟨0,by omega,rfl,Zr.alloc Zl _,by rw[show Vc.Ku (Zf (jn (vs.take 0)))=0 from Jg4];exact Jm.new _ _ _,trivial⟩
 case round=>
  intro a' wr hinv;obtain⟨ds,i,u5,u6,u7,u11,u12,u13,u14,u15,u18,u19,u20,u21,u22,u23,u24,u25,u26,u27,u28,u29,u30,u31,u32,u33,u34,⟨k,hk,rfl,hb,hblk,hM⟩,rfl⟩:=hinv;dsimp only;by_cases hlt:k < n
  ·have hkv:k < vs.length:=by omega
   obtain⟨b,o,Ak,nk,ck,rfl,hbB,hcell,hvl,hRk⟩:=(hR.below hb).at_ k hkv;have hsz:=hblk.lt;have hTr:=hT.below hb;have H1:=Ja (JeM Ak nk ck vs[k] wr hvl (hRk.more hb.size));have HGN:=Ja (Vc.Qv vs[k]);obtain⟨g,hg⟩:∃g,g=Vc.Jz vs[k]:=⟨_,rfl⟩;rw[<-hg] at H1 HGN;obtain⟨f,hf⟩:∃f,f=jn (vs.take k):=⟨_,rfl⟩;rw[<-hf] at hblk;have HFN:=Ja (JdS (vs.take k));rw[<-hf] at HFN;have HJ:=Ja (show ∀j,max (f j) (g j)=jn (vs.take (k+1)) j by intro j;rw[Jcw vs k hkv,JiN,<-hf,<-hg]);clear hR hRk hvl hg hf
   gi_wp2_with fail
   refine⟨trivial,?_⟩;refine(Ex.2 H1.out).mono ?_;rintro e w1 ⟨G,Bx,rfl,hG,hBx,hg1,hb1,hb2⟩;have hbw:Bz w w1:=Jg hb hb2;have bC1:=hblk.go hb2;have hM1:=hM.below hb2;have hGood:XH G Bx (fun m k=>k=g m) w1:=⟨hTr.below hb2,hBx,g,_,hG,fun _ _=>rfl⟩;have hh:=hG.cell 64;rw[Ul,JeD] at hh;have hs1:=hb2.size;clear H1 hb hb2 hblk hM hTr
   gi_wp2
   refine NG rfl (by omega) (gf:=221) (lb:=#[.pointer (some ⟨Bx,0,none⟩)]) rfl trivial (NU func221 (by kernel_rfl) rfl)
    (Up (3 - 1) (by omega) G Bx (Zf g) (fun m k=>k=g m) _ hGood hh) JeA (Jfu hG.lt hBx.lt (by omega)) Zr (fun _=>rfl)
    (fun pre W=>Jm W w.heap.size 203 (cc (jl f g (OG pre)) (Vc.Ku (Zf (jl f g (OG pre)))))/\Bz w W/\Xl w.heap.size W ds)
    (fun _ _ _=>False)
    (Nc (Own.from (JmN w.heap.size 203 (fun pre=>cc (jl f g (OG pre)) (Vc.Ku (Zf (jl f g (OG pre)))))) _) (Nc (GZ Zl (by omega)) (JdH hM1 Zl)))
    (fun _ _ _ _ _ hs _ _=>hs)
    ⟨by rw[show OG ([]:List (Ev (Zf g) fun m k=>k=g m))=[] from rfl,Jop];exact bC1,hbw,hM1⟩
    (fun x=>{ tmps:=#[.slice (some ⟨b,o,none⟩) n c,undef,.slice none 0 0,.pointer (some ⟨w.heap.size,0,none⟩),undef,.slice Ak nk ck,.int .i64 (x.1.1:Int),.int .i64 x.1.2,.slice (some ⟨b,o,none⟩) n c,.int .i64 (n:Int),.int .i64 (k:Int),.bool true,.pointer (some ⟨b,o+k,none⟩),.slice Ak nk ck,.slice Ak nk ck,.func (.func 221) #[] #[.pointer (some ⟨Bx,0,none⟩)],.int .i64 (x.1.1:Int),.int .i64 x.1.2,u18,u19,u20,u21,u22,u23,u24,u25,u26,u27,u28,u29,u30,u31,u32,u33,u34,undef],defers:=[] }) ?assign ?body ?done ?stop
   case assign=>
    intro l x W K hK;dsimp only[evs]
    gi_wp2
    exact hK
   case body=>
    rintro l pre x W ⟨hC,hB,hMW⟩ hlt2;have hj:=x.2.1;obtain⟨fp,hfp⟩:∃fp,fp=jl f g (OG pre):=⟨_,rfl⟩;obtain⟨hp,hhp⟩:∃hp,hp=Vc.Ku (Zf fp):=⟨_,rfl⟩;have hhl:hp < 18446744073709551616:=by rw[hhp];exact Vc.Jbx _
    rw[<-hfp,<-hhp] at hC;have g1:=hC.cell x.1.1;rw[JbF _ _ _ hj] at g1;have g2:=hC.cell 64;rw[Ul] at g2;have f1:=hC.frozen x.1.1;have f2:=hC.frozen 64;obtain⟨y,hy⟩:∃y,y=fp x.1.1:=⟨_,rfl⟩;rw[<-hy] at g1;have hor:bits BinOp.or .u64 (hp:Int) (IntKind.u64.wrap (2 ^ x.1.1))=((hp ||| 2 ^ x.1.1:Nat):Int):=Jlu hp x.1.1 hhl hj;have HX:=Ja (show max y x.1.2=max (jl f g (OG pre) x.1.1) (g x.1.1) by rw[hy,hfp,<-x.2.2.2]);have HH:=Ja (show hp ||| 2 ^ x.1.1=Vc.Ku (Zf (jl f g (OG (pre++[x])))) by
     rw[hhp,hfp,Km];exact Joh f g (OG pre) x.1.1 hj (by simpa[Zf] using x.2.2.1))
    have HC:=Ja hC;have HL:=Ja hhl;have HF:=Ja hfp;clear hfp hhp hy hC hhl
    gi_wp2
    all_goals
     refine⟨((KeepsOthers.setCell _ _ _).trans (KeepsOthers.setCell _ _ _)).from _,fun hg=>(hg.setc (p:=⟨w.heap.size,x.1.1,none⟩) _ (by simp;omega) (by simp;omega) (by simp;omega)).setc (p:=⟨w.heap.size,64,none⟩) _ (by simp;omega) (by simp;omega) (by simp;omega),?_,?_,?_⟩
     ·refine JoC HC.out HF.out hj ?_ HH.out (Km pre x);rw[<-HX.out];omega
     ·exact(hB.setCell (p:=⟨w.heap.size,x.1.1,none⟩) Zl _).setCell (p:=⟨w.heap.size,64,none⟩) Zl _
     ·exact(hMW.set_ HC.out _ _).set_ (HC.out.set_ _ _) _ _
   case done=>
    rintro D ys W hD hys ⟨hC,hB,hMW⟩ hK;rw[hys] at hC;have hC2:Jm W w.heap.size 203 (cc (jn (vs.take (k+1))) (Vc.Ku (Zf (jn (vs.take (k+1)))))):=by
     have e:∀j,j < 64->jl f g (Vc.Ys (Zf g) 64) j=jn (vs.take (k+1)) j:=fun j hj=>(Joi f g HFN.out HGN.out j hj).trans (HJ.out j);rw[show Vc.Ku (Zf (jl f g (Vc.Ys (Zf g) 64)))=Vc.Ku (Zf (jn (vs.take (k+1)))) from Vc.KG fun j hj=>congrArg (fun x=>decide (0 < x)) (e j hj),Jct e] at hC;exact hC
    have hP:=hM1.push (w':=W) hK (by omega) hD hMW;clear hC hys
    gi_wp2
    refine⟨?rel,?measure⟩
    case rel=>
     (repeat apply Exists.intro)
     refine⟨?_,rfl⟩;exact⟨k+1,by omega,by go_num,hB,hC2,hP⟩
    case measure=>simp[intOf];omega
   case stop=>
    rintro D c' pre W _ _ h _;exact h.elim
  ·obtain rfl:k=n:=by omega
   have HL:=Ja (Jl6 w.heap.size (jn vs) (Zf (jn vs)) wr (hT.below hb) (by rw[Eo (by omega)] at hblk;exact hblk));clear hR
   gi_wp2_with (refine⟨trivial,?_⟩;gi_at_call 205;refine(Ex.2 HL.out).mono ?_;rintro e w1 ⟨A',c',rfl,ho,hb1⟩)
   have hM1:=hM.below hb1;refine JaJ (n₀:=w.heap.size) (fun W=>W.ownsRow w.heap.size 28 2 (.slice A' (XM (jn vs)).length c') (XM (jn vs)).length (sv (XM (jn vs)))/\Bz w W)
    (fun W D h hn hK=>⟨ownsRow_putObj h.1 _ hK rfl,h.2.trans ((Ec _ W).grown (Gj W D _) h.2.size (fun k e=>by cases e;omega))⟩) ?_ ds _ hM1 ⟨Jk ho (hb.size),Jg hb hb1⟩
   intro W ⟨h1,h2⟩;exact⟨_,results_tmp rfl _ _ _,A',c',rfl,h1,h2⟩
end
section
open Go.RowKit Go.Shelf
attribute [local go_sem] Oper.semAt_some
def ml (f g:Nat->Int) (l:List Nat):Nat->Int:=fun j=>if j∈l then min (f j) (g j) else f j
end
section
theorem JmF (A:OA) (n c:Nat) (u:List Vc.St) (s:Vc.St) (w:World) (hT:UW w) (hl:u.length=n) (hR:Rd w w.heap.size 2 A n c (sv u)):
  Calls prog 207 #[.slice A n c,.agg #[.int .i64 s.1,.int .i64 s.2]] w fun e w'=>∃A' c',e=.returned (.slice A' (XM (jn [u,[s]])).length c') /\
   w'.ownsRow w.heap.size 28 2 (.slice A' (XM (jn [u,[s]])).length c') (XM (jn [u,[s]])).length (sv (XM (jn [u,[s]])))/\Bz w w':=by
 obtain⟨sc,sn⟩:=s;have h1max:1<=maxLen:=by unfold maxLen;omega
 have hb1:Bz w (w.alloc (.cells #[.int .i64 sc,.int .i64 sn] 28)):=Zr.alloc Zl _;have hb2:Below (w.heap.size) w ((w.alloc (.cells #[.int .i64 sc,.int .i64 sn] 28)).alloc (.cells #[.int .i64 sc,.int .i64 sn] 28)):=hb1.alloc hb1.size _;have hS:=Rd.new (w.alloc (.cells #[.int .i64 sc,.int .i64 sn] 28)) 28 2 1 #[.int .i64 sc,.int .i64 sn] rfl h1max;rw[El] at hS;have hL:=RdL.two (D:=some ⟨w.heap.size+1,0,none⟩) (m:=1) (d:=1) (v:=[(sc,sn)]) hl rfl (hR.go hb2) (by simp only[El];exact hS) 22;have hb3:=hb2.alloc (o:=.cells #[.slice A n c,.slice (some ⟨w.heap.size+1,0,none⟩) 1 1] 22) hb2.size;have hL2:RdL (((w.alloc (.cells #[.int .i64 sc,.int .i64 sn] 28)).alloc (.cells #[.int .i64 sc,.int .i64 sn] 28)).alloc (.cells #[.slice A n c,.slice (some ⟨w.heap.size+1,0,none⟩) 1 1] 22)) (((w.alloc (.cells #[.int .i64 sc,.int .i64 sn] 28)).alloc (.cells #[.int .i64 sc,.int .i64 sn] 28)).alloc (.cells #[.slice A n c,.slice (some ⟨w.heap.size+1,0,none⟩) 1 1] 22)).heap.size (some ⟨w.heap.size+1+1,0,none⟩) 2 2 [u,[(sc,sn)]]:=by
  have:=hL;simp only[El] at this ⊢;exact this
 have hT3:=hT.below hb3;generalize hW:(((w.alloc (.cells #[.int .i64 sc,.int .i64 sn] 28)).alloc (.cells #[.int .i64 sc,.int .i64 sn] 28)).alloc (.cells #[.slice A n c,.slice (some ⟨w.heap.size+1,0,none⟩) 1 1] 22))=W at hb3 hL2 hT3;have hs3:=hb3.size;have H1:=Ja (JfP _ 2 2 [u,[(sc,sn)]] W hT3 hL2);have HB:=Ja hb3;clear hl hR hS hb1 hb2 hb3 hL hT;go_enter func207,ntmps207;go_wp2_with fail;refine H1.out.mono ?_;rintro e w1 ⟨A',c',rfl,ho,hb⟩;clear H1;go_wp2;go_ret;exact⟨A',c',rfl,Jk ho hs3,HB.out.trans (hb.mono hs3)⟩
def fm:Int->List Vc.St->Bool
 | _,[]=>true
 | last,s :: r=>Vc.right s && (decide (last < s.2) && fm s.2 r)
theorem JiE (last:Int) (v:List Vc.St) (k:Nat) (h:k < v.length):fm last (v.drop k)=(Vc.right v[k] && (decide (last < v[k].2) && fm v[k].2 (v.drop (k+1)))):=by
 rw[Eh h];rfl
theorem YD (A:OA) (n c:Nat) (v:List Vc.St) (w:World) (hl:v.length=n) (hR:Rd w w.heap.size 2 A n c (sv v)):
  Calls prog 91 #[.slice A n c] w fun e w'=>e=.returned (.bool (fm (-1) v))/\Bz w w':=by
 have hmax:n<=9223372036854775807:=by have h1:=hR.cap;have h2:=hR.max;unfold maxLen at h2;omega
 go_enter func91,ntmps91;go_wp2;go_loopw [3,8] (fun la i wr=>∃(k:Nat) (last:Int),k<=n/\i=.int .i64 k/\la=.int .i64 last/\fm (-1) v=fm last (v.drop k)/\Bz w wr) (fun _ i _=>n - (intOf i).toNat)
 case atStart=>exact⟨0,-1,by omega,rfl,rfl,rfl,Ec _ _⟩
 case round=>
  obtain⟨k,last,hk,rfl,rfl,hfm,hb⟩:=hrel;by_cases hlt:k < n
  ·have hkv:k < v.length:=by omega
   obtain⟨b,o,rfl,hab,h0,h1⟩:=(hR.below hb).stamp hl hlt;have HF:=Ja (hfm.trans (JiE last v k hkv));generalize hs1:(v[k]'hkv).1=sc at h0;generalize hs2:(v[k]'hkv).2=sn at h1;have HE:=Ja (show v[k]'hkv=(sc,sn) by rw[<-hs1,<-hs2]);have HB:=Ja hb;clear hs1 hs2 hR hb hfm;go_wp2_with fail;refine Jd (Yz sc sn _) fun w3 hb3=>?_;have hs3:=Jm.go (Jm.new wr 28 #[.int .i64 sc,.int .i64 sn]) hb3;have g1:=hs3.cell 1;rw[show (#[Value.int .i64 sc,Value.int .i64 sn])[1]?=some (.int .i64 sn) from rfl] at g1;have hb4:=Jg HB.out (((Ec wr.heap.size wr).alloc Zl _).trans (hb3.mono (by simp)));clear hb3 hs3 HB;have HX:=Ja (show fm (-1) v=(Vc.right (sc,sn) && (decide (last < sn) && fm sn (v.drop (k+1)))) by have:=HF.out;rw[HE.out] at this;exact this);clear HF HE;rcases hr:Vc.right (sc,sn) with _ | _
   ·rw[hr] at HX;clear hr;go_wp2;go_ret;exact⟨by rw[HX.out];rfl,hb4⟩
   ·rw[hr] at HX;clear hr;by_cases hle:sn<=last
    ·go_wp2;go_ret;exact⟨Jn (by rw[HX.out];simp;omega),hb4⟩
    ·go_wp2;go_roundw
     case rel=>
      exact⟨k+1,sn,by omega,by go_num,rfl,by rw[HX.out];simp;omega,hb4⟩
     case measure=>simp[intOf];omega
  ·obtain rfl:k=n:=by omega
   have HX:=Ja (show fm (-1) v=true by rw[hfm,Ed (by omega)];rfl);clear hfm;go_wp2;go_ret;exact⟨Jn (by rw[HX.out]),hb⟩
theorem Jj6 (s:Vc.St) (r:List Vc.St) (x:Int):Zg (s :: r) x=if s.2=x/\Vc.right s=true then s.1 else Zg r x:=by
 unfold Zg;by_cases h:0<=x/\x < 64
 ·rw[Ei h,Ei h];simp only[Vc.Jz];obtain⟨k,rfl⟩:=Fd h.1;by_cases h2:s.2=(k:Int)<;>by_cases h3:Vc.right s=true<;>simp[h2,h3]
 ·rw[Ef h,Ef h,Ef];rintro⟨h1,h2⟩;have:=(Vc.JT s).1 h2;omega
theorem Jjr (v:List Vc.St) (x:Int) (k:Nat) (h:k < v.length):Zg (v.drop k) x=if v[k].2=x/\Vc.right v[k]=true then v[k].1 else Zg (v.drop (k+1)) x:=by
 rw[Eh h,Jj6]
theorem Jmu (x:Int):Zg [] x=0:=by unfold Zg;split<;>rfl
theorem Jbd (A:OA) (n c:Nat) (v:List Vc.St) (x:Int) (w:World) (hl:v.length=n) (hR:Rd w w.heap.size 2 A n c (sv v)):
  Calls prog 173 #[.slice A n c,.int .i64 x] w fun e w'=>e=.returned (.int .i64 (Zg v x))/\Bz w w':=by
 have hmax:n<=9223372036854775807:=by have h1:=hR.cap;have h2:=hR.max;unfold maxLen at h2;omega
 go_enter func173,ntmps173;go_wp2;go_loopw [9] (fun i wr=>∃(k:Nat),k<=n/\i=.int .i64 k/\Zg v x=Zg (v.drop k) x/\Bz w wr) (fun i _=>n - (intOf i).toNat)
 case atStart=>exact⟨0,by omega,rfl,rfl,Ec _ _⟩
 case round=>
  obtain⟨k,hk,rfl,hfm,hb⟩:=hrel;by_cases hlt:k < n
  ·have hkv:k < v.length:=by omega
   obtain⟨b,o,rfl,hab,h0,h1⟩:=(hR.below hb).stamp hl hlt;have HF:=Ja (hfm.trans (Jjr v x k hkv));generalize hs1:(v[k]'hkv).1=sc at h0;generalize hs2:(v[k]'hkv).2=sn at h1;have HE:=Ja (show v[k]'hkv=(sc,sn) by rw[<-hs1,<-hs2]);have HB:=Ja hb;have HX:=Ja (show Zg v x=if sn=x/\Vc.right (sc,sn)=true then sc else Zg (v.drop (k+1)) x by have:=HF.out;rw[HE.out] at this;exact this);clear hs1 hs2 hR hb hfm HF HE;by_cases hsn:sn=x
   ·subst hsn;go_wp2_with fail;refine Jd (Yz sc sn _) fun w3 hb3=>?_;have hs3:=Jm.go (Jm.new wr 28 #[.int .i64 sc,.int .i64 sn]) hb3;have g1:=hs3.cell 0;rw[show (#[Value.int .i64 sc,Value.int .i64 sn])[0]?=some (.int .i64 sc) from rfl] at g1;have hb4:=Jg HB.out (((Ec wr.heap.size wr).alloc Zl _).trans (hb3.mono (by simp)));clear hb3 hs3 HB;rcases hr:Vc.right (sc,sn) with _ | _
    ·rw[hr] at HX;clear hr;go_wp2;go_roundw
     case rel=>exact⟨k+1,by omega,by go_num,by rw[HX.out];simp,hb4⟩
     case measure=>simp[intOf];omega
    ·rw[hr] at HX;clear hr;go_wp2;go_ret;exact⟨by rw[HX.out];simp,hb4⟩
   ·have hb4:Bz w (wr.alloc (.cells #[.int .i64 sc,.int .i64 sn] 28)):=HB.out.alloc HB.out.size _;go_wp2;go_roundw
    case rel=>exact⟨k+1,by omega,by go_num,by rw[HX.out,Ef (fun h=>hsn h.1)],hb4⟩
    case measure=>simp[intOf];omega
  ·obtain rfl:k=n:=by omega
   have HX:=Ja (show Zg v x=0 by rw[hfm,Ed (by omega),Jmu]);clear hfm;go_wp2;go_ret;exact⟨by rw[HX.out];rfl,hb⟩
end
section
def QD (v:List Vc.St) (s:Vc.St):Bool:=Vc.right s && decide (s.1<=Zg v s.2)
theorem Jfe (A:OA) (n c:Nat) (v:List Vc.St) (s:Vc.St) (w:World) (hl:v.length=n) (hR:Rd w w.heap.size 2 A n c (sv v)):
  Calls prog 112 #[.slice A n c,.agg #[.int .i64 s.1,.int .i64 s.2]] w fun e w'=>e=.returned (.bool (QD v s))/\Bz w w':=by
 obtain⟨sc,sn⟩:=s;have hb1:Bz w (w.alloc (.cells #[.int .i64 sc,.int .i64 sn] 28)):=Zr.alloc Zl _;have hB:=Jm.new w 28 #[.int .i64 sc,.int .i64 sn];have HR:=Ja hR;have H2:=Ja fun (W:World) hR=>Jbd A n c v sn W hl hR;clear hR hl;have HRt:=Yz sc sn;have hX0:QD v (sc,sn)=(Vc.right (sc,sn) && decide (sc<=Zg v sn)):=rfl;generalize Zg v sn=z at H2 hX0;generalize Vc.right (sc,sn)=rv at HRt hX0;have HX:=Ja hX0;have HR1:=Ja HRt;clear HRt hX0;cases rv
 ·go_enter func112,ntmps112;go_wp2_with fail;have q0:(World.drew (w.alloc (.cells #[.int .i64 sc,.int .i64 sn] 28))).cell? ⟨w.heap.size,0,none⟩=some (.int .i64 sc):=hB.cell 0;have q1:(World.drew (w.alloc (.cells #[.int .i64 sc,.int .i64 sn] 28))).cell? ⟨w.heap.size,1,none⟩=some (.int .i64 sn):=hB.cell 1;refine NJ (by kernel_rfl) ?_;change wpAny _ _ _ _ _ _ _ (World.drew _);refine Fe (rs:=[0]) (by kernel_rfl) (by simp) ?_;refine EK rfl (fun K hK=>?_) Fa;go_simp;refine hK _ _ ?_;clear hK K;refine Fe (rs:=[1]) (by kernel_rfl) (by simp) ?_;refine EK rfl (fun K hK=>?_) Fa;go_simp;refine Jd (HR1.out _) fun w3 hb3=>?_;refine hK _ _ ?_;clear hK K;refine Fs (i:=2) (v:=.bool false) rfl (by kernel_rfl) (by kernel_rfl) (by kernel_rfl) (fun _ _ _ h=>h) (Or.inl ⟨by rfl,fun w=>?_⟩) ?_
  ·go_simp
  refine Fs (i:=3) (v:=undef) rfl (by kernel_rfl) (by kernel_rfl) (by kernel_rfl) (fun _ _ _ h=>h) (Or.inr ⟨by rfl,rfl⟩) ?_;refine Fs (i:=4) (v:=undef) rfl (by kernel_rfl) (by kernel_rfl) (by kernel_rfl) (fun _ _ _ h=>h) (Or.inr ⟨by rfl,rfl⟩) ?_;refine Fs (i:=7) (v:=undef) rfl (by kernel_rfl) (by kernel_rfl) (by kernel_rfl) (fun _ _ _ h=>h) (Or.inr ⟨by rfl,rfl⟩) ?_;refine Fe (rs:=[5,8]) (by kernel_rfl) (by simp) ?_;refine EK rfl (fun K hK=>?_) (EK rfl (fun K hK=>?_) Fa)
  ·go_simp;refine hK _ _ ?_;clear hK K;refine Fe (rs:=[6,8]) (by kernel_rfl) (by simp) ?_;refine EK rfl (fun K hK=>?_) (EK rfl (fun K hK=>?_) Fa)
   ·go_simp;refine hK _ _ ?_;clear hK K;refine Fe (rs:=[8]) (by kernel_rfl) (by simp) ?_;refine EK rfl (fun K hK=>?_) Fa;go_simp;refine hK _ _ ?_;clear hK K;refine Fs (i:=9) (v:=undef) rfl (by kernel_rfl) (by kernel_rfl) (by kernel_rfl) (fun _ _ _ h=>h) (Or.inr ⟨by rfl,rfl⟩) ?_;refine Fs (i:=10) (v:=.bool false) rfl (by kernel_rfl) (by kernel_rfl) (by kernel_rfl) (fun _ _ _ h=>h) (Or.inl ⟨by rfl,fun w=>?_⟩) ?_
    ·go_simp
    refine Fs (i:=11) (v:=.bool false) rfl (by kernel_rfl) (by kernel_rfl) (by kernel_rfl) (fun _ _ _ h=>h) (Or.inl ⟨by rfl,fun w=>?_⟩) ?_
    ·go_simp
    refine Gz (by kernel_rfl) ?_ _;go_wp2;go_ret;exact⟨by rw[HX.out];rfl,Jg hb1.drew hb3⟩
   ·go_simp;refine hK _ _ ?_;clear hK K;refine Fe (rs:=[6]) (by kernel_rfl) (by simp) ?_;refine EK rfl (fun K hK=>?_) Fa;go_simp;refine hK _ _ ?_;clear hK K;refine Fs (i:=9) (v:=undef) rfl (by kernel_rfl) (by kernel_rfl) (by kernel_rfl) (fun _ _ _ h=>h) (Or.inr ⟨by rfl,rfl⟩) ?_;refine Fs (i:=10) (v:=.bool false) rfl (by kernel_rfl) (by kernel_rfl) (by kernel_rfl) (fun _ _ _ h=>h) (Or.inl ⟨by rfl,fun w=>?_⟩) ?_
    ·go_simp
    refine Fs (i:=11) (v:=.bool false) rfl (by kernel_rfl) (by kernel_rfl) (by kernel_rfl) (fun _ _ _ h=>h) (Or.inl ⟨by rfl,fun w=>?_⟩) ?_
    ·go_simp
    refine Gz (by kernel_rfl) ?_ _;go_wp2;go_ret;exact⟨by rw[HX.out];rfl,Jg hb1.drew hb3⟩
  ·go_simp;refine hK _ _ ?_;clear hK K;refine Fe (rs:=[5]) (by kernel_rfl) (by simp) ?_;refine EK rfl (fun K hK=>?_) Fa;go_simp;refine hK _ _ ?_;clear hK K;refine Fe (rs:=[6]) (by kernel_rfl) (by simp) ?_;refine EK rfl (fun K hK=>?_) Fa;go_simp;refine hK _ _ ?_;clear hK K;refine Fs (i:=9) (v:=undef) rfl (by kernel_rfl) (by kernel_rfl) (by kernel_rfl) (fun _ _ _ h=>h) (Or.inr ⟨by rfl,rfl⟩) ?_;refine Fs (i:=10) (v:=.bool false) rfl (by kernel_rfl) (by kernel_rfl) (by kernel_rfl) (fun _ _ _ h=>h) (Or.inl ⟨by rfl,fun w=>?_⟩) ?_
   ·go_simp
   refine Fs (i:=11) (v:=.bool false) rfl (by kernel_rfl) (by kernel_rfl) (by kernel_rfl) (fun _ _ _ h=>h) (Or.inl ⟨by rfl,fun w=>?_⟩) ?_
   ·go_simp
   refine Gz (by kernel_rfl) ?_ _;go_wp2;go_ret;exact⟨by rw[HX.out];rfl,Jg hb1.drew hb3⟩
 ·go_enter func112,ntmps112;go_wp2_with fail;have q0:(World.drew (w.alloc (.cells #[.int .i64 sc,.int .i64 sn] 28))).cell? ⟨w.heap.size,0,none⟩=some (.int .i64 sc):=hB.cell 0;have q1:(World.drew (w.alloc (.cells #[.int .i64 sc,.int .i64 sn] 28))).cell? ⟨w.heap.size,1,none⟩=some (.int .i64 sn):=hB.cell 1;refine Jl fun K hK=>?_;go_region_held3 (fun w'=>w'.cell? ⟨w.heap.size,0,none⟩=some (.int .i64 sc)/\w'.cell? ⟨w.heap.size,1,none⟩=some (.int .i64 sn)) (first | exact⟨q4,q5⟩ | exact⟨q2,q3⟩ | exact⟨q0,q1⟩ | go_keep) (first
   | (go_at_call 159;go_must (refine Jd (HR1.out _) fun w3 hb3=>?_);have hb4:=Jg hb1.drew hb3;have q2:=(hb3.cell (p:=⟨w.heap.size,0,none⟩) (by simp)).trans q0;have q3:=(hb3.cell (p:=⟨w.heap.size,1,none⟩) (by simp)).trans q1)
   | (go_at_call 173;go_must (refine Jd (H2.out _ (HR.out.go hb4)) fun w4 hb5=>?_);have hb6:=Jg hb4 hb5;have q4:=(hb5.cell (p:=⟨w.heap.size,0,none⟩) (Ep _ _ q2)).trans q2;have q5:=(hb5.cell (p:=⟨w.heap.size,1,none⟩) (Ep _ _ q3)).trans q3))
  refine QQ.out (hK _ _ ?_);go_wp2;go_ret;exact⟨Jn (by rw[HX.out];simp),hb6⟩
theorem Jaj (A:OA) (n c:Nat) (v:List Vc.St) (s:Vc.St) (w:World) (hl:v.length=n) (hR:Rd w w.heap.size 2 A n c (sv v)):
  Calls prog 114 #[.slice A n c,.agg #[.int .i64 s.1,.int .i64 s.2]] w fun e w'=>e=.returned (.bool (QD v s))/\Bz w w':=by
 obtain⟨sc,sn⟩:=s;have hb1:Bz w (w.alloc (.cells #[.int .i64 sc,.int .i64 sn] 28)):=Zr.alloc Zl _;have hB:=Jm.new w 28 #[.int .i64 sc,.int .i64 sn];have HR:=Ja hR;have H2:=Ja fun (W:World) hR=>Jex A n c v sn W hl hR;clear hR hl;have HRt:=Ym sc sn;have hX0:QD v (sc,sn)=(Vc.right (sc,sn) && decide (sc<=Zg v sn)):=rfl;generalize Zg v sn=z at H2 hX0;generalize Vc.right (sc,sn)=rv at HRt hX0;have HX:=Ja hX0;have HR1:=Ja HRt;clear HRt hX0;cases rv
 ·go_enter func114,ntmps114;go_wp2_with fail;have q0:(World.drew (w.alloc (.cells #[.int .i64 sc,.int .i64 sn] 28))).cell? ⟨w.heap.size,0,none⟩=some (.int .i64 sc):=hB.cell 0;have q1:(World.drew (w.alloc (.cells #[.int .i64 sc,.int .i64 sn] 28))).cell? ⟨w.heap.size,1,none⟩=some (.int .i64 sn):=hB.cell 1;refine NJ (by kernel_rfl) ?_;change wpAny _ _ _ _ _ _ _ (World.drew _);refine Fe (rs:=[0]) (by kernel_rfl) (by simp) ?_;refine EK rfl (fun K hK=>?_) Fa;go_simp;refine hK _ _ ?_;clear hK K;refine Fe (rs:=[1]) (by kernel_rfl) (by simp) ?_;refine EK rfl (fun K hK=>?_) Fa;go_simp;refine Jd (HR1.out _) fun w3 hb3=>?_;refine hK _ _ ?_;clear hK K;refine Fs (i:=2) (v:=.bool false) rfl (by kernel_rfl) (by kernel_rfl) (by kernel_rfl) (fun _ _ _ h=>h) (Or.inl ⟨by rfl,fun w=>?_⟩) ?_
  ·go_simp
  refine Fs (i:=3) (v:=undef) rfl (by kernel_rfl) (by kernel_rfl) (by kernel_rfl) (fun _ _ _ h=>h) (Or.inr ⟨by rfl,rfl⟩) ?_;refine Fs (i:=5) (v:=undef) rfl (by kernel_rfl) (by kernel_rfl) (by kernel_rfl) (fun _ _ _ h=>h) (Or.inr ⟨by rfl,rfl⟩) ?_;refine Fs (i:=6) (v:=undef) rfl (by kernel_rfl) (by kernel_rfl) (by kernel_rfl) (fun _ _ _ h=>h) (Or.inr ⟨by rfl,rfl⟩) ?_;refine Fe (rs:=[4,7]) (by kernel_rfl) (by simp) ?_;refine EK rfl (fun K hK=>?_) (EK rfl (fun K hK=>?_) Fa)
  ·go_simp;refine hK _ _ ?_;clear hK K;refine Fe (rs:=[7]) (by kernel_rfl) (by simp) ?_;refine EK rfl (fun K hK=>?_) Fa;go_simp;refine hK _ _ ?_;clear hK K;refine Fe (rs:=[8]) (by kernel_rfl) (by simp) ?_;refine EK rfl (fun K hK=>?_) Fa;go_simp;refine hK _ _ ?_;clear hK K;refine Fs (i:=9) (v:=undef) rfl (by kernel_rfl) (by kernel_rfl) (by kernel_rfl) (fun _ _ _ h=>h) (Or.inr ⟨by rfl,rfl⟩) ?_;refine Fs (i:=10) (v:=.bool false) rfl (by kernel_rfl) (by kernel_rfl) (by kernel_rfl) (fun _ _ _ h=>h) (Or.inl ⟨by rfl,fun w=>?_⟩) ?_
   ·go_simp
   refine Fs (i:=11) (v:=.bool false) rfl (by kernel_rfl) (by kernel_rfl) (by kernel_rfl) (fun _ _ _ h=>h) (Or.inl ⟨by rfl,fun w=>?_⟩) ?_
   ·go_simp
   refine Gz (by kernel_rfl) ?_ _;go_wp2;go_ret;exact⟨by rw[HX.out];rfl,Jg hb1.drew hb3⟩
  ·go_simp;refine hK _ _ ?_;clear hK K;refine Fe (rs:=[4,8]) (by kernel_rfl) (by simp) ?_;refine EK rfl (fun K hK=>?_) (EK rfl (fun K hK=>?_) Fa)
   ·go_simp;refine hK _ _ ?_;clear hK K;refine Fe (rs:=[8]) (by kernel_rfl) (by simp) ?_;refine EK rfl (fun K hK=>?_) Fa;go_simp;refine hK _ _ ?_;clear hK K;refine Fs (i:=9) (v:=undef) rfl (by kernel_rfl) (by kernel_rfl) (by kernel_rfl) (fun _ _ _ h=>h) (Or.inr ⟨by rfl,rfl⟩) ?_;refine Fs (i:=10) (v:=.bool false) rfl (by kernel_rfl) (by kernel_rfl) (by kernel_rfl) (fun _ _ _ h=>h) (Or.inl ⟨by rfl,fun w=>?_⟩) ?_
    ·go_simp
    refine Fs (i:=11) (v:=.bool false) rfl (by kernel_rfl) (by kernel_rfl) (by kernel_rfl) (fun _ _ _ h=>h) (Or.inl ⟨by rfl,fun w=>?_⟩) ?_
    ·go_simp
    refine Gz (by kernel_rfl) ?_ _;go_wp2;go_ret;exact⟨by rw[HX.out];rfl,Jg hb1.drew hb3⟩
   ·go_simp;refine hK _ _ ?_;clear hK K;refine Fe (rs:=[4]) (by kernel_rfl) (by simp) ?_;refine EK rfl (fun K hK=>?_) Fa;go_simp;refine hK _ _ ?_;clear hK K;refine Fs (i:=9) (v:=undef) rfl (by kernel_rfl) (by kernel_rfl) (by kernel_rfl) (fun _ _ _ h=>h) (Or.inr ⟨by rfl,rfl⟩) ?_;refine Fs (i:=10) (v:=.bool false) rfl (by kernel_rfl) (by kernel_rfl) (by kernel_rfl) (fun _ _ _ h=>h) (Or.inl ⟨by rfl,fun w=>?_⟩) ?_
    ·go_simp
    refine Fs (i:=11) (v:=.bool false) rfl (by kernel_rfl) (by kernel_rfl) (by kernel_rfl) (fun _ _ _ h=>h) (Or.inl ⟨by rfl,fun w=>?_⟩) ?_
    ·go_simp
    refine Gz (by kernel_rfl) ?_ _;go_wp2;go_ret;exact⟨by rw[HX.out];rfl,Jg hb1.drew hb3⟩
 ·go_enter func114,ntmps114;go_wp2_with fail;have q0:(World.drew (w.alloc (.cells #[.int .i64 sc,.int .i64 sn] 28))).cell? ⟨w.heap.size,0,none⟩=some (.int .i64 sc):=hB.cell 0;have q1:(World.drew (w.alloc (.cells #[.int .i64 sc,.int .i64 sn] 28))).cell? ⟨w.heap.size,1,none⟩=some (.int .i64 sn):=hB.cell 1;refine Jl fun K hK=>?_;go_region_held3 (fun w'=>w'.cell? ⟨w.heap.size,0,none⟩=some (.int .i64 sc)/\w'.cell? ⟨w.heap.size,1,none⟩=some (.int .i64 sn)) (first | exact⟨q4,q5⟩ | exact⟨q2,q3⟩ | exact⟨q0,q1⟩ | go_keep) (first
   | (go_at_call 116;go_must (refine Jd (HR1.out _) fun w3 hb3=>?_);have hb4:=Jg hb1.drew hb3;have q2:=(hb3.cell (p:=⟨w.heap.size,0,none⟩) (by simp)).trans q0;have q3:=(hb3.cell (p:=⟨w.heap.size,1,none⟩) (by simp)).trans q1)
   | (go_at_call 175;go_must (refine Jd (H2.out _ (HR.out.go hb4)) fun w4 hb5=>?_);have hb6:=Jg hb4 hb5;have q4:=(hb5.cell (p:=⟨w.heap.size,0,none⟩) (Ep _ _ q2)).trans q2;have q5:=(hb5.cell (p:=⟨w.heap.size,1,none⟩) (Ep _ _ q3)).trans q3))
  refine QQ.out (hK _ _ ?_);go_wp2;go_ret;exact⟨Jn (by rw[HX.out];simp),hb6⟩
theorem JaT {u v:List Vc.St} {k:Nat} (h1:k < u.length) (h2:k < v.length) (h:u[k]=v[k]):decide (u.drop k=v.drop k)=decide (u.drop (k+1)=v.drop (k+1)):=by
 refine NC.2 ?_;rw[Eh h1,Eh h2,h];exact⟨fun e=>(List.cons.inj e).2,fun e=>by rw[e]⟩
theorem Jdc (A D:OA) (n c m d:Nat) (u v:List Vc.St) (w:World) (hl:u.length=n) (hl2:v.length=m) (hR:Rd w w.heap.size 2 A n c (sv u)) (hR2:Rd w w.heap.size 2 D m d (sv v)):
  Calls prog 80 #[.slice A n c,.slice D m d] w fun e w'=>e=.returned (.bool (decide (u=v)))/\Bz w w':=by
 have hmax:n<=9223372036854775807:=by have h1:=hR.cap;have h2:=hR.max;unfold maxLen at h2;omega
 by_cases hnm:n=m
 ·subst hnm;go_enter func80,ntmps80;go_wp2;go_loopw [5] (fun i wr=>∃(k:Nat),k<=n/\i=.int .i64 k/\decide (u=v)=decide (u.drop k=v.drop k)/\Bz w wr) (fun i _=>n - (intOf i).toNat)
  case atStart=>exact⟨0,by omega,rfl,rfl,Ec _ _⟩
  case round=>
   obtain⟨k,hk,rfl,hdd,hb⟩:=hrel;by_cases hlt:k < n
   ·have hk1:k < u.length:=by omega
    have hk2:k < v.length:=by omega
    obtain⟨b,o,rfl,hab,h0,h1⟩:=(hR.below hb).stamp hl hlt;obtain⟨b2,o2,rfl,hab2,h02,h12⟩:=(hR2.below hb).stamp hl2 hlt;have HD:=Ja hdd;have HE:=Ja (show u[k]=((u[k]'hk1).1,(u[k]'hk1).2) from rfl);have HE2:=Ja (show v[k]=((v[k]'hk2).1,(v[k]'hk2).2) from rfl);generalize (u[k]'hk1).1=sc at h0 HE;generalize (u[k]'hk1).2=sn at h1 HE;generalize (v[k]'hk2).1=tc at h02 HE2;generalize (v[k]'hk2).2=tn at h12 HE2;have HB:=Ja hb;clear hdd hb hR hR2;by_cases e1:sc=tc
    ·subst e1;by_cases e2:sn=tn
     ·subst e2;have HN:=Ja (JaT hk1 hk2 (by rw[HE.out,HE2.out]));go_wp2;go_quiet (fail);go_wp2;go_roundw
      case rel=>exact⟨k+1,by omega,by go_num,by rw[HD.out,HN.out],Jr HB.out _⟩
      case measure=>simp[intOf];omega
     ·have HN:=Ja (show decide (u=v)=false by
       rw[EI];intro h;subst h;exact e2 (congrArg Prod.snd (HE.out.symm.trans HE2.out)))
      go_wp2;go_quiet (fail);go_wp2;go_ret;exact⟨by rw[HN.out];rfl,Jr HB.out _⟩
    ·have HN:=Ja (show decide (u=v)=false by
      rw[EI];intro h;subst h;exact e1 (congrArg Prod.fst (HE.out.symm.trans HE2.out)))
     go_wp2;go_quiet (fail);go_wp2;go_ret;exact⟨by rw[HN.out];rfl,Jr HB.out _⟩
   ·obtain rfl:k=n:=by omega
    have HX:=Ja (show decide (u=v)=true by rw[hdd,Ed (by omega),Ed (by omega)];simp);clear hdd;go_wp2;go_ret;exact⟨by rw[HX.out];rfl,hb⟩
 ·have HN:=Ja (show decide (u=v)=false by rw[EI];intro h;subst h;omega);have hne:¬ ((n:Int)=(m:Int)):=by omega
  go_enter func80,ntmps80;go_wp2
  all_goals first
   | (exfalso;omega)
   | (go_ret;exact⟨by rw[HN.out];rfl,Ec _ _⟩)
end
section
theorem JcN {P:Program} {ops:Array Oper} {Q:Exit->Act->World->Prop} {md:Region.Mode} {i d:Nat} {oi:Oper} {v:Value} {fuel:Nat} {listed:Array Bool} {a:Act} {w:World} (hi:ops[i]?=some oi) (hd:oi.dst=some d)
  (hs:Region.noSelect ops=true) (hf:Region.free md ops listed i=true) (hr:(Region.ready md ops listed).contains i=true)
  (hQ:∀c a w,Q (.panic c) (a.put oi.dst v) w->Q (.panic c) a w) (hy:Yields P ops oi v a)
  (h:wpAny P md ops Q fuel (listed.setIfInBounds i true) { tmps:=a.tmps.setIfInBounds d v,defers:=a.defers } w):wpAny P md ops Q (fuel+1) listed a w:=
 Fs hi hs hf hr hQ hy (by rw[hd];exact h)
theorem pY {P:Program} {ops:Array Oper} {Q:Exit->Act->World->Prop} {md:Region.Mode} (i d:Nat) (v:Value) {oi:Oper} {fuel:Nat} {listed:Array Bool} {a:Act} {w:World} (hy:∀w,(execOp a.eval oi).run P w=.ok (.value v) w)
  (h:wpAny P md ops Q fuel (listed.setIfInBounds i true) { tmps:=a.tmps.setIfInBounds d v,defers:=a.defers } w) (hi:ops[i]?=some oi:=by exact rfl) (hd:oi.dst=some d:=by exact rfl) (hs:Region.noSelect ops=true:=by kernel_rfl) (hf:Region.free md ops listed i=true:=by kernel_rfl) (hr:(Region.ready md ops listed).contains i=true:=by kernel_rfl)
  (hQ:∀c a w,Q (.panic c) (a.put oi.dst v) w->Q (.panic c) a w:=by exact fun _ _ _ h=>h) (hw:Region.wanted oi (yielded ops a.tmps)=true:=by kernel_rfl):wpAny P md ops Q (fuel+1) listed a w:=JcN hi hd hs hf hr hQ (Or.inl ⟨hw,hy⟩) h
theorem pN {P:Program} {ops:Array Oper} {Q:Exit->Act->World->Prop} {md:Region.Mode} (i d:Nat) {oi:Oper} {fuel:Nat} {listed:Array Bool} {a:Act} {w:World}
  (h:wpAny P md ops Q fuel (listed.setIfInBounds i true) { tmps:=a.tmps.setIfInBounds d undef,defers:=a.defers } w) (hi:ops[i]?=some oi:=by exact rfl) (hd:oi.dst=some d:=by exact rfl) (hs:Region.noSelect ops=true:=by kernel_rfl) (hf:Region.free md ops listed i=true:=by kernel_rfl) (hr:(Region.ready md ops listed).contains i=true:=by kernel_rfl)
  (hQ:∀c a w,Q (.panic c) (a.put oi.dst undef) w->Q (.panic c) a w:=by exact fun _ _ _ h=>h) (hw:Region.wanted oi (yielded ops a.tmps)=false:=by kernel_rfl):wpAny P md ops Q (fuel+1) listed a w:=JcN hi hd hs hf hr hQ (Or.inr ⟨hw,rfl⟩) h
def Ze (v:List Vc.St) (k:Nat):Int:=if h:k≠0/\k - 1 < v.length then (v[k - 1]'h.2).2 else -1
theorem Jhy (v:List Vc.St) (k:Nat) (h:k < v.length):Ze v (k+1)=v[k].2:=by
 unfold Ze;rw[dif_pos ⟨by omega,by simpa using h⟩];simp
theorem Xo (A:OA) (n c:Nat) (v:List Vc.St) (w:World) (hl:v.length=n) (hR:Rd w w.heap.size 2 A n c (sv v)):
  Calls prog 84 #[.slice A n c] w fun e w'=>e=.returned (.bool (fm (-1) v))/\Bz w w':=by
 have hmax:n<=9223372036854775807:=by have h1:=hR.cap;have h2:=hR.max;unfold maxLen at h2;omega
 go_enter func84,ntmps84;go_wp2;go_loopw [3] (fun i wr=>∃(k:Nat),k<=n/\i=.int .i64 k/\fm (-1) v=fm (Ze v k) (v.drop k)/\Bz w wr) (fun i _=>n - (intOf i).toNat)
 case atStart=>exact⟨0,by omega,rfl,rfl,Ec _ _⟩
 case round=>
  obtain⟨k,hk,rfl,hfm,hb⟩:=hrel;by_cases hlt:k < n
  ·have hkv:k < v.length:=by omega
   have hRb:=hR.below hb;obtain⟨b,o,rfl,hab,h0,h1⟩:=hRb.stamp hl hlt;have HF:=Ja (hfm.trans (JiE (Ze v k) v k hkv));have HA:=Ja (Jhy v k hkv);generalize hs1:(v[k]'hkv).1=sc at h0;generalize hs2:(v[k]'hkv).2=sn at h1;have HE:=Ja (show v[k]'hkv=(sc,sn) by rw[<-hs1,<-hs2]);have HB:=Ja hb;have HX0:=Ja (show fm (-1) v=(Vc.right (sc,sn) && (decide (Ze v k < sn) && fm (Ze v (k+1)) (v.drop (k+1)))) by
    have h3:=HF.out;have h4:=HA.out;rw[HE.out] at h3 h4;rw[h4];exact h3)
   have hRt:=Ym sc sn;have HRI:=Ja (Vc.JT (sc,sn));have q0:(World.drew wr).cell? ⟨b,o+k * 2,none⟩=some (.int .i64 sc):=h0;have q1:(World.drew wr).cell? ⟨b,o+k * 2+1,none⟩=some (.int .i64 sn):=h1;clear hs1 hs2 hb hfm HF;rcases hr:Vc.right (sc,sn) with _ | _
   ·have HX:=Ja (show fm (-1) v=false by rw[HX0.out,hr];rfl);rw[hr] at hRt;have HRt:=Ja hRt;clear hr hRt hR hRb HX0;go_wp2;refine NJ (by kernel_rfl) ?_;change wpAny _ _ _ _ _ _ _ (World.drew _);refine pY 0 10 (.slice (some ⟨b,o,none⟩) n c) (fun w=>?_) ?_
    ·go_simp
    refine pY 1 11 (.int .i64 (k:Int)) (fun w=>?_) ?_
    ·go_simp
    refine pY 2 12 (.pointer (some ⟨b,o+k * 2,none⟩)) (fun w=>?_) ?_
    ·go_simp
     try omega
     try (intro h;omega)
    refine Fe (rs:=[3]) (by kernel_rfl) (by simp) ?_;refine EK rfl (fun K hK=>?_) Fa;go_simp;refine hK _ _ ?_;clear hK K;refine Fe (rs:=[4]) (by kernel_rfl) (by simp) ?_;refine EK rfl (fun K hK=>?_) Fa;go_simp;refine Jd (HRt.out _) fun w3 hb3=>?_;refine hK _ _ ?_;clear hK K;refine pY 5 15 (.bool true) (fun w=>?_) ?_
    ·go_simp
    refine pY 6 16 (.bool true) (fun w=>?_) ?_
    ·go_simp
    refine pN 7 17 ?_;simp only[Jq,Jo,Jp];refine pN 8 18 ?_;simp only[Jq,Jo,Jp];refine pN 9 19 ?_;simp only[Jq,Jo,Jp];refine pN 10 20 ?_;simp only[Jq,Jo,Jp];refine pN 11 21 ?_;simp only[Jq,Jo,Jp];refine pN 12 22 ?_;simp only[Jq,Jo,Jp];refine pN 13 23 ?_;simp only[Jq,Jo,Jp];refine pN 14 24 ?_;simp only[Jq,Jo,Jp];refine pN 15 25 ?_;simp only[Jq,Jo,Jp];refine pN 16 26 ?_;simp only[Jq,Jo,Jp];refine pN 17 27 ?_;simp only[Jq,Jo,Jp];refine pN 18 28 ?_;simp only[Jq,Jo,Jp];refine pN 19 29 ?_;simp only[Jq,Jo,Jp];refine pN 20 30 ?_;simp only[Jq,Jo,Jp];refine pN 21 31 ?_;simp only[Jq,Jo,Jp];refine pN 22 32 ?_;simp only[Jq,Jo,Jp];refine pY 23 33 (.bool true) (fun w=>?_) ?_
    ·go_simp
    refine Gz (by kernel_rfl) ?_ _;go_wp2;go_ret;exact⟨by rw[HX.out];rfl,Jg HB.out.drew hb3⟩
   ·have HX1:=Ja (show fm (-1) v=(decide (Ze v k < sn) && fm (Ze v (k+1)) (v.drop (k+1))) by rw[HX0.out,hr];rfl);have hsn:0<=sn:=(HRI.out.1 hr).2.1;have HSN:=Ja hsn;rw[hr] at hRt;have HRt:=Ja hRt;clear hr hRt HX0 hsn;by_cases hk0:k=0
    ·have HX:=Ja (show fm (-1) v=fm (Ze v (k+1)) (v.drop (k+1)) by
      rw[HX1.out];have:decide (Ze v k < sn)=true:=by
       have e:Ze v k=-1:=by unfold Ze;rw[dif_neg (by omega)]
       have:=HSN.out;rw[e];simp;omega
      rw[this];rfl)
     subst hk0;have p0:(World.drew wr).cell? ⟨b,o,none⟩=some (.int .i64 sc):=by simpa using q0
     have p1:(World.drew wr).cell? ⟨b,o+1,none⟩=some (.int .i64 sn):=by simpa using q1
     clear hR hRb HX1 q0 q1 h0 h1;go_wp2;refine NJ (by kernel_rfl) ?_;change wpAny _ _ _ _ _ _ _ (World.drew _);refine pY 0 10 (.slice (some ⟨b,o,none⟩) n c) (fun w=>?_) ?_
     ·go_simp
     refine pY 1 11 (.int .i64 0) (fun w=>?_) ?_
     ·go_simp
     refine pY 2 12 (.pointer (some ⟨b,o,none⟩)) (fun w=>?_) ?_
     ·go_simp
      try omega
      try (intro h;omega)
     refine Fe (rs:=[3]) (by kernel_rfl) (by simp) ?_;refine EK rfl (fun K hK=>?_) Fa;go_simp;refine hK _ _ ?_;clear hK K;refine Fe (rs:=[4]) (by kernel_rfl) (by simp) ?_;refine EK rfl (fun K hK=>?_) Fa;go_simp;refine Jd (HRt.out _) fun w3 hb3=>?_;refine hK _ _ ?_;clear hK K;refine pY 5 15 (.bool false) (fun w=>?_) ?_
     ·go_simp
     refine pY 6 16 (.bool false) (fun w=>?_) ?_
     ·go_simp
     refine pY 7 17 (.int .i64 0) (fun w=>?_) ?_
     ·go_simp
     refine pY 8 18 (.bool false) (fun w=>?_) ?_
     ·go_simp
     refine pY 9 19 (.bool false) (fun w=>?_) ?_
     ·go_simp
     refine pN 10 20 ?_;simp only[Jq,Jo,Jp];refine pN 11 21 ?_;simp only[Jq,Jo,Jp];refine pN 12 22 ?_;simp only[Jq,Jo,Jp];refine pN 13 23 ?_;simp only[Jq,Jo,Jp];refine pN 14 24 ?_;simp only[Jq,Jo,Jp];refine pN 15 25 ?_;simp only[Jq,Jo,Jp];refine pN 16 26 ?_;simp only[Jq,Jo,Jp];refine pN 17 27 ?_;simp only[Jq,Jo,Jp];refine pN 18 28 ?_;simp only[Jq,Jo,Jp];refine pN 19 29 ?_;simp only[Jq,Jo,Jp];refine pN 20 30 ?_;simp only[Jq,Jo,Jp];refine pN 21 31 ?_;simp only[Jq,Jo,Jp];refine pY 22 32 (.bool false) (fun w=>?_) ?_
     ·go_simp
     refine pY 23 33 (.bool false) (fun w=>?_) ?_
     ·go_simp
     refine Gz (by kernel_rfl) ?_ _;go_wp2;go_roundw
     case rel=>exact⟨0+1,by omega,by go_num,HX.out,Jg HB.out.drew hb3⟩
     case measure=>simp[intOf];omega
    ·have hR2:=hRb;obtain⟨b',o',hA2,_,_,hp1⟩:=hR2.stamp hl (show k - 1 < n by omega);injection hA2 with hA2;injection hA2 with hb' ho' _;subst hb' ho';have hah:Ze v k=(v[k - 1]'(by omega)).2:=by unfold Ze;rw[dif_pos ⟨hk0,by omega⟩]
     rw[<-hah] at hp1;generalize Ze v k=sl at hp1 HX1;have q2:(World.drew wr).cell? ⟨b,o+(k - 1) * 2+1,none⟩=some (.int .i64 sl):=hp1;have hw:IntKind.i64.wrap ((k:Int) - 1)=((k - 1:Nat):Int):=by rw[IntKind.wrap_i64];omega
     have hkp:(0:Int) < (k:Int):=by omega
     have hk1:((k - 1:Nat):Int) < (n:Int):=by omega
     clear hR hRb hah hp1 hR2 h0 h1;by_cases hle:sn<=sl
     ·have HX:=Ja (show fm (-1) v=false by
       rw[HX1.out];rw[show decide (sl < sn)=false by simp;omega];rfl)
      clear HX1;go_wp2;refine NJ (by kernel_rfl) ?_;change wpAny _ _ _ _ _ _ _ (World.drew _);refine pY 0 10 (.slice (some ⟨b,o,none⟩) n c) (fun w=>?_) ?_
      ·go_simp
      refine pY 1 11 (.int .i64 (k:Int)) (fun w=>?_) ?_
      ·go_simp
      refine pY 2 12 (.pointer (some ⟨b,o+k * 2,none⟩)) (fun w=>?_) ?_
      ·go_simp
       try omega
       try (intro h;omega)
      refine Fe (rs:=[3]) (by kernel_rfl) (by simp) ?_;refine EK rfl (fun K hK=>?_) Fa;go_simp;refine hK _ _ ?_;clear hK K;refine Fe (rs:=[4]) (by kernel_rfl) (by simp) ?_;refine EK rfl (fun K hK=>?_) Fa;go_simp;refine Jd (HRt.out _) fun w3 hb3=>?_;have hb4:=Jg HB.out.drew hb3;have q4:=(hb3.cell (Ep _ _ q1)).trans q1;have q5:=(hb3.cell (Ep _ _ q2)).trans q2;refine hK _ _ ?_;clear hK K;refine pY 5 15 (.bool false) (fun w=>?_) ?_
      ·go_simp
      refine pY 6 16 (.bool false) (fun w=>?_) ?_
      ·go_simp
      refine pY 7 17 (.int .i64 (k:Int)) (fun w=>?_) ?_
      ·go_simp
      refine pY 8 18 (.bool true) (fun w=>?_) ?_
      ·go_simp
       try omega
       try (intro h;omega)
      refine pY 9 19 (.bool true) (fun w=>?_) ?_
      ·go_simp
      refine pY 10 20 (.slice (some ⟨b,o,none⟩) n c) (fun w=>?_) ?_
      ·go_simp
      refine pY 11 21 (.int .i64 (k:Int)) (fun w=>?_) ?_
      ·go_simp
      refine pY 12 22 (.int .i64 ((k - 1:Nat):Int)) (fun w=>?_) ?_
      ·go_simp
       try omega
       try (intro h;omega)
      refine pY 13 23 (.pointer (some ⟨b,o+(k - 1) * 2,none⟩)) (fun w=>?_) ?_
      ·go_simp
       try omega
       try (intro h;omega)
      refine pY 14 24 (.pointer (some ⟨b,o+(k - 1) * 2+1,none⟩)) (fun w=>?_) ?_
      ·go_simp
      refine pY 16 26 (.slice (some ⟨b,o,none⟩) n c) (fun w=>?_) ?_
      ·go_simp
      refine pY 17 27 (.int .i64 (k:Int)) (fun w=>?_) ?_
      ·go_simp
      refine pY 18 28 (.pointer (some ⟨b,o+k * 2,none⟩)) (fun w=>?_) ?_
      ·go_simp
       try omega
       try (intro h;omega)
      refine pY 19 29 (.pointer (some ⟨b,o+k * 2+1,none⟩)) (fun w=>?_) ?_
      ·go_simp
      refine Fe (rs:=[15,20]) (by kernel_rfl) (by simp) ?_;refine EK rfl (fun K hK=>?_) (EK rfl (fun K hK=>?_) Fa)
      ·go_simp;refine hK _ _ ?_;clear hK K;refine Fe (rs:=[20]) (by kernel_rfl) (by simp) ?_;refine EK rfl (fun K hK=>?_) Fa;go_simp;refine hK _ _ ?_;clear hK K;refine pY 21 31 (.bool true) (fun w=>?_) ?_
       ·go_simp
       refine pY 22 32 (.bool true) (fun w=>?_) ?_
       ·go_simp
       refine pY 23 33 (.bool true) (fun w=>?_) ?_
       ·go_simp
       refine Gz (by kernel_rfl) ?_ _;go_wp2;go_ret;exact⟨by rw[HX.out];rfl,hb4⟩
      ·go_simp;refine hK _ _ ?_;clear hK K;refine Fe (rs:=[15]) (by kernel_rfl) (by simp) ?_;refine EK rfl (fun K hK=>?_) Fa;go_simp;refine hK _ _ ?_;clear hK K;refine pY 21 31 (.bool true) (fun w=>?_) ?_
       ·go_simp
       refine pY 22 32 (.bool true) (fun w=>?_) ?_
       ·go_simp
       refine pY 23 33 (.bool true) (fun w=>?_) ?_
       ·go_simp
       refine Gz (by kernel_rfl) ?_ _;go_wp2;go_ret;exact⟨by rw[HX.out];rfl,hb4⟩
     ·have HX:=Ja (show fm (-1) v=fm (Ze v (k+1)) (v.drop (k+1)) by
       rw[HX1.out];rw[show decide (sl < sn)=true by simp;omega];rfl)
      clear HX1;go_wp2;refine NJ (by kernel_rfl) ?_;change wpAny _ _ _ _ _ _ _ (World.drew _);refine pY 0 10 (.slice (some ⟨b,o,none⟩) n c) (fun w=>?_) ?_
      ·go_simp
      refine pY 1 11 (.int .i64 (k:Int)) (fun w=>?_) ?_
      ·go_simp
      refine pY 2 12 (.pointer (some ⟨b,o+k * 2,none⟩)) (fun w=>?_) ?_
      ·go_simp
       try omega
       try (intro h;omega)
      refine Fe (rs:=[3]) (by kernel_rfl) (by simp) ?_;refine EK rfl (fun K hK=>?_) Fa;go_simp;refine hK _ _ ?_;clear hK K;refine Fe (rs:=[4]) (by kernel_rfl) (by simp) ?_;refine EK rfl (fun K hK=>?_) Fa;go_simp;refine Jd (HRt.out _) fun w3 hb3=>?_;have hb4:=Jg HB.out.drew hb3;have q4:=(hb3.cell (Ep _ _ q1)).trans q1;have q5:=(hb3.cell (Ep _ _ q2)).trans q2;refine hK _ _ ?_;clear hK K;refine pY 5 15 (.bool false) (fun w=>?_) ?_
      ·go_simp
      refine pY 6 16 (.bool false) (fun w=>?_) ?_
      ·go_simp
      refine pY 7 17 (.int .i64 (k:Int)) (fun w=>?_) ?_
      ·go_simp
      refine pY 8 18 (.bool true) (fun w=>?_) ?_
      ·go_simp
       try omega
       try (intro h;omega)
      refine pY 9 19 (.bool true) (fun w=>?_) ?_
      ·go_simp
      refine pY 10 20 (.slice (some ⟨b,o,none⟩) n c) (fun w=>?_) ?_
      ·go_simp
      refine pY 11 21 (.int .i64 (k:Int)) (fun w=>?_) ?_
      ·go_simp
      refine pY 12 22 (.int .i64 ((k - 1:Nat):Int)) (fun w=>?_) ?_
      ·go_simp
       try omega
       try (intro h;omega)
      refine pY 13 23 (.pointer (some ⟨b,o+(k - 1) * 2,none⟩)) (fun w=>?_) ?_
      ·go_simp
       try omega
       try (intro h;omega)
      refine pY 14 24 (.pointer (some ⟨b,o+(k - 1) * 2+1,none⟩)) (fun w=>?_) ?_
      ·go_simp
      refine pY 16 26 (.slice (some ⟨b,o,none⟩) n c) (fun w=>?_) ?_
      ·go_simp
      refine pY 17 27 (.int .i64 (k:Int)) (fun w=>?_) ?_
      ·go_simp
      refine pY 18 28 (.pointer (some ⟨b,o+k * 2,none⟩)) (fun w=>?_) ?_
      ·go_simp
       try omega
       try (intro h;omega)
      refine pY 19 29 (.pointer (some ⟨b,o+k * 2+1,none⟩)) (fun w=>?_) ?_
      ·go_simp
      refine Fe (rs:=[15,20]) (by kernel_rfl) (by simp) ?_;refine EK rfl (fun K hK=>?_) (EK rfl (fun K hK=>?_) Fa)
      ·go_simp;refine hK _ _ ?_;clear hK K;refine Fe (rs:=[20]) (by kernel_rfl) (by simp) ?_;refine EK rfl (fun K hK=>?_) Fa;go_simp;refine hK _ _ ?_;clear hK K;refine pY 21 31 (.bool false) (fun w=>?_) ?_
       ·go_simp
       refine pY 22 32 (.bool false) (fun w=>?_) ?_
       ·go_simp
       refine pY 23 33 (.bool false) (fun w=>?_) ?_
       ·go_simp
       refine Gz (by kernel_rfl) ?_ _;go_wp2;go_roundw
       case rel=>exact⟨k+1,by omega,by go_num,HX.out,hb4⟩
       case measure=>simp[intOf];omega
      ·go_simp;refine hK _ _ ?_;clear hK K;refine Fe (rs:=[15]) (by kernel_rfl) (by simp) ?_;refine EK rfl (fun K hK=>?_) Fa;go_simp;refine hK _ _ ?_;clear hK K;refine pY 21 31 (.bool false) (fun w=>?_) ?_
       ·go_simp
       refine pY 22 32 (.bool false) (fun w=>?_) ?_
       ·go_simp
       refine pY 23 33 (.bool false) (fun w=>?_) ?_
       ·go_simp
       refine Gz (by kernel_rfl) ?_ _;go_wp2;go_roundw
       case rel=>exact⟨k+1,by omega,by go_num,HX.out,hb4⟩
       case measure=>simp[intOf];omega
  ·obtain rfl:k=n:=by omega
   have HX:=Ja (show fm (-1) v=true by rw[hfm,Ed (by omega)];rfl);clear hfm;go_wp2;go_ret;exact⟨Jn (by rw[HX.out]),hb⟩
end
section
end
section
def JbD:Int->List Vc.St->Int
 | l,[]=>l
 | _,t :: r=>JbD t.2 r
theorem JhD (last:Int) (v:List Vc.St) (s:Vc.St):JbD last (v++[s])=s.2:=by
 induction v generalizing last with
 | nil=>rfl
 | cons t r ih=>rw[List.cons_append,JbD,ih]
theorem Jnp (last:Int) (v:List Vc.St) (s:Vc.St):fm last (v++[s])=(fm last v && (Vc.right s && decide (JbD last v < s.2))):=by
 induction v generalizing last with
 | nil=>rw[List.nil_append,fm,fm,fm,JbD,No,Fb]
 | cons t r ih=>rw[List.cons_append,fm,fm,ih,JbD,Bool.and_assoc,Bool.and_assoc]
theorem Jij (f:Nat->Int):∀k,k<=64->fm (-1) (Yj f (Zf f) k)=true/\JbD (-1) (Yj f (Zf f) k) < k:=by
 intro k
 induction k with
 | zero=>intro _;exact⟨rfl,by show JbD (-1) [] < ((0:Nat):Int);decide⟩
 | succ k ih=>
  intro hk;obtain⟨h1,h2⟩:=ih (by omega);by_cases hp:Zf f k=true
  ·rw[Kn f _ k hp,Jnp,h1,JhD];have h0:0 < f k:=by simpa[Zf] using hp
   have hr:Vc.right (f k,(k:Int))=true:=(Vc.JT _).2 ⟨h0,by simp,by simp;omega⟩;rw[hr];exact⟨by simpa using h2,by simp only;omega⟩
  ·rw[Ui f _ k (by simpa using hp)];exact⟨h1,by omega⟩
end
section
theorem JkE {f:Nat->Int} (h0:∀n,0<=f n) (n:Nat):∀k,k<=64->Vc.Jz (Yj f (Zf f) k) n=if n < k then f n else 0:=by
 intro k
 induction k with
 | zero=>intro _;rfl
 | succ k ih=>
  intro hk;have h1:=h0 k;by_cases hp:Zf f k=true
  ·have h2:0 < f k:=by simpa[Zf] using hp
   have hr:Vc.right (f k,(k:Int))=true:=(Vc.JT _).2 ⟨h2,by simp,by simp;omega⟩;rw[Kn f _ k hp,Vc.JaO,ih (by omega),hr];by_cases hn:n < k
   ·rw[Ei hn,Ei (show n < k+1 by omega),Ef];rintro⟨_,_,h⟩;simp only at h;omega
   ·rw[Ef hn];by_cases he:n=k
    ·subst he;rw[Ei ⟨rfl,rfl,rfl⟩,Ei (by omega)]
    ·rw[Ef (by rintro⟨_,_,h⟩;simp only at h;omega),Ef (by omega)]
  ·have hp':Zf f k=false:=by simpa using hp
   have h2:f k=0:=by
    have:¬ 0 < f k:=by simpa[Zf] using hp'
    omega
   rw[Ui f _ k hp',ih (by omega)];by_cases hn:n < k
   ·rw[Ei hn,Ei (by omega)]
   ·rw[Ef hn];by_cases he:n=k
    ·subst he;rw[Ei (by omega),h2]
    ·rw[Ef (by omega)]
theorem Ji8 {f:Nat->Int} (h0:∀n,0<=f n) {n:Nat} (hn:n < 64):Vc.Jz (XM f) n=f n:=by
 rw[XM,JkE h0 n 64 Zl,Ei hn]
theorem Jod (u v:List Vc.St) (n:Nat):jn [u,v] n=max (Vc.Jz u n) (Vc.Jz v n):=by
 have h:=Vc.Qv u n;show max (max 0 (Vc.Jz u n)) (Vc.Jz v n)=_;rw[Int.max_eq_right h]
theorem Jgh (u v:List Vc.St) {n:Nat} (hn:n < 64):Vc.Jz (XM (jn [u,v])) n=max (Vc.Jz u n) (Vc.Jz v n):=by
 rw[Ji8 (JdS _) hn,Jod]
theorem YF (f:Nat->Int):fm (-1) (XM f)=true:=(Jij f 64 Zl).1
end
end Go.Proofs.YtmbeahbgafkjfaaGreatDoor
