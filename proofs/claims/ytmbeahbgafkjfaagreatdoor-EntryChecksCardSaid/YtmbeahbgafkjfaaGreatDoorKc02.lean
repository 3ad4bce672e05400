/- Lemmas for the claim, layer 2. -/
import Derived.Lib.TrailingZeros
import Derived.Test.YtmbeahbgafkjfaaGreatDoorRows
import Derived.Deep.WholeRow
import Derived.WalkSmall
import Derived.Deep.RegionHeld3
import Derived.RangeFuncNested
import Derived.LoopNIn
import Derived.LoopIn
import Derived.Maps.OwnIn
import Derived.Shelf.RegionOpen
import Derived.Test.YtmbeahbgafkjfaaGreatDoorKc00
set_option maxRecDepth 100000
set_option maxHeartbeats 16000000
namespace Go.Proofs.YtmbeahbgafkjfaaGreatDoor.Vc
abbrev St:=Int×Int
def right (s:St):Bool:=decide (0 < s.1) && (decide (0<=s.2) && decide (s.2 < 64))
theorem right_iff (s:St):right s=true↔0 < s.1/\0<=s.2/\s.2 < 64:=by simp[right]
def cnt:List St->Nat->Int
 | [],_=>0
 | s :: r,n=>if right s=true/\s.2=n then s.1 else cnt r n
theorem cnt_nonneg (v:List St) (n:Nat):0<=cnt v n:=by
 induction v with
 | nil=>exact Int.le_refl _
 | cons s r ih=>
  rw[cnt];split
  ·rename_i h;have:=(right_iff s).1 h.1;omega
  ·exact ih
theorem cnt_snoc (v:List St) (s:St) (n:Nat):cnt (v++[s]) n=if cnt v n=0/\right s=true/\s.2=n then s.1 else cnt v n:=by
 induction v with
 | nil=>simp[cnt]
 | cons t r ih=>
  rw[List.cons_append,cnt,cnt];by_cases h:right t=true/\t.2=n
  ·have:=(right_iff t).1 h.1;rw[if_pos h,if_pos h,if_neg (by omega)]
  ·rw[if_neg h,if_neg h,ih]
theorem cnt_far (v:List St) (n:Nat) (h:64<=n):cnt v n=0:=by
 induction v with
 | nil=>rfl
 | cons s r ih=>
  rw[cnt,if_neg,ih];intro hh;have:=(right_iff s).1 hh.1;omega
def mskTo (p:Nat->Bool):Nat->Nat
 | 0=>0
 | k+1=>mskTo p k ||| (if p k then 2 ^ k else 0)
def msk (p:Nat->Bool):Nat:=mskTo p 64
theorem mskTo_bit (p:Nat->Bool) (k n:Nat):(mskTo p k).testBit n=(decide (n < k) && p n):=by
 induction k with
 | zero=>simp[mskTo]
 | succ k ih=>
  rw[mskTo,Nat.testBit_or,ih];by_cases hk:p k=true
  ·rw[if_pos hk,Nat.testBit_two_pow];by_cases hn:n=k
   ·subst hn;simp[hk]
   ·have h1:decide (n < k+1)=decide (n < k):=by simp;omega
    have h2:decide (k=n)=false:=by simp;omega
    rw[h1,h2,Bool.or_false]
  ·rw[if_neg hk,Nat.zero_testBit,Bool.or_false];by_cases hn:n=k
   ·subst hn;simp[hk]
   ·have h1:decide (n < k+1)=decide (n < k):=by simp;omega
    rw[h1]
theorem msk_bit (p:Nat->Bool) (n:Nat):(msk p).testBit n=(decide (n < 64) && p n):=mskTo_bit p 64 n
theorem mskTo_lt (p:Nat->Bool) (k:Nat):mskTo p k < 2 ^ k:=by
 refine Nat.lt_pow_two_of_testBit _ fun i hi=>?_;rw[mskTo_bit];simp;omega
theorem msk_lt (p:Nat->Bool):msk p < 18446744073709551616:=mskTo_lt p 64
theorem msk_eq {p:Nat->Bool} {x:Nat} (hx:x < 2 ^ 64) (h:∀n,n < 64->x.testBit n=p n):x=msk p:=by
 refine Nat.eq_of_testBit_eq fun n=>?_;rw[msk_bit];by_cases hn:n < 64
 ·simp[hn,h n hn]
 ·rw[Nat.testBit_lt_two_pow (Nat.lt_of_lt_of_le hx (Nat.pow_le_pow_right (by omega) (by omega)))];simp[hn]
theorem msk_none:msk (fun _=>false)=0:=(msk_eq (by decide) (by simp)).symm
theorem msk_add (p:Nat->Bool) (k:Nat) (hk:k < 64):msk p ||| 2 ^ k=msk fun n=>p n || decide (n=k):=by
 refine msk_eq ?_ fun n hn=>?_
 ·exact Nat.or_lt_two_pow (msk_lt p) (Nat.pow_lt_pow_right (by omega) hk)
 ·rw[Nat.testBit_or,msk_bit,Nat.testBit_two_pow];simp[hn,eq_comm]
theorem msk_congr {p q:Nat->Bool} (h:∀n,n < 64->p n=q n):msk p=msk q:=msk_eq (msk_lt p) fun n hn=>by rw[msk_bit,h n hn];simp[hn]
theorem msk_ask (p:Nat->Bool) (n:Nat) (hn:n < 64):msk p / 2 ^ n % 2=if p n then 1 else 0:=by
 have h:=msk_bit p n;rw[Nat.testBit_eq_decide_div_mod_eq] at h;by_cases hp:p n=true
 ·rw[if_pos hp];simpa[hn,hp] using h
 ·rw[if_neg hp];have:¬ msk p / 2 ^ n % 2=1:=by simpa[hn,hp] using h
  omega
def nodes (p:Nat->Bool):List Nat:=(List.range 64).filter p
def from_ (p:Nat->Bool) (k:Nat):Nat->Bool:=fun n=>p n && decide (k<=n)
theorem from_zero (p:Nat->Bool):msk (from_ p 0)=msk p:=msk_congr fun n _=>by simp[from_]
theorem and_pred (y n:Nat):(2 ^ n * (2 * y+1)) &&& (2 ^ n * (2 * y+1) - 1)=2 ^ (n+1) * y:=by
 have e1:2 ^ n * (2 * y+1)=2 ^ (n+1) * y+2 ^ n:=by rw[Nat.pow_succ,Nat.mul_add,Nat.mul_one,Nat.mul_assoc]
 have hp:0 < 2 ^ n:=Nat.pow_pos (by omega);have e2:2 ^ n * (2 * y+1) - 1=2 ^ (n+1) * y+(2 ^ n - 1):=by omega
 have hlt:2 ^ n < 2 ^ (n+1):=Nat.pow_lt_pow_right (by omega) (by omega);rw[e2,e1];refine Nat.eq_of_testBit_eq fun j=>?_;rw[Nat.testBit_and,Nat.testBit_two_pow_mul_add _ hlt,Nat.testBit_two_pow_mul_add _ (by omega:2 ^ n - 1 < 2 ^ (n+1))];have e3:=Nat.testBit_two_pow_mul_add y (Nat.pow_pos (by omega):0 < 2 ^ (n+1)) j;rw[Nat.add_zero] at e3;rw[e3];by_cases hj:j < n+1
 ·rw[if_pos hj,if_pos hj,if_pos hj,Nat.testBit_two_pow,Nat.testBit_two_pow_sub_one,Nat.zero_testBit];by_cases hjn:n=j
  ·subst hjn;simp
  ·simp[hjn]
 ·rw[if_neg hj,if_neg hj,if_neg hj,Bool.and_self]
end Go.Proofs.YtmbeahbgafkjfaaGreatDoor.Vc
namespace Go.Proofs.YtmbeahbgafkjfaaGreatDoor.Vc
theorem low_step (p:Nat->Bool) (k:Nat) (h:msk (from_ p k)≠0):
  ∃n,Lib.ctz 64 (msk (from_ p k))=n/\n < 64/\p n=true/\k<=n/\(∀j,k<=j->j < n->p j=false)/\msk (from_ p k) &&& (msk (from_ p k) - 1)=msk (from_ p (n+1)):=by
 have hlt:=msk_lt (from_ p k);obtain⟨y,hy,hn⟩:=Lib.ctzFrom_spec 64 (msk (from_ p k)) (by omega) hlt;have e:Lib.ctz 64 (msk (from_ p k))=Lib.ctzFrom 64 (msk (from_ p k)):=by rw[Lib.ctz,if_neg h]
 have hbit:=fun j=>msk_bit (from_ p k) j;rw[e];generalize Lib.ctzFrom 64 (msk (from_ p k))=n at hy hn;have hb2:∀j,(2 ^ n * (2 * y+1)).testBit j=(if j < n then false else (2 * y+1).testBit (j - n)):=fun j=>by
  have:=Nat.testBit_two_pow_mul_add (2 * y+1) (Nat.pow_pos (by omega):0 < 2 ^ n) j;rw[Nat.add_zero,Nat.zero_testBit] at this;exact this
 have hbn:from_ p k n=true:=by
  have h1:=hbit n;rw[hy,hb2,if_neg (by omega),Nat.sub_self] at h1;have h2:(2 * y+1).testBit 0=true:=by simp[Nat.testBit_zero]
  rw[h2] at h1;simpa[hn] using h1.symm
 have hlow:∀j,j < n->from_ p k j=false:=fun j hj=>by
  have h1:=hbit j;rw[hy,hb2,if_pos hj] at h1;have:j < 64:=by omega
  simpa[this] using h1.symm
 simp only[from_,Bool.and_eq_true,decide_eq_true_eq] at hbn;refine⟨n,rfl,hn,hbn.1,hbn.2,fun j hkj hj=>?_,?_⟩
 ·have:=hlow j hj;simpa[from_,hkj] using this
 ·rw[hy,and_pred];refine msk_eq ?_ fun j hj=>?_
  ·have h1:2 ^ (n+1) * y<=2 ^ n * (2 * y+1):=by
    rw[Nat.pow_succ,Nat.mul_assoc];exact Nat.mul_le_mul_left _ (by omega)
   rw[<-hy] at h1;exact Nat.lt_of_le_of_lt h1 hlt
  ·have h3:=Nat.testBit_two_pow_mul_add y (Nat.pow_pos (by omega):0 < 2 ^ (n+1)) j;rw[Nat.add_zero,Nat.zero_testBit] at h3;rw[h3];have h1:=hbit j;rw[hy,hb2] at h1;simp only[from_,hj,decide_true,Bool.true_and] at h1 ⊢;by_cases hjn:j < n+1
   ·rw[if_pos hjn];have:decide (n+1<=j)=false:=by simp;omega
    rw[this,Bool.and_false]
   ·rw[if_neg hjn];rw[if_neg (by omega)] at h1;have e2:decide (n+1<=j)=true:=by simp;omega
    have e3:decide (k<=j)=true:=by simp;omega
    rw[e2,Bool.and_true];rw[e3,Bool.and_true] at h1;rw[<-h1,show j - n=(j - (n+1))+1 by omega,Nat.testBit_succ];congr 1;omega
theorem none_left (p:Nat->Bool) (k:Nat) (h:msk (from_ p k)=0):∀j,k<=j->j < 64->p j=false:=fun j hk hj=>by
 have:=msk_bit (from_ p k) j;rw[h,Nat.zero_testBit] at this;simp only[from_,hj,decide_true,Bool.true_and] at this;have e:decide (k<=j)=true:=by simpa using hk
 rw[e,Bool.and_true] at this;exact this.symm
def upto (p:Nat->Bool) (k:Nat):List Nat:=(List.range k).filter p
theorem upto_skip (p:Nat->Bool) (k n:Nat) (hk:k<=n) (h:∀j,k<=j->j < n->p j=false):upto p n=upto p k:=by
 induction n with
 | zero=>obtain rfl:k=0:=by omega
         rfl
 | succ n ih=>
  by_cases e:k=n+1
  ·rw[e]
  ·rw[upto,List.range_succ,List.filter_append,List.filter_cons,h n (by omega) (by omega)];have:=ih (by omega) fun j h1 h2=>h j h1 (by omega);simpa[upto] using this
theorem upto_hit (p:Nat->Bool) (k n:Nat) (hk:k<=n) (h:∀j,k<=j->j < n->p j=false) (hn:p n=true):upto p (n+1)=upto p k++[n]:=by
 rw[upto,List.range_succ,List.filter_append,List.filter_cons,hn,<-upto_skip p k n hk h];rfl
theorem upto_len (p:Nat->Bool) (k:Nat):(upto p k).length<=k:=by
 have:=List.length_filter_le p (List.range k)
 rwa [List.length_range] at this
theorem upto_le {p:Nat->Bool} {k m:Nat} (h:k<=m):upto p k <+: upto p m:=by
 induction m with
 | zero=>obtain rfl:k=0:=by omega
         exact List.prefix_refl _
 | succ m ih=>
  by_cases e:k=m+1
  ·rw[e];exact List.prefix_refl _
  ·refine(ih (by omega)).trans ?_;rw[upto,upto,List.range_succ,List.filter_append];exact List.prefix_append _ _
end Go.Proofs.YtmbeahbgafkjfaaGreatDoor.Vc
namespace Go.Proofs.YtmbeahbgafkjfaaGreatDoor
open Go.RowKit
theorem ret_bool {a b:Bool} (h:a=b):Ending.returned (.bool a)=.returned (.bool b):=by rw[h]
theorem right_any (c n:Int) (w:World):Calls Tryz.prog 159 #[.agg #[.int .i64 c,.int .i64 n]] w fun e w'=>e=.returned (.bool (Vc.right (c,n)))/\Below w.heap.size w w':=by
 have hb:∀cs,Below w.heap.size w (w.alloc (.cells cs 28)):=fun _=>Zr.alloc Zl _;by_cases h:0 < c/\0<=n/\n < 64
 ·have HR:=Hz_ ((Vc.right_iff (c,n)).2 h);obtain⟨h1,h2,h3⟩:=h;go_enter Tryz.func159,Tryz.ntmps159;go_wp2;go_ret;exact⟨by rw[HR.out];rfl,hb _⟩
 ·have hr:Vc.right (c,n)=false:=by
   rcases hh:Vc.right (c,n) with _ | _
   ·rfl
   ·exact absurd ((Vc.right_iff (c,n)).1 hh) h
  have HR:=Hz_ hr;by_cases h1:0 < c
  ·by_cases h2:0<=n
   ·have h3:64<=n:=by omega
    clear h hr;go_enter Tryz.func159,Tryz.ntmps159;go_wp2;go_ret;exact⟨ret_bool (by rw[HR.out];simp;omega),hb _⟩
   ·clear h hr;go_enter Tryz.func159,Tryz.ntmps159;go_wp2;go_ret;exact⟨by rw[HR.out];rfl,hb _⟩
  ·clear h hr;go_enter Tryz.func159,Tryz.ntmps159;go_wp2;go_ret;exact⟨by rw[HR.out];rfl,hb _⟩
theorem refRight_any (c n:Int) (w:World):Calls Tryz.prog 116 #[.agg #[.int .i64 c,.int .i64 n]] w fun e w'=>e=.returned (.bool (Vc.right (c,n)))/\Below w.heap.size w w':=by
 have hb:∀cs,Below w.heap.size w (w.alloc (.cells cs 28)):=fun _=>Zr.alloc Zl _;by_cases h:0 < c/\0<=n/\n < 64
 ·have HR:=Hz_ ((Vc.right_iff (c,n)).2 h);obtain⟨h1,h2,h3⟩:=h;go_enter Tryz.func116,Tryz.ntmps116;go_wp2;go_ret;exact⟨ret_bool (by rw[HR.out];simp;omega),hb _⟩
 ·have hr:Vc.right (c,n)=false:=by
   rcases hh:Vc.right (c,n) with _ | _
   ·rfl
   ·exact absurd ((Vc.right_iff (c,n)).1 hh) h
  have HR:=Hz_ hr;by_cases h1:0 < c
  ·by_cases h2:0<=n
   ·have h3:64<=n:=by omega
    clear h hr;go_enter Tryz.func116,Tryz.ntmps116;go_wp2;go_ret;exact⟨ret_bool (by rw[HR.out];simp;omega),hb _⟩
   ·clear h hr;go_enter Tryz.func116,Tryz.ntmps116;go_wp2;go_ret;exact⟨by rw[HR.out];rfl,hb _⟩
  ·clear h hr;go_enter Tryz.func116,Tryz.ntmps116;go_wp2;go_ret;exact⟨by rw[HR.out];rfl,hb _⟩
def Tab (w:World):Prop:=∀j,j < Lib.deBruijn64tab.length->w.cell? ⟨0,j,none⟩=some (.int .u8 (Lib.deBruijn64tab.getD j 0))
theorem Tab.below {w w':World} (h:Tab w) (hb:Below w.heap.size w w'):Tab w':=fun j hj=>by
 have:=h j hj;rw[hb.cell (World.block_lt_of_cell? _ _ this)];exact this
theorem tz64_key (x a:Nat) (hx:x < 18446744073709551616) (hx0:x≠0) (hlow:x &&& (18446744073709551616 - x)=a):
  IntKind.u64.wrap (bits BinOp.and IntKind.u64 (x:Int) (IntKind.u64.wrap (-(x:Int))) * 285870213051353865) / 288230376151711744=((a * 285870213051353865 % 18446744073709551616 / 288230376151711744:Nat):Int):=by
 have e1:IntKind.u64.wrap (-(x:Int))=((18446744073709551616 - x:Nat):Int):=by rw[IntKind.wrap_u64];omega
 rw[e1,bits_and_u64_nat x _ hx (by omega),hlow,IntKind.wrap_u64];omega
theorem tz64_core (x k idx:Nat) (w:World) (hx0:((x:Int) == 0)=false)
  (key:IntKind.u64.wrap (bits BinOp.and IntKind.u64 (x:Int) (IntKind.u64.wrap (-(x:Int))) * 285870213051353865) / 288230376151711744=(idx:Int))
  (hi:idx < 64) (_hk:k < 64) (hcell:w.cell? ⟨0,idx,none⟩=some (.int .u8 k)):
  Calls Tryz.prog 222 #[.int .u64 x] w fun e w'=>e=.returned (.int .i64 k)/\w=w':=by
 go_enter Tryz.func222,Tryz.ntmps222;go_wp2_with (simp only[key]);go_ret;exact⟨rfl,rfl⟩
theorem tz64_any (x k:Nat) (hx:x < 18446744073709551616) (h0:x≠0) (hk:Lib.ctz 64 x=k) (w:World) (hT:Tab w):
  Calls Tryz.prog 222 #[.int .u64 x] w fun e w'=>e=.returned (.int .i64 k)/\w=w':=by
 obtain⟨hlow,hk'⟩:=Lib.lowest_bit 64 x h0 hx;obtain⟨hi,htab⟩:=Lib.deBruijn64_at _ hk';have hcell:=hT _ hi;rw[htab,hk] at hcell;rw[hk] at hk' hi;rw[hk] at hlow;exact tz64_core x k _ w (beq_eq_false_iff_ne.2 (by omega)) (tz64_key x _ hx h0 hlow) hi hk' hcell
end Go.Proofs.YtmbeahbgafkjfaaGreatDoor
namespace Go.Proofs.YtmbeahbgafkjfaaGreatDoor
open Go.RowKit
def Blk (w:World) (g:Nat) (t:TypeId) (cs:Array Value):Prop:=w.heap[g]?=some (.cells cs t (0,0))
section
variable {w w':World} {g:Nat} {t:TypeId} {cs:Array Value}
theorem Blk.lt (h:Blk w g t cs):g < w.heap.size:=(Array.getElem?_eq_some_iff.1 h).1
theorem Blk.cell (h:Blk w g t cs) (i:Nat):w.cell? ⟨g,i,none⟩=cs[i]?:=cell_of_row w g i cs t (0,0) h
theorem Blk.frozen (h:Blk w g t cs) (i:Nat):w.frozen? ⟨g,i,none⟩=false:=frozen_of_row w g i cs t h
theorem Blk.new (w:World) (t:TypeId) (cs:Array Value):Blk (w.alloc (.cells cs t)) w.heap.size t cs:=heap_alloc_new w _
theorem Blk.alloc (h:Blk w g t cs) (o:Obj):Blk (w.alloc o) g t cs:=(Below.heap_alloc w o g h.lt).trans h
theorem Blk.set_ (h:Blk w g t cs) (i:Nat) (u:Value):Blk (w.setCell ⟨g,i,none⟩ u) g t (cs.setIfInBounds i u):=heap_setCell_same w g i cs t u h
theorem Blk.far (h:Blk w g t cs) {p:Addr} (hp:g≠p.block) (u:Value):Blk (w.setCell p u) g t cs:=(Below.heap_setCell w p u g hp).trans h
theorem Blk.below {B:Nat} (h:Blk w g t cs) (hb:Below B w w') (hg:g < B):Blk w' g t cs:=(hb.block g hg).trans h
theorem Blk.go (h:Blk w g t cs) (hb:Below w.heap.size w w'):Blk w' g t cs:=h.below hb h.lt
end
def sv (v:List Vc.St):List Value:=v.flatMap fun s=>[.int .i64 s.1,.int .i64 s.2]
theorem sv_len (v:List Vc.St):(sv v).length=v.length * 2:=by
 induction v with
 | nil=>rfl
 | cons s r ih=>simp only[sv,List.flatMap_cons,List.length_append,List.length_cons,List.length_nil] at ih ⊢;omega
theorem sv_app (v r:List Vc.St):sv (v++r)=sv v++sv r:=by simp[sv]
theorem sv_split (v:List Vc.St) (k:Nat) (h:k < v.length):sv v=sv (v.take k)++([.int .i64 v[k].1,.int .i64 v[k].2]++sv (v.drop (k+1))):=by
 have e:v.take k++([v[k]]++v.drop (k+1))=v:=by rw[List.singleton_append,<-List.drop_eq_getElem_cons h,List.take_append_drop]
 have:=congrArg sv e;rw[sv_app,sv_app] at this;exact this.symm
theorem sv_at0 (v:List Vc.St) (k:Nat) (h:k < v.length):(sv v)[k * 2]?=some (.int .i64 v[k].1):=by
 have hl:(sv (v.take k)).length=k * 2:=by rw[sv_len,List.length_take,Nat.min_eq_left (by omega)]
 rw[sv_split v k h,List.getElem?_append_right (by omega),hl,Nat.sub_self];rfl
theorem sv_at1 (v:List Vc.St) (k:Nat) (h:k < v.length):(sv v)[k * 2+1]?=some (.int .i64 v[k].2):=by
 have hl:(sv (v.take k)).length=k * 2:=by rw[sv_len,List.length_take,Nat.min_eq_left (by omega)]
 rw[sv_split v k h,List.getElem?_append_right (by omega),hl,Nat.add_sub_cancel_left];rfl
theorem Rd.plain {w:World} {B size n c:Nat} {A:Option Addr} {xs:List Value} (h:Rd w B size A n c xs) (hn:0 < n) (hs:0 < size):
  ∃b o,A=some ⟨b,o,none⟩/\b < B/\∀j u,xs[j]?=some u->w.cell? ⟨b,o+j,none⟩=some u:=by
 obtain⟨ad,rfl,hb,hc⟩:=h.at0 hn;have hx:0 < xs.length:=by rw[h.len];exact Nat.mul_pos hn hs
 have h0:=hc 0 _ (List.getElem?_eq_getElem hx);rw[add_zero_] at h0;obtain⟨b,o,s⟩:=ad;obtain rfl:s=none:=World.cell?_spot h0;refine⟨b,o,rfl,hb,fun j u hu=>?_⟩;have:=hc j u hu
 rwa [show (⟨b,o,none⟩:Addr).add j=⟨b,o+j,none⟩ by unfold Addr.add;split<;>simp_all] at this
theorem Rd.stamp {w:World} {B n c k:Nat} {A:Option Addr} {v:List Vc.St} (h:Rd w B 2 A n c (sv v)) (hl:v.length=n) (hk:k < n):
  ∃b o,A=some ⟨b,o,none⟩/\b < B/\w.cell? ⟨b,o+k * 2,none⟩=some (.int .i64 (v[k]'(by omega)).1)/\w.cell? ⟨b,o+k * 2+1,none⟩=some (.int .i64 (v[k]'(by omega)).2):=by
 obtain⟨b,o,e,hb,hc⟩:=h.plain (by omega) (by omega);exact⟨b,o,e,hb,hc _ _ (sv_at0 v k (by omega)),hc _ _ (sv_at1 v k (by omega))⟩
def c64 (f:Nat->Int):List Value:=(List.range 64).map fun n=>.int .i64 (f n)
def cc (f:Nat->Int) (h:Nat):Array Value:=(c64 f++[Value.int .u64 (h:Int)]).toArray
theorem c64_len (f:Nat->Int):(c64 f).length=64:=by simp[c64]
theorem cc_size (f:Nat->Int) (h:Nat):(cc f h).size=65:=by simp[cc,c64]
theorem cc_at (f:Nat->Int) (h n:Nat) (hn:n < 64):(cc f h)[n]?=some (.int .i64 (f n)):=by
 have hl:n < (c64 f).length:=by rw[c64_len];exact hn
 simp only[cc,List.getElem?_toArray,List.getElem?_append_left hl];simp[c64,hn]
theorem cc_has (f:Nat->Int) (h:Nat):(cc f h)[64]?=some (.int .u64 (h:Int)):=by simp[cc,c64]
def upd (f:Nat->Int) (m:Nat) (x:Int):Nat->Int:=fun n=>if n=m then x else f n
theorem cc_set (f:Nat->Int) (h m:Nat) (x:Int) (hm:m < 64):(cc f h).setIfInBounds m (.int .i64 x)=cc (upd f m x) h:=by
 apply Array.ext_getElem?;intro i;rw[Array.getElem?_setIfInBounds];by_cases hi:i < 64
 ·rw[cc_at (upd f m x) h i hi];by_cases he:m=i
  ·subst he;simp[cc_size,upd];omega
  ·rw[if_neg he,cc_at f h i hi,upd,if_neg (by omega)]
 ·rw[if_neg (by omega)];by_cases h64:i=64
  ·subst h64;rw[cc_has,cc_has]
  ·rw[Array.getElem?_eq_none (by rw[cc_size];omega),Array.getElem?_eq_none (by rw[cc_size];omega)]
theorem cc_sethas (f:Nat->Int) (h h':Nat):(cc f h).setIfInBounds 64 (.int .u64 (h':Int))=cc f h':=by
 apply Array.ext_getElem?;intro i;rw[Array.getElem?_setIfInBounds];by_cases hi:i < 64
 ·rw[if_neg (by omega),cc_at f h i hi,cc_at f h' i hi]
 ·by_cases h64:i=64
  ·subst h64;rw[if_pos rfl,if_pos (by rw[cc_size];omega),cc_has]
  ·rw[if_neg (by omega),Array.getElem?_eq_none (by rw[cc_size];omega),Array.getElem?_eq_none (by rw[cc_size];omega)]
theorem cc_congr {f g:Nat->Int} {h:Nat} (e:∀n,n < 64->f n=g n):cc f h=cc g h:=by
 unfold cc c64;congr 2;exact List.map_congr_left fun n hn=>by rw[e n (by simpa using hn)]
theorem cc_oneCell (f:Nat->Int) (h:Nat):(cc f h).all (·.oneCell')=true:=by
 rw[Array.all_eq_true'];intro x hx;simp only[cc,c64,List.mem_toArray,List.mem_append,List.mem_map,List.mem_singleton] at hx;rcases hx with ⟨n,_,rfl⟩ | rfl<;>rfl
theorem wpList_store_blk {P:Program} {ops:Array Oper} {rest:List Oper} {op:Oper} {a:Act} {w:World} {Q:Exit->Act->World->Prop} (hgd:op.guard=none) (ty:TypeId) (x y:Operand) (ho:op.op=.store ty x y)
  (g:Nat) (t:TypeId) (old cells:Array Value) (hx:a.eval x=.pointer (some ⟨g,0,none⟩)) (hy:a.eval y=.agg cells) (hg:Blk w g t old)
  (hi:(P.info? ty).map (·.size)=some cells.size) (hs:old.size=cells.size) (h1:cells.all (·.oneCell')=true)
  (h:∀w',Blk w' g t cells->w.grownBy w' (some g)->wpList P ops Q rest (a.put op.dst undef) w'):wpList P ops Q (op :: rest) a w:=by
 refine wpList_plain hgd fun K hK=>?_;unfold Oper.wp execOp;simp only[ho,hx,hy,Instr.storeAt,Instr.sureAddr,Sem.run_bind,Sem.run_pure,Result.andThen_ok,run_storeVar_row w g t ty old cells hg hi hs h1];exact hK _ _ (h _ (setRow_heap w g old _ t _ hg) ⟨rfl,rfl,rfl,by simp,fun k _ hk=>setRow_other w g k _ (fun e=>hk (by rw[e]))⟩)
theorem Blk.grown {w w':World} {g:Nat} {t:TypeId} {cs:Array Value} {row:Option Nat} (h:Blk w g t cs) (hg:w.grownBy w' row) (hne:some g≠row):Blk w' g t cs:=(hg.block g h.lt hne).trans h
end Go.Proofs.YtmbeahbgafkjfaaGreatDoor
namespace Go.Proofs.YtmbeahbgafkjfaaGreatDoor
open Go.RowKit
theorem zero_counts:(Tryz.prog.info? 203).map (fun i=>(i.zero,i.size))=some (some (.agg (cc (fun _=>0) 0)),65):=by kernel_rfl
def has_ (f:Nat->Int):Nat:=Vc.msk fun n=>decide (0 < f n)
theorem has_none:has_ (Vc.cnt [])=0:=by
 unfold has_;rw[<-Vc.msk_none];exact Vc.msk_congr fun n _=>by simp[Vc.cnt]
theorem ask_bit (H m:Nat) (hH:H < 18446744073709551616):bits BinOp.and .u64 ((H:Int) / 2 ^ m) 1=((H / 2 ^ m % 2:Nat):Int):=by
 have e:((H:Int) / 2 ^ m)=((H / 2 ^ m:Nat):Int):=by simp
 have hlt:H / 2 ^ m < 18446744073709551616:=Nat.lt_of_le_of_lt (Nat.div_le_self _ _) hH;rw[e];have:=bits_and_u64_nat (H / 2 ^ m) 1 hlt (by omega);rw[Nat.and_one_is_mod] at this;exact this
theorem or_bit (H m:Nat) (hH:H < 18446744073709551616) (hm:m < 64):bits BinOp.or .u64 (H:Int) (IntKind.u64.wrap (2 ^ m))=((H ||| 2 ^ m:Nat):Int):=by
 have h2:2 ^ m < 18446744073709551616:=Nat.pow_lt_pow_right (n:=64) (by omega) hm;have e:IntKind.u64.wrap ((2:Int) ^ m)=((2 ^ m:Nat):Int):=by
  rw[show ((2:Int) ^ m)=((2 ^ m:Nat):Int) by simp];generalize 2 ^ m=q at h2 ⊢;rw[IntKind.wrap_u64];omega
 rw[e];exact bits_or_u64_nat H (2 ^ m) hH h2
theorem take_next (v:List Vc.St) (k:Nat) (h:k < v.length):v.take (k+1)=v.take k++[v[k]]:=by
 rw[List.take_succ_eq_append_getElem h]
theorem cnt_skip (v:List Vc.St) (k:Nat) (sc sn:Int) (h:k < v.length) (h1:v[k].1=sc) (h2:v[k].2=sn) (hr:Vc.right (sc,sn)=false):Vc.cnt (v.take (k+1))=Vc.cnt (v.take k):=by
 funext n
 have e:v[k]=(sc,sn):=by rw[<-h1,<-h2]
 rw[take_next v k h,Vc.cnt_snoc,e,if_neg (by rw[hr];simp)]
theorem cnt_keep (v:List Vc.St) (k:Nat) (m:Nat) (h:k < v.length) (h2:v[k].2=(m:Int)) (hx:Vc.cnt (v.take k) m≠0):Vc.cnt (v.take (k+1))=Vc.cnt (v.take k):=by
 funext n
 rw[take_next v k h,Vc.cnt_snoc,if_neg];rintro⟨c1,_,c3⟩;rw[h2] at c3;obtain rfl:m=n:=by omega
 exact hx c1
theorem cnt_next (v:List Vc.St) (k:Nat) (sc:Int) (m:Nat) (h:k < v.length) (h1:v[k].1=sc) (h2:v[k].2=(m:Int)) (r1:0 < sc) (hm:m < 64) (hx:Vc.cnt (v.take k) m=0):
  (∀n,n < 64->upd (Vc.cnt (v.take k)) m sc n=Vc.cnt (v.take (k+1)) n)/\has_ (Vc.cnt (v.take (k+1)))=has_ (Vc.cnt (v.take k)) ||| 2 ^ m:=by
 have e:v[k]=(sc,(m:Int)):=by rw[<-h1,<-h2]
 have hr:Vc.right (sc,(m:Int))=true:=(Vc.right_iff _).2 ⟨r1,by simp,by simp;omega⟩;have h3:∀n,upd (Vc.cnt (v.take k)) m sc n=Vc.cnt (v.take (k+1)) n:=fun n=>by
  rw[take_next v k h,Vc.cnt_snoc,e,upd];by_cases hn:n=m
  ·subst hn;rw[if_pos rfl,if_pos ⟨hx,hr,rfl⟩]
  ·rw[if_neg hn,if_neg];rintro⟨_,_,c3⟩;simp only at c3;omega
 refine⟨fun n _=>h3 n,?_⟩;unfold has_;rw[Vc.msk_add _ _ hm];refine Vc.msk_congr fun n _=>?_;rw[<-h3 n,upd];by_cases hn:n=m
 ·simp[hn,r1]
 ·simp[hn]
theorem read_any (A:Option Addr) (n c:Nat) (v:List Vc.St) (w:World) (hl:v.length=n) (hR:Rd w w.heap.size 2 A n c (sv v)):
  Calls Tryz.prog 169 #[.slice A n c] w fun e w'=>e=.returned (.agg (cc (Vc.cnt v) (has_ (Vc.cnt v))))/\Below w.heap.size w w':=by
 obtain⟨hz,hi⟩:=zero_of_info zero_counts;have HI:=Hz_ hi;clear hi;have hmax:n<=9223372036854775807:=by have h1:=hR.cap;have h2:=hR.max;unfold maxLen at h2;omega
 go_enter Tryz.func169,Tryz.ntmps169;go_wp2;go_loopw [7] (fun i wr=>∃k:Nat,k<=n/\i=.int .i64 k/\Below w.heap.size w wr/\Blk wr w.heap.size 203 (cc (Vc.cnt (v.take k)) (has_ (Vc.cnt (v.take k))))) (fun i _=>n - (intOf i).toNat)
 case atStart=>
  exact⟨0,by omega,rfl,Zr.alloc Zl _,by rw[show has_ (Vc.cnt (v.take 0))=0 from has_none];exact Blk.new _ _ _⟩
 case round=>
  obtain⟨k,hk,rfl,hb,hblk⟩:=hrel;by_cases hlt:k < n
  ·have hkv:k < v.length:=by omega
   obtain⟨b,o,rfl,hab,h0,h1⟩:=(hR.below hb).stamp hl hlt;generalize hs1:(v[k]'hkv).1=sc at h0;generalize hs2:(v[k]'hkv).2=sn at h1;have HS1:=Hz_ hs1;have HS2:=Hz_ hs2;clear hs1 hs2 hR;have HB:=Hz_ hb;have hB:=hblk.lt;have HK:=Hz_ hblk;clear hb hblk hl;go_wp2_with fail;refine(right_any sc sn _).mono ?_;rintro e w3 ⟨rfl,hb3⟩;have HK3:=Hz_ ((HK.out.alloc (.cells #[.int .i64 sc,.int .i64 sn] 28)).go hb3);have hs3:=Blk.go (Blk.new wr 28 #[.int .i64 sc,.int .i64 sn]) hb3;have g0:=hs3.cell 0;have g1:=hs3.cell 1;rw[show (#[Value.int .i64 sc,Value.int .i64 sn])[0]?=some (.int .i64 sc) from rfl] at g0;rw[show (#[Value.int .i64 sc,Value.int .i64 sn])[1]?=some (.int .i64 sn) from rfl] at g1;have hb4:=btn HB.out (((Below.refl wr.heap.size wr).alloc Zl _).trans (hb3.mono (by simp)));have HB4:=Hz_ hb4;clear hb3 hs3 hb4 HB HK;by_cases hr:Vc.right (sc,sn)=true
   ·obtain⟨r1,r2,r3⟩:=(Vc.right_iff (sc,sn)).1 hr;simp only at r1 r2 r3;obtain⟨m,rfl⟩:=Int.eq_ofNat_of_zero_le r2;obtain⟨H,hH⟩:∃H,H=has_ (Vc.cnt (v.take k)):=⟨_,rfl⟩;have hHlt:H < 18446744073709551616:=by rw[hH];exact Vc.msk_lt _
    have hmk:H / 2 ^ m % 2=if (0:Int) < Vc.cnt (v.take k) m then 1 else 0:=by
     rw[hH];unfold has_;rw[Vc.msk_ask _ _ (by omega)];simp
    rw[<-hH] at HK3;have gh:=HK3.out.cell 64;rw[cc_has] at gh;have gm:=HK3.out.cell m;rw[cc_at _ _ _ (by omega)] at gm;have fm:=HK3.out.frozen m;have fh:=HK3.out.frozen 64;have HH:=Hz_ hH;have hbit:bits BinOp.and .u64 ((H:Int) / 2 ^ m) 1=((H / 2 ^ m % 2:Nat):Int):=ask_bit H m hHlt;generalize hfm:Vc.cnt (v.take k) m=x at gm hmk;have HX:=Hz_ hfm;have HL:=Hz_ hHlt;clear hH hfm hHlt;rw[hr];by_cases hx:0 < x
    ·rw[if_pos hx] at hmk;rw[hmk] at hbit;clear hmk;have HS:=Hz_ (cnt_keep v k m hkv HS2.out (by rw[HX.out];omega));go_wp2;go_roundw
     case rel=>
      refine⟨k+1,by omega,by go_num,HB4.out,?_⟩;rw[HS.out,<-HH.out];exact HK3.out
     case measure=>simp[intOf];omega
    ·rw[if_neg hx] at hmk;rw[hmk] at hbit;clear hmk;have hx0:x=0:=by
      have:=Vc.cnt_nonneg (v.take k) m;rw[HX.out] at this;omega
     have HS:=Hz_ (cnt_next v k sc m hkv HS1.out HS2.out r1 (by omega) (by rw[HX.out];exact hx0));clear hx0;go_wp2;go_roundw
     case rel=>
      refine⟨k+1,by omega,by go_num,(HB4.out.setCell (p:=⟨w.heap.size,m,none⟩) Zl _).setCell (p:=⟨w.heap.size,64,none⟩) Zl _,?_⟩;have h5:=(HK3.out.set_ m (.int .i64 sc)).set_ 64 (.int .u64 ((H ||| 2 ^ m:Nat):Int));rw[cc_set _ _ _ _ (by omega),cc_sethas] at h5;rw[or_bit H m HL.out (by omega)];rw[HH.out] at h5 ⊢;rw[HS.out.2,<-cc_congr HS.out.1];exact h5
     case measure=>simp[intOf];omega
   ·have hr':Vc.right (sc,sn)=false:=by simpa using hr
    have HS:=Hz_ (cnt_skip v k sc sn hkv HS1.out HS2.out hr');clear hr;rw[hr'];go_wp2;go_roundw
    case rel=>
     refine⟨k+1,by omega,by go_num,HB4.out,?_⟩;rw[HS.out];exact HK3.out
    case measure=>simp[intOf];omega
  ·obtain rfl:k=n:=by omega
   have ht:v.take k=v:=List.take_of_length_le (by omega);rw[ht] at hblk;have HK:=Hz_ hblk;have hty:=Tryz.underlying203;clear hR hblk ht hl;go_wp2_with (first
    | (refine wpList_load_row rfl 203 _ rfl w.heap.size rfl 203 _ _ _ HK.out Tryz.underlying203 rfl (by rw[cc_size];exact HI.out) ?_)
    | (refine wpList_store_blk rfl 203 _ _ rfl w.heap.size 203 _ (cc (Vc.cnt v) (has_ (Vc.cnt v))) rfl rfl HK.out (by rw[cc_size];exact HI.out) rfl (cc_oneCell _ _) ?_;intro w4 hk4 hg4))
   refine bodyPost_ret (results_cell_row rfl _ _ w.heap.size 203 _ _ _ rfl hk4 Tryz.underlying203 rfl (by rw[cc_size];exact HI.out)) rfl ⟨rfl,hb.trans (grown_below hg4 hb.size (fun k hk=>by cases hk;exact Nat.le_refl _))⟩
end Go.Proofs.YtmbeahbgafkjfaaGreatDoor
namespace Go.Proofs.YtmbeahbgafkjfaaGreatDoor
open Go.RowKit
def a64 (f:Nat->Int):Array Value:=(c64 f).toArray
theorem a64_size (f:Nat->Int):(a64 f).size=64:=by simp[a64,c64]
theorem a64_at (f:Nat->Int) (n:Nat) (hn:n < 64):(a64 f)[n]?=some (.int .i64 (f n)):=by simp[a64,c64,hn]
theorem a64_set (f:Nat->Int) (m:Nat) (x:Int) (hm:m < 64):(a64 f).setIfInBounds m (.int .i64 x)=a64 (upd f m x):=by
 apply Array.ext_getElem?;intro i;rw[Array.getElem?_setIfInBounds];by_cases hi:i < 64
 ·rw[a64_at (upd f m x) i hi];by_cases he:m=i
  ·subst he;simp[a64_size,upd];omega
  ·rw[if_neg he,a64_at f i hi,upd,if_neg (by omega)]
 ·rw[if_neg (by omega),Array.getElem?_eq_none (by rw[a64_size];omega),Array.getElem?_eq_none (by rw[a64_size];omega)]
theorem a64_congr {f g:Nat->Int} (e:∀n,n < 64->f n=g n):a64 f=a64 g:=by
 unfold a64 c64;congr 1;exact List.map_congr_left fun n hn=>by rw[e n (by simpa using hn)]
theorem a64_oneCell (f:Nat->Int):(a64 f).all (·.oneCell')=true:=by
 rw[Array.all_eq_true'];intro x hx;simp only[a64,c64,List.mem_toArray,List.mem_map] at hx;obtain⟨n,_,rfl⟩:=hx;rfl
theorem zero_array:(Tryz.prog.info? 200).map (fun i=>(i.zero,i.size))=some (some (.agg (a64 (fun _=>0))),64):=by kernel_rfl
theorem cnt_cons_hit (v:List Vc.St) (k:Nat) (sc:Int) (m:Nat) (h:k < v.length) (h1:v[k].1=sc) (h2:v[k].2=(m:Int)) (hr:Vc.right (sc,(m:Int))=true):
  ∀n,upd (Vc.cnt (v.drop (k+1))) m sc n=Vc.cnt (v.drop k) n:=fun n=>by
 have e:v[k]=(sc,(m:Int)):=by rw[<-h1,<-h2]
 rw[List.drop_eq_getElem_cons h,Vc.cnt,e,upd];by_cases hn:n=m
 ·subst hn;rw[if_pos rfl,if_pos ⟨hr,rfl⟩]
 ·rw[if_neg hn,if_neg];rintro⟨_,c⟩;simp only at c;omega
theorem cnt_cons_miss (v:List Vc.St) (k:Nat) (sc sn:Int) (h:k < v.length) (h1:v[k].1=sc) (h2:v[k].2=sn) (hr:Vc.right (sc,sn)=false):
  Vc.cnt (v.drop (k+1))=Vc.cnt (v.drop k):=by
 funext n
 have e:v[k]=(sc,sn):=by rw[<-h1,<-h2]
 rw[List.drop_eq_getElem_cons h,Vc.cnt,e,if_neg (by rw[hr];simp)]
theorem refCounts_any (A:Option Addr) (n c:Nat) (v:List Vc.St) (w:World) (hl:v.length=n) (hR:Rd w w.heap.size 2 A n c (sv v)):
  Calls Tryz.prog 174 #[.slice A n c] w fun e w'=>e=.returned (.agg (a64 (Vc.cnt v)))/\Below w.heap.size w w':=by
 obtain⟨hz,hi⟩:=zero_of_info zero_array;have HI:=Hz_ hi;clear hi;have hmax:n<=9223372036854775807:=by have h1:=hR.cap;have h2:=hR.max;unfold maxLen at h2;omega
 go_enter Tryz.func174,Tryz.ntmps174;go_wp2;go_loopw [4] (fun i wr=>∃j:Nat,j<=n/\i=.int .i64 ((j:Int) - 1)/\Below w.heap.size w wr/\Blk wr w.heap.size 200 (a64 fun _=>0)/\Blk wr (w.heap.size+1) 200 (a64 (Vc.cnt (v.drop j)))) (fun i _=>(intOf i+1).toNat)
 case atStart=>
  refine⟨n,Nat.le_refl _,rfl,(Zr.alloc Zl _).alloc (by simp) _,(Blk.new _ _ _).alloc _,?_⟩;rw[List.drop_of_length_le (by omega)];have:=Blk.new (w.alloc (.cells (a64 fun _=>0) 200)) 200 (a64 fun _=>0);rw[World.size_alloc] at this;exact this
 case round=>
  obtain⟨j,hj,rfl,hb,hz2,hblk⟩:=hrel;rcases j with _ | k
  ·have HK:=Hz_ hblk;have HZ:=Hz_ hz2;clear hR hblk hz2 hl;rw[List.drop_zero] at HK;go_wp2_with (first
    | (refine wpList_load_row rfl 200 _ rfl (w.heap.size+1) rfl 200 _ _ _ HK.out Tryz.underlying200 rfl (by rw[a64_size];exact HI.out) ?_)
    | (refine wpList_store_blk rfl 200 _ _ rfl w.heap.size 200 _ (a64 (Vc.cnt v)) rfl rfl HZ.out (by rw[a64_size];exact HI.out) rfl (a64_oneCell _) ?_;intro w4 hk4 hg4))
   refine bodyPost_ret (results_cell_row rfl _ _ w.heap.size 200 _ _ _ rfl hk4 Tryz.underlying200 rfl (by rw[a64_size];exact HI.out)) rfl ⟨rfl,hb.trans (grown_below hg4 hb.size (fun k hk=>by cases hk;exact Nat.le_refl _))⟩
  ·have hkv:k < v.length:=by omega
   obtain⟨b,o,rfl,hab,h0,h1⟩:=(hR.below hb).stamp hl (k:=k) (by omega);generalize hs1:(v[k]'hkv).1=sc at h0;generalize hs2:(v[k]'hkv).2=sn at h1;have HS1:=Hz_ hs1;have HS2:=Hz_ hs2;clear hs1 hs2 hR;have HB:=Hz_ hb;have hB:=hblk.lt;have HK:=Hz_ hblk;have HZ:=Hz_ hz2;have e1:(((k+1:Nat):Int) - 1)=(k:Int):=by omega
   rw[e1];clear hb hblk hz2 hl e1;go_wp2_with fail;refine(refRight_any sc sn _).mono ?_;rintro e w3 ⟨rfl,hb3⟩;have HK3:=Hz_ (HK.out.go hb3);have HZ3:=Hz_ (HZ.out.go hb3);have HB4:=Hz_ (btn HB.out hb3);have k0:w3.cell? ⟨b,o+k * 2,none⟩=some (.int .i64 sc):=by rw[hb3.cell (p:=⟨b,o+k * 2,none⟩) (by simp only;omega)];exact h0
   have k1:w3.cell? ⟨b,o+k * 2+1,none⟩=some (.int .i64 sn):=by rw[hb3.cell (p:=⟨b,o+k * 2+1,none⟩) (by simp only;omega)];exact h1
   clear hb3 HB HK HZ h0 h1;rcases hr:Vc.right (sc,sn) with _ | _
   ·have HS:=Hz_ (cnt_cons_miss v k sc sn hkv HS1.out HS2.out hr);clear hr;go_wp2;go_roundw
    case rel=>
     refine⟨k,by omega,by go_num,HB4.out,HZ3.out,?_⟩;rw[<-HS.out];exact HK3.out
    case measure=>simp[intOf]
   ·obtain⟨r1,r2,r3⟩:=(Vc.right_iff (sc,sn)).1 hr;simp only at r1 r2 r3;obtain⟨m,rfl⟩:=Int.eq_ofNat_of_zero_le r2;have HS:=Hz_ (cnt_cons_hit v k sc m hkv HS1.out HS2.out hr);clear hr;have gm:=HK3.out.cell m;rw[a64_at _ _ (by omega)] at gm;have fm:=HK3.out.frozen m;go_wp2;go_region;go_wp2;go_roundw
    case rel=>
     refine⟨k,by omega,by go_num,(HB4.out.drew).setCell (p:=⟨w.heap.size+1,m,none⟩) (by simp) _,Blk.far (w:=w3.drew) HZ3.out (by simp) _,?_⟩;have h5:=Blk.set_ (w:=w3.drew) HK3.out m (.int .i64 sc);rw[a64_set _ _ _ (by omega),a64_congr (fun n _=>HS.out n)] at h5;exact h5
    case measure=>simp[intOf]
end Go.Proofs.YtmbeahbgafkjfaaGreatDoor
namespace Go.Proofs.YtmbeahbgafkjfaaGreatDoor
open Go.RowKit
def vecTo (f:Nat->Int) (p:Nat->Bool) (k:Nat):List Vc.St:=(Vc.upto p k).map fun n=>(f n,(n:Int))
def pos (f:Nat->Int):Nat->Bool:=fun n=>decide (0 < f n)
def vec (f:Nat->Int):List Vc.St:=vecTo f (pos f) 64
theorem vecTo_hit (f:Nat->Int) (p:Nat->Bool) (k:Nat) (h:p k=true):vecTo f p (k+1)=vecTo f p k++[(f k,(k:Int))]:=by
 rw[vecTo,Vc.upto_hit p k k Zl (fun j h1 h2=>by omega) h,List.map_append];rfl
theorem vecTo_miss (f:Nat->Int) (p:Nat->Bool) (k:Nat) (h:p k=false):vecTo f p (k+1)=vecTo f p k:=by
 rw[vecTo,Vc.upto_skip p k (k+1) (by omega) (fun j h1 h2=>by obtain rfl:j=k:=by omega
                                                             exact h)];rfl
theorem sv_oneCell (v:List Vc.St):∀u∈sv v,u.oneCell'=true:=by
 intro u hu;simp only[sv,List.mem_flatMap,List.mem_cons,List.not_mem_nil,or_false] at hu;obtain⟨s,_,h | h⟩:=hu<;>subst h<;>rfl
theorem stamp_info:(Tryz.prog.info? 28).map (fun i=>(i.zero,i.size,i.bytes))=some (some (.agg #[.int .i64 0,.int .i64 0]),2,16):=by kernel_rfl
end Go.Proofs.YtmbeahbgafkjfaaGreatDoor
namespace Go.Proofs.YtmbeahbgafkjfaaGreatDoor
open Go.RowKit
theorem vcopy_any (A:Option Addr) (n c:Nat) (xs:List Value) (w:World) (hR:Rd w w.heap.size 2 A n c xs) (h1:∀u∈xs,u.oneCell'=true) (hn:n<=8796093022208):
  Calls Tryz.prog 63 #[.slice A n c] w fun e w'=>∃A' c',e=.returned (.slice A' n c')/\w'.ownsRow w.heap.size 28 2 (.slice A' n c') n xs/\Below w.heap.size w w':=by
 have hmax:=hR.max;have hcap:=hR.cap;obtain⟨i0,hi0,hz0,hz1,hz2⟩:=info_parts stamp_info;have h63:0+n<=maxLen:=by omega
 go_enter Tryz.func63,Tryz.ntmps63;go_wp2_with (at_builtin;go_must (refine wpList_append_rd _ rfl (.tmp 3) (.tmp 4) _ rfl w.heap.size 28 i0 _ 2 16 Tryz.underlying22 hi0 hz0 hz1 hz2 rfl (by decide) (.slice (some ⟨w.heap.size,0,none⟩) 0 0) 0 [] rfl (own_empty w _ _) w.heap.size A n c xs rfl (hR.alloc Zl _) h1 h63 (by omega) (by simp) ?_);intro A' c' w1 hown hg hat);go_ret;exact⟨A',c',rfl,by simpa using hown,(Zr.alloc Zl _).trans (grown_below hg (by simp) (by simp[Value.ownBlock]))⟩
def covB (f g:Nat->Int):Bool:=(List.range 64).all fun n=>decide (g n<=f n)
theorem covB_iff (f g:Nat->Int):covB f g=true↔∀n,n < 64->g n<=f n:=by simp[covB]
theorem covB_false {f g:Nat->Int} {n:Nat} (hn:n < 64) (h:f n < g n):covB f g=false:=by
 rcases hc:covB f g with _ | _
 ·rfl
 ·have:=(covB_iff f g).1 hc n hn;omega
theorem refCovers_any (A D:Option Addr) (n c m d:Nat) (u v:List Vc.St) (w:World) (hl:u.length=n) (hl2:v.length=m) (hR:Rd w w.heap.size 2 A n c (sv u)) (hR2:Rd w w.heap.size 2 D m d (sv v)):
  Calls Tryz.prog 113 #[.slice A n c,.slice D m d] w fun e w'=>e=.returned (.bool (covB (Vc.cnt u) (Vc.cnt v)))/\Below w.heap.size w w':=by
 obtain⟨hz,hi⟩:=zero_of_info zero_array;have HI:=Hz_ hi;have H1:=Hz_ (refCounts_any A n c u w hl hR);have H2:=Hz_ fun (W:World) (hR:Rd W W.heap.size 2 D m d (sv v))=>refCounts_any D m d v W hl2 hR;have HR2:=Hz_ hR2;obtain⟨f,hf⟩:∃f,f=Vc.cnt u:=⟨_,rfl⟩;obtain⟨g,hg⟩:∃g,g=Vc.cnt v:=⟨_,rfl⟩;rw[<-hf,<-hg];rw[<-hf] at H1;rw[<-hg] at H2;clear hi hR hR2 hl hl2 hf hg;go_enter Tryz.func113,Tryz.ntmps113;go_wp2_with fail;refine H1.out.mono ?_;rintro e w1 ⟨rfl,hb1⟩;go_wp2_with fail;refine(H2.out w1 (HR2.out.go hb1)).mono ?_;rintro e w2 ⟨rfl,hb2⟩;have hb:=btn hb1 hb2;have B1:Blk ((w2.alloc (.cells (a64 fun _=>0) 200)).alloc (.cells (a64 fun _=>0) 200)) w2.heap.size 200 (a64 fun _=>0):=(Blk.new _ _ _).alloc _;have B2:Blk ((w2.alloc (.cells (a64 fun _=>0) 200)).alloc (.cells (a64 fun _=>0) 200)) (w2.heap.size+1) 200 (a64 fun _=>0):=by
  have:=Blk.new (w2.alloc (.cells (a64 fun _=>0) 200)) 200 (a64 fun _=>0)
  rwa [World.size_alloc] at this
 have HB1:=Hz_ B1;have HB2:=Hz_ B2;have HB:=Hz_ hb;have hsz:=hb.size;clear B1 B2 hb hb1 hb2 H1 H2 HR2;go_wp2_with (first
  | (refine wpList_store_blk rfl 200 _ _ rfl w2.heap.size 200 _ (a64 f) rfl rfl HB1.out (by rw[a64_size];exact HI.out) rfl (a64_oneCell _) ?_;intro w3 hk3 hg3;have hk4:=HB2.out.grown hg3 (by simp);have HG3:=Hz_ hg3;have HK3:=Hz_ hk3;have HK4:=Hz_ hk4;clear hg3 hk3 hk4)
  | (refine wpList_store_blk rfl 200 _ _ rfl (w2.heap.size+1) 200 _ (a64 g) rfl rfl HK4.out (by rw[a64_size];exact HI.out) rfl (a64_oneCell _) ?_;intro w5 hk5 hg5;have hk6:=HK3.out.grown hg5 (by simp)))
 have hbw:Below w.heap.size w w5:=by
  have h0:Below w.heap.size w ((w2.alloc (.cells (a64 fun _=>0) 200)).alloc (.cells (a64 fun _=>0) 200)):=(HB.out.alloc hsz _).alloc (by simp;omega) _;refine h0.trans ?_;exact(grown_below HG3.out (by simp;omega) (fun k hk=>by cases hk;exact hsz)).trans (grown_below hg5 (by have:=HG3.out.size;simp at this;omega) (fun k hk=>by cases hk;omega))
 clear hg5 HG3 HK3 HK4 HB1 HB2 HB;go_loopw [7] (fun i wr=>∃k:Nat,k<=64/\i=.int .i64 k/\Below w.heap.size w wr/\Blk wr w2.heap.size 200 (a64 f)/\Blk wr (w2.heap.size+1) 200 (a64 g)/\Hid (∀j,j < k->g j<=f j)) (fun i _=>64 - (intOf i).toNat)
 case atStart=>exact⟨0,by omega,rfl,hbw,hk6,hk5,fun j hj=>by omega⟩
 case round=>
  obtain⟨k,hk,rfl,hb,q1,q2,hh⟩:=hrel;clear hbw hk6 hk5;by_cases hlt:k < 64
  ·have g1:=q1.cell k;have g2:=q2.cell k;rw[a64_at _ _ hlt] at g1 g2;generalize hx:f k=x at g1;generalize hy:g k=y at g2;have HX:=Hz_ hx;have HY:=Hz_ hy;have Q1:=Hz_ q1;have Q2:=Hz_ q2;have HB:=Hz_ hb;clear hx hy q1 q2 hb;by_cases hxy:x < y
   ·have HF:=Hz_ (covB_false (f:=f) (g:=g) hlt (by rw[HX.out,HY.out];exact hxy));go_wp2;go_quiet (fail);go_wp2;go_ret;exact⟨by rw[HF.out];rfl,below_drewN HB.out _⟩
   ·go_wp2;go_quiet (fail);go_wp2;go_roundw
    case rel=>
     refine⟨k+1,by omega,by go_num,below_drewN HB.out _,Q1.out,Q2.out,fun j hj=>?_⟩;by_cases hjk:j=k
     ·subst hjk;rw[HX.out,HY.out];omega
     ·exact hh.out j (by omega)
    case measure=>simp[intOf];omega
  ·obtain rfl:k=64:=by omega
   have HF:=Hz_ ((covB_iff f g).2 hh.out);clear q1 q2;go_wp2;go_ret;exact⟨by rw[HF.out];rfl,hb⟩
end Go.Proofs.YtmbeahbgafkjfaaGreatDoor
namespace Go.Proofs.YtmbeahbgafkjfaaGreatDoor
open Go.RowKit
structure RdL (w:World) (B:Nat) (A:Option Addr) (n c:Nat) (vs:List (List Vc.St)):Prop where
 len:vs.length=n
 cap:n<=c
 max:c<=maxLen
 nil:A=none->c=0
 at_:∀k (hk:k < vs.length),∃b o Ak nk ck,A=some ⟨b,o,none⟩/\b < B/\w.cell? ⟨b,o+k,none⟩=some (.slice Ak nk ck)/\vs[k].length=nk/\Rd w B 2 Ak nk ck (sv vs[k])
theorem RdL.below {w w':World} {B n c:Nat} {A:Option Addr} {vs:List (List Vc.St)} (h:RdL w B A n c vs) (hb:Below B w w'):RdL w' B A n c vs:=
 ⟨h.len,h.cap,h.max,h.nil,fun k hk=>by
  obtain⟨b,o,Ak,nk,ck,h1,h2,h3,h4,h5⟩:=h.at_ k hk;exact⟨b,o,Ak,nk,ck,h1,h2,by rw[hb.cell (p:=⟨b,o+k,none⟩) h2];exact h3,h4,h5.below hb⟩⟩
def jn (vs:List (List Vc.St)):Nat->Int:=fun n=>vs.foldl (fun a v=>max a (Vc.cnt v n)) 0
theorem jn_snoc (vs:List (List Vc.St)) (v:List Vc.St) (n:Nat):jn (vs++[v]) n=max (jn vs n) (Vc.cnt v n):=by simp[jn]
theorem take_nextL (vs:List (List Vc.St)) (k:Nat) (h:k < vs.length):vs.take (k+1)=vs.take k++[vs[k]]:=by rw[List.take_succ_eq_append_getElem h]
end Go.Proofs.YtmbeahbgafkjfaaGreatDoor
namespace Go.Proofs.YtmbeahbgafkjfaaGreatDoor
open Go.RowKit
end Go.Proofs.YtmbeahbgafkjfaaGreatDoor
namespace Go.Proofs.YtmbeahbgafkjfaaGreatDoor
open Go.RowKit
theorem RdL.two {w:World} {A D:Option Addr} {n c m d:Nat} {u v:List Vc.St} (hl:u.length=n) (hl2:v.length=m) (hR:Rd w w.heap.size 2 A n c (sv u)) (hR2:Rd w w.heap.size 2 D m d (sv v)) (t:TypeId):
  RdL (w.alloc (.cells #[.slice A n c,.slice D m d] t)) (w.alloc (.cells #[.slice A n c,.slice D m d] t)).heap.size (some ⟨w.heap.size,0,none⟩) 2 2 [u,v]:=by
 have hb:Below w.heap.size w (w.alloc (.cells #[.slice A n c,.slice D m d] t)):=Zr.alloc Zl _;have hB:=Blk.new w t #[.slice A n c,.slice D m d];refine⟨rfl,Nat.le_refl _,by simp[maxLen],(fun h=>by cases h),fun k hk=>?_⟩;rcases k with _ | _ | k
 ·exact⟨w.heap.size,0,A,n,c,rfl,by simp,hB.cell 0,hl,hR.go hb⟩
 ·exact⟨w.heap.size,0,D,m,d,rfl,by simp,hB.cell 1,hl2,hR2.go hb⟩
 ·simp only[List.length_cons,List.length_nil] at hk;omega
def standB (x y:Bool):Int:=if x && y then 0 else if y then 1 else if x then 2 else 3
theorem refCompare_any (A D:Option Addr) (n c m d:Nat) (u v:List Vc.St) (w:World) (hl:u.length=n) (hl2:v.length=m) (hR:Rd w w.heap.size 2 A n c (sv u)) (hR2:Rd w w.heap.size 2 D m d (sv v)):
  Calls Tryz.prog 88 #[.slice A n c,.slice D m d] w fun e w'=>e=.returned (.int .i64 (standB (covB (Vc.cnt u) (Vc.cnt v)) (covB (Vc.cnt v) (Vc.cnt u))))/\Below w.heap.size w w':=by
 have H1:=Hz_ (refCovers_any A D n c m d u v w hl hl2 hR hR2);have H2:=Hz_ fun (W:World) hR hR2=>refCovers_any D A m d n c v u W hl2 hl hR2 hR;have HR:=Hz_ hR;have HR2:=Hz_ hR2;generalize covB (Vc.cnt u) (Vc.cnt v)=x at H1 ⊢;generalize covB (Vc.cnt v) (Vc.cnt u)=y at H2 ⊢;clear hR hR2 hl hl2;go_enter Tryz.func88,Tryz.ntmps88;go_wp2_with fail;refine H1.out.mono ?_;rintro e w1 ⟨rfl,hb1⟩;go_wp2_with fail;refine(H2.out w1 (HR.out.go hb1) (HR2.out.go hb1)).mono ?_;rintro e w2 ⟨rfl,hb2⟩;have hb:=btn hb1 hb2;clear H1 H2 HR HR2 hb1 hb2;cases x<;>cases y
 all_goals
  go_wp2;go_ret;exact⟨rfl,hb⟩
def cntZ (v:List Vc.St) (n:Int):Int:=if 0<=n/\n < 64 then Vc.cnt v n.toNat else 0
theorem refCount_any (A:Option Addr) (n c:Nat) (v:List Vc.St) (x:Int) (w:World) (hl:v.length=n) (hR:Rd w w.heap.size 2 A n c (sv v)):
  Calls Tryz.prog 175 #[.slice A n c,.int .i64 x] w fun e w'=>e=.returned (.int .i64 (cntZ v x))/\Below w.heap.size w w':=by
 by_cases h:0<=x/\x < 64
 ·have HC:=Hz_ (show cntZ v x=Vc.cnt v x.toNat from if_pos h);obtain⟨h1,h2⟩:=h;obtain⟨k,rfl⟩:=Int.eq_ofNat_of_zero_le h1;have H1:=Hz_ (refCounts_any A n c v w hl hR);have hix:∀W,(Instr.index 200 (.agg (a64 (Vc.cnt v))) (.int .i64 (k:Int))).run Tryz.prog W=.ok (.int .i64 (Vc.cnt v k)) W:=by
   intro W;have hk:k < 64:=by omega
   have hk2:0<=(k:Int)/\(k:Int) < ((64:Nat):Int):=by omega
   have hat:=a64_at (Vc.cnt v) k hk;simp[Instr.index,run_underlying Tryz.underlying200,asIntOf,part,hk,hk2,hat,go_sem]
  clear hl hR;go_enter Tryz.func175,Tryz.ntmps175;go_wp2_with (go_at_call 174;go_must (refine H1.out.mono ?_);rintro e w1 ⟨rfl,hb1⟩);go_ret;exact⟨by rw[HC.out];rfl,hb1⟩
 ·have HC:=Hz_ (show cntZ v x=0 from if_neg h);clear hl hR;by_cases h1:x < 0
  ·clear h;go_enter Tryz.func175,Tryz.ntmps175;go_wp2;go_ret;exact⟨by rw[HC.out];rfl,Below.refl _ _⟩
  ·have h2:63 < x:=by omega
   clear h;go_enter Tryz.func175,Tryz.ntmps175;go_wp2;go_ret;exact⟨by rw[HC.out];rfl,Below.refl _ _⟩
end Go.Proofs.YtmbeahbgafkjfaaGreatDoor
namespace Go.Proofs.YtmbeahbgafkjfaaGreatDoor
open Go.RowKit Go.Shelf
attribute [local go_sem] Oper.semAt_some
abbrev Ev (p:Nat->Bool) (val:Nat->Int->Prop):={ x:Nat×Int // x.1 < 64/\p x.1=true/\val x.1 x.2 }
def evs {p:Nat->Bool} {val:Nat->Int->Prop} (x:Ev p val):Array Value:=#[.int .i64 (x.1.1:Int),.int .i64 x.1.2]
def nds {p:Nat->Bool} {val:Nat->Int->Prop} (l:List (Ev p val)):List Nat:=l.map (·.1.1)
theorem nds_snoc {p:Nat->Bool} {val:Nat->Int->Prop} (l:List (Ev p val)) (x:Ev p val):nds (l++[x])=nds l++[x.1.1]:=by simp[nds]
theorem nds_len {p:Nat->Bool} {val:Nat->Int->Prop} (l:List (Ev p val)):(nds l).length=l.length:=by simp[nds]
structure Good (G Bx:Nat) (val:Nat->Int->Prop) (W:World):Prop where
 tab:Tab W
 box:Blk W Bx 248 #[.pointer (some ⟨G,0,none⟩)]
 cnts:∃f h,Blk W G 203 (cc f h)/\∀m,m < 64->val m (f m)
theorem Good.below {G Bx:Nat} {val:Nat->Int->Prop} {W W':World} {n₀:Nat} (h:Good G Bx val W) (hb:Below n₀ W W') (hG:G < n₀) (hB:Bx < n₀) (h0:0 < n₀):Good G Bx val W':=by
 obtain⟨f,c,hf,hv⟩:=h.cnts;refine⟨fun j hj=>?_,h.box.below hb hB,f,c,hf.below hb hG,hv⟩;have:=h.tab j hj;rw[hb.cell (p:=⟨0,j,none⟩) h0];exact this
theorem low_next (r:Nat) (h:r≠0):r &&& (r - 1) < r:=by
 have:r &&& (r - 1)<=r - 1:=Nat.and_le_right;omega
theorem and_bit (r:Nat) (hr:r < 18446744073709551616) (h:r≠0):bits BinOp.and .u64 (r:Int) (IntKind.u64.wrap ((r:Int) - 1))=((r &&& (r - 1):Nat):Int):=by
 have e:IntKind.u64.wrap ((r:Int) - 1)=((r - 1:Nat):Int):=by rw[IntKind.wrap_u64];omega
 rw[e,bits_and_u64_nat r _ hr (by omega)]
theorem each1_in (n:Nat) (hn:1<=n) (l G Bx:Nat) (p:Nat->Bool) (val:Nat->Int->Prop) (J Jx:List (Ev p val)->World->Prop)
  (hY:∀pre (x:Ev p val) W,J pre W->pre.length < 64->YieldAt Fence.wide (n - 1) Tryz.prog l (evs x) W fun e W'=>
   (e=.returned (.bool true)/\J (pre++[x]) W'/\(Good G Bx val W->Good G Bx val W'))\/(e=.returned (.bool false)/\Jx (pre++[x]) W'))
  (W:World) (hg:Good G Bx val W) (hh:W.cell? ⟨G,64,none⟩=some (.int .u64 (Vc.msk p:Int))) (h0:J [] W):
  CallsIn Fence.wide n Tryz.prog 221 #[.func (.yield l) #[] #[],.pointer (some ⟨Bx,0,none⟩)] W fun e W'=>(∃v,e=.returned v) /\
   ((∃ys,nds ys=Vc.upto p 64/\J ys W')\/(∃pre,(nds pre <+: Vc.upto p 64)/\Jx pre W')):=by
 have hbx:=hg.box.cell 0;refine callsIn_of_wp Tryz.func221 rfl trivial ?_ rfl;simp only[Tryz.ntmps221,List.size_toArray,List.length_cons,List.length_nil,Nat.reduceAdd,Nat.reduceSub,Array.replicate_succ,Array.replicate_zero,List.push_toArray,List.append_toArray,List.nil_append,List.cons_append]
 gi_wp2
 rw[<-Vc.from_zero p] at hh;clear hh hbx
 gi_loopw [3] (fun rv wr=>∃(k r:Nat) (pre:List (Ev p val)),rv=.int .u64 (r:Int)/\r=Vc.msk (Vc.from_ p k)/\k<=64/\nds pre=Vc.upto p k/\Good G Bx val wr/\J pre wr)
  (fun rv _=>(intOf rv).toNat)
 case atStart=>exact⟨0,_,[],by rw[<-Vc.from_zero p],rfl,by omega,rfl,hg,h0⟩
 case round=>
  obtain⟨k,r,pre,rfl,hr,hk,hnd,hgd,hJ⟩:=hrel;have hrl:r < 18446744073709551616:=by rw[hr];exact Vc.msk_lt _
  by_cases hr0:r=0
  ·have hnone:=Vc.none_left p k (by rw[<-hr,hr0]);have hend:=Vc.upto_skip p k 64 hk hnone;have HD:=Hz_ (hnd.trans hend.symm);clear hr hnd hnone hend hrl;subst hr0
   gi_wp2
   go_end0;exact⟨⟨_,rfl⟩,.inl ⟨pre,HD.out,hJ⟩⟩
  ·obtain⟨m,hc,hm,hpm,hkm,hskip,hnext⟩:=Vc.low_step p k (by rw[<-hr];exact hr0);rw[<-hr] at hc hnext;obtain⟨f,h,hf,hv⟩:=hgd.cnts;have hit:=Vc.upto_hit p k m hkm hskip hpm;obtain⟨x,hx⟩:∃x:Ev p val,x=⟨(m,f m),hm,hpm,hv m hm⟩:=⟨_,rfl⟩;have hpl:pre.length < 64:=by
    rw[<-nds_len pre,hnd];have:=Vc.upto_len p k;have:k<=m:=hkm;omega
   obtain⟨fn,tmps,assign,body,hy,hR⟩:=hY pre x wr hJ hpl;rw[hx] at hy;dsimp only[evs] at hy;have g1:=hf.cell m;rw[cc_at _ _ _ hm] at g1;have g2:=hgd.box.cell 0;have HT:=Hz_ (tz64_any r m hrl hr0 hc wr hgd.tab);have HND:=Hz_ (show nds (pre++[x])=Vc.upto p (m+1) by rw[nds_snoc,hnd,hit,hx]);have HNX:=Hz_ hnext;have HL:=Hz_ (low_next r hr0);have HB:=Hz_ (and_bit r hrl hr0);have HG:=Hz_ hgd;clear hr hnd hgd hc hnext hskip hpm hit hv hf hx hpl hrl
   gi_wp2_with (refine⟨trivial,?_⟩;gi_at_call 222;refine(callsIn_wide.2 HT.out).mono ?_;rintro e w1 ⟨rfl,rfl⟩)
   refine hR.mono ?_;rintro e W3 (⟨rfl,hJ3,hk3⟩ | ⟨rfl,hJx3⟩)
   ·gi_wp2
    go_roundw
    case rel=>exact⟨m+1,r &&& (r - 1),pre++[x],by rw[<-HB.out],HNX.out,by omega,HND.out,hk3 HG.out,hJ3⟩
    case measure=>
     have h1:=HL.out;have h2:=HB.out;simp only[intOf];rw[h2];omega
   ·gi_wp2
    refine bodyPost_ret (results_none rfl _ _ _) rfl ?_;exact⟨⟨_,rfl⟩,.inr ⟨pre++[x],by rw[HND.out];exact Vc.upto_le (by omega),hJx3⟩⟩
theorem each_stops (n:Nat) (hn:1<=n) (G Bx:Nat) (p:Nat->Bool) (val:Nat->Int->Prop) (w:World) (hg:Good G Bx val w) (hh:w.cell? ⟨G,64,none⟩=some (.int .u64 (Vc.msk p:Int))):
  SeqStopsK Fence.wide n Tryz.prog 221 #[.pointer (some ⟨Bx,0,none⟩)] (evs (p:=p) (val:=val)) (fun W W'=>Good G Bx val W->Good G Bx val W') (fun ys=>nds ys=Vc.upto p 64) (fun pre=>nds pre <+: Vc.upto p 64) 64 w:=by
 intro l J Jx W hW _ _ hY h0;obtain⟨f,h,hf,_⟩:=hg.cnts;have h0':0 < w.heap.size:=World.block_lt_of_cell? _ _ (hg.tab 0 (by decide));exact each1_in n hn l G Bx p val J Jx hY W (hg.below hW hf.lt hg.box.lt h0') ((hW.cell (p:=⟨G,64,none⟩) hf.lt).trans hh) h0
theorem good_t {G Bx:Nat} {val:Nat->Int->Prop} {A B C:World} (h:Good G Bx val A->Good G Bx val B) (k:Good G Bx val B->Good G Bx val C):Good G Bx val A->Good G Bx val C:=fun g=>k (h g)
theorem good_b {G Bx:Nat} {val:Nat->Int->Prop} {w:World} (hG:G < w.heap.size) (hB:Bx < w.heap.size) (h0:0 < w.heap.size) (W:World) (l:Nat) (o o':Obj) (hl:w.heap.size<=l) (h:W.heap[l]?=some o) (_:o.isCells=false) (_:o.isWalk=false):Good G Bx val W->Good G Bx val (W.putObj l o'):=fun g=>
 g.below (belowK_b Zl W l o o' hl h ‹_› ‹_›) hG hB h0
theorem each_any (a:Addr) (w:World):Calls Tryz.prog 203 #[.pointer (some a)] w fun e w'=>
  e=.returned (.func (.func 221) #[] #[.pointer (some ⟨w.heap.size,0,none⟩)])/\w'=w.alloc (.cells #[.pointer (some a)] 248):=by
 go_enter Tryz.func203,Tryz.ntmps203;go_wp2;go_ret;exact⟨rfl,rfl⟩
theorem all_any (A:Option Addr) (n c:Nat) (v:List Vc.St) (w:World) (hl:v.length=n) (hR:Rd w w.heap.size 2 A n c (sv v)):
  Calls Tryz.prog 170 #[.slice A n c] w fun e w'=>∃G Bx,e=.returned (.func (.func 221) #[] #[.pointer (some ⟨Bx,0,none⟩)]) /\
   Blk w' G 203 (cc (Vc.cnt v) (has_ (Vc.cnt v)))/\Blk w' Bx 248 #[.pointer (some ⟨G,0,none⟩)]/\w.heap.size<=G/\w.heap.size<=Bx/\Below w.heap.size w w':=by
 obtain⟨hz,hi⟩:=zero_of_info zero_counts;have HI:=Hz_ hi;have H1:=Hz_ (read_any A n c v w hl hR);obtain⟨f,hf⟩:∃f,f=Vc.cnt v:=⟨_,rfl⟩;rw[<-hf] at H1 ⊢;obtain⟨hh,hhe⟩:∃hh,hh=has_ f:=⟨_,rfl⟩;rw[<-hhe] at H1 ⊢;clear hi hR hl hf hhe;go_enter Tryz.func170,Tryz.ntmps170;go_wp2_with fail;refine H1.out.mono ?_;rintro e w1 ⟨rfl,hb1⟩;have HN:=Hz_ (Blk.new w1 203 (cc (fun _=>0) 0));have hs1:=hb1.size;clear H1;go_wp2_with (refine wpList_store_blk rfl 203 _ _ rfl w1.heap.size 203 _ (cc f hh) rfl rfl HN.out (by rw[cc_size];exact HI.out) rfl (cc_oneCell _ _) ?_;intro w3 hk3 hg3);refine(each_any _ w3).mono ?_;rintro e w4 ⟨rfl,rfl⟩;have hb3:Below w.heap.size w w3:=(hb1.alloc hs1 _).trans (grown_below hg3 (by simp;omega) (fun k hk=>by cases hk;omega));have hb4:Below w.heap.size w (w3.alloc (.cells #[.pointer (some ⟨w1.heap.size,0,none⟩)] 248)):=hb3.alloc hb3.size _;have hB:=Blk.new w3 248 #[.pointer (some ⟨w1.heap.size,0,none⟩)];have hs3:=hb3.size;clear hg3 HN hb1;go_wp2;go_ret;exact⟨_,_,rfl,hk3.alloc _,hB,hs1,hs3,hb4⟩
end Go.Proofs.YtmbeahbgafkjfaaGreatDoor
namespace Go.Proofs.YtmbeahbgafkjfaaGreatDoor
open Go.RowKit Go.Shelf
attribute [local go_sem] Oper.semAt_some
theorem Blk.not_row {W:World} {B:Nat} {t e:TypeId} {cs:Array Value} (h:Blk W B t cs) (hte:t≠e) {base size k:Nat} {v:Value} {xs:List Value} (hr:W.ownsRow base e size v k xs):some B≠v.ownBlock:=by
 rcases hr.2 with ⟨rfl,_⟩ | ⟨g,cap,cur,rfl,_,hgb,_⟩
 ·simp[Value.ownBlock]
 ·intro e';obtain rfl:B=g:=by simpa[Value.ownBlock] using e'
  rw[show W.heap[B]?=_ from h] at hgb;injection hgb with hgb;injection hgb with _ h2;exact hte h2
theorem Good.grown {G Bx:Nat} {val:Nat->Int->Prop} {W W':World} {row:Option Nat} (h:Good G Bx val W) (hg:W.grownBy W' row) (h1:some G≠row) (h2:some Bx≠row) (h0:some 0≠row):Good G Bx val W':=by
 obtain⟨f,c,hf,hv⟩:=h.cnts;refine⟨fun j hj=>?_,h.box.grown hg h2,f,c,hf.grown hg h1,hv⟩;have:=h.tab j hj;rw[World.cell?_of_block (hg.block 0 (World.block_lt_of_cell? _ _ this) h0)];exact this
theorem Good.alloc {G Bx:Nat} {val:Nat->Int->Prop} {W:World} (h:Good G Bx val W) (o:Obj):Good G Bx val (W.alloc o):=h.grown (World.grownBy_alloc W o none) (by simp) (by simp) (by simp)
theorem Good.set_ {G Bx:Nat} {val:Nat->Int->Prop} {W:World} (h:Good G Bx val W) {B:Nat} (u:Value) (h1:G≠B) (h2:Bx≠B) (h0:0≠B):Good G Bx val (W.setCell ⟨B,0,none⟩ u):=
 h.grown (grownBy_setCell' W B u) (fun e=>h1 (by cases e;rfl)) (fun e=>h2 (by cases e;rfl)) (fun e=>h0 (by cases e;rfl))
def come (f:Nat->Int) {p:Nat->Bool} {val:Nat->Int->Prop} (l:List (Ev p val)):List Vc.St:=(nds l).map fun n=>(f n,(n:Int))
theorem come_snoc (f:Nat->Int) {p:Nat->Bool} (l:List (Ev p fun m k=>k=f m)) (x:Ev p fun m k=>k=f m):come f (l++[x])=come f l++[(x.1.2,(x.1.1:Int))]:=by
 have:=x.2.2.2;simp[come,nds_snoc,<-this]
theorem come_all (f:Nat->Int) {p:Nat->Bool} {val:Nat->Int->Prop} (l:List (Ev p val)) (h:nds l=Vc.upto p 64):come f l=vecTo f p 64:=by rw[come,h];rfl
theorem come_len (f:Nat->Int) {p:Nat->Bool} {val:Nat->Int->Prop} (l:List (Ev p val)):(come f l).length=l.length:=by simp[come,nds]
theorem cells_new_at (w:World) (cs:Array Value) (t:TypeId) (j:Nat):(w.alloc (.cells cs t)).cell? ((⟨w.heap.size,0,none⟩:Addr).add j)=cs[j]?:=by
 have hadd:(⟨w.heap.size,0,none⟩:Addr).add j=⟨w.heap.size,j,none⟩:=by unfold Addr.add;split<;>simp_all
 rw[hadd,cell_of_row _ w.heap.size j cs t (0,0) (heap_alloc_new w _)]
theorem list_any (G:Nat) (f:Nat->Int) (p:Nat->Bool) (w:World) (hT:Tab w) (hB:Blk w G 203 (cc f (Vc.msk p))):
  Calls Tryz.prog 205 #[.pointer (some ⟨G,0,none⟩)] w fun e w'=>∃A' c',e=.returned (.slice A' (vecTo f p 64).length c') /\
   w'.ownsRow w.heap.size 28 2 (.slice A' (vecTo f p 64).length c') (vecTo f p 64).length (sv (vecTo f p 64))/\Below w.heap.size w w':=by
 obtain⟨i0,hi,hz0,hz1,hz2⟩:=info_parts stamp_info;have h0lt:0 < w.heap.size:=World.block_lt_of_cell? _ _ (hT 0 (by decide));refine(callsIn_wide (n:=3)).1 ?_;refine callsIn_of_wp_marks Tryz.func205 rfl trivial ?_ rfl;simp only[Tryz.ntmps205,List.size_toArray,List.length_cons,List.length_nil,Nat.reduceAdd,Nat.reduceSub,Array.replicate_succ,Array.replicate_zero,List.push_toArray,List.append_toArray,List.nil_append,List.cons_append]
 gi_wp2_with (refine⟨trivial,?_⟩;gi_at_call 203;refine(callsIn_wide.2 (each_any _ _)).mono ?_;rintro e w' ⟨rfl,rfl⟩)
 have bO:=Boxed.new w 22 (.slice none 0 0);have bN:=Blk.new (w.alloc (.cells #[.slice none 0 0] 22)) 248 #[.pointer (some ⟨G,0,none⟩)];rw[World.size_alloc] at bN;have hB0:Below w.heap.size w ((w.alloc (.cells #[.slice none 0 0] 22)).alloc (.cells #[.pointer (some ⟨G,0,none⟩)] 248)):=((Below.refl _ w).alloc Zl _).alloc (by simp) _;have hBG:=(hB.alloc (.cells #[.slice none 0 0] 22)).alloc (.cells #[.pointer (some ⟨G,0,none⟩)] 248);have hGood:Good G (w.heap.size+1) (fun m k=>k=f m) ((w.alloc (.cells #[.slice none 0 0] 22)).alloc (.cells #[.pointer (some ⟨G,0,none⟩)] 248)):=
  ⟨hT.below hB0,bN,f,_,hBG,fun _ _=>rfl⟩
 have hh:=hBG.cell 64;rw[cc_has] at hh;have hGlt:=hB.lt;refine wpIn_rangeFunc_ownG rfl (by omega) (gf:=221) (lb:=#[.pointer (some ⟨w.heap.size+1,0,none⟩)]) rfl trivial (enters_of Tryz.func221 (by kernel_rfl) rfl)
  (each_stops (3 - 1) (by omega) G (w.heap.size+1) p (fun m k=>k=f m) _ hGood hh) good_t (good_b (by simp;omega) (by simp) (by simp)) Zr (fun _=>rfl)
  (fun pre W=>(∃v,Boxed W w.heap.size 22 v/\W.ownsRow w.heap.size 28 2 v (come f pre).length (sv (come f pre))/\True)/\Below w.heap.size w W)
  (fun _ _ _=>False)
  (OwnFrom.and (Own.from (holdsRow_own w.heap.size w.heap.size 22 28 2 (fun pre=>(come f pre).length) (fun pre=>sv (come f pre)) (fun pre v=>True)) _) (ownFrom_below Zl (by simp;omega)))
  (fun _ _ _ _ _ hs _ _=>hs)
  ⟨⟨_,bO.alloc _,World.ownsRow_nil _ _ _ _,trivial⟩,hB0⟩
  (fun x=>{ tmps:=#[.pointer (some ⟨G,0,none⟩),undef,.slice none 0 0,.pointer (some ⟨w.heap.size,0,none⟩),.int .i64 (x.1.1:Int),.int .i64 x.1.2,.pointer (some ⟨G,0,none⟩),.func (.func 221) #[] #[.pointer (some ⟨w.heap.size+1,0,none⟩)],.int .i64 (x.1.1:Int),.int .i64 x.1.2,undef,undef,undef,undef,undef,undef,undef],defers:=[] }) ?assign ?body ?done ?stop
 case assign=>
  intro l x W K hK;dsimp only[evs]
  gi_wp2
  exact hK
 case body=>
  rintro l pre x W ⟨⟨v,hv,hrow,_⟩,hB⟩ hlt;have hc:=hv.cell;have hpl:(come f pre).length < 64:=by rw[come_len];exact hlt
  gi_wp2_with (gi_at_builtin;go_must (refine wpListIn_append_own _ rfl _ _ 22 rfl w.heap.size 28 i0 _ 2 16 Tryz.underlying22 hi hz0 hz1 hz2 rfl (by decide) _ _ _ rfl (hrow.alloc _) ⟨W.heap.size,0,none⟩ 1 1 [.int .i64 x.1.2,.int .i64 (x.1.1:Int)] rfl rfl (fun j u hu=>by rw[cells_new_at];simpa using hu) (by simp[Value.oneCell']) (by simp[maxLen];omega) (by omega) (by have:=hB.size;simp;omega) ?_);intro v' w1 hown' hgrow _;obtain⟨g',cap',rfl⟩:=ownsRow_succ hown';obtain⟨hv1,hv2,hr2,hk2,hb2⟩:=hv.appended (by decide) hrow hB.size Zl hown' hgrow;have hc1:=hv1.cell;have hf1:=hv1.frozen)
  refine⟨hk2.from _,fun hg=>?_,⟨_,hv2,?own⟩,hB.trans hb2⟩
  ·obtain⟨f',c',h1,_⟩:=hg.cnts;refine((hg.alloc _).grown hgrow (Blk.not_row h1 (by decide) hrow) (Blk.not_row hg.box (by decide) hrow) (fun e=>?_)).set_ _ (by omega) (by omega) (by omega);have:=own_lt hrow _ e.symm;omega
  case own=>
   have e:sv (come f (pre++[x]))=sv (come f pre)++[.int .i64 x.1.2,.int .i64 (x.1.1:Int)]:=by rw[come_snoc,sv_app];rfl
   have e2:(come f (pre++[x])).length=(come f pre).length+1:=by rw[come_snoc,List.length_append];rfl
   show World.ownsRow _ _ _ _ _ _ _;rw[e,e2];exact hr2
 case done=>
  rintro D ys W hD hys ⟨⟨v,hv,hrow,_⟩,hB⟩ hK;have hc:=hv.cell;rw[come_all f ys hys] at hrow
  gi_wp2
  refine⟨by simp,.inl ⟨_,_,rfl,run_takeDeferred hK,?_⟩⟩;obtain⟨A',c',rfl,_⟩:=own_form hrow;exact⟨_,results_tmp rfl _ _ _,A',c',rfl,ownsRow_putObj hrow _ hK rfl,hB.trans (belowK_b (w:=w) Zl W D _ _ (by simp at hD;omega) hK rfl rfl)⟩
 case stop=>
  rintro D c pre W _ _ h _;exact h.elim
end Go.Proofs.YtmbeahbgafkjfaaGreatDoor
namespace Go.Proofs.YtmbeahbgafkjfaaGreatDoor
open Go.RowKit Go.Shelf
attribute [local go_sem] Oper.semAt_some
theorem has_pos (f:Nat->Int):has_ f=Vc.msk (pos f):=rfl
end Go.Proofs.YtmbeahbgafkjfaaGreatDoor
namespace Go.Proofs.YtmbeahbgafkjfaaGreatDoor
open Go.RowKit Go.Shelf
attribute [local go_sem] Oper.semAt_some
theorem Blk.kept_ {W W':World} {row:Option Nat} {g:Nat} {t:TypeId} {cs:Array Value} (h:Blk W g t cs) (hg:W.grownBy W' row) (hr:∀r,row=some r->∃o:Obj,W.heap[r]?=some o/\o.isCells=false):Blk W' g t cs:=
 h.grown hg (fun e'=>by obtain⟨o,ho,hc⟩:=hr g e'.symm;rw[show W.heap[g]?=_ from h] at ho;cases ho;cases hc)
theorem wpListIn_store_blk {F:Fence} {nF:Nat} {P:Program} {ops:Array Oper} {rest:List Oper} {op:Oper} {a:Act} {w:World} {Q:Exit->Act->World->Prop} (hgd:op.guard=none) (ty:TypeId) (x y:Operand) (ho:op.op=.store ty x y)
  (g:Nat) (t:TypeId) (old cells:Array Value) (hx:a.eval x=.pointer (some ⟨g,0,none⟩)) (hy:a.eval y=.agg cells) (hg:Blk w g t old)
  (hi:(P.info? ty).map (·.size)=some cells.size) (hs:old.size=cells.size) (h1:cells.all (·.oneCell')=true)
  (h:∀w',Blk w' g t cells->w.grownBy w' (some g)->wpListIn F nF P ops Q rest (a.put op.dst undef) w'):wpListIn F nF P ops Q (op :: rest) a w:=by
 refine wpListIn_plain hgd fun K hK=>?_;unfold Oper.wpIn;refine⟨by simp[Oper.about,ho],?_⟩;rw[Oper.semAt_plain F _ _ (by rw[ho];intro c hc';cases hc')];simp only[execOp,ho,hx,hy,Instr.storeAt,Instr.sureAddr,Sem.run_bind,Sem.run_pure,Result.andThen_ok,run_storeVar_row w g t ty old cells hg hi hs h1];exact hK _ _ (h _ (setRow_heap w g old _ t _ hg) ⟨rfl,rfl,rfl,by simp,fun k _ hk=>setRow_other w g k _ (fun e=>hk (by rw[e]))⟩)
theorem covers_any (A D:Option Addr) (n c m d:Nat) (u v:List Vc.St) (w:World) (hT:Tab w) (hl:u.length=n) (hl2:v.length=m) (hR:Rd w w.heap.size 2 A n c (sv u)) (hR2:Rd w w.heap.size 2 D m d (sv v)):
  Calls Tryz.prog 109 #[.slice A n c,.slice D m d] w fun e w'=>e=.returned (.bool (covB (Vc.cnt u) (Vc.cnt v)))/\Below w.heap.size w w':=by
 have h0lt:0 < w.heap.size:=World.block_lt_of_cell? _ _ (hT 0 (by decide));obtain⟨hz,hi⟩:=zero_of_info zero_counts;have HI:=Hz_ hi;have H0:=Hz_ fun (W:World) hR=>read_any A n c u W hl hR;have H1:=Hz_ fun (W:World) hR=>all_any D m d v W hl2 hR;have HR:=Hz_ hR;have HR2:=Hz_ hR2;obtain⟨hfa,hha⟩:∃hh,hh=has_ (Vc.cnt u):=⟨_,rfl⟩;rw[<-hha] at H0;obtain⟨f,hf⟩:∃f,f=Vc.cnt u:=⟨_,rfl⟩;rw[<-hf] at H0 ⊢;have HP:=Hz_ (Vc.cnt_nonneg u);rw[<-hf] at HP;obtain⟨g,hg⟩:∃g,g=Vc.cnt v:=⟨_,rfl⟩;rw[<-hg] at H1 ⊢;clear hR hR2 hl hl2 hf hg hi hha;refine(callsIn_wide (n:=3)).1 ?_;refine callsIn_of_wp_marks Tryz.func109 rfl trivial ?_ rfl;simp only[Tryz.ntmps109,List.size_toArray,List.length_cons,List.length_nil,Nat.reduceAdd,Nat.reduceSub,Array.replicate_succ,Array.replicate_zero,List.push_toArray,List.append_toArray,List.nil_append,List.cons_append]
 gi_wp2_with fail
 have hbA:Below w.heap.size w (w.alloc (.cells #[.bool false] 4)):=(Below.refl _ w).alloc Zl _;have bO:=Boxed.new w 4 (.bool false);have hTA:=hT.below hbA;obtain⟨W0,hW0⟩:∃W0,W0=w.alloc (.cells #[.bool false] 4):=⟨_,rfl⟩;have hs0:W0.heap.size=w.heap.size+1:=by rw[hW0];simp
 rw[<-hW0] at bO hbA hTA ⊢;clear hW0;refine⟨trivial,?_⟩;refine(callsIn_wide.2 (H0.out W0 (HR.out.go hbA))).mono ?_;rintro e w1 ⟨rfl,hb1⟩;have hbw1:Below w.heap.size w w1:=btn hbA hb1;have bO1:Boxed w1 w.heap.size 4 (.bool false):=(hb1.block _ (by omega)).trans bO;have hT1:=hTA.below hb1;have hs1:=hb1.size;have HNw:=Hz_ (Blk.new w1 203 (cc (fun _=>0) 0));clear H0 hb1 hbA bO hTA HR
 gi_wp2_with (refine wpListIn_store_blk rfl 203 _ _ rfl w1.heap.size 203 _ (cc f hfa) rfl rfl HNw.out (by rw[cc_size];exact HI.out) rfl (cc_oneCell _ _) ?_;intro w2 hk2 hg2)
 have hb2:Below w1.heap.size w1 w2:=((Below.refl w1.heap.size w1).alloc Zl _).trans (grown_below hg2 (by simp) (fun k hk=>by cases hk;omega));have hbw2:Below w.heap.size w w2:=hbw1.trans (hb2.mono (by omega));have bO2:Boxed w2 w.heap.size 4 (.bool false):=(hb2.block _ (by omega)).trans bO1;have hT2:=hT1.below hb2;have hs2:=hb2.size;have hs2':=hk2.lt;refine⟨trivial,?_⟩;refine(callsIn_wide.2 (H1.out w2 (HR2.out.go hbw2))).mono ?_;rintro e w3 ⟨G,Bx,rfl,hG,hBx,hg1,hb1,hb⟩;have hbw:Below w.heap.size w w3:=btn hbw2 hb;have bO3:Boxed w3 w.heap.size 4 (.bool false):=(hb.block _ (by omega)).trans bO2;have bC3:=hk2.go hb;have hGood:Good G Bx (fun m k=>k=g m) w3:=⟨hT2.below hb,hBx,g,_,hG,fun _ _=>rfl⟩;have hh:=hG.cell 64;rw[cc_has,has_pos] at hh;have hs3:=hb.size;clear H1 HR2 hb hb2 hbw1 hbw2 bO1 bO2 hk2 hT1 hT2 HNw hg2 hz HI
 gi_wp2
 refine wpIn_rangeFunc_ownG rfl (by omega) (gf:=221) (lb:=#[.pointer (some ⟨Bx,0,none⟩)]) rfl trivial (enters_of Tryz.func221 (by kernel_rfl) rfl)
  (each_stops (3 - 1) (by omega) G Bx (pos g) (fun m k=>k=g m) _ hGood hh) good_t (good_b hG.lt hBx.lt (by omega)) Zr (fun _=>rfl)
  (fun pre W=>(Blk W w1.heap.size 203 (cc f hfa)/\Boxed W w.heap.size 4 (.bool false)/\∀j∈nds pre,g j<=f j)/\Below w.heap.size w W)
  (fun c pre W=>(c=.ret/\Boxed W w.heap.size 4 (.bool false)/\covB f g=false)/\Below w.heap.size w W)
  (OwnFrom.and (Own.from (fun s X Y row hs hg hr=>⟨hs.1.kept_ hg hr,boxed_own w.heap.size 4 (fun _=>.bool false) s X Y row hs.2.1 hg hr,hs.2.2⟩) _) (ownFrom_below Zl (by omega)))
  (fun c=>OwnFrom.and (Own.from (fun s X Y row hs hg hr=>⟨hs.1,boxed_own w.heap.size 4 (fun _=>.bool false) s X Y row hs.2.1 hg hr,hs.2.2⟩) _) (ownFrom_below Zl (by omega)))
  ⟨⟨bC3,bO3,fun j hj=>by simp[nds] at hj⟩,hbw⟩
  (fun x=>{ tmps:=#[.slice A n c,.slice D m d,undef,undef,.pointer (some ⟨w.heap.size,0,none⟩),.pointer (some ⟨w1.heap.size,0,none⟩),.int .i64 (x.1.1:Int),.int .i64 x.1.2,.slice A n c,.agg (cc f hfa),.slice D m d,.func (.func 221) #[] #[.pointer (some ⟨Bx,0,none⟩)],.int .i64 (x.1.1:Int),.int .i64 x.1.2,undef,undef,undef,undef,undef,undef],defers:=[] }) ?assign ?body ?done ?stop
 case assign=>
  intro l x W K hK;dsimp only[evs]
  gi_wp2
  exact hK
 case body=>
  rintro l pre x W ⟨⟨hC,hv,hall⟩,hB⟩ hlt;have hj:=x.2.1;have hc:=hv.cell;have hfz:=hv.frozen;have g1:=hC.cell x.1.1;rw[cc_at _ _ _ hj] at g1;have HX:=Hz_ x.2.2.2;have HA:=Hz_ hall;obtain⟨y,hy⟩:∃y,y=f x.1.1:=⟨_,rfl⟩;rw[<-hy] at g1;have HY:=Hz_ hy;clear hall hy
  gi_wp2
  ·rename_i hlt2;refine⟨(KeepsOthers.setCell _ _ _).from _,⟨rfl,hv.set _,covB_false hj ?_⟩,hB.setCell (p:=⟨w.heap.size,0,none⟩) Zl _⟩;rw[<-HY.out,<-HX.out];first | exact hlt2 | simpa using hlt2
  ·rename_i hlt2;refine⟨KeepsFrom.refl _ _,fun hg=>hg,⟨hC,hv,fun i hi=>?_⟩,hB⟩;rw[nds_snoc] at hi;rcases List.mem_append.1 hi with h1 | h1
   ·exact HA.out i h1
   ·rw[show i=x.1.1 by simpa using h1];rw[<-HY.out,<-HX.out]
    first | omega | (have:¬ y < x.1.2:=by simpa using hlt2
                     omega)
 case done=>
  rintro E ys W hD hys ⟨⟨hC,hv,hall⟩,hB⟩ hK;have HX:=Hz_ (show covB f g=true by
   refine(covB_iff f g).2 fun i hi=>?_;rw[hys] at hall;by_cases h:0 < g i
   ·exact hall i (by simp[Vc.upto,pos,hi,h])
   ·have:=HP.out i;omega)
  have hc:=hv.cell;have hfz:=hv.frozen;clear hys hall
  gi_wp2
  have hK':=(KeepsOthers.setCell W ⟨w.heap.size,0,none⟩ (.bool true)).same E _ hK rfl;refine⟨by simp,.inl ⟨_,_,rfl,run_takeDeferred hK',?_⟩⟩;have hc5:=cell_kept (World.cell?_setCell_same' W ⟨w.heap.size,0,none⟩ (.bool true) (by rw[hc];rfl)) (grownBy_putObj' _ E (.deferred none)) (fun r e=>by cases e;exact⟨_,hK',rfl⟩);refine⟨.bool true,?_,by rw[HX.out],(hB.setCell (p:=⟨w.heap.size,0,none⟩) Zl _).trans (belowK_b (w:=w) Zl _ E _ _ (by omega) hK' rfl rfl)⟩;simp[results,Tryz.f109,go_sem,hc5]
 case stop=>
  rintro E c' pre W hD _ ⟨⟨rfl,hv,hcov⟩,hB⟩ hK;have HX:=Hz_ hcov;have hc:=hv.cell;clear hcov
  gi_wp2
  refine⟨by simp,.inl ⟨_,_,rfl,run_takeDeferred hK,?_⟩⟩;have hc5:=cell_kept hc (grownBy_putObj' _ E (.deferred none)) (fun r e=>by cases e;exact⟨_,hK,rfl⟩);refine⟨.bool false,?_,by rw[HX.out],hB.trans (belowK_b (w:=w) Zl W E _ _ (by omega) hK rfl rfl)⟩;simp[results,Tryz.f109,go_sem,hc5]
theorem compare_any (A D:Option Addr) (n c m d:Nat) (u v:List Vc.St) (w:World) (hT:Tab w) (hl:u.length=n) (hl2:v.length=m) (hR:Rd w w.heap.size 2 A n c (sv u)) (hR2:Rd w w.heap.size 2 D m d (sv v)):
  Calls Tryz.prog 95 #[.slice A n c,.slice D m d] w fun e w'=>e=.returned (.int .i64 (standB (covB (Vc.cnt u) (Vc.cnt v)) (covB (Vc.cnt v) (Vc.cnt u))))/\Below w.heap.size w w':=by
 have H1:=Hz_ fun (W:World) hT hR hR2=>covers_any A D n c m d u v W hT hl hl2 hR hR2;have H2:=Hz_ fun (W:World) hT hR hR2=>covers_any D A m d n c v u W hT hl2 hl hR2 hR;have HR:=Hz_ hR;have HR2:=Hz_ hR2;have HT:=Hz_ hT;generalize covB (Vc.cnt u) (Vc.cnt v)=x at H1 ⊢;generalize covB (Vc.cnt v) (Vc.cnt u)=y at H2 ⊢;clear hR hR2 hl hl2 hT;go_enter Tryz.func95,Tryz.ntmps95;go_wp2_with fail;have hbA:Below w.heap.size w (w.alloc (.cells #[.int .i64 3,.int .i64 1,.int .i64 2,.int .i64 0] 195)):=(Below.refl _ w).alloc Zl _;have bO:=Blk.new w 195 #[.int .i64 3,.int .i64 1,.int .i64 2,.int .i64 0];refine(H1.out _ (HT.out.below hbA) (HR.out.go hbA) (HR2.out.go hbA)).mono ?_;rintro e w1 ⟨rfl,hb1⟩;have hb:=btn hbA hb1;have b1:=bO.go hb1;clear hbA bO hb1 H1;cases x
 all_goals
  go_wp2_with fail;refine(H2.out _ (HT.out.below hb) (HR.out.go hb) (HR2.out.go hb)).mono ?_;rintro e w2 ⟨rfl,hb2⟩;have hb':=btn hb hb2;have b2:=b1.go hb2;have c0:=b2.cell 0;have c1:=b2.cell 1;have c2:=b2.cell 2;have c3:=b2.cell 3;clear hb hb2 H2 b1 b2;cases y
  all_goals
   go_wp2;go_ret;exact⟨rfl,hb'⟩
end Go.Proofs.YtmbeahbgafkjfaaGreatDoor
namespace Go.Proofs.YtmbeahbgafkjfaaGreatDoor
open Go.RowKit Go.Shelf
attribute [local go_sem] Oper.semAt_some
theorem blk_own {β:Type} (g:Nat) (t:TypeId) (f:β->Array Value):Own (fun s W=>Blk W g t (f s)):=fun _ _ _ _ hs hg hr=>Blk.kept_ hs hg hr
def Marks (n₀:Nat) (w:World):List Deferred->Prop
 | []=>True
 | d :: ds=>(∃D,d={ target:=.collected D,args:=#[] }/\n₀<=D/\w.heap[D]?=some (.deferred (some []))/\∀d'∈ds,d'≠{ target:=.collected D,args:=#[] })/\Marks n₀ w ds
theorem Marks.lt {n₀:Nat} {w:World}:∀{ds:List Deferred},Marks n₀ w ds->∀D,({ target:=.collected D,args:=#[] }:Deferred)∈ds->D < w.heap.size/\w.heap[D]?=some (.deferred (some []))
 | _ :: _,⟨⟨D',hd,_,hk,_⟩,hm⟩,D,h=>by
  rcases List.mem_cons.1 h with e | h
  ·rw[hd] at e;injection e with e _;injection e with e;subst e;exact⟨(Array.getElem?_eq_some_iff.1 hk).1,hk⟩
  ·exact hm.lt D h
theorem Marks.keep {n₀:Nat} {w w':World} (hk:∀D:Nat,w.heap[D]?=some (.deferred (some []))->n₀<=D->w'.heap[D]?=some (.deferred (some []))):∀{ds:List Deferred},Marks n₀ w ds->Marks n₀ w' ds
 | [],_=>trivial
 | _ :: _,⟨⟨D,hd,hn,h1,h2⟩,hm⟩=>⟨⟨D,hd,hn,hk D h1 hn,h2⟩,hm.keep hk⟩
theorem Marks.below {n₀:Nat} {w w':World} {ds:List Deferred} (h:Marks n₀ w ds) (hb:Below w.heap.size w w'):Marks n₀ w' ds:=
 h.keep fun D hD _=>(hb.block D (Array.getElem?_eq_some_iff.1 hD).1).trans hD
theorem Marks.set_ {n₀:Nat} {w:World} {ds:List Deferred} (h:Marks n₀ w ds) {g:Nat} {t:TypeId} {cs:Array Value} (hg:Blk w g t cs) (i:Nat) (u:Value):Marks n₀ (w.setCell ⟨g,i,none⟩ u) ds:=
 h.keep fun D hD _=>(Below.heap_setCell w ⟨g,i,none⟩ u D (fun e=>by
  subst e;rw[show w.heap[D]?=_ from hg] at hD;cases hD)).trans hD
theorem Marks.push {n₀:Nat} {w w':World} {ds:List Deferred} (h:Marks n₀ w ds) {D:Nat} (hD:w'.heap[D]?=some (.deferred (some []))) (hn:n₀<=D) (hw:w.heap.size<=D) (h':Marks n₀ w' ds):Marks n₀ w' ({ target:=.collected D,args:=#[] } :: ds):=
 ⟨⟨D,rfl,hn,hD,fun d' hd' e=>by subst e;have:=(h.lt D hd').1;omega⟩,h'⟩
theorem marks_ownFrom {β:Type} {n₀ B:Nat} {w₀:World} {ds:List Deferred} (h:Marks n₀ w₀ ds) (hB:w₀.heap.size<=B):OwnFrom B (fun (_:β) W=>Marks n₀ W ds):=
 fun s W W' row hs hg hr=>by
  have hm:∀{ds:List Deferred},(∀D,({ target:=.collected D,args:=#[] }:Deferred)∈ds->D < B)->Marks n₀ W ds->Marks n₀ W' ds:=by
   intro ds
   induction ds with
   | nil=>intro _ _;trivial
   | cons d ds ih=>
    rintro hlt ⟨⟨D,hd,hn,h1,h2⟩,hm⟩;have hDB:=hlt D (by rw[hd];exact List.mem_cons_self ..);exact⟨⟨D,hd,hn,(hg.block D (Array.getElem?_eq_some_iff.1 h1).1 (fun e=>by have:=(hr D e.symm).1;omega)).trans h1,h2⟩,ih (fun D' h'=>hlt D' (List.mem_cons_of_mem _ h')) hm⟩
  exact hm (fun D hD=>by have:=(h.lt D hD).1;omega) hs
theorem leaves_marks {n:Nat} {P:Program} {fn:Func} {tmps:Array Value} {R:Ending->World->Prop} {n₀:Nat} (Φ:World->Prop)
  (hΦ:∀w D,Φ w->n₀<=D->w.heap[D]?=some (.deferred (some []))->Φ (w.putObj D (.deferred none)))
  (hend:∀w,Φ w->LeavesInM Fence.wide n P fn tmps R [] .returning w):∀(ds:List Deferred) (w:World),Marks n₀ w ds->Φ w->LeavesInM Fence.wide n P fn tmps R ds .returning w
 | [],w,_,h=>hend w h
 | d :: ds,w,⟨⟨D,hd,hn,hk,hne⟩,hm⟩,h=>by
  refine⟨by simp,.inl ⟨D,_,by rw[hd],run_takeDeferred hk,?_⟩⟩;refine leaves_marks Φ hΦ hend ds _ ?_ (hΦ w D h hn hk);have hgo:∀{ds:List Deferred},(∀d'∈ds,d'≠({ target:=.collected D,args:=#[] }:Deferred))->Marks n₀ w ds->Marks n₀ (w.putObj D (.deferred none)) ds:=by
   intro ds
   induction ds with
   | nil=>intro _ _;trivial
   | cons d ds ih=>
    rintro hne ⟨⟨D',hd',hn',h1,h2⟩,hm⟩;refine⟨⟨D',hd',hn',?_,h2⟩,ih (fun d' h'=>hne d' (List.mem_cons_of_mem _ h')) hm⟩;have:D'≠D:=fun e=>hne d (List.mem_cons_self ..) (by rw[hd',e]);rw[World.putObj_heap_other (fun e=>this (by first | exact e | exact e.symm))];exact h1
  exact hgo hne hm
def jl (f g:Nat->Int) (l:List Nat):Nat->Int:=fun j=>if j∈l then max (f j) (g j) else f j
theorem jl_nil (f g:Nat->Int):jl f g []=f:=by funext j;simp[jl]
theorem jl_snoc (f g:Nat->Int) (l:List Nat) (m:Nat) (x:Int) (hx:x=max (jl f g l m) (g m)):∀j,upd (jl f g l) m x j=jl f g (l++[m]) j:=fun j=>by
 subst hx;unfold upd jl;by_cases e:j=m
 ·subst e;simp only[if_true,List.mem_append,List.mem_singleton,or_true];split<;>omega
 ·simp[e]
theorem jl_has (f g:Nat->Int) (l:List Nat) (m:Nat) (hm:m < 64) (hg:0 < g m):Vc.msk (pos (jl f g l)) ||| 2 ^ m=Vc.msk (pos (jl f g (l++[m]))):=by
 rw[Vc.msk_add _ _ hm];refine Vc.msk_congr fun j _=>?_;unfold pos jl;by_cases e:j=m
 ·subst e;simp only[List.mem_append,List.mem_singleton,or_true,if_true,decide_true,Bool.or_true];have:0 < max (f j) (g j):=by omega
  simp[this]
 ·simp[e]
theorem jl_all (f g:Nat->Int) (hf:∀n,0<=f n) (hg:∀n,0<=g n):∀j,j < 64->jl f g (Vc.upto (pos g) 64) j=max (f j) (g j):=fun j hj=>by
 unfold jl;have h1:=hf j;have h2:=hg j;by_cases h:0 < g j
 ·rw[if_pos (by simp[Vc.upto,pos,hj,h])]
 ·rw[if_neg (by simp[Vc.upto,pos,h])];omega
theorem jn_nonneg (vs:List (List Vc.St)) (n:Nat):0<=jn vs n:=by
 have:∀a:Int,0<=a->0<=vs.foldl (fun a v=>max a (Vc.cnt v n)) a:=by
  induction vs with
  | nil=>exact fun a h=>h
  | cons x l ih=>exact fun a h=>ih (max a (Vc.cnt x n)) (by omega)
 exact this 0 (by omega)
theorem Good.setc {G Bx:Nat} {val:Nat->Int->Prop} {W:World} (h:Good G Bx val W) {p:Addr} (u:Value) (h1:G≠p.block) (h2:Bx≠p.block) (h0:0≠p.block):Good G Bx val (W.setCell p u):=by
 obtain⟨f,c,hf,hv⟩:=h.cnts;refine⟨fun j hj=>?_,h.box.far h2 u,f,c,hf.far h1 u,hv⟩;rw[World.cell?_setCell_other W p _ u (fun e=>h0 (by rw[e]))];exact h.tab j hj
theorem jl_blk {W:World} {B:Nat} {t:TypeId} {fp f g:Nat->Int} {hp m:Nat} {l l':List Nat} {z:Int} (hC:Blk W B t (cc fp hp)) (hf:fp=jl f g l) (hm:m < 64) (hz:z=max (jl f g l m) (g m))
  (hh:hp ||| 2 ^ m=Vc.msk (pos (jl f g l'))) (hl:l'=l++[m]):
  Blk ((W.setCell ⟨B,m,none⟩ (.int .i64 z)).setCell ⟨B,64,none⟩ (.int .u64 ((hp ||| 2 ^ m:Nat):Int))) B t (cc (jl f g l') (Vc.msk (pos (jl f g l')))):=by
 have h5:=(hC.set_ m (.int .i64 z)).set_ 64 (.int .u64 ((hp ||| 2 ^ m:Nat):Int));rw[cc_set _ _ _ _ hm,cc_sethas,hh,hf,cc_congr (fun j _=>jl_snoc f g l m z hz j),<-hl] at h5;rw[hh];exact h5
theorem join_any (A:Option Addr) (n c:Nat) (vs:List (List Vc.St)) (w:World) (hT:Tab w) (hR:RdL w w.heap.size A n c vs):
  Calls Tryz.prog 180 #[.slice A n c] w fun e w'=>∃A' c',e=.returned (.slice A' (vec (jn vs)).length c') /\
   w'.ownsRow w.heap.size 28 2 (.slice A' (vec (jn vs)).length c') (vec (jn vs)).length (sv (vec (jn vs)))/\Below w.heap.size w w':=by
 have h0lt:0 < w.heap.size:=World.block_lt_of_cell? _ _ (hT 0 (by decide));obtain⟨hz,hi⟩:=zero_of_info zero_counts;have HI:=Hz_ hi;clear hi;have hlen:=hR.len;have hmax:n<=9223372036854775807:=by have h1:=hR.cap;have h2:=hR.max;unfold maxLen at h2;omega
 refine(callsIn_wide (n:=3)).1 ?_;refine callsIn_of_wp_marks Tryz.func180 rfl trivial ?_ rfl;simp only[Tryz.ntmps180,List.size_toArray,List.length_cons,List.length_nil,Nat.reduceAdd,Nat.reduceSub,Array.replicate_succ,Array.replicate_zero,List.push_toArray,List.append_toArray,List.nil_append,List.cons_append]
 gi_wp2
 refine wpIn_loop (fun a' w'=>∃(ds:List Deferred) (i u5 u6 u7 u11 u12 u13 u14 u15 u18 u19 u20 u21 u22 u23 u24 u25 u26 u27 u28 u29 u30 u31 u32 u33 u34:Value),(∃k:Nat,k<=n/\i=.int .i64 k/\Below w.heap.size w w'/\Blk w' w.heap.size 203 (cc (jn (vs.take k)) (Vc.msk (pos (jn (vs.take k)))))/\Marks w.heap.size w' ds) /\
  a'={ tmps:=#[.slice A n c,undef,.slice none 0 0,.pointer (some ⟨w.heap.size,0,none⟩),undef,u5,u6,u7,.slice A n c,.int .i64 (n:Int),i,u11,u12,u13,u14,u15,undef,undef,u18,u19,u20,u21,u22,u23,u24,u25,u26,u27,u28,u29,u30,u31,u32,u33,u34,undef],defers:=ds })
  (fun a' _=>n - (intOf (a'.tmps.getD 10 undef)).toNat) ?atStart ?round
 case atStart=>
  (repeat apply Exists.intro)
  refine⟨?_,rfl⟩;exact⟨0,by omega,rfl,Zr.alloc Zl _,by rw[show Vc.msk (pos (jn (vs.take 0)))=0 from has_none];exact Blk.new _ _ _,trivial⟩
 case round=>
  intro a' wr hinv;obtain⟨ds,i,u5,u6,u7,u11,u12,u13,u14,u15,u18,u19,u20,u21,u22,u23,u24,u25,u26,u27,u28,u29,u30,u31,u32,u33,u34,⟨k,hk,rfl,hb,hblk,hM⟩,rfl⟩:=hinv;dsimp only;by_cases hlt:k < n
  ·have hkv:k < vs.length:=by omega
   obtain⟨b,o,Ak,nk,ck,rfl,hbB,hcell,hvl,hRk⟩:=(hR.below hb).at_ k hkv;have hsz:=hblk.lt;have hTr:=hT.below hb;have H1:=Hz_ (all_any Ak nk ck vs[k] wr hvl (hRk.more hb.size));have HGN:=Hz_ (Vc.cnt_nonneg vs[k]);obtain⟨g,hg⟩:∃g,g=Vc.cnt vs[k]:=⟨_,rfl⟩;rw[<-hg] at H1 HGN;obtain⟨f,hf⟩:∃f,f=jn (vs.take k):=⟨_,rfl⟩;rw[<-hf] at hblk;have HFN:=Hz_ (jn_nonneg (vs.take k));rw[<-hf] at HFN;have HJ:=Hz_ (show ∀j,max (f j) (g j)=jn (vs.take (k+1)) j by intro j;rw[take_nextL vs k hkv,jn_snoc,<-hf,<-hg]);clear hR hRk hvl hg hf
   gi_wp2_with fail
   refine⟨trivial,?_⟩;refine(callsIn_wide.2 H1.out).mono ?_;rintro e w1 ⟨G,Bx,rfl,hG,hBx,hg1,hb1,hb2⟩;have hbw:Below w.heap.size w w1:=btn hb hb2;have bC1:=hblk.go hb2;have hM1:=hM.below hb2;have hGood:Good G Bx (fun m k=>k=g m) w1:=⟨hTr.below hb2,hBx,g,_,hG,fun _ _=>rfl⟩;have hh:=hG.cell 64;rw[cc_has,has_pos] at hh;have hs1:=hb2.size;clear H1 hb hb2 hblk hM hTr
   gi_wp2
   refine wpIn_rangeFunc_ownG rfl (by omega) (gf:=221) (lb:=#[.pointer (some ⟨Bx,0,none⟩)]) rfl trivial (enters_of Tryz.func221 (by kernel_rfl) rfl)
    (each_stops (3 - 1) (by omega) G Bx (pos g) (fun m k=>k=g m) _ hGood hh) good_t (good_b hG.lt hBx.lt (by omega)) Zr (fun _=>rfl)
    (fun pre W=>Blk W w.heap.size 203 (cc (jl f g (nds pre)) (Vc.msk (pos (jl f g (nds pre)))))/\Below w.heap.size w W/\Marks w.heap.size W ds)
    (fun _ _ _=>False)
    (OwnFrom.and (Own.from (blk_own w.heap.size 203 (fun pre=>cc (jl f g (nds pre)) (Vc.msk (pos (jl f g (nds pre)))))) _) (OwnFrom.and (ownFrom_below Zl (by omega)) (marks_ownFrom hM1 Zl)))
    (fun _ _ _ _ _ hs _ _=>hs)
    ⟨by rw[show nds ([]:List (Ev (pos g) fun m k=>k=g m))=[] from rfl,jl_nil];exact bC1,hbw,hM1⟩
    (fun x=>{ tmps:=#[.slice (some ⟨b,o,none⟩) n c,undef,.slice none 0 0,.pointer (some ⟨w.heap.size,0,none⟩),undef,.slice Ak nk ck,.int .i64 (x.1.1:Int),.int .i64 x.1.2,.slice (some ⟨b,o,none⟩) n c,.int .i64 (n:Int),.int .i64 (k:Int),.bool true,.pointer (some ⟨b,o+k,none⟩),.slice Ak nk ck,.slice Ak nk ck,.func (.func 221) #[] #[.pointer (some ⟨Bx,0,none⟩)],.int .i64 (x.1.1:Int),.int .i64 x.1.2,u18,u19,u20,u21,u22,u23,u24,u25,u26,u27,u28,u29,u30,u31,u32,u33,u34,undef],defers:=[] }) ?assign ?body ?done ?stop
   case assign=>
    intro l x W K hK;dsimp only[evs]
    gi_wp2
    exact hK
   case body=>
    rintro l pre x W ⟨hC,hB,hMW⟩ hlt2;have hj:=x.2.1;obtain⟨fp,hfp⟩:∃fp,fp=jl f g (nds pre):=⟨_,rfl⟩;obtain⟨hp,hhp⟩:∃hp,hp=Vc.msk (pos fp):=⟨_,rfl⟩;have hhl:hp < 18446744073709551616:=by rw[hhp];exact Vc.msk_lt _
    rw[<-hfp,<-hhp] at hC;have g1:=hC.cell x.1.1;rw[cc_at _ _ _ hj] at g1;have g2:=hC.cell 64;rw[cc_has] at g2;have f1:=hC.frozen x.1.1;have f2:=hC.frozen 64;obtain⟨y,hy⟩:∃y,y=fp x.1.1:=⟨_,rfl⟩;rw[<-hy] at g1;have hor:bits BinOp.or .u64 (hp:Int) (IntKind.u64.wrap (2 ^ x.1.1))=((hp ||| 2 ^ x.1.1:Nat):Int):=or_bit hp x.1.1 hhl hj;have HX:=Hz_ (show max y x.1.2=max (jl f g (nds pre) x.1.1) (g x.1.1) by rw[hy,hfp,<-x.2.2.2]);have HH:=Hz_ (show hp ||| 2 ^ x.1.1=Vc.msk (pos (jl f g (nds (pre++[x])))) by
     rw[hhp,hfp,nds_snoc];exact jl_has f g (nds pre) x.1.1 hj (by simpa[pos] using x.2.2.1))
    have HC:=Hz_ hC;have HL:=Hz_ hhl;have HF:=Hz_ hfp;clear hfp hhp hy hC hhl
    gi_wp2
    all_goals
     refine⟨((KeepsOthers.setCell _ _ _).trans (KeepsOthers.setCell _ _ _)).from _,fun hg=>(hg.setc (p:=⟨w.heap.size,x.1.1,none⟩) _ (by simp;omega) (by simp;omega) (by simp;omega)).setc (p:=⟨w.heap.size,64,none⟩) _ (by simp;omega) (by simp;omega) (by simp;omega),?_,?_,?_⟩
     ·refine jl_blk HC.out HF.out hj ?_ HH.out (nds_snoc pre x);rw[<-HX.out];omega
     ·exact(hB.setCell (p:=⟨w.heap.size,x.1.1,none⟩) Zl _).setCell (p:=⟨w.heap.size,64,none⟩) Zl _
     ·exact(hMW.set_ HC.out _ _).set_ (HC.out.set_ _ _) _ _
   case done=>
    rintro D ys W hD hys ⟨hC,hB,hMW⟩ hK;rw[hys] at hC;have hC2:Blk W w.heap.size 203 (cc (jn (vs.take (k+1))) (Vc.msk (pos (jn (vs.take (k+1)))))):=by
     have e:∀j,j < 64->jl f g (Vc.upto (pos g) 64) j=jn (vs.take (k+1)) j:=fun j hj=>(jl_all f g HFN.out HGN.out j hj).trans (HJ.out j);rw[show Vc.msk (pos (jl f g (Vc.upto (pos g) 64)))=Vc.msk (pos (jn (vs.take (k+1)))) from Vc.msk_congr fun j hj=>congrArg (fun x=>decide (0 < x)) (e j hj),cc_congr e] at hC;exact hC
    have hP:=hM1.push (w':=W) hK (by omega) hD hMW;clear hC hys
    gi_wp2
    refine⟨?rel,?measure⟩
    case rel=>
     (repeat apply Exists.intro)
     refine⟨?_,rfl⟩;exact⟨k+1,by omega,by go_num,hB,hC2,hP⟩
    case measure=>simp[intOf];omega
   case stop=>
    rintro D c' pre W _ _ h _;exact h.elim
  ·obtain rfl:k=n:=by omega
   have HL:=Hz_ (list_any w.heap.size (jn vs) (pos (jn vs)) wr (hT.below hb) (by rw[List.take_of_length_le (by omega)] at hblk;exact hblk));clear hR
   gi_wp2_with (refine⟨trivial,?_⟩;gi_at_call 205;refine(callsIn_wide.2 HL.out).mono ?_;rintro e w1 ⟨A',c',rfl,ho,hb1⟩)
   have hM1:=hM.below hb1;refine leaves_marks (n₀:=w.heap.size) (fun W=>W.ownsRow w.heap.size 28 2 (.slice A' (vec (jn vs)).length c') (vec (jn vs)).length (sv (vec (jn vs)))/\Below w.heap.size w W)
    (fun W D h hn hK=>⟨ownsRow_putObj h.1 _ hK rfl,h.2.trans ((Below.refl _ W).grown (grownBy_putObj' W D _) h.2.size (fun k e=>by cases e;omega))⟩) ?_ ds _ hM1 ⟨own_less ho (hb.size),btn hb hb1⟩
   intro W ⟨h1,h2⟩;exact⟨_,results_tmp rfl _ _ _,A',c',rfl,h1,h2⟩
end Go.Proofs.YtmbeahbgafkjfaaGreatDoor
namespace Go.Proofs.YtmbeahbgafkjfaaGreatDoor
open Go.RowKit Go.Shelf
attribute [local go_sem] Oper.semAt_some
def ml (f g:Nat->Int) (l:List Nat):Nat->Int:=fun j=>if j∈l then min (f j) (g j) else f j
end Go.Proofs.YtmbeahbgafkjfaaGreatDoor
namespace Go.Proofs.YtmbeahbgafkjfaaGreatDoor
open Go.RowKit
theorem with_any (A:Option Addr) (n c:Nat) (u:List Vc.St) (s:Vc.St) (w:World) (hT:Tab w) (hl:u.length=n) (hR:Rd w w.heap.size 2 A n c (sv u)):
  Calls Tryz.prog 207 #[.slice A n c,.agg #[.int .i64 s.1,.int .i64 s.2]] w fun e w'=>∃A' c',e=.returned (.slice A' (vec (jn [u,[s]])).length c') /\
   w'.ownsRow w.heap.size 28 2 (.slice A' (vec (jn [u,[s]])).length c') (vec (jn [u,[s]])).length (sv (vec (jn [u,[s]])))/\Below w.heap.size w w':=by
 obtain⟨sc,sn⟩:=s;have h1max:1<=maxLen:=by unfold maxLen;omega
 have hb1:Below w.heap.size w (w.alloc (.cells #[.int .i64 sc,.int .i64 sn] 28)):=Zr.alloc Zl _;have hb2:Below (w.heap.size) w ((w.alloc (.cells #[.int .i64 sc,.int .i64 sn] 28)).alloc (.cells #[.int .i64 sc,.int .i64 sn] 28)):=hb1.alloc hb1.size _;have hS:=Rd.new (w.alloc (.cells #[.int .i64 sc,.int .i64 sn] 28)) 28 2 1 #[.int .i64 sc,.int .i64 sn] rfl h1max;rw[World.size_alloc] at hS;have hL:=RdL.two (D:=some ⟨w.heap.size+1,0,none⟩) (m:=1) (d:=1) (v:=[(sc,sn)]) hl rfl (hR.go hb2) (by simp only[World.size_alloc];exact hS) 22;have hb3:=hb2.alloc (o:=.cells #[.slice A n c,.slice (some ⟨w.heap.size+1,0,none⟩) 1 1] 22) hb2.size;have hL2:RdL (((w.alloc (.cells #[.int .i64 sc,.int .i64 sn] 28)).alloc (.cells #[.int .i64 sc,.int .i64 sn] 28)).alloc (.cells #[.slice A n c,.slice (some ⟨w.heap.size+1,0,none⟩) 1 1] 22)) (((w.alloc (.cells #[.int .i64 sc,.int .i64 sn] 28)).alloc (.cells #[.int .i64 sc,.int .i64 sn] 28)).alloc (.cells #[.slice A n c,.slice (some ⟨w.heap.size+1,0,none⟩) 1 1] 22)).heap.size (some ⟨w.heap.size+1+1,0,none⟩) 2 2 [u,[(sc,sn)]]:=by
  have:=hL;simp only[World.size_alloc] at this ⊢;exact this
 have hT3:=hT.below hb3;generalize hW:(((w.alloc (.cells #[.int .i64 sc,.int .i64 sn] 28)).alloc (.cells #[.int .i64 sc,.int .i64 sn] 28)).alloc (.cells #[.slice A n c,.slice (some ⟨w.heap.size+1,0,none⟩) 1 1] 22))=W at hb3 hL2 hT3;have hs3:=hb3.size;have H1:=Hz_ (join_any _ 2 2 [u,[(sc,sn)]] W hT3 hL2);have HB:=Hz_ hb3;clear hl hR hS hb1 hb2 hb3 hL hT;go_enter Tryz.func207,Tryz.ntmps207;go_wp2_with fail;refine H1.out.mono ?_;rintro e w1 ⟨A',c',rfl,ho,hb⟩;clear H1;go_wp2;go_ret;exact⟨A',c',rfl,own_less ho hs3,HB.out.trans (hb.mono hs3)⟩
def fm:Int->List Vc.St->Bool
 | _,[]=>true
 | last,s :: r=>Vc.right s && (decide (last < s.2) && fm s.2 r)
theorem fm_drop (last:Int) (v:List Vc.St) (k:Nat) (h:k < v.length):fm last (v.drop k)=(Vc.right v[k] && (decide (last < v[k].2) && fm v[k].2 (v.drop (k+1)))):=by
 rw[List.drop_eq_getElem_cons h];rfl
theorem formed_any (A:Option Addr) (n c:Nat) (v:List Vc.St) (w:World) (hl:v.length=n) (hR:Rd w w.heap.size 2 A n c (sv v)):
  Calls Tryz.prog 91 #[.slice A n c] w fun e w'=>e=.returned (.bool (fm (-1) v))/\Below w.heap.size w w':=by
 have hmax:n<=9223372036854775807:=by have h1:=hR.cap;have h2:=hR.max;unfold maxLen at h2;omega
 go_enter Tryz.func91,Tryz.ntmps91;go_wp2;go_loopw [3,8] (fun la i wr=>∃(k:Nat) (last:Int),k<=n/\i=.int .i64 k/\la=.int .i64 last/\fm (-1) v=fm last (v.drop k)/\Below w.heap.size w wr) (fun _ i _=>n - (intOf i).toNat)
 case atStart=>exact⟨0,-1,by omega,rfl,rfl,rfl,Below.refl _ _⟩
 case round=>
  obtain⟨k,last,hk,rfl,rfl,hfm,hb⟩:=hrel;by_cases hlt:k < n
  ·have hkv:k < v.length:=by omega
   obtain⟨b,o,rfl,hab,h0,h1⟩:=(hR.below hb).stamp hl hlt;have HF:=Hz_ (hfm.trans (fm_drop last v k hkv));generalize hs1:(v[k]'hkv).1=sc at h0;generalize hs2:(v[k]'hkv).2=sn at h1;have HE:=Hz_ (show v[k]'hkv=(sc,sn) by rw[<-hs1,<-hs2]);have HB:=Hz_ hb;clear hs1 hs2 hR hb hfm;go_wp2_with fail;refine(right_any sc sn _).mono ?_;rintro e w3 ⟨rfl,hb3⟩;have hs3:=Blk.go (Blk.new wr 28 #[.int .i64 sc,.int .i64 sn]) hb3;have g1:=hs3.cell 1;rw[show (#[Value.int .i64 sc,Value.int .i64 sn])[1]?=some (.int .i64 sn) from rfl] at g1;have hb4:=btn HB.out (((Below.refl wr.heap.size wr).alloc Zl _).trans (hb3.mono (by simp)));clear hb3 hs3 HB;have HX:=Hz_ (show fm (-1) v=(Vc.right (sc,sn) && (decide (last < sn) && fm sn (v.drop (k+1)))) by have:=HF.out;rw[HE.out] at this;exact this);clear HF HE;rcases hr:Vc.right (sc,sn) with _ | _
   ·rw[hr] at HX;clear hr;go_wp2;go_ret;exact⟨by rw[HX.out];rfl,hb4⟩
   ·rw[hr] at HX;clear hr;by_cases hle:sn<=last
    ·go_wp2;go_ret;exact⟨ret_bool (by rw[HX.out];simp;omega),hb4⟩
    ·go_wp2;go_roundw
     case rel=>
      exact⟨k+1,sn,by omega,by go_num,rfl,by rw[HX.out];simp;omega,hb4⟩
     case measure=>simp[intOf];omega
  ·obtain rfl:k=n:=by omega
   have HX:=Hz_ (show fm (-1) v=true by rw[hfm,List.drop_of_length_le (by omega)];rfl);clear hfm;go_wp2;go_ret;exact⟨ret_bool (by rw[HX.out]),hb⟩
theorem cntZ_cons (s:Vc.St) (r:List Vc.St) (x:Int):cntZ (s :: r) x=if s.2=x/\Vc.right s=true then s.1 else cntZ r x:=by
 unfold cntZ;by_cases h:0<=x/\x < 64
 ·rw[if_pos h,if_pos h];simp only[Vc.cnt];obtain⟨k,rfl⟩:=Int.eq_ofNat_of_zero_le h.1;by_cases h2:s.2=(k:Int)<;>by_cases h3:Vc.right s=true<;>simp[h2,h3]
 ·rw[if_neg h,if_neg h,if_neg];rintro⟨h1,h2⟩;have:=(Vc.right_iff s).1 h2;omega
theorem cntZ_drop (v:List Vc.St) (x:Int) (k:Nat) (h:k < v.length):cntZ (v.drop k) x=if v[k].2=x/\Vc.right v[k]=true then v[k].1 else cntZ (v.drop (k+1)) x:=by
 rw[List.drop_eq_getElem_cons h,cntZ_cons]
theorem cntZ_nil (x:Int):cntZ [] x=0:=by unfold cntZ;split<;>rfl
theorem count_any (A:Option Addr) (n c:Nat) (v:List Vc.St) (x:Int) (w:World) (hl:v.length=n) (hR:Rd w w.heap.size 2 A n c (sv v)):
  Calls Tryz.prog 173 #[.slice A n c,.int .i64 x] w fun e w'=>e=.returned (.int .i64 (cntZ v x))/\Below w.heap.size w w':=by
 have hmax:n<=9223372036854775807:=by have h1:=hR.cap;have h2:=hR.max;unfold maxLen at h2;omega
 go_enter Tryz.func173,Tryz.ntmps173;go_wp2;go_loopw [9] (fun i wr=>∃(k:Nat),k<=n/\i=.int .i64 k/\cntZ v x=cntZ (v.drop k) x/\Below w.heap.size w wr) (fun i _=>n - (intOf i).toNat)
 case atStart=>exact⟨0,by omega,rfl,rfl,Below.refl _ _⟩
 case round=>
  obtain⟨k,hk,rfl,hfm,hb⟩:=hrel;by_cases hlt:k < n
  ·have hkv:k < v.length:=by omega
   obtain⟨b,o,rfl,hab,h0,h1⟩:=(hR.below hb).stamp hl hlt;have HF:=Hz_ (hfm.trans (cntZ_drop v x k hkv));generalize hs1:(v[k]'hkv).1=sc at h0;generalize hs2:(v[k]'hkv).2=sn at h1;have HE:=Hz_ (show v[k]'hkv=(sc,sn) by rw[<-hs1,<-hs2]);have HB:=Hz_ hb;have HX:=Hz_ (show cntZ v x=if sn=x/\Vc.right (sc,sn)=true then sc else cntZ (v.drop (k+1)) x by have:=HF.out;rw[HE.out] at this;exact this);clear hs1 hs2 hR hb hfm HF HE;by_cases hsn:sn=x
   ·subst hsn;go_wp2_with fail;refine(right_any sc sn _).mono ?_;rintro e w3 ⟨rfl,hb3⟩;have hs3:=Blk.go (Blk.new wr 28 #[.int .i64 sc,.int .i64 sn]) hb3;have g1:=hs3.cell 0;rw[show (#[Value.int .i64 sc,Value.int .i64 sn])[0]?=some (.int .i64 sc) from rfl] at g1;have hb4:=btn HB.out (((Below.refl wr.heap.size wr).alloc Zl _).trans (hb3.mono (by simp)));clear hb3 hs3 HB;rcases hr:Vc.right (sc,sn) with _ | _
    ·rw[hr] at HX;clear hr;go_wp2;go_roundw
     case rel=>exact⟨k+1,by omega,by go_num,by rw[HX.out];simp,hb4⟩
     case measure=>simp[intOf];omega
    ·rw[hr] at HX;clear hr;go_wp2;go_ret;exact⟨by rw[HX.out];simp,hb4⟩
   ·have hb4:Below w.heap.size w (wr.alloc (.cells #[.int .i64 sc,.int .i64 sn] 28)):=HB.out.alloc HB.out.size _;go_wp2;go_roundw
    case rel=>exact⟨k+1,by omega,by go_num,by rw[HX.out,if_neg (fun h=>hsn h.1)],hb4⟩
    case measure=>simp[intOf];omega
  ·obtain rfl:k=n:=by omega
   have HX:=Hz_ (show cntZ v x=0 by rw[hfm,List.drop_of_length_le (by omega),cntZ_nil]);clear hfm;go_wp2;go_ret;exact⟨by rw[HX.out];rfl,hb⟩
end Go.Proofs.YtmbeahbgafkjfaaGreatDoor
namespace Go.Proofs.YtmbeahbgafkjfaaGreatDoor
open Go.RowKit
def hasB (v:List Vc.St) (s:Vc.St):Bool:=Vc.right s && decide (s.1<=cntZ v s.2)
theorem has_any (A:Option Addr) (n c:Nat) (v:List Vc.St) (s:Vc.St) (w:World) (hl:v.length=n) (hR:Rd w w.heap.size 2 A n c (sv v)):
  Calls Tryz.prog 112 #[.slice A n c,.agg #[.int .i64 s.1,.int .i64 s.2]] w fun e w'=>e=.returned (.bool (hasB v s))/\Below w.heap.size w w':=by
 obtain⟨sc,sn⟩:=s;have hb1:Below w.heap.size w (w.alloc (.cells #[.int .i64 sc,.int .i64 sn] 28)):=Zr.alloc Zl _;have hB:=Blk.new w 28 #[.int .i64 sc,.int .i64 sn];have HR:=Hz_ hR;have H2:=Hz_ fun (W:World) hR=>count_any A n c v sn W hl hR;clear hR hl;have HRt:=right_any sc sn;have hX0:hasB v (sc,sn)=(Vc.right (sc,sn) && decide (sc<=cntZ v sn)):=rfl;generalize cntZ v sn=z at H2 hX0;generalize Vc.right (sc,sn)=rv at HRt hX0;have HX:=Hz_ hX0;have HR1:=Hz_ HRt;clear HRt hX0;cases rv
 ·go_enter Tryz.func112,Tryz.ntmps112;go_wp2_with fail;have q0:(World.drew (w.alloc (.cells #[.int .i64 sc,.int .i64 sn] 28))).cell? ⟨w.heap.size,0,none⟩=some (.int .i64 sc):=hB.cell 0;have q1:(World.drew (w.alloc (.cells #[.int .i64 sc,.int .i64 sn] 28))).cell? ⟨w.heap.size,1,none⟩=some (.int .i64 sn):=hB.cell 1;refine wp_region_any (by kernel_rfl) ?_;change wpAny _ _ _ _ _ _ _ (World.drew _);refine wpAny_ready (rs:=[0]) (by kernel_rfl) (by simp) ?_;refine AllReady.cons rfl (fun K hK=>?_) AllReady.nil;go_simp;refine hK _ _ ?_;clear hK K;refine wpAny_ready (rs:=[1]) (by kernel_rfl) (by simp) ?_;refine AllReady.cons rfl (fun K hK=>?_) AllReady.nil;go_simp;refine(HR1.out _).mono ?_;rintro e w3 ⟨rfl,hb3⟩;refine hK _ _ ?_;clear hK K;refine wpAny_take (i:=2) (v:=.bool false) rfl (by kernel_rfl) (by kernel_rfl) (by kernel_rfl) (fun _ _ _ h=>h) (Or.inl ⟨by rfl,fun w=>?_⟩) ?_
  ·go_simp
  refine wpAny_take (i:=3) (v:=undef) rfl (by kernel_rfl) (by kernel_rfl) (by kernel_rfl) (fun _ _ _ h=>h) (Or.inr ⟨by rfl,rfl⟩) ?_;refine wpAny_take (i:=4) (v:=undef) rfl (by kernel_rfl) (by kernel_rfl) (by kernel_rfl) (fun _ _ _ h=>h) (Or.inr ⟨by rfl,rfl⟩) ?_;refine wpAny_take (i:=7) (v:=undef) rfl (by kernel_rfl) (by kernel_rfl) (by kernel_rfl) (fun _ _ _ h=>h) (Or.inr ⟨by rfl,rfl⟩) ?_;refine wpAny_ready (rs:=[5,8]) (by kernel_rfl) (by simp) ?_;refine AllReady.cons rfl (fun K hK=>?_) (AllReady.cons rfl (fun K hK=>?_) AllReady.nil)
  ·go_simp;refine hK _ _ ?_;clear hK K;refine wpAny_ready (rs:=[6,8]) (by kernel_rfl) (by simp) ?_;refine AllReady.cons rfl (fun K hK=>?_) (AllReady.cons rfl (fun K hK=>?_) AllReady.nil)
   ·go_simp;refine hK _ _ ?_;clear hK K;refine wpAny_ready (rs:=[8]) (by kernel_rfl) (by simp) ?_;refine AllReady.cons rfl (fun K hK=>?_) AllReady.nil;go_simp;refine hK _ _ ?_;clear hK K;refine wpAny_take (i:=9) (v:=undef) rfl (by kernel_rfl) (by kernel_rfl) (by kernel_rfl) (fun _ _ _ h=>h) (Or.inr ⟨by rfl,rfl⟩) ?_;refine wpAny_take (i:=10) (v:=.bool false) rfl (by kernel_rfl) (by kernel_rfl) (by kernel_rfl) (fun _ _ _ h=>h) (Or.inl ⟨by rfl,fun w=>?_⟩) ?_
    ·go_simp
    refine wpAny_take (i:=11) (v:=.bool false) rfl (by kernel_rfl) (by kernel_rfl) (by kernel_rfl) (fun _ _ _ h=>h) (Or.inl ⟨by rfl,fun w=>?_⟩) ?_
    ·go_simp
    refine wpAny_done (by kernel_rfl) ?_ _;go_wp2;go_ret;exact⟨by rw[HX.out];rfl,btn hb1.drew hb3⟩
   ·go_simp;refine hK _ _ ?_;clear hK K;refine wpAny_ready (rs:=[6]) (by kernel_rfl) (by simp) ?_;refine AllReady.cons rfl (fun K hK=>?_) AllReady.nil;go_simp;refine hK _ _ ?_;clear hK K;refine wpAny_take (i:=9) (v:=undef) rfl (by kernel_rfl) (by kernel_rfl) (by kernel_rfl) (fun _ _ _ h=>h) (Or.inr ⟨by rfl,rfl⟩) ?_;refine wpAny_take (i:=10) (v:=.bool false) rfl (by kernel_rfl) (by kernel_rfl) (by kernel_rfl) (fun _ _ _ h=>h) (Or.inl ⟨by rfl,fun w=>?_⟩) ?_
    ·go_simp
    refine wpAny_take (i:=11) (v:=.bool false) rfl (by kernel_rfl) (by kernel_rfl) (by kernel_rfl) (fun _ _ _ h=>h) (Or.inl ⟨by rfl,fun w=>?_⟩) ?_
    ·go_simp
    refine wpAny_done (by kernel_rfl) ?_ _;go_wp2;go_ret;exact⟨by rw[HX.out];rfl,btn hb1.drew hb3⟩
  ·go_simp;refine hK _ _ ?_;clear hK K;refine wpAny_ready (rs:=[5]) (by kernel_rfl) (by simp) ?_;refine AllReady.cons rfl (fun K hK=>?_) AllReady.nil;go_simp;refine hK _ _ ?_;clear hK K;refine wpAny_ready (rs:=[6]) (by kernel_rfl) (by simp) ?_;refine AllReady.cons rfl (fun K hK=>?_) AllReady.nil;go_simp;refine hK _ _ ?_;clear hK K;refine wpAny_take (i:=9) (v:=undef) rfl (by kernel_rfl) (by kernel_rfl) (by kernel_rfl) (fun _ _ _ h=>h) (Or.inr ⟨by rfl,rfl⟩) ?_;refine wpAny_take (i:=10) (v:=.bool false) rfl (by kernel_rfl) (by kernel_rfl) (by kernel_rfl) (fun _ _ _ h=>h) (Or.inl ⟨by rfl,fun w=>?_⟩) ?_
   ·go_simp
   refine wpAny_take (i:=11) (v:=.bool false) rfl (by kernel_rfl) (by kernel_rfl) (by kernel_rfl) (fun _ _ _ h=>h) (Or.inl ⟨by rfl,fun w=>?_⟩) ?_
   ·go_simp
   refine wpAny_done (by kernel_rfl) ?_ _;go_wp2;go_ret;exact⟨by rw[HX.out];rfl,btn hb1.drew hb3⟩
 ·go_enter Tryz.func112,Tryz.ntmps112;go_wp2_with fail;have q0:(World.drew (w.alloc (.cells #[.int .i64 sc,.int .i64 sn] 28))).cell? ⟨w.heap.size,0,none⟩=some (.int .i64 sc):=hB.cell 0;have q1:(World.drew (w.alloc (.cells #[.int .i64 sc,.int .i64 sn] 28))).cell? ⟨w.heap.size,1,none⟩=some (.int .i64 sn):=hB.cell 1;refine region_nrm fun K hK=>?_;go_region_held3 (fun w'=>w'.cell? ⟨w.heap.size,0,none⟩=some (.int .i64 sc)/\w'.cell? ⟨w.heap.size,1,none⟩=some (.int .i64 sn)) (first | exact⟨q4,q5⟩ | exact⟨q2,q3⟩ | exact⟨q0,q1⟩ | go_keep) (first
   | (go_at_call 159;go_must (refine(HR1.out _).mono ?_);rintro e w3 ⟨rfl,hb3⟩;have hb4:=btn hb1.drew hb3;have q2:=(hb3.cell (p:=⟨w.heap.size,0,none⟩) (by simp)).trans q0;have q3:=(hb3.cell (p:=⟨w.heap.size,1,none⟩) (by simp)).trans q1)
   | (go_at_call 173;go_must (refine(H2.out _ (HR.out.go hb4)).mono ?_);rintro e w4 ⟨rfl,hb5⟩;have hb6:=btn hb4 hb5;have q4:=(hb5.cell (p:=⟨w.heap.size,0,none⟩) (World.block_lt_of_cell? _ _ q2)).trans q2;have q5:=(hb5.cell (p:=⟨w.heap.size,1,none⟩) (World.block_lt_of_cell? _ _ q3)).trans q3))
  refine Nrm.out (hK _ _ ?_);go_wp2;go_ret;exact⟨ret_bool (by rw[HX.out];simp),hb6⟩
theorem refHas_any (A:Option Addr) (n c:Nat) (v:List Vc.St) (s:Vc.St) (w:World) (hl:v.length=n) (hR:Rd w w.heap.size 2 A n c (sv v)):
  Calls Tryz.prog 114 #[.slice A n c,.agg #[.int .i64 s.1,.int .i64 s.2]] w fun e w'=>e=.returned (.bool (hasB v s))/\Below w.heap.size w w':=by
 obtain⟨sc,sn⟩:=s;have hb1:Below w.heap.size w (w.alloc (.cells #[.int .i64 sc,.int .i64 sn] 28)):=Zr.alloc Zl _;have hB:=Blk.new w 28 #[.int .i64 sc,.int .i64 sn];have HR:=Hz_ hR;have H2:=Hz_ fun (W:World) hR=>refCount_any A n c v sn W hl hR;clear hR hl;have HRt:=refRight_any sc sn;have hX0:hasB v (sc,sn)=(Vc.right (sc,sn) && decide (sc<=cntZ v sn)):=rfl;generalize cntZ v sn=z at H2 hX0;generalize Vc.right (sc,sn)=rv at HRt hX0;have HX:=Hz_ hX0;have HR1:=Hz_ HRt;clear HRt hX0;cases rv
 ·go_enter Tryz.func114,Tryz.ntmps114;go_wp2_with fail;have q0:(World.drew (w.alloc (.cells #[.int .i64 sc,.int .i64 sn] 28))).cell? ⟨w.heap.size,0,none⟩=some (.int .i64 sc):=hB.cell 0;have q1:(World.drew (w.alloc (.cells #[.int .i64 sc,.int .i64 sn] 28))).cell? ⟨w.heap.size,1,none⟩=some (.int .i64 sn):=hB.cell 1;refine wp_region_any (by kernel_rfl) ?_;change wpAny _ _ _ _ _ _ _ (World.drew _);refine wpAny_ready (rs:=[0]) (by kernel_rfl) (by simp) ?_;refine AllReady.cons rfl (fun K hK=>?_) AllReady.nil;go_simp;refine hK _ _ ?_;clear hK K;refine wpAny_ready (rs:=[1]) (by kernel_rfl) (by simp) ?_;refine AllReady.cons rfl (fun K hK=>?_) AllReady.nil;go_simp;refine(HR1.out _).mono ?_;rintro e w3 ⟨rfl,hb3⟩;refine hK _ _ ?_;clear hK K;refine wpAny_take (i:=2) (v:=.bool false) rfl (by kernel_rfl) (by kernel_rfl) (by kernel_rfl) (fun _ _ _ h=>h) (Or.inl ⟨by rfl,fun w=>?_⟩) ?_
  ·go_simp
  refine wpAny_take (i:=3) (v:=undef) rfl (by kernel_rfl) (by kernel_rfl) (by kernel_rfl) (fun _ _ _ h=>h) (Or.inr ⟨by rfl,rfl⟩) ?_;refine wpAny_take (i:=5) (v:=undef) rfl (by kernel_rfl) (by kernel_rfl) (by kernel_rfl) (fun _ _ _ h=>h) (Or.inr ⟨by rfl,rfl⟩) ?_;refine wpAny_take (i:=6) (v:=undef) rfl (by kernel_rfl) (by kernel_rfl) (by kernel_rfl) (fun _ _ _ h=>h) (Or.inr ⟨by rfl,rfl⟩) ?_;refine wpAny_ready (rs:=[4,7]) (by kernel_rfl) (by simp) ?_;refine AllReady.cons rfl (fun K hK=>?_) (AllReady.cons rfl (fun K hK=>?_) AllReady.nil)
  ·go_simp;refine hK _ _ ?_;clear hK K;refine wpAny_ready (rs:=[7]) (by kernel_rfl) (by simp) ?_;refine AllReady.cons rfl (fun K hK=>?_) AllReady.nil;go_simp;refine hK _ _ ?_;clear hK K;refine wpAny_ready (rs:=[8]) (by kernel_rfl) (by simp) ?_;refine AllReady.cons rfl (fun K hK=>?_) AllReady.nil;go_simp;refine hK _ _ ?_;clear hK K;refine wpAny_take (i:=9) (v:=undef) rfl (by kernel_rfl) (by kernel_rfl) (by kernel_rfl) (fun _ _ _ h=>h) (Or.inr ⟨by rfl,rfl⟩) ?_;refine wpAny_take (i:=10) (v:=.bool false) rfl (by kernel_rfl) (by kernel_rfl) (by kernel_rfl) (fun _ _ _ h=>h) (Or.inl ⟨by rfl,fun w=>?_⟩) ?_
   ·go_simp
   refine wpAny_take (i:=11) (v:=.bool false) rfl (by kernel_rfl) (by kernel_rfl) (by kernel_rfl) (fun _ _ _ h=>h) (Or.inl ⟨by rfl,fun w=>?_⟩) ?_
   ·go_simp
   refine wpAny_done (by kernel_rfl) ?_ _;go_wp2;go_ret;exact⟨by rw[HX.out];rfl,btn hb1.drew hb3⟩
  ·go_simp;refine hK _ _ ?_;clear hK K;refine wpAny_ready (rs:=[4,8]) (by kernel_rfl) (by simp) ?_;refine AllReady.cons rfl (fun K hK=>?_) (AllReady.cons rfl (fun K hK=>?_) AllReady.nil)
   ·go_simp;refine hK _ _ ?_;clear hK K;refine wpAny_ready (rs:=[8]) (by kernel_rfl) (by simp) ?_;refine AllReady.cons rfl (fun K hK=>?_) AllReady.nil;go_simp;refine hK _ _ ?_;clear hK K;refine wpAny_take (i:=9) (v:=undef) rfl (by kernel_rfl) (by kernel_rfl) (by kernel_rfl) (fun _ _ _ h=>h) (Or.inr ⟨by rfl,rfl⟩) ?_;refine wpAny_take (i:=10) (v:=.bool false) rfl (by kernel_rfl) (by kernel_rfl) (by kernel_rfl) (fun _ _ _ h=>h) (Or.inl ⟨by rfl,fun w=>?_⟩) ?_
    ·go_simp
    refine wpAny_take (i:=11) (v:=.bool false) rfl (by kernel_rfl) (by kernel_rfl) (by kernel_rfl) (fun _ _ _ h=>h) (Or.inl ⟨by rfl,fun w=>?_⟩) ?_
    ·go_simp
    refine wpAny_done (by kernel_rfl) ?_ _;go_wp2;go_ret;exact⟨by rw[HX.out];rfl,btn hb1.drew hb3⟩
   ·go_simp;refine hK _ _ ?_;clear hK K;refine wpAny_ready (rs:=[4]) (by kernel_rfl) (by simp) ?_;refine AllReady.cons rfl (fun K hK=>?_) AllReady.nil;go_simp;refine hK _ _ ?_;clear hK K;refine wpAny_take (i:=9) (v:=undef) rfl (by kernel_rfl) (by kernel_rfl) (by kernel_rfl) (fun _ _ _ h=>h) (Or.inr ⟨by rfl,rfl⟩) ?_;refine wpAny_take (i:=10) (v:=.bool false) rfl (by kernel_rfl) (by kernel_rfl) (by kernel_rfl) (fun _ _ _ h=>h) (Or.inl ⟨by rfl,fun w=>?_⟩) ?_
    ·go_simp
    refine wpAny_take (i:=11) (v:=.bool false) rfl (by kernel_rfl) (by kernel_rfl) (by kernel_rfl) (fun _ _ _ h=>h) (Or.inl ⟨by rfl,fun w=>?_⟩) ?_
    ·go_simp
    refine wpAny_done (by kernel_rfl) ?_ _;go_wp2;go_ret;exact⟨by rw[HX.out];rfl,btn hb1.drew hb3⟩
 ·go_enter Tryz.func114,Tryz.ntmps114;go_wp2_with fail;have q0:(World.drew (w.alloc (.cells #[.int .i64 sc,.int .i64 sn] 28))).cell? ⟨w.heap.size,0,none⟩=some (.int .i64 sc):=hB.cell 0;have q1:(World.drew (w.alloc (.cells #[.int .i64 sc,.int .i64 sn] 28))).cell? ⟨w.heap.size,1,none⟩=some (.int .i64 sn):=hB.cell 1;refine region_nrm fun K hK=>?_;go_region_held3 (fun w'=>w'.cell? ⟨w.heap.size,0,none⟩=some (.int .i64 sc)/\w'.cell? ⟨w.heap.size,1,none⟩=some (.int .i64 sn)) (first | exact⟨q4,q5⟩ | exact⟨q2,q3⟩ | exact⟨q0,q1⟩ | go_keep) (first
   | (go_at_call 116;go_must (refine(HR1.out _).mono ?_);rintro e w3 ⟨rfl,hb3⟩;have hb4:=btn hb1.drew hb3;have q2:=(hb3.cell (p:=⟨w.heap.size,0,none⟩) (by simp)).trans q0;have q3:=(hb3.cell (p:=⟨w.heap.size,1,none⟩) (by simp)).trans q1)
   | (go_at_call 175;go_must (refine(H2.out _ (HR.out.go hb4)).mono ?_);rintro e w4 ⟨rfl,hb5⟩;have hb6:=btn hb4 hb5;have q4:=(hb5.cell (p:=⟨w.heap.size,0,none⟩) (World.block_lt_of_cell? _ _ q2)).trans q2;have q5:=(hb5.cell (p:=⟨w.heap.size,1,none⟩) (World.block_lt_of_cell? _ _ q3)).trans q3))
  refine Nrm.out (hK _ _ ?_);go_wp2;go_ret;exact⟨ret_bool (by rw[HX.out];simp),hb6⟩
theorem dec_drop {u v:List Vc.St} {k:Nat} (h1:k < u.length) (h2:k < v.length) (h:u[k]=v[k]):decide (u.drop k=v.drop k)=decide (u.drop (k+1)=v.drop (k+1)):=by
 refine decide_eq_decide.2 ?_;rw[List.drop_eq_getElem_cons h1,List.drop_eq_getElem_cons h2,h];exact⟨fun e=>(List.cons.inj e).2,fun e=>by rw[e]⟩
theorem same_any (A D:Option Addr) (n c m d:Nat) (u v:List Vc.St) (w:World) (hl:u.length=n) (hl2:v.length=m) (hR:Rd w w.heap.size 2 A n c (sv u)) (hR2:Rd w w.heap.size 2 D m d (sv v)):
  Calls Tryz.prog 80 #[.slice A n c,.slice D m d] w fun e w'=>e=.returned (.bool (decide (u=v)))/\Below w.heap.size w w':=by
 have hmax:n<=9223372036854775807:=by have h1:=hR.cap;have h2:=hR.max;unfold maxLen at h2;omega
 by_cases hnm:n=m
 ·subst hnm;go_enter Tryz.func80,Tryz.ntmps80;go_wp2;go_loopw [5] (fun i wr=>∃(k:Nat),k<=n/\i=.int .i64 k/\decide (u=v)=decide (u.drop k=v.drop k)/\Below w.heap.size w wr) (fun i _=>n - (intOf i).toNat)
  case atStart=>exact⟨0,by omega,rfl,rfl,Below.refl _ _⟩
  case round=>
   obtain⟨k,hk,rfl,hdd,hb⟩:=hrel;by_cases hlt:k < n
   ·have hk1:k < u.length:=by omega
    have hk2:k < v.length:=by omega
    obtain⟨b,o,rfl,hab,h0,h1⟩:=(hR.below hb).stamp hl hlt;obtain⟨b2,o2,rfl,hab2,h02,h12⟩:=(hR2.below hb).stamp hl2 hlt;have HD:=Hz_ hdd;have HE:=Hz_ (show u[k]=((u[k]'hk1).1,(u[k]'hk1).2) from rfl);have HE2:=Hz_ (show v[k]=((v[k]'hk2).1,(v[k]'hk2).2) from rfl);generalize (u[k]'hk1).1=sc at h0 HE;generalize (u[k]'hk1).2=sn at h1 HE;generalize (v[k]'hk2).1=tc at h02 HE2;generalize (v[k]'hk2).2=tn at h12 HE2;have HB:=Hz_ hb;clear hdd hb hR hR2;by_cases e1:sc=tc
    ·subst e1;by_cases e2:sn=tn
     ·subst e2;have HN:=Hz_ (dec_drop hk1 hk2 (by rw[HE.out,HE2.out]));go_wp2;go_quiet (fail);go_wp2;go_roundw
      case rel=>exact⟨k+1,by omega,by go_num,by rw[HD.out,HN.out],below_drewN HB.out _⟩
      case measure=>simp[intOf];omega
     ·have HN:=Hz_ (show decide (u=v)=false by
       rw[decide_eq_false_iff_not];intro h;subst h;exact e2 (congrArg Prod.snd (HE.out.symm.trans HE2.out)))
      go_wp2;go_quiet (fail);go_wp2;go_ret;exact⟨by rw[HN.out];rfl,below_drewN HB.out _⟩
    ·have HN:=Hz_ (show decide (u=v)=false by
      rw[decide_eq_false_iff_not];intro h;subst h;exact e1 (congrArg Prod.fst (HE.out.symm.trans HE2.out)))
     go_wp2;go_quiet (fail);go_wp2;go_ret;exact⟨by rw[HN.out];rfl,below_drewN HB.out _⟩
   ·obtain rfl:k=n:=by omega
    have HX:=Hz_ (show decide (u=v)=true by rw[hdd,List.drop_of_length_le (by omega),List.drop_of_length_le (by omega)];simp);clear hdd;go_wp2;go_ret;exact⟨by rw[HX.out];rfl,hb⟩
 ·have HN:=Hz_ (show decide (u=v)=false by rw[decide_eq_false_iff_not];intro h;subst h;omega);have hne:¬ ((n:Int)=(m:Int)):=by omega
  go_enter Tryz.func80,Tryz.ntmps80;go_wp2
  all_goals first
   | (exfalso;omega)
   | (go_ret;exact⟨by rw[HN.out];rfl,Below.refl _ _⟩)
end Go.Proofs.YtmbeahbgafkjfaaGreatDoor
namespace Go.Proofs.YtmbeahbgafkjfaaGreatDoor
open Go.RowKit
theorem wpAny_putD {P:Program} {ops:Array Oper} {Q:Exit->Act->World->Prop} {md:Region.Mode} {i d:Nat} {oi:Oper} {v:Value} {fuel:Nat} {listed:Array Bool} {a:Act} {w:World} (hi:ops[i]?=some oi) (hd:oi.dst=some d)
  (hs:Region.noSelect ops=true) (hf:Region.free md ops listed i=true) (hr:(Region.ready md ops listed).contains i=true)
  (hQ:∀c a w,Q (.panic c) (a.put oi.dst v) w->Q (.panic c) a w) (hy:Yields P ops oi v a)
  (h:wpAny P md ops Q fuel (listed.setIfInBounds i true) { tmps:=a.tmps.setIfInBounds d v,defers:=a.defers } w):wpAny P md ops Q (fuel+1) listed a w:=
 wpAny_take hi hs hf hr hQ hy (by rw[hd];exact h)
def ahead (v:List Vc.St) (k:Nat):Int:=if h:k≠0/\k - 1 < v.length then (v[k - 1]'h.2).2 else -1
theorem ahead_next (v:List Vc.St) (k:Nat) (h:k < v.length):ahead v (k+1)=v[k].2:=by
 unfold ahead;rw[dif_pos ⟨by omega,by simpa using h⟩];simp
theorem refFormed_any (A:Option Addr) (n c:Nat) (v:List Vc.St) (w:World) (hl:v.length=n) (hR:Rd w w.heap.size 2 A n c (sv v)):
  Calls Tryz.prog 84 #[.slice A n c] w fun e w'=>e=.returned (.bool (fm (-1) v))/\Below w.heap.size w w':=by
 have hmax:n<=9223372036854775807:=by have h1:=hR.cap;have h2:=hR.max;unfold maxLen at h2;omega
 go_enter Tryz.func84,Tryz.ntmps84;go_wp2;go_loopw [3] (fun i wr=>∃(k:Nat),k<=n/\i=.int .i64 k/\fm (-1) v=fm (ahead v k) (v.drop k)/\Below w.heap.size w wr) (fun i _=>n - (intOf i).toNat)
 case atStart=>exact⟨0,by omega,rfl,rfl,Below.refl _ _⟩
 case round=>
  obtain⟨k,hk,rfl,hfm,hb⟩:=hrel;by_cases hlt:k < n
  ·have hkv:k < v.length:=by omega
   have hRb:=hR.below hb;obtain⟨b,o,rfl,hab,h0,h1⟩:=hRb.stamp hl hlt;have HF:=Hz_ (hfm.trans (fm_drop (ahead v k) v k hkv));have HA:=Hz_ (ahead_next v k hkv);generalize hs1:(v[k]'hkv).1=sc at h0;generalize hs2:(v[k]'hkv).2=sn at h1;have HE:=Hz_ (show v[k]'hkv=(sc,sn) by rw[<-hs1,<-hs2]);have HB:=Hz_ hb;have HX0:=Hz_ (show fm (-1) v=(Vc.right (sc,sn) && (decide (ahead v k < sn) && fm (ahead v (k+1)) (v.drop (k+1)))) by
    have h3:=HF.out;have h4:=HA.out;rw[HE.out] at h3 h4;rw[h4];exact h3)
   have hRt:=refRight_any sc sn;have HRI:=Hz_ (Vc.right_iff (sc,sn));have q0:(World.drew wr).cell? ⟨b,o+k * 2,none⟩=some (.int .i64 sc):=h0;have q1:(World.drew wr).cell? ⟨b,o+k * 2+1,none⟩=some (.int .i64 sn):=h1;clear hs1 hs2 hb hfm HF;rcases hr:Vc.right (sc,sn) with _ | _
   ·have HX:=Hz_ (show fm (-1) v=false by rw[HX0.out,hr];rfl);rw[hr] at hRt;have HRt:=Hz_ hRt;clear hr hRt hR hRb HX0;go_wp2;refine wp_region_any (by kernel_rfl) ?_;change wpAny _ _ _ _ _ _ _ (World.drew _);refine wpAny_putD (i:=0) (d:=10) (v:=.slice (some ⟨b,o,none⟩) n c) rfl rfl (by kernel_rfl) (by kernel_rfl) (by kernel_rfl) (fun _ _ _ h=>h) (Or.inl ⟨by kernel_rfl,fun w=>?_⟩) ?_
    ·go_simp
    refine wpAny_putD (i:=1) (d:=11) (v:=.int .i64 (k:Int)) rfl rfl (by kernel_rfl) (by kernel_rfl) (by kernel_rfl) (fun _ _ _ h=>h) (Or.inl ⟨by kernel_rfl,fun w=>?_⟩) ?_
    ·go_simp
    refine wpAny_putD (i:=2) (d:=12) (v:=.pointer (some ⟨b,o+k * 2,none⟩)) rfl rfl (by kernel_rfl) (by kernel_rfl) (by kernel_rfl) (fun _ _ _ h=>h) (Or.inl ⟨by kernel_rfl,fun w=>?_⟩) ?_
    ·go_simp
     try omega
     try (intro h;omega)
    refine wpAny_ready (rs:=[3]) (by kernel_rfl) (by simp) ?_;refine AllReady.cons rfl (fun K hK=>?_) AllReady.nil;go_simp;refine hK _ _ ?_;clear hK K;refine wpAny_ready (rs:=[4]) (by kernel_rfl) (by simp) ?_;refine AllReady.cons rfl (fun K hK=>?_) AllReady.nil;go_simp;refine(HRt.out _).mono ?_;rintro e w3 ⟨rfl,hb3⟩;refine hK _ _ ?_;clear hK K;refine wpAny_putD (i:=5) (d:=15) (v:=.bool true) rfl rfl (by kernel_rfl) (by kernel_rfl) (by kernel_rfl) (fun _ _ _ h=>h) (Or.inl ⟨by kernel_rfl,fun w=>?_⟩) ?_
    ·go_simp
    refine wpAny_putD (i:=6) (d:=16) (v:=.bool true) rfl rfl (by kernel_rfl) (by kernel_rfl) (by kernel_rfl) (fun _ _ _ h=>h) (Or.inl ⟨by kernel_rfl,fun w=>?_⟩) ?_
    ·go_simp
    refine wpAny_putD (i:=7) (d:=17) (v:=undef) rfl rfl (by kernel_rfl) (by kernel_rfl) (by kernel_rfl) (fun _ _ _ h=>h) (Or.inr ⟨by kernel_rfl,rfl⟩) ?_;simp only[List.setIfInBounds_toArray,List.set_cons_zero,List.set_cons_succ];refine wpAny_putD (i:=8) (d:=18) (v:=undef) rfl rfl (by kernel_rfl) (by kernel_rfl) (by kernel_rfl) (fun _ _ _ h=>h) (Or.inr ⟨by kernel_rfl,rfl⟩) ?_;simp only[List.setIfInBounds_toArray,List.set_cons_zero,List.set_cons_succ];refine wpAny_putD (i:=9) (d:=19) (v:=undef) rfl rfl (by kernel_rfl) (by kernel_rfl) (by kernel_rfl) (fun _ _ _ h=>h) (Or.inr ⟨by kernel_rfl,rfl⟩) ?_;simp only[List.setIfInBounds_toArray,List.set_cons_zero,List.set_cons_succ];refine wpAny_putD (i:=10) (d:=20) (v:=undef) rfl rfl (by kernel_rfl) (by kernel_rfl) (by kernel_rfl) (fun _ _ _ h=>h) (Or.inr ⟨by kernel_rfl,rfl⟩) ?_;simp only[List.setIfInBounds_toArray,List.set_cons_zero,List.set_cons_succ];refine wpAny_putD (i:=11) (d:=21) (v:=undef) rfl rfl (by kernel_rfl) (by kernel_rfl) (by kernel_rfl) (fun _ _ _ h=>h) (Or.inr ⟨by kernel_rfl,rfl⟩) ?_;simp only[List.setIfInBounds_toArray,List.set_cons_zero,List.set_cons_succ];refine wpAny_putD (i:=12) (d:=22) (v:=undef) rfl rfl (by kernel_rfl) (by kernel_rfl) (by kernel_rfl) (fun _ _ _ h=>h) (Or.inr ⟨by kernel_rfl,rfl⟩) ?_;simp only[List.setIfInBounds_toArray,List.set_cons_zero,List.set_cons_succ];refine wpAny_putD (i:=13) (d:=23) (v:=undef) rfl rfl (by kernel_rfl) (by kernel_rfl) (by kernel_rfl) (fun _ _ _ h=>h) (Or.inr ⟨by kernel_rfl,rfl⟩) ?_;simp only[List.setIfInBounds_toArray,List.set_cons_zero,List.set_cons_succ];refine wpAny_putD (i:=14) (d:=24) (v:=undef) rfl rfl (by kernel_rfl) (by kernel_rfl) (by kernel_rfl) (fun _ _ _ h=>h) (Or.inr ⟨by kernel_rfl,rfl⟩) ?_;simp only[List.setIfInBounds_toArray,List.set_cons_zero,List.set_cons_succ];refine wpAny_putD (i:=15) (d:=25) (v:=undef) rfl rfl (by kernel_rfl) (by kernel_rfl) (by kernel_rfl) (fun _ _ _ h=>h) (Or.inr ⟨by kernel_rfl,rfl⟩) ?_;simp only[List.setIfInBounds_toArray,List.set_cons_zero,List.set_cons_succ];refine wpAny_putD (i:=16) (d:=26) (v:=undef) rfl rfl (by kernel_rfl) (by kernel_rfl) (by kernel_rfl) (fun _ _ _ h=>h) (Or.inr ⟨by kernel_rfl,rfl⟩) ?_;simp only[List.setIfInBounds_toArray,List.set_cons_zero,List.set_cons_succ];refine wpAny_putD (i:=17) (d:=27) (v:=undef) rfl rfl (by kernel_rfl) (by kernel_rfl) (by kernel_rfl) (fun _ _ _ h=>h) (Or.inr ⟨by kernel_rfl,rfl⟩) ?_;simp only[List.setIfInBounds_toArray,List.set_cons_zero,List.set_cons_succ];refine wpAny_putD (i:=18) (d:=28) (v:=undef) rfl rfl (by kernel_rfl) (by kernel_rfl) (by kernel_rfl) (fun _ _ _ h=>h) (Or.inr ⟨by kernel_rfl,rfl⟩) ?_;simp only[List.setIfInBounds_toArray,List.set_cons_zero,List.set_cons_succ];refine wpAny_putD (i:=19) (d:=29) (v:=undef) rfl rfl (by kernel_rfl) (by kernel_rfl) (by kernel_rfl) (fun _ _ _ h=>h) (Or.inr ⟨by kernel_rfl,rfl⟩) ?_;simp only[List.setIfInBounds_toArray,List.set_cons_zero,List.set_cons_succ];refine wpAny_putD (i:=20) (d:=30) (v:=undef) rfl rfl (by kernel_rfl) (by kernel_rfl) (by kernel_rfl) (fun _ _ _ h=>h) (Or.inr ⟨by kernel_rfl,rfl⟩) ?_;simp only[List.setIfInBounds_toArray,List.set_cons_zero,List.set_cons_succ];refine wpAny_putD (i:=21) (d:=31) (v:=undef) rfl rfl (by kernel_rfl) (by kernel_rfl) (by kernel_rfl) (fun _ _ _ h=>h) (Or.inr ⟨by kernel_rfl,rfl⟩) ?_;simp only[List.setIfInBounds_toArray,List.set_cons_zero,List.set_cons_succ];refine wpAny_putD (i:=22) (d:=32) (v:=undef) rfl rfl (by kernel_rfl) (by kernel_rfl) (by kernel_rfl) (fun _ _ _ h=>h) (Or.inr ⟨by kernel_rfl,rfl⟩) ?_;simp only[List.setIfInBounds_toArray,List.set_cons_zero,List.set_cons_succ];refine wpAny_putD (i:=23) (d:=33) (v:=.bool true) rfl rfl (by kernel_rfl) (by kernel_rfl) (by kernel_rfl) (fun _ _ _ h=>h) (Or.inl ⟨by kernel_rfl,fun w=>?_⟩) ?_
    ·go_simp
    refine wpAny_done (by kernel_rfl) ?_ _;go_wp2;go_ret;exact⟨by rw[HX.out];rfl,btn HB.out.drew hb3⟩
   ·have HX1:=Hz_ (show fm (-1) v=(decide (ahead v k < sn) && fm (ahead v (k+1)) (v.drop (k+1))) by rw[HX0.out,hr];rfl);have hsn:0<=sn:=(HRI.out.1 hr).2.1;have HSN:=Hz_ hsn;rw[hr] at hRt;have HRt:=Hz_ hRt;clear hr hRt HX0 hsn;by_cases hk0:k=0
    ·have HX:=Hz_ (show fm (-1) v=fm (ahead v (k+1)) (v.drop (k+1)) by
      rw[HX1.out];have:decide (ahead v k < sn)=true:=by
       have e:ahead v k=-1:=by unfold ahead;rw[dif_neg (by omega)]
       have:=HSN.out;rw[e];simp;omega
      rw[this];rfl)
     subst hk0;have p0:(World.drew wr).cell? ⟨b,o,none⟩=some (.int .i64 sc):=by simpa using q0
     have p1:(World.drew wr).cell? ⟨b,o+1,none⟩=some (.int .i64 sn):=by simpa using q1
     clear hR hRb HX1 q0 q1 h0 h1;go_wp2;refine wp_region_any (by kernel_rfl) ?_;change wpAny _ _ _ _ _ _ _ (World.drew _);refine wpAny_putD (i:=0) (d:=10) (v:=.slice (some ⟨b,o,none⟩) n c) rfl rfl (by kernel_rfl) (by kernel_rfl) (by kernel_rfl) (fun _ _ _ h=>h) (Or.inl ⟨by kernel_rfl,fun w=>?_⟩) ?_
     ·go_simp
     refine wpAny_putD (i:=1) (d:=11) (v:=.int .i64 0) rfl rfl (by kernel_rfl) (by kernel_rfl) (by kernel_rfl) (fun _ _ _ h=>h) (Or.inl ⟨by kernel_rfl,fun w=>?_⟩) ?_
     ·go_simp
     refine wpAny_putD (i:=2) (d:=12) (v:=.pointer (some ⟨b,o,none⟩)) rfl rfl (by kernel_rfl) (by kernel_rfl) (by kernel_rfl) (fun _ _ _ h=>h) (Or.inl ⟨by kernel_rfl,fun w=>?_⟩) ?_
     ·go_simp
      try omega
      try (intro h;omega)
     refine wpAny_ready (rs:=[3]) (by kernel_rfl) (by simp) ?_;refine AllReady.cons rfl (fun K hK=>?_) AllReady.nil;go_simp;refine hK _ _ ?_;clear hK K;refine wpAny_ready (rs:=[4]) (by kernel_rfl) (by simp) ?_;refine AllReady.cons rfl (fun K hK=>?_) AllReady.nil;go_simp;refine(HRt.out _).mono ?_;rintro e w3 ⟨rfl,hb3⟩;refine hK _ _ ?_;clear hK K;refine wpAny_putD (i:=5) (d:=15) (v:=.bool false) rfl rfl (by kernel_rfl) (by kernel_rfl) (by kernel_rfl) (fun _ _ _ h=>h) (Or.inl ⟨by kernel_rfl,fun w=>?_⟩) ?_
     ·go_simp
     refine wpAny_putD (i:=6) (d:=16) (v:=.bool false) rfl rfl (by kernel_rfl) (by kernel_rfl) (by kernel_rfl) (fun _ _ _ h=>h) (Or.inl ⟨by kernel_rfl,fun w=>?_⟩) ?_
     ·go_simp
     refine wpAny_putD (i:=7) (d:=17) (v:=.int .i64 0) rfl rfl (by kernel_rfl) (by kernel_rfl) (by kernel_rfl) (fun _ _ _ h=>h) (Or.inl ⟨by kernel_rfl,fun w=>?_⟩) ?_
     ·go_simp
     refine wpAny_putD (i:=8) (d:=18) (v:=.bool false) rfl rfl (by kernel_rfl) (by kernel_rfl) (by kernel_rfl) (fun _ _ _ h=>h) (Or.inl ⟨by kernel_rfl,fun w=>?_⟩) ?_
     ·go_simp
     refine wpAny_putD (i:=9) (d:=19) (v:=.bool false) rfl rfl (by kernel_rfl) (by kernel_rfl) (by kernel_rfl) (fun _ _ _ h=>h) (Or.inl ⟨by kernel_rfl,fun w=>?_⟩) ?_
     ·go_simp
     refine wpAny_putD (i:=10) (d:=20) (v:=undef) rfl rfl (by kernel_rfl) (by kernel_rfl) (by kernel_rfl) (fun _ _ _ h=>h) (Or.inr ⟨by kernel_rfl,rfl⟩) ?_;simp only[List.setIfInBounds_toArray,List.set_cons_zero,List.set_cons_succ];refine wpAny_putD (i:=11) (d:=21) (v:=undef) rfl rfl (by kernel_rfl) (by kernel_rfl) (by kernel_rfl) (fun _ _ _ h=>h) (Or.inr ⟨by kernel_rfl,rfl⟩) ?_;simp only[List.setIfInBounds_toArray,List.set_cons_zero,List.set_cons_succ];refine wpAny_putD (i:=12) (d:=22) (v:=undef) rfl rfl (by kernel_rfl) (by kernel_rfl) (by kernel_rfl) (fun _ _ _ h=>h) (Or.inr ⟨by kernel_rfl,rfl⟩) ?_;simp only[List.setIfInBounds_toArray,List.set_cons_zero,List.set_cons_succ];refine wpAny_putD (i:=13) (d:=23) (v:=undef) rfl rfl (by kernel_rfl) (by kernel_rfl) (by kernel_rfl) (fun _ _ _ h=>h) (Or.inr ⟨by kernel_rfl,rfl⟩) ?_;simp only[List.setIfInBounds_toArray,List.set_cons_zero,List.set_cons_succ];refine wpAny_putD (i:=14) (d:=24) (v:=undef) rfl rfl (by kernel_rfl) (by kernel_rfl) (by kernel_rfl) (fun _ _ _ h=>h) (Or.inr ⟨by kernel_rfl,rfl⟩) ?_;simp only[List.setIfInBounds_toArray,List.set_cons_zero,List.set_cons_succ];refine wpAny_putD (i:=15) (d:=25) (v:=undef) rfl rfl (by kernel_rfl) (by kernel_rfl) (by kernel_rfl) (fun _ _ _ h=>h) (Or.inr ⟨by kernel_rfl,rfl⟩) ?_;simp only[List.setIfInBounds_toArray,List.set_cons_zero,List.set_cons_succ];refine wpAny_putD (i:=16) (d:=26) (v:=undef) rfl rfl (by kernel_rfl) (by kernel_rfl) (by kernel_rfl) (fun _ _ _ h=>h) (Or.inr ⟨by kernel_rfl,rfl⟩) ?_;simp only[List.setIfInBounds_toArray,List.set_cons_zero,List.set_cons_succ];refine wpAny_putD (i:=17) (d:=27) (v:=undef) rfl rfl (by kernel_rfl) (by kernel_rfl) (by kernel_rfl) (fun _ _ _ h=>h) (Or.inr ⟨by kernel_rfl,rfl⟩) ?_;simp only[List.setIfInBounds_toArray,List.set_cons_zero,List.set_cons_succ];refine wpAny_putD (i:=18) (d:=28) (v:=undef) rfl rfl (by kernel_rfl) (by kernel_rfl) (by kernel_rfl) (fun _ _ _ h=>h) (Or.inr ⟨by kernel_rfl,rfl⟩) ?_;simp only[List.setIfInBounds_toArray,List.set_cons_zero,List.set_cons_succ];refine wpAny_putD (i:=19) (d:=29) (v:=undef) rfl rfl (by kernel_rfl) (by kernel_rfl) (by kernel_rfl) (fun _ _ _ h=>h) (Or.inr ⟨by kernel_rfl,rfl⟩) ?_;simp only[List.setIfInBounds_toArray,List.set_cons_zero,List.set_cons_succ];refine wpAny_putD (i:=20) (d:=30) (v:=undef) rfl rfl (by kernel_rfl) (by kernel_rfl) (by kernel_rfl) (fun _ _ _ h=>h) (Or.inr ⟨by kernel_rfl,rfl⟩) ?_;simp only[List.setIfInBounds_toArray,List.set_cons_zero,List.set_cons_succ];refine wpAny_putD (i:=21) (d:=31) (v:=undef) rfl rfl (by kernel_rfl) (by kernel_rfl) (by kernel_rfl) (fun _ _ _ h=>h) (Or.inr ⟨by kernel_rfl,rfl⟩) ?_;simp only[List.setIfInBounds_toArray,List.set_cons_zero,List.set_cons_succ];refine wpAny_putD (i:=22) (d:=32) (v:=.bool false) rfl rfl (by kernel_rfl) (by kernel_rfl) (by kernel_rfl) (fun _ _ _ h=>h) (Or.inl ⟨by kernel_rfl,fun w=>?_⟩) ?_
     ·go_simp
     refine wpAny_putD (i:=23) (d:=33) (v:=.bool false) rfl rfl (by kernel_rfl) (by kernel_rfl) (by kernel_rfl) (fun _ _ _ h=>h) (Or.inl ⟨by kernel_rfl,fun w=>?_⟩) ?_
     ·go_simp
     refine wpAny_done (by kernel_rfl) ?_ _;go_wp2;go_roundw
     case rel=>exact⟨0+1,by omega,by go_num,HX.out,btn HB.out.drew hb3⟩
     case measure=>simp[intOf];omega
    ·have hR2:=hRb;obtain⟨b',o',hA2,_,_,hp1⟩:=hR2.stamp hl (show k - 1 < n by omega);injection hA2 with hA2;injection hA2 with hb' ho' _;subst hb' ho';have hah:ahead v k=(v[k - 1]'(by omega)).2:=by unfold ahead;rw[dif_pos ⟨hk0,by omega⟩]
     rw[<-hah] at hp1;generalize ahead v k=sl at hp1 HX1;have q2:(World.drew wr).cell? ⟨b,o+(k - 1) * 2+1,none⟩=some (.int .i64 sl):=hp1;have hw:IntKind.i64.wrap ((k:Int) - 1)=((k - 1:Nat):Int):=by rw[IntKind.wrap_i64];omega
     have hkp:(0:Int) < (k:Int):=by omega
     have hk1:((k - 1:Nat):Int) < (n:Int):=by omega
     clear hR hRb hah hp1 hR2 h0 h1;by_cases hle:sn<=sl
     ·have HX:=Hz_ (show fm (-1) v=false by
       rw[HX1.out];rw[show decide (sl < sn)=false by simp;omega];rfl)
      clear HX1;go_wp2;refine wp_region_any (by kernel_rfl) ?_;change wpAny _ _ _ _ _ _ _ (World.drew _);refine wpAny_putD (i:=0) (d:=10) (v:=.slice (some ⟨b,o,none⟩) n c) rfl rfl (by kernel_rfl) (by kernel_rfl) (by kernel_rfl) (fun _ _ _ h=>h) (Or.inl ⟨by kernel_rfl,fun w=>?_⟩) ?_
      ·go_simp
      refine wpAny_putD (i:=1) (d:=11) (v:=.int .i64 (k:Int)) rfl rfl (by kernel_rfl) (by kernel_rfl) (by kernel_rfl) (fun _ _ _ h=>h) (Or.inl ⟨by kernel_rfl,fun w=>?_⟩) ?_
      ·go_simp
      refine wpAny_putD (i:=2) (d:=12) (v:=.pointer (some ⟨b,o+k * 2,none⟩)) rfl rfl (by kernel_rfl) (by kernel_rfl) (by kernel_rfl) (fun _ _ _ h=>h) (Or.inl ⟨by kernel_rfl,fun w=>?_⟩) ?_
      ·go_simp
       try omega
       try (intro h;omega)
      refine wpAny_ready (rs:=[3]) (by kernel_rfl) (by simp) ?_;refine AllReady.cons rfl (fun K hK=>?_) AllReady.nil;go_simp;refine hK _ _ ?_;clear hK K;refine wpAny_ready (rs:=[4]) (by kernel_rfl) (by simp) ?_;refine AllReady.cons rfl (fun K hK=>?_) AllReady.nil;go_simp;refine(HRt.out _).mono ?_;rintro e w3 ⟨rfl,hb3⟩;have hb4:=btn HB.out.drew hb3;have q4:=(hb3.cell (World.block_lt_of_cell? _ _ q1)).trans q1;have q5:=(hb3.cell (World.block_lt_of_cell? _ _ q2)).trans q2;refine hK _ _ ?_;clear hK K;refine wpAny_putD (i:=5) (d:=15) (v:=.bool false) rfl rfl (by kernel_rfl) (by kernel_rfl) (by kernel_rfl) (fun _ _ _ h=>h) (Or.inl ⟨by kernel_rfl,fun w=>?_⟩) ?_
      ·go_simp
      refine wpAny_putD (i:=6) (d:=16) (v:=.bool false) rfl rfl (by kernel_rfl) (by kernel_rfl) (by kernel_rfl) (fun _ _ _ h=>h) (Or.inl ⟨by kernel_rfl,fun w=>?_⟩) ?_
      ·go_simp
      refine wpAny_putD (i:=7) (d:=17) (v:=.int .i64 (k:Int)) rfl rfl (by kernel_rfl) (by kernel_rfl) (by kernel_rfl) (fun _ _ _ h=>h) (Or.inl ⟨by kernel_rfl,fun w=>?_⟩) ?_
      ·go_simp
      refine wpAny_putD (i:=8) (d:=18) (v:=.bool true) rfl rfl (by kernel_rfl) (by kernel_rfl) (by kernel_rfl) (fun _ _ _ h=>h) (Or.inl ⟨by kernel_rfl,fun w=>?_⟩) ?_
      ·go_simp
       try omega
       try (intro h;omega)
      refine wpAny_putD (i:=9) (d:=19) (v:=.bool true) rfl rfl (by kernel_rfl) (by kernel_rfl) (by kernel_rfl) (fun _ _ _ h=>h) (Or.inl ⟨by kernel_rfl,fun w=>?_⟩) ?_
      ·go_simp
      refine wpAny_putD (i:=10) (d:=20) (v:=.slice (some ⟨b,o,none⟩) n c) rfl rfl (by kernel_rfl) (by kernel_rfl) (by kernel_rfl) (fun _ _ _ h=>h) (Or.inl ⟨by kernel_rfl,fun w=>?_⟩) ?_
      ·go_simp
      refine wpAny_putD (i:=11) (d:=21) (v:=.int .i64 (k:Int)) rfl rfl (by kernel_rfl) (by kernel_rfl) (by kernel_rfl) (fun _ _ _ h=>h) (Or.inl ⟨by kernel_rfl,fun w=>?_⟩) ?_
      ·go_simp
      refine wpAny_putD (i:=12) (d:=22) (v:=.int .i64 ((k - 1:Nat):Int)) rfl rfl (by kernel_rfl) (by kernel_rfl) (by kernel_rfl) (fun _ _ _ h=>h) (Or.inl ⟨by kernel_rfl,fun w=>?_⟩) ?_
      ·go_simp
       try omega
       try (intro h;omega)
      refine wpAny_putD (i:=13) (d:=23) (v:=.pointer (some ⟨b,o+(k - 1) * 2,none⟩)) rfl rfl (by kernel_rfl) (by kernel_rfl) (by kernel_rfl) (fun _ _ _ h=>h) (Or.inl ⟨by kernel_rfl,fun w=>?_⟩) ?_
      ·go_simp
       try omega
       try (intro h;omega)
      refine wpAny_putD (i:=14) (d:=24) (v:=.pointer (some ⟨b,o+(k - 1) * 2+1,none⟩)) rfl rfl (by kernel_rfl) (by kernel_rfl) (by kernel_rfl) (fun _ _ _ h=>h) (Or.inl ⟨by kernel_rfl,fun w=>?_⟩) ?_
      ·go_simp
      refine wpAny_putD (i:=16) (d:=26) (v:=.slice (some ⟨b,o,none⟩) n c) rfl rfl (by kernel_rfl) (by kernel_rfl) (by kernel_rfl) (fun _ _ _ h=>h) (Or.inl ⟨by kernel_rfl,fun w=>?_⟩) ?_
      ·go_simp
      refine wpAny_putD (i:=17) (d:=27) (v:=.int .i64 (k:Int)) rfl rfl (by kernel_rfl) (by kernel_rfl) (by kernel_rfl) (fun _ _ _ h=>h) (Or.inl ⟨by kernel_rfl,fun w=>?_⟩) ?_
      ·go_simp
      refine wpAny_putD (i:=18) (d:=28) (v:=.pointer (some ⟨b,o+k * 2,none⟩)) rfl rfl (by kernel_rfl) (by kernel_rfl) (by kernel_rfl) (fun _ _ _ h=>h) (Or.inl ⟨by kernel_rfl,fun w=>?_⟩) ?_
      ·go_simp
       try omega
       try (intro h;omega)
      refine wpAny_putD (i:=19) (d:=29) (v:=.pointer (some ⟨b,o+k * 2+1,none⟩)) rfl rfl (by kernel_rfl) (by kernel_rfl) (by kernel_rfl) (fun _ _ _ h=>h) (Or.inl ⟨by kernel_rfl,fun w=>?_⟩) ?_
      ·go_simp
      refine wpAny_ready (rs:=[15,20]) (by kernel_rfl) (by simp) ?_;refine AllReady.cons rfl (fun K hK=>?_) (AllReady.cons rfl (fun K hK=>?_) AllReady.nil)
      ·go_simp;refine hK _ _ ?_;clear hK K;refine wpAny_ready (rs:=[20]) (by kernel_rfl) (by simp) ?_;refine AllReady.cons rfl (fun K hK=>?_) AllReady.nil;go_simp;refine hK _ _ ?_;clear hK K;refine wpAny_putD (i:=21) (d:=31) (v:=.bool true) rfl rfl (by kernel_rfl) (by kernel_rfl) (by kernel_rfl) (fun _ _ _ h=>h) (Or.inl ⟨by kernel_rfl,fun w=>?_⟩) ?_
       ·go_simp
       refine wpAny_putD (i:=22) (d:=32) (v:=.bool true) rfl rfl (by kernel_rfl) (by kernel_rfl) (by kernel_rfl) (fun _ _ _ h=>h) (Or.inl ⟨by kernel_rfl,fun w=>?_⟩) ?_
       ·go_simp
       refine wpAny_putD (i:=23) (d:=33) (v:=.bool true) rfl rfl (by kernel_rfl) (by kernel_rfl) (by kernel_rfl) (fun _ _ _ h=>h) (Or.inl ⟨by kernel_rfl,fun w=>?_⟩) ?_
       ·go_simp
       refine wpAny_done (by kernel_rfl) ?_ _;go_wp2;go_ret;exact⟨by rw[HX.out];rfl,hb4⟩
      ·go_simp;refine hK _ _ ?_;clear hK K;refine wpAny_ready (rs:=[15]) (by kernel_rfl) (by simp) ?_;refine AllReady.cons rfl (fun K hK=>?_) AllReady.nil;go_simp;refine hK _ _ ?_;clear hK K;refine wpAny_putD (i:=21) (d:=31) (v:=.bool true) rfl rfl (by kernel_rfl) (by kernel_rfl) (by kernel_rfl) (fun _ _ _ h=>h) (Or.inl ⟨by kernel_rfl,fun w=>?_⟩) ?_
       ·go_simp
       refine wpAny_putD (i:=22) (d:=32) (v:=.bool true) rfl rfl (by kernel_rfl) (by kernel_rfl) (by kernel_rfl) (fun _ _ _ h=>h) (Or.inl ⟨by kernel_rfl,fun w=>?_⟩) ?_
       ·go_simp
       refine wpAny_putD (i:=23) (d:=33) (v:=.bool true) rfl rfl (by kernel_rfl) (by kernel_rfl) (by kernel_rfl) (fun _ _ _ h=>h) (Or.inl ⟨by kernel_rfl,fun w=>?_⟩) ?_
       ·go_simp
       refine wpAny_done (by kernel_rfl) ?_ _;go_wp2;go_ret;exact⟨by rw[HX.out];rfl,hb4⟩
     ·have HX:=Hz_ (show fm (-1) v=fm (ahead v (k+1)) (v.drop (k+1)) by
       rw[HX1.out];rw[show decide (sl < sn)=true by simp;omega];rfl)
      clear HX1;go_wp2;refine wp_region_any (by kernel_rfl) ?_;change wpAny _ _ _ _ _ _ _ (World.drew _);refine wpAny_putD (i:=0) (d:=10) (v:=.slice (some ⟨b,o,none⟩) n c) rfl rfl (by kernel_rfl) (by kernel_rfl) (by kernel_rfl) (fun _ _ _ h=>h) (Or.inl ⟨by kernel_rfl,fun w=>?_⟩) ?_
      ·go_simp
      refine wpAny_putD (i:=1) (d:=11) (v:=.int .i64 (k:Int)) rfl rfl (by kernel_rfl) (by kernel_rfl) (by kernel_rfl) (fun _ _ _ h=>h) (Or.inl ⟨by kernel_rfl,fun w=>?_⟩) ?_
      ·go_simp
      refine wpAny_putD (i:=2) (d:=12) (v:=.pointer (some ⟨b,o+k * 2,none⟩)) rfl rfl (by kernel_rfl) (by kernel_rfl) (by kernel_rfl) (fun _ _ _ h=>h) (Or.inl ⟨by kernel_rfl,fun w=>?_⟩) ?_
      ·go_simp
       try omega
       try (intro h;omega)
      refine wpAny_ready (rs:=[3]) (by kernel_rfl) (by simp) ?_;refine AllReady.cons rfl (fun K hK=>?_) AllReady.nil;go_simp;refine hK _ _ ?_;clear hK K;refine wpAny_ready (rs:=[4]) (by kernel_rfl) (by simp) ?_;refine AllReady.cons rfl (fun K hK=>?_) AllReady.nil;go_simp;refine(HRt.out _).mono ?_;rintro e w3 ⟨rfl,hb3⟩;have hb4:=btn HB.out.drew hb3;have q4:=(hb3.cell (World.block_lt_of_cell? _ _ q1)).trans q1;have q5:=(hb3.cell (World.block_lt_of_cell? _ _ q2)).trans q2;refine hK _ _ ?_;clear hK K;refine wpAny_putD (i:=5) (d:=15) (v:=.bool false) rfl rfl (by kernel_rfl) (by kernel_rfl) (by kernel_rfl) (fun _ _ _ h=>h) (Or.inl ⟨by kernel_rfl,fun w=>?_⟩) ?_
      ·go_simp
      refine wpAny_putD (i:=6) (d:=16) (v:=.bool false) rfl rfl (by kernel_rfl) (by kernel_rfl) (by kernel_rfl) (fun _ _ _ h=>h) (Or.inl ⟨by kernel_rfl,fun w=>?_⟩) ?_
      ·go_simp
      refine wpAny_putD (i:=7) (d:=17) (v:=.int .i64 (k:Int)) rfl rfl (by kernel_rfl) (by kernel_rfl) (by kernel_rfl) (fun _ _ _ h=>h) (Or.inl ⟨by kernel_rfl,fun w=>?_⟩) ?_
      ·go_simp
      refine wpAny_putD (i:=8) (d:=18) (v:=.bool true) rfl rfl (by kernel_rfl) (by kernel_rfl) (by kernel_rfl) (fun _ _ _ h=>h) (Or.inl ⟨by kernel_rfl,fun w=>?_⟩) ?_
      ·go_simp
       try omega
       try (intro h;omega)
      refine wpAny_putD (i:=9) (d:=19) (v:=.bool true) rfl rfl (by kernel_rfl) (by kernel_rfl) (by kernel_rfl) (fun _ _ _ h=>h) (Or.inl ⟨by kernel_rfl,fun w=>?_⟩) ?_
      ·go_simp
      refine wpAny_putD (i:=10) (d:=20) (v:=.slice (some ⟨b,o,none⟩) n c) rfl rfl (by kernel_rfl) (by kernel_rfl) (by kernel_rfl) (fun _ _ _ h=>h) (Or.inl ⟨by kernel_rfl,fun w=>?_⟩) ?_
      ·go_simp
      refine wpAny_putD (i:=11) (d:=21) (v:=.int .i64 (k:Int)) rfl rfl (by kernel_rfl) (by kernel_rfl) (by kernel_rfl) (fun _ _ _ h=>h) (Or.inl ⟨by kernel_rfl,fun w=>?_⟩) ?_
      ·go_simp
      refine wpAny_putD (i:=12) (d:=22) (v:=.int .i64 ((k - 1:Nat):Int)) rfl rfl (by kernel_rfl) (by kernel_rfl) (by kernel_rfl) (fun _ _ _ h=>h) (Or.inl ⟨by kernel_rfl,fun w=>?_⟩) ?_
      ·go_simp
       try omega
       try (intro h;omega)
      refine wpAny_putD (i:=13) (d:=23) (v:=.pointer (some ⟨b,o+(k - 1) * 2,none⟩)) rfl rfl (by kernel_rfl) (by kernel_rfl) (by kernel_rfl) (fun _ _ _ h=>h) (Or.inl ⟨by kernel_rfl,fun w=>?_⟩) ?_
      ·go_simp
       try omega
       try (intro h;omega)
      refine wpAny_putD (i:=14) (d:=24) (v:=.pointer (some ⟨b,o+(k - 1) * 2+1,none⟩)) rfl rfl (by kernel_rfl) (by kernel_rfl) (by kernel_rfl) (fun _ _ _ h=>h) (Or.inl ⟨by kernel_rfl,fun w=>?_⟩) ?_
      ·go_simp
      refine wpAny_putD (i:=16) (d:=26) (v:=.slice (some ⟨b,o,none⟩) n c) rfl rfl (by kernel_rfl) (by kernel_rfl) (by kernel_rfl) (fun _ _ _ h=>h) (Or.inl ⟨by kernel_rfl,fun w=>?_⟩) ?_
      ·go_simp
      refine wpAny_putD (i:=17) (d:=27) (v:=.int .i64 (k:Int)) rfl rfl (by kernel_rfl) (by kernel_rfl) (by kernel_rfl) (fun _ _ _ h=>h) (Or.inl ⟨by kernel_rfl,fun w=>?_⟩) ?_
      ·go_simp
      refine wpAny_putD (i:=18) (d:=28) (v:=.pointer (some ⟨b,o+k * 2,none⟩)) rfl rfl (by kernel_rfl) (by kernel_rfl) (by kernel_rfl) (fun _ _ _ h=>h) (Or.inl ⟨by kernel_rfl,fun w=>?_⟩) ?_
      ·go_simp
       try omega
       try (intro h;omega)
      refine wpAny_putD (i:=19) (d:=29) (v:=.pointer (some ⟨b,o+k * 2+1,none⟩)) rfl rfl (by kernel_rfl) (by kernel_rfl) (by kernel_rfl) (fun _ _ _ h=>h) (Or.inl ⟨by kernel_rfl,fun w=>?_⟩) ?_
      ·go_simp
      refine wpAny_ready (rs:=[15,20]) (by kernel_rfl) (by simp) ?_;refine AllReady.cons rfl (fun K hK=>?_) (AllReady.cons rfl (fun K hK=>?_) AllReady.nil)
      ·go_simp;refine hK _ _ ?_;clear hK K;refine wpAny_ready (rs:=[20]) (by kernel_rfl) (by simp) ?_;refine AllReady.cons rfl (fun K hK=>?_) AllReady.nil;go_simp;refine hK _ _ ?_;clear hK K;refine wpAny_putD (i:=21) (d:=31) (v:=.bool false) rfl rfl (by kernel_rfl) (by kernel_rfl) (by kernel_rfl) (fun _ _ _ h=>h) (Or.inl ⟨by kernel_rfl,fun w=>?_⟩) ?_
       ·go_simp
       refine wpAny_putD (i:=22) (d:=32) (v:=.bool false) rfl rfl (by kernel_rfl) (by kernel_rfl) (by kernel_rfl) (fun _ _ _ h=>h) (Or.inl ⟨by kernel_rfl,fun w=>?_⟩) ?_
       ·go_simp
       refine wpAny_putD (i:=23) (d:=33) (v:=.bool false) rfl rfl (by kernel_rfl) (by kernel_rfl) (by kernel_rfl) (fun _ _ _ h=>h) (Or.inl ⟨by kernel_rfl,fun w=>?_⟩) ?_
       ·go_simp
       refine wpAny_done (by kernel_rfl) ?_ _;go_wp2;go_roundw
       case rel=>exact⟨k+1,by omega,by go_num,HX.out,hb4⟩
       case measure=>simp[intOf];omega
      ·go_simp;refine hK _ _ ?_;clear hK K;refine wpAny_ready (rs:=[15]) (by kernel_rfl) (by simp) ?_;refine AllReady.cons rfl (fun K hK=>?_) AllReady.nil;go_simp;refine hK _ _ ?_;clear hK K;refine wpAny_putD (i:=21) (d:=31) (v:=.bool false) rfl rfl (by kernel_rfl) (by kernel_rfl) (by kernel_rfl) (fun _ _ _ h=>h) (Or.inl ⟨by kernel_rfl,fun w=>?_⟩) ?_
       ·go_simp
       refine wpAny_putD (i:=22) (d:=32) (v:=.bool false) rfl rfl (by kernel_rfl) (by kernel_rfl) (by kernel_rfl) (fun _ _ _ h=>h) (Or.inl ⟨by kernel_rfl,fun w=>?_⟩) ?_
       ·go_simp
       refine wpAny_putD (i:=23) (d:=33) (v:=.bool false) rfl rfl (by kernel_rfl) (by kernel_rfl) (by kernel_rfl) (fun _ _ _ h=>h) (Or.inl ⟨by kernel_rfl,fun w=>?_⟩) ?_
       ·go_simp
       refine wpAny_done (by kernel_rfl) ?_ _;go_wp2;go_roundw
       case rel=>exact⟨k+1,by omega,by go_num,HX.out,hb4⟩
       case measure=>simp[intOf];omega
  ·obtain rfl:k=n:=by omega
   have HX:=Hz_ (show fm (-1) v=true by rw[hfm,List.drop_of_length_le (by omega)];rfl);clear hfm;go_wp2;go_ret;exact⟨ret_bool (by rw[HX.out]),hb⟩
end Go.Proofs.YtmbeahbgafkjfaaGreatDoor
namespace Go.Proofs.YtmbeahbgafkjfaaGreatDoor
open Go.RowKit
end Go.Proofs.YtmbeahbgafkjfaaGreatDoor
namespace Go.Proofs.YtmbeahbgafkjfaaGreatDoor
open Go.RowKit
def lastN:Int->List Vc.St->Int
 | l,[]=>l
 | _,t :: r=>lastN t.2 r
theorem lastN_snoc (last:Int) (v:List Vc.St) (s:Vc.St):lastN last (v++[s])=s.2:=by
 induction v generalizing last with
 | nil=>rfl
 | cons t r ih=>rw[List.cons_append,lastN,ih]
theorem fm_snoc (last:Int) (v:List Vc.St) (s:Vc.St):fm last (v++[s])=(fm last v && (Vc.right s && decide (lastN last v < s.2))):=by
 induction v generalizing last with
 | nil=>rw[List.nil_append,fm,fm,fm,lastN,Bool.and_true,Bool.true_and]
 | cons t r ih=>rw[List.cons_append,fm,fm,ih,lastN,Bool.and_assoc,Bool.and_assoc]
theorem vec_formed (f:Nat->Int):∀k,k<=64->fm (-1) (vecTo f (pos f) k)=true/\lastN (-1) (vecTo f (pos f) k) < k:=by
 intro k
 induction k with
 | zero=>intro _;exact⟨rfl,by show lastN (-1) [] < ((0:Nat):Int);decide⟩
 | succ k ih=>
  intro hk;obtain⟨h1,h2⟩:=ih (by omega);by_cases hp:pos f k=true
  ·rw[vecTo_hit f _ k hp,fm_snoc,h1,lastN_snoc];have h0:0 < f k:=by simpa[pos] using hp
   have hr:Vc.right (f k,(k:Int))=true:=(Vc.right_iff _).2 ⟨h0,by simp,by simp;omega⟩;rw[hr];exact⟨by simpa using h2,by simp only;omega⟩
  ·rw[vecTo_miss f _ k (by simpa using hp)];exact⟨h1,by omega⟩
end Go.Proofs.YtmbeahbgafkjfaaGreatDoor
namespace Go.Proofs.YtmbeahbgafkjfaaGreatDoor
open Go.RowKit
theorem cnt_vecTo {f:Nat->Int} (h0:∀n,0<=f n) (n:Nat):∀k,k<=64->Vc.cnt (vecTo f (pos f) k) n=if n < k then f n else 0:=by
 intro k
 induction k with
 | zero=>intro _;rfl
 | succ k ih=>
  intro hk;have h1:=h0 k;by_cases hp:pos f k=true
  ·have h2:0 < f k:=by simpa[pos] using hp
   have hr:Vc.right (f k,(k:Int))=true:=(Vc.right_iff _).2 ⟨h2,by simp,by simp;omega⟩;rw[vecTo_hit f _ k hp,Vc.cnt_snoc,ih (by omega),hr];by_cases hn:n < k
   ·rw[if_pos hn,if_pos (show n < k+1 by omega),if_neg];rintro⟨_,_,h⟩;simp only at h;omega
   ·rw[if_neg hn];by_cases he:n=k
    ·subst he;rw[if_pos ⟨rfl,rfl,rfl⟩,if_pos (by omega)]
    ·rw[if_neg (by rintro⟨_,_,h⟩;simp only at h;omega),if_neg (by omega)]
  ·have hp':pos f k=false:=by simpa using hp
   have h2:f k=0:=by
    have:¬ 0 < f k:=by simpa[pos] using hp'
    omega
   rw[vecTo_miss f _ k hp',ih (by omega)];by_cases hn:n < k
   ·rw[if_pos hn,if_pos (by omega)]
   ·rw[if_neg hn];by_cases he:n=k
    ·subst he;rw[if_pos (by omega),h2]
    ·rw[if_neg (by omega)]
theorem cnt_vec {f:Nat->Int} (h0:∀n,0<=f n) {n:Nat} (hn:n < 64):Vc.cnt (vec f) n=f n:=by
 rw[vec,cnt_vecTo h0 n 64 Zl,if_pos hn]
theorem jn_two (u v:List Vc.St) (n:Nat):jn [u,v] n=max (Vc.cnt u n) (Vc.cnt v n):=by
 have h:=Vc.cnt_nonneg u n;show max (max 0 (Vc.cnt u n)) (Vc.cnt v n)=_;rw[Int.max_eq_right h]
theorem cnt_join (u v:List Vc.St) {n:Nat} (hn:n < 64):Vc.cnt (vec (jn [u,v])) n=max (Vc.cnt u n) (Vc.cnt v n):=by
 rw[cnt_vec (jn_nonneg _) hn,jn_two]
theorem formed_vec (f:Nat->Int):fm (-1) (vec f)=true:=(vec_formed f 64 Zl).1
end Go.Proofs.YtmbeahbgafkjfaaGreatDoor
