/- Lemmas for the claim, layer 6. -/
import Derived.Test.YtmbeahbgafkjfaaGreatDoorKb05
set_option maxRecDepth 100000
set_option maxHeartbeats 16000000
namespace Go.Proofs.YtmbeahbgafkjfaaGreatDoor
open Go.RowKit
def ixS (x:Int):Nat→List Sn.Sp→Int
 | _,[]=>-1
 | k,s :: r=>if (decide (s.1≤x) && decide (x≤s.2))=true then (k:Int) else ixS x (k+1) r
theorem ixS_drop (x:Int) (k:Nat) (l:List Sn.Sp) (h:k < l.length):ixS x k (l.drop k)=if (decide (l[k].1≤x) && decide (x≤l[k].2))=true then (k:Int) else ixS x (k+1) (l.drop (k+1)):=by
 rw[List.drop_eq_getElem_cons h,ixS]
theorem ixS_in (x:Int) (k:Nat) (l:List Sn.Sp):decide (0≤ixS x k l)=Sn.inB l x:=by
 induction l generalizing k with
 | nil=>rfl
 | cons s r ih=>
  rw[ixS,Sn.inB_cons]
  cases decide (s.1≤x) && decide (x≤s.2)
  ·simpa using ih (k+1)
  ·simp
theorem indexS_any (A:Option Addr) (n c:Nat) (l:List Sn.Sp) (x:Int) (Bx:Nat) (w:World) (hx:w.cell? ⟨Bx,0,none⟩=some (.int .i64 x)) (hl:l.length=n) (hR:Rd w w.heap.size 2 A n c (sv l)):
  Calls Tryz.prog 204 #[.slice A n c,.func (.func 172) #[] #[.pointer (some ⟨Bx,0,none⟩)]] w fun e w'=>e=.returned (.int .i64 (ixS x 0 l))∧Below w.heap.size w w':=by
 have hmax:n≤9223372036854775807:=by have h1:=hR.cap;have h2:=hR.max;unfold maxLen at h2;omega
 have hBx:=World.block_lt_of_cell? _ _ hx
 have HXC:=Hz_ hx
 clear hx
 go_enter Tryz.func204,Tryz.ntmps204
 go_wp2
 go_loopw [8] (fun i wr=>∃(k:Nat),k≤n∧i=.int .i64 k∧Below w.heap.size w wr∧Hid (ixS x 0 l=ixS x k (l.drop k))) (fun i _=>n - (intOf i).toNat)
 case atStart=>exact⟨0,by omega,rfl,Below.refl _ _,rfl⟩
 case round=>
  obtain⟨k,hk,rfl,hb,hf⟩:=hrel
  by_cases hlt:k < n
  ·have hkl:k < l.length:=by omega
   obtain⟨b,o,rfl,hab,h0,h1⟩:=(hR.below hb).stamp hl hlt
   have HD:=Hz_ (ixS_drop x k l hkl)
   generalize hlo:(l[k]'hkl).1=lo at h0 HD
   generalize hhi:(l[k]'hkl).2=hi at h1 HD
   have H1:=hasTest_any lo hi x Bx wr ((hb.cell (p:=⟨Bx,0,none⟩) hBx).trans HXC.out)
   have HB:=Hz_ hb
   have HF:=hf.out.trans HD.out
   generalize (decide (lo≤x) && decide (x≤hi))=z at H1 HF
   have H1:=Hz_ H1
   have HF:=Hz_ HF
   clear hlo hhi hb hf HD hR hl
   cases z
   ·go_wp2_with (go_at_call 172;go_must (refine H1.out.mono ?_);rintro e w1 ⟨rfl,hb1⟩)
    go_roundw
    case rel=>exact⟨k+1,by omega,by go_num,btn HB.out hb1,by show _=_;rw[HF.out];rfl⟩
    case measure=>simp[intOf];omega
   ·go_wp2_with (go_at_call 172;go_must (refine H1.out.mono ?_);rintro e w1 ⟨rfl,hb1⟩)
    go_ret
    exact⟨by rw[HF.out];rfl,btn HB.out hb1⟩
  ·obtain rfl:k=n:=by omega
   have HN:=Hz_ (show ixS x 0 l=-1 by rw[hf.out,List.drop_of_length_le (by omega)];rfl)
   have HB:=Hz_ hb
   clear hb hf hR hl
   go_wp2
   go_ret
   exact⟨by rw[HN.out];rfl,HB.out⟩
theorem containsS_any (A:Option Addr) (n c:Nat) (l:List Sn.Sp) (x:Int) (Bx:Nat) (w:World) (hx:w.cell? ⟨Bx,0,none⟩=some (.int .i64 x)) (hl:l.length=n) (hR:Rd w w.heap.size 2 A n c (sv l)):
  Calls Tryz.prog 171 #[.slice A n c,.func (.func 172) #[] #[.pointer (some ⟨Bx,0,none⟩)]] w fun e w'=>e=.returned (.bool (Sn.inB l x))∧Below w.heap.size w w':=by
 have H1:=indexS_any A n c l x Bx w hx hl hR
 have HN:=Hz_ (ixS_in x 0 l)
 generalize ixS x 0 l=z at H1 HN
 have H1:=Hz_ H1
 clear hx hl hR
 go_enter Tryz.func171,Tryz.ntmps171
 go_wp2_with (go_at_call 204;go_must (refine H1.out.mono ?_);rintro e w1 ⟨rfl,hb1⟩)
 go_ret
 exact⟨ret_bool HN.out,hb1⟩
theorem hasS_any (A:Option Addr) (n c:Nat) (l:List Sn.Sp) (x:Int) (w:World) (hl:l.length=n) (hR:Rd w w.heap.size 2 A n c (sv l)):
  Calls Tryz.prog 111 #[.slice A n c,.int .i64 x] w fun e w'=>e=.returned (.bool (hasO l x))∧Below w.heap.size w w':=by
 have hb0:Below w.heap.size w (w.alloc (.cells #[.int .i64 x] 3)):=(Below.refl _ _).alloc (Nat.le_refl _) _
 have hBx:=Blk.new w 3 #[.int .i64 x]
 by_cases h1:0≤x
 ·by_cases h2:x≤255
  ·have HX:=Hz_ (show hasO l x=Sn.inB l x by unfold hasO;simp[h1,h2])
   have H1:=Hz_ (containsS_any A n c l x w.heap.size _ (hBx.cell 0) hl (hR.go hb0))
   generalize Sn.inB l x=z at H1 HX
   clear hl hR hBx
   go_enter Tryz.func111,Tryz.ntmps111
   go_wp2_with (go_at_call 171;go_must (refine H1.out.mono ?_);rintro e w1 ⟨rfl,hb1⟩)
   go_ret
   exact⟨by rw[HX.out];rfl,btn hb0 hb1⟩
  ·have HX:=Hz_ (show hasO l x=false by unfold hasO;simp[h2])
   have hd:decide (x≤255)=false:=by simpa using h2
   clear hl hR hBx
   go_enter Tryz.func111,Tryz.ntmps111
   go_wp2
   go_ret
   exact⟨by rw[HX.out];rfl,hb0⟩
 ·have HX:=Hz_ (show hasO l x=false by unfold hasO;simp[h1])
  have hd:decide (0≤x)=false:=by simpa using h1
  clear hl hR hBx
  go_enter Tryz.func111,Tryz.ntmps111
  go_wp2
  go_ret
  exact⟨by rw[HX.out];rfl,hb0⟩
end Go.Proofs.YtmbeahbgafkjfaaGreatDoor
