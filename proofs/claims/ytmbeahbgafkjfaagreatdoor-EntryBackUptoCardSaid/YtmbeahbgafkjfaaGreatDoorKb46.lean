/- Lemmas for the claim, layer 46. -/
import Derived.Deep.CutBlock
import Derived.Test.YtmbeahbgafkjfaaGreatDoorKb45
set_option maxRecDepth 100000
set_option linter.unusedSimpArgs false
set_option maxHeartbeats 16000000
namespace Go.Proofs.YtmbeahbgafkjfaaGreatDoor
open Go.RowKit
namespace Wq
section
variable {l r q q2:List UInt8} {n:Nt} {b:Bd} {k:Int}
theorem pEnt_0 (h:pI l=none):pEnt l=none:=by unfold pEnt;rw[h]
theorem pEnt_1n (h:pI l=some (1,r)) (h2:pNt r=none):pEnt l=none:=by unfold pEnt;rw[h];simp only[if_true,h2]
theorem pEnt_1y (h:pI l=some (1,r)) (h2:pNt r=some (n,q)):pEnt l=some (⟨1,n,bdz,0,[],vw0,[]⟩,q):=by unfold pEnt;rw[h];simp only[if_true,h2]
theorem pEnt_2n (h:pI l=some (2,r)) (h2:pB r=none):pEnt l=none:=by unfold pEnt;rw[h];simp[h2]
theorem pEnt_2y (h:pI l=some (2,r)) (h2:pB r=some (b,q)):pEnt l=some (⟨2,ntz,b,0,[],vw0,[]⟩,q):=by unfold pEnt;rw[h];simp[h2]
theorem pEnt_3n (h:pI l=some (3,r)) (h2:pNt r=none):pEnt l=none:=by unfold pEnt;rw[h];simp[h2]
theorem pEnt_3e (h:pI l=some (3,r)) (h2:pNt r=some (n,q)) (hw:n.w=[]):pEnt l=some (⟨3,n,bdz,0,[],vw0,[]⟩,q):=by unfold pEnt;rw[h];simp[h2,hw]
theorem pEnt_3g (h:pI l=some (3,r)) (h2:pNt r=some (n,q)) {w:Wr} {t:List Wr} (hw:n.w=w :: t) (hg:w.2.2=true):pEnt l=some (⟨3,n,bdz,0,[],vw0,[]⟩,q):=by unfold pEnt;rw[h];simp[h2,hw,hg]
theorem pEnt_3b (h:pI l=some (3,r)) (h2:pNt r=some (n,q)) {w:Wr} {t:List Wr} (hw:n.w=w :: t) (hg:w.2.2=false) (h3:pB q=none):pEnt l=none:=by unfold pEnt;rw[h];simp[h2,hw,hg,h3]
theorem pEnt_3y (h:pI l=some (3,r)) (h2:pNt r=some (n,q)) {w:Wr} {t:List Wr} (hw:n.w=w :: t) (hg:w.2.2=false) (h3:pB q=some (b,q2)):pEnt l=some (⟨3,n,b,0,[],vw0,[]⟩,q2):=by unfold pEnt;rw[h];simp[h2,hw,hg,h3]
theorem pEnt_4a (h:pI l=some (4,r)) (h2:pI r=none):pEnt l=none:=by unfold pEnt pTwo;rw[h];simp[h2]
theorem pEnt_4b (h:pI l=some (4,r)) {f:Int} (h2:pI r=some (f,q)) (h3:pS q=none):pEnt l=none:=by unfold pEnt pTwo;rw[h];simp[h2,h3]
theorem pEnt_4y (h:pI l=some (4,r)) {f:Int} (h2:pI r=some (f,q)) {i:List Sn.Sp} (h3:pS q=some (i,q2)):pEnt l=some (⟨4,ntz,bdz,f,i,vw0,[]⟩,q2):=by unfold pEnt pTwo;rw[h];simp[h2,h3]
theorem pEnt_5n (h:pI l=some (5,r)) (h2:pVw r=none):pEnt l=none:=by unfold pEnt pTwo;rw[h];simp[h2]
theorem pEnt_5y (h:pI l=some (5,r)) {v:Vw} (h2:pVw r=some (v,q)):pEnt l=lstK pSb (fun s q=>some (⟨5,ntz,bdz,0,[],v,s⟩,q)) q:=by
 rw[←lst_is]
 unfold pEnt pTwo
 rw[h]
 simp only[show ¬ ((5:Int)=1) by decide,show ¬ ((5:Int)=2) by decide,show ¬ ((5:Int)=3) by decide,show ¬ ((5:Int)=4) by decide,if_false,if_true,h2]
 rcases pLst pSb q with _ | ⟨s,t⟩<;>rfl
theorem pEnt_o (h:pI l=some (k,r)) (k1:¬ k=1) (k2:¬ k=2) (k3:¬ k=3) (k4:¬ k=4) (k5:¬ k=5):pEnt l=some (⟨k,ntz,bdz,0,[],vw0,[]⟩,r):=by
 unfold pEnt;rw[h];simp only[if_neg k1,if_neg k2,if_neg k3,if_neg k4,if_neg k5]
theorem pSb_1 (h:pI l=none):pSb l=none:=by simp only[pSb,pTwo,h]
theorem pSb_2 {f:Int} (h:pI l=some (f,r)) (h2:pS r=none):pSb l=none:=by simp only[pSb,pTwo,h,h2]
theorem pSb_3 {f:Int} {i:List Sn.Sp} (h:pI l=some (f,r)) (h2:pS r=some (i,q)):pSb l=some (⟨f,i,0,0,false,false,false⟩,q):=by simp only[pSb,pTwo,h,h2]
theorem pSb_short {x:Sb} (h:pSb l=some (x,r)):r.length < l.length:=by
 rw[(pSb_back h).1,List.length_append]
 have:=lay_pos x.from_.toNat
 unfold lSb lI
 simp only[List.length_append]
 omega
theorem decE_no (h:pEnt l=none):decE l=none:=by unfold decE;rw[h]
theorem decE_more {x:Ent} (h:pEnt l=some (x,r)) (hr:r≠[]):decE l=none:=by
 unfold decE;rw[h]
 cases r with
 | nil=>exact absurd rfl hr
 | cons a t=>rfl
theorem decE_bad {x:Ent} (h:pEnt l=some (x,[])) (hf:entF x=false):decE l=none:=by unfold decE;rw[h];simp[hf]
theorem decE_good {x:Ent} (h:pEnt l=some (x,[])) (hf:entF x=true):decE l=some x:=by unfold decE;rw[h];simp[hf]
end
end Wq
theorem lit_wf {o:Int} (h0:0≤o) (h1:o≤255):(Lit.int .i64 o).wf=true:=by
 unfold Lit.wf
 simp only[Bool.and_eq_true,decide_eq_true_eq]
 constructor
 ·have:IntKind.i64.min≤0:=by decide
  omega
 ·have:255≤IntKind.i64.max:=by decide
  omega
theorem flat_pos {α:Type} (f:α→List UInt8):∀(l:List α),(∀x∈l,0 < (f x).length)→l.length≤(l.flatMap f).length
 | [],_=>by simp
 | x :: r,h=>by
  have h1:=flat_pos f r fun y hy=>h y (List.mem_cons_of_mem _ hy)
  have h2:=h x (List.mem_cons_self ..)
  rw[List.flatMap_cons,List.length_append,List.length_cons]
  omega
theorem nt_bd {n:Nt} (h:ntF n=true):n.s.length+n.e.length+n.b.length+n.w.length≤9223372036854775807:=by
 obtain⟨h1,h2,h3,h4⟩:=Wq.ntF_parts h
 have:=Wq.fm_len h1
 have:=Wq.fm_len h2
 have:=Sn.fmS_128 h3
 have:=Wq.ntW_len h4
 omega
theorem vw_bd {v:Vw} {l r:List UInt8} (h:Wq.pVw l=some (v,r)) (hl:l.length≤4294967296):v.known.length+v.zones.length+v.held.length+v.bods.length≤9223372036854775807∧∀y∈v.bods,(Lit.int .i64 y.o).wf=true:=by
 obtain⟨e,hC⟩:=Wq.pVw_back h
 have h0:=Wq.fm_len hC.k.1
 have h1:=flat_pos lZn v.zones fun x _=>by
  have:=Wq.lay_pos x.1.1.toNat
  unfold lZn lI;simp only[List.length_append];omega
 have h2:=flat_pos lHd v.held fun x _=>by
  have:=Wq.lay_pos x.2.1.toNat
  unfold lHd lI;simp only[List.length_append];omega
 have h3:=flat_pos Wq.lB v.bods fun x _=>by
  have:=Wq.lay_pos x.o.toNat
  unfold Wq.lB;simp only[List.length_append];omega
 rw[e] at hl
 unfold lVw at hl
 simp only[List.length_append] at hl
 refine⟨by omega,fun y hy=>?_⟩
 obtain⟨a,b,_⟩:=(Wq.bdF_iff y).1 (hC.b.2 y hy).1
 exact lit_wf a b
theorem bd_nt {k:Int} {n:Nt} (h:ntF n=true) {b:Wq.Bd} (hb:b.s.1 < 9223372036854775808):EntBd ⟨k,n,b,0,[],Wq.vw0,[]⟩:=⟨hb,nt_bd h,(show 0+0+0+0≤9223372036854775807 by decide),fun y hy=>by cases hy⟩
theorem bd_no {k f:Int} {i:List Sn.Sp} {b:Wq.Bd} (hb:b.s.1 < 9223372036854775808):EntBd ⟨k,Wq.ntz,b,f,i,Wq.vw0,[]⟩:=⟨hb,(show 0+0+0+0≤9223372036854775807 by decide),(show 0+0+0+0≤9223372036854775807 by decide),fun y hy=>by cases hy⟩
theorem pEnt_bd {l r:List UInt8} {x:Ent} (h:Wq.pEnt l=some (x,r)) (hl:l.length≤4294967296):EntBd x:=by
 have hz:Wq.bdz.s.1 < 9223372036854775808:=by decide
 unfold Wq.pEnt at h
 split at h
 ·cases h
 rename_i k r1 hk
 have hl1:r1.length≤4294967296:=by
  have:=(Wq.pI_back hk).1
  rw[this,List.length_append] at hl
  omega
 split at h
 ·split at h
  ·cases h
  ·rename_i n q hn
   injection h with h;injection h with h1 h2;subst h1
   exact bd_nt (Wq.pNt_back hn).2.1 hz
 split at h
 ·split at h
  ·cases h
  ·rename_i b q hn
   injection h with h;injection h with h1 h2;subst h1
   exact bd_no (Wq.pB_back hn).2.2
 split at h
 ·split at h
  ·cases h
  ·rename_i n q hn
   split at h
   ·injection h with h;injection h with h1 h2;subst h1
    exact bd_nt (Wq.pNt_back hn).2.1 hz
   ·split at h
    ·injection h with h;injection h with h1 h2;subst h1
     exact bd_nt (Wq.pNt_back hn).2.1 hz
    ·split at h
     ·cases h
     ·rename_i b s hb
      injection h with h;injection h with h1 h2;subst h1
      exact bd_nt (Wq.pNt_back hn).2.1 (Wq.pB_back hb).2.2
 split at h
 ·split at h
  ·cases h
  ·injection h with h;injection h with h1 h2;subst h1
   exact bd_no hz
 split at h
 ·split at h
  ·cases h
  ·rename_i v s q hn
   injection h with h;injection h with h1 h2;subst h1
   obtain⟨t,a1,_⟩:=Wq.pTwo_back hn
   obtain⟨b1,b2⟩:=vw_bd a1 hl1
   exact⟨hz,(show 0+0+0+0≤9223372036854775807 by decide),b1,b2⟩
 ·injection h with h;injection h with h1 h2;subst h1
  exact bd_no hz
theorem decode_any (A:Option Addr) (n c:Nat) (l:List UInt8) (w:World) (hT:Tab w) (hl:l.length=n) (hR:Rd w w.heap.size 1 A n c (bv l)) (hn:n≤4294967296):
  Calls Tryz.prog 15 #[.slice A n c] w (DecE l w):=by
 subst hl
 have hmf:∀(fn:Fn) (first cap:Array Value) (w:World),(Instr.makeFunc fn first cap).run Tryz.prog w=.ok (.func fn first cap) w:=fun _ _ _ _=>rfl
 obtain⟨is0,hsi0,hsz0,hsz1,hsz2⟩:=info_parts sub_info
 have h1max:1≤maxLen:=by unfold maxLen;omega
 have h0:=dec_start w A c l hR hn
 obtain⟨X,hX⟩:∃X,X=w.heap.size:=⟨_,rfl⟩
 rw[←hX] at h0
 have hl32:l.length≤4294967296:=hn
 obtain⟨n,hn'⟩:∃n,n=l.length:=⟨_,rfl⟩
 rw[←hn'] at h0 ⊢
 unfold entZ at h0
 generalize hW0:((w.alloc (.cells _ 38)).alloc (.cells #[.int .i64 0] 40)).alloc (.cells #[.slice A n c] 86)=W0 at h0
 have HW0:=Hz_ hW0
 have HX:=Hz_ hX
 have KS:=Hz_ h0
 have HT:=Hz_ hT
 clear hT hR hn hW0 h0 hn' hX
 go_enter_defers Tryz.func15,Tryz.ntmps15
 go_upto_region 3 with fail
 rw[HW0.out,←HX.out]
 go_wp2_with fail
 refine(entNumber_any (X+2) l W0 KS.out.tr).mono ?_
 rintro e w1 (⟨hp,rfl,hb⟩ | ⟨k,r,hp,rfl,ht,hb⟩)
 ·have HP:=Hz_ (Wq.decE_no (Wq.pEnt_0 hp))
  have HB:=Hz_ hb
  clear hp hb
  unfold GU
  go_wp2
  exact dec_gave KS.out HB.out HP.out rfl rfl
 have KS:=Hz_ (KS.out.call hb ht)
 have HK:=Hz_ hp
 clear hb ht hp
 have b0:w1.cell? ⟨X,0,none⟩=some (.int .i64 0):=KS.out.blk.cell 0
 have f0:=KS.out.blk.frozen 0
 go_upto_region 4 with fail
 have ks:=KS.out.put (KS.out.kind_ k)
 clear b0 f0 KS
 generalize w1.setCell ⟨X,0,none⟩ (.int .i64 k)=w2 at ks ⊢
 have KS:=Hz_ (show ES w w2 X r u0E ⟨k,Wq.ntz,Wq.bdz,0,[],Wq.vw0,[]⟩ [] [] [] from ks)
 clear ks
 have b0:w2.cell? ⟨X,0,none⟩=some (.int .i64 k):=KS.out.blk.cell 0
 go_upto_block 0 with fail
 go_cut [5,6] from 16 to 77 (fun v5 v6 wx=>∃(cur:List UInt8) (u:EV) (x:Ent) (L:List (ZV×Zn)) (M:List (BV×Wq.Bd)) (S:List (SV×Sb)),Hid (ES w wx X cur u x L M S)∧Hid (Wq.pEnt l=some (x,cur)))
 case first=>
  clear b0
  by_cases k1:k=1
  ·as_aux_lemma=>
   subst k1
   go_wp2_with fail
   refine(takeNote_any (X+2) r w2 (KS.out.tab HT.out) KS.out.tr).mono ?_
   rintro e w3 (⟨hp,rfl,hb⟩ | ⟨nt,q,hp,⟨v,rfl,hn⟩,ht,hb⟩)
   ·have HP:=Hz_ (Wq.decE_no (Wq.pEnt_1n HK.out hp))
    have HB:=Hz_ hb
    clear hp hb
    unfold GU
    go_wp2
    exact dec_gave KS.out HB.out HP.out rfl rfl
   have hlt:=KS.out.tr.lt
   have KS:=Hz_ (KS.out.call hb ht)
   have HN:=Hz_ (hn.less (show X+3≤w2.heap.size by omega))
   have HP:=Hz_ hp
   clear hb ht hp hn hlt
   obtain⟨A1,n1,c1,A2,n2,c2,A3,n3,c3,A4,n4,c4⟩:=v
   rw[show NV.val ⟨A1,n1,c1,A2,n2,c2,A3,n3,c3,A4,n4,c4⟩=#[.slice A1 n1 c1,.slice A2 n2 c2,.slice A3 n3 c3,.slice A4 n4 c4] from rfl]
   have b1:w3.cell? ⟨X,1,none⟩=some (.slice none 0 0):=KS.out.blk.cell 1
   have f1:=KS.out.blk.frozen 1
   have b2:w3.cell? ⟨X,2,none⟩=some (.slice none 0 0):=KS.out.blk.cell 2
   have f2:=KS.out.blk.frozen 2
   have b3:w3.cell? ⟨X,3,none⟩=some (.slice none 0 0):=KS.out.blk.cell 3
   have f3:=KS.out.blk.frozen 3
   have b4:w3.cell? ⟨X,4,none⟩=some (.slice none 0 0):=KS.out.blk.cell 4
   have f4:=KS.out.blk.frozen 4
   go_wp2_with fail
   have hk:=KS.out.put (KS.out.note_ (v:=⟨A1,n1,c1,A2,n2,c2,A3,n3,c3,A4,n4,c4⟩) (n:=nt) HN.out)
   dsimp only at hk
   go_meet
   exact⟨q,_,_,[],[],[],Hz_ hk,Hz_ (Wq.pEnt_1y HK.out HP.out)⟩
  by_cases k2:k=2
  ·as_aux_lemma=>
   subst k2
   go_wp2_with fail
   refine(takeBody_any (X+2) r w2 KS.out.tr).mono ?_
   rintro e w3 (⟨hp,rfl,hb⟩ | ⟨⟨o_,⟨a_,b_⟩,xv⟩,q,hp,⟨xA,xc,rfl,hn⟩,ht,hb⟩)
   ·have HP:=Hz_ (Wq.decE_no (Wq.pEnt_2n HK.out hp))
    have HB:=Hz_ hb
    clear hp hb
    unfold GU
    go_wp2
    exact dec_gave KS.out HB.out HP.out rfl rfl
   have hlt:=KS.out.tr.lt
   have KS:=Hz_ (KS.out.call hb ht)
   have HV:=Hz_ (own_less hn (show X+3≤w2.heap.size by omega))
   have HB:=Hz_ hp
   clear hb ht hp hn hlt
   rw[show bval ⟨o_,(a_,b_),xv⟩ xA xc=#[.int .i64 o_,.int .i64 a_,.int .i64 b_,.slice xA xv.length xc] from rfl]
   have b5:w3.cell? ⟨X,5,none⟩=some (.int .i64 0):=KS.out.blk.cell 5
   have f5:=KS.out.blk.frozen 5
   have b6:w3.cell? ⟨X,6,none⟩=some (.int .i64 0):=KS.out.blk.cell 6
   have f6:=KS.out.blk.frozen 6
   have b7:w3.cell? ⟨X,7,none⟩=some (.int .i64 0):=KS.out.blk.cell 7
   have f7:=KS.out.blk.frozen 7
   have b8:w3.cell? ⟨X,8,none⟩=some (.slice none 0 0):=KS.out.blk.cell 8
   have f8:=KS.out.blk.frozen 8
   go_wp2_with fail
   go_meet
   exact⟨q,_,_,[],[],[],Hz_ (KS.out.put (KS.out.body_ (b:=⟨o_,(a_,b_),xv⟩) HV.out)),Hz_ (Wq.pEnt_2y HK.out HB.out)⟩
  by_cases k3:k=3
  ·as_aux_lemma=>
   subst k3
   go_wp2_with fail
   refine(takeNote_any (X+2) r w2 (KS.out.tab HT.out) KS.out.tr).mono ?_
   rintro e w3 (⟨hp,rfl,hb⟩ | ⟨nt,q,hp,⟨v,rfl,hn⟩,ht,hb⟩)
   ·have HP:=Hz_ (Wq.decE_no (Wq.pEnt_3n HK.out hp))
    have HB:=Hz_ hb
    clear hp hb
    unfold GU
    go_wp2
    exact dec_gave KS.out HB.out HP.out rfl rfl
   have hlt:=KS.out.tr.lt
   have KS:=Hz_ (KS.out.call hb ht)
   have HN:=Hz_ (hn.less (show X+3≤w2.heap.size by omega))
   have HP:=Hz_ hp
   clear hb ht hp hn hlt
   obtain⟨A1,n1,c1,A2,n2,c2,A3,n3,c3,A4,n4,c4⟩:=v
   rw[show NV.val ⟨A1,n1,c1,A2,n2,c2,A3,n3,c3,A4,n4,c4⟩=#[.slice A1 n1 c1,.slice A2 n2 c2,.slice A3 n3 c3,.slice A4 n4 c4] from rfl]
   have b1:w3.cell? ⟨X,1,none⟩=some (.slice none 0 0):=KS.out.blk.cell 1
   have f1:=KS.out.blk.frozen 1
   have b2:w3.cell? ⟨X,2,none⟩=some (.slice none 0 0):=KS.out.blk.cell 2
   have f2:=KS.out.blk.frozen 2
   have b3:w3.cell? ⟨X,3,none⟩=some (.slice none 0 0):=KS.out.blk.cell 3
   have f3:=KS.out.blk.frozen 3
   have b4:w3.cell? ⟨X,4,none⟩=some (.slice none 0 0):=KS.out.blk.cell 4
   have f4:=KS.out.blk.frozen 4
   go_upto_region 11 with fail
   have hk:=KS.out.put (KS.out.note_ (v:=⟨A1,n1,c1,A2,n2,c2,A3,n3,c3,A4,n4,c4⟩) (n:=nt) HN.out)
   dsimp only at hk
   clear b1 f1 b2 f2 b3 f3 b4 f4 KS
   generalize (((w3.setCell ⟨X,1,none⟩ (.slice A1 n1 c1)).setCell ⟨X,2,none⟩ (.slice A2 n2 c2)).setCell ⟨X,3,none⟩ (.slice A3 n3 c3)).setCell ⟨X,4,none⟩ (.slice A4 n4 c4)=w4 at hk ⊢
   have KS:=Hz_ hk
   have b4:w4.cell? ⟨X,4,none⟩=some (.slice A4 n4 c4):=hk.blk.cell 4
   have hl4:nt.w.length=n4:=HN.out.l4
   have hr4:=hk.nt.rd.r4
   clear hk
   rcases hw:nt.w with _ | ⟨qw,t⟩
   ·obtain rfl:n4=0:=by rw[←hl4,hw];rfl
    have HW:=Hz_ hw
    clear hw hl4 hr4
    go_wp2_with fail
    go_meet
    exact⟨q,_,_,[],[],[],KS,Hz_ (Wq.pEnt_3e HK.out HP.out HW.out)⟩
   ·have hm0:0 < n4:=by rw[←hl4,hw,List.length_cons];omega
    have hmd:decide (0 < n4)=true:=decide_eq_true hm0
    have hmz:¬ n4=0:=by omega
    obtain⟨b,o,rfl,hbb,g0,g1,g2,g3⟩:=hr4.write (k:=0) hl4 (by rw[hl4];exact hm0)
    have hq0:nt.w[0]'(by rw[hl4];exact hm0)=qw:=by simp[hw]
    dsimp only at g3
    rw[hq0,Nat.zero_mul,Nat.add_zero] at g3
    have HW:=Hz_ hw
    clear hw hl4 hr4 g0 g1 g2 hbb hq0
    obtain⟨qs,qo,qg⟩:=qw
    dsimp only at g3
    cases qg
    rotate_left
    ·go_wp2_with fail
     go_meet
     exact⟨q,_,_,[],[],[],KS,Hz_ (Wq.pEnt_3g HK.out HP.out HW.out rfl)⟩
    go_wp2_with fail
    refine(takeBody_any (X+2) q w4 KS.out.tr).mono ?_
    rintro e w5 (⟨hp,rfl,hb⟩ | ⟨⟨o_,⟨a_,b_⟩,xv⟩,q2,hp,⟨xA,xc,rfl,hn⟩,ht,hb⟩)
    ·have HP:=Hz_ (Wq.decE_no (Wq.pEnt_3b HK.out HP.out HW.out rfl hp))
     have HB:=Hz_ hb
     clear hp hb
     unfold GU
     go_wp2
     exact dec_gave KS.out HB.out HP.out rfl rfl
    have hlt:=KS.out.tr.lt
    have KS:=Hz_ (KS.out.call hb ht)
    have HV:=Hz_ (own_less hn (show X+3≤w4.heap.size by omega))
    have HB:=Hz_ hp
    clear hb ht hp hn hlt b4 g3
    rw[show bval ⟨o_,(a_,b_),xv⟩ xA xc=#[.int .i64 o_,.int .i64 a_,.int .i64 b_,.slice xA xv.length xc] from rfl]
    have b5:w5.cell? ⟨X,5,none⟩=some (.int .i64 0):=KS.out.blk.cell 5
    have f5:=KS.out.blk.frozen 5
    have b6:w5.cell? ⟨X,6,none⟩=some (.int .i64 0):=KS.out.blk.cell 6
    have f6:=KS.out.blk.frozen 6
    have b7:w5.cell? ⟨X,7,none⟩=some (.int .i64 0):=KS.out.blk.cell 7
    have f7:=KS.out.blk.frozen 7
    have b8:w5.cell? ⟨X,8,none⟩=some (.slice none 0 0):=KS.out.blk.cell 8
    have f8:=KS.out.blk.frozen 8
    go_wp2_with fail
    have hk:=KS.out.put (KS.out.body_ (b:=⟨o_,(a_,b_),xv⟩) HV.out)
    dsimp only at hk
    go_meet
    exact⟨q2,_,_,[],[],[],Hz_ hk,Hz_ (Wq.pEnt_3y HK.out HP.out HW.out rfl HB.out)⟩
  by_cases k4:k=4
  ·as_aux_lemma=>
   subst k4
   go_wp2_with fail
   refine(entNumber_any (X+2) r w2 KS.out.tr).mono ?_
   rintro e w3 (⟨hp,rfl,hb⟩ | ⟨f,q,hp,rfl,ht,hb⟩)
   ·have HP:=Hz_ (Wq.decE_no (Wq.pEnt_4a HK.out hp))
    have HB:=Hz_ hb
    clear hp hb
    unfold GU
    go_wp2
    exact dec_gave KS.out HB.out HP.out rfl rfl
   have KS:=Hz_ (KS.out.call hb ht)
   have HF:=Hz_ hp
   clear hb ht hp
   have b9:w3.cell? ⟨X,9,none⟩=some (.int .i64 0):=KS.out.blk.cell 9
   have f9:=KS.out.blk.frozen 9
   go_upto_region 15 with fail
   have ks:=KS.out.put (KS.out.frm_ f)
   clear b9 f9 KS
   generalize w3.setCell ⟨X,9,none⟩ (.int .i64 f)=w4 at ks ⊢
   have KS:=Hz_ ks
   clear ks
   go_wp2_with fail
   refine(takeSet_any (X+2) q w4 KS.out.tr).mono ?_
   rintro e w5 (⟨hp,rfl,hb⟩ | ⟨it,q2,hp,⟨iA,ic,rfl,hn⟩,ht,hb⟩)
   ·have HP:=Hz_ (Wq.decE_no (Wq.pEnt_4b HK.out HF.out hp))
    have HB:=Hz_ hb
    clear hp hb
    unfold GU
    go_wp2
    exact dec_gave KS.out HB.out HP.out rfl rfl
   have hlt:=KS.out.tr.lt
   have KS:=Hz_ (KS.out.call hb ht)
   have HV:=Hz_ (own_less hn (show X+3≤w4.heap.size by omega))
   have HS:=Hz_ hp
   clear hb ht hp hn hlt
   have b10:w5.cell? ⟨X,10,none⟩=some (.slice none 0 0):=KS.out.blk.cell 10
   have f10:=KS.out.blk.frozen 10
   go_wp2_with fail
   go_meet
   exact⟨q2,_,_,[],[],[],Hz_ (KS.out.put (KS.out.int_ HV.out)),Hz_ (Wq.pEnt_4y HK.out HF.out HS.out)⟩
  by_cases k5:k=5
  ·as_aux_lemma=>
   subst k5
   go_wp2_with fail
   refine(readView_any (X+2) r w2 KS.out.tr).mono ?_
   rintro e w3 (⟨hp,rfl,hb⟩ | ⟨⟨kn,zs,hs,bs,m⟩,q,hp,⟨⟨kA,kc,zA,zc,hA,hc,bA,bc⟩,rfl,L,M,hv⟩,ht,hb⟩)
   ·have HP:=Hz_ (Wq.decE_no (Wq.pEnt_5n HK.out hp))
    have HB:=Hz_ hb
    clear hp hb
    unfold GU
    go_wp2
    exact dec_gave KS.out HB.out HP.out rfl rfl
   have hlt:=KS.out.tr.lt
   have KS:=Hz_ (KS.out.call hb ht)
   have HV:=Hz_ (hv.less (show X+3≤w2.heap.size by omega))
   have HF:=Hz_ (Wq.pEnt_5y HK.out hp)
   clear hb ht hp hv hlt
   rw[show vval ⟨kn,zs,hs,bs,m⟩ ⟨kA,kc,zA,zc,hA,hc,bA,bc⟩=#[.slice kA kn.length kc,.slice zA zs.length zc,.slice hA hs.length hc,.slice bA bs.length bc,.int .i64 m] from rfl]
   have b11:w3.cell? ⟨X,11,none⟩=some (.slice none 0 0):=KS.out.blk.cell 11
   have f11:=KS.out.blk.frozen 11
   have b12:w3.cell? ⟨X,12,none⟩=some (.slice none 0 0):=KS.out.blk.cell 12
   have f12:=KS.out.blk.frozen 12
   have b13:w3.cell? ⟨X,13,none⟩=some (.slice none 0 0):=KS.out.blk.cell 13
   have f13:=KS.out.blk.frozen 13
   have b14:w3.cell? ⟨X,14,none⟩=some (.slice none 0 0):=KS.out.blk.cell 14
   have f14:=KS.out.blk.frozen 14
   have b15:w3.cell? ⟨X,15,none⟩=some (.int .i64 0):=KS.out.blk.cell 15
   have f15:=KS.out.blk.frozen 15
   go_upto_region 18 with fail
   have hk:=KS.out.put (KS.out.view_ (z:=⟨kA,kc,zA,zc,hA,hc,bA,bc⟩) (v:=⟨kn,zs,hs,bs,m⟩) HV.out)
   dsimp only at hk
   clear b11 f11 b12 f12 b13 f13 b14 f14 b15 f15 KS
   generalize ((((w3.setCell ⟨X,11,none⟩ (.slice kA kn.length kc)).setCell ⟨X,12,none⟩ (.slice zA zs.length zc)).setCell ⟨X,13,none⟩ (.slice hA hs.length hc)).setCell ⟨X,14,none⟩ (.slice bA bs.length bc)).setCell ⟨X,15,none⟩ (.int .i64 m)=w4 at hk ⊢
   have KS:=Hz_ hk
   clear hk
   go_wp2_with fail
   refine(entNumber_any (X+2) q w4 KS.out.tr).mono ?_
   rintro e w5 (⟨hp,rfl,hb⟩ | ⟨y,q2,hp,rfl,ht,hb⟩)
   ·have HP:=Hz_ (Wq.decE_no (HF.out.trans (Wq.lstK_no hp)))
    have HB:=Hz_ hb
    clear hp hb
    unfold GU
    go_wp2
    exact dec_gave KS.out HB.out HP.out rfl rfl
   have KS:=Hz_ (KS.out.call hb ht)
   obtain⟨c,rfl,hc63,hcn⟩:=Wq.lstK_yes (p:=Wq.pSb) (K:=fun (s:List Sb) (q:List UInt8)=>some ((⟨5,Wq.ntz,Wq.bdz,0,[],⟨kn,zs,hs,bs,m⟩,s⟩:Ent),q)) hp
   have HF:=Hz_ (HF.out.trans hcn)
   have hq2:=KS.out.tr.len
   clear hb ht hp hcn
   go_wp2_with fail
   go_loopw [5,6] (fun v5 _ wr=>∃(c:Nat) (cur:List UInt8) (ss:List Sb) (S:List (SV×Sb)) (sA:Option Addr) (sc:Nat),v5=.int .i64 c∧Hid (ES w wr X cur ⟨u0E.nv,none,0,none,0,⟨kA,kc,zA,zc,hA,hc,bA,bc⟩,sA,sc⟩ ⟨5,Wq.ntz,Wq.bdz,0,[],⟨kn,zs,hs,bs,m⟩,ss⟩ L M S)∧Hid (Wq.pEnt l=Wq.repK Wq.pSb (fun (s:List Sb) (q:List UInt8)=>some ((⟨5,Wq.ntz,Wq.bdz,0,[],⟨kn,zs,hs,bs,m⟩,s⟩:Ent),q)) c cur ss)∧c < 9223372036854775808∧ss.length+cur.length≤4294967296) (fun v5 _ _=>(intOf v5).toNat)
   case atStart=>exact⟨c,q2,[],[],none,0,rfl,KS,HF,hc63,by simpa using hq2⟩
   case round=>
    clear KS HF
    obtain⟨c,cur,ss,S,sA,sc,rfl,KS,HF,hc63,hlen⟩:=hrel
    rcases c with _ | c
    rotate_left
    ·have hpos:decide (((c+1:Nat):Int) > 0)=true:=decide_eq_true (by omega)
     go_wp2_with fail
     refine(entNumber_any (X+2) cur wr KS.out.tr).mono ?_
     rintro e w6 (⟨hp,rfl,hb⟩ | ⟨f,r1,hp1,rfl,ht,hb⟩)
     ·have HP:=Hz_ (Wq.decE_no (HF.out.trans (Wq.repK_no (Wq.pSb_1 hp))))
      have HB:=Hz_ hb
      clear hp hb
      unfold GU
      go_wp2
      exact dec_gave KS.out HB.out HP.out rfl rfl
     have KS:=Hz_ (KS.out.call hb ht)
     have HP1:=Hz_ hp1
     clear ht hb hp1
     go_upto_region 22 with fail
     have KS:=Hz_ (KS.out.grow (Below.refl _ w6).drew)
     refine region_pnca (decD X) (.pointer (some ⟨X,0,none⟩)) (.pointer (some ⟨X+1,0,none⟩)) fun KK RR hKK hRR=>?_
     refine wp_region_held_drew (S:=(fun _=>True)) (by kernel_rfl) (by first | trivial) (fun hHeld=>?_)
     refine wpAnyH_putD (i:=0) (d:=69) (v:=?_) rfl rfl (by kernel_rfl) (by kernel_rfl) (by kernel_rfl) (fun _ _ _ h=>PncA.put (by decide) (by decide) h) (Or.inl ⟨by kernel_rfl,?_⟩) (by first | trivial) ?_
     rotate_left
     ·(intro w hS;(try dsimp only at hS);go_simp<;>with_reducible rfl)
     try simp only[List.setIfInBounds_toArray,List.set_cons_zero,List.set_cons_succ]
     refine wpAnyH_putD (i:=2) (d:=71) (v:=?_) rfl rfl (by kernel_rfl) (by kernel_rfl) (by kernel_rfl) (fun _ _ _ h=>PncA.put (by decide) (by decide) h) (Or.inl ⟨by kernel_rfl,?_⟩) (by first | trivial) ?_
     rotate_left
     ·(intro w hS;(try dsimp only at hS);go_simp<;>with_reducible rfl)
     try simp only[List.setIfInBounds_toArray,List.set_cons_zero,List.set_cons_succ]
     refine wpAnyH_putD (i:=3) (d:=72) (v:=?_) rfl rfl (by kernel_rfl) (by kernel_rfl) (by kernel_rfl) (fun _ _ _ h=>PncA.put (by decide) (by decide) h) (Or.inl ⟨by kernel_rfl,?_⟩) (by first | trivial) ?_
     rotate_left
     ·(intro w hS;(try dsimp only at hS);go_simp<;>with_reducible rfl)
     try simp only[List.setIfInBounds_toArray,List.set_cons_zero,List.set_cons_succ]
     refine wpAnyH_ready (rs:=[1,4]) (by kernel_rfl) (by simp) ?_
     refine AllReadyH.cons rfl (fun K hK=>?_) (AllReadyH.cons rfl (fun K hK=>?_) AllReadyH.nil)
     ·have b1:World.cell? _ ⟨X,16,none⟩=some (Value.slice sA ss.length sc):=KS.out.blk.cell 16
      go_simp
      clear b1
      refine hK.out _ _ trivial fun hHeld=>?_
      clear hK K
      refine puR 4 fun K hK=>?_
      go_simp
      refine(takeSet_any (X+2) r1 _ KS.out.tr).mono ?_
      rintro e W6 (⟨hp,rfl,hb⟩ | ⟨it,r2,hp3,⟨iA,ic,rfl,ho⟩,ht,hb⟩)
      ·exact⟨⟨rfl,rfl,rfl⟩,hRR _ _ fun a h1 h2 h3=>by obtain⟨tm,df⟩:=a;subst h1;exact dec_gave KS.out hb (Wq.decE_no (HF.out.trans (Wq.repK_no (Wq.pSb_2 HP1.out hp)))) h2 h3⟩
      have hsz:=KS.out.tr.lt
      have KS:=Hz_ (KS.out.call hb ht)
      have HV:=Hz_ (own_less ho (show X+3≤_ from hsz))
      have HP3:=Hz_ hp3
      clear hp3 ho ht hb hsz
      refine hK.out _ _ trivial fun hHeld=>?_
      clear hK K
      refine wpAnyH_putD (i:=5) (d:=74) (v:=(.agg #[.int .i64 f,.slice iA it.length ic,.int .i64 0,.int .i64 0,.bool false,.bool false,.bool false])) rfl rfl (by kernel_rfl) (by kernel_rfl) (by kernel_rfl) (fun _ _ _ h=>PncA.put (by decide) (by decide) h) (Or.inl ⟨by kernel_rfl,fun w _=>run_op_sub rfl rfl rfl⟩) (by first | trivial) ?_
      try simp only[List.setIfInBounds_toArray,List.set_cons_zero,List.set_cons_succ]
      refine puR 6 fun K hK=>?_
      rw[if_pos (by kernel_rfl)]
      refine wp_op_sub rfl rfl ?_
      have hb':=KS.out.new (.cells #[.int .i64 f,.slice iA it.length ic,.int .i64 0,.int .i64 0,.bool false,.bool false,.bool false] 65)
      have C:=Hz_ (rd_new hb' (size:=7) (n:=1) rfl h1max)
      have KS:=Hz_ (KS.out.grow hb')
      have HV:=Hz_ (own_below HV.out hb' (Nat.le_refl _))
      clear hb'
      refine hK.out _ _ trivial fun hHeld=>?_
      clear hK K
      refine puR 7 fun K hK=>?_
      rw[if_pos (by kernel_rfl)]
      refine wp_append_rd _ (.tmp 70) (.tmp 75) _ rfl (X+3) 65 is0 _ 7 56 Tryz.underlying36 hsi0 hsz0 hsz1 hsz2 rfl (by decide) _ ss.length (sbv S) rfl KS.out.sb.row _ _ 1 1 [.int .i64 f,.slice iA it.length ic,.int .i64 0,.int .i64 0,.bool false,.bool false,.bool false] rfl C.out (by simp[Value.oneCell']) (by unfold maxLen;omega) (by omega) KS.out.tr.lt ?_
      intro A9 c9 W9 ho hg hat
      have KZ:=Hz_ (KS.out.sub_ (p:=(⟨iA,ic⟩,⟨f,it,0,0,false,false,false⟩)) HV.out hg ho)
      have hB:=blk_grow KS.out.blk KS.out.sb.row hg (by decide)
      have b1:W9.cell? ⟨X,16,none⟩=some (Value.slice sA ss.length sc):=hB.cell 16
      have f1:=hB.frozen 16
      clear hB ho hg hat KS C HV
      refine hK.out _ _ trivial fun hHeld=>?_
      clear hK K
      refine wpAnyH_putD (i:=8) (d:=77) (v:=?_) rfl rfl (by kernel_rfl) (by kernel_rfl) (by kernel_rfl) (fun _ _ _ h=>PncA.put (by decide) (by decide) h) (Or.inl ⟨by kernel_rfl,?_⟩) (by first | trivial) ?_
      rotate_left
      ·(intro w hS;(try dsimp only at hS);go_simp<;>with_reducible rfl)
      try simp only[List.setIfInBounds_toArray,List.set_cons_zero,List.set_cons_succ]
      refine puR 9 fun K hK=>?_
      go_simp
      clear b1 f1
      refine hK.out _ _ trivial fun hHeld=>?_
      clear hK K
      refine wpAnyH_done (by kernel_rfl) ?_ _
      refine PncA.out (hKK _ _ ?_)
      clear hHeld hRR
      go_wp2_with fail
      go_roundw
      case rel=>
       have h3:=Wq.pSb_3 HP1.out HP3.out
       have h4:=Wq.pSb_short h3
       exact⟨c,r2,ss++[⟨f,it,0,0,false,false,false⟩],S++[(⟨iA,ic⟩,⟨f,it,0,0,false,false,false⟩)],A9,c9,by go_num,KZ,Hz_ (HF.out.trans (Wq.repK_yes h3)),by omega,by rw[List.length_append];simp only[List.length_cons,List.length_nil];omega⟩
      case measure=>first | (simp[intOf];done) | (simp[intOf];omega)
     ·go_simp
      refine(takeSet_any (X+2) r1 _ KS.out.tr).mono ?_
      rintro e W6 (⟨hp,rfl,hb⟩ | ⟨it,r2,hp3,⟨iA,ic,rfl,ho⟩,ht,hb⟩)
      ·exact⟨⟨rfl,rfl,rfl⟩,hRR _ _ fun a h1 h2 h3=>by obtain⟨tm,df⟩:=a;subst h1;exact dec_gave KS.out hb (Wq.decE_no (HF.out.trans (Wq.repK_no (Wq.pSb_2 HP1.out hp)))) h2 h3⟩
      have hsz:=KS.out.tr.lt
      have KS:=Hz_ (KS.out.call hb ht)
      have HV:=Hz_ (own_less ho (show X+3≤_ from hsz))
      have HP3:=Hz_ hp3
      clear hp3 ho ht hb hsz
      refine hK.out _ _ trivial fun hHeld=>?_
      clear hK K
      refine wpAnyH_putD (i:=5) (d:=74) (v:=(.agg #[.int .i64 f,.slice iA it.length ic,.int .i64 0,.int .i64 0,.bool false,.bool false,.bool false])) rfl rfl (by kernel_rfl) (by kernel_rfl) (by kernel_rfl) (fun _ _ _ h=>PncA.put (by decide) (by decide) h) (Or.inl ⟨by kernel_rfl,fun w _=>run_op_sub rfl rfl rfl⟩) (by first | trivial) ?_
      try simp only[List.setIfInBounds_toArray,List.set_cons_zero,List.set_cons_succ]
      refine wpAnyH_ready (rs:=[1,6]) (by kernel_rfl) (by simp) ?_
      refine AllReadyH.cons rfl (fun K hK=>?_) (AllReadyH.cons rfl (fun K hK=>?_) AllReadyH.nil)
      ·have b1:World.cell? _ ⟨X,16,none⟩=some (Value.slice sA ss.length sc):=KS.out.blk.cell 16
       go_simp
       clear b1
       refine hK.out _ _ trivial fun hHeld=>?_
       clear hK K
       refine puR 6 fun K hK=>?_
       rw[if_pos (by kernel_rfl)]
       refine wp_op_sub rfl rfl ?_
       have hb':=KS.out.new (.cells #[.int .i64 f,.slice iA it.length ic,.int .i64 0,.int .i64 0,.bool false,.bool false,.bool false] 65)
       have C:=Hz_ (rd_new hb' (size:=7) (n:=1) rfl h1max)
       have KS:=Hz_ (KS.out.grow hb')
       have HV:=Hz_ (own_below HV.out hb' (Nat.le_refl _))
       clear hb'
       refine hK.out _ _ trivial fun hHeld=>?_
       clear hK K
       refine puR 7 fun K hK=>?_
       rw[if_pos (by kernel_rfl)]
       refine wp_append_rd _ (.tmp 70) (.tmp 75) _ rfl (X+3) 65 is0 _ 7 56 Tryz.underlying36 hsi0 hsz0 hsz1 hsz2 rfl (by decide) _ ss.length (sbv S) rfl KS.out.sb.row _ _ 1 1 [.int .i64 f,.slice iA it.length ic,.int .i64 0,.int .i64 0,.bool false,.bool false,.bool false] rfl C.out (by simp[Value.oneCell']) (by unfold maxLen;omega) (by omega) KS.out.tr.lt ?_
       intro A9 c9 W9 ho hg hat
       have KZ:=Hz_ (KS.out.sub_ (p:=(⟨iA,ic⟩,⟨f,it,0,0,false,false,false⟩)) HV.out hg ho)
       have hB:=blk_grow KS.out.blk KS.out.sb.row hg (by decide)
       have b1:W9.cell? ⟨X,16,none⟩=some (Value.slice sA ss.length sc):=hB.cell 16
       have f1:=hB.frozen 16
       clear hB ho hg hat KS C HV
       refine hK.out _ _ trivial fun hHeld=>?_
       clear hK K
       refine wpAnyH_putD (i:=8) (d:=77) (v:=?_) rfl rfl (by kernel_rfl) (by kernel_rfl) (by kernel_rfl) (fun _ _ _ h=>PncA.put (by decide) (by decide) h) (Or.inl ⟨by kernel_rfl,?_⟩) (by first | trivial) ?_
       rotate_left
       ·(intro w hS;(try dsimp only at hS);go_simp<;>with_reducible rfl)
       try simp only[List.setIfInBounds_toArray,List.set_cons_zero,List.set_cons_succ]
       refine puR 9 fun K hK=>?_
       go_simp
       clear b1 f1
       refine hK.out _ _ trivial fun hHeld=>?_
       clear hK K
       refine wpAnyH_done (by kernel_rfl) ?_ _
       refine PncA.out (hKK _ _ ?_)
       clear hHeld hRR
       go_wp2_with fail
       go_roundw
       case rel=>
        have h3:=Wq.pSb_3 HP1.out HP3.out
        have h4:=Wq.pSb_short h3
        exact⟨c,r2,ss++[⟨f,it,0,0,false,false,false⟩],S++[(⟨iA,ic⟩,⟨f,it,0,0,false,false,false⟩)],A9,c9,by go_num,KZ,Hz_ (HF.out.trans (Wq.repK_yes h3)),by omega,by rw[List.length_append];simp only[List.length_cons,List.length_nil];omega⟩
       case measure=>first | (simp[intOf];done) | (simp[intOf];omega)
      ·rw[if_pos (by kernel_rfl)]
       refine wp_op_sub rfl rfl ?_
       have hb':=KS.out.new (.cells #[.int .i64 f,.slice iA it.length ic,.int .i64 0,.int .i64 0,.bool false,.bool false,.bool false] 65)
       have C:=Hz_ (rd_new hb' (size:=7) (n:=1) rfl h1max)
       have KS:=Hz_ (KS.out.grow hb')
       have HV:=Hz_ (own_below HV.out hb' (Nat.le_refl _))
       clear hb'
       refine hK.out _ _ trivial fun hHeld=>?_
       clear hK K
       refine puR 1 fun K hK=>?_
       have b1:World.cell? _ ⟨X,16,none⟩=some (Value.slice sA ss.length sc):=KS.out.blk.cell 16
       go_simp
       clear b1
       refine hK.out _ _ trivial fun hHeld=>?_
       clear hK K
       refine puR 7 fun K hK=>?_
       rw[if_pos (by kernel_rfl)]
       refine wp_append_rd _ (.tmp 70) (.tmp 75) _ rfl (X+3) 65 is0 _ 7 56 Tryz.underlying36 hsi0 hsz0 hsz1 hsz2 rfl (by decide) _ ss.length (sbv S) rfl KS.out.sb.row _ _ 1 1 [.int .i64 f,.slice iA it.length ic,.int .i64 0,.int .i64 0,.bool false,.bool false,.bool false] rfl C.out (by simp[Value.oneCell']) (by unfold maxLen;omega) (by omega) KS.out.tr.lt ?_
       intro A9 c9 W9 ho hg hat
       have KZ:=Hz_ (KS.out.sub_ (p:=(⟨iA,ic⟩,⟨f,it,0,0,false,false,false⟩)) HV.out hg ho)
       have hB:=blk_grow KS.out.blk KS.out.sb.row hg (by decide)
       have b1:W9.cell? ⟨X,16,none⟩=some (Value.slice sA ss.length sc):=hB.cell 16
       have f1:=hB.frozen 16
       clear hB ho hg hat KS C HV
       refine hK.out _ _ trivial fun hHeld=>?_
       clear hK K
       refine wpAnyH_putD (i:=8) (d:=77) (v:=?_) rfl rfl (by kernel_rfl) (by kernel_rfl) (by kernel_rfl) (fun _ _ _ h=>PncA.put (by decide) (by decide) h) (Or.inl ⟨by kernel_rfl,?_⟩) (by first | trivial) ?_
       rotate_left
       ·(intro w hS;(try dsimp only at hS);go_simp<;>with_reducible rfl)
       try simp only[List.setIfInBounds_toArray,List.set_cons_zero,List.set_cons_succ]
       refine puR 9 fun K hK=>?_
       go_simp
       clear b1 f1
       refine hK.out _ _ trivial fun hHeld=>?_
       clear hK K
       refine wpAnyH_done (by kernel_rfl) ?_ _
       refine PncA.out (hKK _ _ ?_)
       clear hHeld hRR
       go_wp2_with fail
       go_roundw
       case rel=>
        have h3:=Wq.pSb_3 HP1.out HP3.out
        have h4:=Wq.pSb_short h3
        exact⟨c,r2,ss++[⟨f,it,0,0,false,false,false⟩],S++[(⟨iA,ic⟩,⟨f,it,0,0,false,false,false⟩)],A9,c9,by go_num,KZ,Hz_ (HF.out.trans (Wq.repK_yes h3)),by omega,by rw[List.length_append];simp only[List.length_cons,List.length_nil];omega⟩
       case measure=>first | (simp[intOf];done) | (simp[intOf];omega)
    ·have HF:=Hz_ (HF.out.trans Wq.repK_zero)
     go_wp2_with fail
     go_meet
     exact⟨cur,_,_,_,_,_,KS,HF⟩
  have k1b:(k == 1)=false:=by simpa using k1
  have k2b:(k == 2)=false:=by simpa using k2
  have k3b:(k == 3)=false:=by simpa using k3
  have k4b:(k == 4)=false:=by simpa using k4
  have k5b:(k == 5)=false:=by simpa using k5
  have HP:=Hz_ (Wq.pEnt_o HK.out k1 k2 k3 k4 k5)
  go_wp2_with fail
  go_meet
  exact⟨r,_,_,[],[],[],KS,HP⟩
 case rest=>
  as_aux_lemma=>
  obtain⟨cur,u,x,L,M,S,KS,HP⟩:=hcut
  have hbd:=pEnt_bd HP.out hl32
  obtain⟨⟨A',c',hrb,hrr⟩,-,-⟩:=KS.out.tr
  have c0:wc.cell? ⟨X+1+1,0,none⟩=some (.slice A' cur.length c'):=hrb.cell 0
  clear hrb hrr b0
  have hi:(Tryz.prog.info? 38).map (·.size)=some entZ.size:=by kernel_rfl
  have HI:=Hz_ hi
  have hie:(Tryz.prog.info? 38).map (·.size)=some (eval x u).size:=by kernel_rfl
  have HIE:=Hz_ hie
  clear hi hie
  rcases cur with _ | ⟨a,t⟩
  rotate_left
  ·have hm0:0 < (a :: t).length:=by rw[List.length_cons];omega
   have HD:=Hz_ (Wq.decE_more HP.out (by simp))
   generalize (a :: t).length=m at hm0 c0
   have hmd:decide (0 < m)=true:=decide_eq_true hm0
   have hmz:¬ m=0:=by omega
   go_wp2_with (refine wpList_store_blk rfl 38 _ _ rfl X 38 _ entZ rfl rfl KS.out.blk HI.out rfl (by simp[entZ,Value.oneCell']) ?_;intro Wd hblk hg;have hE:=KS.out.err.grown hg (by intro e;injection e with e;omega);have c4:Wd.cell? ⟨X+1,0,none⟩=some (.int .i64 0):=hE.cell 0;have f4:=hE.frozen 0)
   exact dec_out (hblk.far (p:=⟨X+1,0,none⟩) (by simp) _) rfl (hE.set_ 0 _) (fun w' hb'=>.inl ⟨HD.out,rfl,by
    have h1:Below X w Wd:=KS.out.out.trans (grown_below hg (by have:=KS.out.blk.lt;omega) (fun k hk=>by injection hk with hk;omega))
    have h2:=h1.setCell (p:=⟨X+1,0,none⟩) (by simp) (.int .i64 4)
    rw[←KS.out.hX]
    exact h2.trans (hb'.mono (by have:=hblk.lt;simp;omega))⟩) rfl rfl
  ·have HRD:=KS.out.rd hbd
   have hnt:=HRD.nt
   have G1:=entFormed_any u x L M S wc (KS.out.tab HT.out) HRD hbd.c (by rw[←hnt.l1,←hnt.l2,←hnt.l3,←hnt.l4];exact hbd.n) hbd.v
   have HBD:=Hz_ hbd
   clear HRD hnt hbd
   have hfd:entF x=false→Wq.decE l=none:=fun h=>Wq.decE_bad HP.out h
   have hfg:entF x=true→Wq.decE l=some x:=fun h=>Wq.decE_good HP.out h
   have HFD:=Hz_ hfd
   have HFG:=Hz_ hfg
   clear hfd hfg
   have HG:=Hz_ (fun (W:World) (hb:Below wc.heap.size wc W)=>(KS.out.grow hb))
   obtain⟨E,hEq⟩:∃E,E=eval x u:=⟨_,rfl⟩
   have HK:=Hz_ fun (W:World) (hb:Below wc.heap.size wc W)=>(show Blk W X 38 E from by rw[hEq];exact(KS.out.grow hb).blk)
   have HIL:=Hz_ (show (Tryz.prog.info? 38).map (·.size)=some E.size from by rw[hEq];kernel_rfl)
   have HO:=Hz_ (show E.all (·.oneCell')=true from by rw[hEq];simp[eval,Value.oneCell'])
   have HSZ:=Hz_ (Option.some.inj (HIL.out.symm.trans HI.out))
   rw[←hEq] at G1
   have HEQ:=Hz_ hEq
   clear hEq
   generalize hz:entF x=z at G1 HFD HFG
   have G1:=Hz_ G1
   clear hz
   have HKB:=Hz_ (HK.out wc (Below.refl _ _))
   cases z
   ·go_wp2_with (first | (go_at_call 12;go_must (refine G1.out.mono ?_);rintro e w9 ⟨rfl,hb9⟩;have K9:=Hz_ (HG.out w9 hb9);have HKB:=Hz_ (HK.out w9 hb9)) | (refine wpList_load_rowg (by kernel_rfl) 38 _ rfl X rfl 38 _ _ HKB.out Tryz.underlying38 rfl HIL.out ?_) | (refine wpList_store_blk rfl 38 _ _ rfl X 38 _ entZ rfl rfl HKB.out HI.out HSZ.out (by simp[entZ,Value.oneCell']) ?_;intro Wd hblk hg;have hE:=K9.out.err.grown hg (by intro e;injection e with e;omega);have c4:Wd.cell? ⟨X+1,0,none⟩=some (.int .i64 0):=hE.cell 0;have f4:=hE.frozen 0))
    exact dec_out (hblk.far (p:=⟨X+1,0,none⟩) (by simp) _) rfl (hE.set_ 0 _) (fun w' hb'=>.inl ⟨HFD.out (by first | rfl | trivial),rfl,by
     have h1:Below X w Wd:=K9.out.out.trans (grown_below hg (by have:=K9.out.blk.lt;omega) (fun k hk=>by injection hk with hk;omega))
     have h2:=h1.setCell (p:=⟨X+1,0,none⟩) (by simp) (.int .i64 4)
     rw[←K9.out.hX]
     exact h2.trans (hb'.mono (by have:=hblk.lt;simp;omega))⟩) rfl rfl
   ·go_wp2_with (first | (go_at_call 12;go_must (refine G1.out.mono ?_);rintro e w9 ⟨rfl,hb9⟩;have K9:=Hz_ (HG.out w9 hb9);have HKB:=Hz_ (HK.out w9 hb9)) | (refine wpList_load_rowg (by kernel_rfl) 38 _ rfl X rfl 38 _ _ HKB.out Tryz.underlying38 rfl HIL.out ?_) | (refine wpList_store_blk rfl 38 _ _ rfl X 38 _ E rfl rfl HKB.out HIL.out rfl HO.out ?_;intro Wd hblk hg;have KD:=Hz_ (K9.out.same_ hg (show Blk Wd X 38 (eval x u) from HEQ.out ▸ hblk));have c4:Wd.cell? ⟨X+1,0,none⟩=some (.int .i64 0):=KD.out.err.cell 0;have f4:=KD.out.err.frozen 0))
    have KE:=KD.out.err_
    exact dec_out KE.blk rfl KE.err (fun w' hb'=>.inr ⟨x,u,HFG.out (by first | rfl | trivial),rfl,⟨L,M,S,(KE.rd HBD.out).go hb'⟩,by
     rw[←KE.hX]
     exact KE.out.trans (hb'.mono (by have:=KE.blk.lt;omega))⟩) rfl rfl
end Go.Proofs.YtmbeahbgafkjfaaGreatDoor
