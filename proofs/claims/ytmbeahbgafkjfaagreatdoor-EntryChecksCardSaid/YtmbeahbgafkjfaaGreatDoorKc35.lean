/- Lemmas for the claim, layer 35. -/
import Derived.Test.YtmbeahbgafkjfaaGreatDoorKc34
set_option maxRecDepth 100000
set_option linter.unusedSimpArgs false
set_option maxHeartbeats 16000000
namespace Go.Proofs.YtmbeahbgafkjfaaGreatDoor
open Go.RowKit
theorem takeTest2_any (X:Option Addr) (xc:Nat) (ob:Int) (x:Wq.Bd) (Bx:Nat) (w:World) (hx:w.cell? ⟨Bx,2,none⟩=some (.int .i64 ob)):
  Calls Tryz.prog 145 #[.agg (bval x X xc),.pointer (some ⟨Bx,0,none⟩)] w fun e w'=>e=.returned (.bool (decide (x.o=ob)))/\Below w.heap.size w w':=by
 have hlt:=World.block_lt_of_cell? _ _ hx;have hb0:Below w.heap.size w (w.alloc (.cells (bval x X xc) 31)):=Zr.alloc Zl _;have hc:=(hb0.cell (p:=⟨Bx,2,none⟩) hlt).trans hx;obtain⟨o,⟨a,b⟩,v⟩:=x;unfold bval at hc hb0 ⊢;dsimp only at hc hb0 ⊢;generalize v.length=m at hc hb0 ⊢;have HB:=Hz_ hb0;clear hb0;by_cases h:o=ob
 ·subst h;have HZ:=Hz_ (show decide (o=o)=true from decide_eq_true rfl);rw[HZ.out];go_enter Tryz.func145,Tryz.ntmps145;go_wp2;go_ret;exact⟨rfl,HB.out⟩
 ·have HZ:=Hz_ (show decide (o=ob)=false from decide_eq_false h);have hbq:(o == ob)=false:=beq_eq_false_iff_ne.2 h;rw[HZ.out];go_enter Tryz.func145,Tryz.ntmps145;go_wp2;go_ret;exact⟨rfl,HB.out⟩
theorem indexB_any (D:Option Addr) (m d:Nat) (ob:Int) (M:List (BV×Wq.Bd)) (Bx:Nat) (w:World) (hx:w.cell? ⟨Bx,2,none⟩=some (.int .i64 ob)) (hM:RdBs w w.heap.size D m d M):
  Calls Tryz.prog 144 #[.slice D m d,.func (.func 145) #[] #[.pointer (some ⟨Bx,0,none⟩)]] w fun e w'=>e=.returned (.int .i64 (ixB (fun x:Wq.Bd=>decide (x.o=ob)) 0 (bds M)))/\Below w.heap.size w w':=by
 have hmax:=hM.max;have hBx:=World.block_lt_of_cell? _ _ hx;have HXC:=Hz_ hx;have HL:=Hz_ hM.len;have HW:=Hz_ fun (W:World) (hb:Below w.heap.size w W) k (hk:k < M.length)=>(hM.below hb).body hk;have HT:=Hz_ fun (W:World) (hb:Below w.heap.size w W) (X:Option Addr) (xc:Nat) (x:Wq.Bd)=>takeTest2_any X xc ob x Bx W ((hb.cell (p:=⟨Bx,2,none⟩) hBx).trans hx);clear hx hM;generalize ht:(fun x:Wq.Bd=>decide (x.o=ob))=t;have ht2:∀x:Wq.Bd,(decide (x.o=ob))=t x:=fun x=>by rw[<-ht]
 simp only[ht2] at HT;clear ht ht2;have HD:=Hz_ fun k h=>ixB_drop t k (bds M) h;go_enter Tryz.func144,Tryz.ntmps144;go_wp2;go_loopw [8] (fun i wr=>∃(k:Nat),k<=m/\i=.int .i64 k/\Below w.heap.size w wr/\Hid (ixB t 0 (bds M)=ixB t k ((bds M).drop k))) (fun i _=>m - (intOf i).toNat)
 case atStart=>exact⟨0,by omega,rfl,Below.refl _ _,rfl⟩
 case round=>
  obtain⟨k,hk,rfl,hb,hf⟩:=hrel;by_cases hlt:k < m
  ·have hkl:k < M.length:=by rw[HL.out];omega
   have hkb:k < (bds M).length:=by rw[bds_len];exact hkl
   obtain⟨b,o,rfl,hab,g0,g1,g2,g3⟩:=HW.out wr hb k hkl;have HF:=hf.out.trans (HD.out k hkb);rw[bds_at M k hkl] at HF;have H1:=HT.out wr hb M[k].1.A M[k].1.c M[k].2;generalize t M[k].2=z at H1 HF;unfold bval at H1;generalize M[k].2.o=x0 at g0 H1;generalize M[k].2.s.1=x1 at g1 H1;generalize M[k].2.s.2=x2 at g2 H1;generalize M[k].2.v.length=q at g3 H1;generalize M[k].1.A=x3 at g3 H1;generalize M[k].1.c=x4 at g3 H1;have HB:=Hz_ hb;have H1:=Hz_ H1;have HF:=Hz_ HF;clear hb hf;cases z
   ·go_wp2_with (go_at_call 145;go_must (refine H1.out.mono ?_);rintro e w1 ⟨rfl,hb1⟩);go_roundw
    case rel=>exact⟨k+1,by omega,by go_num,btn HB.out hb1,by show _=_;rw[HF.out];rfl⟩
    case measure=>simp[intOf];omega
   ·go_wp2_with (go_at_call 145;go_must (refine H1.out.mono ?_);rintro e w1 ⟨rfl,hb1⟩);go_ret;exact⟨by rw[HF.out];rfl,btn HB.out hb1⟩
  ·obtain rfl:k=m:=by omega
   have HN:=Hz_ (show ixB t 0 (bds M)=-1 by rw[hf.out,List.drop_of_length_le (by rw[bds_len,HL.out];omega)];rfl);have HB:=Hz_ hb;clear hb hf;go_wp2;go_ret;exact⟨by rw[HN.out];rfl,HB.out⟩
theorem ixB_find (t:Wq.Bd->Bool):∀(k:Nat) (l:List Wq.Bd),ixB t k l=match l.findIdx? t with
  | none=>-1
  | some i=>((k+i:Nat):Int)
 | _,[]=>rfl
 | k,s :: r=>by
  rw[ixB,List.findIdx?_cons];by_cases h:t s=true
  ·rw[if_pos h,h];simp
  ·rw[if_neg h,ixB_find t (k+1) r];have h':t s=false:=by simpa using h
   rw[h']
   cases r.findIdx? t with
   | none=>rfl
   | some i=>show ((k+1+i:Nat):Int)=((k+(i+1):Nat):Int);congr 1;omega
theorem bvv_erase (M:List (BV×Wq.Bd)) (i:Nat) (h:i < M.length):(bvv M).take (i * 4)++(bvv M).drop ((i+1) * 4)=bvv (M.eraseIdx i):=by
 have e1:(bvv M).take (i * 4)=bvv (M.take i):=by
  have e:bvv M=bvv (M.take i)++bvv (M.drop i):=by rw[<-bvv_app,List.take_append_drop]
  rw[e,List.take_append_of_le_length (by rw[bvv_len,List.length_take];omega),List.take_of_length_le (by rw[bvv_len,List.length_take];omega)]
 have e2:(bvv M).drop ((i+1) * 4)=bvv (M.drop (i+1)):=by
  have e:bvv M=bvv (M.take (i+1))++bvv (M.drop (i+1)):=by rw[<-bvv_app,List.take_append_drop]
  rw[e,List.drop_append_of_le_length (by rw[bvv_len,List.length_take];omega),List.drop_of_length_le (by rw[bvv_len,List.length_take];omega),List.nil_append]
 rw[e1,e2,<-bvv_app,List.eraseIdx_eq_take_drop_succ]
theorem OwnBd.erase {w w':World} {base G k c:Nat} {M:List (BV×Wq.Bd)} (h:OwnBd w base (some ⟨G,0,none⟩) (k+1) c M) {i:Nat} (hi:i < M.length) (ho:w'.ownsRow base 31 4 (.slice (some ⟨G,0,none⟩) k c) k ((bvv M).take (i * 4)++(bvv M).drop ((i+1) * 4))) (hg:w.grownBy w' (some G)):
  OwnBd w' base (some ⟨G,0,none⟩) k c (M.eraseIdx i):=
 ⟨by rw[<-bvv_erase M i hi];exact ho,fun p hp=>(h.el p (List.mem_of_mem_eraseIdx hp)).kept hg (own_two (h.el p (List.mem_of_mem_eraseIdx hp)) h.row (by decide))⟩
theorem bds_erase (M:List (BV×Wq.Bd)) (i:Nat):bds (M.eraseIdx i)=(bds M).eraseIdx i:=by
 unfold bds;rw[List.eraseIdx_eq_take_drop_succ,List.eraseIdx_eq_take_drop_succ,List.map_append,List.map_take,List.map_drop]
def newSb (f:Int) (i:List Sn.Sp):Sb:=⟨f,i,0,0,false,false,false⟩
def wthG (f:Int) (i:List Sn.Sp):Bool->List Sb->List Sb
 | put,[]=>if put=true then [] else [newSb f i]
 | put,s :: r=>(if put=false/\f<=s.from_ then [newSb f i] else [])++((if s.from_=f then [] else [s])++wthG f i (put || decide (f<=s.from_)) r)
def withS (l:List Sb) (f:Int) (i:List Sn.Sp):List Sb:=wthG f i i.isEmpty l
theorem wth_gt {f:Int} {i:List Sn.Sp}:∀{l:List Sb},(∀s∈l,f < s.from_)->wthG f i true l=l
 | [],_=>rfl
 | s :: r,h=>by
  have:=h s (List.mem_cons_self ..);rw[wthG,if_neg (by simp),if_neg (by omega),Bool.true_or,wth_gt fun x hx=>h x (List.mem_cons_of_mem _ hx)];rfl
theorem wth_gt0 {f:Int} {i:List Sn.Sp} (put:Bool) {l:List Sb} (h:∀s∈l,f < s.from_):wthG f i put l=(if put=true then [] else [newSb f i])++l:=by
 cases put
 ·rcases l with _ | ⟨s,r⟩
  ·rfl
  ·have:=h s (List.mem_cons_self ..);rw[wthG,if_pos ⟨rfl,by omega⟩,if_neg (by omega),decide_eq_true (by omega),Bool.or_true,wth_gt fun x hx=>h x (List.mem_cons_of_mem _ hx)];rfl
 ·rw[wth_gt h];rfl
theorem wth_not {f:Int} {i:List Sn.Sp} (put:Bool):∀{l:List Sb} {k:Nat},(∀t (ht:t < l.length),t < k->l[t].from_ < f)->(∀t (ht:t < l.length),k<=t->f < l[t].from_) ->
  wthG f i put l=l.take k++((if put=true then [] else [newSb f i])++l.drop k)
 | l,0,_,h2=>by
  rw[List.take_zero,List.drop_zero,List.nil_append];refine wth_gt0 put fun s hs=>?_;obtain⟨t,ht,rfl⟩:=List.mem_iff_getElem.1 hs;exact h2 t ht (Nat.zero_le _)
 | [],k+1,_,_=>by simp[wthG]
 | s :: r,k+1,h1,h2=>by
  have h0:=h1 0 (by simp) (by omega);simp only[List.getElem_cons_zero] at h0;rw[wthG,if_neg (by omega),if_neg (by omega),decide_eq_false (by omega),Bool.or_false,wth_not put (k:=k) (fun t ht hk=>h1 (t+1) (by simp;omega) (by omega)) (fun t ht hk=>h2 (t+1) (by simp;omega) (by omega))];simp
theorem wth_hit {f:Int} {i:List Sn.Sp} (put:Bool):∀{l:List Sb} {k:Nat} (hk:k < l.length),(∀t (ht:t < l.length),t < k->l[t].from_ < f)->l[k].from_=f->(∀t (ht:t < l.length),k < t->f < l[t].from_) ->
  wthG f i put l=l.take k++((if put=true then [] else [newSb f i])++l.drop (k+1))
 | [],k,hk,_,_,_=>by simp at hk
 | s :: r,0,_,_,h0,h2=>by
  simp only[List.getElem_cons_zero] at h0;have hr:∀x∈r,f < x.from_:=fun x hx=>by
   obtain⟨t,ht,rfl⟩:=List.mem_iff_getElem.1 hx;exact h2 (t+1) (by simp;omega) (by omega)
  rw[wthG,if_pos h0,decide_eq_true (by omega),Bool.or_true,wth_gt hr];cases put
  ·rw[if_pos ⟨rfl,by omega⟩];simp
  ·rw[if_neg (by simp)];simp
 | s :: r,k+1,hk,h1,h0,h2=>by
  have hs:=h1 0 (by simp) (by omega);simp only[List.getElem_cons_zero] at hs;simp only[List.getElem_cons_succ] at h0;rw[wthG,if_neg (by omega),if_neg (by omega),decide_eq_false (by omega),Bool.or_false,wth_hit put (k:=k) (by simpa using hk) (fun t ht hk=>h1 (t+1) (by simp;omega) (by omega)) h0 (fun t ht hk=>h2 (t+1) (by simp;omega) (by omega))];simp
theorem rstF_iff:∀(last:Int) (l:List Sb),rstF last l=true↔(∀s∈l,sbF last s=true)/\l.Pairwise fun a b=>a.from_ < b.from_
 | last,[]=>by simp[rstF]
 | last,s :: r=>by
  rw[rstF,Bool.and_eq_true,rstF_iff s.from_ r,List.pairwise_cons,List.forall_mem_cons];unfold sbF;simp only[Bool.and_eq_true,decide_eq_true_eq];constructor
  ·rintro⟨h1,h2,h3⟩;exact⟨⟨h1,fun x hx=>by have:=h2 x hx;exact⟨⟨by omega,this.1.2⟩,this.2⟩⟩,fun x hx=>(h2 x hx).1.1,h3⟩
  ·rintro⟨⟨h1,h2⟩,h3,h4⟩;exact⟨h1,fun x hx=>⟨⟨h3 x hx,(h2 x hx).1.2⟩,(h2 x hx).2⟩,h4⟩
theorem withS_rest {l:List Sb} (h:rstF (-1) l=true) {f:Int} (h0:0<=f) (h1:f<=63) {i:List Sn.Sp} (hi:Sn.fmS (-2) i=true):rstF (-1) (withS l f i)=true:=by
 have key:∀(put:Bool) (hput:put=false->i.isEmpty=false) (l:List Sb) (last:Int),last < f\/put=true->rstF last l=true->rstF last (wthG f i put l)=true:=by
  intro put hput l
  induction l generalizing put with
  | nil=>
   intro last hl _;rw[wthG];cases put
   ·rcases hl with hl | hl
    ·have:=hput rfl;simp[rstF,sbF,newSb,sbZ,this,hi,hl,h1]
    ·cases hl
   ·rfl
  | cons s r ih=>
   intro last hl hr;rw[rstF,Bool.and_eq_true] at hr;have hs:=hr.1;unfold sbF at hs;simp only[Bool.and_eq_true,decide_eq_true_eq] at hs;rw[wthG];by_cases c1:s.from_ < f
   ·rw[if_neg (by omega),if_neg (by omega),decide_eq_false (by omega),Bool.or_false];simp only[List.nil_append,List.cons_append];rw[rstF,hr.1,ih put hput s.from_ (.inl c1) hr.2];rfl
   ·rw[decide_eq_true (show f<=s.from_ by omega),Bool.or_true];have hrest:∀q:Int,q<=s.from_->(s.from_=f->True)->∀hq:q < s.from_\/s.from_=f,rstF q ((if s.from_=f then [] else [s])++wthG f i true r)=true:=by
     intro q hq _ hq2;by_cases c2:s.from_=f
     ·rw[if_pos c2,List.nil_append];have:=ih true (by simp) s.from_ (.inr rfl) hr.2;rw[rstF_iff] at this ⊢;refine⟨fun x hx=>?_,this.2⟩;have:=this.1 x hx;unfold sbF at this ⊢;simp only[Bool.and_eq_true,decide_eq_true_eq] at this ⊢;exact⟨⟨by omega,this.1.2⟩,this.2⟩
     ·rw[if_neg c2,List.singleton_append,rstF,ih true (by simp) s.from_ (.inr rfl) hr.2,Bool.and_true];unfold sbF;simp only[Bool.and_eq_true,decide_eq_true_eq];exact⟨⟨by omega,hs.1.2⟩,hs.2⟩
    cases put
    ·rw[if_pos ⟨rfl,by omega⟩,List.singleton_append,rstF];rcases hl with hl | hl
     ·rw[show sbF last (newSb f i)=true by simp[sbF,newSb,sbZ,hput rfl,hi,hl,h1],Bool.true_and];exact hrest f (by omega) (fun _=>trivial) (by omega)
     ·cases hl
    ·rw[if_neg (by simp),List.nil_append];exact hrest last (by omega) (fun _=>trivial) (.inl hs.1.1)
 exact key _ (fun e=>e) l (-1) (.inl (by omega)) h
open Wq
def trimB (room:Int):List Bd->List Bd
 | []=>[]
 | x :: r=>if room < (usedB (x :: r):Int) then trimB room r else x :: r
theorem trimB_drop (room:Int) (l:List Bd) (k:Nat) (h:k < l.length):trimB room (l.drop k)=if room < (usedB (l.drop k):Int) then trimB room (l.drop (k+1)) else l.drop k:=by
 rw[List.drop_eq_getElem_cons h,trimB]
theorem trimB_ok {room:Int} {l:List Bd} (h:¬ room < (usedB l:Int)):trimB room l=l:=by
 cases l with
 | nil=>rfl
 | cons x r=>rw[trimB,if_neg h]
def putB (l:List Bd) (room:Int) (x:Bd):List Bd:=trimB room (l.filter (fun y=>!decide (y.o=x.o))++[x])
def toldV (v:Vw) (n:Nt):List Wr:=n.w.filter (reachd (tkZ v.zones v.known n) (nowOf v.known n))
def takeV (v:Vw) (n:Nt):Vw:=⟨nowOf v.known n,tkZ v.zones v.known n,putS v.held (toldV v n),v.bods.filter (wantd (putS v.held (toldV v n))),v.room⟩
def takeVE (v:Vw) (n:Nt):Int:=if (vwF v && ntF n)=true then (if ntFits n v.known=true then 0 else 3) else 1
def bodyV (v:Vw) (x:Bd):Vw:=⟨v.known,v.zones,v.held,putB v.bods v.room x,v.room⟩
def bodyVE (v:Vw) (x:Bd):Int:=if (vwF v && bdF x)=true then (if wantd v.held x=true then 0 else 13) else 1
theorem ahead1_iff (known:List Vc.St) (x:Zn):ahead1 known x=true↔cov2 known x.2=true/\cov2 x.2 known=false:=by
 unfold ahead1 standB cov2;cases covB (Vc.cnt x.2) (Vc.cnt known)<;>cases covB (Vc.cnt known) (Vc.cnt x.2)<;>simp
theorem cov2_refl (v:List Vc.St):cov2 v v=true:=(cov2_iff _ _).2 fun _ _=>Int.le_refl _
theorem tells_mem {z:List Zn} {o:Int} {v:List Vc.St} (h:tells z o=some v):∃x∈z,x.2=v:=by
 unfold tells at h;rcases hf:z.find? (inZ o) with _ | y
 ·rw[hf] at h;cases h
 ·rw[hf] at h;injection h with h;exact⟨y,List.mem_of_find?_eq_some hf,h⟩
theorem reach_known {z:List Zn} {known:List Vc.St} (h:z.all (ahead1 known)=true) (o:Int):cov2 known (reach z known o)=true:=by
 rw[reach_tells];rcases ht:tells z o with _ | v
 ·exact cov2_refl _
 ·obtain⟨x,hx,rfl⟩:=tells_mem ht;exact((ahead1_iff _ _).1 (List.all_eq_true.1 h x hx)).1
theorem now_ntz {known:List Vc.St} (h:fm (-1) known=true):nowOf known ntz=known:=by
 refine vec_ext (formed_vec _) h fun n hn=>?_;rw[cnt_now _ _ hn];show max (Vc.cnt known n) (Vc.cnt [] n)=_;have:=Vc.cnt_nonneg known n;have h0:Vc.cnt [] n=0:=rfl;omega
theorem hasO_nil (o:Int):hasO [] o=false:=by unfold hasO;simp[Sn.inB_nil]
theorem tk_ntz {z:List Zn} {known:List Vc.St} (h:zF (-1) none z=true) (hk:fm (-1) known=true) (ha:z.all (ahead1 known)=true):tkZ z known ntz=z:=by
 refine rls_is h (fun o v e=>tkF_fm h hk _ o v e) fun o ho=>?_;have e:newD z known ntz (o:Int)=reach z known (o:Int):=by
  unfold newD;rw[show ntz.b=[] from rfl,hasO_nil];show vec (farC (reach z known (o:Int)) [] [])=_;refine vec_ext (formed_vec _) (reach_fm h hk _) fun n hn=>?_;rw[cnt_far_vec _ _ _ hn];have:=Vc.cnt_nonneg (reach z known (o:Int)) n;have h0:Vc.cnt [] n=0:=rfl;unfold farC;split<;>omega
 unfold tkF;rw[e,now_ntz hk,reach_tells];rcases ht:tells z (o:Int) with _ | v
 ·rw[Option.getD_none,cov2_refl,if_pos rfl]
 ·obtain⟨x,hx,rfl⟩:=tells_mem ht;rw[Option.getD_some,((ahead1_iff _ _).1 (List.all_eq_true.1 ha x hx)).2];rfl
structure VwP (v:Vw):Prop where
 k:fm (-1) v.known=true
 z:zF (-1) none v.zones=true
 h:shF (-1) v.held=true
 r:0<=v.room/\v.room<=16777216
 n:v.bods.length<=256
 a:newsB [] v.bods=true
 u:(usedB v.bods:Int)<=v.room
 za:v.zones.all (ahead1 v.known)=true
 ha:v.held.all (reachd v.zones v.known)=true
 ba:v.bods.all (wantd v.held)=true
theorem vwF_iff (v:Vw):vwF v=true↔VwP v:=by
 unfold vwF caF;simp only[Bool.and_eq_true,decide_eq_true_eq];constructor
 ·rintro⟨⟨a,b,c,⟨d,e,f⟩,g,h⟩,i,j,k⟩;exact⟨a,b,c,⟨d,e⟩,f,g,h,i,j,k⟩
 ·rintro⟨a,b,c,⟨d,e⟩,f,g,h,i,j,k⟩;exact⟨⟨a,b,c,⟨d,e,f⟩,g,h⟩,i,j,k⟩
theorem putS_nil {l:List Wr} (h:shF (-1) l=true):putS l []=l:=(lsO_is h fun _=>rfl).symm
theorem takeV_ntz {v:Vw} (h:vwF v=true):takeV v ntz=v:=by
 have p:=(vwF_iff v).1 h;have e:toldV v ntz=[]:=rfl;unfold takeV;rw[e,putS_nil p.h,now_ntz p.k,tk_ntz p.z p.k p.za,List.filter_eq_self.2 fun x hx=>List.all_eq_true.1 p.ba x hx]
theorem newsB_iff:∀(l:List Bd) (seen:List Int),newsB seen l=true↔(∀x∈l,bdF x=true/\x.o ∉ seen)/\l.Pairwise fun a b=>a.o≠b.o
 | [],seen=>by simp[newsB]
 | y :: r,seen=>by
  rw[newsB];simp only[Bool.and_eq_true,Bool.not_eq_true',List.contains_eq_mem,decide_eq_false_iff_not];rw[newsB_iff r,List.pairwise_cons,List.forall_mem_cons];constructor
  ·rintro⟨⟨a,b⟩,c,d⟩;refine⟨⟨⟨b,a⟩,fun x hx=>⟨(c x hx).1,fun hs=>(c x hx).2 (List.mem_append.2 (.inl hs))⟩⟩,fun x hx e=>(c x hx).2 (List.mem_append.2 (.inr (by rw[e];exact List.mem_singleton.2 rfl))),d⟩
  ·rintro⟨⟨⟨a,b⟩,c⟩,d,e⟩;refine⟨⟨b,a⟩,fun x hx=>⟨(c x hx).1,fun hs=>?_⟩,e⟩;rcases List.mem_append.1 hs with hs | hs
   ·exact(c x hx).2 hs
   ·exact d x hx (List.mem_singleton.1 hs).symm
theorem usedB_sub:∀{l m:List Bd},l.Sublist m->usedB l<=usedB m
 | _,_,.slnil=>Nat.le_refl _
 | _,_,.cons a h=>by rw[usedB];have:=usedB_sub h;omega
 | _,_,.cons_cons a h=>by rw[usedB,usedB];have:=usedB_sub h;omega
theorem caP_sub {l m:List Bd} (h:l.Sublist m) (h1:newsB [] m=true):newsB [] l=true:=by
 rw[newsB_iff] at h1 ⊢;exact⟨fun x hx=>h1.1 x (h.subset hx),h1.2.sublist h⟩
theorem nodup_256:∀(k:Nat) {l:List Int},l.Nodup->(∀o∈l,0<=o/\o < (k:Int))->l.length<=k
 | 0,l,_,h=>by
  rcases l with _ | ⟨a,r⟩
  ·exact Nat.le_refl _
  ·have:=h a (List.mem_cons_self ..);omega
 | k+1,l,hn,h=>by
  have h1:=nodup_256 k (l:=l.filter fun o=>!decide (o=(k:Int))) (hn.sublist List.filter_sublist) fun o ho=>by
   obtain⟨a,b⟩:=List.mem_filter.1 ho;have:=h o a;simp at b;omega
  have h2:l.length<=(l.filter fun o=>!decide (o=(k:Int))).length+1:=by
   clear h1 h
   induction l with
   | nil=>simp
   | cons a r ih=>
    rw[List.nodup_cons] at hn;by_cases ha:a=(k:Int)
    ·have:r.filter (fun o=>!decide (o=(k:Int)))=r:=List.filter_eq_self.2 fun o ho=>by
      simp;rintro rfl;exact hn.1 (ha ▸ ho)
     rw[List.filter_cons,ha];simp only[decide_true,Bool.not_true,Bool.false_eq_true,if_false];rw[this,List.length_cons];exact Nat.le_refl _
    ·rw[List.filter_cons,decide_eq_false ha];simp only[Bool.not_false,if_true,List.length_cons];have:=ih hn.2;omega
  omega
theorem newsB_256 {l:List Bd} (h:newsB [] l=true):l.length<=256:=by
 obtain⟨h1,h2⟩:=(newsB_iff _ _).1 h;have:=nodup_256 256 (l:=l.map Bd.o) (List.pairwise_map.2 h2) fun o ho=>by
  obtain⟨x,hx,rfl⟩:=List.mem_map.1 ho;have:=(bdF_iff x).1 (h1 x hx).1;omega
 rwa [List.length_map] at this
theorem wrR_ntW {e:List Vc.St} {b:List Sn.Sp}:∀{l:List Wr} {last:Int},ntW e b last l=true->∀w∈l,wrR w=true
 | [],_,_,w,hw=>by cases hw
 | x :: r,last,h,w,hw=>by
  rw[ntW,Bool.and_eq_true,wOk_ref] at h;rcases List.mem_cons.1 hw with rfl | hw
  ·have h1:=h.1;simp only[Bool.and_eq_true,decide_eq_true_eq] at h1;rw[wrR_iff];refine⟨h1.2.1,?_⟩;have h2:=h1.1;unfold hasB at h2;rw[Bool.and_eq_true] at h2;exact h2.1
  ·exact wrR_ntW h.2 w hw
theorem wrR_note {n:Nt} (h:ntF n=true):∀w∈n.w,wrR w=true:=by
 unfold ntF at h;rw[Bool.and_eq_true] at h;exact wrR_ntW h.2
theorem tells_self:∀{z:List Zn} {e:Int} {p:Option (List Vc.St)},zF e p z=true->∀x∈z,tells z x.1.1=some x.2/\e < x.1.1/\x.1.1<=x.1.2/\x.1.2<=255
 | [],_,_,_,x,hx=>by cases hx
 | y :: r,e,p,h,x,hx=>by
  rw[zF,Bool.and_eq_true] at h;obtain⟨a,b,c,d⟩:=zStep_iff h.1;rcases List.mem_cons.1 hx with rfl | hx
  ·refine⟨?_,a,b,c⟩;unfold tells;rw[List.find?_cons,show inZ x.1.1 x=true from inZ_iff.2 ⟨Int.le_refl _,b⟩];rfl
  ·obtain⟨f1,f2,f3,f4⟩:=tells_self h.2 x hx;refine⟨?_,by omega,f3,f4⟩;rw[<-f1];unfold tells;rw[List.find?_cons,show inZ x.1.1 y=false from Bool.eq_false_iff.2 fun hq=>by have:=inZ_iff.1 hq;omega]
theorem newD_now {z:List Zn} {known:List Vc.St} (x:Nt) (o:Int) (h:cov2 known (reach z known o)=true):cov2 (nowOf known x) (newD z known x o)=true:=by
 have h1:cov2 (nowOf known x) (reach z known o)=true:=by
  rw[cov2_iff] at h ⊢;intro n hn;rw[cnt_now _ _ hn];have:=h n hn;omega
 unfold newD;split
 ·exact h1
 ·refine strD_or (fun u=>cov2 (nowOf known x) u=true) o ?_ h1;rw[cov2_iff] at h ⊢;intro n hn;rw[cnt_now _ _ hn,cnt_far_vec _ _ _ hn];have:=h n hn;unfold farC;split<;>omega
theorem fold_from:∀{t:List Wr} {f:Int->Option Wr} {o:Int} {w:Wr},t.foldl putA f o=some w->w∈t\/f o=some w
 | [],f,o,w,h=>.inr h
 | x :: t,f,o,w,h=>by
  rw[List.foldl_cons] at h;rcases fold_from h with h | h
  ·exact .inl (List.mem_cons_of_mem _ h)
  ·unfold putA at h
   split at h
   ·split at h
    ·injection h with h;subst h;exact .inl (List.mem_cons_self ..)
    ·rename_i u hu
     split at h
     ·injection h with h;subst h;exact .inl (List.mem_cons_self ..)
     ·exact .inr (hu.trans h)
   ·exact .inr h
theorem vwF_takeV {v:Vw} {n:Nt} (hv:vwF v=true) (hn:ntF n=true):vwF (takeV v n)=true:=by
 have p:=(vwF_iff v).1 hv;have ht:∀w∈toldV v n,wrR w=true:=fun w hw=>wrR_note hn w (List.mem_filter.1 hw).1;have ok:=okA_fold (okA_at p.h) ht;have hz:=tkZ_fm p.z p.k n;refine(vwF_iff _).2 ⟨formed_vec _,hz,lsO_F ok,p.r,?_,caP_sub List.filter_sublist p.a,?_,?_,?_,?_⟩
 ·exact Nat.le_trans (List.length_filter_le _ _) p.n
 ·have:=usedB_sub (List.filter_sublist (p:=wantd (putS v.held (toldV v n))) (l:=v.bods));have:=p.u;show (usedB (v.bods.filter _):Int)<=v.room;omega
 ·refine List.all_eq_true.2 fun x hx=>?_;obtain⟨t1,t2,t3,t4⟩:=tells_self hz x hx;rw[tkZ_tells p.z p.k,if_pos (by omega)] at t1;unfold tkF at t1
  split at t1
  ·cases t1
  ·rename_i hc;injection t1 with t1;rw[ahead1_iff,<-t1];exact⟨newD_now _ _ (reach_known p.za _),Bool.eq_false_iff.2 hc⟩
 ·refine List.all_eq_true.2 fun w hw=>?_;have hf:(toldV v n).foldl putA (atO v.held) w.2.1=some w:=(lsO_mem ok w).1 hw;have hr:=(wrR_iff w).1 (ok _ _ hf).2;rcases fold_from hf with h | h
  ·exact(List.mem_filter.1 h).2
  ·have hm:=((atO_iff ((shF_iff _ _).1 p.h).2).1 h).1;have h1:=List.all_eq_true.1 p.ha w hm;unfold reachd at h1 ⊢;have e:(w.2.1.toNat:Int)=w.2.1:=Int.toNat_of_nonneg hr.1.1;have h2:=(take_reach p.z p.k (x:=n) w.2.1.toNat (by omega) (reach_known p.za _)).1;rw[e] at h2;exact cntZ_le ((cov2_iff _ _).1 h2) h1
 ·exact List.all_eq_true.2 fun x hx=>(List.mem_filter.1 hx).2
theorem trimB_sub (room:Int):∀l:List Bd,(trimB room l).Sublist l
 | []=>.slnil
 | x :: r=>by
  rw[trimB];split
  ·exact .cons _ (trimB_sub room r)
  ·exact List.Sublist.refl _
theorem trimB_used {room:Int} (h:0<=room):∀l:List Bd,(usedB (trimB room l):Int)<=room
 | []=>by rw[trimB];exact h
 | x :: r=>by
  rw[trimB];split
  ·exact trimB_used h r
  ·omega
theorem vwF_bodyV {v:Vw} {x:Bd} (hv:vwF v=true) (hx:bdF x=true) (hw:wantd v.held x=true):vwF (bodyV v x)=true:=by
 have p:=(vwF_iff v).1 hv;have ha:newsB [] (v.bods.filter (fun y=>!decide (y.o=x.o))++[x])=true:=by
  have h1:=(newsB_iff _ _).1 p.a;rw[newsB_iff];refine⟨fun y hy=>⟨?_,by simp⟩,?_⟩
  ·rcases List.mem_append.1 hy with hy | hy
   ·exact(h1.1 y (List.mem_filter.1 hy).1).1
   ·rw[List.mem_singleton.1 hy];exact hx
  ·rw[List.pairwise_append];refine⟨h1.2.sublist List.filter_sublist,List.pairwise_singleton _ _,fun a ha b hb=>?_⟩;rw[List.mem_singleton.1 hb];have:=(List.mem_filter.1 ha).2;simpa using this
 have hs:=caP_sub (trimB_sub v.room _) ha;refine(vwF_iff _).2 ⟨p.k,p.z,p.h,p.r,newsB_256 hs,hs,trimB_used p.r.1 _,p.za,p.ha,?_⟩;refine List.all_eq_true.2 fun y hy=>?_;rcases List.mem_append.1 ((trimB_sub _ _).subset hy) with hy | hy
 ·exact List.all_eq_true.1 p.ba y (List.mem_filter.1 hy).1
 ·rw[List.mem_singleton.1 hy];exact hw
def ent3 (x:Ent):Ent:=⟨3,x.note,x.body,0,[],vw0,[]⟩
def ent4 (x:Ent):Ent:=⟨4,ntz,bdz,x.from_,x.int,vw0,[]⟩
def ent5 (x:Ent):Ent:=⟨5,ntz,bdz,0,[],x.view,x.subs⟩
theorem bareB_iff (x:Bd):bareB x=true↔x=bdz:=⟨bareB_is,fun h=>by rw[h];rfl⟩
theorem emptyN_iff (x:Nt):emptyN x=true↔x=ntz:=⟨emptyN_is,fun h=>by rw[h];rfl⟩
theorem noSub_iff (x:Ent):noSub x=true↔x.from_=0/\x.int=[]:=⟨noSub_is,fun h=>by unfold noSub;rw[h.1,h.2];rfl⟩
theorem noChk_iff (x:Ent):noChk x=true↔x.view=vw0/\x.subs=[]:=⟨noChk_is,fun h=>by unfold noChk;rw[h.1,h.2];rfl⟩
theorem ent_iff (x:Ent) (k:Int) (n:Nt) (b:Bd) (f:Int) (i:List Sn.Sp) (v:Vw) (s:List Sb):x=⟨k,n,b,f,i,v,s⟩↔x.kind=k/\x.note=n/\x.body=b/\x.from_=f/\x.int=i/\x.view=v/\x.subs=s:=by
 obtain⟨a1,a2,a3,a4,a5,a6,a7⟩:=x;simp
theorem same3 (x:Ent) (h:x.kind=3):entE x (ent3 x)=(noSub x && noChk x):=by
 rw[Bool.eq_iff_iff,entE_iff,ent3,ent_iff,Bool.and_eq_true,noSub_iff,noChk_iff];exact⟨fun ⟨_,_,_,b,c,d,e⟩=>⟨⟨b,c⟩,d,e⟩,fun ⟨⟨b,c⟩,d,e⟩=>⟨h,rfl,rfl,b,c,d,e⟩⟩
theorem same4 (x:Ent) (h:x.kind=4):entE x (ent4 x)=(emptyN x.note && (bareB x.body && noChk x)):=by
 rw[Bool.eq_iff_iff,entE_iff,ent4,ent_iff,Bool.and_eq_true,Bool.and_eq_true,emptyN_iff,bareB_iff,noChk_iff];exact⟨fun ⟨_,a,b,_,_,d,e⟩=>⟨a,b,d,e⟩,fun ⟨a,b,d,e⟩=>⟨h,a,b,rfl,rfl,d,e⟩⟩
theorem same5 (x:Ent) (h:x.kind=5):entE x (ent5 x)=(emptyN x.note && (bareB x.body && noSub x)):=by
 rw[Bool.eq_iff_iff,entE_iff,ent5,ent_iff,Bool.and_eq_true,Bool.and_eq_true,emptyN_iff,bareB_iff,noSub_iff];exact⟨fun ⟨_,a,b,d,e,_,_⟩=>⟨a,b,d,e⟩,fun ⟨a,b,d,e⟩=>⟨h,a,b,d,e,rfl,rfl⟩⟩
theorem entF_3 (x:Ent) (h:x.kind=3):entF x=(entE x (ent3 x) && (match x.note.w with | [w]=>ntF x.note && ofWr w x.body | _=>false)):=by
 rw[same3 x h];unfold entF;rw[if_neg (by rw[h];decide),if_neg (by rw[h];decide),if_pos h];rfl
theorem entF_4 (x:Ent) (h:x.kind=4):entF x=(((decide (0<=x.from_) && decide (x.from_<=63)) && Sn.fmS (-2) x.int) && entE x (ent4 x)):=by
 rw[same4 x h];unfold entF;rw[if_neg (by rw[h];decide),if_neg (by rw[h];decide),if_neg (by rw[h];decide),if_pos h];exact Bool.and_comm _ _
theorem entF_5 (x:Ent) (h:x.kind=5):entF x=((vwF x.view && restF x.subs) && entE x (ent5 x)):=by
 rw[same5 x h];unfold entF;rw[if_neg (by rw[h];decide),if_neg (by rw[h];decide),if_neg (by rw[h];decide),if_neg (by rw[h];decide),if_pos h];exact Bool.and_comm _ _
theorem entF_no (x:Ent) (h:¬ (x.kind=1\/x.kind=2\/x.kind=3\/x.kind=4\/x.kind=5)):entF x=false:=by
 unfold entF;rw[if_neg (by omega),if_neg (by omega),if_neg (by omega),if_neg (by omega),if_neg (by omega)]
def hasBody (x:Ent):Bool:=match x.note.w with
 | []=>false
 | w :: _=>!w.2.2
def plyE (v:Vw) (l:List Sb) (x:Ent):Int:=
 if x.kind=1 then takeVE v x.note
 else if x.kind=2 then bodyVE v x.body
 else if x.kind=3 then (if takeVE v x.note=0/\hasBody x=true then bodyVE (takeV v x.note) x.body else takeVE v x.note)
 else if x.kind=4 then (if (withS l x.from_ x.int).length<=16 then 0 else 15)
 else 0
def plyV (v:Vw) (x:Ent):Vw:=
 if x.kind=1 then takeV v x.note
 else if x.kind=2 then bodyV v x.body
 else if x.kind=3 then (if hasBody x=true then bodyV (takeV v x.note) x.body else takeV v x.note)
 else if x.kind=4 then v
 else x.view
def plyS (l:List Sb) (x:Ent):List Sb:=
 if x.kind=4 then withS l x.from_ x.int
 else if x.kind=5 then x.subs
 else l
def playE (v:Vw) (l:List Sb) (x:Ent):Int:=if (vwF v && (restF l && entF x))=true then plyE v l x else 1
def playV (v:Vw) (l:List Sb) (x:Ent):Vw:=if playE v l x=0 then plyV v x else vw0
def playS (v:Vw) (l:List Sb) (x:Ent):List Sb:=if playE v l x=0 then plyS l x else []
theorem takeVE_zero {v:Vw} {n:Nt} (h:takeVE v n=0):vwF v=true/\ntF n=true:=by
 unfold takeVE at h
 split at h
 ·rename_i c;exact Bool.and_eq_true .. ▸ c
 ·cases h
theorem bodyVE_zero {v:Vw} {x:Bd} (h:bodyVE v x=0):vwF v=true/\bdF x=true/\wantd v.held x=true:=by
 unfold bodyVE at h
 split at h
 ·rename_i c;rw[Bool.and_eq_true] at c
  split at h
  ·rename_i d;exact⟨c.1,c.2,d⟩
  ·cases h
 ·cases h
theorem play_formed {v:Vw} {l:List Sb} {x:Ent} (h:playE v l x=0):vwF (playV v l x)=true/\restF (playS v l x)=true:=by
 unfold playV playS;rw[if_pos h,if_pos h];unfold playE at h
 split at h
 ·rename_i c;simp only[Bool.and_eq_true] at c;obtain⟨c1,c2,c3⟩:=c;unfold plyE at h;unfold plyV plyS;by_cases k1:x.kind=1
  ·rw[if_pos k1] at h;rw[if_pos k1,if_neg (show ¬ x.kind=4 by omega),if_neg (show ¬ x.kind=5 by omega)];exact⟨vwF_takeV c1 (takeVE_zero h).2,c2⟩
  rw[if_neg k1] at h ⊢;by_cases k2:x.kind=2
  ·rw[if_pos k2] at h;rw[if_pos k2,if_neg (show ¬ x.kind=4 by omega),if_neg (show ¬ x.kind=5 by omega)];obtain⟨_,b,d⟩:=bodyVE_zero h;exact⟨vwF_bodyV c1 b d,c2⟩
  rw[if_neg k2] at h ⊢;by_cases k3:x.kind=3
  ·rw[if_pos k3] at h;rw[if_pos k3,if_neg (show ¬ x.kind=4 by omega),if_neg (show ¬ x.kind=5 by omega)];refine⟨?_,c2⟩;by_cases hb:hasBody x=true
   ·rw[if_pos hb]
    split at h
    ·rename_i q;obtain⟨a,b,d⟩:=bodyVE_zero h;exact vwF_bodyV a b d
    ·rename_i q;exact absurd ⟨h,hb⟩ q
   ·rw[if_neg hb];rw[if_neg fun q=>hb q.2] at h;exact vwF_takeV c1 (takeVE_zero h).2
  rw[if_neg k3] at h ⊢;by_cases k4:x.kind=4
  ·rw[if_pos k4] at h;rw[if_pos k4,if_pos k4];refine⟨c1,?_⟩
   split at h
   ·rename_i q;have e:=entF_4 x k4;rw[c3] at e;replace e:=e.symm;simp only[Bool.and_eq_true,decide_eq_true_eq] at e;unfold restF at c2 ⊢;rw[Bool.and_eq_true] at c2 ⊢;exact⟨withS_rest c2.1 e.1.1.1 e.1.1.2 e.1.2,decide_eq_true q⟩
   ·cases h
  rw[if_neg k4] at h ⊢;by_cases k5:x.kind=5
  ·rw[if_neg k4,if_pos k5];have e:=entF_5 x k5;rw[c3] at e;replace e:=e.symm;simp only[Bool.and_eq_true] at e;exact e.1
  ·rw[entF_no x (by omega)] at c3;cases c3
 ·cases h
theorem deleteNilV0 (fv:Value) (w:World):Calls Tryz.prog 139 #[.slice none 0 0,fv] w fun e w'=>e=.returned (.slice none 0 0)/\w=w':=by
 have H1:=Hz_ fun (w:World)=>(show Calls Tryz.prog 189 #[.slice none 0 0,fv] w fun e w'=>e=.returned (.int .i64 (-1))/\w=w' from by
  go_enter Tryz.func189,Tryz.ntmps189;go_wp2;go_loopw [8] (fun i wr=>i=.int .i64 0/\w=wr) (fun _ _=>0)
  case atStart=>exact⟨rfl,rfl⟩
  case round=>
   obtain⟨rfl,rfl⟩:=hrel;go_wp2;go_ret;exact⟨rfl,rfl⟩)
 go_enter Tryz.func139,Tryz.ntmps139;go_wp2_with (go_at_call 189;go_must (refine(H1.out _).mono ?_);rintro e w1 ⟨rfl,rfl⟩);go_ret;exact⟨rfl,rfl⟩
theorem deleteVO_any (base n c:Nat) (A:Option Addr) (l:List Wr) (pv qv:Value) (p:Wr->Bool) (w:World) (ho:w.ownsRow base 70 4 (.slice A n c) n (wv l)) (hl:l.length=n) (hn:n<=1000000000) (hp:∀G,A=some ⟨G,0,none⟩->TestV w G pv qv p):
  Calls Tryz.prog 139 #[.slice A n c,.func (.func 141) #[] #[pv,qv]] w fun e w'=>∃i,e=.returned (.slice A i c)/\(l.filter fun x=>!p x).length=i/\w'.ownsRow base 70 4 (.slice A i c) i (wv (l.filter fun x=>!p x))/\w.grownBy w' (Value.slice A 0 0).ownBlock:=by
 rcases own_at0 ho with ⟨rfl,rfl,rfl,h⟩ | ⟨G,rfl⟩
 ·have hl0:l=[]:=List.length_eq_zero_iff.1 hl;subst hl0;refine(deleteNilV0 _ w).mono ?_;rintro e w' ⟨rfl,rfl⟩;exact⟨0,rfl,rfl,ho,World.grownBy.refl _ _⟩
 ·exact deleteV_any base G n c l pv qv p w ho hl hn (hp G rfl)
theorem OwnBd.cells {w:World} {base G k c:Nat} {L:List (BV×Wq.Bd)} (h:OwnBd w base (some ⟨G,0,none⟩) k c L) {i:Nat} (hi:i < L.length):
  w.cell? ⟨G,i * 4,none⟩=some (.int .i64 L[i].2.o)/\w.cell? ⟨G,i * 4+1,none⟩=some (.int .i64 L[i].2.s.1)/\w.cell? ⟨G,i * 4+2,none⟩=some (.int .i64 L[i].2.s.2)/\w.cell? ⟨G,i * 4+3,none⟩=some (.slice L[i].1.A L[i].2.v.length L[i].1.c):=by
 have hl:=h.len;have e:∀j,j < 4->∀u,(bvl L[i])[j]?=some u->w.cell? ⟨G,i * 4+j,none⟩=some u:=fun j hj u hu=>by
  rw[h.row.cellAt (i * 4+j) (by omega),bvv_at L i hi j hj];exact hu
 exact⟨e 0 (by decide) _ rfl,e 1 (by decide) _ rfl,e 2 (by decide) _ rfl,e 3 (by decide) _ rfl⟩
def TkV (w:World) (E:Int) (V:Vw) (e:Ending) (w':World):Prop:=∃u',e=.returned (.tuple #[.agg (vval V u'),.int .i64 E])/\(∃L M,VwRd w' w'.heap.size u' V L M)/\Below w.heap.size w w'
def uv0:VV:=⟨none,0,none,0,none,0,none,0⟩
theorem vw0_rd (w:World) (B:Nat):VwRd w B uv0 Wq.vw0 [] []:=⟨Rd.none_,RdZ.none_ _ _,rfl,Rd.none_,RdBs.none_ _ _,rfl⟩
theorem TkV.no {w w':World} {E:Int} (hb:Below w.heap.size w w'):TkV w E Wq.vw0 (.returned (.tuple #[.agg #[.slice none 0 0,.slice none 0 0,.slice none 0 0,.slice none 0 0,.int .i64 0],.int .i64 E])) w':=⟨uv0,rfl,⟨[],[],vw0_rd _ _⟩,hb⟩
theorem tkE_of {v:Vw} (hv:vwF v=true) (x:Nt):tkE v.zones v.known x=takeVE v x:=by
 obtain⟨h1,h2,_,_⟩:=Wq.vwF_parts hv;unfold tkE takeVE;rw[h1,h2,hv];simp
theorem toldV_is {v:Vw} {x:Nt} (h:takeVE v x=0):(x.w.filter fun q=>!(!(hasB (reachF (tkZ v.zones v.known x) (nowOf v.known x) q.2.1) q.1)))=toldV v x:=by
 obtain⟨hv,hx⟩:=takeVE_zero h;have hf:=vwF_takeV hv hx;obtain⟨h1,h2,_,_⟩:=Wq.vwF_parts hf;unfold toldV;refine List.filter_congr fun q hq=>?_;have hr:=((wrR_iff _).1 (wrR_note hx q hq)).1;rw[Bool.not_not,reachF_yes (z:=tkZ v.zones v.known x) (known:=nowOf v.known x) h2 h1 hr];rfl
def gu0 (r:Bool):List PanicEntry:=[{ v:=.iface 82 (.agg #[]),recovered:=r }]
def entZ:Array Value:=#[.int .i64 0,.slice none 0 0,.slice none 0 0,.slice none 0 0,.slice none 0 0,.int .i64 0,.int .i64 0,.int .i64 0,.slice none 0 0,.int .i64 0,.slice none 0 0,.slice none 0 0,.slice none 0 0,.slice none 0 0,.slice none 0 0,.int .i64 0,.slice none 0 0]
theorem assert_no (w:World):(Instr.typeAssert .nilIface 20 82 true).run Tryz.prog w=.ok (.tuple #[.agg #[],.bool false]) w:=rfl
theorem assert_yes (w:World):(Instr.typeAssert (.iface 82 (.agg #[])) 20 82 true).run Tryz.prog w=.ok (.tuple #[.agg #[],.bool true]) w:=rfl
theorem catch_idle (p q:Addr) (w:World):
  CallsD Tryz.prog 47 #[.pointer (some p),.pointer (some q)] .returning w fun e u' w'=>e=.returned (.tuple #[])/\u'=.returning/\Below w.heap.size w w':=by
 refine callsD_of_wpS Tryz.func47 rfl fun c₀ cs hu=>?_;apply wpS_seq;apply wpS_region;simp[wpOpsS,go_sem,recoverD,hu,Tryz.ntmps47,Exit.thenS,assert_no];apply wpS_seq;apply wpS_region;simp[wpOpsS,go_sem,Exit.thenS];refine wpS_cond (t:=false) (by simp[Act.eval,Array.replicate]) ?_;simp only[Bool.false_eq_true,if_false];refine wpS_of_wp (wp_skip ?_);cases c₀
 simp_all [bodyPostS,results,Tryz.results47]
 exact Zr.alloc Zl _
theorem catch_panic (X Y:Nat) (c17:Array Value) (ev:Value) (w:World) (hX:Blk w X 38 c17) (hs:c17.size=17) (hY:Blk w Y 40 #[ev]) (hne:X≠Y):
  CallsD Tryz.prog 47 #[.pointer (some ⟨X,0,none⟩),.pointer (some ⟨Y,0,none⟩)] (.panicking (gu0 false)) w fun e u' w'=>e=.returned (.tuple #[])/\u'=.panicking (gu0 true)/\Blk w' X 38 entZ/\Blk w' Y 40 #[.int .i64 4]/\∀B,B<=X->B<=Y->B<=w.heap.size->Below B w w':=by
 refine callsD_of_wpS Tryz.func47 rfl fun c₀ cs hu=>?_;apply wpS_seq;apply wpS_region;unfold gu0 at hu;simp[wpOpsS,go_sem,recoverD,hu,Tryz.ntmps47,Exit.thenS,assert_yes];apply wpS_seq;apply wpS_region;simp[wpOpsS,go_sem,Exit.thenS];refine wpS_cond (t:=true) (by simp[Act.eval,Array.replicate]) ?_;simp only[if_true];refine wpS_of_wp ?_;have hi:(Tryz.prog.info? 38).map (·.size)=some entZ.size:=by kernel_rfl
 have hw0:Below w.heap.size w (w.alloc (.cells #[] 82)):=Zr.alloc Zl _;have hX':=hX.go hw0;have hY':=hY.go hw0;have hs':c17.size=entZ.size:=hs;have HI:=Hz_ hi;have HS:=Hz_ hs';clear hi hs hs';go_wp2_with (refine wpList_store_blk rfl 38 _ _ rfl X 38 _ entZ rfl rfl hX' HI.out HS.out (by simp[entZ,Value.oneCell']) ?_;intro Wc hblk hg;have hY2:=hY'.grown hg (by intro e;injection e with e;exact hne e.symm);have c0:=hY2.cell 0;have f0:=hY2.frozen 0);refine⟨rfl,_,rfl,.tuple #[],by simp[results,Tryz.results47],rfl,rfl,hblk.far (p:=⟨Y,0,none⟩) hne _,hY2.set_ 0 _,fun B h1 h2 h3=>?_⟩;exact((hw0.mono h3).trans (grown_below hg (Nat.le_trans h3 hw0.size) (fun k hk=>by injection hk with hk;subst hk;exact h1))).setCell (p:=⟨Y,0,none⟩) h2 _
theorem res_cc {P:Program} {fn:Func} {p q:Tmp} {ty ty2:TypeId} (h:fn.results=#[.cell p ty,.cell q ty2]) (tmps:Array Value) (w:World) (g g2:Nat) (t t2:TypeId) (cs:Array Value) (z:Value) (fr fr2:Nat×Nat) (d d2:TypeDesc)
  (hp:tmps.getD p undef=.pointer (some ⟨g,0,none⟩)) (hg:w.heap[g]?=some (.cells cs t fr))
  (hu:P.underlying ty=some d) (hd:(match d with | .struct _ | .array _ _=>true | _=>false)=true) (hi:(P.info? ty).map (·.size)=some cs.size)
  (hq:tmps.getD q undef=.pointer (some ⟨g2,0,none⟩)) (hg2:w.heap[g2]?=some (.cells #[z] t2 fr2))
  (hu2:P.underlying ty2=some d2) (hd2:(match d2 with | .struct _ | .array _ _=>true | _=>false)=false):
  (results fn tmps).run P w=.ok (.tuple #[.agg cs,z]) w:=by
 have hp':tmps[p]?.getD undef=.pointer (some ⟨g,0,none⟩):=by simpa using hp
 have hq':tmps[q]?.getD undef=.pointer (some ⟨g2,0,none⟩):=by simpa using hq
 have hc:w.cell? ⟨g2,0,none⟩=some z:=by rw[cell_of_row w g2 0 #[z] t2 fr2 hg2];rfl
 have hagg:(isAgg ty2).run P w=.ok false w:=by
  unfold isAgg;rw[Sem.run_bind,run_underlying hu2 w];cases d2<;>simp_all
 have hl:(loadVar ty2 ⟨g2,0,none⟩).run P w=.ok z w:=by
  simp[loadVar,Sem.run_bind,hagg,go_sem,hc]
 simp[results,h,hp',hq',asAddr,run_loadVar_row w g t ty cs fr d hg hu hd hi,hl]
def PncA (K:Act->World->Prop) (R:List PanicEntry->World->Prop) (D:List Deferred) (v2 v3:Value):Exit->Act->World->Prop
 | .normal,a,w=>K a w
 | .panic c,a,w=>(a.defers=D/\a.tmps.getD 2 undef=v2/\a.tmps.getD 3 undef=v3)/\R c w
 | _,_,_=>False
theorem PncA.out {K:Act->World->Prop} {R:List PanicEntry->World->Prop} {D:List Deferred} {v2 v3:Value} {a:Act} {w:World} (h:K a w):PncA K R D v2 v3 .normal a w:=h
theorem PncA.put {K:Act->World->Prop} {R:List PanicEntry->World->Prop} {D:List Deferred} {v2 v3 v:Value} {d:Nat} (h2:d≠2) (h3:d≠3) {c:List PanicEntry} {a:Act} {w:World} (h:PncA K R D v2 v3 (.panic c) (a.put (some d) v) w):PncA K R D v2 v3 (.panic c) a w:=by
 obtain⟨⟨a1,a2,a3⟩,a4⟩:=h;refine⟨⟨a1,?_,?_⟩,a4⟩
 ·rw[<-a2];simp[Act.put,Array.getD_eq_getD_getElem?,h2]
 ·rw[<-a3];simp[Act.put,Array.getD_eq_getD_getElem?,h3]
theorem region_pnca {P:Program} {id:Nat} {ops:Array Oper} {d:Bool} {Q:Exit->Act->World->Prop} {a:Act} {w:World} (D:List Deferred) (v2 v3:Value)
  (h:∀(K:Act->World->Prop) (R:List PanicEntry->World->Prop),(∀a w,Q .normal a w->K a w)->(∀c w,(∀a,a.defers=D->a.tmps.getD 2 undef=v2->a.tmps.getD 3 undef=v3->Q (.panic c) a w)->R c w)->(Code.region id ops d).wp P (PncA K R D v2 v3) a w):(Code.region id ops d).wp P Q a w:=by
 refine Code.wp_mono (Q:=PncA (fun a w=>Q .normal a w) (fun c w=>∀a,a.defers=D->a.tmps.getD 2 undef=v2->a.tmps.getD 3 undef=v3->Q (.panic c) a w) D v2 v3) (fun e a w hh=>?_) (h (fun a w=>Q .normal a w) (fun c w=>∀a,a.defers=D->a.tmps.getD 2 undef=v2->a.tmps.getD 3 undef=v3->Q (.panic c) a w) (fun _ _ hh=>hh) (fun _ _ hh=>hh))
 cases e with
 | normal=>exact hh
 | panic c=>exact hh.2 a hh.1.1 hh.1.2.1 hh.1.2.2
 | _=>exact False.elim hh
structure EC (W:World) (X base:Nat) (u:EV) (x:Ent) (L:List (ZV×Zn)) (M:List (BV×Wq.Bd)) (S:List (SV×Sb)):Prop where
 blk:Blk W X 38 (eval x u)
 nt:NtOwn W base u.nv x.note
 bd:W.ownsRow base 5 1 (.slice u.bA x.body.v.length u.bc) x.body.v.length (bv x.body.v)
 it:W.ownsRow base 63 2 (.slice u.iA x.int.length u.ic) x.int.length (sv x.int)
 vw:VwOwn W base u.vv x.view L M
 sb:OwnSb W base u.sA x.subs.length u.sc S
 ns:sbs S=x.subs
theorem NtOwn.kp {w w':World} {base:Nat} {t:TypeId} {v:NV} {n:Nt} (h:NtOwn w base v n) (k:Kp t w w') (h1:28≠t) (h2:63≠t) (h3:70≠t):NtOwn w' base v n:=
 ⟨h.l1,k _ _ _ _ _ _ h1 h.o1,h.l2,k _ _ _ _ _ _ h1 h.o2,h.l3,k _ _ _ _ _ _ h2 h.o3,h.l4,k _ _ _ _ _ _ h3 h.o4⟩
theorem OwnSb.kp {w w':World} {base k c:Nat} {t:TypeId} {A:Option Addr} {S:List (SV×Sb)} (h:OwnSb w base A k c S) (q:Kp t w w') (h1:65≠t) (h2:63≠t):OwnSb w' base A k c S:=
 ⟨q _ _ _ _ _ _ h1 h.row,fun p hp=>q _ _ _ _ _ _ h2 (h.el p hp)⟩
structure ES (w W:World) (X:Nat) (cur:List UInt8) (u:EV) (x:Ent) (L:List (ZV×Zn)) (M:List (BV×Wq.Bd)) (S:List (SV×Sb)):Prop extends EC W X (X+3) u x L M S where
 err:Blk W (X+1) 40 #[.int .i64 0]
 tr:TR W (X+2) X cur
 out:Below X w W
 hX:X=w.heap.size
theorem But.grown {g:Nat} {W W':World} (hg:W.grownBy W' (some g)):But g W W':=⟨hg.os,hg.tape,hg.output,hg.size,fun k hk hn=>hg.block k hk (fun e=>hn (Option.some.inj e))⟩
theorem VwOwn.row_ {W W':World} {L:List (ZV×Zn)} {M:List (BV×Wq.Bd)} {base b size n:Nat} {e:TypeId} {t:Value} {xs:List Value} {z:VV} {v:Vw} (h:VwOwn W base z v L M) (ho:W.ownsRow b e size t n xs) (h1:28≠e) (h2:129≠e) (h3:70≠e) (h4:31≠e) (h5:5≠e) (hg:W.grownBy W' t.ownBlock):VwOwn W' base z v L M:=
 ⟨h.k.kept hg (own_two h.k ho h1),h.z.row_ ho h2 h1 hg,h.nz,h.h.kept hg (own_two h.h ho h3),h.b.row_ ho h4 h5 hg,h.nb⟩
section
variable {W W':World} {X base g:Nat} {u:EV} {x:Ent} {L:List (ZV×Zn)} {M:List (BV×Wq.Bd)} {S:List (SV×Sb)}
theorem EC.call (h:EC W X base u x L M S) (hb:But g W W') (h1:X≠g) (h2:g < base):EC W' X base u x L M S:=
 ⟨h.blk.but hb h1,h.nt.but hb h2,own_but h.bd hb h2,own_but h.it hb h2,h.vw.but hb h2,h.sb.but hb h2,h.ns⟩
theorem EC.grow (h:EC W X base u x L M S) (hb:Below W.heap.size W W'):EC W' X base u x L M S:=
 ⟨h.blk.go hb,h.nt.below hb,own_below h.bd hb Zl,own_below h.it hb Zl,h.vw.below hb,h.sb.below hb,h.ns⟩
theorem EC.put {u':EV} {x':Ent} (h:EC W X base u x L M S) (hu:But X W W') (hblk:Blk W' X 38 (eval x' u'))
  (hn:NtOwn W base u'.nv x'.note) (hb:W.ownsRow base 5 1 (.slice u'.bA x'.body.v.length u'.bc) x'.body.v.length (bv x'.body.v)) (hi:W.ownsRow base 63 2 (.slice u'.iA x'.int.length u'.ic) x'.int.length (sv x'.int))
  {L':List (ZV×Zn)} {M':List (BV×Wq.Bd)} (hv:VwOwn W base u'.vv x'.view L' M') {S':List (SV×Sb)} (hs:OwnSb W base u'.sA x'.subs.length u'.sc S') (hns:sbs S'=x'.subs):But X W W'/\EC W' X base u' x' L' M' S':=
 have k:=Kp.blk h.blk hu
 ⟨hu,hblk,hn.kp k (by decide) (by decide) (by decide),k _ _ _ _ _ _ (by decide) hb,k _ _ _ _ _ _ (by decide) hi,hv.kp k (by decide) (by decide) (by decide) (by decide) (by decide),hs.kp k (by decide) (by decide),hns⟩
theorem EC.kind_ (h:EC W X base u x L M S) (k:Int):But X W (W.setCell ⟨X,0,none⟩ (.int .i64 k))/\EC (W.setCell ⟨X,0,none⟩ (.int .i64 k)) X base ⟨u.nv,u.bA,u.bc,u.iA,u.ic,u.vv,u.sA,u.sc⟩ ⟨k,x.note,x.body,x.from_,x.int,x.view,x.subs⟩ L M S:=
 h.put (u':=⟨u.nv,u.bA,u.bc,u.iA,u.ic,u.vv,u.sA,u.sc⟩) (x':=⟨k,x.note,x.body,x.from_,x.int,x.view,x.subs⟩) (But.set_ (g:=X) W (p:=⟨X,0,none⟩) rfl _) (h.blk.set_ 0 (.int .i64 k)) h.nt h.bd h.it h.vw h.sb h.ns
theorem EC.frm_ (h:EC W X base u x L M S) (f:Int):But X W (W.setCell ⟨X,9,none⟩ (.int .i64 f))/\EC (W.setCell ⟨X,9,none⟩ (.int .i64 f)) X base ⟨u.nv,u.bA,u.bc,u.iA,u.ic,u.vv,u.sA,u.sc⟩ ⟨x.kind,x.note,x.body,f,x.int,x.view,x.subs⟩ L M S:=
 h.put (u':=⟨u.nv,u.bA,u.bc,u.iA,u.ic,u.vv,u.sA,u.sc⟩) (x':=⟨x.kind,x.note,x.body,f,x.int,x.view,x.subs⟩) (But.set_ (g:=X) W (p:=⟨X,9,none⟩) rfl _) (h.blk.set_ 9 (.int .i64 f)) h.nt h.bd h.it h.vw h.sb h.ns
theorem EC.int_ (h:EC W X base u x L M S) {i:List Sn.Sp} {A:Option Addr} {c:Nat} (hi:W.ownsRow base 63 2 (.slice A i.length c) i.length (sv i)):But X W (W.setCell ⟨X,10,none⟩ (.slice A i.length c))/\EC (W.setCell ⟨X,10,none⟩ (.slice A i.length c)) X base ⟨u.nv,u.bA,u.bc,A,c,u.vv,u.sA,u.sc⟩ ⟨x.kind,x.note,x.body,x.from_,i,x.view,x.subs⟩ L M S:=
 h.put (u':=⟨u.nv,u.bA,u.bc,A,c,u.vv,u.sA,u.sc⟩) (x':=⟨x.kind,x.note,x.body,x.from_,i,x.view,x.subs⟩) (But.set_ (g:=X) W (p:=⟨X,10,none⟩) rfl _) (h.blk.set_ 10 (.slice A i.length c)) h.nt h.bd hi h.vw h.sb h.ns
theorem EC.view_ (h:EC W X base u x L M S) {z:VV} {v:Vw} {L':List (ZV×Zn)} {M':List (BV×Wq.Bd)} (hv:VwOwn W base z v L' M'):But X W (((((W.setCell ⟨X,11,none⟩ (.slice z.kA v.known.length z.kc)).setCell ⟨X,12,none⟩ (.slice z.zA v.zones.length z.zc)).setCell ⟨X,13,none⟩ (.slice z.hA v.held.length z.hc)).setCell ⟨X,14,none⟩ (.slice z.bA v.bods.length z.bc)).setCell ⟨X,15,none⟩ (.int .i64 v.room))/\EC (((((W.setCell ⟨X,11,none⟩ (.slice z.kA v.known.length z.kc)).setCell ⟨X,12,none⟩ (.slice z.zA v.zones.length z.zc)).setCell ⟨X,13,none⟩ (.slice z.hA v.held.length z.hc)).setCell ⟨X,14,none⟩ (.slice z.bA v.bods.length z.bc)).setCell ⟨X,15,none⟩ (.int .i64 v.room)) X base ⟨u.nv,u.bA,u.bc,u.iA,u.ic,z,u.sA,u.sc⟩ ⟨x.kind,x.note,x.body,x.from_,x.int,v,x.subs⟩ L' M' S:=
 h.put (u':=⟨u.nv,u.bA,u.bc,u.iA,u.ic,z,u.sA,u.sc⟩) (x':=⟨x.kind,x.note,x.body,x.from_,x.int,v,x.subs⟩) (((((But.set_ (g:=X) W (p:=⟨X,11,none⟩) rfl _).trans (But.set_ (g:=X) _ (p:=⟨X,12,none⟩) rfl _)).trans (But.set_ (g:=X) _ (p:=⟨X,13,none⟩) rfl _)).trans (But.set_ (g:=X) _ (p:=⟨X,14,none⟩) rfl _)).trans (But.set_ (g:=X) _ (p:=⟨X,15,none⟩) rfl _)) (((((h.blk.set_ 11 (.slice z.kA v.known.length z.kc)).set_ 12 (.slice z.zA v.zones.length z.zc)).set_ 13 (.slice z.hA v.held.length z.hc)).set_ 14 (.slice z.bA v.bods.length z.bc)).set_ 15 (.int .i64 v.room)) h.nt h.bd h.it hv h.sb h.ns
theorem EC.low (h:EC W X base u x L M S) (hgr:W.grownBy W' (Value.slice u.sA x.subs.length u.sc).ownBlock) (hs:base<=W.heap.size):Below base W W':=grown_below hgr hs (fun k hk=>(h.sb.row.lt k hk).1)
theorem EC.sub_ (h:EC W X base u x L M S) {p:SV×Sb} (hp:W.ownsRow base 63 2 (.slice p.1.A p.2.int.length p.1.c) p.2.int.length (sv p.2.int)) {A':Option Addr} {c':Nat}
  (hgr:W.grownBy W' (Value.slice u.sA x.subs.length u.sc).ownBlock) (ho:W'.ownsRow base 65 7 (.slice A' (x.subs.length+1) c') (x.subs.length+1) (sbv S++sbl p)):
  But X W' (W'.setCell ⟨X,16,none⟩ (.slice A' (x.subs.length+1) c'))/\EC (W'.setCell ⟨X,16,none⟩ (.slice A' (x.subs.length+1) c')) X base ⟨u.nv,u.bA,u.bc,u.iA,u.ic,u.vv,A',c'⟩ ⟨x.kind,x.note,x.body,x.from_,x.int,x.view,x.subs++[p.2]⟩ L M (S++[p]):=by
 have hr:=h.sb.row;have hl:(x.subs++[p.2]).length=x.subs.length+1:=by simp
 have hB:=blk_grow h.blk hr hgr (by decide);have hb:W'.ownsRow base 5 1 (.slice u.bA x.body.v.length u.bc) x.body.v.length (bv x.body.v):=h.bd.kept hgr (own_two h.bd hr (by decide));have hi:W'.ownsRow base 63 2 (.slice u.iA x.int.length u.ic) x.int.length (sv x.int):=h.it.kept hgr (own_two h.it hr (by decide));have hu:But X W' (W'.setCell ⟨X,16,none⟩ (.slice A' (x.subs.length+1) c')):=But.set_ W' (p:=⟨X,16,none⟩) rfl _;have k:=Kp.blk hB hu;refine⟨hu,?_,(h.nt.row hr (by decide) (by decide) (by decide) hgr).kp k (by decide) (by decide) (by decide),k _ _ _ _ _ _ (by decide) hb,k _ _ _ _ _ _ (by decide) hi,(h.vw.row_ hr (by decide) (by decide) (by decide) (by decide) (by decide) hgr).kp k (by decide) (by decide) (by decide) (by decide) (by decide),?_,?_⟩
 ·have:=hB.set_ 16 (.slice A' (x.subs.length+1) c');unfold eval;dsimp only;rw[hl];exact this
 ·dsimp only;rw[hl];exact(h.sb.push hp hgr ho).kp k (by decide) (by decide)
 ·show sbs (S++[p])=x.subs++[p.2];rw[sbs_app,h.ns];rfl
end
section
variable {w W W':World} {X:Nat} {cur cur':List UInt8} {u u':EV} {x x':Ent} {L L':List (ZV×Zn)} {M M':List (BV×Wq.Bd)} {S S':List (SV×Sb)}
theorem ES.call (h:ES w W X cur u x L M S) (hb:But (X+2) W W') (ht:TR W' (X+2) X cur'):ES w W' X cur' u x L M S:=
 ⟨h.toEC.call hb (by omega) (by omega),h.err.but hb (by omega),ht,below_but h.out hb (by have:=h.blk.lt;omega) (by omega),h.hX⟩
theorem ES.grow (h:ES w W X cur u x L M S) (hb:Below W.heap.size W W'):ES w W' X cur u x L M S:=
 ⟨h.toEC.grow hb,h.err.go hb,h.tr.go hb,below_then h.out (Nat.le_of_eq h.hX) hb,h.hX⟩
theorem ES.new (_:ES w W X cur u x L M S) (o:Obj):Below W.heap.size W (W.alloc o):=Zr.alloc Zl _
theorem ES.err_ (h:ES w W X cur u x L M S):ES w (W.setCell ⟨X+1,0,none⟩ (.int .i64 0)) X cur u x L M S:=
 have hu:But (X+1) W (W.setCell ⟨X+1,0,none⟩ (.int .i64 0)):=But.set_ W (p:=⟨X+1,0,none⟩) rfl _
 ⟨h.toEC.call hu (by omega) (by omega),h.err.set_ 0 _,h.tr.but hu (by omega) (by omega),below_but h.out hu (by have:=h.blk.lt;omega) (by omega),h.hX⟩
theorem ES.put (h:ES w W X cur u x L M S) (k:But X W W'/\EC W' X (X+3) u' x' L' M' S'):ES w W' X cur u' x' L' M' S':=
 ⟨k.2,h.err.but k.1 (by omega),h.tr.but k.1 Zl (by omega),below_but h.out k.1 (by have:=h.blk.lt;omega) Zl,h.hX⟩
theorem ES.same_ (h:ES w W X cur u x L M S) (hg:W.grownBy W' (some X)) (hb:Blk W' X 38 (eval x u)):ES w W' X cur u x L M S:=h.put (h.toEC.put (But.grown hg) hb h.nt h.bd h.it h.vw h.sb h.ns)
theorem ES.tab (h:ES w W X cur u x L M S) (hT:Tab w):Tab W:=hT.below (by rw[<-h.hX];exact h.out)
theorem ES.sub_ (h:ES w W X cur u x L M S) {p:SV×Sb} (hp:W.ownsRow (X+3) 63 2 (.slice p.1.A p.2.int.length p.1.c) p.2.int.length (sv p.2.int)) {A':Option Addr} {c':Nat}
  (hgr:W.grownBy W' (Value.slice u.sA x.subs.length u.sc).ownBlock) (ho:W'.ownsRow (X+3) 65 7 (.slice A' (x.subs.length+1) c') (x.subs.length+1) (sbv S++sbl p)):
  ES w (W'.setCell ⟨X,16,none⟩ (.slice A' (x.subs.length+1) c')) X cur ⟨u.nv,u.bA,u.bc,u.iA,u.ic,u.vv,A',c'⟩ ⟨x.kind,x.note,x.body,x.from_,x.int,x.view,x.subs++[p.2]⟩ L M (S++[p]):=by
 have k:=h.toEC.sub_ hp hgr ho;have hbl:=h.toEC.low hgr h.tr.lt;exact⟨k.2,(blk_grow h.err h.sb.row hgr (by decide)).but k.1 (by omega),(h.tr.low hbl (by omega)).but k.1 Zl (by omega),below_but (h.out.trans (hbl.mono (by omega))) k.1 (by have:=h.blk.lt;have:=hbl.size;omega) Zl,h.hX⟩
end
def DecE (l:List UInt8) (w:World) (e:Ending) (w':World):Prop:=
 (Wq.decE l=none/\e=.returned (.tuple #[.agg entZ,.int .i64 4])/\Below w.heap.size w w') \/
 ∃x u,Wq.decE l=some x/\e=.returned (.tuple #[.agg (eval x u),.int .i64 0])/\(∃L M S,EntRd w' w'.heap.size u x L M S)/\Below w.heap.size w w'
def decD (X:Nat):List Deferred:=[{ target:=.fn (.func 47) #[.pointer (some ⟨X,0,none⟩),.pointer (some ⟨X+1,0,none⟩)],args:=#[] }]
theorem dec_gave {l cur:List UInt8} {w W0 W:World} {X:Nat} {u:EV} {x:Ent} {L:List (ZV×Zn)} {M:List (BV×Wq.Bd)} {S:List (SV×Sb)} {tmps:Array Value} (h:ES w W0 X cur u x L M S) (hb:But (X+2) W0 W) (hd:Wq.decE l=none)
  (h2:tmps.getD 2 undef=.pointer (some ⟨X,0,none⟩)) (h3:tmps.getD 3 undef=.pointer (some ⟨X+1,0,none⟩)):
  bodyPostD Tryz.prog Tryz.f15 (DecE l w) (.panic (gu0 false)) { tmps:=tmps,defers:=decD X } W:=by
 unfold decD;refine leaves_cons (f:=47) (args:=#[.pointer (some ⟨X,0,none⟩),.pointer (some ⟨X+1,0,none⟩)]) (by simp) (by simp[go_sem]) ?_;refine(catch_panic X (X+1) _ _ W (h.blk.but hb (by omega)) rfl (h.err.but hb (by omega)) (by omega)).mono ?_;rintro e u' w' ⟨rfl,rfl,hbX,hbY,hlow⟩;show ∃v,(results Tryz.f15 tmps).run Tryz.prog w'=.ok v w'/\DecE l w (.returned v) w';refine⟨_,res_cc rfl _ _ X (X+1) 38 40 entZ _ _ _ _ _ h2 hbX Tryz.underlying38 rfl (by kernel_rfl) h3 hbY Tryz.underlying40 rfl,.inl ⟨hd,rfl,?_⟩⟩;rw[<-h.hX];exact(below_but h.out hb (by have:=h.blk.lt;omega) (by omega)).trans (hlow X Zl (by omega) (by have:=h.blk.lt;have:=hb.size;omega))
theorem dec_out {l:List UInt8} {w W:World} {X:Nat} {cs:Array Value} {z:Value} {tmps:Array Value} (hX:Blk W X 38 cs) (hs:cs.size=17) (hE:Blk W (X+1) 40 #[z])
  (hp:∀w',Below W.heap.size W w'->DecE l w (.returned (.tuple #[.agg cs,z])) w')
  (h2:tmps.getD 2 undef=.pointer (some ⟨X,0,none⟩)) (h3:tmps.getD 3 undef=.pointer (some ⟨X+1,0,none⟩)):
  bodyPostD Tryz.prog Tryz.f15 (DecE l w) .ret { tmps:=tmps,defers:=decD X } W:=by
 unfold decD;refine leaves_cons (f:=47) (args:=#[.pointer (some ⟨X,0,none⟩),.pointer (some ⟨X+1,0,none⟩)]) (by simp) (by simp[go_sem]) ?_;refine(catch_idle _ _ W).mono ?_;rintro e u' w' ⟨rfl,rfl,hb⟩;show ∃v,(results Tryz.f15 tmps).run Tryz.prog w'=.ok v w'/\DecE l w (.returned v) w';have hi:(Tryz.prog.info? 38).map (·.size)=some cs.size:=by rw[hs];kernel_rfl
 exact⟨_,res_cc rfl _ _ X (X+1) 38 40 cs _ _ _ _ _ h2 (hX.go hb) Tryz.underlying38 rfl hi h3 (hE.go hb) Tryz.underlying40 rfl,hp w' hb⟩
structure EntBd (x:Ent):Prop where
 c:x.body.s.1 < 9223372036854775808
 n:x.note.s.length+x.note.e.length+x.note.b.length+x.note.w.length<=9223372036854775807
 v:x.view.known.length+x.view.zones.length+x.view.held.length+x.view.bods.length<=9223372036854775807
 o:∀y∈x.view.bods,(Lit.int .i64 y.o).wf=true
theorem ES.rd {w W:World} {X:Nat} {cur:List UInt8} {u:EV} {x:Ent} {L:List (ZV×Zn)} {M:List (BV×Wq.Bd)} {S:List (SV×Sb)} (h:ES w W X cur u x L M S) (hb:EntBd x):EntRd W W.heap.size u x L M S:=
 ⟨h.nt.rd,Rd.of_own h.bd,Rd.of_own h.it,h.vw.rd (fun p hp=>hb.o p.2 (by rw[<-h.vw.nb];exact List.mem_map_of_mem hp)),h.sb.rd,h.ns⟩
end Go.Proofs.YtmbeahbgafkjfaaGreatDoor
