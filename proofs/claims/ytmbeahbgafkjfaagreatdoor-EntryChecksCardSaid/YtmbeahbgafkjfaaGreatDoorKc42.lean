/- Lemmas for the claim, layer 42. -/
import Derived.Test.YtmbeahbgafkjfaaGreatDoorKc41
set_option maxRecDepth 100000
set_option maxHeartbeats 16000000
namespace Go.Proofs.YtmbeahbgafkjfaaGreatDoor
open Go.RowKit
theorem bods_le {w:World} {B:Nat} {V:Vw} {u:VV} {L:List (ZV×Zn)} {M:List (BV×Wq.Bd)} (h:VwRd w B u V L M) (hv:vwF V=true):∀p∈M,p.2.v.length<=140737488355328:=fun p hp=>by
 have h1:p.2∈V.bods:=by rw[<-h.nb];exact List.mem_map_of_mem hp
 have h2:=(Wq.bdF_iff _).1 ((newsB_iff _ _).1 ((vwF_iff _).1 hv).a |>.1 p.2 h1).1;omega
theorem rest_z {T:List Sb} (h:restF T=true):T.length<=16/\(∀s∈T,s.int.length<=128/\s.ses=0/\s.seq=0)/\T.Pairwise fun a b=>a.from_ < b.from_:=by
 unfold restF at h;rw[Bool.and_eq_true,decide_eq_true_eq] at h;refine⟨h.2,fun s hs=>?_,((rstF_iff _ _).1 h.1).2⟩;obtain⟨_,h2,h3⟩:=Wq.rstF_all h.1 (by omega) s hs;unfold sbZ at h3;simp only[Bool.and_eq_true,decide_eq_true_eq] at h3;exact⟨Sn.fmS_128 h2,h3.1⟩
structure PlySz (ue:EV) (x:Ent):Prop where
 c:x.body.s.1 < 9223372036854775808
 s1:ue.nv.n1+ue.nv.n2+ue.nv.n3+ue.nv.n4<=9223372036854775807
 s2:x.view.known.length+x.view.zones.length+x.view.held.length+x.view.bods.length<=9223372036854775807
theorem PlyR.to {w w':World} {e:Ending} {V:Vw} {T:List Sb} {x:Ent} (h:PlyR w (vwF V && (restF T && entF x)) (plyE V T x) (plyV V x) (plyS T x) e w'):PlyP w (playE V T x) (playV V T x) (playS V T x) e w':=by
 unfold PlyR at h;unfold playV playS;unfold playE;by_cases q:(vwF V && (restF T && entF x))=true
 ·rw[if_pos q] at h;rw[if_pos q];exact h
 ·rw[if_neg q] at h;rw[if_neg q,if_neg (by decide),if_neg (by decide)];exact h
theorem play_any (u:VV) (V:Vw) (L:List (ZV×Zn)) (M:List (BV×Wq.Bd)) (sA:Option Addr) (n sc:Nat) (S:List (SV×Sb)) (ue:EV) (x:Ent) (w:World) (hT:Tab w) (hV:VwRd w w.heap.size u V L M) (hS:RdSb w w.heap.size sA n sc S) (hE:EntR w w.heap.size ue x) (hz:PlySz ue x):
  Calls Tryz.prog 20 #[.agg (vval V u),.slice sA n sc,.agg (eval x ue)] w (PlyP w (playE V (sbs S) x) (playV V (sbs S) x) (playS V (sbs S) x)):=by
 obtain⟨L',M',S',hE⟩:=hE;have G1:=fun (W:World) (hb:Below w.heap.size w W)=>viewFormed_any u V L M W (hT.below hb) (hV.go hb);have G2:=fun (W:World) (hb:Below w.heap.size w W)=>entRest_any sA n sc S W (hS.go hb);have G3:=fun (W:World) (hb:Below w.heap.size w W)=>entFormed_any ue x L' M' S' W (hT.below hb) (hE.go hb) hz.c hz.s1 hz.s2;have hn:n=(sbs S).length:=by rw[sbs_len];exact hS.len.symm
 have hin:restF (sbs S)=true->∀p∈S,p.2.int.length<=1000000:=fun h2 p hp=>by
  have:=((rest_z h2).2.1 p.2 (List.mem_map_of_mem hp)).1;omega
 have h6:restF (sbs S)=true->n<=1000000:=fun h2=>by have:=(rest_z h2).1;omega
 have G4:=fun (h2:restF (sbs S)=true) (W:World) (hb:Below w.heap.size w W)=>entOwn_full sA n sc S W (hS.go hb) (h6 h2) (hin h2);refine(play_walk (V:=V) (T:=sbs S) (I:=x.int) (E:=plyE V (sbs S) x) (T':=plyS (sbs S) x) (V':=plyV V x) G1 G2 G3 G4 hn h6 fun hb=>?_).mono fun _ _ h=>PlyR.to h;simp only[Bool.and_eq_true] at hb;obtain⟨h1,h2,h3⟩:=hb;clear G1 G2 G3 G4;obtain⟨r1,r2,r3⟩:=rest_z h2;have hk:x.kind=1\/x.kind=2\/x.kind=3\/x.kind=4\/x.kind=5:=Classical.byContradiction fun q=>by
  rw[entF_no x q] at h3;cases h3
 obtain⟨kind,note,body,from_,int,view,subs⟩:=x;have G5:=fun (W:World) (hb:Below w.heap.size w W)=>viewTake_any u V L M ue.nv note W (hT.below hb) (hV.go hb) (hE.nt.go hb) (bods_le hV h1);rcases hk with hk | hk | hk | hk | hk<;>simp only at hk<;>subst hk
 ·exact .inl ⟨rfl,rfl,fun W hb=>(G5 W hb).mono fun _ _ h=>TkQ.of h⟩
 ·exact .inr (.inl ⟨rfl,rfl,fun W hb=>(viewBody_any u V L M body ue.bA ue.bc W (hT.below hb) (hV.go hb) (hE.bd.go hb)).mono fun _ _ h=>TkQ.of h⟩)
 ·refine .inr (.inr (.inl ⟨rfl,rfl,?_⟩));have e1:plyE V (sbs S) ⟨3,note,body,from_,int,view,subs⟩=if takeVE V note=0/\hasBody ⟨3,note,body,from_,int,view,subs⟩=true then bodyVE (takeV V note) body else takeVE V note:=rfl;have e2:plyV V ⟨3,note,body,from_,int,view,subs⟩=if hasBody ⟨3,note,body,from_,int,view,subs⟩=true then bodyV (takeV V note) body else takeV V note:=rfl;obtain⟨q1,hq1⟩:∃q1,note.w=[q1]:=by
   have h:=entF_3 _ (show (⟨3,note,body,from_,int,view,subs⟩:Ent).kind=3 from rfl);rw[h3] at h;dsimp only at h;rcases hw:note.w with _ | ⟨a,r⟩
   ·rw[hw] at h;simp at h
   ·rcases r with _ | ⟨b,r⟩
    ·exact⟨a,rfl⟩
    ·rw[hw] at h;simp at h
  have hb3:hasBody ⟨3,note,body,from_,int,view,subs⟩=!q1.2.2:=by unfold hasBody;dsimp only;rw[hq1]
  rw[hb3] at e1 e2;have h4:=hE.nt.l4;rw[hq1] at h4;have hr4:=hE.nt.r4;rw[<-h4] at hr4;obtain⟨gb,go,hA,_,_⟩:=hr4.plain (by simp) (by decide);refine⟨gb,go,q1.2.2,takeVE V note,takeV V note,hA,h4.symm,fun W hb=>?_,fun W hb=>(G5 W hb).mono fun _ _ h=>TkQ.of h,fun hq W hb B1 d1 B2 d2 B3 d3 B4 d4 ⟨L2,M2,hr⟩=>?_,fun hq=>?_⟩
  ·obtain⟨b,o,e,_,hc⟩:=(hr4.go hb).plain (by simp) (by decide);rw[hA] at e;injection e with e;injection e with e3 e4;subst e3 e4;exact hc 3 (.bool q1.2.2) (by rw[hq1];rfl)
  ·rw[hq.1,hq.2,if_pos ⟨rfl,rfl⟩] at e1;rw[hq.2,if_pos (show (!false)=true from rfl)] at e2;rw[e1,e2];exact(viewBody_any ⟨B1,d1,B2,d2,B3,d3,B4,d4⟩ (takeV V note) L2 M2 body ue.bA ue.bc W (hT.below hb) hr (hE.bd.go hb)).mono fun _ _ h=>TkQ.of h
  ·refine⟨?_,fun q0=>?_⟩
   ·rw[e1,if_neg];rintro⟨a,b⟩;exact hq ⟨a,by simpa using b⟩
   ·have g:q1.2.2=true:=by
     cases h:q1.2.2
     ·exact absurd ⟨q0,h⟩ hq
     ·rfl
    rw[e2,g,if_neg (by decide)]
 ·refine .inr (.inr (.inr (.inl ⟨rfl,rfl,rfl,rfl,rfl,r3,fun s hs=>(r2 s hs).2,h1,fun W hb=>ownView_any u V L M W (hT.below hb) (hV.go hb) (bods_le hV h1) h1,fun W hb=>cloneSp_any ue.iA int.length ue.ic (sv int) W (hE.it.go hb) (sv_oneCell int) ?_⟩)));have h:=entF_4 _ (show (⟨4,note,body,from_,int,view,subs⟩:Ent).kind=4 from rfl);rw[h3] at h;have h:=h.symm;simp only[Bool.and_eq_true] at h;have:=Sn.fmS_128 h.1.2;omega
 ·have h:=entF_5 _ (show (⟨5,note,body,from_,int,view,subs⟩:Ent).kind=5 from rfl);rw[h3] at h;replace h:=h.symm;simp only[Bool.and_eq_true] at h;obtain⟨⟨v1,v2⟩,_⟩:=h;obtain⟨x1,x2,_⟩:=rest_z v2;have G8:=fun (W:World) (hb:Below w.heap.size w W)=>entOwn_any ue.sA subs.length ue.sc S' W (hE.sb.go hb) (by omega) fun p hp=>by
   have:=(x2 p.2 (by have h:=hE.ns;dsimp only at h;rw[<-h];exact List.mem_map_of_mem hp)).1;omega
  have G8:∀W,Below w.heap.size w W->Calls Tryz.prog 67 #[.slice ue.sA subs.length ue.sc] W (OwS W subs.length subs):=fun W hb=>(G8 W hb).mono fun e w' h=>by
   obtain⟨A',c',h1,⟨S2,h2,h3⟩,h4⟩:=h;exact⟨A',c',h1,⟨S2,h2,by rw[h3,hE.ns]⟩,h4⟩
  exact .inr (.inr (.inr (.inr ⟨rfl,rfl,rfl,fun W hb=>ownView_any ue.vv view L' M' W (hT.below hb) (hE.vw.go hb) (bods_le hE.vw v1) v1,G8⟩)))
theorem cnt_lt {v:List Vc.St} (h:Wq.cts v) (n:Nat):Vc.cnt v n < 9223372036854775808:=by
 induction v with
 | nil=>rw[Vc.cnt];decide
 | cons s r ih=>
  rw[Vc.cnt];split
  ·exact h s (List.mem_cons_self ..)
  ·exact ih fun t ht=>h t (List.mem_cons_of_mem _ ht)
theorem cts_of_cnt:∀{v:List Vc.St} {last:Int},fm last v=true->(∀n:Nat,Vc.cnt v n < 9223372036854775808)->Wq.cts v
 | [],_,_,_,s,hs=>by cases hs
 | t :: r,last,h,hc,s,hs=>by
  have hh:=h;rw[fm] at hh;simp only[Bool.and_eq_true,decide_eq_true_eq] at hh;obtain⟨h1,h2,h3⟩:=hh;have hr:=(Vc.right_iff t).1 h1;have e:t.2=(t.2.toNat:Nat):=by omega
  rcases List.mem_cons.1 hs with rfl | hs
  ·rw[<-cnt_head h _ e];exact hc _
  ·refine cts_of_cnt h3 (fun n=>?_) s hs;by_cases q:t.2=n
   ·rw[fm_low r t.2 h3 n (by omega)];decide
   ·rw[<-cnt_tail n q];exact hc n
theorem cnt_any {v k:List Vc.St} (h:cov2 k v=true) (hk:Wq.cts k) (n:Nat):Vc.cnt v n < 9223372036854775808:=by
 by_cases q:n < 64
 ·have:=(cov2_iff _ _).1 h n q;have:=cnt_lt hk n;omega
 ·rw[Vc.cnt_far v n (by omega)];decide
theorem cntZ_lt {v:List Vc.St} (h:Wq.cts v) (n:Int):cntZ v n < 9223372036854775808:=by
 unfold cntZ;split
 ·exact cnt_lt h _
 ·decide
structure VwK0 (v:Vw):Prop where
 k:Wq.cts v.known
 z:∀y∈v.zones,Wq.cts y.2
 h:∀w∈v.held,w.1.1 < 9223372036854775808
 y:∀y∈v.bods,y.s.1 < 9223372036854775808
theorem vwK_of {v:Vw} (hv:vwF v=true) (hk:Wq.cts v.known):VwK0 v:=by
 have p:=(vwF_iff v).1 hv;have hh:∀w∈v.held,w.1.1 < 9223372036854775808:=fun w hw=>by
  have h1:=List.all_eq_true.1 p.ha w hw;unfold reachd at h1;have h2:=cntZ_le ((cov2_iff _ _).1 (reach_known p.za w.2.1)) h1;unfold hasB at h2;rw[Bool.and_eq_true,decide_eq_true_eq] at h2;have:=cntZ_lt hk w.1.2;omega
 refine⟨hk,fun y hy=>?_,hh,fun y hy=>?_⟩
 ·obtain⟨t1,_⟩:=tells_self p.z y hy;have hf:=reach_fm p.z p.k y.1.1;rw[reach_tells,t1,Option.getD_some] at hf;exact cts_of_cnt hf (cnt_any ((ahead1_iff _ _).1 (List.all_eq_true.1 p.za y hy)).1 hk)
 ·have h1:=List.all_eq_true.1 p.ba y hy;unfold wantd at h1;rcases hw:atO v.held y.o with _ | w
  ·rw[hw] at h1;cases h1
  ·rw[hw] at h1;simp only[Bool.and_eq_true,decide_eq_true_eq] at h1;have hm:=((atO_iff ((shF_iff _ _).1 p.h).2).1 hw).1;rw[<-h1.1];exact hh w hm
theorem now_cts {k:List Vc.St} {n:Nt} (hk:Wq.cts k) (hn:Wq.cts n.e):Wq.cts (nowOf k n):=by
 refine cts_of_cnt (formed_vec _) fun m=>?_;by_cases q:m < 64
 ·rw[cnt_now _ _ q];have:=cnt_lt hk m;have:=cnt_lt hn m;omega
 ·rw[Vc.cnt_far _ _ (by omega)];decide
theorem play_cts {V:Vw} {T:List Sb} {x:Ent} (h:playE V T x=0) (hk:Wq.cts V.known) (hc:Wq.EntC x):Wq.cts (playV V T x).known:=by
 have ht:Wq.cts (takeV V x.note).known:=now_cts hk hc.n.2.1;unfold playV;rw[if_pos h];unfold plyV;split
 ·exact ht
 ·split
  ·exact hk
  ·split
   ·split
    ·exact ht
    ·exact ht
   ·split
    ·exact hk
    ·exact hc.k
def chk (v:Vw) (t:List Sb):Ent:=⟨5,Wq.ntz,Wq.bdz,0,[],v,t⟩
theorem chk_F {v:Vw} {t:List Sb} (hv:vwF v=true) (ht:restF t=true):entF (chk v t)=true:=by
 rw[entF_5 _ rfl];show ((vwF v && restF t) && entE (chk v t) (chk v t))=true;rw[hv,ht,(entE_iff _ _).2 rfl];rfl
theorem chk_C {v:Vw} {t:List Sb} (hv:vwF v=true) (hk:Wq.cts v.known):Wq.EntC (chk v t):=by
 have h:=vwK_of hv hk;exact⟨⟨fun _ h=>(by cases h),fun _ h=>(by cases h),fun _ h=>(by cases h)⟩,(show (0:Int) < 9223372036854775808 by decide),h.k,h.z,h.h,h.y⟩
theorem chk_play {v V:Vw} {t T:List Sb} (hV:vwF V=true) (hT:restF T=true) (hv:vwF v=true) (ht:restF t=true):playE V T (chk v t)=0/\playV V T (chk v t)=v/\playS V T (chk v t)=t:=by
 have e:playE V T (chk v t)=0:=by
  unfold playE;rw[hV,hT,chk_F hv ht];exact(if_pos (show (true && (true && true))=true from rfl)).trans rfl
 refine⟨e,?_,?_⟩
 ·unfold playV;rw[if_pos e];rfl
 ·unfold playS;rw[if_pos e];rfl
def vwN (r:Int):Vw:=⟨[],[],[],[],r⟩
theorem own:ownKnob Tryz.prog.godebug=none:=by kernel_rfl
theorem laidOut:laidOutB Tryz.prog=true:=by kernel_rfl
section
variable {H:Type}
end
end Go.Proofs.YtmbeahbgafkjfaaGreatDoor
