/- Lemmas for the claim, layer 7. -/
import Derived.OpenShut
import Derived.Test.YtmbeahbgafkjfaaGreatDoorKc00
namespace Go.Proofs.YtmbeahbgafkjfaaGreatDoor
open Go.ChangeShapes Go.WideShapes Go.ChangeAt Go.RowKit
section
variable {H:Type} {enc:TypeId×Value->H} {P:Program}
theorem trodAll_below (hl:laidOutB P=true) {W W':World} (hb:Below W.heap.size W W'):∀(ts:List TypeId) (vs:List Value) (ds:List (DataW H)) (ps:List MemPlace),
  (ts.all fun t=>P.readableRec t && decide (t < P.types.size))=true->DataW.TrodAll enc P W 0 (fun _=>true) true ts vs ds ps->(∀x∈ps,x.block < W.heap.size) ->
  DataW.TrodAll enc P W' 0 (fun b=>decide (b < W.heap.size)) true ts vs ds ps
 | [],[],[],ps,_,h,_=>h
 | t :: ts,v :: vs,d :: ds,ps,hr,h,hlt=>by
  obtain⟨p,q,h1,h2,rfl⟩:=h;simp only[List.all_cons,Bool.and_eq_true,decide_eq_true_eq] at hr;exact⟨p,q,Below.trod hl hr.1.1 hr.1.2 h1 hb fun x hx=>hlt x (List.mem_append_left _ hx),
   trodAll_below hl hb ts vs ds q hr.2 h2 (fun x hx=>hlt x (List.mem_append_right _ hx)),rfl⟩
 | [],_ :: _,_,_,_,h,_=>absurd h (by simp[DataW.TrodAll])
 | [],[],_ :: _,_,_,h,_=>absurd h (by simp[DataW.TrodAll])
 | _ :: _,[],_,_,_,h,_=>absurd h (by simp[DataW.TrodAll])
 | _ :: _,_ :: _,[],_,_,h,_=>absurd h (by simp[DataW.TrodAll])
theorem law_post {f:Func} {s:ChangeSpec} {tb:TypeId} {W W':World} {args:Array Value} {ds gs:List (DataW H)} {before:List MemPlace} (hl:laidOutB P=true)
  (hr:(f.params.toList.all fun t=>P.readableRec t && decide (t < P.types.size))=true) (hres:f.resultTypes=#[tb]) (hbool:P.underlying tb=some .bool) (hv:s.vars=[])
  (hW:DataW.Whole enc P f.params.toList s.vars false W args.toList ds gs before) (hfn:s.fn H (ds++gs)={ results:=[.lit (.bool true)],args:=ds }) (hb:Below W.heap.size W W'):
  s.post enc P f false true false false W args (.bool true) W':=by
 have hlt:=hW.lt;have hW':=hW;obtain⟨p,q,hA,hV,rfl,_,_⟩:=hW;refine⟨ds,gs,p++q,[],p,[],hW',?_,?_,?_,hb.frame _,fun h=>by cases h⟩
 ·rw[hfn,hres];exact trodAll_mk1 (shut_bool hbool true)
 ·rw[hfn];exact trodAll_below hl hb _ _ _ _ hr hA fun x hx=>hlt x (List.mem_append_left _ hx)
 ·rw[hfn,hv];rfl
theorem u8_of_wf {x:Int} (h:(Lit.int .u8 x).wf=true):0<=x/\x < 256:=by
 have h1:IntKind.u8.min=0:=rfl;have h2:IntKind.u8.max=255:=rfl;simp only[Lit.wf,Bool.and_eq_true,decide_eq_true_eq] at h;omega
theorem i64_of_wf {x:Int} (h:(Lit.int .i64 x).wf=true):-9223372036854775808<=x/\x<=9223372036854775807:=by
 have h1:IntKind.i64.min=-9223372036854775808:=rfl;have h2:IntKind.i64.max=9223372036854775807:=rfl;simp only[Lit.wf,Bool.and_eq_true,decide_eq_true_eq] at h;omega
def u8s (zs:List Int):List UInt8:=zs.map fun z=>UInt8.ofNat z.toNat
theorem u8s_at {zs:List Int} (h:∀z∈zs,0<=z/\z < 256):bv (u8s zs)=zs.map (Value.int .u8):=by
 simp only[bv,u8s,List.map_map];refine List.map_congr_left fun z hz=>?_;have:=h z hz;simp only[Function.comp_apply,UInt8.toNat_ofNat'];congr 1;omega
def capOf:DataW H->Nat
 | .slice elems spare=>elems.length+spare.length
 | _=>0
end
end Go.Proofs.YtmbeahbgafkjfaaGreatDoor
