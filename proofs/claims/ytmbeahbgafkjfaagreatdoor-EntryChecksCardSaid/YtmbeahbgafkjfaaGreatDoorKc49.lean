/- Lemmas for the claim, layer 49. -/
import Derived.Test.YtmbeahbgafkjfaaGreatDoorKc44
namespace Go.Proofs.YtmbeahbgafkjfaaGreatDoor
open Wq
theorem chk_pI {v:Vw} {t:List Sb}:∀k r,pI (lEnt (chk v t))=some (k,r)->k=4\/k=5:=fun k r h=>by
 unfold lEnt chk at h;dsimp only at h;rw[pI_lay (x:=5) (show u63 5 from ⟨by decide,by decide⟩)] at h;injection h with h;injection h with h;exact .inr h.symm
theorem chk_dec {v:Vw} {t:List Sb} (hv:vwF v=true) (ht:restF t=true) (hc:EntC (chk v t)):decE (lEnt (chk v t))=some (chk v t):=by
 have hcf:=chk_F hv ht;unfold restF at ht;simp only[Bool.and_eq_true,decide_eq_true_eq] at ht;have hq:=pTwo_lay (p:=pVw) (q:=pLst pSb) (r:=[]) (pVw_lay (vwC_of (x:=chk v t) hv hc) _) (pLst_lay (p:=pSb) (lay:=lSb) (v:=t) [] (by omega) fun s hs r=>by
  obtain⟨f1,f2,f3⟩:=rstF_all ht.1 (by omega) s hs;exact pSb_lay f1 f2 f3 r)
 have h:pEnt (lEnt (chk v t))=some (chk v t,[]):=by
  unfold pEnt lEnt chk;dsimp only;rw[pI_lay (x:=5) (show u63 5 from ⟨by decide,by decide⟩)];simp only[if_neg (show ¬ (5:Int)=1 by decide),if_neg (show ¬ (5:Int)=2 by decide),if_neg (show ¬ (5:Int)=3 by decide),if_neg (show ¬ (5:Int)=4 by decide),if_true];rw[List.append_nil] at hq;rw[show (chk v t).view=v from rfl] at hq;rw[hq]
 unfold decE;rw[h];exact if_pos hcf
theorem chk_len {v:Vw} {t:List Sb} (hv:vwF v=true) (ht:restF t=true) (hc:EntC (chk v t)):(lEnt (chk v t)).length<=2000000:=by
 have hk:(layAll [(chk v t).kind]).length<=9:=by
  show (layAll [5]).length<=9;decide +kernel
 have a:=lVw_len (vwC_of (x:=chk v t) hv hc) (vw_lens hv);unfold restF at ht;rw[Bool.and_eq_true,decide_eq_true_eq] at ht;have hl:=ht.2;have b:(layAll [(t.length:Int)]).length<=9:=by
  unfold layAll;simp only[List.flatMap_cons,List.flatMap_nil,List.append_nil];exact Pk.lay_len9 (by omega)
 have c:=flat_len_le lSb 2000 t fun s hs'=>by
  obtain⟨f1,f2,f3⟩:=rstF_all ht.1 (by omega) s hs';have d:=lS_len f2;have e:=u63_len f1;unfold lSb lI;rw[List.length_append];omega
 rw[lE5 (x:=chk v t) rfl,List.length_append,List.length_append,List.length_append];show _+(lVw v).length+(layAll [(t.length:Int)]).length+(t.flatMap lSb).length<=_;have a':(lVw v).length<=_:=a;omega
end Go.Proofs.YtmbeahbgafkjfaaGreatDoor
