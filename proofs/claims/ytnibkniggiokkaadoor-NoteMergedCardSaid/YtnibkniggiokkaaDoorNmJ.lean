/- Plain law of NoteMerged: what a merged note tells of an object, what it blurs, where it fits. -/
import Derived.Test.YtnibkniggiokkaaDoorNmI
import Derived.Test.YtnibkniggiokkaaDoorNtJ
namespace Go.Proofs.YtnibkniggiokkaaDoor
set_option maxRecDepth 100000

theorem told_formed {x : Nt} (h : ntF x = true) {o : Nat} (ho : o < 256) : tQ x (o : Int) = atQ x.w (o : Int) ∧ tB x (o : Int) = (atB x.w (o : Int) || !hasO x.b (o : Int)) ∧ tE x (o : Int) = if atB x.w (o : Int) = true then 0 else 8 := by
  have hk : tOk x (o : Int) = true := by unfold tOk; rw [h]; simp; omega
  unfold tQ tB tE
  rw [if_pos hk, if_pos hk, if_pos hk]
  refine ⟨rfl, ?_, rfl⟩
  cases atB x.w (o : Int) <;> simp
theorem atQ_no {l : List Wr} {o : Int} (h : atB l o = false) : atQ l o = w0_ := by
  unfold atB at h; unfold atQ
  rcases he : atO l o with _ | w
  · rfl
  · rw [he] at h; simp at h
theorem told_clear {x : Nt} (h : ntF x = true) {o : Int} (ht : atB x.w o = true) : hasO x.b o = false := by
  unfold atB at ht
  rcases he : atO x.w o with _ | w
  · rw [he] at ht; simp at ht
  · obtain ⟨h1, h2⟩ := atO_obj he
    rw [← h2]
    exact (((ntW_iff _ _ _ _).1 (ntF_parts h).2.2.2.2).2 w h1).2.1
theorem find_mrg (k : Int → Bool) (a b : List Wr) (o : Int) : ∀ {os : List Int}, os.Pairwise (· < ·) → atO (mrgW k a b os) o = if o ∈ os ∧ k o = true then mrgAt a b o else none
  | [], _ => by simp [mrgW, atO]
  | p :: os, h => by
    have h' := List.pairwise_cons.1 h
    have ih := find_mrg k a b o h'.2
    unfold mrgW atO at ih ⊢
    rw [List.filterMap_cons]
    by_cases hpo : p = o
    · subst hpo
      have hn : ¬ p ∈ os := fun hm => by have := h'.1 _ hm; omega
      rw [if_neg (fun hc => hn hc.1)] at ih
      by_cases hk : k p = true
      · rw [if_pos hk, if_pos ⟨List.mem_cons_self .., hk⟩]
        rcases hm : mrgAt a b p with _ | w
        · exact ih
        · have hobj := grp_obj (List.mem_of_head? hm)
          simp only [List.find?_cons, hobj, decide_true]
      · rw [if_neg hk, if_neg (fun hc => hk hc.2)]
        exact ih
    · have hne : (o ∈ p :: os ∧ k o = true) = (o ∈ os ∧ k o = true) := by
        simp only [List.mem_cons, show ¬ o = p from fun e => hpo e.symm, false_or]
      simp only [hne]
      split
      · exact ih
      · rename_i w hw
        have hobj : w.2.1 = p := by
          split at hw
          · exact grp_obj (List.mem_of_head? hw)
          · cases hw
        rw [List.find?_cons, hobj, decide_eq_false hpo]
        exact ih
theorem mrg_at (a b : Nt) {o : Nat} (ho : o < 256) : atO (mrgN a b).w (o : Int) = if mrgK a b (o : Int) = true then mrgAt a.w b.w (o : Int) else none := by
  have := find_mrg (mrgK a b) a.w b.w (o : Int) objs256_lt
  rw [show (mrgN a b).w = mrgW (mrgK a b) a.w b.w objs256 from rfl, this]
  have hm : (o : Int) ∈ objs256 := (objs256_mem _).2 (by omega)
  simp only [hm, true_and]
theorem hasO_mrg (a b : Nt) {o : Nat} (ho : o < 256) : hasO (mrgB a b) (o : Int) = (hasO a.b (o : Int) || hasO b.b (o : Int)) := by
  unfold hasO mrgB
  rw [Sn.tidy_in _ _ (by omega) (by omega), Sn.inB_app]
  have h1 : decide ((0 : Int) ≤ (o : Int)) = true := by simp
  have h2 : decide ((o : Int) ≤ 255) = true := by simp; omega
  rw [h1, h2]
  simp
/-- How a note stands to an object: told (1), silent (0), blurred (2). -/
def kindO (x : Nt) (o : Int) : Nat := if atB x.w o = true then 1 else if hasO x.b o = true then 2 else 0
/-- What is told of the merged note, by what is told of its parts. -/
theorem mrg_told {a b : Nt} (ha : ntF a = true) (hb : ntF b = true) {o : Nat} (ho : o < 256) :
    (atB a.w (o : Int) = true → hasO a.b (o : Int) = false) ∧ (atB b.w (o : Int) = true → hasO b.b (o : Int) = false) ∧
    tQ (mrgN a b) (o : Int) = (if (hasO a.b (o : Int) || hasO b.b (o : Int)) = true then w0_ else if atB a.w (o : Int) = true ∧ ¬ (atB b.w (o : Int) = true ∧ stLt (atQ a.w (o : Int)).1 (atQ b.w (o : Int)).1 = true) then atQ a.w (o : Int) else atQ b.w (o : Int)) ∧
    tB (mrgN a b) (o : Int) = !(hasO a.b (o : Int) || hasO b.b (o : Int)) ∧
    tE (mrgN a b) (o : Int) = (if (hasO a.b (o : Int) || hasO b.b (o : Int)) = true then 8 else if (atB a.w (o : Int) || atB b.w (o : Int)) = true then 0 else 8) := by
  have hm := mrgN_fm ha hb
  obtain ⟨e1, e2, e3⟩ := told_formed hm ho
  have hB : hasO (mrgN a b).b (o : Int) = (hasO a.b (o : Int) || hasO b.b (o : Int)) := hasO_mrg a b ho
  have hat := mrg_at a b ho
  have hK : mrgK a b (o : Int) = !(hasO a.b (o : Int) || hasO b.b (o : Int)) := by unfold mrgK; rw [hasO_mrg a b ho]
  rw [hK] at hat
  refine ⟨told_clear ha, told_clear hb, ?_⟩
  rw [e1, e2, e3, hB]
  have hA : ∀ (l : List Wr), atB l (o : Int) = (atO l (o : Int)).isSome := fun _ => rfl
  have hQ : ∀ (l : List Wr), atQ l (o : Int) = (atO l (o : Int)).getD w0_ := fun _ => rfl
  rw [hA (mrgN a b).w, hQ (mrgN a b).w, hat]
  rcases hbl : (hasO a.b (o : Int) || hasO b.b (o : Int)) with _ | _
  · rw [show (!false) = true from rfl, if_pos rfl, mrgAt_is, hA a.w, hA b.w, hQ a.w, hQ b.w]
    rcases h1 : atO a.w (o : Int) with _ | p <;> rcases h2 : atO b.w (o : Int) with _ | q
    · simp
    · simp
    · simp
    · rcases h3 : stLt p.1 q.1 with _ | _ <;> simp [h3]
  · simp
theorem mrg_covers {a b : Nt} : Sn.lessL a.b (mrgB a b) = [] ∧ Sn.lessL b.b (mrgB a b) = [] := by
  have key : ∀ o : Nat, o < 256 → Sn.setOf (mrgB a b) o = (Sn.setOf a.b o || Sn.setOf b.b o) := fun o ho => by
    unfold Sn.setOf mrgB
    rw [Sn.tidy_in _ _ (by omega) (by omega), Sn.inB_app]
  constructor <;> refine (Sn.of_nil_iff _).2 fun o ho => ?_ <;> rw [key o ho]
  · cases Sn.setOf a.b o <;> simp
  · cases Sn.setOf b.b o <;> simp
theorem mrg_fits {a b : Nt} (known : List Vc.St) (h1 : ntFits a known = true) (h2 : ntFits b (vec (jn [known, a.e])) = true) : ntFits (mrgN a b) known = true := by
  unfold ntFits at h1 h2 ⊢
  rw [covB_iff] at h1 h2 ⊢
  intro n hn
  show Vc.cnt (vec (bC a.s a.e b.s)) n ≤ _
  rw [cnt_vec (bC_nonneg _ _ _) hn]
  have q1 := h1 n hn
  have q2 := h2 n hn
  rw [cnt_join _ _ hn] at q2
  unfold bC
  split <;> omega
theorem mrg_news {a b : Nt} : ntNews a (mrgN a b).e = false ∧ ntNews b (mrgN a b).e = false := by
  unfold ntNews
  have h1 : covB (Vc.cnt (mrgN a b).e) (Vc.cnt a.e) = true := cov_join_l a.e b.e
  have h2 : covB (Vc.cnt (mrgN a b).e) (Vc.cnt b.e) = true := cov_join_r a.e b.e
  rw [h1, h2]
  exact ⟨rfl, rfl⟩
end Go.Proofs.YtnibkniggiokkaaDoor
