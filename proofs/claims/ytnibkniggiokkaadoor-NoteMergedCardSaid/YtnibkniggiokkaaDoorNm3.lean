/- Plain law: a merged note: where it begins, and that it is formed. -/
import Derived.Test.YtnibkniggiokkaaDoorMNm
import Derived.Test.YtnibkniggiokkaaDoorMVec
import Derived.Test.YtnibkniggiokkaaDoorSp1
namespace Go.Proofs.YtnibkniggiokkaaDoor

theorem fmv_cons {last : Int} {s : Vc.St} {r : List Vc.St} (h : fm last (s :: r) = true) : (0 < s.1 ∧ 0 ≤ s.2 ∧ s.2 < 64) ∧ last < s.2 ∧ fm s.2 r = true := by
  simp only [fm, Bool.and_eq_true, decide_eq_true_eq] at h
  exact ⟨(Vc.right_iff s).1 h.1, h.2.1, h.2.2⟩
theorem fmv_low : ∀ (v : List Vc.St) (last : Int), fm last v = true → ∀ n : Nat, (n : Int) ≤ last → Vc.cnt v n = 0
  | [], _, _, _, _ => rfl
  | s :: r, last, h, n, hn => by
    obtain ⟨_, h2, h3⟩ := fmv_cons h
    rw [Vc.cnt, if_neg (fun e => by omega)]
    exact fmv_low r s.2 h3 n (by omega)
theorem cntv_head {last : Int} {s : Vc.St} {r : List Vc.St} (h : fm last (s :: r) = true) (n : Nat) (hn : s.2 = n) : Vc.cnt (s :: r) n = s.1 := by
  rw [Vc.cnt, if_pos ⟨(Vc.right_iff s).2 (fmv_cons h).1, hn⟩]
theorem cntv_tail {s : Vc.St} {r : List Vc.St} (n : Nat) (hn : s.2 ≠ n) : Vc.cnt (s :: r) n = Vc.cnt r n := by
  rw [Vc.cnt, if_neg (fun e => hn e.2)]
theorem fmv_ext : ∀ (u v : List Vc.St) (last : Int), fm last u = true → fm last v = true → (∀ n : Nat, n < 64 → Vc.cnt u n = Vc.cnt v n) → u = v
  | [], [], _, _, _, _ => rfl
  | [], t :: r, last, _, hv, he => by
    obtain ⟨h1, _, _⟩ := fmv_cons hv
    have h := he t.2.toNat (by omega)
    rw [cntv_head hv _ (by omega)] at h
    simp only [Vc.cnt] at h; omega
  | s :: r, [], last, hu, _, he => by
    obtain ⟨h1, _, _⟩ := fmv_cons hu
    have h := he s.2.toNat (by omega)
    rw [cntv_head hu _ (by omega)] at h
    simp only [Vc.cnt] at h; omega
  | s :: r, t :: q, last, hu, hv, he => by
    obtain ⟨h1, _, k1⟩ := fmv_cons hu
    obtain ⟨h2, _, k2⟩ := fmv_cons hv
    have a := he s.2.toNat (by omega)
    have b := he t.2.toNat (by omega)
    rw [cntv_head hu _ (by omega)] at a
    rw [cntv_head hv _ (by omega)] at b
    have e2 : s.2 = t.2 := by
      rcases Int.lt_trichotomy s.2 t.2 with h | h | h
      · rw [cntv_tail _ (by omega), fmv_low q _ k2 _ (by omega)] at a; omega
      · exact h
      · rw [cntv_tail _ (by omega), fmv_low r _ k1 _ (by omega)] at b; omega
    rw [cntv_head hv _ (by omega)] at a
    have e : s = t := Prod.ext a e2
    subst e
    refine congrArg _ (fmv_ext r q s.2 k1 k2 fun n hn => ?_)
    by_cases hs : s.2 = n
    · rw [fmv_low r _ k1 _ (by omega), fmv_low q _ k2 _ (by omega)]
    · have := he n hn
      rwa [cntv_tail _ hs, cntv_tail _ hs] at this
theorem jn_one (u : List Vc.St) (n : Nat) : jn [u] n = Vc.cnt u n := by
  have h := Vc.cnt_nonneg u n
  show max 0 (Vc.cnt u n) = _
  omega
/-- Behind the nodes below k: where the second note begins beyond the first one's end. -/
def mTo (s e d : List Vc.St) : Nat → List Vc.St
  | 0 => s
  | k + 1 => if Vc.cnt e k < Vc.cnt d k then vec (jn [mTo s e d k, [(Vc.cnt d k, (k : Int))]]) else mTo s e d k
/-- The document's counts. -/
def bC (s e d : List Vc.St) (n : Nat) : Int := if Vc.cnt e n < Vc.cnt d n then Vc.cnt d n else Vc.cnt s n
theorem cnt_lone (a : Int) (k n : Nat) (ha : 0 < a) (hk : k < 64) : Vc.cnt [(a, (k : Int))] n = if n = k then a else 0 := by
  rw [Vc.cnt]
  by_cases h : n = k
  · subst h
    rw [if_pos ⟨(Vc.right_iff _).2 ⟨ha, by show (0 : Int) ≤ (n : Int); omega, by show (n : Int) < 64; omega⟩, rfl⟩, if_pos rfl]
  · rw [if_neg (fun e => h (by have := e.2; dsimp only at this; omega)), if_neg h]; rfl
theorem mTo_ok (s e d : List Vc.St) (hs : fm (-1) s = true) (hse : ∀ n, n < 64 → Vc.cnt s n ≤ Vc.cnt e n) : ∀ k : Nat, k ≤ 64 → fm (-1) (mTo s e d k) = true ∧ ∀ n, n < 64 → Vc.cnt (mTo s e d k) n = if n < k then bC s e d n else Vc.cnt s n
  | 0, _ => ⟨hs, fun n _ => by rw [if_neg (by omega)]; rfl⟩
  | k + 1, hk => by
    obtain ⟨h1, h2⟩ := mTo_ok s e d hs hse k (by omega)
    have r0 := Vc.cnt_nonneg e k
    rw [mTo]
    by_cases hc : Vc.cnt e k < Vc.cnt d k
    · rw [if_pos hc]
      refine ⟨formed_vec _, fun n hn => ?_⟩
      rw [cnt_join _ _ hn, h2 n hn, cnt_lone _ _ _ (by omega) (by omega)]
      have q := Vc.cnt_nonneg s n
      have q2 := hse n hn
      have q3 := Vc.cnt_nonneg d n
      by_cases hnk : n = k
      · subst hnk
        rw [if_neg (by omega), if_pos rfl, if_pos (by omega)]
        unfold bC; rw [if_pos hc]; omega
      · rw [if_neg hnk]
        by_cases hl : n < k
        · rw [if_pos hl, if_pos (by omega)]; unfold bC; split <;> omega
        · rw [if_neg hl, if_neg (by omega)]; omega
    · rw [if_neg hc]
      refine ⟨h1, fun n hn => ?_⟩
      rw [h2 n hn]
      by_cases hnk : n = k
      · subst hnk
        rw [if_neg (by omega), if_pos (by omega)]
        unfold bC; rw [if_neg hc]
      · by_cases hl : n < k
        · rw [if_pos hl, if_pos (by omega)]
        · rw [if_neg hl, if_neg (by omega)]
theorem bC_nonneg (s e d : List Vc.St) (n : Nat) : 0 ≤ bC s e d n := by
  have h1 := Vc.cnt_nonneg s n
  have h2 := Vc.cnt_nonneg d n
  unfold bC; split <;> omega
theorem mTo_vec (s e d : List Vc.St) (hs : fm (-1) s = true) (hse : cov2 e s = true) : mTo s e d 64 = vec (bC s e d) := by
  obtain ⟨h1, h2⟩ := mTo_ok s e d hs ((covB_iff _ _).1 hse) 64 (Nat.le_refl _)
  exact fmv_ext _ _ (-1) h1 (formed_vec _) fun n hn => by rw [h2 n hn, if_pos hn, cnt_vec (bC_nonneg s e d) hn]
/-- What is blurred in a merged note. -/
def mrgB (a b : Nt) : List Sn.Sp := Sn.tidy (a.b ++ b.b)
def mrgK (a b : Nt) (o : Int) : Bool := !hasO (mrgB a b) o
/-- The merged note. -/
def mrgN (a b : Nt) : Nt := ⟨vec (bC a.s a.e b.s), vec (jn [a.e, b.e]), mrgB a b, mrgW (mrgK a b) a.w b.w objs256⟩
theorem mrgW_mem {k : Int → Bool} {a b : List Wr} {w : Wr} {os : List Int} (h : w ∈ mrgW k a b os) : (w ∈ a ∨ w ∈ b) ∧ w.2.1 ∈ os ∧ k w.2.1 = true := by
  unfold mrgW at h
  obtain ⟨o, ho, hw⟩ := List.mem_filterMap.1 h
  split at hw
  · rename_i hk
    have hg : w ∈ grp (atO a o) (atO b o) := List.mem_of_head? hw
    have hobj := grp_obj hg
    refine ⟨?_, by rw [hobj]; exact ho, by rw [hobj]; exact hk⟩
    rcases ha : atO a o with _ | v <;> rcases hb : atO b o with _ | u <;> rw [ha, hb] at hg <;> simp only [grp] at hg
    · cases hg
    · rw [List.mem_singleton] at hg; subst hg; exact Or.inr (atO_obj hb).1
    · rw [List.mem_singleton] at hg; subst hg; exact Or.inl (atO_obj ha).1
    · split at hg <;> simp only [List.mem_cons, List.not_mem_nil, or_false] at hg <;> rcases hg with rfl | rfl
      · exact Or.inr (atO_obj hb).1
      · exact Or.inl (atO_obj ha).1
      · exact Or.inl (atO_obj ha).1
      · exact Or.inr (atO_obj hb).1
  · cases hw
theorem mrgW_rise (k : Int → Bool) (a b : List Wr) : ∀ {os : List Int}, os.Pairwise (· < ·) → (mrgW k a b os).Pairwise fun x y => x.2.1 < y.2.1
  | [], _ => List.Pairwise.nil
  | o :: os, h => by
    have h' := List.pairwise_cons.1 h
    have ih := mrgW_rise k a b h'.2
    unfold mrgW at ih ⊢
    rw [List.filterMap_cons]
    split
    · exact ih
    · rename_i w hw
      refine List.pairwise_cons.2 ⟨fun y hy => ?_, ih⟩
      have h1 := (mrgW_mem (os := os) hy).2.1
      split at hw
      · have h2 := grp_obj (List.mem_of_head? hw)
        rw [h2]; exact h'.1 _ h1
      · cases hw
theorem cntZ_mono {u v : List Vc.St} (h : ∀ n, n < 64 → Vc.cnt u n ≤ Vc.cnt v n) (x : Int) : cntZ u x ≤ cntZ v x := by
  unfold cntZ
  split
  · exact h _ (by omega)
  · exact Int.le_refl _
theorem hasB_mono {u v : List Vc.St} (h : ∀ n, n < 64 → Vc.cnt u n ≤ Vc.cnt v n) {s : Vc.St} (hs : hasB u s = true) : hasB v s = true := by
  unfold hasB at hs ⊢
  rw [Bool.and_eq_true, decide_eq_true_eq] at hs ⊢
  exact ⟨hs.1, by have := cntZ_mono h s.2; omega⟩
theorem ntF_parts {x : Nt} (h : ntF x = true) : fm (-1) x.s = true ∧ fm (-1) x.e = true ∧ cov2 x.e x.s = true ∧ Sn.fmS (-2) x.b = true ∧ ntW x.e x.b (-1) x.w = true := by
  unfold ntF ntH at h
  simp only [Bool.and_eq_true] at h
  obtain ⟨⟨h1, h2, h3, h4⟩, h5⟩ := h
  exact ⟨h1, h2, h3, h4, h5⟩
theorem mrgN_fm {a b : Nt} (ha : ntF a = true) (hb : ntF b = true) : ntF (mrgN a b) = true := by
  obtain ⟨a1, a2, a3, a4, a5⟩ := ntF_parts ha
  obtain ⟨b1, b2, b3, b4, b5⟩ := ntF_parts hb
  have ca := (covB_iff _ _).1 a3
  have cb := (covB_iff _ _).1 b3
  unfold ntF ntH
  simp only [Bool.and_eq_true]
  refine ⟨⟨formed_vec _, formed_vec _, ?_, Sn.tidy_fm _⟩, ?_⟩
  · refine (covB_iff _ _).2 fun n hn => ?_
    show Vc.cnt (vec (bC a.s a.e b.s)) n ≤ Vc.cnt (vec (jn [a.e, b.e])) n
    rw [cnt_vec (bC_nonneg _ _ _) hn, cnt_join _ _ hn]
    have h1 := ca n hn
    have h2 := cb n hn
    unfold bC
    split <;> omega
  · refine (ntW_iff _ _ _ _).2 ⟨(rise_iff _ _).2 ⟨fun w hw => ?_, mrgW_rise _ _ _ objs256_lt⟩, fun w hw => ?_⟩
    · have := (objs256_mem _).1 (mrgW_mem hw).2.1
      omega
    · obtain ⟨h1, h2, h3⟩ := mrgW_mem hw
      have hk : hasO (mrgB a b) w.2.1 = false := by unfold mrgK at h3; simpa using h3
      refine ⟨(objs256_mem _).1 h2, hk, ?_⟩
      rcases h1 with h1 | h1
      · have := (((ntW_iff _ _ _ _).1 a5).2 w h1).2.2
        exact hasB_mono (fun n hn => by show _ ≤ Vc.cnt (vec (jn [a.e, b.e])) n; rw [cnt_join _ _ hn]; omega) this
      · have := (((ntW_iff _ _ _ _).1 b5).2 w h1).2.2
        exact hasB_mono (fun n hn => by show _ ≤ Vc.cnt (vec (jn [a.e, b.e])) n; rw [cnt_join _ _ hn]; omega) this
theorem mrgN_le {a b : Nt} (ha : ntF a = true) (hb : ntF b = true) : ∀ w ∈ a.w ++ b.w, w.2.1 ≤ 255 := fun w hw => by
  rcases List.mem_append.1 hw with h | h
  · exact (((ntW_iff _ _ _ _).1 (ntF_parts ha).2.2.2.2).2 w h).1.2
  · exact (((ntW_iff _ _ _ _).1 (ntF_parts hb).2.2.2.2).2 w h).1.2
/-- What the program's list comes to. -/
theorem mrgN_w {a b : Nt} {s : List Wr} (ha : ntF a = true) (hb : ntF b = true) (h : St.Stab wLt ((a.w ++ b.w).filter fun w => !hasO (mrgB a b) w.2.1) s) : firsts s = (mrgN a b).w :=
  merged_is (rise_of _ _ _ _ (ntF_parts ha).2.2.2.2) (rise_of _ _ _ _ (ntF_parts hb).2.2.2.2) (mrgN_le ha hb) (mrgK a b) h
end Go.Proofs.YtnibkniggiokkaaDoor
