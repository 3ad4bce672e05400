/- Plain law of LogWhole: who covers the base and takes all notes from the place on knows at last all that is known. No program is named. -/
import Derived.Test.YtepdcbhapjgijaaDoorMTwN
import Derived.Test.YtepdcbhapjgijaaDoorMLg
namespace Go.Proofs.YtepdcbhapjgijaaDoor

/-- What is held while the notes of a log are taken: v what was known at first, k what is known in the log. -/
structure LwOk (v k : List Vc.St) (z : List Zn) (cur : List Vc.St) : Prop where
  z : zF (-1) none z = true
  c : fm (-1) cur = true
  n : ∀ n, n < 64 → Vc.cnt cur n = max (Vc.cnt v n) (Vc.cnt k n)
theorem cnt_two (u v : List Vc.St) {n : Nat} (hn : n < 64) : Vc.cnt (vec (jn [u, v])) n = max (Vc.cnt u n) (Vc.cnt v n) := cnt_join u v hn
theorem lw_init {v k : List Vc.St} (h : covB (Vc.cnt v) (Vc.cnt k) = true) : LwOk v k [] (vec (jn [v, []])) :=
  ⟨rfl, formed_vec _, fun n hn => by
    rw [cnt_two v [] hn]
    have h1 := (covB_iff _ _).1 h n hn
    have h2 := Vc.cnt_nonneg v n
    have h3 : Vc.cnt [] n = 0 := rfl
    omega⟩
theorem lw_step {v k : List Vc.St} {z : List Zn} {cur : List Vc.St} {x : Nt} (h : LwOk v k z cur) (hx : (ntF x && ntFits x k) = true) :
    tkE z cur x = 0 ∧ LwOk v (vec (jn [k, x.e])) (tkZ' z cur x) (tkK z cur x) := by
  rw [Bool.and_eq_true] at hx
  have hf : ntFits x cur = true := (covB_iff _ _).2 fun n hn => by
    have h1 := (covB_iff _ _).1 hx.2 n hn
    rw [h.n n hn]
    omega
  have hE := tkE_is h.z h.c hx.1 hf
  obtain ⟨e1, e2⟩ := tkZ_zero hE
  rw [e1, e2]
  refine ⟨hE, tkZ_fm h.z h.c x, formed_vec _, fun n hn => ?_⟩
  rw [cnt_now cur x hn, cnt_two k x.e hn, h.n n hn]
  omega
theorem lw_end {v q : List Vc.St} {z : List Zn} {cur : List Vc.St} (h : LwOk v q z cur) : cov2 cur q = true ∧ cur = vec (jn [v, q]) := by
  refine ⟨(cov2_iff _ _).2 fun n hn => ?_, fm_ext _ _ (-1) h.c (formed_vec _) fun n hn => ?_⟩
  · rw [h.n n hn]; omega
  · rw [h.n n hn, cnt_two v q hn]
theorem lw_start {v : List Vc.St} : ∀ (l : List Nt) {b q : List Vc.St}, lgW b l = some q → covB (Vc.cnt v) (Vc.cnt b) = true → ∃ k, lgW k (l.drop (plW v l)) = some q ∧ covB (Vc.cnt v) (Vc.cnt k) = true
  | [], b, q, h, hc => ⟨b, h, hc⟩
  | x :: r, b, q, h, hc => by
    unfold plW
    by_cases hn : ntNews x v = true
    · rw [if_pos hn]; exact ⟨b, h, hc⟩
    · rw [if_neg hn]
      rw [lgW] at h
      split at h
      · refine lw_start r h ((covB_iff _ _).2 fun n hn2 => ?_)
        have h1 := (covB_iff _ _).1 hc n hn2
        have h2 : covB (Vc.cnt v) (Vc.cnt x.e) = true := by
          unfold ntNews at hn
          simpa using hn
        have h3 := (covB_iff _ _).1 h2 n hn2
        rw [cnt_two b x.e hn2]
        omega
      · cases h
theorem lw_round {k q : List Vc.St} {l : List Nt} {i : Nat} (h : i < l.length) (e : lgW k (l.drop i) = some q) : (ntF l[i] && ntFits l[i] k) = true ∧ lgW (vec (jn [k, l[i].e])) (l.drop (i + 1)) = some q := by
  have h1 := lgW_hit h e
  exact ⟨h1, by rw [← lgW_next h h1]; exact e⟩
theorem lw_last {k q : List Vc.St} {l : List Nt} {i : Nat} (h : l.length ≤ i) (e : lgW k (l.drop i) = some q) : k = q := by
  rw [lgW_end h] at e
  exact Option.some.inj e
theorem plW_le (v : List Vc.St) : ∀ l : List Nt, plW v l ≤ l.length
  | [] => Nat.le_refl _
  | x :: r => by
    unfold plW
    split
    · omega
    · have := plW_le v r; simp; omega
/-- What a formed log whose base is covered gives. -/
theorem lw_go {v b : List Vc.St} {L : List (NV × Nt)} {su : Int} (h : (lgP b L su v).2 = 0) : lgR b L su = true ∧ (lgP b L su v).1 = (plW v (nts L) : Int) ∧ ∃ q k, lgW b (nts L) = some q ∧ lgW k ((nts L).drop (plW v (nts L))) = some q ∧ covB (Vc.cnt v) (Vc.cnt k) = true := by
  unfold lgP at h ⊢
  by_cases h1 : lgR b L su = true
  · rw [if_pos h1] at h ⊢
    by_cases h2 : covB (Vc.cnt v) (Vc.cnt b) = true
    · rw [if_pos h2]
      refine ⟨h1, rfl, ?_⟩
      unfold lgR at h1
      simp only [Bool.and_eq_true] at h1
      obtain ⟨q, hq⟩ := Option.isSome_iff_exists.1 h1.2.2.2
      obtain ⟨k, hk, hc⟩ := lw_start (nts L) hq h2
      exact ⟨q, k, hq, hk, hc⟩
    · rw [if_neg h2] at h; cases h
  · rw [if_neg h1] at h; cases h
theorem lw_no {v b : List Vc.St} {L : List (NV × Nt)} {su : Int} (h : (lgP b L su v).2 ≠ 0) : (lgP b L su v).1 = 0 := by
  unfold lgP at h ⊢
  split
  · rename_i h1
    rw [if_pos h1] at h
    split
    · rename_i h2; rw [if_pos h2] at h; exact absurd rfl h
    · rfl
  · rfl
end Go.Proofs.YtepdcbhapjgijaaDoor
