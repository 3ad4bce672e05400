/- Walk over the law VectorLattice. -/
import Derived.Test.YtldcgmnfohhjbaaDoorVecT
namespace Go.Proofs.YtldcgmnfohhjbaaDoor
open Go.RowKit
set_option maxRecDepth 100000

theorem vecTo_congr {f g : Nat → Int} (h : ∀ n, n < 64 → f n = g n) : ∀ k, k ≤ 64 → vecTo f (pos f) k = vecTo g (pos g) k := by
  intro k
  induction k with
  | zero => intro _; rfl
  | succ k ih =>
    intro hk
    have e := h k (by omega)
    have ep : pos f k = pos g k := by unfold pos; rw [e]
    by_cases hp : pos f k = true
    · rw [vecTo_hit f _ k hp, vecTo_hit g _ k (ep ▸ hp), ih (by omega), e]
    · have hp' : pos f k = false := by simpa using hp
      rw [vecTo_miss f _ k hp', vecTo_miss g _ k (ep ▸ hp'), ih (by omega)]
theorem vec_congr {f g : Nat → Int} (h : ∀ n, n < 64 → f n = g n) : vec f = vec g := vecTo_congr h 64 (Nat.le_refl _)
theorem cnt_vecTo {f : Nat → Int} (h0 : ∀ n, 0 ≤ f n) (n : Nat) : ∀ k, k ≤ 64 → Vc.cnt (vecTo f (pos f) k) n = if n < k then f n else 0 := by
  intro k
  induction k with
  | zero => intro _; rfl
  | succ k ih =>
    intro hk
    have h1 := h0 k
    by_cases hp : pos f k = true
    · have h2 : 0 < f k := by simpa [pos] using hp
      have hr : Vc.right (f k, (k : Int)) = true := (Vc.right_iff _).2 ⟨h2, by simp, by simp; omega⟩
      rw [vecTo_hit f _ k hp, Vc.cnt_snoc, ih (by omega), hr]
      by_cases hn : n < k
      · rw [if_pos hn, if_pos (show n < k + 1 by omega), if_neg]
        rintro ⟨_, _, h⟩
        simp only at h; omega
      · rw [if_neg hn]
        by_cases he : n = k
        · subst he; rw [if_pos ⟨rfl, rfl, rfl⟩, if_pos (by omega)]
        · rw [if_neg (by rintro ⟨_, _, h⟩; simp only at h; omega), if_neg (by omega)]
    · have hp' : pos f k = false := by simpa using hp
      have h2 : f k = 0 := by
        have : ¬ 0 < f k := by simpa [pos] using hp'
        omega
      rw [vecTo_miss f _ k hp', ih (by omega)]
      by_cases hn : n < k
      · rw [if_pos hn, if_pos (by omega)]
      · rw [if_neg hn]
        by_cases he : n = k
        · subst he; rw [if_pos (by omega), h2]
        · rw [if_neg (by omega)]
theorem cnt_vec {f : Nat → Int} (h0 : ∀ n, 0 ≤ f n) {n : Nat} (hn : n < 64) : Vc.cnt (vec f) n = f n := by
  rw [vec, cnt_vecTo h0 n 64 (Nat.le_refl _), if_pos hn]

theorem jn_two (u v : List Vc.St) (n : Nat) : jn [u, v] n = max (Vc.cnt u n) (Vc.cnt v n) := by
  have h := Vc.cnt_nonneg u n
  show max (max 0 (Vc.cnt u n)) (Vc.cnt v n) = _
  rw [Int.max_eq_right h]
theorem mt_two (u v : List Vc.St) (n : Nat) : mt [u, v] n = min (Vc.cnt u n) (Vc.cnt v n) := rfl
theorem mt_two_nonneg (u v : List Vc.St) (n : Nat) : 0 ≤ mt [u, v] n := by
  have h1 := Vc.cnt_nonneg u n
  have h2 := Vc.cnt_nonneg v n
  rw [mt_two]; omega
theorem cnt_join (u v : List Vc.St) {n : Nat} (hn : n < 64) : Vc.cnt (vec (jn [u, v])) n = max (Vc.cnt u n) (Vc.cnt v n) := by
  rw [cnt_vec (jn_nonneg _) hn, jn_two]
theorem cnt_meet (u v : List Vc.St) {n : Nat} (hn : n < 64) : Vc.cnt (vec (mt [u, v])) n = min (Vc.cnt u n) (Vc.cnt v n) := by
  rw [cnt_vec (mt_two_nonneg u v) hn, mt_two]

/-- Covers, of lists. -/
def cov (u v : List Vc.St) : Bool := covB (Vc.cnt u) (Vc.cnt v)
theorem cov_iff (u v : List Vc.St) : cov u v = true ↔ ∀ n, n < 64 → Vc.cnt v n ≤ Vc.cnt u n := covB_iff _ _
theorem cov_refl (u : List Vc.St) : cov u u = true := (cov_iff u u).2 fun _ _ => Int.le_refl _
theorem cov_join_l (u v : List Vc.St) : cov (vec (jn [u, v])) u = true := (cov_iff _ _).2 fun n hn => by rw [cnt_join u v hn]; omega
theorem cov_join_r (u v : List Vc.St) : cov (vec (jn [u, v])) v = true := (cov_iff _ _).2 fun n hn => by rw [cnt_join u v hn]; omega
theorem cov_meet_l (u v : List Vc.St) : cov u (vec (mt [u, v])) = true := (cov_iff _ _).2 fun n hn => by rw [cnt_meet u v hn]; omega
theorem cov_meet_r (u v : List Vc.St) : cov v (vec (mt [u, v])) = true := (cov_iff _ _).2 fun n hn => by rw [cnt_meet u v hn]; omega
theorem cov_of_join (u v t : List Vc.St) : cov t (vec (jn [u, v])) = (cov t u && cov t v) := by
  rw [Bool.eq_iff_iff, Bool.and_eq_true, cov_iff, cov_iff, cov_iff]
  refine ⟨fun h => ⟨fun n hn => ?_, fun n hn => ?_⟩, fun ⟨h1, h2⟩ n hn => ?_⟩
  · have := h n hn; rw [cnt_join u v hn] at this; omega
  · have := h n hn; rw [cnt_join u v hn] at this; omega
  · have a := h1 n hn
    have b := h2 n hn
    rw [cnt_join u v hn]; omega
theorem cov_of_meet (u v t : List Vc.St) : cov (vec (mt [u, v])) t = (cov u t && cov v t) := by
  rw [Bool.eq_iff_iff, Bool.and_eq_true, cov_iff, cov_iff, cov_iff]
  refine ⟨fun h => ⟨fun n hn => ?_, fun n hn => ?_⟩, fun ⟨h1, h2⟩ n hn => ?_⟩
  · have := h n hn; rw [cnt_meet u v hn] at this; omega
  · have := h n hn; rw [cnt_meet u v hn] at this; omega
  · have a := h1 n hn
    have b := h2 n hn
    rw [cnt_meet u v hn]; omega
theorem join_comm (u v : List Vc.St) : vec (jn [v, u]) = vec (jn [u, v]) := vec_congr fun n _ => by rw [jn_two, jn_two]; omega
theorem meet_comm (u v : List Vc.St) : vec (mt [v, u]) = vec (mt [u, v]) := vec_congr fun n _ => by rw [mt_two, mt_two]; omega
theorem join_assoc (u v t : List Vc.St) : vec (jn [u, vec (jn [v, t])]) = vec (jn [vec (jn [u, v]), t]) := vec_congr fun n hn => by
  rw [jn_two, jn_two, cnt_join v t hn, cnt_join u v hn]; omega
theorem formed_vec (f : Nat → Int) : fm (-1) (vec f) = true := (vec_formed f 64 (Nat.le_refl _)).1

/-- Join and Meet of two, laid into a row for the call. -/
theorem join_two (A D : Option Addr) (n c m d : Nat) (u v : List Vc.St) (W : World) (hT : Tab W) (hl : u.length = n) (hl2 : v.length = m) (hR : Rd W W.heap.size 2 A n c (sv u)) (hR2 : Rd W W.heap.size 2 D m d (sv v)) (r : List Vc.St) (hr : vec (jn [u, v]) = r) (k : Nat) (hk : r.length = k) :
    Calls Tryd.prog 69 #[.slice (some ⟨W.heap.size, 0, none⟩) 2 2] (W.alloc (.cells #[.slice A n c, .slice D m d] 22)) fun e w' => ∃ A' c', e = .returned (.slice A' k c') ∧ Rd w' w'.heap.size 2 A' k c' (sv r) ∧ Below W.heap.size W w' := by
  have hb : Below W.heap.size W (W.alloc (.cells #[.slice A n c, .slice D m d] 22)) := (Below.refl _ _).alloc (Nat.le_refl _) _
  refine (join_any _ 2 2 [u, v] _ (hT.below hb) (RdL.two hl hl2 hR hR2 22)).mono ?_
  rw [hr, hk]
  rintro e w1 ⟨A', c', rfl, ho, hb1⟩
  exact ⟨A', c', rfl, Rd.of_own ho, below_then hb (Nat.le_refl _) hb1⟩
/-- What a slice reads in every later world. -/
def Stays (w0 : World) (A : Option Addr) (n c : Nat) (u : List Vc.St) : Prop := u.length = n ∧ Rd w0 w0.heap.size 2 A n c (sv u)
theorem Stays.go {w0 W : World} {A : Option Addr} {n c : Nat} {u : List Vc.St} (h : Stays w0 A n c u) (hb : Below w0.heap.size w0 W) : Stays W A n c u := ⟨h.1, h.2.go hb⟩

end Go.Proofs.YtldcgmnfohhjbaaDoor
