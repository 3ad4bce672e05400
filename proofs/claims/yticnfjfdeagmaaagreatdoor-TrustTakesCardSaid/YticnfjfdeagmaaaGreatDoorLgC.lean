/- Plain law: formed vectors with the same counts are one; the walk over a log from its base. Walks: the document's Formed, Known, Place. -/
import Derived.Test.YticnfjfdeagmaaaGreatDoorLgB
import Derived.Test.YticnfjfdeagmaaaGreatDoorMVec
import Derived.Test.YticnfjfdeagmaaaGreatDoorNtD
import Derived.Test.YticnfjfdeagmaaaGreatDoorNtB
namespace Go.Proofs.YticnfjfdeagmaaaGreatDoor
open Go.RowKit
set_option maxRecDepth 100000

theorem fm_cons {last : Int} {s : Vc.St} {r : List Vc.St} (h : fm last (s :: r) = true) : (0 < s.1 ∧ 0 ≤ s.2 ∧ s.2 < 64) ∧ last < s.2 ∧ fm s.2 r = true := by
  simp only [fm, Bool.and_eq_true, decide_eq_true_eq] at h
  exact ⟨(Vc.right_iff s).1 h.1, h.2.1, h.2.2⟩
theorem fm_low : ∀ (v : List Vc.St) (last : Int), fm last v = true → ∀ n : Nat, (n : Int) ≤ last → Vc.cnt v n = 0
  | [], _, _, _, _ => rfl
  | s :: r, last, h, n, hn => by
    obtain ⟨_, h2, h3⟩ := fm_cons h
    rw [Vc.cnt, if_neg (fun e => by omega)]
    exact fm_low r s.2 h3 n (by omega)
theorem cnt_head {last : Int} {s : Vc.St} {r : List Vc.St} (h : fm last (s :: r) = true) (n : Nat) (hn : s.2 = n) : Vc.cnt (s :: r) n = s.1 := by
  rw [Vc.cnt, if_pos ⟨(Vc.right_iff s).2 (fm_cons h).1, hn⟩]
theorem cnt_tail {s : Vc.St} {r : List Vc.St} (n : Nat) (hn : s.2 ≠ n) : Vc.cnt (s :: r) n = Vc.cnt r n := by
  rw [Vc.cnt, if_neg (fun e => hn e.2)]
theorem fm_ext : ∀ (u v : List Vc.St) (last : Int), fm last u = true → fm last v = true → (∀ n : Nat, n < 64 → Vc.cnt u n = Vc.cnt v n) → u = v
  | [], [], _, _, _, _ => rfl
  | [], t :: r, last, _, hv, he => by
    obtain ⟨h1, _, _⟩ := fm_cons hv
    have h := he t.2.toNat (by omega)
    rw [cnt_head hv _ (by omega)] at h
    simp only [Vc.cnt] at h; omega
  | s :: r, [], last, hu, _, he => by
    obtain ⟨h1, _, _⟩ := fm_cons hu
    have h := he s.2.toNat (by omega)
    rw [cnt_head hu _ (by omega)] at h
    simp only [Vc.cnt] at h; omega
  | s :: r, t :: q, last, hu, hv, he => by
    obtain ⟨h1, _, k1⟩ := fm_cons hu
    obtain ⟨h2, _, k2⟩ := fm_cons hv
    have a := he s.2.toNat (by omega)
    have b := he t.2.toNat (by omega)
    rw [cnt_head hu _ (by omega)] at a
    rw [cnt_head hv _ (by omega)] at b
    have e2 : s.2 = t.2 := by
      rcases Int.lt_trichotomy s.2 t.2 with h | h | h
      · rw [cnt_tail _ (by omega), fm_low q _ k2 _ (by omega)] at a; omega
      · exact h
      · rw [cnt_tail _ (by omega), fm_low r _ k1 _ (by omega)] at b; omega
    rw [cnt_head hv _ (by omega)] at a
    have e : s = t := Prod.ext a e2
    subst e
    refine congrArg _ (fm_ext r q s.2 k1 k2 fun n hn => ?_)
    by_cases hs : s.2 = n
    · rw [fm_low r _ k1 _ (by omega), fm_low q _ k2 _ (by omega)]
    · have := he n hn
      rwa [cnt_tail _ hs, cnt_tail _ hs] at this
theorem jn_one (u : List Vc.St) (n : Nat) : jn [u] n = Vc.cnt u n := by
  have h := Vc.cnt_nonneg u n
  show max 0 (Vc.cnt u n) = _
  omega
theorem vec_one {b : List Vc.St} (h : fm (-1) b = true) : vec (jn [b]) = b :=
  fm_ext _ _ (-1) (formed_vec _) h fun n hn => by rw [cnt_vec (fun n => by rw [jn_one]; exact Vc.cnt_nonneg b n) hn, jn_one]

/-- Is a log formed? From its base. -/
def lgR (b : List Vc.St) (L : List (NV × Nt)) (su : Int) : Bool := fm (-1) b && (decide (0 ≤ su) && (decide (su ≤ L.length) && (lgW b (nts L)).isSome))
theorem lgF_R (b : List Vc.St) (L : List (NV × Nt)) (su : Int) : lgF b L su = lgR b L su := by
  unfold lgF lgR
  rcases hf : fm (-1) b with _ | _
  · simp
  · rw [vec_one hf]
    rcases (lgW b (nts L)) with _ | q <;> simp
theorem lgW_hit {k q : List Vc.St} {l : List Nt} {i : Nat} (h : i < l.length) (e : lgW k (l.drop i) = some q) : (ntF l[i] && ntFits l[i] k) = true := by
  rcases hz : (ntF l[i] && ntFits l[i] k) with _ | _
  · rw [lgW_no h hz] at e; cases e
  · rfl

/-- The place of the first note that is new to a vector. -/
def plW (v : List Vc.St) : List Nt → Nat
  | [] => 0
  | x :: r => if ntNews x v = true then 0 else plW v r + 1
theorem plW_end {v : List Vc.St} {l : List Nt} {i : Nat} (h : l.length ≤ i) : plW v (l.drop i) = 0 := by rw [List.drop_of_length_le h]; rfl
theorem plW_hit {v : List Vc.St} {l : List Nt} {i : Nat} (h : i < l.length) (hf : ntNews l[i] v = true) : plW v (l.drop i) = 0 := by
  rw [List.drop_eq_getElem_cons h, plW, if_pos hf]
theorem plW_miss {v : List Vc.St} {l : List Nt} {i : Nat} (h : i < l.length) (hf : ntNews l[i] v = false) : plW v (l.drop i) = plW v (l.drop (i + 1)) + 1 := by
  rw [List.drop_eq_getElem_cons h, plW, if_neg (by rw [hf]; simp)]
def lgP (b : List Vc.St) (L : List (NV × Nt)) (su : Int) (v : List Vc.St) : Int × Int :=
  if lgR b L su = true then (if covB (Vc.cnt v) (Vc.cnt b) = true then ((plW v (nts L) : Int), 0) else (0, 12)) else (0, 1)

end Go.Proofs.YticnfjfdeagmaaaGreatDoor
