/- Lists of lists; the document's Join. -/
import Derived.Test.YtldcgmnfohhjbacVecF
namespace Go.Proofs.Ytldcgmnfohhjbac
open Go.RowKit
set_option maxRecDepth 100000

/-- A slice of lists of stamps. -/
structure RdL (w : World) (B : Nat) (A : Option Addr) (n c : Nat) (vs : List (List Vc.St)) : Prop where
  len : vs.length = n
  cap : n ≤ c
  max : c ≤ maxLen
  nil : A = none → c = 0
  at_ : ∀ k (hk : k < vs.length), ∃ b o Ak nk ck, A = some ⟨b, o, none⟩ ∧ b < B ∧ w.cell? ⟨b, o + k, none⟩ = some (.slice Ak nk ck) ∧ vs[k].length = nk ∧ Rd w B 2 Ak nk ck (sv vs[k])
theorem RdL.below {w w' : World} {B n c : Nat} {A : Option Addr} {vs : List (List Vc.St)} (h : RdL w B A n c vs) (hb : Below B w w') : RdL w' B A n c vs :=
  ⟨h.len, h.cap, h.max, h.nil, fun k hk => by
    obtain ⟨b, o, Ak, nk, ck, h1, h2, h3, h4, h5⟩ := h.at_ k hk
    exact ⟨b, o, Ak, nk, ck, h1, h2, by rw [hb.cell (p := ⟨b, o + k, none⟩) h2]; exact h3, h4, h5.below hb⟩⟩
theorem RdL.more {w : World} {B B' n c : Nat} {A : Option Addr} {vs : List (List Vc.St)} (h : RdL w B A n c vs) (hB : B ≤ B') : RdL w B' A n c vs :=
  ⟨h.len, h.cap, h.max, h.nil, fun k hk => by
    obtain ⟨b, o, Ak, nk, ck, h1, h2, h3, h4, h5⟩ := h.at_ k hk
    exact ⟨b, o, Ak, nk, ck, h1, by omega, h3, h4, h5.more hB⟩⟩
theorem RdL.go {w w' : World} {n c : Nat} {A : Option Addr} {vs : List (List Vc.St)} (h : RdL w w.heap.size A n c vs) (hb : Below w.heap.size w w') : RdL w' w'.heap.size A n c vs := (h.below hb).more hb.size

/-- The greatest counts. -/
def jn (vs : List (List Vc.St)) : Nat → Int := fun n => vs.foldl (fun a v => max a (Vc.cnt v n)) 0
theorem jn_nil : jn [] = fun _ => 0 := rfl
theorem jn_snoc (vs : List (List Vc.St)) (v : List Vc.St) (n : Nat) : jn (vs ++ [v]) n = max (jn vs n) (Vc.cnt v n) := by simp [jn]
theorem take_nextL (vs : List (List Vc.St)) (k : Nat) (h : k < vs.length) : vs.take (k + 1) = vs.take k ++ [vs[k]] := by rw [List.take_succ_eq_append_getElem h]
/-- Half way through: the first k counts are done. -/
def mix (k : Nat) (f g : Nat → Int) : Nat → Int := fun n => if n < k then g n else f n
theorem mix_zero (f g : Nat → Int) : mix 0 f g = f := by funext n; simp [mix]
theorem mix_next (f g : Nat → Int) (k : Nat) : ∀ n, upd (mix k f g) k (g k) n = mix (k + 1) f g n := fun n => by
  unfold upd mix
  by_cases h : n = k
  · subst h; simp
  · by_cases h2 : n < k
    · rw [if_neg h, if_pos h2, if_pos (by omega)]
    · rw [if_neg h, if_neg h2, if_neg (by omega)]
theorem mix_at (f g : Nat → Int) (k : Nat) : mix k f g k = f k := by simp [mix]
theorem mix_end (f g : Nat → Int) : ∀ n, n < 64 → mix 64 f g n = g n := fun n hn => by simp [mix, hn]

end Go.Proofs.Ytldcgmnfohhjbac
