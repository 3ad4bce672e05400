/- Plain laws: what a reader that goes on by parts has read. No program is named. -/
import Derived.Test.YtndlcimckfndiaaDoorMWp
namespace Go.Proofs.YtndlcimckfndiaaDoor.Wq

/-- A part of bytes that may be spoilt already. -/
def st {α : Type} (p : List UInt8 → Option (α × List UInt8)) : Option (List UInt8) → Option (List UInt8)
  | none => none
  | some l => match p l with | none => none | some (_, r) => some r
def vl {α : Type} (p : List UInt8 → Option (α × List UInt8)) (d : α) : Option (List UInt8) → α
  | none => d
  | some l => match p l with | none => d | some (v, _) => v
theorem st_none {α : Type} (p : List UInt8 → Option (α × List UInt8)) : st p none = none := rfl
/-- Writes, one behind another. -/
def InvW (k : Nat) (s : Option (List UInt8)) (acc : List Wr) (F : Option (List Wr × List UInt8)) : Prop := match s with
  | none => F = none
  | some l => F = match pW k l with | none => none | some (v, r) => some (acc ++ v, r)
/-- Where a write leaves a reader. -/
def stW (s : Option (List UInt8)) (g : Nat) : Option (List UInt8) := if 1 < g then none else s
theorem InvW.next {k : Nat} {l : List UInt8} {acc : List Wr} {F : Option (List Wr × List UInt8)} (h : InvW (k + 1) (some l) acc F) :
    InvW k (stW (st pN (st pN (st pN (st pN (some l))))) (vl pN 0 (st pN (st pN (st pN (some l)))))) (acc ++ [((((vl pN 0 (st pN (st pN (some l))) : Nat) : Int), ((vl pN 0 (st pN (some l)) : Nat) : Int)), ((vl pN 0 (some l) : Nat) : Int), decide (vl pN 0 (st pN (st pN (st pN (some l)))) = 1))]) F := by
  have h' : F = match pW (k + 1) l with | none => none | some (v, r) => some (acc ++ v, r) := h
  rw [pW] at h'
  have none_ : ∀ g, stW none g = none := fun g => by unfold stW; split <;> rfl
  rcases h1 : pN l with _ | ⟨o, r1⟩
  · simp only [st, h1, none_]
    rw [h1] at h'
    exact h'
  · rw [h1] at h'
    rcases h2 : pN r1 with _ | ⟨a, r2⟩
    · simp only [st, h1, h2, none_]
      simp only [h2] at h'
      exact h'
    · simp only [h2] at h'
      rcases h3 : pN r2 with _ | ⟨b, r3⟩
      · simp only [st, h1, h2, h3, none_]
        simp only [h3] at h'
        exact h'
      · simp only [h3] at h'
        rcases h4 : pN r3 with _ | ⟨g, r4⟩
        · simp only [st, h1, h2, h3, h4, none_]
          simp only [h4] at h'
          exact h'
        · simp only [h4] at h'
          simp only [st, vl, h1, h2, h3, h4]
          unfold stW
          by_cases hg : 1 < g
          · rw [if_pos hg] at h' ⊢
            exact h'
          · rw [if_neg hg] at h' ⊢
            show F = match pW k r4 with | none => none | some (v, r) => some ((acc ++ [(((b : Int), (a : Int)), (o : Int), decide (g = 1))]) ++ v, r)
            rw [h']
            rcases pW k r4 with _ | ⟨v, t⟩
            · rfl
            · simp
theorem InvW.done {l : List UInt8} {acc : List Wr} {F : Option (List Wr × List UInt8)} (h : InvW 0 (some l) acc F) : F = some (acc, l) := by
  have : F = some (acc ++ [], l) := h
  rwa [List.append_nil] at this
/-- The writes behind a number. -/
def allW : Option (List UInt8) → Option (List Wr × List UInt8)
  | none => none
  | some l => match pN l with | none => none | some (n, r) => pW n r
theorem InvW.start (s : Option (List UInt8)) : InvW (vl pN 0 s) (st pN s) [] (allW s) := by
  rcases s with _ | l
  · exact rfl
  · rcases h : pN l with _ | ⟨n, r⟩
    · simp only [st, vl, allW, h]; exact rfl
    · simp only [st, vl, allW, h]
      show pW n r = match pW n r with | none => none | some (v, q) => some ([] ++ v, q)
      rcases pW n r with _ | ⟨v, q⟩ <;> rfl
/-- A note, part by part. -/
theorem pNt_all (l : List UInt8) : pNt l = match allW (st pS (st pV (st pV (some l)))) with
    | none => none
    | some (w, r) => if ntF ⟨vl pV [] (some l), vl pV [] (st pV (some l)), vl pS [] (st pV (st pV (some l))), w⟩ = true then some (⟨vl pV [] (some l), vl pV [] (st pV (some l)), vl pS [] (st pV (st pV (some l))), w⟩, r) else none := by
  unfold pNt
  rcases h1 : pV l with _ | ⟨s, r1⟩
  · simp only [st, allW, h1]
  · rcases h2 : pV r1 with _ | ⟨e, r2⟩
    · simp only [st, allW, h1, h2]
    · rcases h3 : pS r2 with _ | ⟨b, r3⟩
      · simp only [st, allW, h1, h2, h3]
      · rcases h4 : pN r3 with _ | ⟨n, r4⟩
        · simp only [st, allW, h1, h2, h3, h4]
        · rcases h5 : pW n r4 with _ | ⟨w, r5⟩
          · simp only [st, allW, h1, h2, h3, h4, h5]
          · simp only [st, vl, allW, h1, h2, h3, h4, h5]
/-- A body, part by part. -/
theorem pB_all (l : List UInt8) : pB l = match st (pR 256) (st pN (st pN (st pN (some l)))) with
    | none => none
    | some r => if bdF ⟨(vl pN 0 (some l) : Nat), ((vl pN 0 (st pN (st pN (some l))) : Nat), (vl pN 0 (st pN (some l)) : Nat)), vl (pR 256) [] (st pN (st pN (st pN (some l))))⟩ = true then some (⟨(vl pN 0 (some l) : Nat), ((vl pN 0 (st pN (st pN (some l))) : Nat), (vl pN 0 (st pN (some l)) : Nat)), vl (pR 256) [] (st pN (st pN (st pN (some l))))⟩, r) else none := by
  unfold pB
  rcases h1 : pN l with _ | ⟨o, r1⟩
  · simp only [st, h1]
  · rcases h2 : pN r1 with _ | ⟨a, r2⟩
    · simp only [st, h1, h2]
    · rcases h3 : pN r2 with _ | ⟨b, r3⟩
      · simp only [st, h1, h2, h3]
      · rcases h4 : pR 256 r3 with _ | ⟨v, r4⟩
        · simp only [st, h1, h2, h3, h4]
        · simp only [st, vl, h1, h2, h3, h4]
/-- A message's head, then its kind. -/
theorem pM_all (l : List UInt8) : pM l = match st pN (st pN (st pN (some l))) with
    | none => none
    | some r => pK (vl pN 0 (some l)) (vl pN 0 (st pN (some l))) (vl pN 0 (st pN (st pN (some l)))) r := by
  unfold pM
  rcases h1 : pN l with _ | ⟨k, r1⟩
  · simp only [st, h1]
  · rcases h2 : pN r1 with _ | ⟨f, r2⟩
    · simp only [st, h1, h2]
    · rcases h3 : pN r2 with _ | ⟨t, r3⟩
      · simp only [st, h1, h2, h3]
      · simp only [st, vl, h1, h2, h3]
theorem pK_1 (f t : Nat) (l : List UInt8) : pK 1 f t l = match st pV (st pS (st pN (some l))) with
    | none => none
    | some r => some (⟨1, f, t, (vl pN 0 (some l) : Nat), 0, vl pS [] (st pN (some l)), vl pV [] (st pS (st pN (some l))), [], bd0⟩, r) := by
  unfold pK
  rw [if_pos rfl]
  rcases h1 : pN l with _ | ⟨n, r1⟩
  · simp only [st, h1]
  · rcases h2 : pS r1 with _ | ⟨i, r2⟩
    · simp only [st, h1, h2]
    · rcases h3 : pV r2 with _ | ⟨v, r3⟩
      · simp only [st, h1, h2, h3]
      · simp only [st, vl, h1, h2, h3]
theorem pK_4 (f t : Nat) (l : List UInt8) : pK 4 f t l = match st pN (some l) with
    | none => none
    | some r => some (⟨4, f, t, 0, 0, [], [], [], ⟨(vl pN 0 (some l) : Nat), (0, 0), []⟩⟩, r) := by
  unfold pK
  rw [if_neg (by decide), if_neg (by decide), if_pos rfl]
  rcases h1 : pN l with _ | ⟨n, r1⟩
  · simp only [st, h1]
  · simp only [st, vl, h1]
theorem pK_5 (f t : Nat) (l : List UInt8) : pK 5 f t l = match st pB (some l) with
    | none => none
    | some r => some (⟨5, f, t, 0, 0, [], [], [], vl pB bd0 (some l)⟩, r) := by
  unfold pK
  rw [if_neg (by decide), if_neg (by decide), if_neg (by decide), if_pos rfl]
  rcases h1 : pB l with _ | ⟨n, r1⟩
  · simp only [st, h1]
  · simp only [st, vl, h1]
theorem pK_else (k f t : Nat) (l : List UInt8) (h1 : k ≠ 1) (h3 : k ≠ 3) (h4 : k ≠ 4) (h5 : k ≠ 5) : pK k f t l = some (⟨k, f, t, 0, 0, [], [], [], bd0⟩, l) := by
  unfold pK
  rw [if_neg h1, if_neg h3, if_neg h4, if_neg h5]
/-- Notes, one behind another. -/
def InvL (k : Nat) (s : Option (List UInt8)) (acc : List Nt) (F : Option (List Nt × List UInt8)) : Prop := match s with
  | none => F = none
  | some l => F = match pL k l with | none => none | some (v, r) => some (acc ++ v, r)
theorem InvL.next {k : Nat} {l : List UInt8} {acc : List Nt} {F : Option (List Nt × List UInt8)} (d : Nt) (h : InvL (k + 1) (some l) acc F) : InvL k (st pNt (some l)) (acc ++ [vl pNt d (some l)]) F := by
  have h' : F = match pL (k + 1) l with | none => none | some (v, r) => some (acc ++ v, r) := h
  rw [pL] at h'
  rcases h1 : pNt l with _ | ⟨x, r1⟩
  · rw [h1] at h'
    simp only [st, h1]
    exact h'
  · rw [h1] at h'
    simp only [st, vl, h1]
    show F = match pL k r1 with | none => none | some (v, r) => some ((acc ++ [x]) ++ v, r)
    rw [h']
    simp only
    rcases pL k r1 with _ | ⟨v, t⟩
    · rfl
    · simp
theorem InvL.done {l : List UInt8} {acc : List Nt} {F : Option (List Nt × List UInt8)} (h : InvL 0 (some l) acc F) : F = some (acc, l) := by
  have : F = some (acc ++ [], l) := h
  rwa [List.append_nil] at this
/-- The notes of a message: as many as a number says, if they are not too many. -/
def allL : Option (List UInt8) → Option (List Nt × List UInt8)
  | none => none
  | some l => match pN l with | none => none | some (c, r) => pL c r
theorem InvL.start (s : Option (List UInt8)) : InvL (vl pN 0 s) (st pN s) [] (allL s) := by
  rcases s with _ | l
  · exact rfl
  · rcases h : pN l with _ | ⟨n, r⟩
    · simp only [st, vl, allL, h]; exact rfl
    · simp only [st, vl, allL, h]
      show pL n r = match pL n r with | none => none | some (v, q) => some ([] ++ v, q)
      rcases pL n r with _ | ⟨v, q⟩ <;> rfl
theorem pK_3 (f t : Nat) (l : List UInt8) : pK 3 f t l = match (if 257 < vl pN 0 (st pN (st pN (some l))) then none else allL (st pN (st pN (some l)))) with
    | none => none
    | some (v, r) => some (⟨3, f, t, (vl pN 0 (some l) : Nat), (vl pN 0 (st pN (some l)) : Nat), [], [], v, bd0⟩, r) := by
  unfold pK
  rw [if_neg (by decide), if_pos rfl]
  rcases h1 : pN l with _ | ⟨n, r1⟩
  · simp [st, vl, allL, h1]
  · rcases h2 : pN r1 with _ | ⟨q, r2⟩
    · simp [st, vl, allL, h1, h2]
    · rcases h3 : pN r2 with _ | ⟨c, r3⟩
      · simp [st, vl, allL, h1, h2, h3]
      · simp only [st, vl, allL, h1, h2, h3]
        by_cases hc : 257 < c
        · rw [if_pos hc, if_pos hc]
        · rw [if_neg hc, if_neg hc]
          rcases pL c r3 with _ | ⟨v, r4⟩ <;> rfl
end Go.Proofs.YtndlcimckfndiaaDoor.Wq
