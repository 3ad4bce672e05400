/- What a message in the making owns; plain laws of how a message is read by parts. -/
import Derived.Test.YtndlcimckfndiaaDoorWmH
import Derived.Test.YtndlcimckfndiaaDoorWmG
namespace Go.Proofs.YtndlcimckfndiaaDoor
open Go.RowKit
set_option maxRecDepth 100000

namespace Wq
theorem dec_none {l : List UInt8} (h : pM l = none) : dec l = none := by unfold dec; rw [h]
theorem dec_rest {l r : List UInt8} {c : UInt8} {m : Ms} (h : pM l = some (m, c :: r)) : dec l = none := by unfold dec; rw [h]; simp
theorem dec_bad {l r : List UInt8} {m : Ms} (h : pM l = some (m, r)) (hf : fmM m = false) : dec l = none := by unfold dec; rw [h]; simp [hf]
theorem dec_good {l : List UInt8} {m : Ms} (h : pM l = some (m, [])) (hf : fmM m = true) : dec l = some m := by unfold dec; rw [h]; simp [hf]
theorem vl_pN (s : Option (List UInt8)) : vl pN 0 s = numV s := (numV_vl s).symm
theorem st_pN (s : Option (List UInt8)) : st pN s = numS s := (numS_st s).symm
/-- A message's head, then its kind, by what a reader says. -/
theorem pM_st (l : List UInt8) : pM l = match numS (numS (numS (some l))) with
    | none => none
    | some r => pK (numV (some l)) (numV (numS (some l))) (numV (numS (numS (some l)))) r := by
  have h := pM_all l
  simp only [vl_pN, st_pN] at h
  exact h
/-- A message with what is left behind it. -/
def lift (m : Ms) : Option (List UInt8) → Option (Ms × List UInt8)
  | none => none
  | some r => some (m, r)
def lift3 (f t n q : Nat) : Option (List Nt × List UInt8) → Option (Ms × List UInt8)
  | none => none
  | some (v, r) => some (⟨3, f, t, n, q, [], [], v, bd0⟩, r)
def kindM (k f t : Nat) : Option (List UInt8) → Option (Ms × List UInt8)
  | none => none
  | some r => pK k f t r
theorem pM_kind (l : List UInt8) : pM l = kindM (numV (some l)) (numV (numS (some l))) (numV (numS (numS (some l)))) (numS (numS (numS (some l)))) := by
  rw [pM_st]
  rcases numS (numS (numS (some l))) with _ | r <;> rfl
theorem kind_1 {k f t : Nat} {s3 : Option (List UInt8)} (hk : k = 1) {i : List Sn.Sp} {v : List Vc.St} (hi : ∀ r, st pS (numS s3) = some r → i = vl pS [] (numS s3)) (hv : ∀ r, st pV (st pS (numS s3)) = some r → v = vl pV [] (st pS (numS s3))) :
    kindM k f t s3 = lift ⟨1, f, t, (numV s3 : Nat), 0, i, v, [], bd0⟩ (st pV (st pS (numS s3))) := by
  subst hk
  rcases s3 with _ | r
  · rfl
  · have h := pK_1 f t r
    simp only [vl_pN, st_pN] at h
    show pK 1 f t r = _
    rw [h]
    rcases h2 : st pV (st pS (numS (some r))) with _ | q
    · rfl
    · have h1 : ∃ q, st pS (numS (some r)) = some q := by
        rcases h1 : st pS (numS (some r)) with _ | q'
        · rw [h1] at h2; cases h2
        · exact ⟨q', rfl⟩
      obtain ⟨q', h1⟩ := h1
      rw [hi q' h1, hv q h2]
      rfl
theorem kind_4 {k f t : Nat} {s3 : Option (List UInt8)} (hk : k = 4) : kindM k f t s3 = lift ⟨4, f, t, 0, 0, [], [], [], ⟨(numV s3 : Nat), (0, 0), []⟩⟩ (numS s3) := by
  subst hk
  rcases s3 with _ | r
  · rfl
  · have h := pK_4 f t r
    simp only [vl_pN, st_pN] at h
    show pK 4 f t r = _
    rw [h]
    rcases numS (some r) with _ | q <;> rfl
theorem kind_5 {k f t : Nat} {s3 : Option (List UInt8)} (hk : k = 5) {b : Bd} (hb : ∀ r, st pB s3 = some r → b = vl pB bd0 s3) : kindM k f t s3 = lift ⟨5, f, t, 0, 0, [], [], [], b⟩ (st pB s3) := by
  subst hk
  rcases s3 with _ | r
  · rfl
  · have h := pK_5 f t r
    show pK 5 f t r = _
    rw [h]
    rcases h2 : st pB (some r) with _ | q
    · rfl
    · rw [hb q h2]
      rfl
theorem kind_e {k f t : Nat} {s3 : Option (List UInt8)} (h1 : k ≠ 1) (h3 : k ≠ 3) (h4 : k ≠ 4) (h5 : k ≠ 5) : kindM k f t s3 = lift ⟨k, f, t, 0, 0, [], [], [], bd0⟩ s3 := by
  rcases s3 with _ | r
  · rfl
  · exact pK_else k f t r h1 h3 h4 h5
theorem kind_3 {k f t : Nat} {s3 : Option (List UInt8)} (hk : k = 3) : kindM k f t s3 = lift3 f t (numV s3) (numV (numS s3)) (if 257 < numV (numS (numS s3)) then none else allL (numS (numS s3))) := by
  subst hk
  rcases s3 with _ | r
  · rfl
  · have h := pK_3 f t r
    simp only [vl_pN, st_pN] at h
    show pK 3 f t r = _
    rw [h]
    rcases (if 257 < numV (numS (numS (some r))) then none else allL (numS (numS (some r)))) with _ | ⟨v, q⟩ <;> rfl
end Wq

/-- The rows of a message in the making. -/
structure MsO (w : World) (base : Nat) (u : MV) (i : List Sn.Sp) (v : List Vc.St) (l : List Nt) (b : List UInt8) (L : List (NV × Nt)) : Prop where
  oi : w.ownsRow base 97 2 (.slice u.iA i.length u.ic) i.length (sv i)
  ov : w.ownsRow base 61 2 (.slice u.vA v.length u.vc) v.length (sv v)
  ol : w.ownsRow base 51 4 (.slice u.lA l.length u.lc) l.length (nvv L)
  nl : nts L = l
  each : ∀ p ∈ L, NtOwn w base p.1 p.2
  ob : w.ownsRow base 5 1 (.slice u.bA b.length u.bc) b.length (bv b)
section
variable {w w' : World} {base : Nat} {u : MV} {i : List Sn.Sp} {v : List Vc.St} {l : List Nt} {b : List UInt8} {L : List (NV × Nt)}
theorem MsO.nil (w : World) (base : Nat) : MsO w base ⟨none, 0, none, 0, none, 0, none, 0⟩ [] [] [] [] [] :=
  ⟨World.ownsRow_nil _ _ _ _, World.ownsRow_nil _ _ _ _, World.ownsRow_nil _ _ _ _, rfl, (fun p hp => by cases hp), World.ownsRow_nil _ _ _ _⟩
theorem MsO.but {g : Nat} (h : MsO w base u i v l b L) (k : But g w w') (hg : g < base) : MsO w' base u i v l b L :=
  ⟨own_but h.oi k hg, own_but h.ov k hg, own_but h.ol k hg, h.nl, fun p hp => (h.each p hp).but k hg, own_but h.ob k hg⟩
theorem MsO.go (h : MsO w base u i v l b L) (hb : Below w.heap.size w w') : MsO w' base u i v l b L :=
  ⟨own_below h.oi hb (Nat.le_refl _), own_below h.ov hb (Nat.le_refl _), own_below h.ol hb (Nat.le_refl _), h.nl, fun p hp => (h.each p hp).below hb, own_below h.ob hb (Nat.le_refl _)⟩
theorem MsO.setX {X : Nat} {cs : Array Value} (h : MsO w base u i v l b L) (hB : Blk w X 74 cs) (j : Nat) (x : Value) : MsO (w.setCell ⟨X, j, none⟩ x) base u i v l b L :=
  have g := grown_set w X j x
  ⟨h.oi.kept g (own_blk h.oi hB (by decide)), h.ov.kept g (own_blk h.ov hB (by decide)), h.ol.kept g (own_blk h.ol hB (by decide)), h.nl, fun p hp => (h.each p hp).blk hB (by decide) (by decide) (by decide) g, h.ob.kept g (own_blk h.ob hB (by decide))⟩
theorem MsO.blk {X : Nat} {cs : Array Value} (h : MsO w base u i v l b L) (hB : Blk w X 74 cs) (g : w.grownBy w' (some X)) : MsO w' base u i v l b L :=
  ⟨h.oi.kept g (own_blk h.oi hB (by decide)), h.ov.kept g (own_blk h.ov hB (by decide)), h.ol.kept g (own_blk h.ol hB (by decide)), h.nl, fun p hp => (h.each p hp).blk hB (by decide) (by decide) (by decide) g, h.ob.kept g (own_blk h.ob hB (by decide))⟩
theorem MsO.rd {k f t n q o a c : Int} (h : MsO w base u i v l b L) : MsRd w w.heap.size u ⟨k, f, t, n, q, i, v, l, ⟨o, (a, c), b⟩⟩ L :=
  ⟨Rd.of_own h.oi, Rd.of_own h.ov, ⟨by rw [← h.nl, nts_len], Rd.of_own h.ol, fun p hp => (h.each p hp).rd⟩, h.nl, Rd.of_own h.ob⟩
theorem nvv_push (M : List (NV × Nt)) (y : NV) (x : Nt) : nvv (M ++ [(y, x)]) = nvv M ++ y.val.toList := by simp [nvv]
theorem ntv_one (y : NV) : ∀ x ∈ y.val.toList, x.oneCell' = true := by
  intro x hx
  simp only [List.mem_cons, List.not_mem_nil, or_false] at hx
  rcases hx with h | h | h | h <;> subst h <;> rfl
theorem newRowN {W : World} {t : TypeId} {cs : Array Value} (size n : Nat) (_ : Below W.heap.size W (W.alloc (.cells cs t))) (hn : cs.size = n * size) (hm : n ≤ maxLen) : Rd (W.alloc (.cells cs t)) (W.alloc (.cells cs t)).heap.size size (some ⟨W.heap.size, 0, none⟩) n n cs.toList := by
  have := Rd.new W t size n cs hn hm
  rw [World.size_alloc]; exact this
theorem grown_ne {X : Nat} {t e : TypeId} {cs : Array Value} {bs size n : Nat} {y : Value} {xs : List Value} (hB : Blk w X t cs) (h : w.ownsRow bs e size y n xs) (he : e ≠ t) : some X ≠ y.ownBlock := by
  rcases own_blk h hB he with h | h
  · rw [h]; simp
  · exact fun e => h e.symm
/-- One note more. -/
theorem MsO.push {X m c' : Nat} {A' : Option Addr} {cs : Array Value} (h : MsO w base ⟨none, 0, none, 0, A', c', none, 0⟩ [] [] l [] L) (hl : l.length = m) (hB : Blk w X 74 cs) {y : NV} {x : Nt} (hn : NtOwn w base y x) {A : Option Addr} {c : Nat}
    (ho : w'.ownsRow base 51 4 (.slice A (m + 1) c) (m + 1) (nvv L ++ y.val.toList)) (hg : w.grownBy w' (Value.slice A' m c').ownBlock) :
    Blk w' X 74 cs ∧ MsO w' base ⟨none, 0, none, 0, A, c, none, 0⟩ [] [] (l ++ [x]) [] (L ++ [(y, x)]) := by
  subst hl
  have hr : ∀ p : NV × Nt, NtOwn w base p.1 p.2 → NtOwn w' base p.1 p.2 := fun p hp => NtOwn.row hp h.ol (by decide) (by decide) (by decide) hg
  refine ⟨hB.grown hg (grown_ne hB h.ol (by decide)), World.ownsRow_nil _ _ _ _, World.ownsRow_nil _ _ _ _, ?_, ?_, fun p hp => ?_, World.ownsRow_nil _ _ _ _⟩
  · rw [nvv_push, List.length_append]
    exact ho
  · rw [← h.nl]; simp [nts]
  · rcases List.mem_append.1 hp with hp | hp
    · exact hr p (h.each p hp)
    · rw [List.mem_singleton] at hp
      subst hp; exact hr (y, x) hn
end
/-- What a call that decodes answers. -/
def DecP (base : Nat) (w : World) (l : List UInt8) (e : Ending) (w' : World) : Prop :=
  ∃ (m : Wq.Ms) (u : MV) (L : List (NV × Nt)) (er : Int), e = .returned (.tuple #[.agg (mval m u), .int .i64 er]) ∧ MsRd w' w'.heap.size u m L ∧ Below base w w' ∧ ((Wq.dec l = some m ∧ er = 0) ∨ (Wq.dec l = none ∧ m = Wq.ms0 ∧ er = 4))
theorem DecP.of {base : Nat} {w w' : World} {l : List UInt8} {e : Ending} (m : Wq.Ms) (u : MV) (L : List (NV × Nt)) (er : Int) (h1 : e = .returned (.tuple #[.agg (mval m u), .int .i64 er])) (h2 : MsRd w' w'.heap.size u m L) (h3 : Below base w w') (h4 : (Wq.dec l = some m ∧ er = 0) ∨ (Wq.dec l = none ∧ m = Wq.ms0 ∧ er = 4)) : DecP base w l e w' := ⟨m, u, L, er, h1, h2, h3, h4⟩
def mv0 : MV := ⟨none, 0, none, 0, none, 0, none, 0⟩
theorem ms0_rd (w : World) : MsRd w w.heap.size mv0 Wq.ms0 [] := (MsO.nil w 0).rd
theorem msg_info : (Tryd.prog.info? 74).map (·.size) = some 12 := by kernel_rfl
end Go.Proofs.YtndlcimckfndiaaDoor
