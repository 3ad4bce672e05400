/- A range over a function whose iterator tells the round what the handed values read as: 'T x W'. No program is named. -/
import Derived.RangeFuncNested
import Derived.RangeFuncBox
import Derived.RangeFuncLeaves
import Derived.Test.YtnibkniggiokkaaDoorWords
namespace Go.Proofs.YtnibkniggiokkaaDoor
open Go.RowKit

/-- The iterator's word: at each call of yield, what is handed reads as T says. -/
def SeqTold {α : Type} (F : Fence) (n : Nat) (P : Program) (g : Nat) (lb : Array Value) (encs : α → Array Value) (T : α → World → Prop) (Kp : World → World → Prop) (S Sp : List α → Prop) (N : Nat) (w : World) : Prop :=
  ∀ (l : Nat) (J Jx : List α → World → Prop) (W : World), Below w.heap.size w W → AbidesFrom W.heap.size J → AbidesFrom W.heap.size Jx →
    (∀ pre x W1, J pre W1 → T x W1 → pre.length < N → YieldAt F (n - 1) P l (encs x) W1 fun e W' =>
      (e = .returned (.bool true) ∧ J (pre ++ [x]) W' ∧ Kp W1 W') ∨ (e = .returned (.bool false) ∧ Jx (pre ++ [x]) W')) →
    J [] W →
    CallsIn F n P g (#[.func (.yield l) #[] #[]] ++ lb) W fun e W' => (∃ v, e = .returned v) ∧ ((∃ xs, S xs ∧ J xs W') ∨ (∃ pre, Sp pre ∧ Jx pre W'))

/-- How a round is left. -/
def RoundLeft {α : Type} (B : Nat) (Kp : World → World → Prop) (I : List α → World → Prop) (Ix : Code → List α → World → Prop) (xs : List α) (W : World) : Exit → Act → World → Prop
  | .normal, _, V => KeepsFrom B W V ∧ Kp W V ∧ I xs V
  | .ret, _, V => KeepsFrom B W V ∧ Ix .ret xs V
  | .exit id, _, V => KeepsFrom B W V ∧ Ix (.exit id) xs V
  | .goto t, _, V => KeepsFrom B W V ∧ Ix (.goto t) xs V
  | .panic _, _, _ => False
  | .outgrown, _, _ => False

variable {F : Fence} {n : Nat} {P : Program}

theorem wpIn_rangeFunc_told {α : Type} {g : Operand} {ps : Array Tmp} {assign body : Code} {Q : Exit → Act → World → Prop} {a : Act} {w : World}
    (hro : F.round = none) (h1 : 1 ≤ n) {gf : Nat} {lb : Array Value} (hg : a.eval g = .func (.func gf) #[] lb) (hFg : F.fn gf) (eg : ∀ args w, (callFunc gf args).run P w = .ok (.enter gf args) w)
    {encs : α → Array Value} {T : α → World → Prop} {Kp : World → World → Prop} {S Sp : List α → Prop} {N : Nat} {w0 : World} (hseq : SeqTold F (n - 1) P gf lb encs T Kp S Sp N w0)
    (hKt : ∀ {A B C : World}, Kp A B → Kp B C → Kp A C) (hKb : ∀ (W : World) (l : Nat) (o o' : Obj), w.heap.size ≤ l → W.heap[l]? = some o → o.isCells = false → o.isWalk = false → Kp W (W.putObj l o')) (hb0 : Below w0.heap.size w0 w) (hps : ∀ x, (encs x).size = ps.size)
    (I : List α → World → Prop) (Ix : Code → List α → World → Prop) (hI : OwnFrom w.heap.size I) (hIx : ∀ c, OwnFrom w.heap.size (Ix c)) (h0 : I [] w)
    (Ax : α → Act → World → Prop) (hAx : ∀ a₁, OwnFrom w.heap.size (fun x V => Ax x a₁ V))
    (hassign : ∀ (l : Nat) (pre : List α) (x : α) (W : World) (K : Act → World → Prop), I pre W → T x W → (∀ a₁ V, KeepsFrom w.heap.size W V → Kp W V → I pre V → Ax x a₁ V → K a₁ V) →
      assign.wpIn (F.inRound l) (n - 1 - 1) P (Exit.then K (fun _ _ _ => False)) { tmps := (ps.zip (encs x)).foldl (fun t (p, v) => t.setIfInBounds p v) a.tmps, defers := [] } W)
    (hbody : ∀ (l : Nat) (pre : List α) (x : α) (a₁ : Act) (W : World), w.heap.size ≤ l → I pre W → Ax x a₁ W → pre.length < N → body.wpIn (F.inRound l) (n - 1 - 1) P (RoundLeft w.heap.size Kp I Ix (pre ++ [x]) W) a₁ W)
    (hdone : ∀ (D : Nat) (xs : List α) (W : World), w.heap.size ≤ D → S xs → I xs W → W.heap[D]? = some (.deferred (some [])) → Q .normal { a with defers := { target := .collected D, args := #[] } :: a.defers } W)
    (hstop : ∀ (D : Nat) (c : Code) (pre : List α) (W : World), w.heap.size ≤ D → Sp pre → Ix c pre W → W.heap[D]? = some (.deferred (some [])) → c.wpIn F n P Q { a with defers := { target := .collected D, args := #[] } :: a.defers } W) :
    (Code.rangeFunc g ps assign body).wpIn F n P Q a w := by
  refine wpIn_rangeFunc fun fn hfn => ?_
  rw [hro]
  -- the loop's record, in each of its states
  let R : LoopState → Option Code → Obj := fun st pe => .loop { state := st, pending := pe, fn, tmps := a.tmps, params := ps, assign, body, defers := w.heap.size }
  have hsz : (w.alloc (.deferred (some []))).heap.size = w.heap.size + 1 := by simp
  obtain ⟨W1, hW1⟩ : ∃ W1, W1 = (w.alloc (.deferred (some []))).alloc (R .ready none) := ⟨_, rfl⟩
  have rec1 : W1.heap[w.heap.size + 1]? = some (R .ready none) := by
    have h := World.alloc_heap_new (w.alloc (.deferred (some []))) (R .ready none)
    rwa [hsz, ← hW1] at h
  have mark1 : W1.heap[w.heap.size]? = some (.deferred (some [])) := by
    rw [hW1]; exact (Below.heap_alloc _ _ _ (by omega)).trans (World.alloc_heap_new w _)
  have i1 : I [] W1 := by rw [hW1]; exact hI.alloc _ (hI.alloc _ h0)
  have below1 : Below w0.heap.size w0 W1 := by
    rw [hW1]; exact hb0.trans ((((Below.refl _ w).alloc (Nat.le_refl _) _).alloc (by simp) _).mono hb0.size)
  have size1 : w.heap.size + 2 ≤ W1.heap.size := by rw [hW1]; simp
  refine ⟨w.heap.size + 1, [{ target := .collected w.heap.size, args := #[] }], W1, { target := .fn (.func gf) lb, args := #[.func (.yield (w.heap.size + 1)) #[] #[]] }, W1, gf, #[.func (.yield (w.heap.size + 1)) #[] #[]] ++ lb, W1,
    by rw [hW1]; exact run_enterLoop_outer _ _ _ _ _, by simp only [resolve, hg]; simp [go_sem], fun f' hf' => by simp [Target.leads] at hf'; subst hf'; exact hFg, by simp [invoke, go_sem, eg], fun _ => h1, ?_⟩
  have stays : ∀ {A B : World} {row : Option Nat} {k : Nat} {o : Obj}, A.grownBy B row → (∀ r, row = some r → W1.heap.size ≤ r ∧ ∃ o : Obj, A.heap[r]? = some o ∧ o.isWalk = true) → k < W1.heap.size → A.heap[k]? = some o → B.heap[k]? = some o :=
    fun {A B row k o} hg' hr hk h => (hg'.block k (Array.getElem?_eq_some_iff.1 h).1 (fun e => by have := (hr k e.symm).1; omega)).trans h
  have asOwn : ∀ {A : World} {row : Option Nat}, (∀ r, row = some r → W1.heap.size ≤ r ∧ ∃ o : Obj, A.heap[r]? = some o ∧ o.isWalk = true) → (∀ r, row = some r → w.heap.size ≤ r ∧ ∃ o : Obj, A.heap[r]? = some o ∧ o.isCells = false) :=
    fun hr r e => by obtain ⟨hle, o, ho, hwk⟩ := hr r e; exact ⟨by omega, o, ho, Obj.not_cells_of_walk hwk⟩
  refine (hseq (w.heap.size + 1) (fun pre W => I pre W ∧ W.heap[w.heap.size + 1]? = some (R .ready none) ∧ W.heap[w.heap.size]? = some (.deferred (some [])))
    (fun pre W => ∃ c, Ix c pre W ∧ W.heap[w.heap.size + 1]? = some (R .done (some c)) ∧ W.heap[w.heap.size]? = some (.deferred (some []))) W1 below1
    (fun s A B row hs hg' hr => ⟨hI s A B row hs.1 hg' (asOwn hr), stays hg' hr (by omega) hs.2.1, stays hg' hr (by omega) hs.2.2⟩)
    (fun s A B row hs hg' hr => by
      obtain ⟨c, hc, hl, hk⟩ := hs
      exact ⟨c, hIx c s A B row hc hg' (asOwn hr), stays hg' hr (by omega) hl, stays hg' hr (by omega) hk⟩) ?_ ⟨i1, rec1, mark1⟩).mono ?_
  · -- one round
    rintro pre x W ⟨hi, hl, hk⟩ hx hlen
    refine ⟨fn, _, assign, body, run_yield (P := P) (args := encs x) hl (hps x), roundIn_of_wpIn hfn ?_⟩
    refine hassign _ pre x W _ hi hx fun a₁ V hkV hpV iV axV => ?_
    · have lV := hkV.same _ _ (by omega) hl rfl
      have kV := hkV.same _ _ (Nat.le_refl _) hk rfl
      have hltV := (Array.getElem?_eq_some_iff.1 lV).1
      refine ⟨_, run_beginRound lV rfl, wpIn_mono (hbody _ pre x a₁ _ (by omega) (hI.putObj _ iV (by omega) lV rfl) ((hAx a₁).putObj _ axV (by omega) lV rfl) hlen) ?_⟩
      have l2 : (V.putObj (w.heap.size + 1) (R .busy none)).heap[w.heap.size + 1]? = some (R .busy none) := World.putObj_heap_same hltV
      have k2 : (V.putObj (w.heap.size + 1) (R .busy none)).heap[w.heap.size]? = some (.deferred (some [])) := (World.putObj_heap_other (by omega)).trans kV
      have kp2 : Kp W (V.putObj (w.heap.size + 1) (R .busy none)) := hKt hpV (hKb _ _ _ _ (by omega) lV rfl rfl)
      have shut : ∀ (jump : Option Code) (Z : World), KeepsFrom w.heap.size (V.putObj (w.heap.size + 1) (R .busy none)) Z →
          (Instr.endRound (w.heap.size + 1) jump).run P Z = .ok (.bool jump.isNone) (Z.putObj (w.heap.size + 1) (R (if jump.isNone then .ready else .done) jump)) ∧ Z.heap[w.heap.size + 1]? = some (R .busy none) ∧
          (Z.putObj (w.heap.size + 1) (R (if jump.isNone then .ready else .done) jump)).heap[w.heap.size + 1]? = some (R (if jump.isNone then .ready else .done) jump) ∧
          (Z.putObj (w.heap.size + 1) (R (if jump.isNone then .ready else .done) jump)).heap[w.heap.size]? = some (.deferred (some [])) := fun jump Z hz => by
        have lz := hz.same _ _ (by omega) l2 rfl
        exact ⟨run_endRound (P := P) jump lz, lz, World.putObj_heap_same (Array.getElem?_eq_some_iff.1 lz).1, (World.putObj_heap_other (by omega)).trans (hz.same _ _ (Nat.le_refl _) k2 rfl)⟩
      rintro e2 a2 Z hq
      cases e2 with
      | normal =>
        obtain ⟨hz, kpz, iz⟩ := hq
        obtain ⟨hrun, lz, l4, k4⟩ := shut none Z hz
        exact ⟨_, _, hrun, .inl ⟨rfl, ⟨hI.putObj _ iz (by omega) lz rfl, l4, k4⟩, hKt (hKt kp2 kpz) (hKb _ _ _ _ (by omega) lz rfl rfl)⟩⟩
      | ret =>
        obtain ⟨hz, iz⟩ := hq
        obtain ⟨hrun, lz, l4, k4⟩ := shut (some .ret) Z hz
        exact ⟨_, _, hrun, .inr ⟨rfl, .ret, (hIx _).putObj _ iz (by omega) lz rfl, l4, k4⟩⟩
      | exit id =>
        obtain ⟨hz, iz⟩ := hq
        obtain ⟨hrun, lz, l4, k4⟩ := shut (some (.exit id)) Z hz
        exact ⟨_, _, hrun, .inr ⟨rfl, .exit id, (hIx _).putObj _ iz (by omega) lz rfl, l4, k4⟩⟩
      | goto t =>
        obtain ⟨hz, iz⟩ := hq
        obtain ⟨hrun, lz, l4, k4⟩ := shut (some (.goto t)) Z hz
        exact ⟨_, _, hrun, .inr ⟨rfl, .goto t, (hIx _).putObj _ iz (by omega) lz rfl, l4, k4⟩⟩
      | panic ch => exact hq.elim
      | outgrown => exact hq.elim
  · -- behind the iterator
    rintro e W2 ⟨⟨v, rfl⟩, (⟨xs, hS, hi, hl, hk⟩ | ⟨pre, hSp, c, hi, hl, hk⟩)⟩
    · exact ⟨none, _, run_endLoop (P := P) hl (by simp), hdone _ xs _ (Nat.le_refl _) hS (hI.putObj _ hi (by omega) hl rfl) ((World.putObj_heap_other (by omega)).trans hk)⟩
    · exact ⟨some c, _, run_endLoop (P := P) hl (by simp), hstop _ c pre _ (Nat.le_refl _) hSp ((hIx c).putObj _ hi (by omega) hl rfl) ((World.putObj_heap_other (by omega)).trans hk)⟩
end Go.Proofs.YtnibkniggiokkaaDoor
