/- Texts of one layer in one file: Told, But, Mid, Olds, Rnd. -/
import Derived.RangeFuncNested
import Derived.RangeFuncBox
import Derived.RangeFuncLeaves
import Derived.Test.YtepdcbhapjgijaaDoorWords
import Derived.Test.YtepdcbhapjgijaaDoorMVec
import Derived.OrdersHeld
import Derived.OrdersIn
import Derived.Deep.RegionHeld
import Derived.RangeFuncCalls
namespace Go.Proofs.YtepdcbhapjgijaaDoor
open Go.RowKit

/-- The iterator's word: at each call of yield, what is handed reads as T says. -/
def SeqTold {α : Type} (F : Fence) (n : Nat) (P : Program) (g : Nat) (lb : Array Value) (encs : α → Array Value) (T : α → World → Prop) (Kp : World → World → Prop) (S Sp : List α → Prop) (N : Nat) (w : World) : Prop :=
  ∀ (l : Nat) (J Jx : List α → World → Prop) (W : World), Below w.heap.size w W → AbidesFrom W.heap.size J → AbidesFrom W.heap.size Jx →
    (∀ pre x W1, J pre W1 → T x W1 → pre.length < N → YieldAt F (n - 1) P l (encs x) W1 fun e W' =>
      (e = .returned (.bool true) ∧ J (pre ++ [x]) W' ∧ Kp W1 W') ∨ (e = .returned (.bool false) ∧ Jx (pre ++ [x]) W')) →
    J [] W →
    CallsIn F n P g (#[.func (.yield l) #[] #[]] ++ lb) W fun e W' => (∃ v, e = .returned v) ∧ ((∃ xs, S xs ∧ J xs W') ∨ (∃ pre, Sp pre ∧ Jx pre W'))

/-- How a round is left. -/
def RoundLeft {α : Type} (B : Nat) (Kp : World → World → Prop) (I : List α → World → Prop) (Ix : Code → List α → World → Prop) (xs : List α) (W : World) : Exit → Act → World → Prop
  | .normal, _, V => KeepsFrom B W V ∧ Kp W V ∧ I xs V
  | .ret, _, V => KeepsFrom B W V ∧ Ix .ret xs V
  | .exit id, _, V => KeepsFrom B W V ∧ Ix (.exit id) xs V
  | .goto t, _, V => KeepsFrom B W V ∧ Ix (.goto t) xs V
  | .panic _, _, _ => False
  | .outgrown, _, _ => False

variable {F : Fence} {n : Nat} {P : Program}

theorem wpIn_rangeFunc_told {α : Type} {g : Operand} {ps : Array Tmp} {assign body : Code} {Q : Exit → Act → World → Prop} {a : Act} {w : World}
    (hro : F.round = none) (h1 : 1 ≤ n) {gf : Nat} {lb : Array Value} (hg : a.eval g = .func (.func gf) #[] lb) (hFg : F.fn gf) (eg : ∀ args w, (callFunc gf args).run P w = .ok (.enter gf args) w)
    {encs : α → Array Value} {T : α → World → Prop} {Kp : World → World → Prop} {S Sp : List α → Prop} {N : Nat} {w0 : World} (hseq : SeqTold F (n - 1) P gf lb encs T Kp S Sp N w0)
    (hKt : ∀ {A B C : World}, Kp A B → Kp B C → Kp A C) (hKb : ∀ (W : World) (l : Nat) (o o' : Obj), w.heap.size ≤ l → W.heap[l]? = some o → o.isCells = false → o.isWalk = false → Kp W (W.putObj l o')) (hb0 : Below w0.heap.size w0 w) (hps : ∀ x, (encs x).size = ps.size)
    (I : List α → World → Prop) (Ix : Code → List α → World → Prop) (hI : OwnFrom w.heap.size I) (hIx : ∀ c, OwnFrom w.heap.size (Ix c)) (h0 : I [] w)
    (Ax : α → Act → World → Prop) (hAx : ∀ a₁, OwnFrom w.heap.size (fun x V => Ax x a₁ V))
    (hassign : ∀ (l : Nat) (pre : List α) (x : α) (W : World) (K : Act → World → Prop), I pre W → T x W → (∀ a₁ V, KeepsFrom w.heap.size W V → Kp W V → I pre V → Ax x a₁ V → K a₁ V) →
      assign.wpIn (F.inRound l) (n - 1 - 1) P (Exit.then K (fun _ _ _ => False)) { tmps := (ps.zip (encs x)).foldl (fun t (p, v) => t.setIfInBounds p v) a.tmps, defers := [] } W)
    (hbody : ∀ (l : Nat) (pre : List α) (x : α) (a₁ : Act) (W : World), w.heap.size ≤ l → I pre W → Ax x a₁ W → pre.length < N → body.wpIn (F.inRound l) (n - 1 - 1) P (RoundLeft w.heap.size Kp I Ix (pre ++ [x]) W) a₁ W)
    (hdone : ∀ (D : Nat) (xs : List α) (W : World), w.heap.size ≤ D → S xs → I xs W → W.heap[D]? = some (.deferred (some [])) → Q .normal { a with defers := { target := .collected D, args := #[] } :: a.defers } W)
    (hstop : ∀ (D : Nat) (c : Code) (pre : List α) (W : World), w.heap.size ≤ D → Sp pre → Ix c pre W → W.heap[D]? = some (.deferred (some [])) → c.wpIn F n P Q { a with defers := { target := .collected D, args := #[] } :: a.defers } W) :
    (Code.rangeFunc g ps assign body).wpIn F n P Q a w := by
  refine wpIn_rangeFunc fun fn hfn => ?_
  rw [hro]
  -- the loop's record, in each of its states
  let R : LoopState → Option Code → Obj := fun st pe => .loop { state := st, pending := pe, fn, tmps := a.tmps, params := ps, assign, body, defers := w.heap.size }
  have hsz : (w.alloc (.deferred (some []))).heap.size = w.heap.size + 1 := by simp
  obtain ⟨W1, hW1⟩ : ∃ W1, W1 = (w.alloc (.deferred (some []))).alloc (R .ready none) := ⟨_, rfl⟩
  have rec1 : W1.heap[w.heap.size + 1]? = some (R .ready none) := by
    have h := World.alloc_heap_new (w.alloc (.deferred (some []))) (R .ready none)
    rwa [hsz, ← hW1] at h
  have mark1 : W1.heap[w.heap.size]? = some (.deferred (some [])) := by
    rw [hW1]; exact (Below.heap_alloc _ _ _ (by omega)).trans (World.alloc_heap_new w _)
  have i1 : I [] W1 := by rw [hW1]; exact hI.alloc _ (hI.alloc _ h0)
  have below1 : Below w0.heap.size w0 W1 := by
    rw [hW1]; exact hb0.trans ((((Below.refl _ w).alloc (Nat.le_refl _) _).alloc (by simp) _).mono hb0.size)
  have size1 : w.heap.size + 2 ≤ W1.heap.size := by rw [hW1]; simp
  refine ⟨w.heap.size + 1, [{ target := .collected w.heap.size, args := #[] }], W1, { target := .fn (.func gf) lb, args := #[.func (.yield (w.heap.size + 1)) #[] #[]] }, W1, gf, #[.func (.yield (w.heap.size + 1)) #[] #[]] ++ lb, W1,
    by rw [hW1]; exact run_enterLoop_outer _ _ _ _ _, by simp only [resolve, hg]; simp [go_sem], fun f' hf' => by simp [Target.leads] at hf'; subst hf'; exact hFg, by simp [invoke, go_sem, eg], fun _ => h1, ?_⟩
  have stays : ∀ {A B : World} {row : Option Nat} {k : Nat} {o : Obj}, A.grownBy B row → (∀ r, row = some r → W1.heap.size ≤ r ∧ ∃ o : Obj, A.heap[r]? = some o ∧ o.isWalk = true) → k < W1.heap.size → A.heap[k]? = some o → B.heap[k]? = some o :=
    fun {A B row k o} hg' hr hk h => (hg'.block k (Array.getElem?_eq_some_iff.1 h).1 (fun e => by have := (hr k e.symm).1; omega)).trans h
  have asOwn : ∀ {A : World} {row : Option Nat}, (∀ r, row = some r → W1.heap.size ≤ r ∧ ∃ o : Obj, A.heap[r]? = some o ∧ o.isWalk = true) → (∀ r, row = some r → w.heap.size ≤ r ∧ ∃ o : Obj, A.heap[r]? = some o ∧ o.isCells = false) :=
    fun hr r e => by obtain ⟨hle, o, ho, hwk⟩ := hr r e; exact ⟨by omega, o, ho, Obj.not_cells_of_walk hwk⟩
  refine (hseq (w.heap.size + 1) (fun pre W => I pre W ∧ W.heap[w.heap.size + 1]? = some (R .ready none) ∧ W.heap[w.heap.size]? = some (.deferred (some [])))
    (fun pre W => ∃ c, Ix c pre W ∧ W.heap[w.heap.size + 1]? = some (R .done (some c)) ∧ W.heap[w.heap.size]? = some (.deferred (some []))) W1 below1
    (fun s A B row hs hg' hr => ⟨hI s A B row hs.1 hg' (asOwn hr), stays hg' hr (by omega) hs.2.1, stays hg' hr (by omega) hs.2.2⟩)
    (fun s A B row hs hg' hr => by
      obtain ⟨c, hc, hl, hk⟩ := hs
      exact ⟨c, hIx c s A B row hc hg' (asOwn hr), stays hg' hr (by omega) hl, stays hg' hr (by omega) hk⟩) ?_ ⟨i1, rec1, mark1⟩).mono ?_
  · -- one round
    rintro pre x W ⟨hi, hl, hk⟩ hx hlen
    refine ⟨fn, _, assign, body, run_yield (P := P) (args := encs x) hl (hps x), roundIn_of_wpIn hfn ?_⟩
    refine hassign _ pre x W _ hi hx fun a₁ V hkV hpV iV axV => ?_
    · have lV := hkV.same _ _ (by omega) hl rfl
      have kV := hkV.same _ _ (Nat.le_refl _) hk rfl
      have hltV := (Array.getElem?_eq_some_iff.1 lV).1
      refine ⟨_, run_beginRound lV rfl, wpIn_mono (hbody _ pre x a₁ _ (by omega) (hI.putObj _ iV (by omega) lV rfl) ((hAx a₁).putObj _ axV (by omega) lV rfl) hlen) ?_⟩
      have l2 : (V.putObj (w.heap.size + 1) (R .busy none)).heap[w.heap.size + 1]? = some (R .busy none) := World.putObj_heap_same hltV
      have k2 : (V.putObj (w.heap.size + 1) (R .busy none)).heap[w.heap.size]? = some (.deferred (some [])) := (World.putObj_heap_other (by omega)).trans kV
      have kp2 : Kp W (V.putObj (w.heap.size + 1) (R .busy none)) := hKt hpV (hKb _ _ _ _ (by omega) lV rfl rfl)
      have shut : ∀ (jump : Option Code) (Z : World), KeepsFrom w.heap.size (V.putObj (w.heap.size + 1) (R .busy none)) Z →
          (Instr.endRound (w.heap.size + 1) jump).run P Z = .ok (.bool jump.isNone) (Z.putObj (w.heap.size + 1) (R (if jump.isNone then .ready else .done) jump)) ∧ Z.heap[w.heap.size + 1]? = some (R .busy none) ∧
          (Z.putObj (w.heap.size + 1) (R (if jump.isNone then .ready else .done) jump)).heap[w.heap.size + 1]? = some (R (if jump.isNone then .ready else .done) jump) ∧
          (Z.putObj (w.heap.size + 1) (R (if jump.isNone then .ready else .done) jump)).heap[w.heap.size]? = some (.deferred (some [])) := fun jump Z hz => by
        have lz := hz.same _ _ (by omega) l2 rfl
        exact ⟨run_endRound (P := P) jump lz, lz, World.putObj_heap_same (Array.getElem?_eq_some_iff.1 lz).1, (World.putObj_heap_other (by omega)).trans (hz.same _ _ (Nat.le_refl _) k2 rfl)⟩
      rintro e2 a2 Z hq
      cases e2 with
      | normal =>
        obtain ⟨hz, kpz, iz⟩ := hq
        obtain ⟨hrun, lz, l4, k4⟩ := shut none Z hz
        exact ⟨_, _, hrun, .inl ⟨rfl, ⟨hI.putObj _ iz (by omega) lz rfl, l4, k4⟩, hKt (hKt kp2 kpz) (hKb _ _ _ _ (by omega) lz rfl rfl)⟩⟩
      | ret =>
        obtain ⟨hz, iz⟩ := hq
        obtain ⟨hrun, lz, l4, k4⟩ := shut (some .ret) Z hz
        exact ⟨_, _, hrun, .inr ⟨rfl, .ret, (hIx _).putObj _ iz (by omega) lz rfl, l4, k4⟩⟩
      | exit id =>
        obtain ⟨hz, iz⟩ := hq
        obtain ⟨hrun, lz, l4, k4⟩ := shut (some (.exit id)) Z hz
        exact ⟨_, _, hrun, .inr ⟨rfl, .exit id, (hIx _).putObj _ iz (by omega) lz rfl, l4, k4⟩⟩
      | goto t =>
        obtain ⟨hz, iz⟩ := hq
        obtain ⟨hrun, lz, l4, k4⟩ := shut (some (.goto t)) Z hz
        exact ⟨_, _, hrun, .inr ⟨rfl, .goto t, (hIx _).putObj _ iz (by omega) lz rfl, l4, k4⟩⟩
      | panic ch => exact hq.elim
      | outgrown => exact hq.elim
  · -- behind the iterator
    rintro e W2 ⟨⟨v, rfl⟩, (⟨xs, hS, hi, hl, hk⟩ | ⟨pre, hSp, c, hi, hl, hk⟩)⟩
    · exact ⟨none, _, run_endLoop (P := P) hl (by simp), hdone _ xs _ (Nat.le_refl _) hS (hI.putObj _ hi (by omega) hl rfl) ((World.putObj_heap_other (by omega)).trans hk)⟩
    · exact ⟨some c, _, run_endLoop (P := P) hl (by simp), hstop _ c pre _ (Nat.le_refl _) hSp ((hIx c).putObj _ hi (by omega) hl rfl) ((World.putObj_heap_other (by omega)).trans hk)⟩
end Go.Proofs.YtepdcbhapjgijaaDoor

namespace Go.Proofs.YtepdcbhapjgijaaDoor
open Go.RowKit

/-- All blocks but g stand; new ones may have come. -/
structure But (g : Nat) (w w' : World) : Prop where
  os : w'.os = w.os
  tape : w'.tape = w.tape
  output : w'.output = w.output
  size : w.heap.size ≤ w'.heap.size
  block : ∀ k, k < w.heap.size → k ≠ g → w'.heap[k]? = w.heap[k]?
theorem But.refl (g : Nat) (w : World) : But g w w := ⟨rfl, rfl, rfl, Nat.le_refl _, fun _ _ _ => rfl⟩
theorem But.trans {g : Nat} {a b c : World} (h : But g a b) (k : But g b c) : But g a c :=
  ⟨k.os.trans h.os, k.tape.trans h.tape, k.output.trans h.output, Nat.le_trans h.size k.size, fun i hi hn => (k.block i (Nat.lt_of_lt_of_le hi h.size) hn).trans (h.block i hi hn)⟩
theorem But.of {g : Nat} {w w' : World} (h : Below w.heap.size w w') : But g w w' := ⟨h.os, h.tape, h.output, h.size, fun k hk _ => h.block k hk⟩
theorem But.set_ {g : Nat} (w : World) {p : Addr} (hp : p.block = g) (u : Value) : But g w (w.setCell p u) :=
  ⟨rfl, rfl, rfl, by simp, fun k _ hn => Below.heap_setCell w p u k (by rw [hp]; exact hn)⟩
theorem But.drew {g : Nat} (w : World) : But g w w.drew := ⟨rfl, rfl, rfl, Nat.le_refl _, fun _ _ _ => rfl⟩
theorem But.drewN {g : Nat} (w : World) (n : Nat) : But g w (w.drewN n) := ⟨rfl, rfl, rfl, Nat.le_refl _, fun _ _ _ => rfl⟩
theorem below_but {g B : Nat} {a w w' : World} (h : Below B a w) (k : But g w w') (hB : B ≤ w.heap.size) (hg : B ≤ g) : Below B a w' :=
  ⟨k.os.trans h.os, k.tape.trans h.tape, k.output.trans h.output, Nat.le_trans h.size k.size, fun i hi => (k.block i (by omega) (by omega)).trans (h.block i hi)⟩
theorem But.below {g : Nat} {a b c : World} (h : But g a b) (k : Below a.heap.size b c) : But g a c :=
  ⟨k.os.trans h.os, k.tape.trans h.tape, k.output.trans h.output, Nat.le_trans h.size k.size, fun i hi hn => (k.block i hi).trans (h.block i hi hn)⟩
theorem Rd.but {g B size n c : Nat} {A : Option Addr} {xs : List Value} {w w' : World} (h : Rd w B size A n c xs) (k : But g w w') (hB : B ≤ w.heap.size) (hg : B ≤ g) : Rd w' B size A n c xs :=
  h.keep fun p hp => World.cell?_of_block (k.block p.block (by omega) (by omega))
theorem Blk.but {g q : Nat} {t : TypeId} {cs : Array Value} {w w' : World} (h : Blk w q t cs) (k : But g w w') (hq : q ≠ g) : Blk w' q t cs := (k.block q h.lt hq).trans h
theorem own_but {g base size n : Nat} {e : TypeId} {v : Value} {xs : List Value} {w w' : World} (h : w.ownsRow base e size v n xs) (k : But g w w') (hg : g < base) : w'.ownsRow base e size v n xs := by
  refine ⟨h.1, ?_⟩
  rcases h.2 with h2 | ⟨r, cap, cur, rfl, hbg, hh, rest⟩
  · exact .inl h2
  · exact .inr ⟨r, cap, cur, rfl, hbg, by rw [k.block r (Array.getElem?_eq_some_iff.1 hh).1 (by omega)]; exact hh, rest⟩
theorem own_butN {g base size n : Nat} {e : TypeId} {v : Value} {xs : List Value} {w w' : World} (h : w.ownsRow base e size v n xs) (k : But g w w') (hg : v.ownBlock ≠ some g) : w'.ownsRow base e size v n xs := by
  refine ⟨h.1, ?_⟩
  rcases h.2 with h2 | ⟨r, cap, cur, rfl, hbg, hh, rest⟩
  · exact .inl h2
  · exact .inr ⟨r, cap, cur, rfl, hbg, by rw [k.block r (Array.getElem?_eq_some_iff.1 hh).1 (fun e => hg (by subst e; rfl))]; exact hh, rest⟩
theorem own_far {g base size n : Nat} {e : TypeId} {v : Value} {xs : List Value} {w w' : World} (h : w.ownsRow base e size v n xs) (hg : w.grownBy w' (some g)) (hlt : g < base) : w'.ownsRow base e size v n xs := by
  refine h.kept hg ?_
  rcases hv : v.ownBlock with _ | k
  · exact .inl rfl
  · refine .inr fun e => ?_
    have h1 := (h.lt k hv).1
    injection e with e
    omega
/-- A result that lies in a cell, and one in a slot. -/
theorem res_ct {P : Program} {fn : Func} {p q : Tmp} {ty : TypeId} (h : fn.results = #[.cell p ty, .tmp q]) (tmps : Array Value) (w : World) (g : Nat) (t : TypeId) (cs : Array Value) (fr : Nat × Nat) (d : TypeDesc)
    (hp : tmps.getD p undef = .pointer (some ⟨g, 0, none⟩)) (hg : w.heap[g]? = some (.cells cs t fr))
    (hu : P.underlying ty = some d) (hd : (match d with | .struct _ | .array _ _ => true | _ => false) = true) (hi : (P.info? ty).map (·.size) = some cs.size) :
    (results fn tmps).run P w = .ok (.tuple #[.agg cs, tmps.getD q undef]) w := by
  have hp' : tmps[p]?.getD undef = .pointer (some ⟨g, 0, none⟩) := by simpa using hp
  simp [results, h, hp', asAddr, run_loadVar_row w g t ty cs fr d hg hu hd hi]
/-- A literal of the call's own. -/
theorem own_lit (w : World) (e : TypeId) (size n : Nat) (cs : Array Value) (hs : cs.size = n * size) (hm : n ≤ maxLen) : (w.alloc (.cells cs e)).ownsRow w.heap.size e size (.slice (some ⟨w.heap.size, 0, none⟩) n n) n cs.toList :=
  ⟨by simpa using hs, .inr ⟨w.heap.size, n, cs, rfl, Nat.le_refl _, heap_alloc_new w _, Nat.le_refl _, hm, hs, by rw [List.take_of_length_le]; simp [hs]⟩⟩
end Go.Proofs.YtepdcbhapjgijaaDoor

namespace Go.Proofs.YtepdcbhapjgijaaDoor
open Go.RowKit

/-- The cells that lay from block lo on and below hi in W0 lie so in W. -/
def Mid (lo hi : Nat) (W0 W : World) : Prop := ∀ k o, lo ≤ k → k < hi → W0.heap[k]? = some o → o.isCells = true → W.heap[k]? = some o
theorem Mid.refl (lo hi : Nat) (W : World) : Mid lo hi W W := fun _ _ _ _ h _ => h
theorem Mid.own {β : Type} (lo hi B : Nat) (W0 : World) : OwnFrom B (fun (_ : β) W => Mid lo hi W0 W) := fun _ W W' row hs hg hr k o h1 h2 h3 h4 => by
  have h5 := hs k o h1 h2 h3 h4
  rw [hg.block k (Array.getElem?_eq_some_iff.1 h5).1 (fun e => by
    obtain ⟨_, o', ho', hc⟩ := hr k e.symm
    rw [h5] at ho'
    injection ho' with ho'
    rw [ho'] at h4
    rw [hc] at h4; cases h4)]
  exact h5
theorem Mid.setCell {lo hi : Nat} {W0 W : World} (h : Mid lo hi W0 W) {p : Addr} (hp : p.block < lo ∨ hi ≤ p.block) (u : Value) : Mid lo hi W0 (W.setCell p u) := fun k o h1 h2 h3 h4 => by
  rw [Below.heap_setCell W p u k (by rcases hp with hp | hp <;> omega)]
  exact h k o h1 h2 h3 h4
theorem Mid.below {lo hi B : Nat} {W0 W V : World} (h : Mid lo hi W0 W) (hb : Below B W V) (hB : hi ≤ B) : Mid lo hi W0 V := fun k o h1 h2 h3 h4 => by
  rw [hb.block k (by omega)]; exact h k o h1 h2 h3 h4
theorem own_mid {lo hi base size n : Nat} {e : TypeId} {v : Value} {xs : List Value} {W0 W : World} (h : W0.ownsRow base e size v n xs) (k : Mid lo hi W0 W) (h1 : lo ≤ base) (h2 : W0.heap.size ≤ hi) : W.ownsRow base e size v n xs := by
  refine ⟨h.1, ?_⟩
  rcases h.2 with h3 | ⟨g, cap, cur, rfl, hbg, hh, rest⟩
  · exact .inl h3
  · exact .inr ⟨g, cap, cur, rfl, hbg, k g _ (by omega) (by have := (Array.getElem?_eq_some_iff.1 hh).1; omega) hh rfl, rest⟩
theorem rd_kept {W W' : World} {row : Option Nat} {B size n c : Nat} {A : Option Addr} {xs : List Value} (h : Rd W B size A n c xs) (hg : W.grownBy W' row) (hr : ∀ r, row = some r → ∃ o : Obj, W.heap[r]? = some o ∧ o.isCells = false) : Rd W' B size A n c xs :=
  ⟨h.len, h.cap, h.max, h.nil, fun hn => by
    obtain ⟨ad, e, hb, hc⟩ := h.at0 hn
    exact ⟨ad, e, hb, fun j u hu => cell_kept (hc j u hu) hg hr⟩⟩
end Go.Proofs.YtepdcbhapjgijaaDoor

namespace Go.Proofs.YtepdcbhapjgijaaDoor
open Go.RowKit

/-- What the cells of w0 hold, they hold in W. -/
structure Olds (w0 W : World) : Prop where
  size : w0.heap.size ≤ W.heap.size
  cell : ∀ p u, w0.cell? p = some u → W.cell? p = some u
theorem Olds.refl (w : World) : Olds w w := ⟨Nat.le_refl _, fun _ _ h => h⟩
theorem Olds.below {w0 W V : World} (h : Olds w0 W) (hb : Below W.heap.size W V) : Olds w0 V :=
  ⟨Nat.le_trans h.size hb.size, fun p u hp => (hb.cell (p := p) (Nat.lt_of_lt_of_le (World.block_lt_of_cell? _ _ hp) h.size)).trans (h.cell p u hp)⟩
theorem Olds.setCell {w0 W : World} (h : Olds w0 W) {p : Addr} (hp : w0.heap.size ≤ p.block) (u : Value) : Olds w0 (W.setCell p u) :=
  ⟨by simpa using h.size, fun q v hq => (World.cell?_setCell_other W p q u (fun e => by have := World.block_lt_of_cell? _ _ hq; subst e; omega)).trans (h.cell q v hq)⟩
theorem Olds.grown {w0 W V : World} {row : Option Nat} (h : Olds w0 W) (hg : W.grownBy V row) (hr : ∀ r, row = some r → ∃ o : Obj, W.heap[r]? = some o ∧ o.isCells = false) : Olds w0 V :=
  ⟨Nat.le_trans h.size hg.size, fun p u hp => cell_kept (h.cell p u hp) hg hr⟩
theorem Olds.own {w0 W V : World} {row : Option Nat} (h : Olds w0 W) (hg : W.grownBy V row) (hr : ∀ r, row = some r → w0.heap.size ≤ r) : Olds w0 V :=
  ⟨Nat.le_trans h.size hg.size, fun p u hp => hg.cell (h.cell p u hp) (fun e => by have := World.block_lt_of_cell? _ _ hp; have := hr _ e.symm; omega)⟩
theorem Olds.of_below {w0 W : World} (h : Below w0.heap.size w0 W) : Olds w0 W := (Olds.refl w0).below h
theorem Olds.trans {a b c : World} (h : Olds a b) (k : Olds b c) : Olds a c := ⟨Nat.le_trans h.size k.size, fun p u hp => k.cell p u (h.cell p u hp)⟩
theorem Olds.drew {w0 W : World} (h : Olds w0 W) : Olds w0 W.drew := ⟨h.size, h.cell⟩
theorem Rd.olds {w W : World} {B size n c : Nat} {A : Option Addr} {xs : List Value} (h : Rd w B size A n c xs) (ho : Olds w W) : Rd W B size A n c xs :=
  ⟨h.len, h.cap, h.max, h.nil, fun hn => by
    obtain ⟨ad, e, hb, hc⟩ := h.at0 hn
    exact ⟨ad, e, hb, fun j u hu => ho.cell _ _ (hc j u hu)⟩⟩
end Go.Proofs.YtepdcbhapjgijaaDoor

namespace Go.Proofs.YtepdcbhapjgijaaDoor
open Go.RowKit

theorem rowsIn_wide {n : Nat} {P : Program} {row : String} {args : Array Value} {w : World} {R : Value → World → Prop} (h : Rows P row args w R) : RowsIn Fence.wide n P row args w R := by
  intro c cs hr
  obtain ⟨v, w', h1, h2⟩ := h c cs
  exact ⟨v, w', h1, stepsIn_wide.2 h2⟩
theorem nrm_lets {K : Act → World → Prop} (h : LetsOut (Nrm K)) : False := by
  obtain ⟨a, w, h⟩ := h
  exact h
theorem oper_round {n l : Nat} {P : Program} {o : Oper} {a : Act} {w : World} {K N : Act → World → Prop} (hd : ∀ c, o.op ≠ .defer c) (h : o.wp P a w N (Nrm K)) : o.wpIn (Fence.wide.inRound l) n P a w N (Nrm K) := by
  refine ⟨fun f _ => trivial, ?_⟩
  rw [Oper.semAt_eq _ _ _ hd]
  unfold Oper.wp at h
  generalize (execOp a.eval o).run P w = r at *
  cases r with
  | ok x w' =>
    cases x with
    | enter f args => exact ⟨fun hh => by simp [Fence.wide, Fence.inRound] at hh, CallsIn.inRound l (callsIn_wide.2 h)⟩
    | row row args => exact ⟨fun hh => by simp [Fence.wide, Fence.inRound] at hh, rowsIn_wide h⟩
    | _ => first | exact h | exact False.elim h
  | halt x w' => cases x <;> first | exact h | exact False.elim h
theorem any_round {n l : Nat} {P : Program} {ops : Array Oper} {K : Act → World → Prop} {md : Region.Mode} (hd : ops.all (fun o => match o.op with | .defer _ => false | _ => true) = true) :
    ∀ (fuel : Nat) (listed : Array Bool) (a : Act) (w : World), wpAny P md ops (Nrm K) fuel listed a w → wpAnyIn (Fence.wide.inRound l) n P md ops (Nrm K) fuel listed a w
  | 0, _, _, _, h => h
  | fuel + 1, listed, a, w, h => by
    refine ⟨h.1, fun i hi => ?_⟩
    have h2 := wpOp_mono (fun a w => any_round (n := n) (l := l) hd fuel (listed.setIfInBounds i true) a w) (h.2 i hi)
    unfold wpOp at h2
    unfold wpOpIn
    split
    · rename_i e
      rw [e] at h2
      exact h2
    · rename_i o e
      rw [e] at h2
      simp only at h2 ⊢
      have hdo : ∀ c, o.op ≠ .defer c := fun c hc => by
        have := Array.all_eq_true'.1 hd o (Array.mem_of_getElem? e)
        rw [hc] at this
        cases this
      split
      · rename_i hw
        rw [if_pos hw] at h2
        rcases h2 with h2 | ⟨_, h2⟩
        · exact oper_round hdo h2
        · exact (nrm_lets h2).elim
      · rename_i hw
        rw [if_neg hw] at h2
        exact ⟨fun f _ => trivial, h2⟩

/-- The head of such a walk. -/
theorem region_round {n l : Nat} {P : Program} {id : Nat} {ops : Array Oper} {Q : Exit → Act → World → Prop} {a : Act} {w : World} {S : World → Prop} (hm : P.follows .mixedOrders = true) (hd : ops.all (fun o => match o.op with | .defer _ => false | _ => true) = true)
    (hS : S w.drew) (h : ∀ K : Act → World → Prop, (∀ a w, Q .normal a w → K a w) → S w.drew → wpAnyH P .any ops (Nrm K) S ops.size (Array.replicate ops.size false) a w.drew) : (Code.region id ops true).wpIn (Fence.wide.inRound l) n P Q a w := by
  refine wpIn_mono (Q := Nrm fun a w => Q .normal a w) (wpIn_region_any hm (any_round hd _ _ _ _ (wpAny_of_held _ _ _ _ (h (fun a w => Q .normal a w) (fun _ _ hh => hh) hS)))) fun e a w hh => ?_
  cases e with
  | normal => exact hh
  | _ => exact False.elim hh
end Go.Proofs.YtepdcbhapjgijaaDoor

