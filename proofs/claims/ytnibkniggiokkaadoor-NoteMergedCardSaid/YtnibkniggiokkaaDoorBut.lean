/- Words for memory in which one block alone is written. No program is named. -/
import Derived.Test.YtnibkniggiokkaaDoorMVec
namespace Go.Proofs.YtnibkniggiokkaaDoor
open Go.RowKit

/-- All blocks but g stand; new ones may have come. -/
structure But (g : Nat) (w w' : World) : Prop where
  os : w'.os = w.os
  tape : w'.tape = w.tape
  output : w'.output = w.output
  size : w.heap.size ≤ w'.heap.size
  block : ∀ k, k < w.heap.size → k ≠ g → w'.heap[k]? = w.heap[k]?
theorem But.refl (g : Nat) (w : World) : But g w w := ⟨rfl, rfl, rfl, Nat.le_refl _, fun _ _ _ => rfl⟩
theorem But.trans {g : Nat} {a b c : World} (h : But g a b) (k : But g b c) : But g a c :=
  ⟨k.os.trans h.os, k.tape.trans h.tape, k.output.trans h.output, Nat.le_trans h.size k.size, fun i hi hn => (k.block i (Nat.lt_of_lt_of_le hi h.size) hn).trans (h.block i hi hn)⟩
theorem But.of {g : Nat} {w w' : World} (h : Below w.heap.size w w') : But g w w' := ⟨h.os, h.tape, h.output, h.size, fun k hk _ => h.block k hk⟩
theorem But.set_ {g : Nat} (w : World) {p : Addr} (hp : p.block = g) (u : Value) : But g w (w.setCell p u) :=
  ⟨rfl, rfl, rfl, by simp, fun k _ hn => Below.heap_setCell w p u k (by rw [hp]; exact hn)⟩
theorem But.drew {g : Nat} (w : World) : But g w w.drew := ⟨rfl, rfl, rfl, Nat.le_refl _, fun _ _ _ => rfl⟩
theorem But.drewN {g : Nat} (w : World) (n : Nat) : But g w (w.drewN n) := ⟨rfl, rfl, rfl, Nat.le_refl _, fun _ _ _ => rfl⟩
theorem below_but {g B : Nat} {a w w' : World} (h : Below B a w) (k : But g w w') (hB : B ≤ w.heap.size) (hg : B ≤ g) : Below B a w' :=
  ⟨k.os.trans h.os, k.tape.trans h.tape, k.output.trans h.output, Nat.le_trans h.size k.size, fun i hi => (k.block i (by omega) (by omega)).trans (h.block i hi)⟩
theorem But.below {g : Nat} {a b c : World} (h : But g a b) (k : Below a.heap.size b c) : But g a c :=
  ⟨k.os.trans h.os, k.tape.trans h.tape, k.output.trans h.output, Nat.le_trans h.size k.size, fun i hi hn => (k.block i hi).trans (h.block i hi hn)⟩
theorem Rd.but {g B size n c : Nat} {A : Option Addr} {xs : List Value} {w w' : World} (h : Rd w B size A n c xs) (k : But g w w') (hB : B ≤ w.heap.size) (hg : B ≤ g) : Rd w' B size A n c xs :=
  h.keep fun p hp => World.cell?_of_block (k.block p.block (by omega) (by omega))
theorem Blk.but {g q : Nat} {t : TypeId} {cs : Array Value} {w w' : World} (h : Blk w q t cs) (k : But g w w') (hq : q ≠ g) : Blk w' q t cs := (k.block q h.lt hq).trans h
theorem own_but {g base size n : Nat} {e : TypeId} {v : Value} {xs : List Value} {w w' : World} (h : w.ownsRow base e size v n xs) (k : But g w w') (hg : g < base) : w'.ownsRow base e size v n xs := by
  refine ⟨h.1, ?_⟩
  rcases h.2 with h2 | ⟨r, cap, cur, rfl, hbg, hh, rest⟩
  · exact .inl h2
  · exact .inr ⟨r, cap, cur, rfl, hbg, by rw [k.block r (Array.getElem?_eq_some_iff.1 hh).1 (by omega)]; exact hh, rest⟩
theorem own_butN {g base size n : Nat} {e : TypeId} {v : Value} {xs : List Value} {w w' : World} (h : w.ownsRow base e size v n xs) (k : But g w w') (hg : v.ownBlock ≠ some g) : w'.ownsRow base e size v n xs := by
  refine ⟨h.1, ?_⟩
  rcases h.2 with h2 | ⟨r, cap, cur, rfl, hbg, hh, rest⟩
  · exact .inl h2
  · exact .inr ⟨r, cap, cur, rfl, hbg, by rw [k.block r (Array.getElem?_eq_some_iff.1 hh).1 (fun e => hg (by subst e; rfl))]; exact hh, rest⟩
theorem own_far {g base size n : Nat} {e : TypeId} {v : Value} {xs : List Value} {w w' : World} (h : w.ownsRow base e size v n xs) (hg : w.grownBy w' (some g)) (hlt : g < base) : w'.ownsRow base e size v n xs := by
  refine h.kept hg ?_
  rcases hv : v.ownBlock with _ | k
  · exact .inl rfl
  · refine .inr fun e => ?_
    have h1 := (h.lt k hv).1
    injection e with e
    omega
/-- A result that lies in a cell, and one in a slot. -/
theorem res_ct {P : Program} {fn : Func} {p q : Tmp} {ty : TypeId} (h : fn.results = #[.cell p ty, .tmp q]) (tmps : Array Value) (w : World) (g : Nat) (t : TypeId) (cs : Array Value) (fr : Nat × Nat) (d : TypeDesc)
    (hp : tmps.getD p undef = .pointer (some ⟨g, 0, none⟩)) (hg : w.heap[g]? = some (.cells cs t fr))
    (hu : P.underlying ty = some d) (hd : (match d with | .struct _ | .array _ _ => true | _ => false) = true) (hi : (P.info? ty).map (·.size) = some cs.size) :
    (results fn tmps).run P w = .ok (.tuple #[.agg cs, tmps.getD q undef]) w := by
  have hp' : tmps[p]?.getD undef = .pointer (some ⟨g, 0, none⟩) := by simpa using hp
  simp [results, h, hp', asAddr, run_loadVar_row w g t ty cs fr d hg hu hd hi]
/-- A literal of the call's own. -/
theorem own_lit (w : World) (e : TypeId) (size n : Nat) (cs : Array Value) (hs : cs.size = n * size) (hm : n ≤ maxLen) : (w.alloc (.cells cs e)).ownsRow w.heap.size e size (.slice (some ⟨w.heap.size, 0, none⟩) n n) n cs.toList :=
  ⟨by simpa using hs, .inr ⟨w.heap.size, n, cs, rfl, Nat.le_refl _, heap_alloc_new w _, Nat.le_refl _, hm, hs, by rw [List.take_of_length_le]; simp [hs]⟩⟩
end Go.Proofs.YtnibkniggiokkaaDoor
