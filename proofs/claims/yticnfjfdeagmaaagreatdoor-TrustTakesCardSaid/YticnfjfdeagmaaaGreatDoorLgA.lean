/- Logs as values; plain law of the walk over a log; walk: invlog.walk. -/
import Derived.Test.YticnfjfdeagmaaaGreatDoorNtC
namespace Go.Proofs.YticnfjfdeagmaaaGreatDoor
open Go.RowKit
set_option maxRecDepth 100000

/-- What is known behind notes; none: a note isn't as it must be. -/
def lgW : List Vc.St → List Nt → Option (List Vc.St)
  | k, [] => some k
  | k, x :: r => if (ntF x && ntFits x k) = true then lgW (vec (jn [k, x.e])) r else none
theorem lgW_end {k : List Vc.St} {l : List Nt} {i : Nat} (h : l.length ≤ i) : lgW k (l.drop i) = some k := by rw [List.drop_of_length_le h]; rfl
theorem lgW_no {k : List Vc.St} {l : List Nt} {i : Nat} (h : i < l.length) (hf : (ntF l[i] && ntFits l[i] k) = false) : lgW k (l.drop i) = none := by
  rw [List.drop_eq_getElem_cons h, lgW, hf]; rfl
theorem lgW_next {k : List Vc.St} {l : List Nt} {i : Nat} (h : i < l.length) (hf : (ntF l[i] && ntFits l[i] k) = true) : lgW k (l.drop i) = lgW (vec (jn [k, l[i].e])) (l.drop (i + 1)) := by
  rw [List.drop_eq_getElem_cons h, lgW, if_pos hf]

/-- Notes as cells. -/
def nvv (L : List (NV × Nt)) : List Value := L.flatMap fun p => p.1.val.toList
theorem nvv_at (L : List (NV × Nt)) (k : Nat) (h : k < L.length) (j : Nat) (hj : j < 4) : (nvv L)[k * 4 + j]? = ((L[k].1.val).toList)[j]? := flat_at (fun p : NV × Nt => p.1.val.toList) 4 (by decide) L (fun _ _ => rfl) k h j hj
/-- A slice of notes. -/
structure RdNs (w : World) (B : Nat) (A : Option Addr) (n c : Nat) (L : List (NV × Nt)) : Prop where
  len : L.length = n
  rd : Rd w B 4 A n c (nvv L)
  each : ∀ p ∈ L, NtRd w B p.1 p.2
theorem RdNs.go {w w' : World} {A : Option Addr} {n c : Nat} {L : List (NV × Nt)} (h : RdNs w w.heap.size A n c L) (hb : Below w.heap.size w w') : RdNs w' w'.heap.size A n c L := ⟨h.len, h.rd.go hb, fun p hp => (h.each p hp).go hb⟩
theorem RdNs.note {w : World} {B n c k : Nat} {A : Option Addr} {L : List (NV × Nt)} (h : RdNs w B A n c L) (hk : k < L.length) :
    ∃ b o, A = some ⟨b, o, none⟩ ∧ b < B ∧ w.cell? ⟨b, o + k * 4, none⟩ = some (.slice L[k].1.A1 L[k].1.n1 L[k].1.c1) ∧ w.cell? ⟨b, o + k * 4 + 1, none⟩ = some (.slice L[k].1.A2 L[k].1.n2 L[k].1.c2) ∧
      w.cell? ⟨b, o + k * 4 + 2, none⟩ = some (.slice L[k].1.A3 L[k].1.n3 L[k].1.c3) ∧ w.cell? ⟨b, o + k * 4 + 3, none⟩ = some (.slice L[k].1.A4 L[k].1.n4 L[k].1.c4) := by
  have hl := h.len
  obtain ⟨b, o, rfl, hb, hc⟩ := h.rd.plain (by omega) (by decide)
  have e : ∀ j, j < 4 → ∀ u, ((L[k].1.val).toList)[j]? = some u → w.cell? ⟨b, o + k * 4 + j, none⟩ = some u := fun j hj u hu => by
    rw [Nat.add_assoc]
    exact hc (k * 4 + j) u (by rw [nvv_at L k hk j hj, hu])
  exact ⟨b, o, rfl, hb, e 0 (by decide) _ rfl, e 1 (by decide) _ rfl, e 2 (by decide) _ rfl, e 3 (by decide) _ rfl⟩
def nts (L : List (NV × Nt)) : List Nt := L.map (·.2)

/-- A log's value. -/
structure LV where
  A : Option Addr
  n : Nat
  c : Nat
  D : Option Addr
  m : Nat
  d : Nat
abbrev LV.val (v : LV) (su : Int) : Array Value := #[.slice v.A v.n v.c, .slice v.D v.m v.d, .int .i64 su]
/-- A value reads as a log: its base, its notes. -/
structure LgRd (w : World) (v : LV) (b : List Vc.St) (L : List (NV × Nt)) : Prop where
  l1 : b.length = v.n
  r1 : Rd w w.heap.size 2 v.A v.n v.c (sv b)
  ns : RdNs w w.heap.size v.D v.m v.d L
theorem LgRd.go {w w' : World} {v : LV} {b : List Vc.St} {L : List (NV × Nt)} (h : LgRd w v b L) (hb : Below w.heap.size w w') : LgRd w' v b L := ⟨h.l1, h.r1.go hb, h.ns.go hb⟩

theorem RdL.one {w : World} {A : Option Addr} {n c : Nat} {u : List Vc.St} (hl : u.length = n) (hR : Rd w w.heap.size 2 A n c (sv u)) (t : TypeId) :
    RdL (w.alloc (.cells #[.slice A n c] t)) (w.alloc (.cells #[.slice A n c] t)).heap.size (some ⟨w.heap.size, 0, none⟩) 1 1 [u] := by
  have hb : Below w.heap.size w (w.alloc (.cells #[.slice A n c] t)) := (Below.refl _ _).alloc (Nat.le_refl _) _
  have hB := Blk.new w t #[.slice A n c]
  refine ⟨rfl, Nat.le_refl _, by simp [maxLen], (fun h => by cases h), fun k hk => ?_⟩
  rcases k with _ | k
  · exact ⟨w.heap.size, 0, A, n, c, rfl, by simp, hB.cell 0, hl, hR.go hb⟩
  · simp only [List.length_cons, List.length_nil] at hk; omega
/-- vector.Join of one, of two; what comes is read. -/
theorem join1_any (A : Option Addr) (n c : Nat) (u : List Vc.St) (W : World) (hT : Tab W) (hl : u.length = n) (hR : Rd W W.heap.size 2 A n c (sv u)) :
    Calls Tryz.prog 18 #[.slice (some ⟨W.heap.size, 0, none⟩) 1 1] (W.alloc (.cells #[.slice A n c] 23)) fun e w' => ∃ A' c', e = .returned (.slice A' (vec (jn [u])).length c') ∧ Rd w' w'.heap.size 2 A' (vec (jn [u])).length c' (sv (vec (jn [u]))) ∧ Below W.heap.size W w' := by
  have hb : Below W.heap.size W (W.alloc (.cells #[.slice A n c] 23)) := (Below.refl _ _).alloc (Nat.le_refl _) _
  refine (join_any _ 1 1 [u] _ (hT.below hb) (RdL.one hl hR 23)).mono ?_
  rintro e w1 ⟨A', c', rfl, ho, hb1⟩
  exact ⟨A', c', rfl, Rd.of_own ho, below_then hb (Nat.le_refl _) hb1⟩
theorem join2_any (A D : Option Addr) (n c m d : Nat) (u v : List Vc.St) (W : World) (hT : Tab W) (hl : u.length = n) (hl2 : v.length = m) (hR : Rd W W.heap.size 2 A n c (sv u)) (hR2 : Rd W W.heap.size 2 D m d (sv v)) :
    Calls Tryz.prog 18 #[.slice (some ⟨W.heap.size, 0, none⟩) 2 2] (W.alloc (.cells #[.slice A n c, .slice D m d] 23)) fun e w' => ∃ A' c', e = .returned (.slice A' (vec (jn [u, v])).length c') ∧ Rd w' w'.heap.size 2 A' (vec (jn [u, v])).length c' (sv (vec (jn [u, v]))) ∧ Below W.heap.size W w' := by
  have hb : Below W.heap.size W (W.alloc (.cells #[.slice A n c, .slice D m d] 23)) := (Below.refl _ _).alloc (Nat.le_refl _) _
  refine (join_any _ 2 2 [u, v] _ (hT.below hb) (RdL.two hl hl2 hR hR2 23)).mono ?_
  rintro e w1 ⟨A', c', rfl, ho, hb1⟩
  exact ⟨A', c', rfl, Rd.of_own ho, below_then hb (Nat.le_refl _) hb1⟩

/-- What invlog.walk hands back. -/
def WalkP (w : World) (b : List Vc.St) (L : List (NV × Nt)) (su : Int) (e : Ending) (w' : World) : Prop :=
  (∃ q K c, lgW (vec (jn [b])) (nts L) = some q ∧ e = .returned (.tuple #[.slice K q.length c, .bool (fm (-1) b && (decide (0 ≤ su) && decide (su ≤ L.length)))]) ∧ Rd w' w'.heap.size 2 K q.length c (sv q) ∧ Below w.heap.size w w') ∨
  (lgW (vec (jn [b])) (nts L) = none ∧ e = .returned (.tuple #[.slice none 0 0, .bool false]) ∧ Below w.heap.size w w')

end Go.Proofs.YticnfjfdeagmaaaGreatDoor
