/- slices.SortFunc at spans in words of our own. -/
import Derived.Test.YtnibkniggiokkaaDoorSpC
import Derived.Test.YtnibkniggiokkaaDoorCmp
import Derived.Test.YtnibkniggiokkaaDoorSp2
import Derived.Test.YtnibkniggiokkaaDoorSpSort
import Derived.Test.YtnibkniggiokkaaDoorOpen
namespace Go.Proofs.YtnibkniggiokkaaDoor
open Go.RowKit Go.Shelf Go.Sort
set_option maxRecDepth 100000

theorem spanE_info : (Tryd.prog.info? 37).map (fun i => (i.zero, i.size, i.bytes)) = some (some (.agg #[.int .i64 0, .int .i64 0]), 2, 16) := by kernel_rfl

def encS (x : Sn.Sp) : List Value := [.int .i64 x.1, .int .i64 x.2]
theorem sv_encS (l : List Sn.Sp) : sv l = l.flatMap encS := rfl
theorem sv_get (l : List Sn.Sp) (t : Nat) (h : t < l.length * 2) : (sv l)[t]? = (encS (l[t / 2]'(by omega)))[t % 2]? := by
  have := flat_at encS 2 (by decide) l (fun _ _ => rfl) (t / 2) (by omega) (t % 2) (by omega)
  rw [show t / 2 * 2 + t % 2 = t by omega] at this
  exact this
theorem flatK_get (l : List Sn.Sp) (t : Nat) (h : t < l.length * 2) : (sv l)[t]? = some ((flatK encS 2 l.toArray)[t]!) := by
  rw [sv_get l t h]
  have e1 : (flatK encS 2 l.toArray)[t]! = (encS l.toArray[t / 2]!)[t % 2]! := by
    rw [getElem!_pos _ t (by simp [flatK]; omega)]
    simp [flatK]
  rw [e1, show l.toArray[t / 2]! = l[t / 2]'(by omega) by rw [getElem!_pos _ _ (by simp; omega)]; simp]
  rcases Nat.mod_two_eq_zero_or_one t with h2 | h2 <;> rw [h2] <;> rfl
theorem holds_own {w : World} {base G n c : Nat} {l : List Sn.Sp} (h : w.ownsRow base 37 2 (.slice (some ⟨G, 0, none⟩) n c) n (sv l)) (hl : l.length = n) : HoldsK encS 2 w G 0 l.toArray := by
  intro j hj
  have hj' : j < l.length * 2 := by simpa [flatK] using hj
  obtain ⟨_, h | ⟨g, cap, cur, hv, _, hg, _, _, hcs, hx⟩⟩ := h
  · exact absurd h.1 (by simp)
  · injection hv with hv1 _ _
    injection hv1 with hv1
    injection hv1 with hv1
    subst hv1
    refine ⟨?_, by simp [World.frozen?, hg]⟩
    rw [Nat.zero_add, cell_of_row w G j cur _ (0, 0) hg]
    have h1 : (sv l)[j]? = cur[j]? := by
      rw [← hx, List.getElem?_take, if_pos (by omega)]; simp
    rw [← h1, flatK_get l j hj']; rfl
theorem sort_own {w : World} {base G n c : Nat} {l : List Sn.Sp} (h : w.ownsRow base 37 2 (.slice (some ⟨G, 0, none⟩) n c) n (sv l)) (d : Array Sn.Sp) (hd : d.size = n) (m : Nat) (os : Array Obj) :
    (sortWorldK encS 2 w G 0 m d os).ownsRow base 37 2 (.slice (some ⟨G, 0, none⟩) n c) n (sv d.toList) ∧ w.grownBy (sortWorldK encS 2 w G 0 m d os) (some G) := by
  obtain ⟨hl, h | ⟨g, cap, cur, hv, hb, hg, hnc, hcm, hcs, hx⟩⟩ := h
  · exact absurd h.1 (by simp)
  · injection hv with hv1 _ hv3
    injection hv1 with hv1
    injection hv1 with hv1
    subst hv1 hv3
    have hlt : G < w.heap.size := (Array.getElem?_eq_some_iff.1 hg).1
    have hat : (sortWorldK encS 2 w G 0 m d os).heap[G]? = some (.cells (putCells id 0 (flatK encS 2 d) cur) 37 (0, 0)) := by
      unfold sortWorldK grow putRowK putRow mapBlock «Sort».ahead
      rw [Array.getElem?_append_left (by simpa using hlt)]
      simp [Array.getElem?_modify, hg, onCells]
    have hother : ∀ k, k < w.heap.size → k ≠ G → (sortWorldK encS 2 w G 0 m d os).heap[k]? = w.heap[k]? := fun k hk hne => by
      unfold sortWorldK grow putRowK putRow mapBlock «Sort».ahead
      rw [Array.getElem?_append_left (by simpa using hk)]
      simp [Array.getElem?_modify, Ne.symm hne]
    have hfl : (flatK encS 2 d).size = n * 2 := by simp [flatK, hd]
    have hnc' : n * 2 ≤ c * 2 := Nat.mul_le_mul_right _ hnc
    refine ⟨⟨by rw [sv_encS, flat_len encS 2 _ (fun _ _ => rfl)]; simp [hd], .inr ⟨G, c, _, rfl, hb, hat, hnc, hcm, by simp [putCells, hcs], ?_⟩⟩, ⟨rfl, rfl, rfl, size_sortWorldK_c encS 2 w G 0 m d os, fun k hk hne => hother k hk (fun e => hne (by rw [e]))⟩⟩
    apply List.ext_getElem?
    intro t
    by_cases ht : t < n * 2
    · rw [List.getElem?_take, if_pos ht]
      have h1 := flatK_get d.toList t (by simp [hd]; exact ht)
      rw [h1]
      have hc : t < cur.size := by omega
      simp only [putCells, Array.toList_mapIdx, List.getElem?_mapIdx, Array.getElem?_toList, Array.getElem?_eq_getElem hc, Option.map_some, hfl]
      rw [if_pos ⟨Nat.zero_le _, by omega⟩]; simp
    · rw [List.getElem?_take, if_neg ht, List.getElem?_eq_none (by rw [sv_encS, flat_len encS 2 _ (fun _ _ => rfl)]; simp [hd]; omega)]
theorem closure_any (x y : Sn.Sp) (W : World) : Calls Tryd.prog 86 #[.agg #[.int .i64 x.1, .int .i64 x.2], .agg #[.int .i64 y.1, .int .i64 y.2]] W fun e w' => e = .returned (.int .i64 (cmpI x.1 y.1)) ∧ ∃ q os', w' = grow (W.drewN q) os' := by
  have hcon := fun W' => cmpI_any x.1 y.1 W'
  generalize cmpI x.1 y.1 = r at hcon ⊢
  go_enter Tryd.func86, Tryd.ntmps86
  go_wp2_with (go_at_call 54; refine (hcon _).mono ?_; rintro e w' ⟨rfl, rfl⟩)
  go_ret
  exact ⟨rfl, 0, _, by rw [alloc_eq_grow, alloc_eq_grow, grow_grow]; rfl⟩
theorem ltLo (x y : Sn.Sp) : ltOf (fun x y : Sn.Sp => cmpI x.1 y.1) x y = decide (x.1 < y.1) := by
  unfold ltOf cmpI
  by_cases h1 : x.1 < y.1
  · simp [h1]
  · by_cases h2 : y.1 < x.1 <;> simp [h1, h2]
theorem swoLo : SWO (ltOf fun x y : Sn.Sp => cmpI x.1 y.1) where
  irrefl x := by rw [ltLo]; simp
  trans x y z h1 h2 := by rw [ltLo] at *; simp at *; omega
  ntrans x y z h1 h2 := by rw [ltLo] at *; simp at *; omega
theorem agg_span : ∀ w, (isAgg 37).run Tryd.prog w = .ok true w := fun _ => by kernel_rfl
theorem size_span : ∀ w, (Go.sizeOf 37).run Tryd.prog w = .ok 2 w := fun _ => by kernel_rfl
theorem risS_of : ∀ (l : List Sn.Sp), (∀ i j (hi : i < j) (hj : j < l.length), (l[i]'(by omega)).1 ≤ l[j].1) → Sn.risS l
  | [], _ => trivial
  | s :: r, h => ⟨fun t ht => by
      obtain ⟨k, hk, rfl⟩ := List.getElem_of_mem ht
      exact h 0 (k + 1) (by omega) (by simpa using hk), risS_of r fun i j hi hj => by
      have := h (i + 1) (j + 1) (by omega) (by simpa using hj)
      simpa using this⟩
set_option maxHeartbeats 1000000 in
/-- slices.SortFunc over a row of the call's own: a permutation whose beginnings rise. -/
theorem sortS_own (base G n c : Nat) (l : List Sn.Sp) (w : World) (ho : w.ownsRow base 37 2 (.slice (some ⟨G, 0, none⟩) n c) n (sv l)) (hl : l.length = n) (hn : n < 4611686018427387904) :
    Calls Tryd.prog 85 #[.slice (some ⟨G, 0, none⟩) n c, .func (.func 86) #[] #[]] w fun e w' => e = .returned (.tuple #[]) ∧
      ∃ l', List.Perm l l' ∧ Sn.risS l' ∧ w'.ownsRow base 37 2 (.slice (some ⟨G, 0, none⟩) n c) n (sv l') ∧ w.grownBy w' (some G) := by
  have eg : ∀ args w, (callFunc 86 args).run Tryd.prog w = .ok (.enter 86 args) w := enters_of Tryd.func86 (by kernel_rfl) rfl
  have hsz : l.toArray.size = n := by simpa using hl
  have hG : G < w.heap.size := (ho.lt G rfl).2
  have hcon := AnyQ.slices_SortFunc sortSp 2 agg_span size_span encS (fun _ => rfl) (fun x v hv => by simp [encS] at hv; rcases hv with rfl | rfl <;> rfl) (fun x y : Sn.Sp => cmpI x.1 y.1) swoLo 86 #[] G 0 c l.toArray w eg (fun _ _ _ _ x y => closure_any x y _) (holds_own ho hl) hG (by omega)
  rw [hsz] at hcon
  refine hcon.mono fun e w' ⟨he, d', m, os, hp, hs, hw⟩ => ⟨he, d'.toList, ?_, ?_, ?_⟩
  · obtain ⟨h1, _, h3⟩ := hp
    have e1 : (d'.extract 0 n).toList = d'.toList := by rw [← hsz, ← h1]; simp
    have e2 : (l.toArray.extract 0 n).toList = l := by rw [← hsz]; simp
    rw [e1, e2] at h3
    exact h3.symm
  · refine risS_of _ fun i j hi hj => ?_
    have h1 : d'.size = n := by rw [hp.1, hsz]
    have hj' : j < d'.size := by simpa using hj
    have := hs i j (Nat.zero_le _) hi (by omega)
    rw [ltLo, getElem!_pos d' j hj', getElem!_pos d' i (by omega)] at this
    simp at this
    simpa using this
  · rw [hw]
    exact sort_own ho d' (by rw [hp.1, hsz]) m os
end Go.Proofs.YtnibkniggiokkaaDoor
