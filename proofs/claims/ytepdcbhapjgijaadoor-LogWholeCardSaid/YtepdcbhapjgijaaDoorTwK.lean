/- slices.SortFunc at zones in words of our own. -/
import Derived.Test.YtepdcbhapjgijaaDoorTwD
import Derived.Test.YtepdcbhapjgijaaDoorZnSort
import Derived.Test.YtepdcbhapjgijaaDoorSpE
namespace Go.Proofs.YtepdcbhapjgijaaDoor
open Go.RowKit Go.Shelf Go.Sort
set_option maxRecDepth 100000

/-- A zone that begins at an object. -/
abbrev ZA := { p : ZV × Zn // 0 ≤ p.2.1.1 ∧ p.2.1.1 ≤ 255 }
instance : Inhabited ZA := ⟨⟨(⟨none, 0, 0⟩, ((0, 0), [])), by simp⟩⟩
def encZ (x : ZA) : List Value := zvl x.1
def zav (l : List ZA) : List Value := l.flatMap encZ
theorem zav_get (l : List ZA) (t : Nat) (h : t < l.length * 3) : (zav l)[t]? = (encZ (l[t / 3]'(by omega)))[t % 3]? := by
  have := flat_at encZ 3 (by decide) l (fun _ _ => rfl) (t / 3) (by omega) (t % 3) (by omega)
  rw [show t / 3 * 3 + t % 3 = t by omega] at this
  exact this
theorem flatZ_get (l : List ZA) (t : Nat) (h : t < l.length * 3) : (zav l)[t]? = some ((flatK encZ 3 l.toArray)[t]!) := by
  rw [zav_get l t h]
  have e1 : (flatK encZ 3 l.toArray)[t]! = (encZ l.toArray[t / 3]!)[t % 3]! := by
    rw [getElem!_pos _ t (by simp [flatK]; omega)]
    simp [flatK]
  rw [e1, show l.toArray[t / 3]! = l[t / 3]'(by omega) by rw [getElem!_pos _ _ (by simp; omega)]; simp]
  have h3 : t % 3 = 0 ∨ t % 3 = 1 ∨ t % 3 = 2 := by omega
  rcases h3 with h3 | h3 | h3 <;> rw [h3] <;> rfl
theorem zav_len (l : List ZA) : (zav l).length = l.length * 3 := flat_len encZ 3 l (fun _ _ => rfl)
theorem holdsZ {w : World} {base G n c : Nat} {l : List ZA} (h : w.ownsRow base 62 3 (.slice (some ⟨G, 0, none⟩) n c) n (zav l)) (hl : l.length = n) : HoldsK encZ 3 w G 0 l.toArray := by
  intro j hj
  have hj' : j < l.length * 3 := by simpa [flatK] using hj
  obtain ⟨_, h | ⟨g, cap, cur, hv, _, hg, _, _, hcs, hx⟩⟩ := h
  · exact absurd h.1 (by simp)
  · injection hv with hv1 _ _
    injection hv1 with hv1
    injection hv1 with hv1
    subst hv1
    refine ⟨?_, by simp [World.frozen?, hg]⟩
    rw [Nat.zero_add, cell_of_row w G j cur _ (0, 0) hg]
    have h1 : (zav l)[j]? = cur[j]? := by
      rw [← hx, List.getElem?_take, if_pos (by omega)]; simp
    rw [← h1, flatZ_get l j hj']; rfl
theorem sortZ_row {w : World} {base G n c : Nat} {l : List ZA} (h : w.ownsRow base 62 3 (.slice (some ⟨G, 0, none⟩) n c) n (zav l)) (d : Array ZA) (hd : d.size = n) (m : Nat) (os : Array Obj) :
    (sortWorldK encZ 3 w G 0 m d os).ownsRow base 62 3 (.slice (some ⟨G, 0, none⟩) n c) n (zav d.toList) ∧ w.grownBy (sortWorldK encZ 3 w G 0 m d os) (some G) := by
  obtain ⟨hl, h | ⟨g, cap, cur, hv, hb, hg, hnc, hcm, hcs, hx⟩⟩ := h
  · exact absurd h.1 (by simp)
  · injection hv with hv1 _ hv3
    injection hv1 with hv1
    injection hv1 with hv1
    subst hv1 hv3
    have hlt : G < w.heap.size := (Array.getElem?_eq_some_iff.1 hg).1
    have hat : (sortWorldK encZ 3 w G 0 m d os).heap[G]? = some (.cells (putCells id 0 (flatK encZ 3 d) cur) 62 (0, 0)) := by
      unfold sortWorldK grow putRowK putRow mapBlock «Sort».ahead
      rw [Array.getElem?_append_left (by simpa using hlt)]
      simp [Array.getElem?_modify, hg, onCells]
    have hother : ∀ k, k < w.heap.size → k ≠ G → (sortWorldK encZ 3 w G 0 m d os).heap[k]? = w.heap[k]? := fun k hk hne => by
      unfold sortWorldK grow putRowK putRow mapBlock «Sort».ahead
      rw [Array.getElem?_append_left (by simpa using hk)]
      simp [Array.getElem?_modify, Ne.symm hne]
    have hfl : (flatK encZ 3 d).size = n * 3 := by simp [flatK, hd]
    have hnc' : n * 3 ≤ c * 3 := Nat.mul_le_mul_right _ hnc
    refine ⟨⟨by rw [zav_len]; simp [hd], .inr ⟨G, c, _, rfl, hb, hat, hnc, hcm, by simp [putCells, hcs], ?_⟩⟩, ⟨rfl, rfl, rfl, size_sortWorldK_c encZ 3 w G 0 m d os, fun k hk hne => hother k hk (fun e => hne (by rw [e]))⟩⟩
    apply List.ext_getElem?
    intro t
    by_cases ht : t < n * 3
    · rw [List.getElem?_take, if_pos ht]
      have h1 := flatZ_get d.toList t (by simp [hd]; exact ht)
      rw [h1]
      have hc : t < cur.size := by omega
      simp only [putCells, Array.toList_mapIdx, List.getElem?_mapIdx, Array.getElem?_toList, Array.getElem?_eq_getElem hc, Option.map_some, hfl]
      rw [if_pos ⟨Nat.zero_le _, by omega⟩]; simp
    · rw [List.getElem?_take, if_neg ht, List.getElem?_eq_none (by rw [zav_len]; simp [hd]; omega)]
def cmpZ (x y : ZA) : Int := x.1.2.1.1 - y.1.2.1.1
theorem closureZ_any (x y : ZA) (W : World) : Calls Tryd.prog 55 #[.agg (encZ x).toArray, .agg (encZ y).toArray] W fun e w' => e = .returned (.int .i64 (cmpZ x y)) ∧ ∃ q os', w' = grow (W.drewN q) os' := by
  obtain ⟨⟨⟨A, n, c⟩, ⟨lo, hi⟩, u⟩, h1, h2⟩ := x
  obtain ⟨⟨⟨D, m, d⟩, ⟨lo2, hi2⟩, u2⟩, h3, h4⟩ := y
  dsimp only at h1 h2 h3 h4
  have hw : IntKind.i64.wrap (lo - lo2) = lo - lo2 := IntWalk.i64_in _ (by omega)
  show Calls _ _ #[.agg #[.int .i64 lo, .int .i64 hi, .slice A n c], .agg #[.int .i64 lo2, .int .i64 hi2, .slice D m d]] W _
  go_enter Tryd.func55, Tryd.ntmps55
  go_wp2
  go_ret
  exact ⟨rfl, 0, _, by rw [alloc_eq_grow, alloc_eq_grow, grow_grow]; rfl⟩
theorem ltZ (x y : ZA) : ltOf cmpZ x y = decide (x.1.2.1.1 < y.1.2.1.1) := by
  unfold ltOf cmpZ
  by_cases h1 : x.1.2.1.1 < y.1.2.1.1
  · simp [h1]; omega
  · simp [h1]; omega
theorem swoZ : SWO (ltOf cmpZ) where
  irrefl x := by rw [ltZ]; simp
  trans x y z h1 h2 := by rw [ltZ] at *; simp at *; omega
  ntrans x y z h1 h2 := by rw [ltZ] at *; simp at *; omega
theorem agg_zone : ∀ w, (isAgg 62).run Tryd.prog w = .ok true w := fun _ => by kernel_rfl
theorem size_zone : ∀ w, (Go.sizeOf 62).run Tryd.prog w = .ok 3 w := fun _ => by kernel_rfl
theorem encZ_one (x : ZA) : ∀ v ∈ encZ x, v.oneCell' = true := zvl_oneCell x.1
set_option maxHeartbeats 1000000 in
/-- slices.SortFunc over a row of the call's own: a permutation whose beginnings rise. -/
theorem sortZA_own (base G n c : Nat) (l : List ZA) (w : World) (ho : w.ownsRow base 62 3 (.slice (some ⟨G, 0, none⟩) n c) n (zav l)) (hl : l.length = n) (hn : n < 4611686018427387904) :
    Calls Tryd.prog 54 #[.slice (some ⟨G, 0, none⟩) n c, .func (.func 55) #[] #[]] w fun e w' => e = .returned (.tuple #[]) ∧
      ∃ l', List.Perm l l' ∧ (l'.Pairwise fun x y => x.1.2.1.1 ≤ y.1.2.1.1) ∧ w'.ownsRow base 62 3 (.slice (some ⟨G, 0, none⟩) n c) n (zav l') ∧ w.grownBy w' (some G) := by
  have eg : ∀ args w, (callFunc 55 args).run Tryd.prog w = .ok (.enter 55 args) w := enters_of Tryd.func55 (by kernel_rfl) rfl
  have hsz : l.toArray.size = n := by simpa using hl
  have hG : G < w.heap.size := (ho.lt G rfl).2
  have hcon := AnyQ.slices_SortFunc sortZn 3 agg_zone size_zone encZ (fun _ => rfl) encZ_one cmpZ swoZ 55 #[] G 0 c l.toArray w eg (fun _ _ _ _ x y => closureZ_any x y _) (holdsZ ho hl) hG (by omega)
  rw [hsz] at hcon
  refine hcon.mono fun e w' ⟨he, d', m, os, hp, hs, hw⟩ => ⟨he, d'.toList, ?_, ?_, ?_⟩
  · obtain ⟨h1, _, h3⟩ := hp
    have e1 : (d'.extract 0 n).toList = d'.toList := by rw [← hsz, ← h1]; simp
    have e2 : (l.toArray.extract 0 n).toList = l := by rw [← hsz]; simp
    rw [e1, e2] at h3
    exact h3.symm
  · refine List.pairwise_iff_getElem.2 fun i j hi hj hij => ?_
    have h1 : d'.size = n := by rw [hp.1, hsz]
    have hj' : j < d'.size := by simpa using hj
    have := hs i j (Nat.zero_le _) hij (by omega)
    rw [ltZ, getElem!_pos d' j hj', getElem!_pos d' i (by omega)] at this
    simp at this
    simpa using this
  · rw [hw]
    exact sortZ_row ho d' (by rw [hp.1, hsz]) m os
theorem sortZ_own (base G n c : Nat) (L : List (ZV × Zn)) (hb : ∀ p ∈ L, 0 ≤ p.2.1.1 ∧ p.2.1.1 ≤ 255) (w : World) (ho : OwnZ w base (some ⟨G, 0, none⟩) n c L) (hn : n < 4611686018427387904) :
    Calls Tryd.prog 54 #[.slice (some ⟨G, 0, none⟩) n c, .func (.func 55) #[] #[]] w fun e w' => e = .returned (.tuple #[]) ∧
      ∃ L', List.Perm L L' ∧ (L'.Pairwise fun x y => x.2.1.1 ≤ y.2.1.1) ∧ OwnZ w' base (some ⟨G, 0, none⟩) n c L' ∧ w.grownBy w' (some G) := by
  obtain ⟨l, hl⟩ : ∃ l : List ZA, l.map (·.1) = L := ⟨L.pmap (fun p h => ⟨p, h⟩) hb, by rw [List.map_pmap]; simp⟩
  have he : ∀ k : List ZA, zav k = zvv (k.map (·.1)) := fun k => by unfold zav zvv; rw [List.flatMap_map]; rfl
  subst hl
  have hr := ho.row
  rw [← he] at hr
  have hlen := ho.len
  rw [List.length_map] at hlen
  refine (sortZA_own base G n c l w hr hlen hn).mono fun e w' ⟨h1, l', h2, h3, h4, h5⟩ => ⟨h1, l'.map (·.1), h2.map _, ?_, ⟨by rw [← he]; exact h4, fun p hp => ?_⟩, h5⟩
  · rw [List.pairwise_map]; exact h3
  · have hp' : p ∈ l.map (·.1) := (h2.map (·.1)).mem_iff.2 hp
    obtain ⟨a1, a2⟩ := ho.el p hp'
    exact ⟨a1, a2.kept h5 (own_two a2 hr (by decide))⟩

set_option maxHeartbeats 1000000 in
theorem insNilZ_any (f : Value) (w : World) : Calls Tryd.prog 72 #[.slice none 0 0, .int .i64 0, .int .i64 0, f] w fun e w' => e = .returned (.tuple #[]) ∧ w = w' := by
  go_enter Tryd.func72, Tryd.ntmps72
  go_wp2
  go_loop [8] (fun v8 => v8 = .int .i64 1) (fun _ => 0)
  case atStart => exact rfl
  case round =>
    obtain rfl := hrel
    go_wp2
    go_end0
    exact ⟨rfl, rfl⟩
set_option maxHeartbeats 1000000 in
theorem pdqNilZ_any (f : Value) (w : World) : Calls Tryd.prog 65 #[.slice none 0 0, .int .i64 0, .int .i64 0, .int .i64 0, f] w fun e w' => e = .returned (.tuple #[]) ∧ w = w' := by
  go_enter Tryd.func65, Tryd.ntmps65
  go_wp2
  go_loop [1, 2, 3, 10] (fun v1 v2 v3 v10 => v1 = .int .i64 0 ∧ v2 = .int .i64 0 ∧ v3 = .int .i64 0 ∧ v10 = .bool true) (fun _ _ _ _ => 0)
  case atStart => exact ⟨rfl, rfl, rfl, rfl⟩
  case round =>
    obtain ⟨rfl, rfl, rfl, rfl⟩ := hrel
    go_wp2_with (go_at_call 72; go_must (refine (insNilZ_any _ _).mono ?_); rintro e w' ⟨rfl, rfl⟩)
    refine bodyPost_ret (results_none rfl _ _ _) rfl ?_
    exact ⟨rfl, rfl⟩
set_option maxHeartbeats 1000000 in
theorem sortNilZ_any (f : Value) (w : World) : Calls Tryd.prog 54 #[.slice none 0 0, f] w fun e w' => e = .returned (.tuple #[]) ∧ w = w' := by
  have hl : ∀ W, Calls Tryd.prog 66 #[.int .u64 0] W fun e w' => e = .returned (.int .i64 0) ∧ W = w' := fun W =>
    (Any.bits_Len (SlLaysF0.n15.bits (P := Tryd.prog) (ρ := sortZn_ren) { sortZn with }) 0 W (by omega) (by omega)).mono fun _ _ ⟨he, hw⟩ => ⟨he, hw.symm⟩
  go_enter Tryd.func54, Tryd.ntmps54
  go_wp2_with (first
    | (go_at_call 66; go_must (refine (hl _).mono ?_); rintro e w' ⟨rfl, rfl⟩)
    | (go_at_call 65; go_must (refine (pdqNilZ_any _ _).mono ?_); rintro e w' ⟨rfl, rfl⟩))
  go_end0
  exact ⟨rfl, rfl⟩
end Go.Proofs.YtepdcbhapjgijaaDoor
