/- Walks over the document's Two, With, Greatest, Compare, Count. -/
import Derived.Test.YtldcgmnfohhjbaaDoorVecH
namespace Go.Proofs.YtldcgmnfohhjbaaDoor
open Go.RowKit
set_option maxRecDepth 100000

theorem RdL.two {w : World} {A D : Option Addr} {n c m d : Nat} {u v : List Vc.St} (hl : u.length = n) (hl2 : v.length = m) (hR : Rd w w.heap.size 2 A n c (sv u)) (hR2 : Rd w w.heap.size 2 D m d (sv v)) (t : TypeId) :
    RdL (w.alloc (.cells #[.slice A n c, .slice D m d] t)) (w.alloc (.cells #[.slice A n c, .slice D m d] t)).heap.size (some ⟨w.heap.size, 0, none⟩) 2 2 [u, v] := by
  have hb : Below w.heap.size w (w.alloc (.cells #[.slice A n c, .slice D m d] t)) := (Below.refl _ _).alloc (Nat.le_refl _) _
  have hB := Blk.new w t #[.slice A n c, .slice D m d]
  refine ⟨rfl, Nat.le_refl _, by simp [maxLen], (fun h => by cases h), fun k hk => ?_⟩
  rcases k with _ | _ | k
  · exact ⟨w.heap.size, 0, A, n, c, rfl, by simp, hB.cell 0, hl, hR.go hb⟩
  · exact ⟨w.heap.size, 0, D, m, d, rfl, by simp, hB.cell 1, hl2, hR2.go hb⟩
  · simp only [List.length_cons, List.length_nil] at hk; omega

set_option maxHeartbeats 1000000 in
theorem refTwo_any (A D : Option Addr) (n c m d : Nat) (u v : List Vc.St) (w : World) (hl : u.length = n) (hl2 : v.length = m) (hR : Rd w w.heap.size 2 A n c (sv u)) (hR2 : Rd w w.heap.size 2 D m d (sv v)) :
    Calls Tryd.prog 63 #[.slice A n c, .slice D m d] w fun e w' => ∃ A' c', e = .returned (.slice A' (vec (jn [u, v])).length c') ∧
      w'.ownsRow w.heap.size 24 2 (.slice A' (vec (jn [u, v])).length c') (vec (jn [u, v])).length (sv (vec (jn [u, v]))) ∧ Below w.heap.size w w' := by
  have H1 := Lib.hid (refJoin_any _ 2 2 [u, v] _ (RdL.two hl hl2 hR hR2 22))
  clear hl hl2 hR hR2
  go_enter Tryd.func63, Tryd.ntmps63
  go_wp2_with fail
  refine H1.out.mono ?_
  rintro e w1 ⟨A', c', rfl, ho, hb⟩
  clear H1
  go_wp2
  go_ret
  exact ⟨A', c', rfl, own_less ho (by simp), ((Below.refl _ _).alloc (Nat.le_refl _) _).trans (hb.mono (by simp))⟩

set_option maxHeartbeats 1000000 in
theorem refWith_any (A : Option Addr) (n c : Nat) (u : List Vc.St) (s : Vc.St) (w : World) (hl : u.length = n) (hR : Rd w w.heap.size 2 A n c (sv u)) :
    Calls Tryd.prog 50 #[.slice A n c, .agg #[.int .i64 s.1, .int .i64 s.2]] w fun e w' => ∃ A' c', e = .returned (.slice A' (vec (jn [u, [s]])).length c') ∧
      w'.ownsRow w.heap.size 24 2 (.slice A' (vec (jn [u, [s]])).length c') (vec (jn [u, [s]])).length (sv (vec (jn [u, [s]]))) ∧ Below w.heap.size w w' := by
  obtain ⟨sc, sn⟩ := s
  have h1max : 1 ≤ maxLen := by unfold maxLen; omega
  have hb1 : Below w.heap.size w (w.alloc (.cells #[.int .i64 sc, .int .i64 sn] 24)) := (Below.refl _ _).alloc (Nat.le_refl _) _
  have hb2 : Below (w.heap.size) w ((w.alloc (.cells #[.int .i64 sc, .int .i64 sn] 24)).alloc (.cells #[.int .i64 sc, .int .i64 sn] 24)) := hb1.alloc hb1.size _
  have hS := Rd.new (w.alloc (.cells #[.int .i64 sc, .int .i64 sn] 24)) 24 2 1 #[.int .i64 sc, .int .i64 sn] rfl h1max
  rw [World.size_alloc] at hS
  have H1 := Lib.hid (refTwo_any A (some ⟨w.heap.size + 1, 0, none⟩) n c 1 1 u [(sc, sn)] _ hl rfl (hR.go hb2) (by simp only [World.size_alloc]; exact hS))
  have HB := Lib.hid hb2
  clear hl hR hS hb1 hb2
  go_enter Tryd.func50, Tryd.ntmps50
  go_wp2_with fail
  refine H1.out.mono ?_
  rintro e w1 ⟨A', c', rfl, ho, hb⟩
  clear H1
  go_wp2
  go_ret
  exact ⟨A', c', rfl, own_less ho (by simp; omega), HB.out.trans (hb.mono (by simp; omega))⟩

/-- The greatest count. -/
def grTo (f : Nat → Int) (k : Nat) : Int := (List.range k).foldl (fun a n => max a (f n)) 0
theorem gr_next (f : Nat → Int) (k : Nat) : grTo f (k + 1) = max (grTo f k) (f k) := by simp [grTo, List.range_succ]

/-- How two stand: 0 same, 1 before, 2 behind, 3 apart. -/
def standB (x y : Bool) : Int := if x && y then 0 else if y then 1 else if x then 2 else 3
/-- The count of a node that is any number. -/
def cntZ (v : List Vc.St) (n : Int) : Int := if 0 ≤ n ∧ n < 64 then Vc.cnt v n.toNat else 0
set_option maxHeartbeats 1000000 in
theorem refCount_any (A : Option Addr) (n c : Nat) (v : List Vc.St) (x : Int) (w : World) (hl : v.length = n) (hR : Rd w w.heap.size 2 A n c (sv v)) :
    Calls Tryd.prog 70 #[.slice A n c, .int .i64 x] w fun e w' => e = .returned (.int .i64 (cntZ v x)) ∧ Below w.heap.size w w' := by
  by_cases h : 0 ≤ x ∧ x < 64
  · have HC := Lib.hid (show cntZ v x = Vc.cnt v x.toNat from if_pos h)
    obtain ⟨h1, h2⟩ := h
    obtain ⟨k, rfl⟩ := Int.eq_ofNat_of_zero_le h1
    have H1 := Lib.hid (refCounts_any A n c v w hl hR)
    have hix : ∀ W, (Instr.index 86 (.agg (a64 (Vc.cnt v))) (.int .i64 (k : Int))).run Tryd.prog W = .ok (.int .i64 (Vc.cnt v k)) W := by
      intro W
      have hk : k < 64 := by omega
      have hk2 : 0 ≤ (k : Int) ∧ (k : Int) < ((64 : Nat) : Int) := by omega
      have hat := a64_at (Vc.cnt v) k hk
      simp [Instr.index, run_underlying Tryd.underlying86, asIntOf, part, hk, hk2, hat, go_sem]
    clear hl hR
    go_enter Tryd.func70, Tryd.ntmps70
    go_wp2_with (go_at_call 75; go_must (refine H1.out.mono ?_); rintro e w1 ⟨rfl, hb1⟩)
    go_ret
    exact ⟨by rw [HC.out]; rfl, hb1⟩
  · have HC := Lib.hid (show cntZ v x = 0 from if_neg h)
    clear hl hR
    by_cases h1 : x < 0
    · clear h
      go_enter Tryd.func70, Tryd.ntmps70
      go_wp2
      go_ret
      exact ⟨by rw [HC.out]; rfl, Below.refl _ _⟩
    · have h2 : 63 < x := by omega
      clear h
      go_enter Tryd.func70, Tryd.ntmps70
      go_wp2
      go_ret
      exact ⟨by rw [HC.out]; rfl, Below.refl _ _⟩
end Go.Proofs.YtldcgmnfohhjbaaDoor
