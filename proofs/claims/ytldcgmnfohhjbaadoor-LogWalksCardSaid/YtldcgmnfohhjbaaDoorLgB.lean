/- Walks: invlog.Formed, invlog.Known. -/
import Derived.Test.YtldcgmnfohhjbaaDoorLgA
namespace Go.Proofs.YtldcgmnfohhjbaaDoor
open Go.RowKit
set_option maxRecDepth 100000

/-- Is a log formed? What is known behind it. -/
def lgF (b : List Vc.St) (L : List (NV × Nt)) (su : Int) : Bool := (lgW (vec (jn [b])) (nts L)).isSome && (fm (-1) b && (decide (0 ≤ su) && decide (su ≤ L.length)))
set_option maxHeartbeats 2000000 in
theorem lgFormed_any (v : LV) (b : List Vc.St) (L : List (NV × Nt)) (su : Int) (w : World) (hT : Tab w) (h : LgRd w v b L) :
    Calls Tryd.prog 29 #[.agg (v.val su)] w fun e w' => e = .returned (.bool (lgF b L su)) ∧ Below w.heap.size w w' := by
  obtain ⟨A, n, c, D, m, d⟩ := v
  have hb0 : Below w.heap.size w (w.alloc (.cells (LV.val ⟨A, n, c, D, m, d⟩ su) 47)) := (Below.refl _ _).alloc (Nat.le_refl _) _
  have G := Lib.hid (lgWalk_any ⟨A, n, c, D, m, d⟩ b L su _ (hT.below hb0) (h.go hb0))
  have HB := Lib.hid hb0
  have HF := Lib.hid (show lgF b L su = ((lgW (vec (jn [b])) (nts L)).isSome && (fm (-1) b && (decide (0 ≤ su) && decide (su ≤ L.length)))) from rfl)
  clear hT h hb0
  go_enter Tryd.func29, Tryd.ntmps29
  go_wp2_with fail
  refine G.out.mono ?_
  rintro e w1 (⟨q, K, kc, hq, rfl, hR, hb⟩ | ⟨hq, rfl, hb⟩)
  · have HQ := Lib.hid (show lgF b L su = (fm (-1) b && (decide (0 ≤ su) && decide (su ≤ L.length))) by rw [HF.out, hq]; rfl)
    have HB2 := Lib.hid (below_then HB.out (Nat.le_refl _) hb)
    clear hq hR hb G HF
    generalize (fm (-1) b && (decide (0 ≤ su) && decide (su ≤ L.length))) = r at HQ ⊢
    generalize q.length = qn
    go_wp2
    go_ret
    exact ⟨by rw [HQ.out]; rfl, HB2.out⟩
  · have HQ := Lib.hid (show lgF b L su = false by rw [HF.out, hq]; rfl)
    have HB2 := Lib.hid (below_then HB.out (Nat.le_refl _) hb)
    clear hq hb G HF
    go_wp2
    go_ret
    exact ⟨by rw [HQ.out]; rfl, HB2.out⟩

/-- What is known behind a log, or nothing. -/
def KnownP (w : World) (b : List Vc.St) (L : List (NV × Nt)) (su : Int) (e : Ending) (w' : World) : Prop :=
  (lgF b L su = true ∧ ∃ q K kc, lgW (vec (jn [b])) (nts L) = some q ∧ e = .returned (.slice K q.length kc) ∧ Rd w' w'.heap.size 2 K q.length kc (sv q) ∧ Below w.heap.size w w') ∨
  (lgF b L su = false ∧ e = .returned (.slice none 0 0) ∧ Below w.heap.size w w')
set_option maxHeartbeats 2000000 in
theorem lgKnown_any (v : LV) (b : List Vc.St) (L : List (NV × Nt)) (su : Int) (w : World) (hT : Tab w) (h : LgRd w v b L) :
    Calls Tryd.prog 31 #[.agg (v.val su)] w (KnownP w b L su) := by
  obtain ⟨A, n, c, D, m, d⟩ := v
  have hb0 : Below w.heap.size w (w.alloc (.cells (LV.val ⟨A, n, c, D, m, d⟩ su) 47)) := (Below.refl _ _).alloc (Nat.le_refl _) _
  have G := Lib.hid (lgWalk_any ⟨A, n, c, D, m, d⟩ b L su _ (hT.below hb0) (h.go hb0))
  have HB := Lib.hid hb0
  have HF := Lib.hid (show lgF b L su = ((lgW (vec (jn [b])) (nts L)).isSome && (fm (-1) b && (decide (0 ≤ su) && decide (su ≤ L.length)))) from rfl)
  clear hT h hb0
  go_enter Tryd.func31, Tryd.ntmps31
  go_wp2_with fail
  refine G.out.mono ?_
  rintro e w1 (⟨q, K, kc, hq, rfl, hR, hb⟩ | ⟨hq, rfl, hb⟩)
  · have HQ := Lib.hid (show lgF b L su = (fm (-1) b && (decide (0 ≤ su) && decide (su ≤ L.length))) by rw [HF.out, hq]; rfl)
    have HB2 := Lib.hid (below_then HB.out (Nat.le_refl _) hb)
    have HR := Lib.hid hR
    have HW := Lib.hid hq
    obtain ⟨qn, hqn⟩ : ∃ qn, qn = q.length := ⟨_, rfl⟩
    rw [← hqn]
    have HN := Lib.hid hqn
    clear hq hR hb G HF hqn
    generalize (fm (-1) b && (decide (0 ≤ su) && decide (su ≤ L.length))) = r at HQ ⊢
    rcases r with _ | _
    · go_wp2
      go_ret
      exact .inr ⟨HQ.out, rfl, HB2.out⟩
    · go_wp2
      go_ret
      exact .inl ⟨HQ.out, q, K, kc, HW.out, by rw [HN.out]; rfl, HR.out, HB2.out⟩
  · have HQ := Lib.hid (show lgF b L su = false by rw [HF.out, hq]; rfl)
    have HB2 := Lib.hid (below_then HB.out (Nat.le_refl _) hb)
    clear hq hb G HF
    go_wp2
    go_ret
    exact .inr ⟨HQ.out, rfl, HB2.out⟩
end Go.Proofs.YtldcgmnfohhjbaaDoor
