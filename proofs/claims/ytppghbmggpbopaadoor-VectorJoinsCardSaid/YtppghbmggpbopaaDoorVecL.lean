/- Walks over vector.Greatest and vector.Covers. -/
import Derived.Test.YtppghbmggpbopaaDoorVecK
namespace Go.Proofs.YtppghbmggpbopaaDoor
open Go.RowKit Go.Shelf
set_option maxRecDepth 100000
attribute [local go_sem] Oper.semAt_some

/-- The greatest of what has come. -/
def mxl (f : Nat → Int) (l : List Nat) : Int := l.foldl (fun a n => max a (f n)) 0
theorem mxl_snoc (f : Nat → Int) (l : List Nat) (n : Nat) : mxl f (l ++ [n]) = max (mxl f l) (f n) := by simp [mxl]
theorem mxl_nonneg (f : Nat → Int) (l : List Nat) : 0 ≤ mxl f l := by
  have : ∀ a : Int, 0 ≤ a → 0 ≤ l.foldl (fun a n => max a (f n)) a := by
    induction l with
    | nil => exact fun a h => h
    | cons x l ih => exact fun a h => ih (max a (f x)) (by omega)
  exact this 0 (by omega)
theorem mxl_all (f : Nat → Int) (k : Nat) (hf : ∀ n, 0 ≤ f n) : mxl f (Vc.upto (pos f) k) = grTo f k := by
  induction k with
  | zero => rfl
  | succ k ih =>
    have h0 : 0 ≤ grTo f k := by rw [← ih]; exact mxl_nonneg _ _
    rw [gr_next, ← ih]
    by_cases h : 0 < f k
    · rw [Vc.upto_hit (pos f) k k (Nat.le_refl _) (fun j h1 h2 => by omega) (by simpa [pos] using h), mxl_snoc]
    · rw [Vc.upto_skip (pos f) k (k + 1) (by omega) (fun j h1 h2 => by obtain rfl : j = k := by omega
                                                                       simpa [pos] using h)]
      have := hf k
      have : f k = 0 := by omega
      rw [this]
      omega
theorem has_pos (f : Nat → Int) : has_ f = Vc.msk (pos f) := rfl

set_option maxHeartbeats 4000000 in
theorem greatest_any (A : Option Addr) (n c : Nat) (v : List Vc.St) (w : World) (hT : Tab w) (hl : v.length = n) (hR : Rd w w.heap.size 2 A n c (sv v)) :
    Calls Tryd.prog 26 #[.slice A n c] w fun e w' => e = .returned (.int .i64 (grTo (Vc.cnt v) 64)) ∧ Below w.heap.size w w' := by
  have h0lt : 0 < w.heap.size := World.block_lt_of_cell? _ _ (hT 0 (by decide))
  have H1 := Lib.hid fun (W : World) hR => all_any A n c v W hl hR
  have HR := Lib.hid hR
  have HN := Lib.hid (Vc.cnt_nonneg v)
  obtain ⟨f, hf⟩ : ∃ f, f = Vc.cnt v := ⟨_, rfl⟩
  rw [← hf] at H1 HN ⊢
  clear hR hl hf
  refine (callsIn_wide (n := 3)).1 ?_
  refine callsIn_of_wp_marks Tryd.func26 rfl trivial ?_ rfl
  simp only [Tryd.ntmps26, List.size_toArray, List.length_cons, List.length_nil, Nat.reduceAdd, Nat.reduceSub, Array.replicate_succ, Array.replicate_zero, List.push_toArray, List.append_toArray, List.nil_append, List.cons_append]
  gi_wp2_with fail
  have hbA : Below w.heap.size w (w.alloc (.cells #[.int .i64 0] 3)) := (Below.refl _ w).alloc (Nat.le_refl _) _
  have bO := Boxed.new w 3 (.int .i64 0)
  have hTA := hT.below hbA
  obtain ⟨W0, hW0⟩ : ∃ W0, W0 = w.alloc (.cells #[.int .i64 0] 3) := ⟨_, rfl⟩
  have hs0 : W0.heap.size = w.heap.size + 1 := by rw [hW0]; simp
  rw [← hW0] at bO hbA hTA ⊢
  clear hW0
  refine ⟨trivial, ?_⟩
  refine (callsIn_wide.2 (H1.out W0 (HR.out.go hbA))).mono ?_
  rintro e w1 ⟨G, Bx, rfl, hG, hBx, hg1, hb1, hb⟩
  have hbw : Below w.heap.size w w1 := below_then hbA (Nat.le_refl _) hb
  have bO1 : Boxed w1 w.heap.size 3 (.int .i64 0) := (hb.block _ (by omega)).trans bO
  have hGood : Good G Bx (fun m k => k = f m) w1 := ⟨hTA.below hb, hBx, f, _, hG, fun _ _ => rfl⟩
  have hh := hG.cell 64
  rw [cc_has, has_pos] at hh
  have hs1 := hb.size
  clear H1 HR hb hbA bO hTA
  gi_wp2
  refine wpIn_rangeFunc_ownG rfl (by omega) (gf := 39) (lb := #[.pointer (some ⟨Bx, 0, none⟩)]) rfl trivial (enters_of Tryd.func39 (by kernel_rfl) rfl)
    (each_stops (3 - 1) (by omega) G Bx (pos f) (fun m k => k = f m) _ hGood hh) good_t (good_b hG.lt hBx.lt (by omega)) (Below.refl _ _) (fun _ => rfl)
    (fun pre W => Boxed W w.heap.size 3 (.int .i64 (mxl f (nds pre))) ∧ Below w.heap.size w W)
    (fun _ _ _ => False)
    (OwnFrom.and (Own.from (boxed_own w.heap.size 3 (fun pre => .int .i64 (mxl f (nds pre)))) _) (ownFrom_below (Nat.le_refl _) (by omega)))
    (fun _ _ _ _ _ hs _ _ => hs)
    ⟨bO1, hbw⟩
    (fun x => { tmps := #[.slice A n c, undef, .int .i64 0, .pointer (some ⟨w.heap.size, 0, none⟩), undef, .int .i64 x.1.2, .slice A n c, .func (.func 39) #[] #[.pointer (some ⟨Bx, 0, none⟩)], .int .i64 (x.1.1 : Int), .int .i64 x.1.2, undef, undef, undef, undef], defers := [] }) ?assign ?body ?done ?stop
  case assign =>
    intro l x W K hK
    dsimp only [evs]
    gi_wp2
    exact hK
  case body =>
    rintro l pre x W ⟨hv, hB⟩ hlt
    have hc := hv.cell
    have hfz := hv.frozen
    have HX := Lib.hid (show mxl f (nds (pre ++ [x])) = max (mxl f (nds pre)) x.1.2 by rw [nds_snoc, mxl_snoc, ← x.2.2.2])
    generalize mxl f (nds pre) = y at hc hv HX
    obtain ⟨k, hk⟩ : ∃ k, k = x.1.2 := ⟨_, rfl⟩
    rw [← hk] at HX ⊢
    clear hk
    gi_wp2
    all_goals
      refine ⟨(KeepsOthers.setCell _ _ _).from _, fun hg => hg.set_ _ (by omega) (by omega) (by omega), ?_, hB.setCell (p := ⟨w.heap.size, 0, none⟩) (Nat.le_refl _) _⟩
      rename_i hle
      have e : mxl f (nds (pre ++ [x])) = _ := HX.out
      have h3 := hv.set (.int .i64 (mxl f (nds (pre ++ [x]))))
      first
      | (rw [show mxl f (nds (pre ++ [x])) = k by omega] at h3 ⊢; exact h3)
      | (rw [show mxl f (nds (pre ++ [x])) = y by omega] at h3 ⊢; exact h3)
  case done =>
    rintro D ys W hD hys ⟨hv, hB⟩ hK
    have HX := Lib.hid (show mxl f (nds ys) = grTo f 64 by rw [hys, mxl_all f 64 HN.out])
    generalize mxl f (nds ys) = y at hv HX
    have hc := hv.cell
    clear hys
    gi_wp2
    refine ⟨by simp, .inl ⟨_, _, rfl, run_takeDeferred hK, ?_⟩⟩
    exact ⟨_, results_tmp rfl _ _ _, by rw [HX.out]; rfl, hB.trans (belowK_b (w := w) (Nat.le_refl _) W D _ _ (by omega) hK rfl rfl)⟩
  case stop =>
    rintro D c pre W _ _ h _
    exact h.elim
end Go.Proofs.YtppghbmggpbopaaDoor
