/- Walks over vector.list: a range over the iterator that appends. -/
import Derived.Test.YtldcgmnfohhjbaaDoorVecJ
import Derived.Maps.OwnIn
namespace Go.Proofs.YtldcgmnfohhjbaaDoor
open Go.RowKit Go.Shelf
set_option maxRecDepth 100000
attribute [local go_sem] Oper.semAt_some

theorem Blk.not_row {W : World} {B : Nat} {t e : TypeId} {cs : Array Value} (h : Blk W B t cs) (hte : t ≠ e) {base size k : Nat} {v : Value} {xs : List Value} (hr : W.ownsRow base e size v k xs) : some B ≠ v.ownBlock := by
  rcases hr.2 with ⟨rfl, _⟩ | ⟨g, cap, cur, rfl, _, hgb, _⟩
  · simp [Value.ownBlock]
  · intro e'
    obtain rfl : B = g := by simpa [Value.ownBlock] using e'
    rw [show W.heap[B]? = _ from h] at hgb
    injection hgb with hgb
    injection hgb with _ h2
    exact hte h2

theorem Good.grown {G Bx : Nat} {val : Nat → Int → Prop} {W W' : World} {row : Option Nat} (h : Good G Bx val W) (hg : W.grownBy W' row) (h1 : some G ≠ row) (h2 : some Bx ≠ row) (h0 : some 0 ≠ row) : Good G Bx val W' := by
  obtain ⟨f, c, hf, hv⟩ := h.cnts
  refine ⟨fun j hj => ?_, h.box.grown hg h2, f, c, hf.grown hg h1, hv⟩
  have := h.tab j hj
  rw [World.cell?_of_block (hg.block 0 (World.block_lt_of_cell? _ _ this) h0)]
  exact this
theorem Good.alloc {G Bx : Nat} {val : Nat → Int → Prop} {W : World} (h : Good G Bx val W) (o : Obj) : Good G Bx val (W.alloc o) := h.grown (World.grownBy_alloc W o none) (by simp) (by simp) (by simp)
theorem Good.set_ {G Bx : Nat} {val : Nat → Int → Prop} {W : World} (h : Good G Bx val W) {B : Nat} (u : Value) (h1 : G ≠ B) (h2 : Bx ≠ B) (h0 : 0 ≠ B) : Good G Bx val (W.setCell ⟨B, 0, none⟩ u) :=
  h.grown (grownBy_setCell' W B u) (fun e => h1 (by cases e; rfl)) (fun e => h2 (by cases e; rfl)) (fun e => h0 (by cases e; rfl))

/-- The stamps that have come. -/
def come (f : Nat → Int) {p : Nat → Bool} {val : Nat → Int → Prop} (l : List (Ev p val)) : List Vc.St := (nds l).map fun n => (f n, (n : Int))
theorem come_snoc (f : Nat → Int) {p : Nat → Bool} (l : List (Ev p fun m k => k = f m)) (x : Ev p fun m k => k = f m) : come f (l ++ [x]) = come f l ++ [(x.1.2, (x.1.1 : Int))] := by
  have := x.2.2.2
  simp [come, nds_snoc, ← this]
theorem come_all (f : Nat → Int) {p : Nat → Bool} {val : Nat → Int → Prop} (l : List (Ev p val)) (h : nds l = Vc.upto p 64) : come f l = vecTo f p 64 := by rw [come, h]; rfl
theorem come_len (f : Nat → Int) {p : Nat → Bool} {val : Nat → Int → Prop} (l : List (Ev p val)) : (come f l).length = l.length := by simp [come, nds]

theorem cells_new_at (w : World) (cs : Array Value) (t : TypeId) (j : Nat) : (w.alloc (.cells cs t)).cell? ((⟨w.heap.size, 0, none⟩ : Addr).add j) = cs[j]? := by
  have hadd : (⟨w.heap.size, 0, none⟩ : Addr).add j = ⟨w.heap.size, j, none⟩ := by unfold Addr.add; split <;> simp_all
  rw [hadd, cell_of_row _ w.heap.size j cs t (0, 0) (heap_alloc_new w _)]

set_option maxHeartbeats 4000000 in
theorem list_any (G : Nat) (f : Nat → Int) (p : Nat → Bool) (w : World) (hT : Tab w) (hB : Blk w G 89 (cc f (Vc.msk p))) :
    Calls Tryd.prog 85 #[.pointer (some ⟨G, 0, none⟩)] w fun e w' => ∃ A' c', e = .returned (.slice A' (vecTo f p 64).length c') ∧
      w'.ownsRow w.heap.size 24 2 (.slice A' (vecTo f p 64).length c') (vecTo f p 64).length (sv (vecTo f p 64)) ∧ Below w.heap.size w w' := by
  obtain ⟨i0, hi, hz0, hz1, hz2⟩ := info_parts stamp_info
  have h0lt : 0 < w.heap.size := World.block_lt_of_cell? _ _ (hT 0 (by decide))
  refine (callsIn_wide (n := 3)).1 ?_
  refine callsIn_of_wp_marks Tryd.func85 rfl trivial ?_ rfl
  simp only [Tryd.ntmps85, List.size_toArray, List.length_cons, List.length_nil, Nat.reduceAdd, Nat.reduceSub, Array.replicate_succ, Array.replicate_zero, List.push_toArray, List.append_toArray, List.nil_append, List.cons_append]
  gi_wp2_with (refine ⟨trivial, ?_⟩; gi_at_call 86; refine (callsIn_wide.2 (each_any _ _)).mono ?_; rintro e w' ⟨rfl, rfl⟩)
  have bO := Boxed.new w 22 (.slice none 0 0)
  have bN := Blk.new (w.alloc (.cells #[.slice none 0 0] 22)) 112 #[.pointer (some ⟨G, 0, none⟩)]
  rw [World.size_alloc] at bN
  have hB0 : Below w.heap.size w ((w.alloc (.cells #[.slice none 0 0] 22)).alloc (.cells #[.pointer (some ⟨G, 0, none⟩)] 112)) := ((Below.refl _ w).alloc (Nat.le_refl _) _).alloc (by simp) _
  have hBG := (hB.alloc (.cells #[.slice none 0 0] 22)).alloc (.cells #[.pointer (some ⟨G, 0, none⟩)] 112)
  have hGood : Good G (w.heap.size + 1) (fun m k => k = f m) ((w.alloc (.cells #[.slice none 0 0] 22)).alloc (.cells #[.pointer (some ⟨G, 0, none⟩)] 112)) :=
    ⟨hT.below hB0, bN, f, _, hBG, fun _ _ => rfl⟩
  have hh := hBG.cell 64
  rw [cc_has] at hh
  have hGlt := hB.lt
  refine wpIn_rangeFunc_ownG rfl (by omega) (gf := 90) (lb := #[.pointer (some ⟨w.heap.size + 1, 0, none⟩)]) rfl trivial (enters_of Tryd.func90 (by kernel_rfl) rfl)
    (each_stops (3 - 1) (by omega) G (w.heap.size + 1) p (fun m k => k = f m) _ hGood hh) good_t (good_b (by simp; omega) (by simp) (by simp)) (Below.refl _ _) (fun _ => rfl)
    (fun pre W => (∃ v, Boxed W w.heap.size 22 v ∧ W.ownsRow w.heap.size 24 2 v (come f pre).length (sv (come f pre)) ∧ True) ∧ Below w.heap.size w W)
    (fun _ _ _ => False)
    (OwnFrom.and (Own.from (holdsRow_own w.heap.size w.heap.size 22 24 2 (fun pre => (come f pre).length) (fun pre => sv (come f pre)) (fun pre v => True)) _) (ownFrom_below (Nat.le_refl _) (by simp; omega)))
    (fun _ _ _ _ _ hs _ _ => hs)
    ⟨⟨_, bO.alloc _, World.ownsRow_nil _ _ _ _, trivial⟩, hB0⟩
    (fun x => { tmps := #[.pointer (some ⟨G, 0, none⟩), undef, .slice none 0 0, .pointer (some ⟨w.heap.size, 0, none⟩), .int .i64 (x.1.1 : Int), .int .i64 x.1.2, .pointer (some ⟨G, 0, none⟩), .func (.func 90) #[] #[.pointer (some ⟨w.heap.size + 1, 0, none⟩)], .int .i64 (x.1.1 : Int), .int .i64 x.1.2, undef, undef, undef, undef, undef, undef, undef], defers := [] }) ?assign ?body ?done ?stop
  case assign =>
    intro l x W K hK
    dsimp only [evs]
    gi_wp2
    exact hK
  case body =>
    rintro l pre x W ⟨⟨v, hv, hrow, _⟩, hB⟩ hlt
    have hc := hv.cell
    have hpl : (come f pre).length < 64 := by rw [come_len]; exact hlt
    gi_wp2_with (gi_at_builtin; go_must (refine wpListIn_append_own _ rfl _ _ 22 rfl w.heap.size 24 i0 _ 2 16 Tryd.underlying22 hi hz0 hz1 hz2 rfl (by decide) _ _ _ rfl (hrow.alloc _) ⟨W.heap.size, 0, none⟩ 1 1 [.int .i64 x.1.2, .int .i64 (x.1.1 : Int)] rfl rfl (fun j u hu => by rw [cells_new_at]; simpa using hu) (by simp [Value.oneCell']) (by simp [maxLen]; omega) (by omega) (by have := hB.size; simp; omega) ?_); intro v' w1 hown' hgrow _; obtain ⟨g', cap', rfl⟩ := ownsRow_succ hown'; obtain ⟨hv1, hv2, hr2, hk2, hb2⟩ := hv.appended (by decide) hrow hB.size (Nat.le_refl _) hown' hgrow; have hc1 := hv1.cell; have hf1 := hv1.frozen)
    refine ⟨hk2.from _, fun hg => ?_, ⟨_, hv2, ?own⟩, hB.trans hb2⟩
    · obtain ⟨f', c', h1, _⟩ := hg.cnts
      refine ((hg.alloc _).grown hgrow (Blk.not_row h1 (by decide) hrow) (Blk.not_row hg.box (by decide) hrow) (fun e => ?_)).set_ _ (by omega) (by omega) (by omega)
      have := own_lt hrow _ e.symm
      omega
    case own =>
      have e : sv (come f (pre ++ [x])) = sv (come f pre) ++ [.int .i64 x.1.2, .int .i64 (x.1.1 : Int)] := by rw [come_snoc, sv_app]; rfl
      have e2 : (come f (pre ++ [x])).length = (come f pre).length + 1 := by rw [come_snoc, List.length_append]; rfl
      show World.ownsRow _ _ _ _ _ _ _
      rw [e, e2]
      exact hr2
  case done =>
    rintro D ys W hD hys ⟨⟨v, hv, hrow, _⟩, hB⟩ hK
    have hc := hv.cell
    rw [come_all f ys hys] at hrow
    gi_wp2
    refine ⟨by simp, .inl ⟨_, _, rfl, run_takeDeferred hK, ?_⟩⟩
    obtain ⟨A', c', rfl, _⟩ := own_form hrow
    exact ⟨_, results_tmp rfl _ _ _, A', c', rfl, ownsRow_putObj hrow _ hK rfl, hB.trans (belowK_b (w := w) (Nat.le_refl _) W D _ _ (by simp at hD; omega) hK rfl rfl)⟩
  case stop =>
    rintro D c pre W _ _ h _
    exact h.elim
end Go.Proofs.YtldcgmnfohhjbaaDoor
