/- Walks over vector.Covers and vector.Compare. -/
import Derived.Test.YtldcgmnfohhjbaaDoorVecL
namespace Go.Proofs.YtldcgmnfohhjbaaDoor
open Go.RowKit Go.Shelf
set_option maxRecDepth 100000
attribute [local go_sem] Oper.semAt_some

theorem Blk.kept_ {W W' : World} {row : Option Nat} {g : Nat} {t : TypeId} {cs : Array Value} (h : Blk W g t cs) (hg : W.grownBy W' row) (hr : ∀ r, row = some r → ∃ o : Obj, W.heap[r]? = some o ∧ o.isCells = false) : Blk W' g t cs :=
  h.grown hg (fun e' => by obtain ⟨o, ho, hc⟩ := hr g e'.symm; rw [show W.heap[g]? = _ from h] at ho; cases ho; cases hc)
theorem wpListIn_store_blk {F : Fence} {nF : Nat} {P : Program} {ops : Array Oper} {rest : List Oper} {op : Oper} {a : Act} {w : World} {Q : Exit → Act → World → Prop} (hgd : op.guard = none) (ty : TypeId) (x y : Operand) (ho : op.op = .store ty x y)
    (g : Nat) (t : TypeId) (old cells : Array Value) (hx : a.eval x = .pointer (some ⟨g, 0, none⟩)) (hy : a.eval y = .agg cells) (hg : Blk w g t old)
    (hi : (P.info? ty).map (·.size) = some cells.size) (hs : old.size = cells.size) (h1 : cells.all (·.oneCell') = true)
    (h : ∀ w', Blk w' g t cells → w.grownBy w' (some g) → wpListIn F nF P ops Q rest (a.put op.dst undef) w') : wpListIn F nF P ops Q (op :: rest) a w := by
  refine wpListIn_plain hgd fun K hK => ?_
  unfold Oper.wpIn
  refine ⟨by simp [Oper.about, ho], ?_⟩
  rw [Oper.semAt_plain F _ _ (by rw [ho]; intro c hc'; cases hc')]
  simp only [execOp, ho, hx, hy, Instr.storeAt, Instr.sureAddr, Sem.run_bind, Sem.run_pure, Result.andThen_ok, run_storeVar_row w g t ty old cells hg hi hs h1]
  exact hK _ _ (h _ (setRow_heap w g old _ t _ hg) ⟨rfl, rfl, rfl, by simp, fun k _ hk => setRow_other w g k _ (fun e => hk (by rw [e]))⟩)

set_option maxHeartbeats 4000000 in
theorem covers_any (A D : Option Addr) (n c m d : Nat) (u v : List Vc.St) (w : World) (hT : Tab w) (hl : u.length = n) (hl2 : v.length = m) (hR : Rd w w.heap.size 2 A n c (sv u)) (hR2 : Rd w w.heap.size 2 D m d (sv v)) :
    Calls Tryd.prog 54 #[.slice A n c, .slice D m d] w fun e w' => e = .returned (.bool (covB (Vc.cnt u) (Vc.cnt v))) ∧ Below w.heap.size w w' := by
  have h0lt : 0 < w.heap.size := World.block_lt_of_cell? _ _ (hT 0 (by decide))
  obtain ⟨hz, hi⟩ := zero_of_info zero_counts
  have HI := Lib.hid hi
  have H0 := Lib.hid fun (W : World) hR => read_any A n c u W hl hR
  have H1 := Lib.hid fun (W : World) hR => all_any D m d v W hl2 hR
  have HR := Lib.hid hR
  have HR2 := Lib.hid hR2
  obtain ⟨hfa, hha⟩ : ∃ hh, hh = has_ (Vc.cnt u) := ⟨_, rfl⟩
  rw [← hha] at H0
  obtain ⟨f, hf⟩ : ∃ f, f = Vc.cnt u := ⟨_, rfl⟩
  rw [← hf] at H0 ⊢
  have HP := Lib.hid (Vc.cnt_nonneg u)
  rw [← hf] at HP
  obtain ⟨g, hg⟩ : ∃ g, g = Vc.cnt v := ⟨_, rfl⟩
  rw [← hg] at H1 ⊢
  clear hR hR2 hl hl2 hf hg hi hha
  refine (callsIn_wide (n := 3)).1 ?_
  refine callsIn_of_wp_marks Tryd.func54 rfl trivial ?_ rfl
  simp only [Tryd.ntmps54, List.size_toArray, List.length_cons, List.length_nil, Nat.reduceAdd, Nat.reduceSub, Array.replicate_succ, Array.replicate_zero, List.push_toArray, List.append_toArray, List.nil_append, List.cons_append]
  gi_wp2_with fail
  have hbA : Below w.heap.size w (w.alloc (.cells #[.bool false] 4)) := (Below.refl _ w).alloc (Nat.le_refl _) _
  have bO := Boxed.new w 4 (.bool false)
  have hTA := hT.below hbA
  obtain ⟨W0, hW0⟩ : ∃ W0, W0 = w.alloc (.cells #[.bool false] 4) := ⟨_, rfl⟩
  have hs0 : W0.heap.size = w.heap.size + 1 := by rw [hW0]; simp
  rw [← hW0] at bO hbA hTA ⊢
  clear hW0
  refine ⟨trivial, ?_⟩
  refine (callsIn_wide.2 (H0.out W0 (HR.out.go hbA))).mono ?_
  rintro e w1 ⟨rfl, hb1⟩
  have hbw1 : Below w.heap.size w w1 := below_then hbA (Nat.le_refl _) hb1
  have bO1 : Boxed w1 w.heap.size 4 (.bool false) := (hb1.block _ (by omega)).trans bO
  have hT1 := hTA.below hb1
  have hs1 := hb1.size
  have HNw := Lib.hid (Blk.new w1 89 (cc (fun _ => 0) 0))
  clear H0 hb1 hbA bO hTA HR
  gi_wp2_with (refine wpListIn_store_blk rfl 89 _ _ rfl w1.heap.size 89 _ (cc f hfa) rfl rfl HNw.out (by rw [cc_size]; exact HI.out) rfl (cc_oneCell _ _) ?_; intro w2 hk2 hg2)
  have hb2 : Below w1.heap.size w1 w2 := ((Below.refl w1.heap.size w1).alloc (Nat.le_refl _) _).trans (grown_below hg2 (by simp) (fun k hk => by cases hk; omega))
  have hbw2 : Below w.heap.size w w2 := hbw1.trans (hb2.mono (by omega))
  have bO2 : Boxed w2 w.heap.size 4 (.bool false) := (hb2.block _ (by omega)).trans bO1
  have hT2 := hT1.below hb2
  have hs2 := hb2.size
  have hs2' := hk2.lt
  refine ⟨trivial, ?_⟩
  refine (callsIn_wide.2 (H1.out w2 (HR2.out.go hbw2))).mono ?_
  rintro e w3 ⟨G, Bx, rfl, hG, hBx, hg1, hb1, hb⟩
  have hbw : Below w.heap.size w w3 := below_then hbw2 (Nat.le_refl _) hb
  have bO3 : Boxed w3 w.heap.size 4 (.bool false) := (hb.block _ (by omega)).trans bO2
  have bC3 := hk2.go hb
  have hGood : Good G Bx (fun m k => k = g m) w3 := ⟨hT2.below hb, hBx, g, _, hG, fun _ _ => rfl⟩
  have hh := hG.cell 64
  rw [cc_has, has_pos] at hh
  have hs3 := hb.size
  clear H1 HR2 hb hb2 hbw1 hbw2 bO1 bO2 hk2 hT1 hT2 HNw hg2 hz HI
  gi_wp2
  refine wpIn_rangeFunc_ownG rfl (by omega) (gf := 90) (lb := #[.pointer (some ⟨Bx, 0, none⟩)]) rfl trivial (enters_of Tryd.func90 (by kernel_rfl) rfl)
    (each_stops (3 - 1) (by omega) G Bx (pos g) (fun m k => k = g m) _ hGood hh) good_t (good_b hG.lt hBx.lt (by omega)) (Below.refl _ _) (fun _ => rfl)
    (fun pre W => (Blk W w1.heap.size 89 (cc f hfa) ∧ Boxed W w.heap.size 4 (.bool false) ∧ ∀ j ∈ nds pre, g j ≤ f j) ∧ Below w.heap.size w W)
    (fun c pre W => (c = .ret ∧ Boxed W w.heap.size 4 (.bool false) ∧ covB f g = false) ∧ Below w.heap.size w W)
    (OwnFrom.and (Own.from (fun s X Y row hs hg hr => ⟨hs.1.kept_ hg hr, boxed_own w.heap.size 4 (fun _ => .bool false) s X Y row hs.2.1 hg hr, hs.2.2⟩) _) (ownFrom_below (Nat.le_refl _) (by omega)))
    (fun c => OwnFrom.and (Own.from (fun s X Y row hs hg hr => ⟨hs.1, boxed_own w.heap.size 4 (fun _ => .bool false) s X Y row hs.2.1 hg hr, hs.2.2⟩) _) (ownFrom_below (Nat.le_refl _) (by omega)))
    ⟨⟨bC3, bO3, fun j hj => by simp [nds] at hj⟩, hbw⟩
    (fun x => { tmps := #[.slice A n c, .slice D m d, undef, undef, .pointer (some ⟨w.heap.size, 0, none⟩), .pointer (some ⟨w1.heap.size, 0, none⟩), .int .i64 (x.1.1 : Int), .int .i64 x.1.2, .slice A n c, .agg (cc f hfa), .slice D m d, .func (.func 90) #[] #[.pointer (some ⟨Bx, 0, none⟩)], .int .i64 (x.1.1 : Int), .int .i64 x.1.2, undef, undef, undef, undef, undef, undef], defers := [] }) ?assign ?body ?done ?stop
  case assign =>
    intro l x W K hK
    dsimp only [evs]
    gi_wp2
    exact hK
  case body =>
    rintro l pre x W ⟨⟨hC, hv, hall⟩, hB⟩ hlt
    have hj := x.2.1
    have hc := hv.cell
    have hfz := hv.frozen
    have g1 := hC.cell x.1.1
    rw [cc_at _ _ _ hj] at g1
    have HX := Lib.hid x.2.2.2
    have HA := Lib.hid hall
    obtain ⟨y, hy⟩ : ∃ y, y = f x.1.1 := ⟨_, rfl⟩
    rw [← hy] at g1
    have HY := Lib.hid hy
    clear hall hy
    gi_wp2
    · rename_i hlt2
      refine ⟨(KeepsOthers.setCell _ _ _).from _, ⟨rfl, hv.set _, covB_false hj ?_⟩, hB.setCell (p := ⟨w.heap.size, 0, none⟩) (Nat.le_refl _) _⟩
      rw [← HY.out, ← HX.out]; first | exact hlt2 | simpa using hlt2
    · rename_i hlt2
      refine ⟨KeepsFrom.refl _ _, fun hg => hg, ⟨hC, hv, fun i hi => ?_⟩, hB⟩
      rw [nds_snoc] at hi
      rcases List.mem_append.1 hi with h1 | h1
      · exact HA.out i h1
      · rw [show i = x.1.1 by simpa using h1]
        rw [← HY.out, ← HX.out]
        first | omega | (have : ¬ y < x.1.2 := by simpa using hlt2
                         omega)
  case done =>
    rintro E ys W hD hys ⟨⟨hC, hv, hall⟩, hB⟩ hK
    have HX := Lib.hid (show covB f g = true by
      refine (covB_iff f g).2 fun i hi => ?_
      rw [hys] at hall
      by_cases h : 0 < g i
      · exact hall i (by simp [Vc.upto, pos, hi, h])
      · have := HP.out i; omega)
    have hc := hv.cell
    have hfz := hv.frozen
    clear hys hall
    gi_wp2
    have hK' := (KeepsOthers.setCell W ⟨w.heap.size, 0, none⟩ (.bool true)).same E _ hK rfl
    refine ⟨by simp, .inl ⟨_, _, rfl, run_takeDeferred hK', ?_⟩⟩
    have hc5 := cell_kept (World.cell?_setCell_same' W ⟨w.heap.size, 0, none⟩ (.bool true) (by rw [hc]; rfl)) (grownBy_putObj' _ E (.deferred none)) (fun r e => by cases e; exact ⟨_, hK', rfl⟩)
    refine ⟨.bool true, ?_, by rw [HX.out], (hB.setCell (p := ⟨w.heap.size, 0, none⟩) (Nat.le_refl _) _).trans (belowK_b (w := w) (Nat.le_refl _) _ E _ _ (by omega) hK' rfl rfl)⟩
    simp [results, Tryd.f54, go_sem, hc5]
  case stop =>
    rintro E c' pre W hD _ ⟨⟨rfl, hv, hcov⟩, hB⟩ hK
    have HX := Lib.hid hcov
    have hc := hv.cell
    clear hcov
    gi_wp2
    refine ⟨by simp, .inl ⟨_, _, rfl, run_takeDeferred hK, ?_⟩⟩
    have hc5 := cell_kept hc (grownBy_putObj' _ E (.deferred none)) (fun r e => by cases e; exact ⟨_, hK, rfl⟩)
    refine ⟨.bool false, ?_, by rw [HX.out], hB.trans (belowK_b (w := w) (Nat.le_refl _) W E _ _ (by omega) hK rfl rfl)⟩
    simp [results, Tryd.f54, go_sem, hc5]

end Go.Proofs.YtldcgmnfohhjbaaDoor
