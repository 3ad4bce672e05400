/- Walks over vector.Join: a range over an iterator in a plain loop. -/
import Derived.Test.YtldcgmnfohhjbaaDoorVecM
namespace Go.Proofs.YtldcgmnfohhjbaaDoor
open Go.RowKit Go.Shelf
set_option maxRecDepth 100000
attribute [local go_sem] Oper.semAt_some

theorem blk_own {β : Type} (g : Nat) (t : TypeId) (f : β → Array Value) : Own (fun s W => Blk W g t (f s)) := fun _ _ _ _ hs hg hr => Blk.kept_ hs hg hr

/-- The marks that the loops so far have left. -/
def Marks (n₀ : Nat) (w : World) : List Deferred → Prop
  | [] => True
  | d :: ds => (∃ D, d = { target := .collected D, args := #[] } ∧ n₀ ≤ D ∧ w.heap[D]? = some (.deferred (some [])) ∧ ∀ d' ∈ ds, d' ≠ { target := .collected D, args := #[] }) ∧ Marks n₀ w ds
theorem Marks.lt {n₀ : Nat} {w : World} : ∀ {ds : List Deferred}, Marks n₀ w ds → ∀ D, ({ target := .collected D, args := #[] } : Deferred) ∈ ds → D < w.heap.size ∧ w.heap[D]? = some (.deferred (some []))
  | _ :: _, ⟨⟨D', hd, _, hk, _⟩, hm⟩, D, h => by
    rcases List.mem_cons.1 h with e | h
    · rw [hd] at e
      injection e with e _
      injection e with e
      subst e
      exact ⟨(Array.getElem?_eq_some_iff.1 hk).1, hk⟩
    · exact hm.lt D h
theorem Marks.keep {n₀ : Nat} {w w' : World} (hk : ∀ D : Nat, w.heap[D]? = some (.deferred (some [])) → n₀ ≤ D → w'.heap[D]? = some (.deferred (some []))) : ∀ {ds : List Deferred}, Marks n₀ w ds → Marks n₀ w' ds
  | [], _ => trivial
  | _ :: _, ⟨⟨D, hd, hn, h1, h2⟩, hm⟩ => ⟨⟨D, hd, hn, hk D h1 hn, h2⟩, hm.keep hk⟩
theorem Marks.grown {n₀ : Nat} {w w' : World} {ds : List Deferred} {row : Option Nat} (h : Marks n₀ w ds) (hg : w.grownBy w' row) (hr : ∀ r, row = some r → w.heap[r]? ≠ some (.deferred (some []))) : Marks n₀ w' ds :=
  h.keep fun D hD _ => (hg.block D (Array.getElem?_eq_some_iff.1 hD).1 (fun e => hr D e.symm hD)).trans hD
theorem Marks.below {n₀ : Nat} {w w' : World} {ds : List Deferred} (h : Marks n₀ w ds) (hb : Below w.heap.size w w') : Marks n₀ w' ds :=
  h.keep fun D hD _ => (hb.block D (Array.getElem?_eq_some_iff.1 hD).1).trans hD
theorem Marks.set_ {n₀ : Nat} {w : World} {ds : List Deferred} (h : Marks n₀ w ds) {g : Nat} {t : TypeId} {cs : Array Value} (hg : Blk w g t cs) (i : Nat) (u : Value) : Marks n₀ (w.setCell ⟨g, i, none⟩ u) ds :=
  h.keep fun D hD _ => (Below.heap_setCell w ⟨g, i, none⟩ u D (fun e => by
    subst e
    rw [show w.heap[D]? = _ from hg] at hD
    cases hD)).trans hD
theorem Marks.push {n₀ : Nat} {w w' : World} {ds : List Deferred} (h : Marks n₀ w ds) {D : Nat} (hD : w'.heap[D]? = some (.deferred (some []))) (hn : n₀ ≤ D) (hw : w.heap.size ≤ D) (h' : Marks n₀ w' ds) : Marks n₀ w' ({ target := .collected D, args := #[] } :: ds) :=
  ⟨⟨D, rfl, hn, hD, fun d' hd' e => by subst e; have := (h.lt D hd').1; omega⟩, h'⟩
theorem marks_ownFrom {β : Type} {n₀ B : Nat} {w₀ : World} {ds : List Deferred} (h : Marks n₀ w₀ ds) (hB : w₀.heap.size ≤ B) : OwnFrom B (fun (_ : β) W => Marks n₀ W ds) :=
  fun s W W' row hs hg hr => by
    have hm : ∀ {ds : List Deferred}, (∀ D, ({ target := .collected D, args := #[] } : Deferred) ∈ ds → D < B) → Marks n₀ W ds → Marks n₀ W' ds := by
      intro ds
      induction ds with
      | nil => intro _ _; trivial
      | cons d ds ih =>
        rintro hlt ⟨⟨D, hd, hn, h1, h2⟩, hm⟩
        have hDB := hlt D (by rw [hd]; exact List.mem_cons_self ..)
        exact ⟨⟨D, hd, hn, (hg.block D (Array.getElem?_eq_some_iff.1 h1).1 (fun e => by have := (hr D e.symm).1; omega)).trans h1, h2⟩, ih (fun D' h' => hlt D' (List.mem_cons_of_mem _ h')) hm⟩
    exact hm (fun D hD => by have := (h.lt D hD).1; omega) hs

/-- A function whose loops have left marks is left. -/
theorem leaves_marks {n : Nat} {P : Program} {fn : Func} {tmps : Array Value} {R : Ending → World → Prop} {n₀ : Nat} (Φ : World → Prop)
    (hΦ : ∀ w D, Φ w → n₀ ≤ D → w.heap[D]? = some (.deferred (some [])) → Φ (w.putObj D (.deferred none)))
    (hend : ∀ w, Φ w → LeavesInM Fence.wide n P fn tmps R [] .returning w) : ∀ (ds : List Deferred) (w : World), Marks n₀ w ds → Φ w → LeavesInM Fence.wide n P fn tmps R ds .returning w
  | [], w, _, h => hend w h
  | d :: ds, w, ⟨⟨D, hd, hn, hk, hne⟩, hm⟩, h => by
    refine ⟨by simp, .inl ⟨D, _, by rw [hd], run_takeDeferred hk, ?_⟩⟩
    refine leaves_marks Φ hΦ hend ds _ ?_ (hΦ w D h hn hk)
    have hgo : ∀ {ds : List Deferred}, (∀ d' ∈ ds, d' ≠ ({ target := .collected D, args := #[] } : Deferred)) → Marks n₀ w ds → Marks n₀ (w.putObj D (.deferred none)) ds := by
      intro ds
      induction ds with
      | nil => intro _ _; trivial
      | cons d ds ih =>
        rintro hne ⟨⟨D', hd', hn', h1, h2⟩, hm⟩
        refine ⟨⟨D', hd', hn', ?_, h2⟩, ih (fun d' h' => hne d' (List.mem_cons_of_mem _ h')) hm⟩
        have : D' ≠ D := fun e => hne d (List.mem_cons_self ..) (by rw [hd', e])
        rw [World.putObj_heap_other (fun e => this (by first | exact e | exact e.symm))]
        exact h1
    exact hgo hne hm

/-- The greater counts of the nodes that have come. -/
def jl (f g : Nat → Int) (l : List Nat) : Nat → Int := fun j => if j ∈ l then max (f j) (g j) else f j
theorem jl_nil (f g : Nat → Int) : jl f g [] = f := by funext j; simp [jl]
theorem jl_snoc (f g : Nat → Int) (l : List Nat) (m : Nat) (x : Int) (hx : x = max (jl f g l m) (g m)) : ∀ j, upd (jl f g l) m x j = jl f g (l ++ [m]) j := fun j => by
  subst hx
  unfold upd jl
  by_cases e : j = m
  · subst e
    simp only [if_true, List.mem_append, List.mem_singleton, or_true]
    split <;> omega
  · simp [e]
theorem jl_has (f g : Nat → Int) (l : List Nat) (m : Nat) (hm : m < 64) (hg : 0 < g m) : Vc.msk (pos (jl f g l)) ||| 2 ^ m = Vc.msk (pos (jl f g (l ++ [m]))) := by
  rw [Vc.msk_add _ _ hm]
  refine Vc.msk_congr fun j _ => ?_
  unfold pos jl
  by_cases e : j = m
  · subst e
    simp only [List.mem_append, List.mem_singleton, or_true, if_true, decide_true, Bool.or_true]
    have : 0 < max (f j) (g j) := by omega
    simp [this]
  · simp [e]
theorem jl_all (f g : Nat → Int) (hf : ∀ n, 0 ≤ f n) (hg : ∀ n, 0 ≤ g n) : ∀ j, j < 64 → jl f g (Vc.upto (pos g) 64) j = max (f j) (g j) := fun j hj => by
  unfold jl
  have h1 := hf j
  have h2 := hg j
  by_cases h : 0 < g j
  · rw [if_pos (by simp [Vc.upto, pos, hj, h])]
  · rw [if_neg (by simp [Vc.upto, pos, h])]
    omega
theorem jn_nonneg (vs : List (List Vc.St)) (n : Nat) : 0 ≤ jn vs n := by
  have : ∀ a : Int, 0 ≤ a → 0 ≤ vs.foldl (fun a v => max a (Vc.cnt v n)) a := by
    induction vs with
    | nil => exact fun a h => h
    | cons x l ih => exact fun a h => ih (max a (Vc.cnt x n)) (by omega)
  exact this 0 (by omega)

theorem Good.setc {G Bx : Nat} {val : Nat → Int → Prop} {W : World} (h : Good G Bx val W) {p : Addr} (u : Value) (h1 : G ≠ p.block) (h2 : Bx ≠ p.block) (h0 : 0 ≠ p.block) : Good G Bx val (W.setCell p u) := by
  obtain ⟨f, c, hf, hv⟩ := h.cnts
  refine ⟨fun j hj => ?_, h.box.far h2 u, f, c, hf.far h1 u, hv⟩
  rw [World.cell?_setCell_other W p _ u (fun e => h0 (by rw [e]))]
  exact h.tab j hj
theorem jl_blk {W : World} {B : Nat} {t : TypeId} {fp f g : Nat → Int} {hp m : Nat} {l l' : List Nat} {z : Int} (hC : Blk W B t (cc fp hp)) (hf : fp = jl f g l) (hm : m < 64) (hz : z = max (jl f g l m) (g m))
    (hh : hp ||| 2 ^ m = Vc.msk (pos (jl f g l'))) (hl : l' = l ++ [m]) :
    Blk ((W.setCell ⟨B, m, none⟩ (.int .i64 z)).setCell ⟨B, 64, none⟩ (.int .u64 ((hp ||| 2 ^ m : Nat) : Int))) B t (cc (jl f g l') (Vc.msk (pos (jl f g l')))) := by
  have h5 := (hC.set_ m (.int .i64 z)).set_ 64 (.int .u64 ((hp ||| 2 ^ m : Nat) : Int))
  rw [cc_set _ _ _ _ hm, cc_sethas, hh, hf, cc_congr (fun j _ => jl_snoc f g l m z hz j), ← hl] at h5
  rw [hh]
  exact h5

set_option maxHeartbeats 4000000 in
theorem join_any (A : Option Addr) (n c : Nat) (vs : List (List Vc.St)) (w : World) (hT : Tab w) (hR : RdL w w.heap.size A n c vs) :
    Calls Tryd.prog 69 #[.slice A n c] w fun e w' => ∃ A' c', e = .returned (.slice A' (vec (jn vs)).length c') ∧
      w'.ownsRow w.heap.size 24 2 (.slice A' (vec (jn vs)).length c') (vec (jn vs)).length (sv (vec (jn vs))) ∧ Below w.heap.size w w' := by
  have h0lt : 0 < w.heap.size := World.block_lt_of_cell? _ _ (hT 0 (by decide))
  obtain ⟨hz, hi⟩ := zero_of_info zero_counts
  have HI := Lib.hid hi
  clear hi
  have hlen := hR.len
  have hmax : n ≤ 9223372036854775807 := by have h1 := hR.cap; have h2 := hR.max; unfold maxLen at h2; omega
  refine (callsIn_wide (n := 3)).1 ?_
  refine callsIn_of_wp_marks Tryd.func69 rfl trivial ?_ rfl
  simp only [Tryd.ntmps69, List.size_toArray, List.length_cons, List.length_nil, Nat.reduceAdd, Nat.reduceSub, Array.replicate_succ, Array.replicate_zero, List.push_toArray, List.append_toArray, List.nil_append, List.cons_append]
  gi_wp2
  refine wpIn_loop (fun a' w' => ∃ (ds : List Deferred) (i u5 u6 u7 u11 u12 u13 u14 u15 u18 u19 u20 u21 u22 u23 u24 u25 u26 u27 u28 u29 u30 u31 u32 u33 u34 : Value), (∃ k : Nat, k ≤ n ∧ i = .int .i64 k ∧ Below w.heap.size w w' ∧ Blk w' w.heap.size 89 (cc (jn (vs.take k)) (Vc.msk (pos (jn (vs.take k))))) ∧ Marks w.heap.size w' ds) ∧
    a' = { tmps := #[.slice A n c, undef, .slice none 0 0, .pointer (some ⟨w.heap.size, 0, none⟩), undef, u5, u6, u7, .slice A n c, .int .i64 (n : Int), i, u11, u12, u13, u14, u15, undef, undef, u18, u19, u20, u21, u22, u23, u24, u25, u26, u27, u28, u29, u30, u31, u32, u33, u34, undef], defers := ds })
    (fun a' _ => n - (intOf (a'.tmps.getD 10 undef)).toNat) ?atStart ?round
  case atStart =>
    (repeat apply Exists.intro)
    refine ⟨?_, rfl⟩
    exact ⟨0, by omega, rfl, (Below.refl _ _).alloc (Nat.le_refl _) _, by rw [show Vc.msk (pos (jn (vs.take 0))) = 0 from has_none]; exact Blk.new _ _ _, trivial⟩
  case round =>
    intro a' wr hinv
    obtain ⟨ds, i, u5, u6, u7, u11, u12, u13, u14, u15, u18, u19, u20, u21, u22, u23, u24, u25, u26, u27, u28, u29, u30, u31, u32, u33, u34, ⟨k, hk, rfl, hb, hblk, hM⟩, rfl⟩ := hinv
    dsimp only
    by_cases hlt : k < n
    · have hkv : k < vs.length := by omega
      obtain ⟨b, o, Ak, nk, ck, rfl, hbB, hcell, hvl, hRk⟩ := (hR.below hb).at_ k hkv
      have hsz := hblk.lt
      have hTr := hT.below hb
      have H1 := Lib.hid (all_any Ak nk ck vs[k] wr hvl (hRk.more hb.size))
      have HGN := Lib.hid (Vc.cnt_nonneg vs[k])
      obtain ⟨g, hg⟩ : ∃ g, g = Vc.cnt vs[k] := ⟨_, rfl⟩
      rw [← hg] at H1 HGN
      obtain ⟨f, hf⟩ : ∃ f, f = jn (vs.take k) := ⟨_, rfl⟩
      rw [← hf] at hblk
      have HFN := Lib.hid (jn_nonneg (vs.take k))
      rw [← hf] at HFN
      have HJ := Lib.hid (show ∀ j, max (f j) (g j) = jn (vs.take (k + 1)) j by intro j; rw [take_nextL vs k hkv, jn_snoc, ← hf, ← hg])
      clear hR hRk hvl hg hf
      gi_wp2_with fail
      refine ⟨trivial, ?_⟩
      refine (callsIn_wide.2 H1.out).mono ?_
      rintro e w1 ⟨G, Bx, rfl, hG, hBx, hg1, hb1, hb2⟩
      have hbw : Below w.heap.size w w1 := below_then hb (Nat.le_refl _) hb2
      have bC1 := hblk.go hb2
      have hM1 := hM.below hb2
      have hGood : Good G Bx (fun m k => k = g m) w1 := ⟨hTr.below hb2, hBx, g, _, hG, fun _ _ => rfl⟩
      have hh := hG.cell 64
      rw [cc_has, has_pos] at hh
      have hs1 := hb2.size
      clear H1 hb hb2 hblk hM hTr
      gi_wp2
      refine wpIn_rangeFunc_ownG rfl (by omega) (gf := 90) (lb := #[.pointer (some ⟨Bx, 0, none⟩)]) rfl trivial (enters_of Tryd.func90 (by kernel_rfl) rfl)
        (each_stops (3 - 1) (by omega) G Bx (pos g) (fun m k => k = g m) _ hGood hh) good_t (good_b hG.lt hBx.lt (by omega)) (Below.refl _ _) (fun _ => rfl)
        (fun pre W => Blk W w.heap.size 89 (cc (jl f g (nds pre)) (Vc.msk (pos (jl f g (nds pre))))) ∧ Below w.heap.size w W ∧ Marks w.heap.size W ds)
        (fun _ _ _ => False)
        (OwnFrom.and (Own.from (blk_own w.heap.size 89 (fun pre => cc (jl f g (nds pre)) (Vc.msk (pos (jl f g (nds pre)))))) _) (OwnFrom.and (ownFrom_below (Nat.le_refl _) (by omega)) (marks_ownFrom hM1 (Nat.le_refl _))))
        (fun _ _ _ _ _ hs _ _ => hs)
        ⟨by rw [show nds ([] : List (Ev (pos g) fun m k => k = g m)) = [] from rfl, jl_nil]; exact bC1, hbw, hM1⟩
        (fun x => { tmps := #[.slice (some ⟨b, o, none⟩) n c, undef, .slice none 0 0, .pointer (some ⟨w.heap.size, 0, none⟩), undef, .slice Ak nk ck, .int .i64 (x.1.1 : Int), .int .i64 x.1.2, .slice (some ⟨b, o, none⟩) n c, .int .i64 (n : Int), .int .i64 (k : Int), .bool true, .pointer (some ⟨b, o + k, none⟩), .slice Ak nk ck, .slice Ak nk ck, .func (.func 90) #[] #[.pointer (some ⟨Bx, 0, none⟩)], .int .i64 (x.1.1 : Int), .int .i64 x.1.2, u18, u19, u20, u21, u22, u23, u24, u25, u26, u27, u28, u29, u30, u31, u32, u33, u34, undef], defers := [] }) ?assign ?body ?done ?stop
      case assign =>
        intro l x W K hK
        dsimp only [evs]
        gi_wp2
        exact hK
      case body =>
        rintro l pre x W ⟨hC, hB, hMW⟩ hlt2
        have hj := x.2.1
        obtain ⟨fp, hfp⟩ : ∃ fp, fp = jl f g (nds pre) := ⟨_, rfl⟩
        obtain ⟨hp, hhp⟩ : ∃ hp, hp = Vc.msk (pos fp) := ⟨_, rfl⟩
        have hhl : hp < 18446744073709551616 := by rw [hhp]; exact Vc.msk_lt _
        rw [← hfp, ← hhp] at hC
        have g1 := hC.cell x.1.1
        rw [cc_at _ _ _ hj] at g1
        have g2 := hC.cell 64
        rw [cc_has] at g2
        have f1 := hC.frozen x.1.1
        have f2 := hC.frozen 64
        obtain ⟨y, hy⟩ : ∃ y, y = fp x.1.1 := ⟨_, rfl⟩
        rw [← hy] at g1
        have hor : bits BinOp.or .u64 (hp : Int) (IntKind.u64.wrap (2 ^ x.1.1)) = ((hp ||| 2 ^ x.1.1 : Nat) : Int) := or_bit hp x.1.1 hhl hj
        have HX := Lib.hid (show max y x.1.2 = max (jl f g (nds pre) x.1.1) (g x.1.1) by rw [hy, hfp, ← x.2.2.2])
        have HH := Lib.hid (show hp ||| 2 ^ x.1.1 = Vc.msk (pos (jl f g (nds (pre ++ [x])))) by
          rw [hhp, hfp, nds_snoc]; exact jl_has f g (nds pre) x.1.1 hj (by simpa [pos] using x.2.2.1))
        have HC := Lib.hid hC
        have HL := Lib.hid hhl
        have HF := Lib.hid hfp
        clear hfp hhp hy hC hhl
        gi_wp2
        all_goals
          refine ⟨((KeepsOthers.setCell _ _ _).trans (KeepsOthers.setCell _ _ _)).from _, fun hg => (hg.setc (p := ⟨w.heap.size, x.1.1, none⟩) _ (by simp; omega) (by simp; omega) (by simp; omega)).setc (p := ⟨w.heap.size, 64, none⟩) _ (by simp; omega) (by simp; omega) (by simp; omega), ?_, ?_, ?_⟩
          · refine jl_blk HC.out HF.out hj ?_ HH.out (nds_snoc pre x)
            rw [← HX.out]
            omega
          · exact (hB.setCell (p := ⟨w.heap.size, x.1.1, none⟩) (Nat.le_refl _) _).setCell (p := ⟨w.heap.size, 64, none⟩) (Nat.le_refl _) _
          · exact (hMW.set_ HC.out _ _).set_ (HC.out.set_ _ _) _ _
      case done =>
        rintro D ys W hD hys ⟨hC, hB, hMW⟩ hK
        rw [hys] at hC
        have hC2 : Blk W w.heap.size 89 (cc (jn (vs.take (k + 1))) (Vc.msk (pos (jn (vs.take (k + 1)))))) := by
          have e : ∀ j, j < 64 → jl f g (Vc.upto (pos g) 64) j = jn (vs.take (k + 1)) j := fun j hj => (jl_all f g HFN.out HGN.out j hj).trans (HJ.out j)
          rw [show Vc.msk (pos (jl f g (Vc.upto (pos g) 64))) = Vc.msk (pos (jn (vs.take (k + 1)))) from Vc.msk_congr fun j hj => congrArg (fun x => decide (0 < x)) (e j hj), cc_congr e] at hC
          exact hC
        have hP := hM1.push (w' := W) hK (by omega) hD hMW
        clear hC hys
        gi_wp2
        refine ⟨?rel, ?measure⟩
        case rel =>
          (repeat apply Exists.intro)
          refine ⟨?_, rfl⟩
          exact ⟨k + 1, by omega, by go_num, hB, hC2, hP⟩
        case measure => simp [intOf]; omega
      case stop =>
        rintro D c' pre W _ _ h _
        exact h.elim
    · obtain rfl : k = n := by omega
      have HL := Lib.hid (list_any w.heap.size (jn vs) (pos (jn vs)) wr (hT.below hb) (by rw [List.take_of_length_le (by omega)] at hblk; exact hblk))
      clear hR
      gi_wp2_with (refine ⟨trivial, ?_⟩; gi_at_call 85; refine (callsIn_wide.2 HL.out).mono ?_; rintro e w1 ⟨A', c', rfl, ho, hb1⟩)
      have hM1 := hM.below hb1
      refine leaves_marks (n₀ := w.heap.size) (fun W => W.ownsRow w.heap.size 24 2 (.slice A' (vec (jn vs)).length c') (vec (jn vs)).length (sv (vec (jn vs))) ∧ Below w.heap.size w W)
        (fun W D h hn hK => ⟨ownsRow_putObj h.1 _ hK rfl, h.2.trans ((Below.refl _ W).grown (grownBy_putObj' W D _) h.2.size (fun k e => by cases e; omega))⟩) ?_ ds _ hM1 ⟨own_less ho (hb.size), below_then hb (Nat.le_refl _) hb1⟩
      intro W ⟨h1, h2⟩
      exact ⟨_, results_tmp rfl _ _ _, A', c', rfl, h1, h2⟩
end Go.Proofs.YtldcgmnfohhjbaaDoor
