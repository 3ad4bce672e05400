/- Walk over the law SpanWalks. -/
import Derived.Test.YtafbaagjokomcaaSpS
import Derived.Test.YtafbaagjokomcaaMVec
namespace Go.Proofs.Ytafbaagjokomcaa
open Go.RowKit Go.Shelf
set_option maxRecDepth 100000
attribute [local go_sem] Oper.semAt_some

/-- What the loop keeps: the boxes of the captured variables. -/
structure WsInv (Bm Br Bs Bl Bk : Nat) (most : Int) (r : Bool) (p : Nat → Bool) (la k : Int) (W : World) : Prop where
  mo : Boxed W Bm 3 (.int .i64 most)
  re : Boxed W Br 4 (.bool r)
  st : Blk W Bs 29 (b256 p)
  la : Boxed W Bl 3 (.int .i64 la)
  kk : Boxed W Bk 3 (.int .i64 k)
theorem blk_kept {W W' : World} {g : Nat} {t : TypeId} {cs : Array Value} {row : Option Nat} (h : Blk W g t cs) (hg : W.grownBy W' row) (hr : ∀ r, row = some r → ∃ o : Obj, W.heap[r]? = some o ∧ o.isCells = false) : Blk W' g t cs :=
  (grownBy_keeps_cells hg hr h rfl).trans h
section
variable {Bm Br Bs Bl Bk : Nat} {most : Int} {r : Bool} {p : Nat → Bool} {la k : Int} {X Y : World}
theorem WsInv.kept_ {row : Option Nat} (h : WsInv Bm Br Bs Bl Bk most r p la k X) (hg : X.grownBy Y row) (hr : ∀ r, row = some r → ∃ o : Obj, X.heap[r]? = some o ∧ o.isCells = false) : WsInv Bm Br Bs Bl Bk most r p la k Y :=
  ⟨boxed_kept h.mo hg hr, boxed_kept h.re hg hr, blk_kept h.st hg hr, boxed_kept h.la hg hr, boxed_kept h.kk hg hr⟩
theorem WsInv.setR (h : WsInv Bm Br Bs Bl Bk most r p la k X) (q : Bool) (h1 : Bm ≠ Br) (h2 : Bs ≠ Br) (h3 : Bl ≠ Br) (h4 : Bk ≠ Br) : WsInv Bm Br Bs Bl Bk most q p la k (X.setCell ⟨Br, 0, none⟩ (.bool q)) :=
  ⟨h.mo.other h1 _, h.re.set _, h.st.far (p := ⟨Br, 0, none⟩) h2 _, h.la.other h3 _, h.kk.other h4 _⟩
theorem WsInv.setL (h : WsInv Bm Br Bs Bl Bk most r p la k X) (q : Int) (h1 : Bm ≠ Bl) (h2 : Br ≠ Bl) (h3 : Bs ≠ Bl) (h4 : Bk ≠ Bl) : WsInv Bm Br Bs Bl Bk most r p q k (X.setCell ⟨Bl, 0, none⟩ (.int .i64 q)) :=
  ⟨h.mo.other h1 _, h.re.other h2 _, h.st.far (p := ⟨Bl, 0, none⟩) h3 _, h.la.set _, h.kk.other h4 _⟩
theorem WsInv.setK (h : WsInv Bm Br Bs Bl Bk most r p la k X) (q : Int) (h1 : Bm ≠ Bk) (h2 : Br ≠ Bk) (h3 : Bs ≠ Bk) (h4 : Bl ≠ Bk) : WsInv Bm Br Bs Bl Bk most r p la q (X.setCell ⟨Bk, 0, none⟩ (.int .i64 q)) :=
  ⟨h.mo.other h1 _, h.re.other h2 _, h.st.far (p := ⟨Bk, 0, none⟩) h3 _, h.la.other h4 _, h.kk.set _⟩
theorem WsInv.go (h : WsInv Bm Br Bs Bl Bk most r p la k X) (hb : Below X.heap.size X Y) : WsInv Bm Br Bs Bl Bk most r p la k Y :=
  ⟨(hb.block _ h.mo.lt).trans h.mo, (hb.block _ h.re.lt).trans h.re, h.st.go hb, (hb.block _ h.la.lt).trans h.la, (hb.block _ h.kk.lt).trans h.kk⟩
end

set_option maxHeartbeats 8000000 in
theorem spanWalks_walk (A : Option Addr) (n c : Nat) (l : List Sn.Sp) (most : Int) (w : World) (hl : l.length = n) (hR : Rd w w.heap.size 2 A n c (sv l)) (hn : n ≤ 8796093022208) :
    Calls Try.prog 4 #[.slice A n c, .int .i64 most] w fun e w' => e = .returned (.bool true) ∧ Below w.heap.size w w' := by
  obtain ⟨hz, hi⟩ := zero_of_info zero_marks
  have HI := Lib.hid hi
  have HR := Lib.hid (fun (V : World) (hb : Below w.heap.size w V) => hR.go hb)
  have G1 := Lib.hid fun (W : World) hR => refSet_any A n c l W hl hR
  have G2 := Lib.hid fun (W : World) hR => spAll_any A n c l W hl hR hn
  have G3 := Lib.hid fun (W : World) hR => refSizeS_any A n c l W hl hR
  have HN := Lib.hid (show numTo (Sn.setOf l) 256 = (Sn.listTo (Sn.setOf l) 256).length from rfl)
  clear hR hl hi
  refine (callsIn_wide (n := 3)).1 ?_
  refine callsIn_of_wp_marks Try.func4 rfl trivial ?_ rfl
  simp only [Try.ntmps4, List.size_toArray, List.length_cons, List.length_nil, Nat.reduceAdd, Nat.reduceSub, Array.replicate_succ, Array.replicate_zero, List.push_toArray, List.append_toArray, List.nil_append, List.cons_append]
  gi_wp2_with fail
  have hbA : Below w.heap.size w ((w.alloc (.cells #[.int .i64 most] 3)).alloc (.cells #[.bool false] 4)) := ((Below.refl _ w).alloc (Nat.le_refl _) _).alloc (by simp) _
  have bM := (Boxed.new w 3 (.int .i64 most)).alloc (.cells #[.bool false] 4)
  have bR := Boxed.new (w.alloc (.cells #[.int .i64 most] 3)) 4 (.bool false)
  rw [World.size_alloc] at bR
  obtain ⟨W0, hW0⟩ : ∃ W0, W0 = (w.alloc (.cells #[.int .i64 most] 3)).alloc (.cells #[.bool false] 4) := ⟨_, rfl⟩
  have hs0 : W0.heap.size = w.heap.size + 1 + 1 := by rw [hW0]; simp
  rw [← hW0] at bM bR hbA ⊢
  clear hW0
  refine ⟨trivial, ?_⟩
  refine (callsIn_wide.2 (aliveS_any W0)).mono ?_
  rintro e w1 ⟨rfl, hb1⟩
  have hbw1 : Below w.heap.size w w1 := below_then hbA (Nat.le_refl _) hb1
  have bM1 : Boxed w1 w.heap.size 3 (.int .i64 most) := (hb1.block _ (by omega)).trans bM
  have bR1 : Boxed w1 (w.heap.size + 1) 4 (.bool false) := (hb1.block _ (by omega)).trans bR
  have hs1 := hb1.size
  clear bM bR hbA hb1
  gi_wp2_with fail
  refine ⟨trivial, ?_⟩
  refine (callsIn_wide.2 (G1.out w1 (HR.out _ hbw1))).mono ?_
  rintro e w2 ⟨rfl, hb2⟩
  have hbw2 : Below w.heap.size w w2 := below_then hbw1 (Nat.le_refl _) hb2
  have bM2 : Boxed w2 w.heap.size 3 (.int .i64 most) := (hb2.block _ (by omega)).trans bM1
  have bR2 : Boxed w2 (w.heap.size + 1) 4 (.bool false) := (hb2.block _ (by omega)).trans bR1
  have hs2 := hb2.size
  have HNw := Lib.hid (Blk.new w2 29 (b256 fun _ => false))
  clear bM1 bR1 hb2 hbw1
  gi_wp2_with (refine wpListIn_store_blk rfl 29 _ _ rfl w2.heap.size 29 _ (b256 (Sn.setOf l)) rfl rfl HNw.out (by rw [b256_size]; exact HI.out) rfl (b256_oneCell _) ?_; intro w3 hk3 hg3)
  have hg3s := hg3.size
  rw [World.size_alloc] at hg3s
  have hb3 : Below w.heap.size w w3 := (hbw2.alloc hbw2.size _).trans (grown_below hg3 (by simp; omega) (fun k hk => by cases hk; omega))
  have kb3 : Below w2.heap.size w2 w3 := ((Below.refl _ w2).alloc (Nat.le_refl _) _).trans (grown_below hg3 (by simp) (fun k hk => by cases hk; exact Nat.le_refl _))
  have hbA : Below w3.heap.size w3 ((w3.alloc (.cells #[.int .i64 (-1)] 3)).alloc (.cells #[.int .i64 0] 3)) := ((Below.refl _ w3).alloc (Nat.le_refl _) _).alloc (by simp) _
  have bL := (Boxed.new w3 3 (.int .i64 (-1))).alloc (.cells #[.int .i64 0] 3)
  have bK := Boxed.new (w3.alloc (.cells #[.int .i64 (-1)] 3)) 3 (.int .i64 0)
  rw [World.size_alloc] at bK
  obtain ⟨W4, hW4⟩ : ∃ W4, W4 = (w3.alloc (.cells #[.int .i64 (-1)] 3)).alloc (.cells #[.int .i64 0] 3) := ⟨_, rfl⟩
  have hs4 : W4.heap.size = w3.heap.size + 1 + 1 := by rw [hW4]; simp
  rw [← hW4] at bL bK hbA ⊢
  clear hW4
  have hbw4 : Below w.heap.size w W4 := below_then hb3 (Nat.le_refl _) hbA
  have hInv4 : WsInv w.heap.size (w.heap.size + 1) w2.heap.size w3.heap.size (w3.heap.size + 1) most false (Sn.setOf l) (-1) 0 W4 :=
    ⟨(hbA.block _ (by omega)).trans ((kb3.block _ (by omega)).trans bM2), (hbA.block _ (by omega)).trans ((kb3.block _ (by omega)).trans bR2), hk3.go hbA, bL, bK⟩
  refine ⟨trivial, ?_⟩
  refine (callsIn_wide.2 (G2.out W4 (HR.out _ hbw4))).mono ?_
  rintro e w5 ⟨Bx, A5, c5, rfl, hg, hb5⟩
  have hInv := hInv4.go hb5
  have hbw : Below w.heap.size w w5 := below_then hbw4 (Nat.le_refl _) hb5
  have hs5 := hb5.size
  have HQ := Lib.hid (spAll_next (3 - 1) (by omega) Bx W4.heap.size A5 _ c5 l rfl w5 hg)
  generalize Sn.setOf l = p at hInv HQ HN G3
  clear G1 G2 hg hb5 hInv4 hbw4 hbA bL bK hb3 kb3 hg3 hk3 hbw2 bM2 bR2 HNw
  gi_wp2
  refine wpIn_rangeFunc_next rfl (by omega) (gf := 34) (lb := #[.pointer (some ⟨Bx, 0, none⟩)]) rfl trivial (enters_of Try.func34 (by kernel_rfl) rfl)
    HQ.out KA.trans (fun W l o o' _ h1 h2 _ => KA.putObj h1 h2) (Below.refl _ _) (fun _ => rfl)
    (fun pre W => (∃ k : Nat, k ≤ 256 ∧ Hid (pre = Sn.listTo p k) ∧ WsInv w.heap.size (w.heap.size + 1) w2.heap.size w3.heap.size (w3.heap.size + 1) most false p ((k : Int) - 1) (pre.length : Nat) W) ∧ Below w.heap.size w W)
    (fun c _ W => (c = .ret ∧ Boxed W (w.heap.size + 1) 4 (.bool true)) ∧ Below w.heap.size w W)
    (OwnFrom.and (Own.from (show Own (fun (pre : List Nat) W => ∃ k : Nat, k ≤ 256 ∧ Hid (pre = Sn.listTo p k) ∧ WsInv w.heap.size (w.heap.size + 1) w2.heap.size w3.heap.size (w3.heap.size + 1) most false p ((k : Int) - 1) (pre.length : Nat) W) from fun s X Y row hs hg hr => by obtain ⟨k, h1, h2, h3⟩ := hs; exact ⟨k, h1, h2, h3.kept_ hg hr⟩) _) (ownFrom_below (Nat.le_refl _) (by omega)))
    (fun c => OwnFrom.and (Own.from (show Own (fun (_ : List Nat) W => c = .ret ∧ Boxed W (w.heap.size + 1) 4 (.bool true)) from fun s X Y row hs hg hr => ⟨hs.1, boxed_kept hs.2 hg hr⟩) _) (ownFrom_below (Nat.le_refl _) (by omega)))
    ⟨⟨0, by omega, rfl, hInv⟩, hbw⟩
    (fun x a₁ _ => a₁ = { tmps := #[.slice A n c, .int .i64 most, undef, .pointer (some ⟨w.heap.size, 0, none⟩), .pointer (some ⟨w.heap.size + 1, 0, none⟩), .pointer (some ⟨w2.heap.size, 0, none⟩), .pointer (some ⟨w3.heap.size, 0, none⟩), .pointer (some ⟨w3.heap.size + 1, 0, none⟩), .int .i64 (x : Int), undef, .bool true, .bool false, .slice A n c, .agg (b256 p), .slice A n c, .func (.func 34) #[] #[.pointer (some ⟨Bx, 0, none⟩)], .int .i64 (x : Int), undef, undef, undef, undef, undef, undef, undef, undef, undef, undef, undef, undef, undef, undef, undef, undef, undef, undef, undef, undef, undef, undef, undef, undef, undef, undef, undef, undef, undef, undef, undef, undef, undef], defers := [] })
    (fun _ => by intro s X Y row hs _ _; exact hs) ?assign ?body ?done ?stop
  case assign =>
    intro l pre x W K hI _ hK
    dsimp only [evN]
    gi_wp2
    exact hK _ _ (KeepsFrom.refl _ _) (KA.refl _ _) hI rfl
  case body =>
    rintro lp pre x a₁ W hlp ⟨⟨k, hk, hpk, hI⟩, hB⟩ hnx rfl hlt
    obtain ⟨x1, x2, x3, x4, x5⟩ := Sn.listTo_at k hnx hk hpk.out
    have q1 := hI.mo.cell
    have q2 := hI.la.cell
    have q3 := hI.kk.cell
    have q4 := hI.re.cell
    have q5 := hI.st.cell x
    rw [b256_at _ _ x2, x3] at q5
    have f2 := hI.la.frozen
    have f3 := hI.kk.frozen
    have f4 := hI.re.frozen
    have HIV := Lib.hid hI
    have HB := Lib.hid hB
    have HX4 := Lib.hid x4
    have HX5 := Lib.hid x5
    clear hI hB hnx x4 x5 hpk
    obtain ⟨m, hm⟩ : ∃ m, m = pre.length := ⟨_, rfl⟩
    rw [← hm] at q3 hlt HIV
    have HM := Lib.hid hm
    clear hm
    gi_wp2
    gi_loopw [9] (fun v9 wr => ∃ o : Nat, v9 = .int .i64 o ∧ k ≤ o ∧ o ≤ x ∧ wr = W) (fun v9 _ => x - (intOf v9).toNat)
    case atStart => exact ⟨k, by simp, Nat.le_refl _, x1, rfl⟩
    case round =>
      obtain ⟨o, rfl, ho1, ho2, rfl⟩ := hrel
      by_cases hox : o < x
      · have q6 := HIV.out.st.cell o
        rw [b256_at _ _ (by omega), HX4.out o ho1 hox] at q6
        gi_wp2
        go_roundw
        case rel => exact ⟨o + 1, by go_num, by omega, by omega, by first | rfl | trivial⟩
        case measure => simp [intOf]; omega
      · obtain rfl : o = x := by omega
        by_cases e3 : ((m : Int) + 1 == most) = true
        · gi_wp2
          refine ⟨(((KeepsOthers.setCell _ _ _).trans (KeepsOthers.setCell _ _ _)).trans (KeepsOthers.setCell _ _ _)).from _, ⟨rfl, ?_⟩, ((HB.out.setCell (p := ⟨w3.heap.size, 0, none⟩) (by show _ ≤ w3.heap.size; omega) _).setCell (p := ⟨w3.heap.size + 1, 0, none⟩) (by show _ ≤ w3.heap.size + 1; omega) _).setCell (p := ⟨w.heap.size + 1, 0, none⟩) (by show _ ≤ w.heap.size + 1; omega) _⟩
          exact (((HIV.out.setL (o : Int) (by omega) (by omega) (by omega) (by omega)).setK ((m : Int) + 1) (by omega) (by omega) (by omega) (by omega)).setR true (by omega) (by omega) (by omega) (by omega)).re
        · have e3' : ((m : Int) + 1 == most) = false := by simpa using e3
          clear e3
          gi_wp2
          refine ⟨((KeepsOthers.setCell _ _ _).trans (KeepsOthers.setCell _ _ _)).from _, (KA.setCell (by show w3.heap.size < _; omega) _).trans (KA.setCell (by show w3.heap.size + 1 < _; omega) _), ⟨o + 1, by omega, HX5.out, ?_⟩, (HB.out.setCell (p := ⟨w3.heap.size, 0, none⟩) (by show _ ≤ w3.heap.size; omega) _).setCell (p := ⟨w3.heap.size + 1, 0, none⟩) (by show _ ≤ w3.heap.size + 1; omega) _⟩
          have h := (HIV.out.setL (o : Int) (by omega) (by omega) (by omega) (by omega)).setK ((m : Int) + 1) (by omega) (by omega) (by omega) (by omega)
          rw [show (((o + 1 : Nat) : Int) - 1) = (o : Int) by omega, List.length_append, List.length_singleton, ← HM.out]
          exact h
  case done =>
    rintro E ys W hD rfl ⟨⟨k, hk, hpk, hI⟩, hB⟩ hK
    have q1 := hI.mo.cell
    have q2 := hI.la.cell
    have q3 := hI.kk.cell
    have q4 := hI.re.cell
    have f4 := hI.re.frozen
    gi_wp2_with fail
    refine wpIn_wide.2 ?_
    have HG3 := Lib.hid (G3.out W.drew (HR.out _ hB.drew))
    have q3 : W.drew.cell? ⟨w3.heap.size + 1, 0, none⟩ = some (.int .i64 ((Sn.listTo p 256).length : Nat)) := q3
    have q4 : W.drew.cell? ⟨w.heap.size + 1, 0, none⟩ = some (.bool false) := q4
    have f4 : W.drew.frozen? ⟨w.heap.size + 1, 0, none⟩ = false := f4
    have HB := Lib.hid hB
    generalize hz5 : (Sn.listTo p 256).length = z5 at q3 HN
    rw [HN.out] at HG3
    clear hB hpk hI G3 q1 q2
    refine region_nrm fun K hK2 => ?_
    go_region_held3 (fun w' => w'.cell? ⟨w3.heap.size + 1, 0, none⟩ = some (.int .i64 (z5 : Int))) (first | exact q5 | exact q3 | exact q8 | go_keep) (first
      | (go_at_call 15; go_must (refine HG3.out.mono ?_); rintro e w6 ⟨rfl, hb6⟩; have q5 := (hb6.cell (p := ⟨w3.heap.size + 1, 0, none⟩) (World.block_lt_of_cell? _ _ q3)).trans q3; have q6 := (hb6.cell (p := ⟨w.heap.size + 1, 0, none⟩) (World.block_lt_of_cell? _ _ q4)).trans q4; have f7 := (World.frozen?_of_block (a := ⟨w.heap.size + 1, 0, none⟩) (hb6.block _ (World.block_lt_of_cell? _ _ q4))).trans f4; have q8 := (World.cell?_setCell_other w6 ⟨w.heap.size + 1, 0, none⟩ ⟨w3.heap.size + 1, 0, none⟩ (.bool true) (fun e => by injection e; omega)).trans q5))
    refine Nrm.out (hK2 _ _ ?_)
    gi_wp2
    have hE : E < W.drew.heap.size := (Array.getElem?_eq_some_iff.1 hK).1
    have hK6 : w6.heap[E]? = some (.deferred (some [])) := (hb6.block E hE).trans hK
    have hK' := (KeepsOthers.setCell w6 ⟨w.heap.size + 1, 0, none⟩ (.bool true)).same E _ hK6 rfl
    refine ⟨by simp, .inl ⟨_, _, rfl, run_takeDeferred hK', ?_⟩⟩
    have hc5 := cell_kept (World.cell?_setCell_same' w6 ⟨w.heap.size + 1, 0, none⟩ (.bool true) (by rw [q6]; rfl)) (grownBy_putObj' _ E (.deferred none)) (fun r e => by cases e; exact ⟨_, hK', rfl⟩)
    refine ⟨.bool true, ?_, rfl, ((below_then HB.out.drew (Nat.le_refl _) hb6).setCell (p := ⟨w.heap.size + 1, 0, none⟩) (by show _ ≤ w.heap.size + 1; omega) _).trans (belowK_b (w := w) (Nat.le_refl _) _ E _ _ (by omega) hK' rfl rfl)⟩
    simp [results, Try.f4, go_sem, hc5]
  case stop =>
    rintro E c' pre W hD hpre ⟨⟨rfl, hI⟩, hB⟩ hK
    have q4 := hI.cell
    gi_wp2
    refine ⟨by simp, .inl ⟨_, _, rfl, run_takeDeferred hK, ?_⟩⟩
    have hc5 := cell_kept q4 (grownBy_putObj' _ E (.deferred none)) (fun r e => by cases e; exact ⟨_, hK, rfl⟩)
    refine ⟨.bool true, ?_, rfl, hB.trans (belowK_b (w := w) (Nat.le_refl _) W E _ _ (by omega) hK rfl rfl)⟩
    simp [results, Try.f4, go_sem, hc5]
end Go.Proofs.Ytafbaagjokomcaa
