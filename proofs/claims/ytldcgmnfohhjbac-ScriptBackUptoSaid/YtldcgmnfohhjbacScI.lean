/- Walks over the laws ScriptEncodes and ScriptLays. -/
import Derived.Test.YtldcgmnfohhjbacScH
namespace Go.Proofs.Ytldcgmnfohhjbac
open Go.RowKit
set_option maxRecDepth 100000

set_option maxHeartbeats 8000000 in
theorem scriptEncodes_walk (v : SV) (x : Sc.Stp) (w : World) (h : StpRd w w.heap.size v x) (hs : Sc.small x) :
    Calls Try.prog 3 #[.agg (v.val x)] w (TrueP w) := by
  have hb0 : Below w.heap.size w (w.alloc (.cells (v.val x) 25)) := (Below.refl _ _).alloc (Nat.le_refl _) _
  have hX0 := Blk.new w 25 (v.val x)
  have HH := Lib.hid (h.go hb0)
  have E1 := Lib.hid fun (W : World) (h : StpRd W W.heap.size v x) => scEncode_any v x W h hs
  have E2 := Lib.hid fun (W : World) (h : StpRd W W.heap.size v x) => refScEncode_any v x W h hs
  have F1 := Lib.hid fun (W : World) (h : StpRd W W.heap.size v x) => scFormed_any v x W h
  have F2 := Lib.hid fun (W : World) (h : StpRd W W.heap.size v x) => refScFormed_any v x W h
  obtain ⟨A1, n1, c1, A2, n2, c2⟩ := v
  obtain ⟨k, a, b, o, n, s, v⟩ := x
  generalize Sc.enc ⟨k, a, b, o, n, s, v⟩ = bs at E1 E2
  obtain ⟨len, hlen⟩ : ∃ len, len = bs.length := ⟨_, rfl⟩
  have hBe : ∀ (W w' : World) (v : Value), BytesAre W.heap.size W bs v w' → ∃ A' c', v = .slice A' len c' ∧ w'.ownsRow W.heap.size 5 1 (.slice A' len c') len (bv bs) ∧ Below W.heap.size W w' := fun W w' v h => by rw [hlen]; exact h
  have HBE := Lib.hid hBe
  have HB := Lib.hid hb0
  have HX0 := Lib.hid hX0
  clear h hs hb0 hX0 hBe hlen
  rcases hf : Sc.fmB ⟨k, a, b, o, n, s, v⟩ with _ | _
  · rw [hf] at E1 E2 F1 F2
    clear hf
    go_enter Try.func3, Try.ntmps3
    go_wp2_with fail
    refine (alive_any _).mono ?_
    rintro e w1 ⟨rfl, hb1⟩
    have hX1 := HX0.out.go hb1
    have hh1 := HH.out.go hb1
    have q0 := hX1.cell 0
    have q1 := hX1.cell 1
    have q2 := hX1.cell 2
    have q3 := hX1.cell 3
    have q4 := hX1.cell 4
    have q5 := hX1.cell 5
    have q6 := hX1.cell 6
    have hbw1 := below_then HB.out (Nat.le_refl _) hb1
    have HX1 := Lib.hid hX1
    clear hX1 hb1
    go_wp2_with fail
    refine (E1.out w1 hh1).mono ?_
    rintro e w2 (⟨h, _⟩ | ⟨_, rfl, hb2⟩)
    · cases h
    · skip
      have hX2 := HX1.out.go hb2
      have hh2 := hh1.go hb2
      have hbw2 := below_then hbw1 (Nat.le_refl _) hb2
      clear q0 q1 q2 q3 q4 q5 q6 hb2 hh1 hbw1
      have q0 := hX2.cell 0
      have q1 := hX2.cell 1
      have q2 := hX2.cell 2
      have q3 := hX2.cell 3
      have q4 := hX2.cell 4
      have q5 := hX2.cell 5
      have q6 := hX2.cell 6
      have HX2 := Lib.hid hX2
      clear hX2
      go_wp2_with fail
      refine (E2.out w2 hh2).mono ?_
      rintro e w3 (⟨h, _⟩ | ⟨_, rfl, hb3⟩)
      · cases h
      · skip
        have hX3 := HX2.out.go hb3
        have hh3 := hh2.go hb3
        have hbw3 := below_then hbw2 (Nat.le_refl _) hb3
        have GS := Lib.hid fun W => sameB_any none none 0 0 0 0 w3.heap.size w3.heap.size [] [] W
        rw [beq_self_eq_true] at GS
        have HR1 := Lib.hid (Rd.none_ (w := w3) (B := w3.heap.size) (size := 1))
        have HR2 := Lib.hid (Rd.none_ (w := w3) (B := w3.heap.size) (size := 1))
        have HQ := Lib.hid fun (W : World) (hb : Below w3.heap.size w3 W) => (show (W.cell? ⟨w.heap.size, 0, none⟩ = some (.int .i64 k) ∧ W.cell? ⟨w.heap.size, 1, none⟩ = some (.int .i64 a) ∧ W.cell? ⟨w.heap.size, 2, none⟩ = some (.int .i64 b) ∧ W.cell? ⟨w.heap.size, 3, none⟩ = some (.int .i64 o) ∧ W.cell? ⟨w.heap.size, 4, none⟩ = some (.int .i64 n) ∧ W.cell? ⟨w.heap.size, 5, none⟩ = some (.slice A1 n1 c1) ∧ W.cell? ⟨w.heap.size, 6, none⟩ = some (.slice A2 n2 c2)) from
          ⟨(hX3.go hb).cell 0, (hX3.go hb).cell 1, (hX3.go hb).cell 2, (hX3.go hb).cell 3, (hX3.go hb).cell 4, (hX3.go hb).cell 5, (hX3.go hb).cell 6⟩)
        have HH3 := Lib.hid hh3
        have kw : Below w3.heap.size w3 w3.drew := (Below.refl _ w3).drew
        clear q0 q1 q2 q3 q4 q5 q6 hb3 hh2 hbw2 hX3 hh3
        go_wp2_with fail
        refine region_nrm fun K hK => ?_
        go_region_held3 (fun W => W.cell? ⟨w.heap.size, 0, none⟩ = some (.int .i64 k) ∧ W.cell? ⟨w.heap.size, 1, none⟩ = some (.int .i64 a) ∧ W.cell? ⟨w.heap.size, 2, none⟩ = some (.int .i64 b) ∧ W.cell? ⟨w.heap.size, 3, none⟩ = some (.int .i64 o) ∧ W.cell? ⟨w.heap.size, 4, none⟩ = some (.int .i64 n) ∧ W.cell? ⟨w.heap.size, 5, none⟩ = some (.slice A1 n1 c1) ∧ W.cell? ⟨w.heap.size, 6, none⟩ = some (.slice A2 n2 c2)) (first | exact HQ.out _ kw | go_keep) (first
          | (go_at_call 11; refine (GS.out _ (HR1.out.below kw) (HR2.out.below kw)).mono ?_; rintro e W1 ⟨rfl, rfl⟩)
          | (go_at_call 12; refine (F1.out _ (HH3.out.go kw)).mono ?_; rintro e W1 ⟨rfl, hb'⟩; have kw := below_then kw (Nat.le_refl _) hb')
          | (go_at_call 13; refine (F2.out _ (HH3.out.go kw)).mono ?_; rintro e W1 ⟨rfl, hb'⟩; have kw := below_then kw (Nat.le_refl _) hb'))
        all_goals
          refine Nrm.out (hK _ _ ?_)
          go_wp2
          go_ret
          exact ⟨rfl, hbw3.trans (kw.mono hbw3.size)⟩
  · rw [hf] at E1 E2 F1 F2
    clear hf
    go_enter Try.func3, Try.ntmps3
    go_wp2_with fail
    refine (alive_any _).mono ?_
    rintro e w1 ⟨rfl, hb1⟩
    have hX1 := HX0.out.go hb1
    have hh1 := HH.out.go hb1
    have q0 := hX1.cell 0
    have q1 := hX1.cell 1
    have q2 := hX1.cell 2
    have q3 := hX1.cell 3
    have q4 := hX1.cell 4
    have q5 := hX1.cell 5
    have q6 := hX1.cell 6
    have hbw1 := below_then HB.out (Nat.le_refl _) hb1
    have HX1 := Lib.hid hX1
    clear hX1 hb1
    go_wp2_with fail
    refine (E1.out w1 hh1).mono ?_
    rintro e w2 (⟨_, v2, rfl, hby⟩ | ⟨h, _⟩)
    · obtain ⟨B1, d1, rfl, ho1, hb2⟩ := HBE.out _ _ _ hby
      have hX2 := HX1.out.go hb2
      have hh2 := hh1.go hb2
      have hbw2 := below_then hbw1 (Nat.le_refl _) hb2
      clear q0 q1 q2 q3 q4 q5 q6 hby hb2 hh1 hbw1
      have q0 := hX2.cell 0
      have q1 := hX2.cell 1
      have q2 := hX2.cell 2
      have q3 := hX2.cell 3
      have q4 := hX2.cell 4
      have q5 := hX2.cell 5
      have q6 := hX2.cell 6
      have HX2 := Lib.hid hX2
      clear hX2
      go_wp2_with fail
      refine (E2.out w2 hh2).mono ?_
      rintro e w3 (⟨_, v3, rfl, hby⟩ | ⟨h, _⟩)
      · obtain ⟨B2, d2, rfl, ho2, hb3⟩ := HBE.out _ _ _ hby
        have hX3 := HX2.out.go hb3
        have hh3 := hh2.go hb3
        have hbw3 := below_then hbw2 (Nat.le_refl _) hb3
        have ho13 := own_below ho1 hb3 (Nat.le_refl _)
        have GS := Lib.hid fun W => sameB_any B1 B2 len d1 len d2 w3.heap.size w3.heap.size bs bs W
        rw [beq_self_eq_true] at GS
        have HR1 := Lib.hid (Rd.of_own ho13)
        have HR2 := Lib.hid (Rd.of_own ho2)
        have HQ := Lib.hid fun (W : World) (hb : Below w3.heap.size w3 W) => (show (W.cell? ⟨w.heap.size, 0, none⟩ = some (.int .i64 k) ∧ W.cell? ⟨w.heap.size, 1, none⟩ = some (.int .i64 a) ∧ W.cell? ⟨w.heap.size, 2, none⟩ = some (.int .i64 b) ∧ W.cell? ⟨w.heap.size, 3, none⟩ = some (.int .i64 o) ∧ W.cell? ⟨w.heap.size, 4, none⟩ = some (.int .i64 n) ∧ W.cell? ⟨w.heap.size, 5, none⟩ = some (.slice A1 n1 c1) ∧ W.cell? ⟨w.heap.size, 6, none⟩ = some (.slice A2 n2 c2)) from
          ⟨(hX3.go hb).cell 0, (hX3.go hb).cell 1, (hX3.go hb).cell 2, (hX3.go hb).cell 3, (hX3.go hb).cell 4, (hX3.go hb).cell 5, (hX3.go hb).cell 6⟩)
        have HH3 := Lib.hid hh3
        have kw : Below w3.heap.size w3 w3.drew := (Below.refl _ w3).drew
        clear q0 q1 q2 q3 q4 q5 q6 hby hb3 hh2 hbw2 hX3 ho1 ho13 ho2 hh3
        go_wp2_with fail
        refine region_nrm fun K hK => ?_
        go_region_held3 (fun W => W.cell? ⟨w.heap.size, 0, none⟩ = some (.int .i64 k) ∧ W.cell? ⟨w.heap.size, 1, none⟩ = some (.int .i64 a) ∧ W.cell? ⟨w.heap.size, 2, none⟩ = some (.int .i64 b) ∧ W.cell? ⟨w.heap.size, 3, none⟩ = some (.int .i64 o) ∧ W.cell? ⟨w.heap.size, 4, none⟩ = some (.int .i64 n) ∧ W.cell? ⟨w.heap.size, 5, none⟩ = some (.slice A1 n1 c1) ∧ W.cell? ⟨w.heap.size, 6, none⟩ = some (.slice A2 n2 c2)) (first | exact HQ.out _ kw | go_keep) (first
          | (go_at_call 11; refine (GS.out _ (HR1.out.below kw) (HR2.out.below kw)).mono ?_; rintro e W1 ⟨rfl, rfl⟩)
          | (go_at_call 12; refine (F1.out _ (HH3.out.go kw)).mono ?_; rintro e W1 ⟨rfl, hb'⟩; have kw := below_then kw (Nat.le_refl _) hb')
          | (go_at_call 13; refine (F2.out _ (HH3.out.go kw)).mono ?_; rintro e W1 ⟨rfl, hb'⟩; have kw := below_then kw (Nat.le_refl _) hb'))
        all_goals
          refine Nrm.out (hK _ _ ?_)
          go_wp2
          go_ret
          exact ⟨rfl, hbw3.trans (kw.mono hbw3.size)⟩
      · cases h
    · cases h

set_option maxHeartbeats 4000000 in
theorem scriptLays_walk (A : Option Addr) (n c : Nat) (L : List (SV × Sc.Stp)) (w : World) (h : RdSt w w.heap.size A n c L) (hs : ∀ p ∈ L, Sc.small p.2) (hn : n ≤ 2097152) :
    Calls Try.prog 5 #[.slice A n c] w (TrueP w) := by
  have E1 := Lib.hid fun (W : World) (h : RdSt W W.heap.size A n c L) => scLay_any A n c L W h hs hn
  have E2 := Lib.hid fun (W : World) (h : RdSt W W.heap.size A n c L) => refScLay_any A n c L W h hs hn
  have HH := Lib.hid h
  clear h hs
  rcases hr : layS (stps L) with _ | bs
  · rw [hr] at E1 E2
    clear hr
    go_enter Try.func5, Try.ntmps5
    go_wp2_with fail
    refine (alive_any _).mono ?_
    rintro e w1 ⟨rfl, hb1⟩
    go_wp2_with fail
    refine (E1.out w1 (HH.out.go hb1)).mono ?_
    rintro e w2 (⟨bs, v, hbs, _⟩ | ⟨_, rfl, hb2⟩)
    · cases hbs
    have hbw2 := below_then hb1 (Nat.le_refl _) hb2
    go_wp2_with fail
    refine (E2.out w2 (HH.out.go hbw2)).mono ?_
    rintro e w3 (⟨bs, v, hbs, _⟩ | ⟨_, rfl, hb3⟩)
    · cases hbs
    have hbw3 := below_then hbw2 (Nat.le_refl _) hb3
    have GS := Lib.hid (sameB_any none none 0 0 0 0 w3.heap.size w3.heap.size [] [] w3 Rd.none_ Rd.none_)
    rw [beq_self_eq_true] at GS
    go_wp2_with fail
    refine GS.out.mono ?_
    rintro e w4 ⟨rfl, rfl⟩
    go_wp2
    go_ret
    exact ⟨rfl, hbw3⟩
  · rw [hr] at E1 E2
    obtain ⟨len, hlen⟩ : ∃ len, len = bs.length := ⟨_, rfl⟩
    have hBe : ∀ (W w' : World) (v : Value), BytesAre W.heap.size W bs v w' → ∃ A' c', v = .slice A' len c' ∧ w'.ownsRow W.heap.size 5 1 (.slice A' len c') len (bv bs) ∧ Below W.heap.size W w' := fun W w' v h => by rw [hlen]; exact h
    have HBE := Lib.hid hBe
    clear hr hBe hlen
    go_enter Try.func5, Try.ntmps5
    go_wp2_with fail
    refine (alive_any _).mono ?_
    rintro e w1 ⟨rfl, hb1⟩
    go_wp2_with fail
    refine (E1.out w1 (HH.out.go hb1)).mono ?_
    rintro e w2 (⟨bs', v2, hbs, rfl, hby⟩ | ⟨hbs, _⟩)
    rotate_left
    · cases hbs
    simp only [Option.some.injEq] at hbs
    subst hbs
    obtain ⟨B1, d1, rfl, ho1, hb2⟩ := HBE.out _ _ _ hby
    have hbw2 := below_then hb1 (Nat.le_refl _) hb2
    clear hby hb2
    go_wp2_with fail
    refine (E2.out w2 (HH.out.go hbw2)).mono ?_
    rintro e w3 (⟨bs', v3, hbs, rfl, hby⟩ | ⟨hbs, _⟩)
    rotate_left
    · cases hbs
    simp only [Option.some.injEq] at hbs
    subst hbs
    obtain ⟨B2, d2, rfl, ho2, hb3⟩ := HBE.out _ _ _ hby
    have hbw3 := below_then hbw2 (Nat.le_refl _) hb3
    have GS := Lib.hid (sameB_any B1 B2 len d1 len d2 w3.heap.size w3.heap.size bs bs w3 (Rd.of_own (own_below ho1 hb3 (Nat.le_refl _))) (Rd.of_own ho2))
    rw [beq_self_eq_true] at GS
    clear hby hb3 ho1 ho2
    go_wp2_with fail
    refine GS.out.mono ?_
    rintro e w4 ⟨rfl, rfl⟩
    go_wp2
    go_ret
    exact ⟨rfl, hbw3⟩
end Go.Proofs.Ytldcgmnfohhjbac
