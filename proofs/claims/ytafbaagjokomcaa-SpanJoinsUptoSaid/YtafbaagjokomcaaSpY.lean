/- Walk over the law SpanJoins. -/
import Derived.Test.YtafbaagjokomcaaSpS
import Derived.Test.YtafbaagjokomcaaSpW
import Derived.Test.YtafbaagjokomcaaOpen
namespace Go.Proofs.Ytafbaagjokomcaa
open Go.RowKit
set_option maxRecDepth 100000

/-- Rows of different elements lie apart. -/
theorem own_apartS {w : World} {b1 b2 : Nat} {e1 e2 : TypeId} {s1 s2 n1 n2 : Nat} {v1 v2 : Value} {xs1 xs2 : List Value} (h1 : w.ownsRow b1 e1 s1 v1 n1 xs1) (h2 : w.ownsRow b2 e2 s2 v2 n2 xs2) (he : e1 ≠ e2) : v1.ownBlock = none ∨ v1.ownBlock ≠ v2.ownBlock := by
  rcases h1.2 with ⟨rfl, _⟩ | ⟨g, cap, cur, rfl, _, hh, _⟩
  · exact .inl rfl
  · refine .inr ?_
    rcases h2.2 with ⟨rfl, _⟩ | ⟨g', cap', cur', rfl, _, hh', _⟩
    · exact fun h => by cases h
    · intro h
      obtain rfl : g = g' := by simpa [Value.ownBlock] using h
      rw [hh] at hh'
      injection hh' with hh'
      injection hh' with _ h2
      exact he h2

/-- A list of lists of the call's own. -/
structure OwnS (w : World) (base : Nat) (A : Option Addr) (k c : Nat) (ys : List (Sl Vc.St)) : Prop where
  row : w.ownsRow base 24 1 (.slice A k c) k (ys.flatMap slv)
  el : ∀ y ∈ ys, y.xs.length = y.n ∧ w.ownsRow base 44 2 (.slice y.A y.n y.c) y.n (sv y.xs)
theorem OwnS.nil (w : World) (base : Nat) : OwnS w base none 0 0 [] := ⟨World.ownsRow_nil _ _ _ _, by simp⟩
theorem OwnS.below {w w' : World} {base : Nat} {A : Option Addr} {k c : Nat} {ys : List (Sl Vc.St)} (h : OwnS w base A k c ys) (hb : Below w.heap.size w w') : OwnS w' base A k c ys :=
  ⟨own_below h.row hb (Nat.le_refl _), fun y hy => ⟨(h.el y hy).1, own_below (h.el y hy).2 hb (Nat.le_refl _)⟩⟩
theorem OwnS.push {w w' : World} {base : Nat} {A A' : Option Addr} {k c c' : Nat} {ys : List (Sl Vc.St)} {y : Sl Vc.St} (h : OwnS w base A k c ys) (hy : y.xs.length = y.n ∧ w.ownsRow base 44 2 (.slice y.A y.n y.c) y.n (sv y.xs))
    (hg : w.grownBy w' (Value.slice A k c).ownBlock) (ho : w'.ownsRow base 24 1 (.slice A' (k + 1) c') (k + 1) (ys.flatMap slv ++ slv y)) : OwnS w' base A' (k + 1) c' (ys ++ [y]) := by
  refine ⟨by rw [List.flatMap_append]; simpa using ho, fun z hz => ?_⟩
  rcases List.mem_append.1 hz with hz | hz
  · exact ⟨(h.el z hz).1, (h.el z hz).2.kept hg (own_apartS (h.el z hz).2 h.row (by decide))⟩
  · obtain rfl : z = y := by simpa using hz
    exact ⟨hy.1, hy.2.kept hg (own_apartS hy.2 h.row (by decide))⟩
theorem OwnS.len {w : World} {base : Nat} {A : Option Addr} {k c : Nat} {ys : List (Sl Vc.St)} (h : OwnS w base A k c ys) : ys.length = k := by
  have := h.row.1
  rw [flat_len slv 1 ys (fun _ _ => rfl)] at this
  omega
theorem OwnS.rd {w : World} {base : Nat} {A : Option Addr} {k c : Nat} {ys : List (Sl Vc.St)} (h : OwnS w base A k c ys) : RdL w w.heap.size A k c (ys.map (·.xs)) := by
  have hR := Rd.of_own h.row
  have hl := h.len
  refine ⟨by rw [List.length_map]; exact hl, hR.cap, hR.max, hR.nil, fun i hi => ?_⟩
  rw [List.length_map] at hi
  obtain ⟨b, o, hA, hb, hcell⟩ := hR.plain (by omega) (by decide)
  obtain ⟨h1, h2⟩ := h.el _ (List.getElem_mem hi)
  refine ⟨b, o, (ys[i]).A, (ys[i]).n, (ys[i]).c, hA, hb, hcell i _ ?_, by rw [List.getElem_map]; exact h1, by rw [List.getElem_map]; exact Rd.of_own h2⟩
  have := flat_at slv 1 (by decide) ys (fun _ _ => rfl) i hi 0 (by decide)
  rw [Nat.mul_one, Nat.add_zero] at this
  rw [this]
  rfl
theorem spansE_info : (Try.prog.info? 24).map (fun i => (i.zero, i.size, i.bytes)) = some (some (.slice none 0 0), 1, 24) := by kernel_rfl

set_option maxHeartbeats 8000000 in
theorem spanJoins_walk (A : Option Addr) (n c : Nat) (vs : List (List Sn.Sp)) (w : World) (hl : vs.length = n) (hR : RdL w w.heap.size A n c vs) (hv : ∀ u ∈ vs, u.length ≤ 8796093022208) (hsz : n ≤ 100 → vs.flatten.length ≤ 8796093022208) :
    Calls Try.prog 6 #[.slice A n c] w fun e w' => e = .returned (.bool true) ∧ Below w.heap.size w w' := by
  obtain ⟨i0, hi0, hz0, hz1, hz2⟩ := info_parts spansE_info
  have HR := Lib.hid hR
  have HV := Lib.hid hv
  have HL := Lib.hid hl
  have G0 := Lib.hid (aliveS_any w)
  have hmax : n ≤ 9223372036854775807 := by have h1 := hR.cap; have h2 := hR.max; unfold maxLen at h2; omega
  clear hR hv hl
  by_cases hbig : 100 < n
  · go_enter Try.func6, Try.ntmps6
    go_wp2_with (go_at_call 9; go_must (refine G0.out.mono ?_); rintro e w1 ⟨rfl, k⟩)
    go_ret
    exact ⟨rfl, k⟩
  · have HSZ := Lib.hid (hsz (by omega))
    clear hsz
    go_enter Try.func6, Try.ntmps6
    go_wp2_with (go_at_call 9; go_must (refine G0.out.mono ?_); rintro e w1 ⟨rfl, k1⟩)
    go_loopw [3, 4] (fun s i wr => ∃ (k c' : Nat) (A' : Option Addr) (ys : List (Sl Vc.St)), k ≤ n ∧ i = .int .i64 k ∧ s = .slice A' k c' ∧ Below w.heap.size w wr ∧ Hid (ys.map (·.xs) = vs.take k) ∧ OwnS wr w.heap.size A' k c' ys) (fun _ i _ => n - (intOf i).toNat)
    case atStart => exact ⟨0, 0, none, [], by omega, rfl, rfl, k1, rfl, OwnS.nil _ _⟩
    case round =>
      obtain ⟨k, c', A', ys, hk, rfl, rfl, hb, hys, ho⟩ := hrel
      have HO := Lib.hid ho
      clear k1 ho
      by_cases hlt : k < n
      · have hkv : k < vs.length := by rw [HL.out]; exact hlt
        obtain ⟨b, o, Ak, nk, ck, rfl, hbl, hcell, hvl, hRk⟩ := HR.out.at_ k hkv
        have hc1 : wr.cell? ⟨b, o + k, none⟩ = some (.slice Ak nk ck) := (hb.cell (p := ⟨b, o + k, none⟩) hbl).trans hcell
        have hnk : nk ≤ 8796093022208 := by rw [← hvl]; exact HV.out _ (List.getElem_mem hkv)
        have H1 := Lib.hid (copyS_any Ak nk ck (sv vs[k]) wr ((hRk.below hb).more hb.size) (sv_oneCell _) hnk)
        have HVL := Lib.hid hvl
        have HB := Lib.hid hb
        clear hb hcell hRk hvl
        go_wp2_with fail
        refine H1.out.mono ?_
        rintro e w2 ⟨A2, c2, rfl, ho2, hb2⟩
        have HO2 := Lib.hid (HO.out.below hb2)
        have HN2 := Lib.hid (own_less ho2 HB.out.size)
        have HB2 := Lib.hid (below_then HB.out (Nat.le_refl _) hb2)
        have hs2 := HB2.out.size
        have h63 : k + 1 ≤ maxLen := by unfold maxLen; omega
        have h1max : 1 ≤ maxLen := by unfold maxLen; omega
        clear ho2 hb2 H1
        go_wp2_with (at_builtin; go_must (refine wpList_append_rd _ rfl (.tmp 18) (.tmp 24) _ rfl w.heap.size 24 i0 _ 1 24 Try.underlying38 hi0 hz0 hz1 hz2 rfl (by decide) (.slice A' k c') k _ rfl (HO2.out.row.alloc _) (w2.heap.size + 1) (some ⟨w2.heap.size, 0, none⟩) 1 1 [.slice A2 nk c2] rfl (Rd.new w2 _ 1 1 #[.slice A2 nk c2] rfl h1max) (by simp [Value.oneCell']) h63 (by omega) (by simp; omega) ?_); intro A3 c3 w3 ho3 hg3 hat3)
        go_roundw
        case rel =>
          refine ⟨k + 1, c3, A3, ys ++ [⟨A2, nk, c2, vs[k]⟩], by omega, by go_num, rfl, ?_, ?_, ?_⟩
          · exact (HB2.out.alloc (by omega) _).trans (grown_below hg3 (by simp; omega) (fun g hg => (HO2.out.row.lt g hg).1))
          · show List.map _ _ = _
            rw [List.map_append, hys.out, take_nextL vs k hkv]; rfl
          · exact OwnS.push (HO2.out.below ((Below.refl _ _).alloc (Nat.le_refl _) _)) ⟨HVL.out, HN2.out.alloc _⟩ hg3 ho3
        case measure => simp [intOf]; omega
      · obtain rfl : k = n := by omega
        have HYS := Lib.hid (show ys.map (·.xs) = vs by rw [hys.out, List.take_of_length_le (by rw [HL.out]; exact Nat.le_refl _)])
        have HRo := HO.out.rd
        rw [HYS.out] at HRo
        have H1 := Lib.hid (joinS_any A' k c' vs wr HRo HSZ.out)
        have H2 := Lib.hid fun (W : World) h => refJoinS_any A k c vs W h
        have HFM := Lib.hid (Sn.tidy_fm vs.flatten)
        generalize Sn.tidy vs.flatten = T at H1 H2 HFM
        have HB := Lib.hid hb
        clear hb hys HRo
        go_wp2_with (go_at_call 22; go_must (refine H1.out.mono ?_); rintro e w3 ⟨A3, c3, rfl, ho3, hb3⟩)
        have HB3 := Lib.hid (below_then HB.out (Nat.le_refl _) hb3)
        have HO3 := Lib.hid (HO.out.below hb3)
        have HJ3 := Lib.hid (Rd.of_own ho3)
        have hk3 : Below w3.heap.size w3 w3 := Below.refl _ _
        clear ho3 hb3
        go_loopw [6] (fun i W => ∃ i' : Nat, i' ≤ k ∧ i = .int .i64 i' ∧ Below w3.heap.size w3 W) (fun i _ => k - (intOf i).toNat)
        case atStart => exact ⟨0, by omega, rfl, hk3⟩
        case round =>
          obtain ⟨i, hi, rfl, hbi⟩ := hrel
          clear hk3
          by_cases hlt2 : i < k
          · have hiv : i < vs.length := by rw [HL.out]; exact hlt2
            have hb03 := below_then HB3.out (Nat.le_refl _) hbi
            obtain ⟨b, o, Ai, ni, ci, rfl, hbl, hcell, hvl, hRi⟩ := HR.out.at_ i hiv
            have hRoi := HO3.out.rd
            rw [HYS.out] at hRoi
            obtain ⟨b2, o2, Aj, nj2, cj, rfl, hbl2, hcell2, hvl2, hRj⟩ := hRoi.at_ i hiv
            obtain rfl : nj2 = ni := by rw [← hvl2, ← hvl]
            have q1 : wr.drew.cell? ⟨b, o + i, none⟩ = some (.slice Ai nj2 ci) := (hb03.cell (p := ⟨b, o + i, none⟩) hbl).trans hcell
            have q2 : wr.drew.cell? ⟨b2, o2 + i, none⟩ = some (.slice Aj nj2 cj) := (hbi.cell (p := ⟨b2, o2 + i, none⟩) hbl2).trans hcell2
            have H1 := sameS_any Aj Ai nj2 cj nj2 ci vs[i] vs[i] wr.drew hvl hvl ((hRj.below hbi.drew).more hbi.drew.size) ((hRi.below hb03.drew).more hb03.drew.size)
            rw [decide_eq_true rfl] at H1
            have H1 := Lib.hid H1
            have HBI := Lib.hid hbi.drew
            clear hRi hRj hvl hvl2 hRoi hb03 hcell hcell2 hbi
            go_wp2_with fail
            refine region_nrm fun K hK => ?_
            go_region_held3 (fun w' => w'.cell? ⟨b, o + i, none⟩ = some (.slice Ai nj2 ci) ∧ w'.cell? ⟨b2, o2 + i, none⟩ = some (.slice Aj nj2 cj)) (first | exact ⟨q3, q4⟩ | exact ⟨q1, q2⟩ | go_keep) (first
              | (go_at_call 11; go_must (refine H1.out.mono ?_); rintro e w5 ⟨rfl, hb5⟩; have q3 := (hb5.cell (p := ⟨b, o + i, none⟩) (World.block_lt_of_cell? _ _ q1)).trans q1; have q4 := (hb5.cell (p := ⟨b2, o2 + i, none⟩) (World.block_lt_of_cell? _ _ q2)).trans q2))
            refine Nrm.out (hK _ _ ?_)
            go_wp2
            go_roundw
            case rel => exact ⟨i + 1, by omega, by go_num, below_then HBI.out (Nat.le_refl _) hb5⟩
            case measure => simp [intOf]; omega
          · obtain rfl : i = k := by omega
            have hb03 := below_then HB3.out (Nat.le_refl _) hbi
            have E1 := fun (W : World) (X Y : Option Addr) (x y p : Nat) (u : List Vc.St) hu h1 h2 => sameS_any X Y p x p y u u W hu hu h1 h2
            simp only [decide_true] at E1
            have E1 := Lib.hid E1
            have E2 := fun (W : World) h => formedS_any A3 T.length c3 T W rfl h
            rw [HFM.out] at E2
            have E2 := Lib.hid E2
            have HBI := Lib.hid hbi
            have HB03 := Lib.hid hb03
            clear hbi hb03
            go_wp2_with (first
              | (go_at_call 23; go_must (refine (H2.out _ (HR.out.go HB03.out)).mono ?_); rintro e w5 ⟨A5, c5, rfl, ho5, hb5⟩; have hJ5 := HJ3.out.go (below_then HBI.out (Nat.le_refl _) hb5); have hb05 := below_then HB03.out (Nat.le_refl _) hb5)
              | (go_at_call 11; go_must (refine (E1.out _ _ _ _ _ _ T rfl hJ5 (Rd.of_own ho5)).mono ?_); rintro e w6 ⟨rfl, hb6⟩; have hJ6 := hJ5.go hb6; have hb06 := below_then hb05 (Nat.le_refl _) hb6)
              | (go_at_call 17; go_must (refine (E2.out _ hJ6).mono ?_); rintro e w7 ⟨rfl, hb7⟩))
            go_ret
            exact ⟨rfl, below_then hb06 (Nat.le_refl _) hb7⟩
end Go.Proofs.Ytafbaagjokomcaa
