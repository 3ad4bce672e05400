/- Walks over wire.AppendVector and the document's Vector as bytes (printed by wip/tools/genWrV.py). -/
import Derived.Test.YtndlcimckfndiaaDoorWrF
import Derived.Test.YtndlcimckfndiaaDoorWrG
namespace Go.Proofs.YtndlcimckfndiaaDoor
open Go.RowKit
set_option maxRecDepth 100000

theorem appendVec_no (A D : Option Addr) (n c m d : Nat) (sp : List Vc.St) (w : World) (hl2 : sp.length = m) (hR2 : Rd w w.heap.size 2 D m d (sv sp)) (hf : fm (-1) sp = false) :
    Calls Tryd.prog 13 #[.slice A n c, .slice D m d] w fun e w' => e = .returned (.tuple #[.slice none 0 0, .int .i64 1]) ∧ Below w.heap.size w w' := by
  have H1 := formed_any D m d sp w hl2 hR2
  rw [hf] at H1
  have G1 := Lib.hid H1
  clear H1 hR2 hl2
  go_enter Tryd.func13, Tryd.ntmps13
  go_wp2_with fail
  refine G1.out.mono ?_
  rintro e w1 ⟨rfl, hb1⟩
  go_wp2
  go_ret2
  exact ⟨rfl, hb1⟩

theorem lV_take (sp : List Vc.St) (k : Nat) (h : k < sp.length) : Wq.lP ((sp.take (k + 1)).map Wq.sw) = Wq.lP ((sp.take k).map Wq.sw) ++ layAll [sp[k].2, sp[k].1] := by
  unfold Wq.lP
  rw [List.take_succ_eq_append_getElem h, List.map_append, List.flatMap_append]; simp [layAll, Wq.sw]
theorem fm_u63s {sp : List Vc.St} (hf : fm (-1) sp = true) (hc : Wq.cts sp) : ∀ s ∈ sp, Wq.u63 s.2 ∧ Wq.u63 s.1 := fun s hs => Wq.fm_sw hf hc (Wq.sw s) (List.mem_map_of_mem hs)

set_option maxHeartbeats 4000000 in
/-- wire.AppendVector. -/
theorem appendVec_any (A D : Option Addr) (n c m d : Nat) (l : List UInt8) (sp : List Vc.St) (w : World) (hl : l.length = n) (hR : Rd w w.heap.size 1 A n c (bv l)) (hl2 : sp.length = m) (hR2 : Rd w w.heap.size 2 D m d (sv sp)) (hf : fm (-1) sp = true) (hc : Wq.cts sp) (hn : n + 2400 ≤ 140737488355328) :
    Calls Tryd.prog 13 #[.slice A n c, .slice D m d] w fun e w' => ∃ v, e = .returned (.tuple #[v, .int .i64 0]) ∧ BytesAre w.heap.size w (l ++ Wq.lV sp) v w' := by
  have H1 := formed_any D m d sp w hl2 hR2
  rw [hf] at H1
  have G1 := Lib.hid H1
  have hm := Wq.fm_len hf
  rw [hl2] at hm
  have HU := Lib.hid (fm_u63s hf hc)
  have HL2 := Lib.hid hl2
  have HR := Lib.hid hR
  have HL := Lib.hid hl
  have hum : Wq.u63 (m : Int) := ⟨by omega, by omega⟩
  have h1max : 1 ≤ maxLen := by unfold maxLen; omega
  have h2max : 2 ≤ maxLen := by unfold maxLen; omega
  clear H1 hl2 hR hl hf
  go_enter Tryd.func13, Tryd.ntmps13
  go_wp2_with fail
  refine G1.out.mono ?_
  rintro e w1 ⟨rfl, hb1⟩
  have hs1 := hb1.size
  have hbA : Below w.heap.size w (w1.alloc (.cells #[.int .i64 m] 3)) := hb1.alloc hs1 _
  have hRn := Rd.new w1 3 1 1 #[.int .i64 m] rfl h1max
  have hRb := HR.out.go hbA
  have G2 := Lib.hid (lay_any A (some ⟨w1.heap.size, 0, none⟩) n c 1 1 l [(m : Int)] (w1.alloc (.cells #[.int .i64 m] 3)) HL.out hRb rfl (by rw [World.size_alloc]; exact hRn) (by simpa using hum) (by omega) (by omega))
  clear G1 hRn hRb hb1
  go_wp2_with fail
  refine G2.out.mono ?_
  rintro e w2 ⟨v2, rfl, A2, c2, rfl, ho2, hb2⟩
  have hbw2 := below_then hbA (Nat.le_refl _) hb2
  have HHL := Lib.hid (show (l ++ layAll [(m : Int)]).length ≤ n + 9 by
    rw [List.length_append, HL.out]
    have := layAll_len [(m : Int)] (by simpa using hum)
    simp at this; omega)
  obtain ⟨l2, hl2⟩ : ∃ l2, l2 = l ++ layAll [(m : Int)] := ⟨_, rfl⟩
  rw [← hl2] at ho2 HHL
  obtain ⟨n2, hn2⟩ : ∃ n2, n2 = l2.length := ⟨_, rfl⟩
  rw [← hn2] at ho2 HHL
  have hn2le := HHL.out
  have HL22 := Lib.hid hl2
  have HN2 := Lib.hid hn2
  rw [← hl2, ← hn2]
  clear G2 hb2 hbA hl2 hn2
  go_wp2_with fail
  go_loopw [6, 8, 19] (fun v6 _ v19 wr => ∃ (k N c' : Nat) (A' : Option Addr), v19 = .int .i64 k ∧ v6 = .slice A' N c' ∧ k ≤ m ∧ N ≤ n2 + 18 * k ∧ wr.ownsRow w.heap.size 5 1 (.slice A' N c') N (bv (l2 ++ Wq.lP ((sp.take k).map Wq.sw))) ∧ Below w.heap.size w wr ∧
    Hid ((l2 ++ Wq.lP ((sp.take k).map Wq.sw)).length = N)) (fun _ _ v19 _ => m - (intOf v19).toNat)
  case atStart => exact ⟨0, n2, c2, A2, rfl, rfl, by omega, by omega, by simpa [Wq.lP] using own_less ho2 (by simp; omega), hbw2, by show _ = _; simp [Wq.lP, HN2.out]⟩
  case round =>
    obtain ⟨k, N, c', A', rfl, rfl, hk, hN, ho, hb, hq⟩ := hrel
    have hbs := hb.size
    have HO := Lib.hid ho
    by_cases hlt : k < m
    · have hks : k < sp.length := by rw [HL2.out]; exact hlt
      obtain ⟨b, o, rfl, hab, g0, g1⟩ := hR2.stamp HL2.out hlt
      have h0 := (hb.cell (p := ⟨b, o + k * 2, none⟩) hab).trans g0
      have h1 := (hb.cell (p := ⟨b, o + k * 2 + 1, none⟩) hab).trans g1
      have HT := Lib.hid (lV_take sp k hks)
      have HUk := Lib.hid (HU.out _ (List.getElem_mem hks))
      generalize hlo : (sp[k]'hks).1 = hi at h0 g0 HT HUk
      generalize hhi : (sp[k]'hks).2 = lo at h1 g1 HT HUk
      have hbA : Below w.heap.size w ((wr.alloc (.cells #[.int .i64 hi, .int .i64 lo] 61)).alloc (.cells #[.int .i64 lo, .int .i64 hi] 3)) := (hb.alloc hbs _).alloc (by simp; omega) _
      have hRn := Rd.new (wr.alloc (.cells #[.int .i64 hi, .int .i64 lo] 61)) 3 1 2 #[.int .i64 lo, .int .i64 hi] rfl h2max
      have hRb := ((Rd.of_own ho).alloc (Nat.le_refl _) (.cells #[.int .i64 hi, .int .i64 lo] 61)).alloc (by simp) (.cells #[.int .i64 lo, .int .i64 hi] 3)
      have hu2 : ∀ x ∈ [lo, hi], Wq.u63 x := by
        intro x hx
        simp only [List.mem_cons, List.not_mem_nil, or_false] at hx
        rcases hx with rfl | rfl
        · exact HUk.out.1
        · exact HUk.out.2
      have G3 := Lib.hid (lay_any A' (some ⟨wr.heap.size + 1, 0, none⟩) N c' 2 2 (l2 ++ Wq.lP ((sp.take k).map Wq.sw)) [lo, hi] _ hq.out (hRb.more (by simp; omega)) rfl (by rw [World.size_alloc] at hRn; rw [World.size_alloc, World.size_alloc]; exact hRn) hu2 (by omega) (by omega))
      have HE := Lib.hid (layAll_len [lo, hi] hu2)
      have HBA := Lib.hid hbA
      clear hlo hhi ho hRn hRb hu2 hks hb hbA g0 g1 hR2 HUk
      go_wp2_with fail
      refine G3.out.mono ?_
      rintro e w3 ⟨v3, rfl, A3, c3, rfl, ho3, hb3⟩
      have hb4 := below_then HBA.out (Nat.le_refl _) hb3
      have e1 : l2 ++ Wq.lP ((sp.take k).map Wq.sw) ++ layAll [lo, hi] = l2 ++ Wq.lP ((sp.take (k + 1)).map Wq.sw) := by rw [HT.out, List.append_assoc]
      have hlen : (l2 ++ Wq.lP ((sp.take k).map Wq.sw) ++ layAll [lo, hi]).length ≤ N + 18 := by
        have := HE.out
        rw [List.length_append, hq.out]; simp at this; omega
      obtain ⟨N3, hN3⟩ : ∃ N3, N3 = (l2 ++ Wq.lP ((sp.take k).map Wq.sw) ++ layAll [lo, hi]).length := ⟨_, rfl⟩
      rw [← hN3] at ho3 hlen ⊢
      rw [e1] at hN3 ho3
      have HN3 := Lib.hid hN3
      clear G3 hb3 e1 hN3
      go_wp2
      go_roundw
      case rel =>
        exact ⟨k + 1, N3, c3, A3, by go_num, rfl, by omega, by omega, own_less ho3 (by simp; omega), hb4, HN3.out.symm⟩
      case measure => simp [intOf]; omega
    · obtain rfl : k = m := by omega
      clear hR2 ho
      go_wp2
      go_ret2
      have e0 : sp.take k = sp := List.take_of_length_le (by rw [HL2.out]; exact Nat.le_refl _)
      have q1 := hq.out
      have q3 := HO.out
      rw [e0, HL22.out] at q1 q3
      have e2 : l ++ layAll [(k : Int)] ++ Wq.lP (sp.map Wq.sw) = l ++ Wq.lV sp := by
        unfold Wq.lV; rw [HL2.out]; simp [layAll]
      rw [e2] at q1 q3
      exact ⟨_, rfl, A', c', by rw [q1]; rfl, by rw [q1]; exact q3, hb⟩

set_option maxHeartbeats 8000000 in
theorem refVecBytes_any (D : Option Addr) (m d : Nat) (sp : List Vc.St) (w : World) (hl2 : sp.length = m) (hR2 : Rd w w.heap.size 2 D m d (sv sp)) (hf : fm (-1) sp = true) (hc : Wq.cts sp) :
    Calls Tryd.prog 12 #[.slice D m d] w fun e w' => ∃ v, e = .returned v ∧ BytesAre w.heap.size w (Wq.lV sp) v w' := by
  obtain ⟨i0, hi0, hz0, hz1, hz2⟩ := info_parts u8_info
  have hm := Wq.fm_len hf
  rw [hl2] at hm
  have HU := Lib.hid (fm_u63s hf hc)
  have HL2 := Lib.hid hl2
  have G1 := Lib.hid (refBytes_any m w (by omega))
  obtain ⟨n2, hn2⟩ : ∃ n2, n2 = (Pk.lay m).length := ⟨_, rfl⟩
  have hn9 : n2 ≤ 9 := by rw [hn2]; exact Pk.lay_len9 (by omega)
  rw [← hn2] at G1
  have HN2 := Lib.hid hn2
  clear hl2 hf hn2
  go_enter Tryd.func12, Tryd.ntmps12
  go_wp2_with fail
  refine G1.out.mono ?_
  rintro e w1 ⟨A2, c2, rfl, ho2, hb1⟩
  clear G1
  go_wp2_with fail
  go_loopw [3, 4] (fun v6 v19 wr => ∃ (k N c' : Nat) (A' : Option Addr), v19 = .int .i64 k ∧ v6 = .slice A' N c' ∧ k ≤ m ∧ N ≤ n2 + 18 * k ∧ wr.ownsRow w.heap.size 5 1 (.slice A' N c') N (bv (Pk.lay m ++ Wq.lP ((sp.take k).map Wq.sw))) ∧ Below w.heap.size w wr ∧
    Hid ((Pk.lay m ++ Wq.lP ((sp.take k).map Wq.sw)).length = N)) (fun _ v19 _ => m - (intOf v19).toNat)
  case atStart => exact ⟨0, n2, c2, A2, rfl, rfl, by omega, by omega, by simpa [Wq.lP] using ho2, hb1, by show _ = _; simp [Wq.lP, HN2.out]⟩
  case round =>
    obtain ⟨k, N, c', A', rfl, rfl, hk, hN, ho, hb, hq⟩ := hrel
    by_cases hlt : k < m
    · have hks : k < sp.length := by rw [HL2.out]; exact hlt
      obtain ⟨b, o, rfl, hab, g0, g1⟩ := hR2.stamp HL2.out hlt
      have HT := Lib.hid (lV_take sp k hks)
      have HUk := Lib.hid (HU.out _ (List.getElem_mem hks))
      generalize (sp[k]'hks).1 = hi at g0 HT HUk
      generalize (sp[k]'hks).2 = lo at g1 HT HUk
      obtain ⟨x, hx⟩ : ∃ x : Nat, lo = (x : Int) := ⟨lo.toNat, by have := HUk.out.1.1; omega⟩
      obtain ⟨y, hy⟩ : ∃ y : Nat, hi = (y : Int) := ⟨hi.toNat, by have := HUk.out.2.1; omega⟩
      subst hx hy
      have hx9 := u63_len HUk.out.1
      have hy9 := u63_len HUk.out.2
      rw [Int.toNat_natCast] at hx9 hy9
      have G2 := Lib.hid fun W => refBytes_any x W (by have := HUk.out.1.2; omega)
      have G3 := Lib.hid fun W => refBytes_any y W (by have := HUk.out.2.2; omega)
      obtain ⟨lx, hlx⟩ : ∃ lx, lx = (Pk.lay x).length := ⟨_, rfl⟩
      obtain ⟨ly, hly⟩ : ∃ ly, ly = (Pk.lay y).length := ⟨_, rfl⟩
      rw [← hlx] at G2 hx9
      rw [← hly] at G3 hy9
      have HLX := Lib.hid hlx
      have HLY := Lib.hid hly
      have HS := Lib.hid fun W (hb : Below w.heap.size w W) => (show (W.cell? ⟨b, o + k * 2, none⟩ = some (.int .i64 (y : Int)) ∧ W.cell? ⟨b, o + k * 2 + 1, none⟩ = some (.int .i64 (x : Int))) from
        ⟨(hb.cell (p := ⟨b, o + k * 2, none⟩) hab).trans g0, (hb.cell (p := ⟨b, o + k * 2 + 1, none⟩) hab).trans g1⟩)
      obtain ⟨l2, hl2⟩ : ∃ l2, l2 = Pk.lay m ++ Wq.lP ((sp.take k).map Wq.sw) := ⟨_, rfl⟩
      rw [← hl2] at ho hq
      have HL := Lib.hid hl2
      have E := Lib.hid (show wr.drew.ownsRow w.heap.size 5 1 (.slice A' N c') N (bv l2) from ho)
      have kw : Below w.heap.size w wr.drew := hb.drew
      have h63 : N + lx ≤ maxLen := by unfold maxLen; omega
      have h63b : N + lx + ly ≤ maxLen := by unfold maxLen; omega
      clear ho hb hlx hly hks g0 g1 hl2 hR2
      go_wp2_with fail
      refine region_nrm fun KK hKK => ?_
      refine wp_region_held_drew (S := (fun W => W.cell? ⟨b, o + k * 2, none⟩ = some (.int .i64 (y : Int)) ∧ W.cell? ⟨b, o + k * 2 + 1, none⟩ = some (.int .i64 (x : Int)))) (by kernel_rfl) (by first | exact HS.out _ kw) (fun hHeld => ?_)
      refine wpAnyH_putD (i := 0) (d := 14) (v := ?_) rfl rfl (by kernel_rfl) (by kernel_rfl) (by kernel_rfl) (fun _ _ _ h => h) (Or.inl ⟨by kernel_rfl, ?_⟩) (by first | exact HS.out _ kw) ?_
      rotate_left
      · (intro w hS; (try dsimp only at hS); go_simp <;> with_reducible rfl)
      try simp only [List.setIfInBounds_toArray, List.set_cons_zero, List.set_cons_succ]
      refine wpAnyH_putD (i := 1) (d := 15) (v := ?_) rfl rfl (by kernel_rfl) (by kernel_rfl) (by kernel_rfl) (fun _ _ _ h => h) (Or.inl ⟨by kernel_rfl, ?_⟩) (by first | exact HS.out _ kw) ?_
      rotate_left
      · (intro w hS; (try dsimp only at hS); go_simp <;> with_reducible rfl)
      try simp only [List.setIfInBounds_toArray, List.set_cons_zero, List.set_cons_succ]
      refine wpAnyH_putD (i := 2) (d := 16) (v := ?_) rfl rfl (by kernel_rfl) (by kernel_rfl) (by kernel_rfl) (fun _ _ _ h => h) (Or.inl ⟨by kernel_rfl, ?_⟩) (by first | exact HS.out _ kw) ?_
      rotate_left
      · (intro w hS; (try dsimp only at hS); go_simp <;> with_reducible rfl)
      try simp only [List.setIfInBounds_toArray, List.set_cons_zero, List.set_cons_succ]
      refine wpAnyH_putD (i := 3) (d := 17) (v := ?_) rfl rfl (by kernel_rfl) (by kernel_rfl) (by kernel_rfl) (fun _ _ _ h => h) (Or.inl ⟨by kernel_rfl, ?_⟩) (by first | exact HS.out _ kw) ?_
      rotate_left
      · (intro w hS; (try dsimp only at hS); go_simp <;> with_reducible rfl)
      try simp only [List.setIfInBounds_toArray, List.set_cons_zero, List.set_cons_succ]
      refine wpAnyH_putD (i := 4) (d := 18) (v := ?_) rfl rfl (by kernel_rfl) (by kernel_rfl) (by kernel_rfl) (fun _ _ _ h => h) (Or.inl ⟨by kernel_rfl, ?_⟩) (by first | exact HS.out _ kw) ?_
      rotate_left
      · (intro w hS; (try dsimp only at hS); go_simp <;> with_reducible rfl)
      try simp only [List.setIfInBounds_toArray, List.set_cons_zero, List.set_cons_succ]
      refine wpAnyH_putD (i := 5) (d := 19) (v := ?_) rfl rfl (by kernel_rfl) (by kernel_rfl) (by kernel_rfl) (fun _ _ _ h => h) (Or.inl ⟨by kernel_rfl, ?_⟩) (by first | exact HS.out _ kw) ?_
      rotate_left
      · (intro w hS; (try dsimp only at hS); go_simp <;> with_reducible rfl)
      try simp only [List.setIfInBounds_toArray, List.set_cons_zero, List.set_cons_succ]
      refine wpAnyH_putD (i := 8) (d := 22) (v := ?_) rfl rfl (by kernel_rfl) (by kernel_rfl) (by kernel_rfl) (fun _ _ _ h => h) (Or.inl ⟨by kernel_rfl, ?_⟩) (by first | exact HS.out _ kw) ?_
      rotate_left
      · (intro w hS; (try dsimp only at hS); go_simp <;> with_reducible rfl)
      try simp only [List.setIfInBounds_toArray, List.set_cons_zero, List.set_cons_succ]
      refine wpAnyH_putD (i := 9) (d := 23) (v := ?_) rfl rfl (by kernel_rfl) (by kernel_rfl) (by kernel_rfl) (fun _ _ _ h => h) (Or.inl ⟨by kernel_rfl, ?_⟩) (by first | exact HS.out _ kw) ?_
      rotate_left
      · (intro w hS; (try dsimp only at hS); go_simp <;> with_reducible rfl)
      try simp only [List.setIfInBounds_toArray, List.set_cons_zero, List.set_cons_succ]
      refine wpAnyH_putD (i := 10) (d := 24) (v := ?_) rfl rfl (by kernel_rfl) (by kernel_rfl) (by kernel_rfl) (fun _ _ _ h => h) (Or.inl ⟨by kernel_rfl, ?_⟩) (by first | exact HS.out _ kw) ?_
      rotate_left
      · (intro w hS; (try dsimp only at hS); go_simp <;> with_reducible rfl)
      try simp only [List.setIfInBounds_toArray, List.set_cons_zero, List.set_cons_succ]
      refine wpAnyH_putD (i := 11) (d := 25) (v := ?_) rfl rfl (by kernel_rfl) (by kernel_rfl) (by kernel_rfl) (fun _ _ _ h => h) (Or.inl ⟨by kernel_rfl, ?_⟩) (by first | exact HS.out _ kw) ?_
      rotate_left
      · (intro w hS; (try dsimp only at hS); go_simp <;> with_reducible rfl)
      try simp only [List.setIfInBounds_toArray, List.set_cons_zero, List.set_cons_succ]
      refine wpAnyH_putD (i := 12) (d := 26) (v := ?_) rfl rfl (by kernel_rfl) (by kernel_rfl) (by kernel_rfl) (fun _ _ _ h => h) (Or.inl ⟨by kernel_rfl, ?_⟩) (by first | exact HS.out _ kw) ?_
      rotate_left
      · (intro w hS; (try dsimp only at hS); go_simp <;> with_reducible rfl)
      try simp only [List.setIfInBounds_toArray, List.set_cons_zero, List.set_cons_succ]
      refine wpAnyH_ready (rs := [6]) (by kernel_rfl) (by simp) ?_
      refine AllReadyH.cons rfl (fun K hK => ?_) AllReadyH.nil
      go_simp
      refine (G2.out _).mono ?_
      rintro e W1 ⟨D1, d1, rfl, ho1, hb'⟩
      have C := Lib.hid ho1
      have E := Lib.hid (own_below E.out hb' (Nat.le_refl _))
      have kw := below_then kw (Nat.le_refl _) hb'
      clear ho1 hb'
      refine hK.out _ _ (by first | exact HS.out _ kw) (fun hHeld => ?_)
      clear hK K
      refine wpAnyH_ready (rs := [7]) (by kernel_rfl) (by simp) ?_
      refine AllReadyH.cons rfl (fun K hK => ?_) AllReadyH.nil
      rw [if_pos (by kernel_rfl)]
      refine wp_append_rd _ (.tmp 14) (.tmp 20) _ rfl w.heap.size 5 i0 _ 1 1 Tryd.underlying23 hi0 hz0 hz1 hz2 rfl (by decide) _ N (bv l2) rfl E.out _ D1 lx d1 (bv (Pk.lay x)) rfl (Rd.of_own C.out) (bv_oneCell _) h63 (by omega) kw.size ?_
      intro A14 c14 V14 ho hg hat
      have kw := kw.trans (grown_below hg kw.size (fun g hg' => (E.out.lt g hg').1))
      have E := Lib.hid ho
      clear ho hg hat C
      refine hK.out _ _ (by first | exact HS.out _ kw) (fun hHeld => ?_)
      clear hK K
      refine wpAnyH_ready (rs := [13]) (by kernel_rfl) (by simp) ?_
      refine AllReadyH.cons rfl (fun K hK => ?_) AllReadyH.nil
      go_simp
      refine (G3.out _).mono ?_
      rintro e W2 ⟨D2, d2, rfl, ho1, hb'⟩
      have C := Lib.hid ho1
      have E := Lib.hid (own_below E.out hb' (Nat.le_refl _))
      have kw := below_then kw (Nat.le_refl _) hb'
      clear ho1 hb'
      refine hK.out _ _ (by first | exact HS.out _ kw) (fun hHeld => ?_)
      clear hK K
      refine wpAnyH_ready (rs := [14]) (by kernel_rfl) (by simp) ?_
      refine AllReadyH.cons rfl (fun K hK => ?_) AllReadyH.nil
      rw [if_pos (by kernel_rfl)]
      refine wp_append_rd _ (.tmp 21) (.tmp 27) _ rfl w.heap.size 5 i0 _ 1 1 Tryd.underlying23 hi0 hz0 hz1 hz2 rfl (by decide) _ (N + lx) (bv l2 ++ bv (Pk.lay x)) rfl E.out _ D2 ly d2 (bv (Pk.lay y)) rfl (Rd.of_own C.out) (bv_oneCell _) h63b (by omega) kw.size ?_
      intro A21 c21 V21 ho hg hat
      have kw := kw.trans (grown_below hg kw.size (fun g hg' => (E.out.lt g hg').1))
      have E := Lib.hid ho
      clear ho hg hat C
      refine hK.out _ _ (by first | exact HS.out _ kw) (fun hHeld => ?_)
      clear hK K
      refine wpAnyH_putD (i := 15) (d := 3) (v := ?_) rfl rfl (by kernel_rfl) (by kernel_rfl) (by kernel_rfl) (fun _ _ _ h => h) (Or.inl ⟨by kernel_rfl, ?_⟩) (by first | exact HS.out _ kw) ?_
      rotate_left
      · (intro w hS; (try dsimp only at hS); go_simp <;> with_reducible rfl)
      try simp only [List.setIfInBounds_toArray, List.set_cons_zero, List.set_cons_succ]
      refine wpAnyH_done (by kernel_rfl) ?_ _
      refine Nrm.out (hKK _ _ ?_)
      go_wp2
      go_roundw
      case rel =>
        have e3 : Pk.lay m ++ Wq.lP ((sp.take (k + 1)).map Wq.sw) = l2 ++ Pk.lay x ++ Pk.lay y := by rw [HT.out, HL.out]; simp [layAll]
        refine ⟨k + 1, N + lx + ly, c21, A21, by go_num, rfl, by omega, by omega, ?_, kw, ?_⟩
        · rw [e3, bv_app, bv_app]; exact E.out
        · show _ = _
          rw [e3, List.length_append, List.length_append, hq.out, HLX.out, HLY.out]
      case measure => simp [intOf]; omega
    · obtain rfl : k = m := by omega
      have HO := Lib.hid ho
      clear hR2 ho
      go_wp2
      go_ret
      have e0 : sp.take k = sp := List.take_of_length_le (by rw [HL2.out]; exact Nat.le_refl _)
      have q1 := hq.out
      have q3 := HO.out
      rw [e0] at q1 q3
      have e2 : Pk.lay k ++ Wq.lP (sp.map Wq.sw) = Wq.lV sp := by unfold Wq.lV; rw [HL2.out]
      rw [e2] at q1 q3
      exact ⟨_, rfl, A', c', by rw [q1]; rfl, by rw [q1]; exact q3, hb⟩
end Go.Proofs.YtndlcimckfndiaaDoor
