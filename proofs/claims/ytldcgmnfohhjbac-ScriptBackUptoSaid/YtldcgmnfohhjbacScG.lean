/- Lists of steps; walks: script.Lay, the document's Lay. -/
import Derived.Test.YtldcgmnfohhjbacScF
import Derived.Test.YtldcgmnfohhjbacOpen
namespace Go.Proofs.Ytldcgmnfohhjbac
open Go.RowKit
set_option maxRecDepth 100000

/-- Steps laid as a script. -/
def layS : List Sc.Stp → Option (List UInt8)
  | [] => some []
  | x :: r => if Sc.fmB x = true then (match layS r with | none => none | some bs => some (Wq.lR (Sc.enc x) ++ bs)) else none
def laid (l : List Sc.Stp) : List UInt8 := l.flatMap fun x => Wq.lR (Sc.enc x)
theorem layS_all {l : List Sc.Stp} (h : ∀ x ∈ l, Sc.fmB x = true) : layS l = some (laid l) := by
  induction l with
  | nil => rfl
  | cons x r ih => rw [layS, if_pos (h x (by simp)), ih fun y hy => h y (by simp [hy])]; simp [laid]
theorem layS_no {l : List Sc.Stp} {x : Sc.Stp} (h : x ∈ l) (hx : Sc.fmB x = false) : layS l = none := by
  induction l with
  | nil => cases h
  | cons y r ih =>
    rw [layS]
    rcases List.mem_cons.1 h with rfl | h
    · rw [if_neg (by rw [hx]; simp)]
    · by_cases hy : Sc.fmB y = true
      · rw [if_pos hy, ih h]
      · rw [if_neg hy]
theorem laid_take (l : List Sc.Stp) (k : Nat) (h : k < l.length) : laid (l.take (k + 1)) = laid (l.take k) ++ Wq.lR (Sc.enc l[k]) := by
  unfold laid
  rw [List.take_succ_eq_append_getElem h, List.flatMap_append]; simp

/-- Steps as cells. -/
def stv (L : List (SV × Sc.Stp)) : List Value := L.flatMap fun p => (p.1.val p.2).toList
theorem stv_at (L : List (SV × Sc.Stp)) (k : Nat) (h : k < L.length) (j : Nat) (hj : j < 7) : (stv L)[k * 7 + j]? = ((L[k].1.val L[k].2).toList)[j]? := flat_at (fun p : SV × Sc.Stp => (p.1.val p.2).toList) 7 (by decide) L (fun _ _ => rfl) k h j hj
/-- A slice of steps. -/
structure RdSt (w : World) (B : Nat) (A : Option Addr) (n c : Nat) (L : List (SV × Sc.Stp)) : Prop where
  len : L.length = n
  rd : Rd w B 7 A n c (stv L)
  each : ∀ p ∈ L, StpRd w B p.1 p.2
theorem RdSt.go {w w' : World} {A : Option Addr} {n c : Nat} {L : List (SV × Sc.Stp)} (h : RdSt w w.heap.size A n c L) (hb : Below w.heap.size w w') : RdSt w' w'.heap.size A n c L := ⟨h.len, h.rd.go hb, fun p hp => (h.each p hp).go hb⟩
theorem RdSt.step {w : World} {B n c k : Nat} {A : Option Addr} {L : List (SV × Sc.Stp)} (h : RdSt w B A n c L) (hk : k < L.length) :
    ∃ b o, A = some ⟨b, o, none⟩ ∧ b < B ∧ w.cell? ⟨b, o + k * 7, none⟩ = some (.int .i64 L[k].2.kind) ∧ w.cell? ⟨b, o + k * 7 + 1, none⟩ = some (.int .i64 L[k].2.a) ∧
      w.cell? ⟨b, o + k * 7 + 2, none⟩ = some (.int .i64 L[k].2.b) ∧ w.cell? ⟨b, o + k * 7 + 3, none⟩ = some (.int .i64 L[k].2.obj) ∧ w.cell? ⟨b, o + k * 7 + 4, none⟩ = some (.int .i64 L[k].2.n) ∧
      w.cell? ⟨b, o + k * 7 + 5, none⟩ = some (.slice L[k].1.A1 L[k].1.n1 L[k].1.c1) ∧ w.cell? ⟨b, o + k * 7 + 6, none⟩ = some (.slice L[k].1.A2 L[k].1.n2 L[k].1.c2) := by
  have hl := h.len
  obtain ⟨b, o, rfl, hb, hc⟩ := h.rd.plain (by omega) (by decide)
  have e : ∀ j, j < 7 → ∀ u, ((L[k].1.val L[k].2).toList)[j]? = some u → w.cell? ⟨b, o + k * 7 + j, none⟩ = some u := fun j hj u hu => by
    rw [Nat.add_assoc]
    exact hc (k * 7 + j) u (by rw [stv_at L k hk j hj, hu])
  exact ⟨b, o, rfl, hb, e 0 (by decide) _ rfl, e 1 (by decide) _ rfl, e 2 (by decide) _ rfl, e 3 (by decide) _ rfl, e 4 (by decide) _ rfl, e 5 (by decide) _ rfl, e 6 (by decide) _ rfl⟩

/-- What a script that is laid hands back. -/
def LayP (w : World) (r : Option (List UInt8)) (e : Ending) (w' : World) : Prop :=
  (∃ bs v, r = some bs ∧ e = .returned (.tuple #[v, .int .i64 0]) ∧ BytesAre w.heap.size w bs v w') ∨ (r = none ∧ e = .returned (.tuple #[.slice none 0 0, .int .i64 1]) ∧ Below w.heap.size w w')
def stps (L : List (SV × Sc.Stp)) : List Sc.Stp := L.map (·.2)
theorem lR_enc_len {x : Sc.Stp} (h : Sc.fmB x = true) (hs : Sc.small x) : (Wq.lR (Sc.enc x)).length ≤ 1033 ∧ (Pk.lay (Sc.enc x).length).length ≤ 9 := by
  have h1 := (Sc.enc_len (fmB_iff.1 h) hs).1
  have h2 : (Pk.lay (Sc.enc x).length).length ≤ 9 := Pk.lay_len9 (by omega)
  unfold Wq.lR
  rw [List.length_append]; omega

set_option maxHeartbeats 4000000 in
/-- script.Lay. -/
theorem scLay_any (A : Option Addr) (n c : Nat) (L : List (SV × Sc.Stp)) (w : World) (h : RdSt w w.heap.size A n c L) (hs : ∀ p ∈ L, Sc.small p.2) (hn : n ≤ 2097152) :
    Calls Try.prog 18 #[.slice A n c] w (LayP w (layS (stps L))) := by
  have HLN := Lib.hid h.len
  have HSM := Lib.hid hs
  have HH := Lib.hid h
  clear h hs
  go_enter Try.func18, Try.ntmps18
  go_wp2
  go_loopw [4, 6, 7, 8, 11] (fun v4 _ _ _ v11 wr => ∃ (k N c' : Nat) (A' : Option Addr), v11 = .int .i64 k ∧ v4 = .slice A' N c' ∧ k ≤ n ∧ N ≤ 1033 * k ∧ wr.ownsRow w.heap.size 5 1 (.slice A' N c') N (bv (laid ((stps L).take k))) ∧ Below w.heap.size w wr ∧
    Hid ((laid ((stps L).take k)).length = N ∧ ∀ x ∈ (stps L).take k, Sc.fmB x = true)) (fun _ _ _ _ v11 _ => n - (intOf v11).toNat)
  case atStart => exact ⟨0, 0, 0, none, rfl, rfl, by omega, by omega, World.ownsRow_nil _ _ _ _, Below.refl _ _, rfl, fun x hx => by simp at hx⟩
  case round =>
    obtain ⟨k, N, c', A', rfl, rfl, hk, hN, ho, hb, hq⟩ := hrel
    have hbs := hb.size
    by_cases hlt : k < n
    · have hkL : k < L.length := by rw [HLN.out]; exact hlt
      obtain ⟨b, o, rfl, hab, g0, g1, g2, g3, g4, g5, g6⟩ := (HH.out.go hb).step hkL
      have hkS : k < (stps L).length := by simpa [stps] using hkL
      have hxe : (stps L)[k] = L[k].2 := by simp [stps]
      have HT := Lib.hid (laid_take (stps L) k hkS)
      have hsm := HSM.out _ (List.getElem_mem hkL)
      have hrd := (HH.out.go hb).each _ (List.getElem_mem hkL)
      generalize L[k] = p at g0 g1 g2 g3 g4 g5 g6 hxe hsm hrd
      obtain ⟨v, x⟩ := p
      obtain ⟨A1, n1, c1, A2, n2, c2⟩ := v
      simp only at hxe hsm hrd g0 g1 g2 g3 g4 g5 g6
      have hbA : Below wr.heap.size wr (wr.alloc (.cells (SV.val ⟨A1, n1, c1, A2, n2, c2⟩ x) 25)) := (Below.refl _ _).alloc (Nat.le_refl _) _
      have G := Lib.hid (scEncode_any ⟨A1, n1, c1, A2, n2, c2⟩ x _ (hrd.go hbA) hsm)
      obtain ⟨len, hlen⟩ : ∃ len, len = (Sc.enc x).length := ⟨_, rfl⟩
      have hBe : ∀ (W w' : World) (v : Value), BytesAre W.heap.size W (Sc.enc x) v w' → ∃ A' c', v = .slice A' len c' ∧ w'.ownsRow W.heap.size 5 1 (.slice A' len c') len (bv (Sc.enc x)) ∧ Below W.heap.size W w' := fun W w' v h => by rw [hlen]; exact h
      have HBE := Lib.hid hBe
      have HHH := Lib.hid hxe
      rcases hf : Sc.fmB x with _ | _
      · have HN := Lib.hid (layS_no (l := stps L) (x := x) (by rw [← hxe]; exact List.getElem_mem hkS) hf)
        rw [hf] at G
        have HO := Lib.hid ho
        have HBA := Lib.hid hbA
        clear hf hxe hsm hrd hkL hlen hBe ho hbA
        go_wp2_with fail
        refine G.out.mono ?_
        rintro e w2 (⟨hf, _⟩ | ⟨_, rfl, hb2⟩)
        · cases hf
        go_wp2
        go_ret2
        exact .inr ⟨HN.out, rfl, below_then hb (Nat.le_refl _) (below_then HBA.out (Nat.le_refl _) hb2)⟩
      · obtain ⟨q1, q2⟩ := lR_enc_len hf hsm
        have HF := Lib.hid hf
        rw [hf] at G
        rw [← hlen] at q2
        have HQ1 := Lib.hid (show (Pk.lay len).length + len ≤ 1033 by rw [hlen]; unfold Wq.lR at q1; rw [List.length_append] at q1; omega)
        have HLEN := Lib.hid hlen
        have hln : len ≤ 1033 := by have := HQ1.out; omega
        rw [hxe] at HT
        have HO := Lib.hid ho
        have HBA := Lib.hid hbA
        clear hf hxe hsm hrd hkL hlen hBe ho hbA q1
        go_wp2_with fail
        refine G.out.mono ?_
        rintro e w2 (⟨_, v2, rfl, hby⟩ | ⟨hf, _⟩)
        · obtain ⟨A4, c4, rfl, ho4, hb2⟩ := HBE.out _ _ _ hby
          clear hby
          have hb3 := below_then HBA.out (Nat.le_refl _) hb2
          have hbw3 := below_then hb (Nat.le_refl _) hb3
          have ho3 := own_below HO.out hb3 (Nat.le_refl _)
          have G2 := Lib.hid (appendRow_any A' A4 N c' len c4 (laid ((stps L).take k)) (Sc.enc x) w2 hq.out.1 (Rd.of_own ho3) (Rd.of_own ho4) (by omega))
          obtain ⟨ly, hly⟩ : ∃ ly, ly = (Pk.lay len).length := ⟨_, rfl⟩
          rw [← hly] at G2 q2
          have HLY := Lib.hid hly
          have hly2 : ly + len ≤ 1033 := by have := HQ1.out; omega
          clear ho3 ho4 hb2 hb3 hly
          go_wp2_with fail
          refine G2.out.mono ?_
          rintro e w5 ⟨A5, c5, rfl, ho5, hb5⟩
          go_wp2
          go_roundw
          case rel =>
            have e1 : laid ((stps L).take (k + 1)) = laid ((stps L).take k) ++ Pk.lay len ++ Sc.enc x := by rw [HT.out, HLEN.out]; simp [Wq.lR]
            refine ⟨k + 1, N + ly + len, c5, A5, by go_num, rfl, by omega, by omega, by rw [e1]; exact own_less ho5 hbw3.size, below_then hbw3 (Nat.le_refl _) hb5, ?_, ?_⟩
            · rw [e1, List.length_append, List.length_append, hq.out.1, HLY.out, ← HLEN.out]
            · intro y hy
              have hkS : k < (stps L).length := by simp only [stps, List.length_map]; rw [HLN.out]; exact hlt
              rw [List.take_succ_eq_append_getElem hkS, HHH.out] at hy
              rcases List.mem_append.1 hy with hy | hy
              · exact hq.out.2 y hy
              · rw [List.mem_singleton] at hy
                subst hy; exact HF.out
          case measure => simp [intOf]; omega
        · cases hf
    · obtain rfl : k = n := by omega
      have HO := Lib.hid ho
      clear ho
      go_wp2
      go_ret2
      have e0 : (stps L).take k = stps L := List.take_of_length_le (by simp only [stps, List.length_map]; rw [HLN.out]; exact Nat.le_refl _)
      obtain ⟨q1, q2⟩ := hq.out
      have q3 := HO.out
      rw [e0] at q1 q2 q3
      exact .inl ⟨laid (stps L), _, layS_all q2, rfl, A', c', by rw [q1]; rfl, by rw [q1]; exact q3, hb⟩

set_option maxHeartbeats 4000000 in
/-- The document's Lay. -/
theorem refScLay_any (A : Option Addr) (n c : Nat) (L : List (SV × Sc.Stp)) (w : World) (h : RdSt w w.heap.size A n c L) (hs : ∀ p ∈ L, Sc.small p.2) (hn : n ≤ 2097152) :
    Calls Try.prog 19 #[.slice A n c] w (LayP w (layS (stps L))) := by
  have HLN := Lib.hid h.len
  have HSM := Lib.hid hs
  have HH := Lib.hid h
  obtain ⟨i0, hi0, hz0, hz1, hz2⟩ := info_parts u8_info
  have hmax : n ≤ 9223372036854775807 := by omega
  clear h hs
  go_enter Try.func19, Try.ntmps19
  go_wp2
  go_loopw [4, 5, 6, 7] (fun v4 v11 _ _ wr => ∃ (k N c' : Nat) (A' : Option Addr), v11 = .int .i64 k ∧ v4 = .slice A' N c' ∧ k ≤ n ∧ N ≤ 1033 * k ∧ wr.ownsRow w.heap.size 5 1 (.slice A' N c') N (bv (laid ((stps L).take k))) ∧ Below w.heap.size w wr ∧
    Hid ((laid ((stps L).take k)).length = N ∧ ∀ x ∈ (stps L).take k, Sc.fmB x = true)) (fun _ v11 _ _ _ => n - (intOf v11).toNat)
  case atStart => exact ⟨0, 0, 0, none, rfl, rfl, by omega, by omega, World.ownsRow_nil _ _ _ _, Below.refl _ _, rfl, fun x hx => by simp at hx⟩
  case round =>
    obtain ⟨k, N, c', A', rfl, rfl, hk, hN, ho, hb, hq⟩ := hrel
    have hbs := hb.size
    by_cases hlt : k < n
    · have hkL : k < L.length := by rw [HLN.out]; exact hlt
      obtain ⟨b, o, rfl, hab, g0, g1, g2, g3, g4, g5, g6⟩ := (HH.out.go hb).step hkL
      have hkS : k < (stps L).length := by simpa [stps] using hkL
      have hxe : (stps L)[k] = L[k].2 := by simp [stps]
      have HT := Lib.hid (laid_take (stps L) k hkS)
      have hsm := HSM.out _ (List.getElem_mem hkL)
      have hrd := (HH.out.go hb).each _ (List.getElem_mem hkL)
      generalize L[k] = p at g0 g1 g2 g3 g4 g5 g6 hxe hsm hrd
      obtain ⟨v, x⟩ := p
      obtain ⟨A1, n1, c1, A2, n2, c2⟩ := v
      simp only at hxe hsm hrd g0 g1 g2 g3 g4 g5 g6
      have hbA : Below wr.heap.size wr wr := Below.refl _ _
      have G := Lib.hid (refScEncode_any ⟨A1, n1, c1, A2, n2, c2⟩ x wr hrd hsm)
      obtain ⟨len, hlen⟩ : ∃ len, len = (Sc.enc x).length := ⟨_, rfl⟩
      have hBe : ∀ (W w' : World) (v : Value), BytesAre W.heap.size W (Sc.enc x) v w' → ∃ A' c', v = .slice A' len c' ∧ w'.ownsRow W.heap.size 5 1 (.slice A' len c') len (bv (Sc.enc x)) ∧ Below W.heap.size W w' := fun W w' v h => by rw [hlen]; exact h
      have HBE := Lib.hid hBe
      have HHH := Lib.hid hxe
      rcases hf : Sc.fmB x with _ | _
      · have HN := Lib.hid (layS_no (l := stps L) (x := x) (by rw [← hxe]; exact List.getElem_mem hkS) hf)
        rw [hf] at G
        have HO := Lib.hid ho
        have HBA := Lib.hid hbA
        clear hf hxe hsm hrd hkL hlen hBe ho hbA
        go_wp2_with fail
        refine G.out.mono ?_
        rintro e w2 (⟨hf, _⟩ | ⟨_, rfl, hb2⟩)
        · cases hf
        go_wp2
        go_ret2
        exact .inr ⟨HN.out, rfl, below_then hb (Nat.le_refl _) (below_then HBA.out (Nat.le_refl _) hb2)⟩
      · obtain ⟨q1, q2⟩ := lR_enc_len hf hsm
        have HF := Lib.hid hf
        rw [hf] at G
        rw [← hlen] at q2
        have HQ1 := Lib.hid (show (Pk.lay len).length + len ≤ 1033 by rw [hlen]; unfold Wq.lR at q1; rw [List.length_append] at q1; omega)
        have HLEN := Lib.hid hlen
        have hln : len ≤ 1033 := by have := HQ1.out; omega
        rw [hxe] at HT
        have HO := Lib.hid ho
        have HBA := Lib.hid hbA
        clear hf hxe hsm hrd hkL hlen hBe ho hbA q1
        go_wp2_with fail
        refine G.out.mono ?_
        rintro e w2 (⟨_, v2, rfl, hby⟩ | ⟨hf, _⟩)
        · obtain ⟨A4, c4, rfl, ho4, hb2⟩ := HBE.out _ _ _ hby
          clear hby
          have hb3 := below_then HBA.out (Nat.le_refl _) hb2
          have hbw3 := below_then hb (Nat.le_refl _) hb3
          have ho3 := own_below HO.out hb3 (Nat.le_refl _)
          have G2 := Lib.hid (refLaid_any A4 len c4 (Sc.enc x) w2 (Rd.of_own ho4) (by omega))
          obtain ⟨ly, hly⟩ : ∃ ly, ly = (Pk.lay len).length + len := ⟨_, rfl⟩
          rw [← hly] at G2
          have HLY := Lib.hid hly
          have hly2 : ly ≤ 1033 := by have := HQ1.out; omega
          have HO3 := Lib.hid ho3
          have h63 : N + ly ≤ maxLen := by unfold maxLen; omega
          clear ho3 ho4 hb2 hb3 hly
          go_wp2_with fail
          refine G2.out.mono ?_
          rintro e w5 ⟨A5, c5, rfl, ho5, hb5⟩
          have ho6 := own_below HO3.out hb5 (Nat.le_refl _)
          have hbw5 := below_then hbw3 (Nat.le_refl _) hb5
          go_wp2_with (at_builtin; go_must (refine wpList_append_rd _ rfl (.tmp 25) (.tmp 27) _ rfl w.heap.size 5 i0 _ 1 1 Try.underlying23 hi0 hz0 hz1 hz2 rfl (by decide) (.slice A' N c') N _ rfl ho6 _ A5 ly c5 (bv (Pk.lay len ++ Sc.enc x)) rfl (Rd.of_own ho5) (bv_oneCell _) h63 (by omega) hbw5.size ?_); intro A7 c7 w7 ho7 hg7 hat7)
          go_roundw
          case rel =>
            have e1 : laid ((stps L).take (k + 1)) = laid ((stps L).take k) ++ (Pk.lay len ++ Sc.enc x) := by rw [HT.out, HLEN.out]; simp [Wq.lR]
            refine ⟨k + 1, N + ly, c7, A7, by go_num, rfl, by omega, by omega, by rw [e1, bv_app]; exact ho7, hbw5.trans (grown_below hg7 hbw5.size (own_lt ho6)), ?_, ?_⟩
            · rw [e1, List.length_append, List.length_append, hq.out.1, HLY.out, ← HLEN.out]
            · intro y hy
              have hkS : k < (stps L).length := by simp only [stps, List.length_map]; rw [HLN.out]; exact hlt
              rw [List.take_succ_eq_append_getElem hkS, HHH.out] at hy
              rcases List.mem_append.1 hy with hy | hy
              · exact hq.out.2 y hy
              · rw [List.mem_singleton] at hy
                subst hy; exact HF.out
          case measure => simp [intOf]; omega
        · cases hf
    · obtain rfl : k = n := by omega
      have HO := Lib.hid ho
      clear ho
      go_wp2
      go_ret2
      have e0 : (stps L).take k = stps L := List.take_of_length_le (by simp only [stps, List.length_map]; rw [HLN.out]; exact Nat.le_refl _)
      obtain ⟨q1, q2⟩ := hq.out
      have q3 := HO.out
      rw [e0] at q1 q2 q3
      exact .inl ⟨laid (stps L), _, layS_all q2, rfl, A', c', by rw [q1]; rfl, by rw [q1]; exact q3, hb⟩
end Go.Proofs.Ytldcgmnfohhjbac
