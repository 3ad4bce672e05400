/- Walks over span.rest (and what a call that hands out a row of its own says). -/
import Derived.Test.YtepdcbhapjgijaaDoorSpE
namespace Go.Proofs.YtepdcbhapjgijaaDoor
open Go.RowKit
set_option maxRecDepth 100000

/-- What a call that hands out spans of its own says. -/
def SpOut (w w' : World) (e : Ending) (l : List Sn.Sp) : Prop :=
  ∃ A' c', e = .returned (.slice A' l.length c') ∧ w'.ownsRow w.heap.size 59 2 (.slice A' l.length c') l.length (sv l) ∧ Below w.heap.size w w'

set_option maxHeartbeats 4000000 in
theorem rest_any (A : Option Addr) (n c : Nat) (l : List Sn.Sp) (w : World) (hl : l.length = n) (hR : Rd w w.heap.size 2 A n c (sv l)) (hn : n ≤ 8796093022208) :
    Calls Tryd.prog 53 #[.slice A n c] w fun e w' => SpOut w w' e (Sn.restL l) := by
  obtain ⟨i0, hi0, hz0, hz1, hz2⟩ := info_parts spanE_info
  have h1max : 1 ≤ maxLen := by unfold maxLen; omega
  have htl := Sn.tidy_len l
  have hTF := Sn.fmS_ok (Sn.tidy_fm l)
  have HRS := Lib.hid (Sn.rst_rest l)
  have HTD := Lib.hid (tidy_any A n c l w hl hR hn)
  clear hR hl
  generalize Sn.tidy l = T at htl hTF HRS HTD
  go_enter Tryd.func53, Tryd.ntmps53
  go_wp2_with (go_at_call 51; go_must (refine HTD.out.mono ?_); rintro e w1 ⟨A1, c1, rfl, ho1, hb1⟩)
  have HR1 := Lib.hid (Rd.of_own ho1)
  have HB1 := Lib.hid hb1
  have hs1 := hb1.size
  have HTF := Lib.hid hTF
  clear ho1 hb1 hTF HTD
  generalize hm : T.length = m at htl HR1
  have HM := Lib.hid hm
  clear hm
  go_loopw [3, 4, 10] (fun v3 v4 v10 wr => ∃ (k q c' : Nat) (f : Int) (A' : Option Addr) (u : List Sn.Sp), v10 = .int .i64 k ∧ v4 = .int .i64 f ∧ v3 = .slice A' q c' ∧ k ≤ m ∧ q ≤ k ∧ 0 ≤ f ∧ f ≤ 256 ∧ Below w1.heap.size w1 wr ∧ Hid (wr.ownsRow w1.heap.size 59 2 (.slice A' q c') q (sv u)) ∧ Hid (u.length = q) ∧ Hid (Sn.rst 0 T = u ++ Sn.rst f (T.drop k))) (fun _ _ v10 _ => m - (intOf v10).toNat)
  case atStart => exact ⟨0, 0, 0, 0, none, [], rfl, rfl, rfl, by omega, by omega, by omega, by omega, Below.refl _ _, World.ownsRow_nil _ _ _ _, rfl, rfl⟩
  case round =>
    obtain ⟨k, q, c', f, A', u, rfl, rfl, rfl, hk, hq, hf0, hf1, hb, ho, hlen, hr⟩ := hrel
    have hbs := hb.size
    by_cases hlt : k < m
    · obtain ⟨bb, o, rfl, hab, g0, g1⟩ := (HR1.out.below hb).stamp HM.out hlt
      have hkl : k < T.length := by rw [HM.out]; exact hlt
      obtain ⟨a1, a2, a3⟩ := HTF.out _ (List.getElem_mem hkl)
      have hd : Sn.rst f (T.drop k) = (if f < (T[k]'hkl).1 then [(f, (T[k]'hkl).1 - 1)] else []) ++ Sn.rst ((T[k]'hkl).2 + 1) (T.drop (k + 1)) := by
        rw [List.drop_eq_getElem_cons hkl, Sn.rst]
      have HT := Lib.hid hd
      clear hd
      generalize (T[k]'hkl) = s at g0 g1 HT a1 a2 a3
      obtain ⟨lo, hi⟩ := s
      dsimp only at g0 g1 a1 a2 a3
      have h63 : q + 1 ≤ maxLen := by unfold maxLen; omega
      have hw1 : IntKind.i64.wrap (lo - 1) = lo - 1 := IntWalk.i64_in _ (by omega)
      have hw2 : IntKind.i64.wrap (hi + 1) = hi + 1 := IntWalk.i64_in _ (by omega)
      by_cases hc : f < lo
      · have HC := Lib.hid (show Sn.rst f (T.drop k) = [(f, lo - 1)] ++ Sn.rst (hi + 1) (T.drop (k + 1)) by rw [HT.out]; simp only; rw [if_pos hc])
        have hRn : Rd ((wr.alloc (.cells #[.int .i64 lo, .int .i64 hi] 59)).alloc (.cells #[.int .i64 f, .int .i64 (lo - 1)] 59)) (wr.heap.size + 1 + 1) 2 (some ⟨wr.heap.size + 1, 0, none⟩) 1 1 [.int .i64 f, .int .i64 (lo - 1)] := by
          have := Rd.new (wr.alloc (.cells #[.int .i64 lo, .int .i64 hi] 59)) 59 2 1 #[.int .i64 f, .int .i64 (lo - 1)] rfl h1max
          rwa [World.size_alloc] at this
        have HRN := Lib.hid hRn
        clear hRn hkl
        go_wp2_with (at_builtin; go_must (refine wpList_append_rd _ rfl (.tmp 18) (.tmp 24) _ rfl w1.heap.size 59 i0 _ 2 16 Tryd.underlying35 hi0 hz0 hz1 hz2 rfl (by decide) (.slice A' q c') q _ rfl ((ho.out.alloc _).alloc _) _ (some ⟨_, 0, none⟩) 1 1 [.int .i64 f, .int .i64 (lo - 1)] rfl HRN.out (by intro u hu; simp at hu; rcases hu with rfl | rfl <;> rfl) h63 (by omega) (by simp; omega) ?_); intro A3 c3 w3 ho3 hg3 hat3; have hX := ((Blk.new wr 59 #[.int .i64 lo, .int .i64 hi]).alloc _).grown hg3 (fun hE => by have := (ho.out.lt _ hE.symm).2; omega); have hX0 : w3.cell? ⟨wr.heap.size, 0, none⟩ = some (.int .i64 lo) := hX.cell 0; have hX1 : w3.cell? ⟨wr.heap.size, 1, none⟩ = some (.int .i64 hi) := hX.cell 1; clear hX)
        have hb3 := ((hb.alloc hbs _).alloc (by simp; omega) _).trans (grown_below hg3 (by simp; omega) (fun j hj => own_lt ho.out j hj))
        go_roundw
        case rel =>
          refine ⟨k + 1, q + 1, c3, hi + 1, A3, u ++ [(f, lo - 1)], by go_num, rfl, rfl, by omega, by omega, by omega, by omega, hb3, ?_, ?_, ?_⟩
          · rw [sv_app]; exact ho3
          · show _ = _
            rw [List.length_append, hlen.out]; rfl
          · show _ = _
            rw [hr.out, HC.out, List.append_assoc]
        case measure => simp [intOf]; omega
      · have HC := Lib.hid (show Sn.rst f (T.drop k) = Sn.rst (hi + 1) (T.drop (k + 1)) by rw [HT.out]; simp only; rw [if_neg hc]; rfl)
        clear hkl
        go_wp2
        go_roundw
        case rel => exact ⟨k + 1, q, c', hi + 1, A', u, by go_num, rfl, rfl, by omega, by omega, by omega, by omega, hb.alloc hbs _, ho.out.alloc _, hlen, by show _ = _; rw [hr.out, HC.out]⟩
        case measure => simp [intOf]; omega
    · obtain rfl : k = m := by omega
      have hr1 : Sn.rst 0 T = u ++ Sn.rst f [] := by
        have := hr.out
        rwa [List.drop_of_length_le (by rw [HM.out]; exact Nat.le_refl _)] at this
      rw [HRS.out] at hr1
      have HR := Lib.hid hr1
      clear hr1
      have h63 : q + 1 ≤ maxLen := by unfold maxLen; omega
      by_cases hc : f ≤ 255
      · have HC := Lib.hid (show Sn.restL l = u ++ [(f, 255)] by rw [HR.out, Sn.rst, if_pos hc])
        have HRN := Lib.hid (Rd.new wr 59 2 1 #[.int .i64 f, .int .i64 255] rfl h1max)
        go_wp2_with (at_builtin; go_must (refine wpList_append_rd _ rfl (.tmp 32) (.tmp 35) _ rfl w1.heap.size 59 i0 _ 2 16 Tryd.underlying35 hi0 hz0 hz1 hz2 rfl (by decide) (.slice A' q c') q _ rfl (ho.out.alloc _) _ (some ⟨_, 0, none⟩) 1 1 [.int .i64 f, .int .i64 255] rfl HRN.out (by intro u hu; simp at hu; rcases hu with rfl | rfl <;> rfl) h63 (by omega) (by simp; omega) ?_); intro A3 c3 w3 ho3 hg3 hat3)
        go_ret
        have hel : (Sn.restL l).length = q + 1 := by rw [HC.out, List.length_append, hlen.out]; rfl
        refine ⟨A3, c3, by rw [hel] <;> rfl, ?_, below_then HB1.out (Nat.le_refl _) ((hb.alloc hbs _).trans (grown_below hg3 (by simp; omega) (fun j hj => own_lt ho.out j hj)))⟩
        rw [hel, HC.out, sv_app]
        exact own_less ho3 hs1
      · have HC := Lib.hid (show Sn.restL l = u by rw [HR.out, Sn.rst, if_neg hc, List.append_nil])
        go_wp2
        go_ret
        refine ⟨A', c', by rw [HC.out, hlen.out] <;> rfl, ?_, below_then HB1.out (Nat.le_refl _) hb⟩
        rw [HC.out, hlen.out]
        exact own_less ho.out hs1
end Go.Proofs.YtepdcbhapjgijaaDoor
