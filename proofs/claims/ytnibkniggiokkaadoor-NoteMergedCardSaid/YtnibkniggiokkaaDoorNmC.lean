/- Walks over slices.CompactFunc at writes (the first of each run of one object), slices.Clip. -/
import Derived.Test.YtnibkniggiokkaaDoorNmB
namespace Go.Proofs.YtnibkniggiokkaaDoor
open Go.RowKit Go.Sort
set_option maxRecDepth 100000

theorem Gr.below {a b : World} (h : Gr a b) : Below a.heap.size a b := by
  obtain ⟨q, os, rfl⟩ := h
  exact ⟨rfl, rfl, rfl, by rw [size_grow]; exact Nat.le_add_right _ _, fun k hk => by
    unfold grow
    exact Array.getElem?_append_left hk⟩
theorem sameObj_any (a1 a2 a3 b1 b2 b3 : Int) (a4 b4 : Bool) (w : World) : Calls Tryd.prog 58 #[.agg #[.int .i64 a1, .int .i64 a2, .int .i64 a3, .bool a4], .agg #[.int .i64 b1, .int .i64 b2, .int .i64 b3, .bool b4]] w fun e w' => e = .returned (.bool (a3 == b3)) ∧ ∃ q os, w' = grow (w.drewN q) os := by
  go_enter Tryd.func58, Tryd.ntmps58
  go_wp2
  go_ret
  exact ⟨rfl, 0, _, by rw [alloc_eq_grow, alloc_eq_grow, grow_grow]; rfl⟩

theorem firsts_app {F : List Wr} {u : Wr} (T : List Wr) (h : firsts (F ++ [u]) = F ++ [u]) : firsts (F ++ [u] ++ T) = F ++ [u] ++ runs1 u.2.1 T := by
  have key : ∀ (F : List Wr) (o : Int) (u : Wr), runs1 o (F ++ [u]) = F ++ [u] → runs1 o (F ++ [u] ++ T) = F ++ [u] ++ runs1 u.2.1 T := by
    intro F
    induction F with
    | nil =>
      intro o u h
      simp only [List.nil_append] at h ⊢
      rw [runs1] at h
      split at h
      · exact absurd h (by simp [runs1])
      · rename_i hne
        rw [List.cons_append, List.nil_append, runs1, if_neg hne]; rfl
    | cons x F ih =>
      intro o u h
      rw [List.cons_append, runs1] at h
      split at h
      · exfalso
        have := congrArg List.length h
        have hle : ∀ (l : List Wr) (o : Int), (runs1 o l).length ≤ l.length := by
          intro l
          induction l with
          | nil => intro o; exact Nat.le_refl _
          | cons y l ih => intro o; rw [runs1]; split; exact Nat.le_succ_of_le (ih _); exact Nat.succ_le_succ (ih _)
        have h2 := hle (F ++ [u]) x.2.1
        rw [this] at h2
        simp at h2
        omega
      · rename_i hne
        have h3 := (List.cons.inj h).2
        rw [List.cons_append, List.cons_append, runs1, if_neg hne, ih _ _ h3]; rfl
  cases F with
  | nil => rfl
  | cons x F =>
    rw [List.cons_append, firsts] at h
    have h3 := (List.cons.inj h).2
    rw [List.cons_append, List.cons_append, firsts, key F _ u h3]; rfl
theorem firsts_short {l : List Wr} (h : l.length < 2) : firsts l = l := by
  match l, h with
  | [], _ => rfl
  | [x], _ => rfl

set_option maxHeartbeats 8000000 in
theorem compactW_any (base G n c : Nat) (l : List Wr) (w : World) (ho : w.ownsRow base 46 4 (.slice (some ⟨G, 0, none⟩) n c) n (wv l)) (hl : l.length = n) (hn : n ≤ 1000000000) :
    Calls Tryd.prog 57 #[.slice (some ⟨G, 0, none⟩) n c, .func (.func 58) #[] #[]] w fun e w' => ∃ i : Nat, e = .returned (.slice (some ⟨G, 0, none⟩) i c) ∧ (firsts l).length = i ∧ w'.ownsRow base 46 4 (.slice (some ⟨G, 0, none⟩) i c) i (wv (firsts l)) ∧ w.grownBy w' (some G) := by
  have mixed : Tryd.prog.follows .mixedOrders = true := by kernel_rfl
  have HO := Lib.hid ho
  have HL := Lib.hid hl
  have HNC := Lib.hid (show n ≤ c by
    obtain ⟨_, h | ⟨g, cap, cur, hv, _, _, hnc, _⟩⟩ := ho
    · exact absurd h.1 (by simp)
    · injection hv with _ _ hv3
      omega)
  clear ho hl
  by_cases h2 : n < 2
  · have HF := Lib.hid (firsts_short (l := l) (by rw [HL.out]; exact h2))
    have h2z : (n : Int) < 2 := by omega
    go_enter Tryd.func57, Tryd.ntmps57
    go_wp2
    go_ret
    exact ⟨n, rfl, by rw [HF.out]; exact HL.out, by rw [HF.out]; exact HO.out, World.grownBy.refl _ _⟩
  · have h2z : ¬ (n : Int) < 2 := by omega
    go_enter Tryd.func57, Tryd.ntmps57
    go_wp2
    go_loopw [5] (fun v5 wr => ∃ (k : Nat) (F : List Wr) (u : Wr) (T : List Wr), v5 = .int .i64 k ∧ 1 ≤ k ∧ k ≤ n ∧ Hid (k = F.length + 1 ∧ l = F ++ [u] ++ T) ∧ Hid (firsts l = F ++ [u] ++ runs1 u.2.1 T) ∧ Hid (wr.ownsRow base 46 4 (.slice (some ⟨G, 0, none⟩) n c) n (wv l)) ∧ Hid (w.grownBy wr (some G))) (fun v5 _ => n - (intOf v5).toNat)
    case atStart =>
      obtain ⟨u, T, hu⟩ : ∃ u T, l = u :: T := by
        cases l with
        | nil => have := HL.out; simp at this; omega
        | cons u T => exact ⟨u, T, rfl⟩
      exact ⟨1, [], u, T, rfl, Nat.le_refl _, by omega, ⟨rfl, hu⟩, by rw [hu]; rfl, HO.out, World.grownBy.refl _ _⟩
    case round =>
      obtain ⟨k, F, u, T, rfl, hk1, hkn, HN, HF, HW, HG⟩ := hrel
      by_cases hlt : k < n
      · obtain ⟨x, T, rfl⟩ : ∃ x T', T = x :: T' := by
          cases T with
          | nil => have h1 := HN.out; have h3 := HL.out; rw [h1.2] at h3; simp at h3; omega
          | cons x T' => exact ⟨x, T', rfl⟩
        have hlz : (k : Int) < (n : Int) := by omega
        obtain ⟨p, hp⟩ : ∃ p, k = p + 1 := ⟨k - 1, by omega⟩
        have ep : (k : Int) - 1 = (p : Int) := by omega
        have hpz : (p : Int) < (n : Int) := by omega
        have rp : IntKind.i64.wrap (p : Int) = (p : Int) := by rw [IntKind.wrap_i64]; omega
        have rk : IntKind.i64.wrap (k : Int) = (k : Int) := by rw [IntKind.wrap_i64]; omega
        have hkl : k < l.length := by rw [HL.out]; exact hlt
        have hpl : p < l.length := by omega
        have q1 : l[k] = x := by
          have h1 := HN.out
          simp only [h1.2]
          exact get_mid (F ++ [u]) T x k (by simp; omega) _
        have q2 : l[p] = u := by
          have h1 := HN.out
          have : l = F ++ u :: (x :: T) := by rw [h1.2]; simp
          simp only [this]
          exact get_mid F (x :: T) u p (by omega) _
        obtain ⟨a0, a1, a2, a3⟩ := own_cells HW.out HL.out k hkl
        obtain ⟨b0, b1, b2, b3⟩ := own_cells HW.out HL.out p hpl
        rw [q1] at a0 a1 a2 a3
        rw [q2] at b0 b1 b2 b3
        have hGl : G < wr.heap.size := (HW.out.lt G rfl).2
        have cg : ∀ {o : Nat} {v : Value}, wr.cell? ⟨G, o, none⟩ = some v → ∀ n os, (grow (wr.drewN n) os).cell? ⟨G, o, none⟩ = some v := fun h n os => cell_grown hGl h n os
        have A0 := cg a0
        have A1 := cg a1
        have A2 := cg a2
        have A3 := cg a3
        have B0 := cg b0
        have B1 := cg b1
        have B2 := cg b2
        have B3 := cg b3
        have hc := fun n os => sameObj_any x.1.1 x.1.2 x.2.1 u.1.1 u.1.2 u.2.1 x.2.2 u.2.2 (grow (wr.drewN n) os)
        have HGR := Lib.hid fun n os => (show Gr wr (grow (wr.drewN n) os) from ⟨n, os, rfl⟩)
        clear a0 a1 a2 a3 b0 b1 b2 b3 cg q1 q2 hGl
        have HP := Lib.hid hp
        by_cases hd : x.2.1 = u.2.1
        · have HRR := Lib.hid (show firsts l = F ++ [u] ++ runs1 x.2.1 T by rw [HF.out, runs1, if_pos hd])
          have hdb : (x.2.1 == u.2.1) = true := by rw [hd]; simp
          generalize (x.2.1 == u.2.1) = z at hc hdb
          subst hdb
          clear hp hd
          go_wp2_with fail
          go_quiet_grown (first | (go_at_call 58; refine Calls.grown_of (hc _ _)))
          have hgr := HGR.out nq osq
          clear A0 A1 A2 A3 B0 B1 B2 B3 hc HGR
          generalize grow (wr.drewN nq) osq = w2 at hgr ⊢
          have HW2 := Lib.hid (own_below HW.out hgr.below (Nat.le_refl _))
          have HG2 := Lib.hid (HG.out.trans (grown_of_below hgr.below (some G)))
          clear hgr
          obtain ⟨m, hm⟩ : ∃ m, m = n - k := ⟨_, rfl⟩
          have hmk : k + m = n := by omega
          have hnc := HNC.out
          have hfr := fun W => run_from (P := Tryd.prog) W 24 46 4 Tryd.underlying24 size_write (some ⟨G, 0, none⟩) n c .i64 k k rfl (by omega)
          rw [show cutAt 4 (some ⟨G, 0, none⟩) c k = some ⟨G, k * 4, none⟩ by unfold cutAt; rw [if_neg (by omega)]; simp [Addr.add]; omega, ← hm] at hfr
          have HN0 := Lib.hid HN.out
          clear hm hnc
          go_wp2
          go_loopw [5, 7] (fun v5 v7 wx => ∃ (i k2 : Nat) (F Z : List Wr) (u : Wr) (T : List Wr), v5 = .int .i64 i ∧ v7 = .int .i64 k2 ∧ 1 ≤ k2 ∧ k2 ≤ m ∧ k ≤ i ∧ i + 1 ≤ k + k2 ∧ Hid (i = F.length ∧ k + k2 = F.length + Z.length + 1 ∧ k + k2 + T.length = n) ∧ Hid (firsts l = F ++ runs1 u.2.1 T) ∧ Hid (wx.ownsRow base 46 4 (.slice (some ⟨G, 0, none⟩) n c) n (wv (F ++ (Z ++ [u]) ++ T))) ∧ Hid (w.grownBy wx (some G))) (fun _ v7 _ => m - (intOf v7).toNat)
          case atStart =>
            refine ⟨k, 1, F ++ [u], [], x, T, rfl, rfl, Nat.le_refl _, by omega, Nat.le_refl _, by omega, ⟨by have := HN0.out.1; simp; omega, by have := HN0.out.1; simp; omega, ?_⟩, HRR, ?_, HG2⟩
            · have h1 := HN0.out
              have h3 := HL.out
              rw [h1.2] at h3
              simp at h3
              omega
            · have h1 := HW2.out
              rw [HN0.out.2] at h1
              show World.ownsRow _ _ _ _ _ _ _
              have e9 : F ++ [u] ++ ([] ++ [x]) ++ T = F ++ [u] ++ x :: T := by simp
              rw [e9]; exact h1
          case round =>
            clear HW2 HG2 HRR HN0 HN HF HW HG HP
            obtain ⟨i, k2, F, Z, u, T, rfl, rfl, hk21, hk2m, hki, hik, HN, HF, HW, HG⟩ := hrel
            by_cases hlt2 : k2 < m
            · obtain ⟨x, T, rfl⟩ : ∃ x T', T = x :: T' := by
                cases T with
                | nil => have h1 := HN.out; simp at h1; omega
                | cons x T' => exact ⟨x, T', rfl⟩
              have hlz2 : (k2 : Int) < (m : Int) := by omega
              obtain ⟨p, hp⟩ : ∃ p, k2 = p + 1 := ⟨k2 - 1, by omega⟩
              have ep : (k2 : Int) - 1 = (p : Int) := by omega
              have hpz : (p : Int) < (m : Int) := by omega
              have rp : IntKind.i64.wrap (p : Int) = (p : Int) := by rw [IntKind.wrap_i64]; omega
              have rk : IntKind.i64.wrap (k2 : Int) = (k2 : Int) := by rw [IntKind.wrap_i64]; omega
              have hiz : (i : Int) < (n : Int) := by omega
              have hlen : (F ++ (Z ++ [u]) ++ x :: T).length = n := by have := HN.out; simp at this ⊢; omega
              have hkl : k + k2 < (F ++ (Z ++ [u]) ++ x :: T).length := by omega
              have hpl : k + p < (F ++ (Z ++ [u]) ++ x :: T).length := by omega
              have hil : i < (F ++ (Z ++ [u]) ++ x :: T).length := by omega
              have q1 : (F ++ (Z ++ [u]) ++ x :: T)[k + k2] = x := get_mid (F ++ (Z ++ [u])) T x (k + k2) (by have := HN.out; simp; omega) _
              have q2 : (F ++ (Z ++ [u]) ++ x :: T)[k + p] = u := by
                have e9 : F ++ (Z ++ [u]) ++ x :: T = (F ++ Z) ++ u :: (x :: T) := by simp
                simp only [e9]
                exact get_mid (F ++ Z) (x :: T) u (k + p) (by have := HN.out; simp; omega) _
              have AA := own_cells HW.out hlen (k + k2) hkl
              have BB := own_cells HW.out hlen (k + p) hpl
              rw [q1, Nat.add_mul] at AA
              rw [q2, Nat.add_mul] at BB
              obtain ⟨a0, a1, a2, a3⟩ := AA
              obtain ⟨b0, b1, b2, b3⟩ := BB
              have hGl : G < wr.heap.size := (HW.out.lt G rfl).2
              have cg : ∀ {o : Nat} {v : Value}, wr.cell? ⟨G, o, none⟩ = some v → ∀ n os, (grow (wr.drewN n) os).cell? ⟨G, o, none⟩ = some v := fun h n os => cell_grown hGl h n os
              have A0 := cg a0
              have A1 := cg a1
              have A2 := cg a2
              have A3 := cg a3
              have B0 := cg b0
              have B1 := cg b1
              have B2 := cg b2
              have B3 := cg b3
              have hc := fun n os => sameObj_any x.1.1 x.1.2 x.2.1 u.1.1 u.1.2 u.2.1 x.2.2 u.2.2 (grow (wr.drewN n) os)
              have HGR := Lib.hid fun n os => (show Gr wr (grow (wr.drewN n) os) from ⟨n, os, rfl⟩)
              clear a0 a1 a2 a3 b0 b1 b2 b3 cg q2 hGl
              have HP := Lib.hid hp
              by_cases hd : x.2.1 = u.2.1
              · have HRR := Lib.hid (show firsts l = F ++ runs1 x.2.1 T by rw [HF.out, runs1, if_pos hd])
                have hdb : (x.2.1 == u.2.1) = true := by rw [hd]; simp
                generalize (x.2.1 == u.2.1) = z at hc hdb
                subst hdb
                clear hp hd
                go_wp2_with fail
                go_quiet_grown (first | (go_at_call 58; refine Calls.grown_of (hc _ _)))
                have hgr := HGR.out nq osq
                clear A0 A1 A2 A3 B0 B1 B2 B3 hc HGR
                generalize grow (wr.drewN nq) osq = w2 at hgr ⊢
                have HW2 := Lib.hid (own_below HW.out hgr.below (Nat.le_refl _))
                have HG2 := Lib.hid (HG.out.trans (grown_of_below hgr.below (some G)))
                clear hgr
                go_wp2
                go_roundw
                case rel =>
                  refine ⟨i, k2 + 1, F, Z ++ [u], x, T, rfl, by go_num, by omega, by omega, hki, by omega, ⟨HN.out.1, by have := HN.out; simp; omega, by have := HN.out; simp at this; omega⟩, HRR, ?_, HG2⟩
                  have h1 := HW2.out
                  have e9 : F ++ ((Z ++ [u]) ++ [x]) ++ T = F ++ (Z ++ [u]) ++ x :: T := by simp
                  show World.ownsRow _ _ _ _ _ _ _
                  rw [e9]; exact h1
                case measure => simp [intOf]; omega
              · have HRR := Lib.hid (show firsts l = F ++ [x] ++ runs1 x.2.1 T by rw [HF.out, runs1, if_neg hd]; simp)
                have hdb : (x.2.1 == u.2.1) = false := beq_eq_false_iff_ne.2 hd
                generalize (x.2.1 == u.2.1) = z at hc hdb
                subst hdb
                clear hp hd
                go_wp2_with fail
                go_quiet_grown (first | (go_at_call 58; refine Calls.grown_of (hc _ _)))
                have hgr := HGR.out nq osq
                clear A0 A1 A2 A3 B0 B1 B2 B3 hc HGR
                generalize grow (wr.drewN nq) osq = w2 at hgr ⊢
                have hW2 := own_below HW.out hgr.below (Nat.le_refl _)
                have HG2 := Lib.hid (HG.out.trans (grown_of_below hgr.below (some G)))
                have AA := own_cells hW2 hlen (k + k2) hkl
                rw [q1, Nat.add_mul] at AA
                obtain ⟨a0, a1, a2, a3⟩ := AA
                obtain ⟨b0, b1, b2, b3⟩ := own_cells hW2 hlen i hil
                have f0 := hW2.frozenAt (i * 4)
                have f1 := hW2.frozenAt (i * 4 + 1)
                have f2 := hW2.frozenAt (i * 4 + 2)
                have f3 := hW2.frozenAt (i * 4 + 3)
                have HS := Lib.hid (own_put hW2 hlen i (by omega) x)
                generalize (F ++ (Z ++ [u]) ++ x :: T)[i].1.1 = o0 at b0
                generalize (F ++ (Z ++ [u]) ++ x :: T)[i].1.2 = o1 at b1
                generalize (F ++ (Z ++ [u]) ++ x :: T)[i].2.1 = o2 at b2
                generalize (F ++ (Z ++ [u]) ++ x :: T)[i].2.2 = o3 at b3
                clear hgr hW2 q1
                go_wp2
                go_roundw
                case rel =>
                  obtain ⟨y0, R, hy⟩ : ∃ y0 R, Z ++ [u] = y0 :: R := by
                    cases Z with
                    | nil => exact ⟨u, [], rfl⟩
                    | cons z Z => exact ⟨z, Z ++ [u], rfl⟩
                  have hR : R.length = Z.length := by have := congrArg List.length hy; simp at this; omega
                  refine ⟨i + 1, k2 + 1, F ++ [x], R, x, T, by go_num, by go_num, by omega, by omega, by omega, by omega, ⟨by have := HN.out.1; simp; omega, by have := HN.out; simp; omega, by have := HN.out; simp at this; omega⟩, HRR, ?_, HG2.out.trans HS.out.2⟩
                  have h1 := HS.out.1
                  rw [hy, List.append_assoc, List.cons_append, set_mid F _ _ _ i HN.out.1] at h1
                  have e9 : F ++ [x] ++ (R ++ [x]) ++ T = F ++ x :: (R ++ x :: T) := by simp
                  show World.ownsRow _ _ _ _ _ _ _
                  rw [e9]; exact h1
                case measure => simp [intOf]; omega
            · obtain rfl : k2 = m := by omega
              have hT : T = [] := List.length_eq_zero_iff.1 (by have := HN.out; omega)
              subst hT
              have HF2 := Lib.hid (show firsts l = F by rw [HF.out]; simp [runs1])
              have hW := HW.out
              rw [List.append_nil] at hW
              have hiF := HN.out.1
              have hnc := HNC.out
              have hlz2 : ¬ (k2 : Int) < (k2 : Int) := by omega
              have hin : i < n := by omega
              have hlen : (F ++ (Z ++ [u])).length = n := by have := HN.out; simp at this ⊢; omega
              obtain ⟨vs, hcl⟩ := run_clearW wr G n (c - i) i hin (fun t ht => by rw [hW.cellAt t ht, List.getElem?_eq_getElem (by rw [wv_len, hlen]; exact ht)]; rfl) (fun t => hW.frozenAt t)
              have hfr := fun W => run_from (P := Tryd.prog) W 24 46 4 Tryd.underlying24 size_write (some ⟨G, 0, none⟩) n c .i64 i i rfl (by omega)
              rw [show cutAt 4 (some ⟨G, 0, none⟩) c i = some ⟨G, i * 4, none⟩ by unfold cutAt; rw [if_neg (by omega)]; simp [Addr.add]; omega] at hfr
              have hup := fun W => run_upto (P := Tryd.prog) W 24 46 4 Tryd.underlying24 size_write (some ⟨G, 0, none⟩) n c .i64 i i rfl (by omega)
              have HE := Lib.hid (own_tail rfl vs (i * 4) wr (by omega) (own_pre hW))
              have HI2 := Lib.hid hiF
              clear hW hiF hlen hnc
              go_wp2
              go_ret
              refine ⟨i, rfl, by rw [HF2.out]; exact HI2.out.symm, ?_, HG.out.trans HE.out.2⟩
              rw [HF2.out, HI2.out]
              have h9 := HE.out.1
              rw [HI2.out] at h9
              exact h9
        · have HRR := Lib.hid (show firsts l = F ++ [u] ++ [x] ++ runs1 x.2.1 T by rw [HF.out, runs1, if_neg hd]; simp)
          have hdb : (x.2.1 == u.2.1) = false := beq_eq_false_iff_ne.2 hd
          generalize (x.2.1 == u.2.1) = z at hc hdb
          subst hdb
          clear hp hd
          go_wp2_with fail
          go_quiet_grown (first | (go_at_call 58; refine Calls.grown_of (hc _ _)))
          have hgr := HGR.out nq osq
          clear A0 A1 A2 A3 B0 B1 B2 B3 hc HGR
          generalize grow (wr.drewN nq) osq = w2 at hgr ⊢
          have HW2 := Lib.hid (own_below HW.out hgr.below (Nat.le_refl _))
          have HG2 := Lib.hid (HG.out.trans (grown_of_below hgr.below (some G)))
          clear hgr
          go_wp2
          go_roundw
          case rel => exact ⟨k + 1, F ++ [u], x, T, by go_num, by omega, by omega, ⟨by have := HN.out.1; simp; omega, by rw [HN.out.2]; simp⟩, HRR, HW2, HG2⟩
          case measure => simp [intOf]; omega
      · have hT : T = [] := List.length_eq_zero_iff.1 (by have h1 := HN.out; have h3 := HL.out; rw [h1.2] at h3; simp at h3; omega)
        subst hT
        have HE := Lib.hid (HF.out.trans (show F ++ [u] ++ runs1 u.2.1 [] = l from HN.out.2.symm))
        have hlz : ¬ (k : Int) < (n : Int) := by omega
        go_wp2
        go_ret
        exact ⟨n, rfl, by rw [HE.out]; exact HL.out, by rw [HE.out]; exact HW.out, HG.out⟩

theorem run_clip {P : Program} (W : World) (t e : TypeId) (size : Nat) (ht : P.underlying t = some (.slice e)) (hs : ∀ w, (Go.sizeOf e).run P w = .ok size w) (A : Option Addr) (n c : Nat) (h2 : n ≤ c) :
    (Instr.slice t (.slice A n c) none (some (.int .i64 n)) (some (.int .i64 n))).run P W = .ok (.slice A n n) W := by
  have b1 : ∀ y code, n ≤ y → (Instr.sliceBound (.int .i64 n) y code).run P W = .ok n W := fun y code hy => by
    rw [Go.run_sliceBound W .i64 n y code (by omega) (by omega)]; simp
  simp [Instr.slice, run_underlying ht, Instr.sliceBounds, b1, hs, h2]
  intro _; cases A <;> simp [add_zero_]
theorem clipW_any (A : Option Addr) (n c : Nat) (hnc : n ≤ c) (w : World) : Calls Tryd.prog 56 #[.slice A n c] w fun e w' => e = .returned (.slice A n n) ∧ w = w' := by
  have h := fun W => run_clip (P := Tryd.prog) W 24 46 4 Tryd.underlying24 size_write A n c hnc
  go_enter Tryd.func56, Tryd.ntmps56
  go_wp2
  go_ret
  exact ⟨rfl, rfl⟩
end Go.Proofs.YtnibkniggiokkaaDoor
