/- Walks over note.Merge's test of a write, slices.IndexFunc, DeleteFunc at writes. -/
import Derived.Test.YtnibkniggiokkaaDoorNmA
import Derived.Test.YtnibkniggiokkaaDoorNtX
namespace Go.Proofs.YtnibkniggiokkaaDoor
open Go.RowKit Go.Sort
set_option maxRecDepth 100000

theorem grown_of_below {w w' : World} (hb : Below w.heap.size w w') (row : Option Nat) : w.grownBy w' row := ⟨hb.os, hb.tape, hb.output, hb.size, fun k hk _ => hb.block k hk⟩
theorem blurTest_any (X : Nat) (sc sn ob : Int) (gn : Bool) (A : Option Addr) (n c : Nat) (bl : List Sn.Sp) (w : World) (hx : w.cell? ⟨X, 2, none⟩ = some (.slice A n c)) (hl : bl.length = n) (hR : Rd w w.heap.size 2 A n c (sv bl)) :
    Calls Tryd.prog 50 #[.agg #[.int .i64 sc, .int .i64 sn, .int .i64 ob, .bool gn], .pointer (some ⟨X, 0, none⟩)] w fun e w' => e = .returned (.bool (hasO bl ob)) ∧ Below w.heap.size w w' := by
  have hb0 : Below w.heap.size w (w.alloc (.cells #[.int .i64 sc, .int .i64 sn, .int .i64 ob, .bool gn] 46)) := (Below.refl _ _).alloc (Nat.le_refl _) _
  have h2 : (w.alloc (.cells #[.int .i64 sc, .int .i64 sn, .int .i64 ob, .bool gn] 46)).cell? ⟨X, 2, none⟩ = some (.slice A n c) := (hb0.cell (p := ⟨X, 2, none⟩) (World.block_lt_of_cell? _ _ hx)).trans hx
  have H1 := Lib.hid (hasS_any A n c bl ob _ hl (hR.go hb0))
  generalize hasO bl ob = z at H1 ⊢
  clear hl hR hx
  go_enter Tryd.func50, Tryd.ntmps50
  go_wp2_with (go_at_call 25; go_must (refine H1.out.mono ?_); rintro e w1 ⟨rfl, hb1⟩)
  go_ret
  exact ⟨rfl, below_then hb0 (Nat.le_refl _) hb1⟩

/-- What note.Merge's test answers, in every world that keeps all but one row. -/
def TestOk (w : World) (G : Nat) (pv : Value) (p : Wr → Bool) : Prop := ∀ W, w.grownBy W (some G) → ∀ (sc sn ob : Int) (gn : Bool),
  Calls Tryd.prog 50 #[.agg #[.int .i64 sc, .int .i64 sn, .int .i64 ob, .bool gn], pv] W fun e w' => e = .returned (.bool (p ((sc, sn), ob, gn))) ∧ Below W.heap.size W w'

def ixW (p : Wr → Bool) : Nat → List Wr → Int
  | _, [] => -1
  | k, s :: r => if p s = true then (k : Int) else ixW p (k + 1) r
theorem ixW_drop (p : Wr → Bool) (k : Nat) (l : List Wr) (h : k < l.length) : ixW p k (l.drop k) = if p l[k] = true then (k : Int) else ixW p (k + 1) (l.drop (k + 1)) := by
  rw [List.drop_eq_getElem_cons h, ixW]
theorem ixW_none {p : Wr → Bool} : ∀ {l : List Wr} {k : Nat}, ixW p k l = -1 → l.filter (fun x => !p x) = l
  | [], _, _ => rfl
  | s :: r, k, h => by
    rw [ixW] at h
    split at h
    · omega
    · rename_i hp
      have hp' : p s = false := by simpa using hp
      rw [List.filter_cons, hp']; simp [ixW_none h]
theorem ixW_some {p : Wr → Bool} : ∀ {l : List Wr} {k : Nat}, ixW p k l ≠ -1 → ∃ F x T, l = F ++ x :: T ∧ p x = true ∧ (∀ y ∈ F, p y = false) ∧ ixW p k l = ((k + F.length : Nat) : Int)
  | [], _, h => absurd rfl h
  | s :: r, k, h => by
    rw [ixW] at h ⊢
    split at h
    · rename_i hp
      rw [if_pos hp]
      exact ⟨[], s, r, rfl, hp, (fun y hy => by cases hy), by simp⟩
    · rename_i hp
      rw [if_neg hp]
      obtain ⟨F, x, T, e1, e2, e3, e4⟩ := ixW_some h
      refine ⟨s :: F, x, T, by rw [e1]; rfl, e2, fun y hy => ?_, by rw [e4, List.length_cons]; omega⟩
      rcases List.mem_cons.1 hy with rfl | hy
      · simpa using hp
      · exact e3 y hy

set_option maxHeartbeats 2000000 in
theorem indexW_any (base G n c : Nat) (l : List Wr) (pv : Value) (p : Wr → Bool) (w : World) (ho : w.ownsRow base 46 4 (.slice (some ⟨G, 0, none⟩) n c) n (wv l)) (hl : l.length = n) (hn : n ≤ 1000000000) (hp : TestOk w G pv p) :
    Calls Tryd.prog 77 #[.slice (some ⟨G, 0, none⟩) n c, .func (.func 50) #[] #[pv]] w fun e w' => e = .returned (.int .i64 (ixW p 0 l)) ∧ Below w.heap.size w w' := by
  have HO := Lib.hid ho
  have HP := Lib.hid hp
  have HL := Lib.hid hl
  clear ho hp hl
  go_enter Tryd.func77, Tryd.ntmps77
  go_wp2
  go_loopw [8] (fun i wr => ∃ (k : Nat), k ≤ n ∧ i = .int .i64 k ∧ Below w.heap.size w wr ∧ Hid (ixW p 0 l = ixW p k (l.drop k))) (fun i _ => n - (intOf i).toNat)
  case atStart => exact ⟨0, by omega, rfl, Below.refl _ _, rfl⟩
  case round =>
    obtain ⟨k, hk, rfl, hb, hf⟩ := hrel
    by_cases hlt : k < n
    · have hkl : k < l.length := by rw [HL.out]; omega
      obtain ⟨h0, h1, h2, h3⟩ := own_cells (own_below HO.out hb (Nat.le_refl _)) HL.out k hkl
      have HD := Lib.hid (ixW_drop p k l hkl)
      have H1 := HP.out wr (grown_of_below hb _) (l[k]'hkl).1.1 (l[k]'hkl).1.2 (l[k]'hkl).2.1 (l[k]'hkl).2.2
      have e9 : (((l[k]'hkl).1.1, (l[k]'hkl).1.2), (l[k]'hkl).2.1, (l[k]'hkl).2.2) = l[k]'hkl := rfl
      rw [e9] at H1
      generalize hz : p (l[k]'hkl) = z at H1 HD
      generalize (l[k]'hkl).1.1 = sc at h0 H1
      generalize (l[k]'hkl).1.2 = sn at h1 H1
      generalize (l[k]'hkl).2.1 = ob at h2 H1
      generalize (l[k]'hkl).2.2 = gn at h3 H1
      have HB := Lib.hid hb
      have HF := Lib.hid (hf.out.trans HD.out)
      have H1 := Lib.hid H1
      clear hz hb hf HD e9
      cases z
      · go_wp2_with (go_at_call 50; go_must (refine H1.out.mono ?_); rintro e w1 ⟨rfl, hb1⟩)
        go_roundw
        case rel => exact ⟨k + 1, by omega, by go_num, below_then HB.out (Nat.le_refl _) hb1, by show _ = _; rw [HF.out]; rfl⟩
        case measure => simp [intOf]; omega
      · go_wp2_with (go_at_call 50; go_must (refine H1.out.mono ?_); rintro e w1 ⟨rfl, hb1⟩)
        go_ret
        exact ⟨by rw [HF.out]; rfl, below_then HB.out (Nat.le_refl _) hb1⟩
    · obtain rfl : k = n := by omega
      have HN := Lib.hid (show ixW p 0 l = -1 by rw [hf.out, List.drop_of_length_le (by rw [HL.out]; exact Nat.le_refl _)]; rfl)
      have HB := Lib.hid hb
      clear hb hf
      go_wp2
      go_ret
      exact ⟨by rw [HN.out]; rfl, HB.out⟩

theorem get_mid (P Q : List Wr) (x : Wr) (j : Nat) (h : j = P.length) (hj : j < (P ++ x :: Q).length) : (P ++ x :: Q)[j] = x := by subst h; simp
theorem set_mid (P Q : List Wr) (y x : Wr) (j : Nat) (h : j = P.length) : (P ++ y :: Q).set j x = P ++ x :: Q := by
  subst h
  rw [List.set_append_right _ _ (Nat.le_refl _), Nat.sub_self]; rfl

set_option maxHeartbeats 8000000 in
theorem deleteW_any (base G n c : Nat) (l : List Wr) (pv : Value) (p : Wr → Bool) (w : World) (ho : w.ownsRow base 46 4 (.slice (some ⟨G, 0, none⟩) n c) n (wv l)) (hl : l.length = n) (hn : n ≤ 1000000000) (hp : TestOk w G pv p) :
    Calls Tryd.prog 48 #[.slice (some ⟨G, 0, none⟩) n c, .func (.func 50) #[] #[pv]] w fun e w' => ∃ i : Nat, e = .returned (.slice (some ⟨G, 0, none⟩) i c) ∧ (l.filter fun x => !p x).length = i ∧ w'.ownsRow base 46 4 (.slice (some ⟨G, 0, none⟩) i c) i (wv (l.filter fun x => !p x)) ∧ w.grownBy w' (some G) := by
  have HI := Lib.hid (indexW_any base G n c l pv p w ho hl hn hp)
  have HP := Lib.hid hp
  have HO := Lib.hid ho
  have HL := Lib.hid hl
  have HNC := Lib.hid (show n ≤ c by
    obtain ⟨_, h | ⟨g, cap, cur, hv, _, _, hnc, _⟩⟩ := ho
    · exact absurd h.1 (by simp)
    · injection hv with _ _ hv3
      omega)
  clear hp ho hl
  by_cases hx : ixW p 0 l = -1
  · have HF := Lib.hid (ixW_none hx)
    rw [hx] at HI
    clear hx
    go_enter Tryd.func48, Tryd.ntmps48
    go_wp2_with (go_at_call 77; go_must (refine HI.out.mono ?_); rintro e w1 ⟨rfl, hb1⟩)
    go_ret
    exact ⟨n, rfl, by rw [HF.out]; exact HL.out, by rw [HF.out]; exact own_below HO.out hb1 (Nat.le_refl _), grown_of_below hb1 _⟩
  · obtain ⟨F, x, T, e1, e2, e3, e4⟩ := ixW_some hx
    rw [Nat.zero_add] at e4
    rw [e4] at HI
    have HFL := Lib.hid (show (l.filter fun x => !p x) = F ++ T.filter fun x => !p x by
      rw [e1, List.filter_append, List.filter_cons, e2, if_neg (by simp), List.filter_eq_self.2 (fun y hy => by rw [e3 y hy]; rfl)])
    have HLL := Lib.hid (show F.length + 1 + T.length = n by rw [← HL.out, e1]; simp; omega)
    have HD := Lib.hid e1
    clear hx e1 e2 e3 e4
    obtain ⟨i, hi⟩ : ∃ i, i = F.length := ⟨_, rfl⟩
    rw [← hi] at HI
    have hin : i < n := by have := HLL.out; omega
    have him : ((i : Int) == -1) = false := beq_eq_false_iff_ne.2 (by omega)
    have him2 : ¬ (i : Int) = -1 := by omega
    have HIF := Lib.hid hi
    clear hi
    go_enter Tryd.func48, Tryd.ntmps48
    go_wp2_with (go_at_call 77; go_must (refine HI.out.mono ?_); rintro e w1 ⟨rfl, hb1⟩)
    have ho1 := own_below HO.out hb1 (Nat.le_refl _)
    have hg1 := grown_of_below hb1 (some G)
    go_loopw [5, 6] (fun v5 v6 wr => ∃ (i j : Nat) (F Y T : List Wr), v5 = .int .i64 i ∧ v6 = .int .i64 j ∧ i < j ∧ j ≤ n ∧ Hid (i = F.length ∧ j = F.length + Y.length ∧ j + T.length = n) ∧ Hid ((l.filter fun x => !p x) = F ++ T.filter fun x => !p x) ∧ Hid (wr.ownsRow base 46 4 (.slice (some ⟨G, 0, none⟩) n c) n (wv (F ++ Y ++ T))) ∧ Hid (w.grownBy wr (some G))) (fun _ v6 _ => n - (intOf v6).toNat)
    case atStart => exact ⟨i, i + 1, F, [x], T, rfl, by go_num, by omega, by omega, ⟨HIF.out, by simp [HIF.out], by have := HLL.out; have := HIF.out; omega⟩, HFL, by show World.ownsRow _ _ _ _ _ _ _; rw [List.append_assoc]; rw [HD.out] at ho1; exact ho1, hg1⟩
    case round =>
      clear ho1 hg1 hb1
      obtain ⟨i, j, F, Y, T, rfl, rfl, hij, hjn, HN, HF, HW, HG⟩ := hrel
      by_cases hlt : j < n
      · obtain ⟨x, T, rfl⟩ : ∃ x T', T = x :: T' := by
          cases T with
          | nil => have := HN.out; simp at this; omega
          | cons x T' => exact ⟨x, T', rfl⟩
        obtain ⟨y, Y, rfl⟩ : ∃ y Y', Y = y :: Y' := by
          cases Y with
          | nil => have := HN.out; simp at this; omega
          | cons x T' => exact ⟨x, T', rfl⟩
        have hlen : (F ++ (y :: Y) ++ x :: T).length = n := by have := HN.out; simp at this ⊢; omega
        have hjl : j < (F ++ (y :: Y) ++ x :: T).length := by omega
        have hil : i < (F ++ (y :: Y) ++ x :: T).length := by omega
        obtain ⟨h0, h1, h2, h3⟩ := own_cells HW.out hlen j hjl
        rw [get_mid (F ++ (y :: Y)) T x j (by have := HN.out; simp at this ⊢; omega) hjl] at h0 h1 h2 h3
        obtain ⟨⟨sc, sn⟩, ob, gn⟩ := x
        dsimp only at h0 h1 h2 h3
        obtain ⟨W1, hW1⟩ : ∃ W1, W1 = wr.alloc (.cells #[.int .i64 sc, .int .i64 sn, .int .i64 ob, .bool gn] 46) := ⟨_, rfl⟩
        have H1 := HP.out W1 (by rw [hW1]; exact HG.out.trans (World.grownBy_alloc _ _ _)) sc sn ob gn
        rw [hW1] at H1
        have HBN := Lib.hid (Blk.new wr 46 #[.int .i64 sc, .int .i64 sn, .int .i64 ob, .bool gn])
        have HOW := Lib.hid (show (wr.alloc (.cells #[.int .i64 sc, .int .i64 sn, .int .i64 ob, .bool gn] 46)).ownsRow base 46 4 (.slice (some ⟨G, 0, none⟩) n c) n (wv (F ++ (y :: Y) ++ ((sc, sn), ob, gn) :: T)) from HW.out.alloc _)
        have HGW := Lib.hid (HG.out.trans (World.grownBy_alloc wr (.cells #[.int .i64 sc, .int .i64 sn, .int .i64 ob, .bool gn] 46) _))
        have HF1 := HF.out
        rw [List.filter_cons] at HF1
        generalize p ((sc, sn), ob, gn) = z at H1 HF1
        have H1 := Lib.hid H1
        have HF1 := Lib.hid HF1
        have hjz : (j : Int) < (n : Int) := by omega
        clear hW1
        cases z
        · go_wp2_with (go_at_call 50; go_must (refine H1.out.mono ?_); rintro e w2 ⟨rfl, hb2⟩; obtain ⟨b0, b1, b2, b3⟩ := (HBN.out.go hb2).four4; obtain ⟨a0, a1, a2, a3⟩ := own_cells (own_below HOW.out hb2 (Nat.le_refl _)) hlen i hil; have f0 := (own_below HOW.out hb2 (Nat.le_refl _)).frozenAt (i * 4); have f1 := (own_below HOW.out hb2 (Nat.le_refl _)).frozenAt (i * 4 + 1); have f2 := (own_below HOW.out hb2 (Nat.le_refl _)).frozenAt (i * 4 + 2); have f3 := (own_below HOW.out hb2 (Nat.le_refl _)).frozenAt (i * 4 + 3); have HS := Lib.hid (own_put (own_below HOW.out hb2 (Nat.le_refl _)) hlen i (by omega) ((sc, sn), ob, gn)); have HK := Lib.hid (HGW.out.trans (grown_of_below hb2 (some G))); clear hb2; generalize (F ++ (y :: Y) ++ ((sc, sn), ob, gn) :: T)[i].1.1 = o0 at a0; generalize (F ++ (y :: Y) ++ ((sc, sn), ob, gn) :: T)[i].1.2 = o1 at a1; generalize (F ++ (y :: Y) ++ ((sc, sn), ob, gn) :: T)[i].2.1 = o2 at a2; generalize (F ++ (y :: Y) ++ ((sc, sn), ob, gn) :: T)[i].2.2 = o3 at a3)
          go_roundw
          case rel =>
            refine ⟨i + 1, j + 1, F ++ [((sc, sn), ob, gn)], Y ++ [((sc, sn), ob, gn)], T, by go_num, by go_num, by omega, by omega, by have := HN.out; exact Lib.hid (by simp at this ⊢; omega), by show _ = _; rw [HF1.out]; simp, ?_, HK.out.trans HS.out.2⟩
            have h9 := HS.out.1
            rw [List.append_assoc, List.cons_append, set_mid F _ _ _ i HN.out.1] at h9
            show World.ownsRow _ _ _ _ _ _ _
            have e9 : F ++ [((sc, sn), ob, gn)] ++ (Y ++ [((sc, sn), ob, gn)]) ++ T = F ++ ((sc, sn), ob, gn) :: (Y ++ ((sc, sn), ob, gn) :: T) := by simp
            rw [e9]; exact h9
          case measure => simp [intOf]; omega
        · go_wp2_with (go_at_call 50; go_must (refine H1.out.mono ?_); rintro e w2 ⟨rfl, hb2⟩)
          go_roundw
          case rel =>
            refine ⟨i, j + 1, F, (y :: Y) ++ [((sc, sn), ob, gn)], T, rfl, by go_num, by omega, by omega, by have := HN.out; exact Lib.hid (by simp at this ⊢; omega), by show _ = _; rw [HF1.out]; simp, ?_, HGW.out.trans (grown_of_below hb2 _)⟩
            show World.ownsRow _ _ _ _ _ _ _
            have e9 : F ++ ((y :: Y) ++ [((sc, sn), ob, gn)]) ++ T = F ++ (y :: Y) ++ ((sc, sn), ob, gn) :: T := by simp
            rw [e9]; exact own_below HOW.out hb2 (Nat.le_refl _)
          case measure => simp [intOf]; omega
      · obtain rfl : j = n := by omega
        have hT : T = [] := List.length_eq_zero_iff.1 (by have := HN.out; omega)
        subst hT
        have HF2 := Lib.hid (show (l.filter fun x => !p x) = F by rw [HF.out]; simp)
        have hW := HW.out
        rw [List.append_nil] at hW
        have hiF := HN.out.1
        have hnc := HNC.out
        have hlen : (F ++ Y).length = j := by have := HN.out; simp at this ⊢; omega
        obtain ⟨vs, hcl⟩ := run_clearW wr G j (c - i) i hij (fun t ht => by rw [hW.cellAt t ht, List.getElem?_eq_getElem (by rw [wv_len, hlen]; exact ht)]; rfl) (fun t => hW.frozenAt t)
        have hfr := fun W => run_from (P := Tryd.prog) W 24 46 4 Tryd.underlying24 size_write (some ⟨G, 0, none⟩) j c .i64 i i rfl (by omega)
        rw [show cutAt 4 (some ⟨G, 0, none⟩) c i = some ⟨G, i * 4, none⟩ by unfold cutAt; rw [if_neg (by omega)]; simp [Addr.add]; omega] at hfr
        have hup := fun W => run_upto (P := Tryd.prog) W 24 46 4 Tryd.underlying24 size_write (some ⟨G, 0, none⟩) j c .i64 i i rfl (by omega)
        have HE := Lib.hid (own_tail rfl vs (i * 4) wr (by omega) (own_pre hW))
        have HI2 := Lib.hid hiF
        clear hW hiF hlen hnc
        go_wp2
        go_ret
        refine ⟨i, rfl, by rw [HF2.out]; exact HI2.out.symm, ?_, HG.out.trans HE.out.2⟩
        rw [HF2.out, HI2.out]
        have h9 := HE.out.1
        rw [HI2.out] at h9
        exact h9
end Go.Proofs.YtnibkniggiokkaaDoor
