/- Walk over the law VectorLattice. -/
import Derived.Test.YtppghbmggpbopaaDoorVecT
namespace Go.Proofs.YtppghbmggpbopaaDoor
open Go.RowKit
set_option maxRecDepth 100000

theorem vecTo_congr {f g : Nat → Int} (h : ∀ n, n < 64 → f n = g n) : ∀ k, k ≤ 64 → vecTo f (pos f) k = vecTo g (pos g) k := by
  intro k
  induction k with
  | zero => intro _; rfl
  | succ k ih =>
    intro hk
    have e := h k (by omega)
    have ep : pos f k = pos g k := by unfold pos; rw [e]
    by_cases hp : pos f k = true
    · rw [vecTo_hit f _ k hp, vecTo_hit g _ k (ep ▸ hp), ih (by omega), e]
    · have hp' : pos f k = false := by simpa using hp
      rw [vecTo_miss f _ k hp', vecTo_miss g _ k (ep ▸ hp'), ih (by omega)]
theorem vec_congr {f g : Nat → Int} (h : ∀ n, n < 64 → f n = g n) : vec f = vec g := vecTo_congr h 64 (Nat.le_refl _)
theorem cnt_vecTo {f : Nat → Int} (h0 : ∀ n, 0 ≤ f n) (n : Nat) : ∀ k, k ≤ 64 → Vc.cnt (vecTo f (pos f) k) n = if n < k then f n else 0 := by
  intro k
  induction k with
  | zero => intro _; rfl
  | succ k ih =>
    intro hk
    have h1 := h0 k
    by_cases hp : pos f k = true
    · have h2 : 0 < f k := by simpa [pos] using hp
      have hr : Vc.right (f k, (k : Int)) = true := (Vc.right_iff _).2 ⟨h2, by simp, by simp; omega⟩
      rw [vecTo_hit f _ k hp, Vc.cnt_snoc, ih (by omega), hr]
      by_cases hn : n < k
      · rw [if_pos hn, if_pos (show n < k + 1 by omega), if_neg]
        rintro ⟨_, _, h⟩
        simp only at h; omega
      · rw [if_neg hn]
        by_cases he : n = k
        · subst he; rw [if_pos ⟨rfl, rfl, rfl⟩, if_pos (by omega)]
        · rw [if_neg (by rintro ⟨_, _, h⟩; simp only at h; omega), if_neg (by omega)]
    · have hp' : pos f k = false := by simpa using hp
      have h2 : f k = 0 := by
        have : ¬ 0 < f k := by simpa [pos] using hp'
        omega
      rw [vecTo_miss f _ k hp', ih (by omega)]
      by_cases hn : n < k
      · rw [if_pos hn, if_pos (by omega)]
      · rw [if_neg hn]
        by_cases he : n = k
        · subst he; rw [if_pos (by omega), h2]
        · rw [if_neg (by omega)]
theorem cnt_vec {f : Nat → Int} (h0 : ∀ n, 0 ≤ f n) {n : Nat} (hn : n < 64) : Vc.cnt (vec f) n = f n := by
  rw [vec, cnt_vecTo h0 n 64 (Nat.le_refl _), if_pos hn]

theorem jn_two (u v : List Vc.St) (n : Nat) : jn [u, v] n = max (Vc.cnt u n) (Vc.cnt v n) := by
  have h := Vc.cnt_nonneg u n
  show max (max 0 (Vc.cnt u n)) (Vc.cnt v n) = _
  rw [Int.max_eq_right h]
theorem mt_two (u v : List Vc.St) (n : Nat) : mt [u, v] n = min (Vc.cnt u n) (Vc.cnt v n) := rfl
theorem mt_two_nonneg (u v : List Vc.St) (n : Nat) : 0 ≤ mt [u, v] n := by
  have h1 := Vc.cnt_nonneg u n
  have h2 := Vc.cnt_nonneg v n
  rw [mt_two]; omega
theorem cnt_join (u v : List Vc.St) {n : Nat} (hn : n < 64) : Vc.cnt (vec (jn [u, v])) n = max (Vc.cnt u n) (Vc.cnt v n) := by
  rw [cnt_vec (jn_nonneg _) hn, jn_two]
theorem cnt_meet (u v : List Vc.St) {n : Nat} (hn : n < 64) : Vc.cnt (vec (mt [u, v])) n = min (Vc.cnt u n) (Vc.cnt v n) := by
  rw [cnt_vec (mt_two_nonneg u v) hn, mt_two]

/-- Covers, of lists. -/
def cov (u v : List Vc.St) : Bool := covB (Vc.cnt u) (Vc.cnt v)
theorem cov_iff (u v : List Vc.St) : cov u v = true ↔ ∀ n, n < 64 → Vc.cnt v n ≤ Vc.cnt u n := covB_iff _ _
theorem cov_refl (u : List Vc.St) : cov u u = true := (cov_iff u u).2 fun _ _ => Int.le_refl _
theorem cov_join_l (u v : List Vc.St) : cov (vec (jn [u, v])) u = true := (cov_iff _ _).2 fun n hn => by rw [cnt_join u v hn]; omega
theorem cov_join_r (u v : List Vc.St) : cov (vec (jn [u, v])) v = true := (cov_iff _ _).2 fun n hn => by rw [cnt_join u v hn]; omega
theorem cov_meet_l (u v : List Vc.St) : cov u (vec (mt [u, v])) = true := (cov_iff _ _).2 fun n hn => by rw [cnt_meet u v hn]; omega
theorem cov_meet_r (u v : List Vc.St) : cov v (vec (mt [u, v])) = true := (cov_iff _ _).2 fun n hn => by rw [cnt_meet u v hn]; omega
theorem cov_of_join (u v t : List Vc.St) : cov t (vec (jn [u, v])) = (cov t u && cov t v) := by
  rw [Bool.eq_iff_iff, Bool.and_eq_true, cov_iff, cov_iff, cov_iff]
  refine ⟨fun h => ⟨fun n hn => ?_, fun n hn => ?_⟩, fun ⟨h1, h2⟩ n hn => ?_⟩
  · have := h n hn; rw [cnt_join u v hn] at this; omega
  · have := h n hn; rw [cnt_join u v hn] at this; omega
  · have a := h1 n hn
    have b := h2 n hn
    rw [cnt_join u v hn]; omega
theorem cov_of_meet (u v t : List Vc.St) : cov (vec (mt [u, v])) t = (cov u t && cov v t) := by
  rw [Bool.eq_iff_iff, Bool.and_eq_true, cov_iff, cov_iff, cov_iff]
  refine ⟨fun h => ⟨fun n hn => ?_, fun n hn => ?_⟩, fun ⟨h1, h2⟩ n hn => ?_⟩
  · have := h n hn; rw [cnt_meet u v hn] at this; omega
  · have := h n hn; rw [cnt_meet u v hn] at this; omega
  · have a := h1 n hn
    have b := h2 n hn
    rw [cnt_meet u v hn]; omega
theorem join_comm (u v : List Vc.St) : vec (jn [v, u]) = vec (jn [u, v]) := vec_congr fun n _ => by rw [jn_two, jn_two]; omega
theorem meet_comm (u v : List Vc.St) : vec (mt [v, u]) = vec (mt [u, v]) := vec_congr fun n _ => by rw [mt_two, mt_two]; omega
theorem join_assoc (u v t : List Vc.St) : vec (jn [u, vec (jn [v, t])]) = vec (jn [vec (jn [u, v]), t]) := vec_congr fun n hn => by
  rw [jn_two, jn_two, cnt_join v t hn, cnt_join u v hn]; omega
theorem formed_vec (f : Nat → Int) : fm (-1) (vec f) = true := (vec_formed f 64 (Nat.le_refl _)).1

/-- Join and Meet of two, laid into a row for the call. -/
theorem join_two (A D : Option Addr) (n c m d : Nat) (u v : List Vc.St) (W : World) (hT : Tab W) (hl : u.length = n) (hl2 : v.length = m) (hR : Rd W W.heap.size 2 A n c (sv u)) (hR2 : Rd W W.heap.size 2 D m d (sv v)) (r : List Vc.St) (hr : vec (jn [u, v]) = r) (k : Nat) (hk : r.length = k) :
    Calls Tryd.prog 17 #[.slice (some ⟨W.heap.size, 0, none⟩) 2 2] (W.alloc (.cells #[.slice A n c, .slice D m d] 22)) fun e w' => ∃ A' c', e = .returned (.slice A' k c') ∧ Rd w' w'.heap.size 2 A' k c' (sv r) ∧ Below W.heap.size W w' := by
  have hb : Below W.heap.size W (W.alloc (.cells #[.slice A n c, .slice D m d] 22)) := (Below.refl _ _).alloc (Nat.le_refl _) _
  refine (join_any _ 2 2 [u, v] _ (hT.below hb) (RdL.two hl hl2 hR hR2 22)).mono ?_
  rw [hr, hk]
  rintro e w1 ⟨A', c', rfl, ho, hb1⟩
  exact ⟨A', c', rfl, Rd.of_own ho, below_then hb (Nat.le_refl _) hb1⟩
theorem meet_two (A D : Option Addr) (n c m d : Nat) (u v : List Vc.St) (W : World) (hT : Tab W) (hl : u.length = n) (hl2 : v.length = m) (hR : Rd W W.heap.size 2 A n c (sv u)) (hR2 : Rd W W.heap.size 2 D m d (sv v)) (r : List Vc.St) (hr : vec (mt [u, v]) = r) (k : Nat) (hk : r.length = k) :
    Calls Tryd.prog 18 #[.slice (some ⟨W.heap.size, 0, none⟩) 2 2] (W.alloc (.cells #[.slice A n c, .slice D m d] 22)) fun e w' => ∃ A' c', e = .returned (.slice A' k c') ∧ Rd w' w'.heap.size 2 A' k c' (sv r) ∧ Below W.heap.size W w' := by
  have hb : Below W.heap.size W (W.alloc (.cells #[.slice A n c, .slice D m d] 22)) := (Below.refl _ _).alloc (Nat.le_refl _) _
  refine (meet_ne _ 2 2 [u, v] _ (hT.below hb) (RdL.two hl hl2 hR hR2 22) (by decide)).mono ?_
  rw [hr, hk]
  rintro e w1 ⟨A', c', rfl, ho, hb1⟩
  exact ⟨A', c', rfl, Rd.of_own ho, below_then hb (Nat.le_refl _) hb1⟩

/-- What a slice reads in every later world. -/
def Stays (w0 : World) (A : Option Addr) (n c : Nat) (u : List Vc.St) : Prop := u.length = n ∧ Rd w0 w0.heap.size 2 A n c (sv u)
theorem Stays.go {w0 W : World} {A : Option Addr} {n c : Nat} {u : List Vc.St} (h : Stays w0 A n c u) (hb : Below w0.heap.size w0 W) : Stays W A n c u := ⟨h.1, h.2.go hb⟩

set_option maxHeartbeats 8000000 in
theorem vectorLattice_walk (A B C : Option Addr) (na ca nb cb nc cc' : Nat) (a b t : List Vc.St) (w : World) (hT : Tab w) (ha : Stays w A na ca a) (hb : Stays w B nb cb b) (ht : Stays w C nc cc' t) :
    Calls Tryd.prog 8 #[.slice A na ca, .slice B nb cb, .slice C nc cc'] w fun e w' => e = .returned (.bool true) ∧ Below w.heap.size w w' := by
  have HA := Lib.hid ha
  have HB := Lib.hid hb
  have HC := Lib.hid ht
  have HT := Lib.hid hT
  obtain ⟨j, hj⟩ : ∃ j, vec (jn [a, b]) = j := ⟨_, rfl⟩
  obtain ⟨m, hm⟩ : ∃ m, vec (mt [a, b]) = m := ⟨_, rfl⟩
  obtain ⟨nj, hnj⟩ : ∃ k, j.length = k := ⟨_, rfl⟩
  obtain ⟨nm, hnm⟩ : ∃ k, m.length = k := ⟨_, rfl⟩
  have HJ := Lib.hid hj
  have HM := Lib.hid hm
  have HNJ := Lib.hid hnj
  have HNM := Lib.hid hnm
  clear ha hb ht hT hj hm hnj hnm
  go_enter Tryd.func8, Tryd.ntmps8
  go_wp2_with fail
  refine (alive_any w HT.out).mono ?_
  rintro e w1 ⟨rfl, k⟩
  go_wp2_with fail
  refine (join_two A B na ca nb cb a b w1 (HT.out.below k) (HA.out.go k).1 (HB.out.go k).1 (HA.out.go k).2 (HB.out.go k).2 j HJ.out nj HNJ.out).mono ?_
  rintro e w2 ⟨Aj, cj, rfl, hRj, hb2⟩
  have k := below_then k (Nat.le_refl _) hb2
  have hj2 : Stays w2 Aj nj cj j := ⟨HNJ.out, hRj⟩
  go_wp2_with fail
  refine (meet_two A B na ca nb cb a b w2 (HT.out.below k) (HA.out.go k).1 (HB.out.go k).1 (HA.out.go k).2 (HB.out.go k).2 m HM.out nm HNM.out).mono ?_
  rintro e w3 ⟨Am, cm, rfl, hRm, hb3⟩
  have k3 := below_then k (Nat.le_refl _) hb3
  have hm3 : Stays w3 Am nm cm m := ⟨HNM.out, hRm⟩
  have hj3 := hj2.go hb3
  have ha3 := HA.out.go k3
  have hb3' := HB.out.go k3
  have hc3 := HC.out.go k3
  have hT3 := HT.out.below k3
  have cover : ∀ {X Y : Option Addr} {x cx y cy : Nat} {u v : List Vc.St}, Stays w3 X x cx u → Stays w3 Y y cy v → ∀ W, Below w3.heap.size w3 W → Calls Tryd.prog 28 #[.slice X x cx, .slice Y y cy] W fun e w' => e = .returned (.bool (cov u v)) ∧ Below W.heap.size W w' :=
    fun hx hy W hk => covers_any _ _ _ _ _ _ _ _ W (hT3.below hk) hx.1 hy.1 (hx.2.go hk) (hy.2.go hk)
  have form : ∀ {X : Option Addr} {x cx : Nat} {u : List Vc.St}, Stays w3 X x cx u → fm (-1) u = true → ∀ W, Below w3.heap.size w3 W → Calls Tryd.prog 15 #[.slice X x cx] W fun e w' => e = .returned (.bool true) ∧ Below W.heap.size W w' :=
    fun hx hu W hk => by have := formed_any _ _ _ _ W hx.1 (hx.2.go hk); rw [hu] at this; exact this
  have alike : ∀ {X : Option Addr} {x cx : Nat} {u : List Vc.St}, Stays w3 X x cx u → ∀ W Y cy, Below w3.heap.size w3 W → Rd W W.heap.size 2 Y x cy (sv u) → Calls Tryd.prog 13 #[.slice X x cx, .slice Y x cy] W fun e w' => e = .returned (.bool true) ∧ Below W.heap.size W w' :=
    fun hx W Y cy hk hY => by have := same_any _ Y _ _ _ cy _ _ W hx.1 hx.1 (hx.2.go hk) hY; rw [decide_eq_true rfl] at this; exact this
  have H1 := cover hj3 ha3
  have H2 := cover hj3 hb3'
  have H3 := cover ha3 hm3
  have H4 := cover hb3' hm3
  have H5 := form hj3 (by rw [← HJ.out]; exact formed_vec _)
  have H6 := form hm3 (by rw [← HM.out]; exact formed_vec _)
  have H7 := cover hc3 ha3
  have H8 := cover hc3 hb3'
  have H9 := cover hc3 hj3
  have H10 := cover ha3 hc3
  have H11 := cover hb3' hc3
  have H12 := cover hm3 hc3
  have H13 := alike hj3
  have H14 := alike hm3
  rw [show cov j a = true by rw [← HJ.out]; exact cov_join_l a b] at H1
  rw [show cov j b = true by rw [← HJ.out]; exact cov_join_r a b] at H2
  rw [show cov a m = true by rw [← HM.out]; exact cov_meet_l a b] at H3
  rw [show cov b m = true by rw [← HM.out]; exact cov_meet_r a b] at H4
  rw [show cov t j = (cov t a && cov t b) by rw [← HJ.out]; exact cov_of_join a b t] at H9
  rw [show cov m t = (cov a t && cov b t) by rw [← HM.out]; exact cov_of_meet a b t] at H12
  generalize cov t a = p1 at H7 H9
  generalize cov t b = p2 at H8 H9
  generalize cov a t = q1 at H10 H12
  generalize cov b t = q2 at H11 H12
  have G1 := Lib.hid H1
  have G2 := Lib.hid H2
  have G3 := Lib.hid H3
  have G4 := Lib.hid H4
  have G5 := Lib.hid H5
  have G6 := Lib.hid H6
  have G7 := Lib.hid H7
  have G8 := Lib.hid H8
  have G9 := Lib.hid H9
  have G10 := Lib.hid H10
  have G11 := Lib.hid H11
  have G12 := Lib.hid H12
  have G13 := Lib.hid H13
  have G14 := Lib.hid H14
  have HT := Lib.hid hT3
  have HJ3 := Lib.hid hj3
  have HA3 := Lib.hid ha3
  have HB3 := Lib.hid hb3'
  have HC3 := Lib.hid hc3
  have k : Below w3.heap.size w3 w3 := Below.refl _ _
  obtain ⟨r, hr⟩ : ∃ r, vec (jn [b, t]) = r := ⟨_, rfl⟩
  obtain ⟨s, hs⟩ : ∃ s, vec (jn [j, t]) = s := ⟨_, rfl⟩
  have hs2 : vec (jn [a, r]) = s := by rw [← hs, ← hr, ← HJ.out]; exact join_assoc a b t
  obtain ⟨nr, hnr⟩ : ∃ k, r.length = k := ⟨_, rfl⟩
  obtain ⟨ns, hns⟩ : ∃ k, s.length = k := ⟨_, rfl⟩
  have J1 := Lib.hid fun (W : World) (k : Below w3.heap.size w3 W) => join_two B A nb cb na ca b a W (HT.out.below k) (HB3.out.go k).1 (HA3.out.go k).1 (HB3.out.go k).2 (HA3.out.go k).2 j ((join_comm a b).trans HJ.out) nj HNJ.out
  have J2 := Lib.hid fun (W : World) (k : Below w3.heap.size w3 W) => meet_two B A nb cb na ca b a W (HT.out.below k) (HB3.out.go k).1 (HA3.out.go k).1 (HB3.out.go k).2 (HA3.out.go k).2 m ((meet_comm a b).trans HM.out) nm HNM.out
  have J3 := Lib.hid fun (W : World) (k : Below w3.heap.size w3 W) => join_two Aj C nj cj nc cc' j t W (HT.out.below k) (HJ3.out.go k).1 (HC3.out.go k).1 (HJ3.out.go k).2 (HC3.out.go k).2 s hs ns hns
  have J4 := Lib.hid fun (W : World) (k : Below w3.heap.size w3 W) => join_two B C nb cb nc cc' b t W (HT.out.below k) (HB3.out.go k).1 (HC3.out.go k).1 (HB3.out.go k).2 (HC3.out.go k).2 r hr nr hnr
  have J5 := Lib.hid fun (W : World) (k : Below w3.heap.size w3 W) D d hD => join_two A D na ca nr d a r W (HT.out.below k) (HA3.out.go k).1 hnr (HA3.out.go k).2 hD s hs2 ns hns
  have J60 := fun (W : World) (k : Below w3.heap.size w3 W) X x Y y hX hY => compare_any X Y ns x ns y s s W (HT.out.below k) hns hns hX hY
  rw [show covB (Vc.cnt s) (Vc.cnt s) = true from cov_refl s, show standB true true = 0 from rfl] at J60
  have J6 := Lib.hid J60
  clear J60
  clear H1 H2 H3 H4 H5 H6 H7 H8 H9 H10 H11 H12 H13 H14 hs hr hs2 hnr hns hj3 ha3 hb3' hc3 hm3 hj2 hT3 cover form alike hb2 hb3 hRj hRm
  cases p1 <;> cases p2 <;> cases q1 <;> cases q2
  all_goals
    go_wp2_with (first
      | (go_at_call 28; go_must (first
        | with_reducible refine (G1.out _ k).mono ?_
        | with_reducible refine (G2.out _ k).mono ?_
        | with_reducible refine (G3.out _ k).mono ?_
        | with_reducible refine (G4.out _ k).mono ?_
        | with_reducible refine (G7.out _ k).mono ?_
        | with_reducible refine (G8.out _ k).mono ?_
        | with_reducible refine (G9.out _ k).mono ?_
        | with_reducible refine (G10.out _ k).mono ?_
        | with_reducible refine (G11.out _ k).mono ?_
        | with_reducible refine (G12.out _ k).mono ?_); rintro e w' ⟨rfl, hb'⟩; have k := below_then k (Nat.le_refl _) hb'; clear hb')
      | (go_at_call 15; go_must (first
        | with_reducible refine (G5.out _ k).mono ?_
        | with_reducible refine (G6.out _ k).mono ?_); rintro e w' ⟨rfl, hb'⟩; have k := below_then k (Nat.le_refl _) hb'; clear hb')
      | (go_at_call 17; (first
        | ((with_reducible refine (J1.out _ k).mono ?_); rintro e w' ⟨X, x, rfl, hX, hb'⟩; have k := below_then k (Nat.le_refl _) hb')
        | ((with_reducible refine (J3.out _ k).mono ?_); rintro e w4 ⟨X3, x3, rfl, h3, hb'⟩; have k := below_then k (Nat.le_refl _) hb'; have kk := Below.refl w4.heap.size w4)
        | ((with_reducible refine (J4.out _ k).mono ?_); rintro e w' ⟨X4, x4, rfl, h4, hb'⟩; have k := below_then k (Nat.le_refl _) hb'; have kk := below_then kk (Nat.le_refl _) hb')
        | ((with_reducible refine (J5.out _ k _ _ h4).mono ?_); rintro e w' ⟨X5, x5, rfl, h5, hb'⟩; have k := below_then k (Nat.le_refl _) hb'; have kk := below_then kk (Nat.le_refl _) hb')))
      | (go_at_call 18; go_must (with_reducible refine (J2.out _ k).mono ?_); rintro e w' ⟨X, x, rfl, hX, hb'⟩; have k := below_then k (Nat.le_refl _) hb')
      | (go_at_call 13; go_must (first
        | with_reducible refine (G13.out _ _ _ k hX).mono ?_
        | with_reducible refine (G14.out _ _ _ k hX).mono ?_); rintro e w' ⟨rfl, hb'⟩; have k := below_then k (Nat.le_refl _) hb'; clear hb')
      | (go_at_call 30; go_must (with_reducible refine (J6.out _ k _ _ _ _ (h3.go kk) h5).mono ?_); rintro e w' ⟨rfl, hb'⟩; have k := below_then k (Nat.le_refl _) hb'))
    go_ret
    exact ⟨rfl, below_then k3 (Nat.le_refl _) k⟩
end Go.Proofs.YtppghbmggpbopaaDoor
