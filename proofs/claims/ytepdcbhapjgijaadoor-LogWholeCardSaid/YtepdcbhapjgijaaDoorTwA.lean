/- Zones as cells; quiet walks: slices.Equal at stamps, the document's Same of vectors. -/
import Derived.BigQuiet
import Derived.Deep.QuietTactic
import Derived.IntWalk
import Derived.Test.YtepdcbhapjgijaaDoorNtC
import Derived.Test.YtepdcbhapjgijaaDoorMOld
import Derived.Test.YtepdcbhapjgijaaDoorMTr
namespace Go.Proofs.YtepdcbhapjgijaaDoor
open Go.RowKit
set_option maxRecDepth 100000

/-- A zone's slice. -/
structure ZV where
  A : Option Addr
  n : Nat
  c : Nat
/-- A zone's cells. -/
def zvl (p : ZV × Zn) : List Value := [.int .i64 p.2.1.1, .int .i64 p.2.1.2, .slice p.1.A p.1.n p.1.c]
def zvv (L : List (ZV × Zn)) : List Value := L.flatMap zvl
def zns (L : List (ZV × Zn)) : List Zn := L.map (·.2)
theorem zns_len (L : List (ZV × Zn)) : (zns L).length = L.length := by simp [zns]
theorem zns_at (L : List (ZV × Zn)) (k : Nat) (h : k < L.length) : (zns L)[k]'(by rw [zns_len]; exact h) = L[k].2 := by simp [zns]
theorem zns_app (L M : List (ZV × Zn)) : zns (L ++ M) = zns L ++ zns M := by simp [zns]
theorem zvv_app (L M : List (ZV × Zn)) : zvv (L ++ M) = zvv L ++ zvv M := by simp [zvv]
theorem zvv_at (L : List (ZV × Zn)) (k : Nat) (h : k < L.length) (j : Nat) (hj : j < 3) : (zvv L)[k * 3 + j]? = (zvl L[k])[j]? := flat_at zvl 3 (by decide) L (fun _ _ => rfl) k h j hj
theorem zvv_len (L : List (ZV × Zn)) : (zvv L).length = L.length * 3 := flat_len zvl 3 L (fun _ _ => rfl)
theorem zvl_oneCell (p : ZV × Zn) : ∀ u ∈ zvl p, u.oneCell' = true := by
  intro u hu
  simp only [zvl, List.mem_cons, List.not_mem_nil, or_false] at hu
  rcases hu with h | h | h <;> subst h <;> rfl
theorem zvv_oneCell (L : List (ZV × Zn)) : ∀ u ∈ zvv L, u.oneCell' = true := by
  intro u hu
  simp only [zvv, List.mem_flatMap] at hu
  obtain ⟨p, _, hp⟩ := hu
  exact zvl_oneCell p u hp
/-- A slice of zones. -/
structure RdZ (w : World) (B : Nat) (A : Option Addr) (n c : Nat) (L : List (ZV × Zn)) : Prop where
  len : L.length = n
  rd : Rd w B 3 A n c (zvv L)
  each : ∀ p ∈ L, p.2.2.length = p.1.n ∧ Rd w B 2 p.1.A p.1.n p.1.c (sv p.2.2)
theorem RdZ.go {w w' : World} {A : Option Addr} {n c : Nat} {L : List (ZV × Zn)} (h : RdZ w w.heap.size A n c L) (hb : Below w.heap.size w w') : RdZ w' w'.heap.size A n c L := ⟨h.len, h.rd.go hb, fun p hp => ⟨(h.each p hp).1, (h.each p hp).2.go hb⟩⟩
theorem RdZ.below {w w' : World} {B : Nat} {A : Option Addr} {n c : Nat} {L : List (ZV × Zn)} (h : RdZ w B A n c L) (hb : Below B w w') : RdZ w' B A n c L := ⟨h.len, h.rd.below hb, fun p hp => ⟨(h.each p hp).1, (h.each p hp).2.below hb⟩⟩
theorem RdZ.more {w : World} {B B' : Nat} {A : Option Addr} {n c : Nat} {L : List (ZV × Zn)} (h : RdZ w B A n c L) (hb : B ≤ B') : RdZ w B' A n c L := ⟨h.len, h.rd.more hb, fun p hp => ⟨(h.each p hp).1, (h.each p hp).2.more hb⟩⟩
theorem RdZ.none_ (w : World) (B : Nat) : RdZ w B none 0 0 [] := ⟨rfl, Rd.none_, fun p hp => by cases hp⟩
theorem RdZ.zone {w : World} {B n c k : Nat} {A : Option Addr} {L : List (ZV × Zn)} (h : RdZ w B A n c L) (hk : k < L.length) :
    ∃ b o, A = some ⟨b, o, none⟩ ∧ b < B ∧ w.cell? ⟨b, o + k * 3, none⟩ = some (.int .i64 L[k].2.1.1) ∧ w.cell? ⟨b, o + k * 3 + 1, none⟩ = some (.int .i64 L[k].2.1.2) ∧
      w.cell? ⟨b, o + k * 3 + 2, none⟩ = some (.slice L[k].1.A L[k].1.n L[k].1.c) := by
  have hl := h.len
  obtain ⟨b, o, rfl, hb, hc⟩ := h.rd.plain (by omega) (by decide)
  have e : ∀ j, j < 3 → ∀ u, (zvl L[k])[j]? = some u → w.cell? ⟨b, o + k * 3 + j, none⟩ = some u := fun j hj u hu => by
    rw [Nat.add_assoc]
    exact hc (k * 3 + j) u (by rw [zvv_at L k hk j hj, hu])
  exact ⟨b, o, rfl, hb, e 0 (by decide) _ rfl, e 1 (by decide) _ rfl, e 2 (by decide) _ rfl⟩
theorem RdZ.max {w : World} {B n c : Nat} {A : Option Addr} {L : List (ZV × Zn)} (h : RdZ w B A n c L) : n ≤ 9223372036854775807 := by
  have h1 := h.rd.cap; have h2 := h.rd.max; unfold maxLen at h2; omega

/-- The end and the reach ahead of a place. -/
def aheadE (z : List Zn) (k : Nat) : Int := if h : k ≠ 0 ∧ k - 1 < z.length then (z[k - 1]'h.2).1.2 else -1
def aheadP (z : List Zn) (k : Nat) : Option (List Vc.St) := if h : k ≠ 0 ∧ k - 1 < z.length then some (z[k - 1]'h.2).2 else none
theorem aheadE_zero (z : List Zn) : aheadE z 0 = -1 := by unfold aheadE; rw [dif_neg (by simp)]
theorem aheadP_zero (z : List Zn) : aheadP z 0 = none := by unfold aheadP; rw [dif_neg (by simp)]
theorem aheadE_next (z : List Zn) (k : Nat) (h : k < z.length) : aheadE z (k + 1) = z[k].1.2 := by
  unfold aheadE; rw [dif_pos ⟨by omega, by simpa using h⟩]; simp
theorem aheadP_next (z : List Zn) (k : Nat) (h : k < z.length) : aheadP z (k + 1) = some z[k].2 := by
  unfold aheadP; rw [dif_pos ⟨by omega, by simpa using h⟩]; simp
theorem zF_drop (e : Int) (p : Option (List Vc.St)) (z : List Zn) (k : Nat) (h : k < z.length) : zF e p (z.drop k) = (zStep e p z[k] && zF z[k].1.2 (some z[k].2) (z.drop (k + 1))) := by
  rw [List.drop_eq_getElem_cons h, zF]
theorem zF_end (e : Int) (p : Option (List Vc.St)) (z : List Zn) (k : Nat) (h : z.length ≤ k) : zF e p (z.drop k) = true := by
  rw [List.drop_of_length_le h]; rfl

theorem quiet_then {w wr : World} {q : Nat} (h : Hid (wr = w.drewN q)) (m : Nat) : Hid (wr.drewN m = w.drewN (q + m)) := Lib.hid (by rw [h.out, World.drewN_drewN])

set_option maxHeartbeats 2000000 in
theorem equalSt_q (A D : Option Addr) (n c m d : Nat) (u v : List Vc.St) (w : World) (hl : u.length = n) (hl2 : v.length = m) (hR : Rd w w.heap.size 2 A n c (sv u)) (hR2 : Rd w w.heap.size 2 D m d (sv v)) :
    Calls Tryd.prog 42 #[.slice A n c, .slice D m d] w fun e w' => e = .returned (.bool (decide (u = v))) ∧ ∃ q, w' = w.drewN q := by
  have hmax : n ≤ 9223372036854775807 := by have h1 := hR.cap; have h2 := hR.max; unfold maxLen at h2; omega
  by_cases hnm : n = m
  · subst hnm
    go_enter Tryd.func42, Tryd.ntmps42
    go_wp2
    go_loopw [13] (fun i wr => ∃ (k q : Nat), k ≤ n ∧ i = .int .i64 k ∧ decide (u = v) = decide (u.drop k = v.drop k) ∧ Hid (wr = w.drewN q)) (fun i _ => n - (intOf i).toNat)
    case atStart => exact ⟨0, 0, by omega, rfl, rfl, Lib.hid rfl⟩
    case round =>
      obtain ⟨k, q, hk, rfl, hdd, hq⟩ := hrel
      have hR := hR.drewN q
      have hR2 := hR2.drewN q
      rw [← hq.out] at hR hR2
      by_cases hlt : k < n
      · have hk1 : k < u.length := by omega
        have hk2 : k < v.length := by omega
        obtain ⟨b, o, rfl, hab, h0, h1⟩ := hR.stamp hl hlt
        obtain ⟨b2, o2, rfl, hab2, h02, h12⟩ := hR2.stamp hl2 hlt
        have HD := Lib.hid hdd
        have HE := Lib.hid (show u[k] = ((u[k]'hk1).1, (u[k]'hk1).2) from rfl)
        have HE2 := Lib.hid (show v[k] = ((v[k]'hk2).1, (v[k]'hk2).2) from rfl)
        generalize (u[k]'hk1).1 = sc at h0 HE
        generalize (u[k]'hk1).2 = sn at h1 HE
        generalize (v[k]'hk2).1 = tc at h02 HE2
        generalize (v[k]'hk2).2 = tn at h12 HE2
        clear hdd hR hR2
        by_cases e1 : sc = tc
        · subst e1
          by_cases e2 : sn = tn
          · subst e2
            have HN := Lib.hid (dec_drop hk1 hk2 (by rw [HE.out, HE2.out]))
            go_wp2
            go_quiet (fail)
            go_wp2
            go_roundw
            case rel => exact ⟨k + 1, _, by omega, by go_num, by rw [HD.out, HN.out], quiet_then hq _⟩
            case measure => simp [intOf]; omega
          · have HN := Lib.hid (show decide (u = v) = false by
              rw [decide_eq_false_iff_not]; intro h; subst h; exact e2 (congrArg Prod.snd (HE.out.symm.trans HE2.out)))
            go_wp2
            go_quiet (fail)
            go_wp2
            go_ret
            exact ⟨by rw [HN.out]; rfl, _, (quiet_then hq _).out⟩
        · have HN := Lib.hid (show decide (u = v) = false by
            rw [decide_eq_false_iff_not]; intro h; subst h; exact e1 (congrArg Prod.fst (HE.out.symm.trans HE2.out)))
          go_wp2
          go_quiet (fail)
          go_wp2
          go_ret
          exact ⟨by rw [HN.out]; rfl, _, (quiet_then hq _).out⟩
      · obtain rfl : k = n := by omega
        have HX := Lib.hid (show decide (u = v) = true by rw [hdd, List.drop_of_length_le (by omega), List.drop_of_length_le (by omega)]; simp)
        clear hdd
        go_wp2
        go_ret
        exact ⟨by rw [HX.out]; rfl, q, hq.out⟩
  · have HN := Lib.hid (show decide (u = v) = false by rw [decide_eq_false_iff_not]; intro h; subst h; omega)
    have hne : ¬ ((n : Int) = (m : Int)) := by omega
    go_enter Tryd.func42, Tryd.ntmps42
    go_wp2
    go_ret
    exact ⟨by rw [HN.out]; rfl, 0, rfl⟩

set_option maxHeartbeats 2000000 in
theorem same_q (A D : Option Addr) (n c m d : Nat) (u v : List Vc.St) (w : World) (hl : u.length = n) (hl2 : v.length = m) (hR : Rd w w.heap.size 2 A n c (sv u)) (hR2 : Rd w w.heap.size 2 D m d (sv v)) :
    Calls Tryd.prog 11 #[.slice A n c, .slice D m d] w fun e w' => e = .returned (.bool (decide (u = v))) ∧ ∃ q, w' = w.drewN q := by
  have hmax : n ≤ 9223372036854775807 := by have h1 := hR.cap; have h2 := hR.max; unfold maxLen at h2; omega
  by_cases hnm : n = m
  · subst hnm
    go_enter Tryd.func11, Tryd.ntmps11
    go_wp2
    go_loopw [5] (fun i wr => ∃ (k q : Nat), k ≤ n ∧ i = .int .i64 k ∧ decide (u = v) = decide (u.drop k = v.drop k) ∧ Hid (wr = w.drewN q)) (fun i _ => n - (intOf i).toNat)
    case atStart => exact ⟨0, 0, by omega, rfl, rfl, Lib.hid rfl⟩
    case round =>
      obtain ⟨k, q, hk, rfl, hdd, hq⟩ := hrel
      have hR := hR.drewN q
      have hR2 := hR2.drewN q
      rw [← hq.out] at hR hR2
      by_cases hlt : k < n
      · have hk1 : k < u.length := by omega
        have hk2 : k < v.length := by omega
        obtain ⟨b, o, rfl, hab, h0, h1⟩ := hR.stamp hl hlt
        obtain ⟨b2, o2, rfl, hab2, h02, h12⟩ := hR2.stamp hl2 hlt
        have HD := Lib.hid hdd
        have HE := Lib.hid (show u[k] = ((u[k]'hk1).1, (u[k]'hk1).2) from rfl)
        have HE2 := Lib.hid (show v[k] = ((v[k]'hk2).1, (v[k]'hk2).2) from rfl)
        generalize (u[k]'hk1).1 = sc at h0 HE
        generalize (u[k]'hk1).2 = sn at h1 HE
        generalize (v[k]'hk2).1 = tc at h02 HE2
        generalize (v[k]'hk2).2 = tn at h12 HE2
        clear hdd hR hR2
        by_cases e1 : sc = tc
        · subst e1
          by_cases e2 : sn = tn
          · subst e2
            have HN := Lib.hid (dec_drop hk1 hk2 (by rw [HE.out, HE2.out]))
            go_wp2
            go_quiet (fail)
            go_wp2
            go_roundw
            case rel => exact ⟨k + 1, _, by omega, by go_num, by rw [HD.out, HN.out], quiet_then hq _⟩
            case measure => simp [intOf]; omega
          · have HN := Lib.hid (show decide (u = v) = false by
              rw [decide_eq_false_iff_not]; intro h; subst h; exact e2 (congrArg Prod.snd (HE.out.symm.trans HE2.out)))
            go_wp2
            go_quiet (fail)
            go_wp2
            go_ret
            exact ⟨by rw [HN.out]; rfl, _, (quiet_then hq _).out⟩
        · have HN := Lib.hid (show decide (u = v) = false by
            rw [decide_eq_false_iff_not]; intro h; subst h; exact e1 (congrArg Prod.fst (HE.out.symm.trans HE2.out)))
          go_wp2
          go_quiet (fail)
          go_wp2
          go_ret
          exact ⟨by rw [HN.out]; rfl, _, (quiet_then hq _).out⟩
      · obtain rfl : k = n := by omega
        have HX := Lib.hid (show decide (u = v) = true by rw [hdd, List.drop_of_length_le (by omega), List.drop_of_length_le (by omega)]; simp)
        clear hdd
        go_wp2
        go_ret
        exact ⟨by rw [HX.out]; rfl, q, hq.out⟩
  · have HN := Lib.hid (show decide (u = v) = false by rw [decide_eq_false_iff_not]; intro h; subst h; omega)
    have hne : ¬ ((n : Int) = (m : Int)) := by omega
    go_enter Tryd.func11, Tryd.ntmps11
    go_wp2
    go_ret
    exact ⟨by rw [HN.out]; rfl, 0, rfl⟩
end Go.Proofs.YtepdcbhapjgijaaDoor
