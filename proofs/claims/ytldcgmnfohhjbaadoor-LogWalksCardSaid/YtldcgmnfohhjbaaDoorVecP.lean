/- Walks over vector.With, Formed, Count, Has. -/
import Derived.Test.YtldcgmnfohhjbaaDoorVecO
namespace Go.Proofs.YtldcgmnfohhjbaaDoor
open Go.RowKit
set_option maxRecDepth 100000

set_option maxHeartbeats 1000000 in
theorem with_any (A : Option Addr) (n c : Nat) (u : List Vc.St) (s : Vc.St) (w : World) (hT : Tab w) (hl : u.length = n) (hR : Rd w w.heap.size 2 A n c (sv u)) :
    Calls Tryd.prog 46 #[.slice A n c, .agg #[.int .i64 s.1, .int .i64 s.2]] w fun e w' => ∃ A' c', e = .returned (.slice A' (vec (jn [u, [s]])).length c') ∧
      w'.ownsRow w.heap.size 24 2 (.slice A' (vec (jn [u, [s]])).length c') (vec (jn [u, [s]])).length (sv (vec (jn [u, [s]]))) ∧ Below w.heap.size w w' := by
  obtain ⟨sc, sn⟩ := s
  have h1max : 1 ≤ maxLen := by unfold maxLen; omega
  have hb1 : Below w.heap.size w (w.alloc (.cells #[.int .i64 sc, .int .i64 sn] 24)) := (Below.refl _ _).alloc (Nat.le_refl _) _
  have hb2 : Below (w.heap.size) w ((w.alloc (.cells #[.int .i64 sc, .int .i64 sn] 24)).alloc (.cells #[.int .i64 sc, .int .i64 sn] 24)) := hb1.alloc hb1.size _
  have hS := Rd.new (w.alloc (.cells #[.int .i64 sc, .int .i64 sn] 24)) 24 2 1 #[.int .i64 sc, .int .i64 sn] rfl h1max
  rw [World.size_alloc] at hS
  have hL := RdL.two (D := some ⟨w.heap.size + 1, 0, none⟩) (m := 1) (d := 1) (v := [(sc, sn)]) hl rfl (hR.go hb2) (by simp only [World.size_alloc]; exact hS) 22
  have hb3 := hb2.alloc (o := .cells #[.slice A n c, .slice (some ⟨w.heap.size + 1, 0, none⟩) 1 1] 22) hb2.size
  have hL2 : RdL (((w.alloc (.cells #[.int .i64 sc, .int .i64 sn] 24)).alloc (.cells #[.int .i64 sc, .int .i64 sn] 24)).alloc (.cells #[.slice A n c, .slice (some ⟨w.heap.size + 1, 0, none⟩) 1 1] 22)) (((w.alloc (.cells #[.int .i64 sc, .int .i64 sn] 24)).alloc (.cells #[.int .i64 sc, .int .i64 sn] 24)).alloc (.cells #[.slice A n c, .slice (some ⟨w.heap.size + 1, 0, none⟩) 1 1] 22)).heap.size (some ⟨w.heap.size + 1 + 1, 0, none⟩) 2 2 [u, [(sc, sn)]] := by
    have := hL
    simp only [World.size_alloc] at this ⊢
    exact this
  have hT3 := hT.below hb3
  generalize hW : (((w.alloc (.cells #[.int .i64 sc, .int .i64 sn] 24)).alloc (.cells #[.int .i64 sc, .int .i64 sn] 24)).alloc (.cells #[.slice A n c, .slice (some ⟨w.heap.size + 1, 0, none⟩) 1 1] 22)) = W at hb3 hL2 hT3
  have hs3 := hb3.size
  have H1 := Lib.hid (join_any _ 2 2 [u, [(sc, sn)]] W hT3 hL2)
  have HB := Lib.hid hb3
  clear hl hR hS hb1 hb2 hb3 hL hT
  go_enter Tryd.func46, Tryd.ntmps46
  go_wp2_with fail
  refine H1.out.mono ?_
  rintro e w1 ⟨A', c', rfl, ho, hb⟩
  clear H1
  go_wp2
  go_ret
  exact ⟨A', c', rfl, own_less ho hs3, HB.out.trans (hb.mono hs3)⟩

/-- Is it a vector? -/
def fm : Int → List Vc.St → Bool
  | _, [] => true
  | last, s :: r => Vc.right s && (decide (last < s.2) && fm s.2 r)
theorem fm_drop (last : Int) (v : List Vc.St) (k : Nat) (h : k < v.length) : fm last (v.drop k) = (Vc.right v[k] && (decide (last < v[k].2) && fm v[k].2 (v.drop (k + 1)))) := by
  rw [List.drop_eq_getElem_cons h]; rfl

set_option maxHeartbeats 1000000 in
theorem formed_any (A : Option Addr) (n c : Nat) (v : List Vc.St) (w : World) (hl : v.length = n) (hR : Rd w w.heap.size 2 A n c (sv v)) :
    Calls Tryd.prog 41 #[.slice A n c] w fun e w' => e = .returned (.bool (fm (-1) v)) ∧ Below w.heap.size w w' := by
  have hmax : n ≤ 9223372036854775807 := by have h1 := hR.cap; have h2 := hR.max; unfold maxLen at h2; omega
  go_enter Tryd.func41, Tryd.ntmps41
  go_wp2
  go_loopw [3, 8] (fun la i wr => ∃ (k : Nat) (last : Int), k ≤ n ∧ i = .int .i64 k ∧ la = .int .i64 last ∧ fm (-1) v = fm last (v.drop k) ∧ Below w.heap.size w wr) (fun _ i _ => n - (intOf i).toNat)
  case atStart => exact ⟨0, -1, by omega, rfl, rfl, rfl, Below.refl _ _⟩
  case round =>
    obtain ⟨k, last, hk, rfl, rfl, hfm, hb⟩ := hrel
    by_cases hlt : k < n
    · have hkv : k < v.length := by omega
      obtain ⟨b, o, rfl, hab, h0, h1⟩ := (hR.below hb).stamp hl hlt
      have HF := Lib.hid (hfm.trans (fm_drop last v k hkv))
      generalize hs1 : (v[k]'hkv).1 = sc at h0
      generalize hs2 : (v[k]'hkv).2 = sn at h1
      have HE := Lib.hid (show v[k]'hkv = (sc, sn) by rw [← hs1, ← hs2])
      have HB := Lib.hid hb
      clear hs1 hs2 hR hb hfm
      go_wp2_with fail
      refine (right_any sc sn _).mono ?_
      rintro e w3 ⟨rfl, hb3⟩
      have hs3 := Blk.go (Blk.new wr 24 #[.int .i64 sc, .int .i64 sn]) hb3
      have g1 := hs3.cell 1
      rw [show (#[Value.int .i64 sc, Value.int .i64 sn])[1]? = some (.int .i64 sn) from rfl] at g1
      have hb4 := below_then HB.out (Nat.le_refl _) (((Below.refl wr.heap.size wr).alloc (Nat.le_refl _) _).trans (hb3.mono (by simp)))
      clear hb3 hs3 HB
      have HX := Lib.hid (show fm (-1) v = (Vc.right (sc, sn) && (decide (last < sn) && fm sn (v.drop (k + 1)))) by have := HF.out; rw [HE.out] at this; exact this)
      clear HF HE
      rcases hr : Vc.right (sc, sn) with _ | _
      · rw [hr] at HX
        clear hr
        go_wp2
        go_ret
        exact ⟨by rw [HX.out]; rfl, hb4⟩
      · rw [hr] at HX
        clear hr
        by_cases hle : sn ≤ last
        · go_wp2
          go_ret
          exact ⟨ret_bool (by rw [HX.out]; simp; omega), hb4⟩
        · go_wp2
          go_roundw
          case rel =>
            exact ⟨k + 1, sn, by omega, by go_num, rfl, by rw [HX.out]; simp; omega, hb4⟩
          case measure => simp [intOf]; omega
    · obtain rfl : k = n := by omega
      have HX := Lib.hid (show fm (-1) v = true by rw [hfm, List.drop_of_length_le (by omega)]; rfl)
      clear hfm
      go_wp2
      go_ret
      exact ⟨ret_bool (by rw [HX.out]), hb⟩

theorem cntZ_cons (s : Vc.St) (r : List Vc.St) (x : Int) : cntZ (s :: r) x = if s.2 = x ∧ Vc.right s = true then s.1 else cntZ r x := by
  unfold cntZ
  by_cases h : 0 ≤ x ∧ x < 64
  · rw [if_pos h, if_pos h]
    simp only [Vc.cnt]
    obtain ⟨k, rfl⟩ := Int.eq_ofNat_of_zero_le h.1
    by_cases h2 : s.2 = (k : Int) <;> by_cases h3 : Vc.right s = true <;> simp [h2, h3]
  · rw [if_neg h, if_neg h, if_neg]
    rintro ⟨h1, h2⟩
    have := (Vc.right_iff s).1 h2
    omega
theorem cntZ_drop (v : List Vc.St) (x : Int) (k : Nat) (h : k < v.length) : cntZ (v.drop k) x = if v[k].2 = x ∧ Vc.right v[k] = true then v[k].1 else cntZ (v.drop (k + 1)) x := by
  rw [List.drop_eq_getElem_cons h, cntZ_cons]
theorem cntZ_nil (x : Int) : cntZ [] x = 0 := by unfold cntZ; split <;> rfl

set_option maxHeartbeats 1000000 in
theorem count_any (A : Option Addr) (n c : Nat) (v : List Vc.St) (x : Int) (w : World) (hl : v.length = n) (hR : Rd w w.heap.size 2 A n c (sv v)) :
    Calls Tryd.prog 68 #[.slice A n c, .int .i64 x] w fun e w' => e = .returned (.int .i64 (cntZ v x)) ∧ Below w.heap.size w w' := by
  have hmax : n ≤ 9223372036854775807 := by have h1 := hR.cap; have h2 := hR.max; unfold maxLen at h2; omega
  go_enter Tryd.func68, Tryd.ntmps68
  go_wp2
  go_loopw [9] (fun i wr => ∃ (k : Nat), k ≤ n ∧ i = .int .i64 k ∧ cntZ v x = cntZ (v.drop k) x ∧ Below w.heap.size w wr) (fun i _ => n - (intOf i).toNat)
  case atStart => exact ⟨0, by omega, rfl, rfl, Below.refl _ _⟩
  case round =>
    obtain ⟨k, hk, rfl, hfm, hb⟩ := hrel
    by_cases hlt : k < n
    · have hkv : k < v.length := by omega
      obtain ⟨b, o, rfl, hab, h0, h1⟩ := (hR.below hb).stamp hl hlt
      have HF := Lib.hid (hfm.trans (cntZ_drop v x k hkv))
      generalize hs1 : (v[k]'hkv).1 = sc at h0
      generalize hs2 : (v[k]'hkv).2 = sn at h1
      have HE := Lib.hid (show v[k]'hkv = (sc, sn) by rw [← hs1, ← hs2])
      have HB := Lib.hid hb
      have HX := Lib.hid (show cntZ v x = if sn = x ∧ Vc.right (sc, sn) = true then sc else cntZ (v.drop (k + 1)) x by have := HF.out; rw [HE.out] at this; exact this)
      clear hs1 hs2 hR hb hfm HF HE
      by_cases hsn : sn = x
      · subst hsn
        go_wp2_with fail
        refine (right_any sc sn _).mono ?_
        rintro e w3 ⟨rfl, hb3⟩
        have hs3 := Blk.go (Blk.new wr 24 #[.int .i64 sc, .int .i64 sn]) hb3
        have g1 := hs3.cell 0
        rw [show (#[Value.int .i64 sc, Value.int .i64 sn])[0]? = some (.int .i64 sc) from rfl] at g1
        have hb4 := below_then HB.out (Nat.le_refl _) (((Below.refl wr.heap.size wr).alloc (Nat.le_refl _) _).trans (hb3.mono (by simp)))
        clear hb3 hs3 HB
        rcases hr : Vc.right (sc, sn) with _ | _
        · rw [hr] at HX
          clear hr
          go_wp2
          go_roundw
          case rel => exact ⟨k + 1, by omega, by go_num, by rw [HX.out]; simp, hb4⟩
          case measure => simp [intOf]; omega
        · rw [hr] at HX
          clear hr
          go_wp2
          go_ret
          exact ⟨by rw [HX.out]; simp, hb4⟩
      · have hb4 : Below w.heap.size w (wr.alloc (.cells #[.int .i64 sc, .int .i64 sn] 24)) := HB.out.alloc HB.out.size _
        go_wp2
        go_roundw
        case rel => exact ⟨k + 1, by omega, by go_num, by rw [HX.out, if_neg (fun h => hsn h.1)], hb4⟩
        case measure => simp [intOf]; omega
    · obtain rfl : k = n := by omega
      have HX := Lib.hid (show cntZ v x = 0 by rw [hfm, List.drop_of_length_le (by omega), cntZ_nil])
      clear hfm
      go_wp2
      go_ret
      exact ⟨by rw [HX.out]; rfl, hb⟩
end Go.Proofs.YtldcgmnfohhjbaaDoor
