/- Lists of lists; the document's Join. -/
import Derived.Test.YtldcgmnfohhjbaaDoorVecF
namespace Go.Proofs.YtldcgmnfohhjbaaDoor
open Go.RowKit
set_option maxRecDepth 100000

/-- A slice of lists of stamps. -/
structure RdL (w : World) (B : Nat) (A : Option Addr) (n c : Nat) (vs : List (List Vc.St)) : Prop where
  len : vs.length = n
  cap : n ≤ c
  max : c ≤ maxLen
  nil : A = none → c = 0
  at_ : ∀ k (hk : k < vs.length), ∃ b o Ak nk ck, A = some ⟨b, o, none⟩ ∧ b < B ∧ w.cell? ⟨b, o + k, none⟩ = some (.slice Ak nk ck) ∧ vs[k].length = nk ∧ Rd w B 2 Ak nk ck (sv vs[k])
theorem RdL.below {w w' : World} {B n c : Nat} {A : Option Addr} {vs : List (List Vc.St)} (h : RdL w B A n c vs) (hb : Below B w w') : RdL w' B A n c vs :=
  ⟨h.len, h.cap, h.max, h.nil, fun k hk => by
    obtain ⟨b, o, Ak, nk, ck, h1, h2, h3, h4, h5⟩ := h.at_ k hk
    exact ⟨b, o, Ak, nk, ck, h1, h2, by rw [hb.cell (p := ⟨b, o + k, none⟩) h2]; exact h3, h4, h5.below hb⟩⟩
theorem RdL.more {w : World} {B B' n c : Nat} {A : Option Addr} {vs : List (List Vc.St)} (h : RdL w B A n c vs) (hB : B ≤ B') : RdL w B' A n c vs :=
  ⟨h.len, h.cap, h.max, h.nil, fun k hk => by
    obtain ⟨b, o, Ak, nk, ck, h1, h2, h3, h4, h5⟩ := h.at_ k hk
    exact ⟨b, o, Ak, nk, ck, h1, by omega, h3, h4, h5.more hB⟩⟩
theorem RdL.go {w w' : World} {n c : Nat} {A : Option Addr} {vs : List (List Vc.St)} (h : RdL w w.heap.size A n c vs) (hb : Below w.heap.size w w') : RdL w' w'.heap.size A n c vs := (h.below hb).more hb.size

/-- The greatest counts. -/
def jn (vs : List (List Vc.St)) : Nat → Int := fun n => vs.foldl (fun a v => max a (Vc.cnt v n)) 0
theorem jn_nil : jn [] = fun _ => 0 := rfl
theorem jn_snoc (vs : List (List Vc.St)) (v : List Vc.St) (n : Nat) : jn (vs ++ [v]) n = max (jn vs n) (Vc.cnt v n) := by simp [jn]
theorem take_nextL (vs : List (List Vc.St)) (k : Nat) (h : k < vs.length) : vs.take (k + 1) = vs.take k ++ [vs[k]] := by rw [List.take_succ_eq_append_getElem h]
/-- Half way through: the first k counts are done. -/
def mix (k : Nat) (f g : Nat → Int) : Nat → Int := fun n => if n < k then g n else f n
theorem mix_zero (f g : Nat → Int) : mix 0 f g = f := by funext n; simp [mix]
theorem mix_next (f g : Nat → Int) (k : Nat) : ∀ n, upd (mix k f g) k (g k) n = mix (k + 1) f g n := fun n => by
  unfold upd mix
  by_cases h : n = k
  · subst h; simp
  · by_cases h2 : n < k
    · rw [if_neg h, if_pos h2, if_pos (by omega)]
    · rw [if_neg h, if_neg h2, if_neg (by omega)]
theorem mix_at (f g : Nat → Int) (k : Nat) : mix k f g k = f k := by simp [mix]
theorem mix_end (f g : Nat → Int) : ∀ n, n < 64 → mix 64 f g n = g n := fun n hn => by simp [mix, hn]

set_option maxHeartbeats 2000000 in
theorem refJoin_any (A : Option Addr) (n c : Nat) (vs : List (List Vc.St)) (w : World) (hR : RdL w w.heap.size A n c vs) :
    Calls Tryd.prog 81 #[.slice A n c] w fun e w' => ∃ A' c', e = .returned (.slice A' (vec (jn vs)).length c') ∧
      w'.ownsRow w.heap.size 24 2 (.slice A' (vec (jn vs)).length c') (vec (jn vs)).length (sv (vec (jn vs))) ∧ Below w.heap.size w w' := by
  obtain ⟨hz, hi⟩ := zero_of_info zero_array
  have HI := Lib.hid hi
  clear hi
  have hlen := hR.len
  have hmax : n ≤ 9223372036854775807 := by have h1 := hR.cap; have h2 := hR.max; unfold maxLen at h2; omega
  go_enter Tryd.func81, Tryd.ntmps81
  go_wp2
  go_loopw [4] (fun i wr => ∃ k : Nat, k ≤ n ∧ i = .int .i64 k ∧ Below w.heap.size w wr ∧ Blk wr w.heap.size 86 (a64 (jn (vs.take k)))) (fun i _ => n - (intOf i).toNat)
  case atStart => exact ⟨0, by omega, rfl, (Below.refl _ _).alloc (Nat.le_refl _) _, Blk.new _ _ _⟩
  case round =>
    obtain ⟨k, hk, rfl, hb, hblk⟩ := hrel
    by_cases hlt : k < n
    · have hkv : k < vs.length := by omega
      obtain ⟨b, o, Ak, nk, ck, rfl, hbB, hcell, hvl, hRk⟩ := (hR.below hb).at_ k hkv
      have hsz := hblk.lt
      have H1 := Lib.hid (refCounts_any Ak nk ck vs[k] wr hvl (hRk.more hb.size))
      obtain ⟨g, hg⟩ : ∃ g, g = Vc.cnt vs[k] := ⟨_, rfl⟩
      rw [← hg] at H1
      have HG := Lib.hid hg
      have HK := Lib.hid hblk
      have HB := Lib.hid hb
      clear hR hRk hblk hb hvl hg
      go_wp2_with fail
      refine H1.out.mono ?_
      rintro e w1 ⟨rfl, hb1⟩
      have HK1 := Lib.hid (HK.out.go hb1)
      have HB1 := Lib.hid (below_then HB.out (Nat.le_refl _) hb1)
      have hs1 := hb1.size
      have HN := Lib.hid (Blk.new w1 86 (a64 fun _ => 0))
      clear hb1 H1 HK HB
      go_wp2_with (refine wpList_store_blk rfl 86 _ _ rfl w1.heap.size 86 _ (a64 g) rfl rfl HN.out (by rw [a64_size]; exact HI.out) rfl (a64_oneCell _) ?_; intro w3 hk3 hg3)
      have hb3 : Below w.heap.size w w3 := (HB1.out.alloc (by omega) _).trans (grown_below hg3 (by simp; omega) (fun k hk => by cases hk; omega))
      have hk4 : Blk w3 w.heap.size 86 (a64 (jn (vs.take k))) := (HK1.out.alloc _).grown hg3 (by simp; omega)
      have hlt1 : w.heap.size < w1.heap.size := by omega
      clear hg3 HN HK1 HB1
      go_loopw [6] (fun i wr => ∃ j : Nat, j ≤ 64 ∧ i = .int .i64 j ∧ Below w.heap.size w wr ∧ Blk wr w1.heap.size 86 (a64 g) ∧ Blk wr w.heap.size 86 (a64 (mix j (jn (vs.take k)) (jn (vs.take (k + 1)))))) (fun i _ => 64 - (intOf i).toNat)
      case atStart => exact ⟨0, by omega, rfl, hb3, hk3, by rw [mix_zero]; exact hk4⟩
      case round =>
        obtain ⟨j, hj, rfl, hb5, q1, q2⟩ := hrel
        clear hb3 hk3 hk4
        by_cases hj6 : j < 64
        · have g1 := q1.cell j
          have g2 := q2.cell j
          have fj := q2.frozen j
          rw [a64_at _ _ hj6] at g1 g2
          rw [mix_at] at g2
          generalize hx : jn (vs.take k) j = x at g2
          generalize hy : g j = y at g1
          have HX := Lib.hid hx
          have HY := Lib.hid hy
          have Q1 := Lib.hid q1
          have Q2 := Lib.hid q2
          have HB := Lib.hid hb5
          have HM := Lib.hid (show (if x < y then y else x) = jn (vs.take (k + 1)) j by rw [take_nextL vs k hkv, jn_snoc, ← HG.out, HX.out, HY.out]; split <;> omega)
          clear hx hy q1 q2 hb5
          go_wp2
          go_region
          go_wp2
          go_roundw
          case rel =>
            refine ⟨j + 1, by omega, by go_num, (HB.out.drew).setCell (p := ⟨w.heap.size, j, none⟩) (Nat.le_refl _) _, Blk.far (w := wr.drew) Q1.out (by simp; omega) _, ?_⟩
            have h5 := Q2.out.set_ j (.int .i64 (jn (vs.take (k + 1)) j))
            rw [a64_set _ _ _ hj6, a64_congr (fun n _ => mix_next _ _ j n)] at h5
            rw [HM.out]
            exact h5
          case measure => simp [intOf]; omega
        · obtain rfl : j = 64 := by omega
          have Q2 := Lib.hid q2
          have HB := Lib.hid hb5
          clear q1 q2 hb5
          go_wp2
          go_roundw
          case rel =>
            refine ⟨k + 1, by omega, by go_num, HB.out, ?_⟩
            rw [← a64_congr (mix_end (jn (vs.take k)) (jn (vs.take (k + 1))))]
            exact Q2.out
          case measure => simp [intOf]; omega
    · obtain rfl : k = n := by omega
      have ht : vs.take k = vs := List.take_of_length_le (by omega)
      rw [ht] at hblk
      have HK := Lib.hid hblk
      have HB := Lib.hid hb
      have hsz := hblk.lt
      clear hR hblk ht hb
      go_wp2_with (first
        | (refine wpList_load_row rfl 86 _ rfl w.heap.size rfl 86 _ _ _ HK.out Tryd.underlying86 rfl (by rw [a64_size]; exact HI.out) ?_)
        | (go_at_call 89; go_must (refine (refOf_any (jn vs) _).mono ?_); rintro e w5 ⟨A5, c5, rfl, ho5, hb5⟩))
      go_ret
      exact ⟨A5, c5, rfl, own_less ho5 (by omega), below_then HB.out (Nat.le_refl _) hb5⟩
end Go.Proofs.YtldcgmnfohhjbaaDoor
