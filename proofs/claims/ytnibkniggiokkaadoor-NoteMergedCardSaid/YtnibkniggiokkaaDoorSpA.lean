/- Walks over the document's sets of objects: Set, Of. -/
import Derived.Test.YtnibkniggiokkaaDoorMVec
import Derived.Test.YtnibkniggiokkaaDoorSp0
namespace Go.Proofs.YtnibkniggiokkaaDoor
open Go.RowKit
set_option maxRecDepth 100000

/-- The 256 marks as an array. -/
def b256 (p : Nat → Bool) : Array Value := ((List.range 256).map fun n => .bool (p n)).toArray
theorem b256_size (p : Nat → Bool) : (b256 p).size = 256 := by simp [b256]
theorem b256_at (p : Nat → Bool) (n : Nat) (hn : n < 256) : (b256 p)[n]? = some (.bool (p n)) := by simp [b256, hn]
def updB (p : Nat → Bool) (m : Nat) (b : Bool) : Nat → Bool := fun n => if n = m then b else p n
theorem b256_set (p : Nat → Bool) (m : Nat) (b : Bool) (hm : m < 256) : (b256 p).setIfInBounds m (.bool b) = b256 (updB p m b) := by
  apply Array.ext_getElem?
  intro i
  rw [Array.getElem?_setIfInBounds]
  by_cases hi : i < 256
  · rw [b256_at (updB p m b) i hi]
    by_cases he : m = i
    · subst he; simp [b256_size, updB, hm]
    · rw [if_neg he, b256_at p i hi, updB, if_neg (by omega)]
  · rw [if_neg (by omega), Array.getElem?_eq_none (by rw [b256_size]; omega), Array.getElem?_eq_none (by rw [b256_size]; omega)]
theorem b256_congr {p q : Nat → Bool} (e : ∀ n, n < 256 → p n = q n) : b256 p = b256 q := by
  unfold b256
  congr 1
  exact List.map_congr_left fun n hn => by rw [e n (by simpa using hn)]
theorem b256_oneCell (p : Nat → Bool) : (b256 p).all (·.oneCell') = true := by
  rw [Array.all_eq_true']
  intro x hx
  simp only [b256, List.mem_toArray, List.mem_map] at hx
  obtain ⟨n, _, rfl⟩ := hx
  rfl
theorem zero_marks : (Tryd.prog.info? 57).map (fun i => (i.zero, i.size)) = some (some (.agg (b256 (fun _ => false))), 256) := by kernel_rfl
theorem span_info : (Tryd.prog.info? 37).map (fun i => (i.zero, i.size, i.bytes)) = some (some (.agg #[.int .i64 0, .int .i64 0]), 2, 16) := by kernel_rfl

theorem setOf_next (l : List Sn.Sp) (k : Nat) (h : k < l.length) (o : Nat) : Sn.setOf (l.take (k + 1)) o = (Sn.setOf (l.take k) o || (decide (l[k].1 ≤ (o : Int)) && decide ((o : Int) ≤ l[k].2))) := by
  unfold Sn.setOf
  rw [List.take_succ_eq_append_getElem h, Sn.inB_app]
  simp [Sn.inB]
/-- The marks of a list, so far as a span was laid. -/
def part (p : Nat → Bool) (lo o : Nat) : Nat → Bool := fun n => p n || (decide (lo ≤ n) && decide (n < o))
theorem part_start (p : Nat → Bool) (lo : Nat) : ∀ n, part p lo lo n = p n := fun n => by
  unfold part
  have : (decide (lo ≤ n) && decide (n < lo)) = false := by simp
  rw [this, Bool.or_false]
theorem part_next (p : Nat → Bool) (lo o : Nat) (h : lo ≤ o) : ∀ n, updB (part p lo o) o true n = part p lo (o + 1) n := fun n => by
  unfold updB part
  by_cases e : n = o
  · subst e; simp
    exact .inr h
  · rw [if_neg e]
    have : decide (n < o + 1) = decide (n < o) := by simp; omega
    rw [this]

set_option maxHeartbeats 2000000 in
theorem refSet_any (A : Option Addr) (n c : Nat) (l : List Sn.Sp) (w : World) (hl : l.length = n) (hR : Rd w w.heap.size 2 A n c (sv l)) :
    Calls Tryd.prog 29 #[.slice A n c] w fun e w' => e = .returned (.agg (b256 (Sn.setOf l))) ∧ Below w.heap.size w w' := by
  obtain ⟨hz, hi⟩ := zero_of_info zero_marks
  have HI := Lib.hid hi
  clear hi
  have hmax : n ≤ 9223372036854775807 := by have h1 := hR.cap; have h2 := hR.max; unfold maxLen at h2; omega
  go_enter Tryd.func29, Tryd.ntmps29
  go_wp2
  go_loopw [4] (fun i wr => ∃ k : Nat, k ≤ n ∧ i = .int .i64 k ∧ Below w.heap.size w wr ∧ Blk wr w.heap.size 57 (b256 fun _ => false) ∧ Blk wr (w.heap.size + 1) 57 (b256 (Sn.setOf (l.take k)))) (fun i _ => n - (intOf i).toNat)
  case atStart =>
    refine ⟨0, by omega, rfl, ((Below.refl _ _).alloc (Nat.le_refl _) _).alloc (by simp) _, (Blk.new _ _ _).alloc _, ?_⟩
    have := Blk.new (w.alloc (.cells (b256 fun _ => false) 57)) 57 (b256 fun _ => false)
    rw [World.size_alloc] at this
    exact this
  case round =>
    obtain ⟨k, hk, rfl, hb, hz2, hblk⟩ := hrel
    have HB := Lib.hid hb
    have HZ := Lib.hid hz2
    by_cases hlt : k < n
    · have hkl : k < l.length := by omega
      obtain ⟨b, o, rfl, hab, g0, g1⟩ := hR.stamp hl hlt
      have h0 := (hb.cell (p := ⟨b, o + k * 2, none⟩) hab).trans g0
      have h1 := (hb.cell (p := ⟨b, o + k * 2 + 1, none⟩) hab).trans g1
      have HS := Lib.hid (setOf_next l k hkl)
      have HK := Lib.hid hblk
      generalize hlo : (l[k]'hkl).1 = lo at h0 g0 HS
      generalize hhi : (l[k]'hkl).2 = hi at h1 g1 HS
      clear hlo hhi hblk hb hz2
      by_cases hp : 0 < lo
      all_goals
        obtain ⟨lo', hlo', HL⟩ : ∃ lo' : Nat, (lo = (lo' : Int) ∨ (¬ 0 < lo ∧ lo' = 0)) ∧ Hid (∀ m : Nat, lo ≤ (m : Int) ↔ lo' ≤ m) := by
          by_cases h : 0 < lo
          · exact ⟨lo.toNat, .inl (by omega), fun m => by omega⟩
          · exact ⟨0, .inr ⟨h, rfl⟩, fun m => by omega⟩
        have hst : Hid (∀ x : Int, (x = lo ∧ 0 < lo ∨ x = 0 ∧ ¬ 0 < lo) → x = (lo' : Int)) := fun x hx => by omega
        clear hlo'
        go_wp2
        go_loopw [5] (fun x wr => ∃ j : Nat, lo' ≤ j ∧ j ≤ max lo' 256 ∧ x = .int .i64 j ∧ Below w.heap.size w wr ∧ Blk wr w.heap.size 57 (b256 fun _ => false) ∧
          Blk wr (w.heap.size + 1) 57 (b256 (part (Sn.setOf (l.take k)) lo' j)) ∧ Hid (lo' < j → (j : Int) - 1 ≤ hi)) (fun x _ => 256 - (intOf x).toNat)
        case atStart =>
          refine ⟨lo', Nat.le_refl _, by omega, ?_, HB.out, HZ.out, ?_, fun h => absurd h (by omega)⟩
          · have := hst.out _ (by first | exact .inl ⟨rfl, hp⟩ | exact .inr ⟨rfl, hp⟩)
            first | (rw [this]; done) | (rw [← this]; done) | exact congrArg _ this
          · rw [b256_congr fun n _ => part_start _ lo' n]; exact HK.out
        case round =>
          obtain ⟨j, hj1, hj2, rfl, hb5, q1, q2, hq⟩ := hrel
          have HB5 := Lib.hid hb5
          have Q1 := Lib.hid q1
          have Q2 := Lib.hid q2
          have hsz := q2.lt
          have k1 := (hb5.cell (p := ⟨b, o + k * 2 + 1, none⟩) hab).trans g1
          have fj := q2.frozen j
          clear hb5 q1 q2
          by_cases hm : hi < 255
          all_goals
            by_cases hj : (j : Int) ≤ 255 ∧ (j : Int) ≤ hi
            · obtain ⟨hja, hjb⟩ := hj
              have gj := Q2.out.cell j
              rw [b256_at _ _ (by omega)] at gj
              go_wp2
              go_roundw
              case rel =>
                refine ⟨j + 1, by omega, by omega, by go_num, HB5.out.setCell (p := ⟨w.heap.size + 1, j, none⟩) (by show _ ≤ w.heap.size + 1; omega) _, Blk.far Q1.out (by simp) _, ?_, fun _ => by omega⟩
                have h5 := Q2.out.set_ j (.bool true)
                rw [b256_set _ _ _ (by omega), b256_congr (fun n _ => part_next _ _ _ hj1 n)] at h5
                exact h5
              case measure => simp [intOf]; omega
            · go_wp2
              go_roundw
              case rel =>
                refine ⟨k + 1, by omega, by go_num, HB5.out, Q1.out, ?_⟩
                have hh : ∀ n : Nat, n < 256 → part (Sn.setOf (l.take k)) lo' j n = Sn.setOf (l.take (k + 1)) n := fun n hn => by
                  rw [HS.out n, part]
                  congr 1
                  have e1 := HL.out n
                  have e2 := hq.out
                  rw [Bool.eq_iff_iff]
                  simp only [Bool.and_eq_true, decide_eq_true_eq]
                  omega
                rw [← b256_congr hh]
                exact Q2.out
              case measure => simp [intOf]; omega
    · obtain rfl : k = n := by omega
      have ht : l.take k = l := List.take_of_length_le (by omega)
      rw [ht] at hblk
      have HK := Lib.hid hblk
      clear hR hblk hz2 ht hl
      go_wp2_with (first
        | (refine wpList_load_row rfl 57 _ rfl (w.heap.size + 1) rfl 57 _ _ _ HK.out Tryd.underlying57 rfl (by rw [b256_size]; exact HI.out) ?_)
        | (refine wpList_store_blk rfl 57 _ _ rfl w.heap.size 57 _ (b256 (Sn.setOf l)) rfl rfl HZ.out (by rw [b256_size]; exact HI.out) rfl (b256_oneCell _) ?_; intro w4 hk4 hg4))
      refine bodyPost_ret (results_cell_row rfl _ _ w.heap.size 57 _ _ _ rfl hk4 Tryd.underlying57 rfl (by rw [b256_size]; exact HI.out)) rfl ⟨rfl, HB.out.trans (grown_below hg4 HB.out.size (fun k hk => by cases hk; exact Nat.le_refl _))⟩

theorem ext_len (l : List Sn.Sp) (x : Int) : (Sn.ext l x).length = l.length := by
  rcases List.eq_nil_or_concat l with rfl | ⟨r, s, rfl⟩
  · rfl
  · rw [List.concat_eq_append, Sn.ext_snoc]; simp
theorem sv_ext (l : List Sn.Sp) (x : Int) (h : l ≠ []) : sv (Sn.ext l x) = (sv l).set ((l.length - 1) * 2 + 1) (.int .i64 x) := by
  rcases List.eq_nil_or_concat l with rfl | ⟨r, s, rfl⟩
  · exact absurd rfl h
  · rw [List.concat_eq_append, Sn.ext_snoc, sv_app, sv_app, List.length_append, List.length_singleton, Nat.add_sub_cancel, List.set_append_right _ _ (by rw [sv_len]; omega), sv_len, Nat.add_sub_cancel_left]
    rfl
theorem ofTo_len (p : Nat → Bool) : ∀ k, (Sn.ofTo p k).length ≤ k
  | 0 => by simp [Sn.ofTo]
  | k + 1 => by
    have := ofTo_len p k
    rw [Sn.ofTo]
    split
    · split
      · rw [ext_len]; omega
      · simp; omega
    · omega
theorem ofTo_hit (p : Nat → Bool) (k : Nat) (h : p k = true) (h2 : ¬ (k ≠ 0 ∧ p (k - 1) = true)) : Sn.ofTo p (k + 1) = Sn.ofTo p k ++ [((k : Int), (k : Int))] := by rw [Sn.ofTo, if_pos h, if_neg h2]
theorem ofTo_ext (p : Nat → Bool) (k : Nat) (h : p k = true) (h2 : k ≠ 0 ∧ p (k - 1) = true) : Sn.ofTo p (k + 1) = Sn.ext (Sn.ofTo p k) k := by rw [Sn.ofTo, if_pos h, if_pos h2]
theorem ofTo_miss (p : Nat → Bool) (k : Nat) (h : p k = false) : Sn.ofTo p (k + 1) = Sn.ofTo p k := by rw [Sn.ofTo, if_neg (by simp [h])]

set_option maxHeartbeats 2000000 in
theorem refOfS_any (p : Nat → Bool) (w : World) :
    Calls Tryd.prog 30 #[.agg (b256 p)] w fun e w' => ∃ A' c', e = .returned (.slice A' (Sn.of p).length c') ∧
      w'.ownsRow w.heap.size 37 2 (.slice A' (Sn.of p).length c') (Sn.of p).length (sv (Sn.of p)) ∧ Below w.heap.size w w' := by
  obtain ⟨i0, hi0, hz0, hz1, hz2⟩ := info_parts span_info
  go_enter Tryd.func30, Tryd.ntmps30
  go_wp2
  go_loopw [3, 4] (fun s i wr => ∃ (k m c' : Nat) (A' : Option Addr), k ≤ 256 ∧ i = .int .i64 k ∧ s = .slice A' m c' ∧ m ≤ k ∧ Below w.heap.size w wr ∧ Blk wr w.heap.size 57 (b256 p) ∧
    Hid ((Sn.ofTo p k).length = m) ∧ wr.ownsRow (w.heap.size + 1) 37 2 (.slice A' m c') m (sv (Sn.ofTo p k))) (fun _ i _ => 256 - (intOf i).toNat)
  case atStart => exact ⟨0, 0, 0, none, by omega, rfl, rfl, by omega, (Below.refl _ _).alloc (Nat.le_refl _) _, Blk.new _ _ _, rfl, World.ownsRow_nil _ _ _ _⟩
  case round =>
    obtain ⟨k, m, c', A', hk, rfl, rfl, hm, hb, hblk, hlen, ho⟩ := hrel
    have HO := Lib.hid ho
    have HK := Lib.hid hblk
    have HB := Lib.hid hb
    have hsz := hblk.lt
    clear ho hb
    by_cases hlt : k < 256
    · have gk := hblk.cell k
      rw [b256_at _ _ hlt] at gk
      rcases hp : p k with _ | _
      · have HN := Lib.hid (ofTo_miss p k hp)
        rw [hp] at gk
        clear hblk hp
        go_wp2
        go_roundw
        case rel => exact ⟨k + 1, m, c', A', by omega, by go_num, rfl, by omega, HB.out, HK.out, by show _ = _; rw [HN.out, hlen.out], by rw [HN.out]; exact HO.out⟩
        case measure => simp [intOf]; omega
      · rw [hp] at gk
        by_cases hext : k ≠ 0 ∧ p (k - 1) = true
        · have hn1 : Sn.ofTo p k ≠ [] := (Sn.ofTo_ok p k hk).2.2.2 hext
          have hm0 : 0 < m := by rw [← hlen.out]; exact List.length_pos_iff.2 hn1
          have HN := Lib.hid (ofTo_ext p k hp hext)
          have HX := Lib.hid (sv_ext (Sn.ofTo p k) k hn1)
          obtain ⟨hk0, hp1⟩ := hext
          have gk1 := hblk.cell (k - 1)
          rw [b256_at _ _ (by omega), hp1] at gk1
          obtain ⟨j, hj⟩ : ∃ j, k = j + 1 := ⟨k - 1, by omega⟩
          subst hj
          rw [Nat.add_sub_cancel] at gk1
          obtain ⟨i, rfl⟩ : ∃ i, m = i + 1 := ⟨m - 1, by omega⟩
          obtain ⟨g, cap, hv, hbg, hlg⟩ := HO.out.form (by omega)
          obtain ⟨rfl, rfl⟩ : A' = some ⟨g, 0, none⟩ ∧ c' = cap := by injection hv with a1 a2 a3; exact ⟨a1, a3⟩
          have fz := HO.out.frozenAt (i * 2 + 1)
          have hcl := HO.out.cellAt (i * 2 + 1) (by have := HO.out.1; omega)
          obtain ⟨u, hu⟩ : ∃ u, (sv (Sn.ofTo p (j + 1)))[i * 2 + 1]? = some u := ⟨_, List.getElem?_eq_getElem (by have := HO.out.1; omega)⟩
          rw [hu] at hcl
          have e1 : (((j + 1 : Nat) : Int) - 1) = (j : Int) := by omega
          have e2 : (((i + 1 : Nat) : Int) - 1) = (i : Int) := by omega
          have hst := HO.out.stored (i * 2 + 1) (.int .i64 ((j + 1 : Nat) : Int))
          have HST := Lib.hid hst
          clear hblk hp hp1 hv hu hst
          go_wp2
          go_roundw
          case rel =>
            refine ⟨j + 1 + 1, i + 1, c', some ⟨g, 0, none⟩, by omega, by go_num, rfl, by omega, HB.out.setCell (p := ⟨g, i * 2 + 1, none⟩) (by show _ ≤ g; omega) _, Blk.far HK.out (by show _ ≠ g; omega) _, ?_, ?_⟩
            · show _ = _
              rw [HN.out, ext_len, hlen.out]
            · rw [HN.out, HX.out, hlen.out, Nat.add_sub_cancel]
              exact HST.out.1
          case measure => simp [intOf]; omega
        · have HN := Lib.hid (ofTo_hit p k hp hext)
          have h63 : m + 1 ≤ maxLen := by unfold maxLen; omega
          have h1max : 1 ≤ maxLen := by unfold maxLen; omega
          by_cases hk0 : k = 0
          · subst hk0
            clear hblk hp hext
            go_wp2_with (at_builtin; go_must (refine wpList_append_rd _ rfl (.tmp 28) (.tmp 32) _ rfl (w.heap.size + 1) 37 i0 _ 2 16 Tryd.underlying23 hi0 hz0 hz1 hz2 rfl (by decide) (.slice A' m c') m _ rfl (HO.out.alloc _) (wr.heap.size + 1) (some ⟨wr.heap.size, 0, none⟩) 1 1 [.int .i64 ((0 : Nat) : Int), .int .i64 ((0 : Nat) : Int)] rfl (Rd.new wr _ 2 1 #[.int .i64 ((0 : Nat) : Int), .int .i64 ((0 : Nat) : Int)] rfl h1max) (sv_oneCell [(((0 : Nat) : Int), ((0 : Nat) : Int))]) h63 (by omega) (by simp; omega) ?_); intro A3 c3 w3 ho3 hg3 hat3)
            go_roundw
            case rel =>
              refine ⟨0 + 1, m + 1, c3, A3, by omega, by go_num, rfl, by omega, (HB.out.alloc (by omega) _).trans (grown_below hg3 (by simp; omega) (fun g hg => by have := own_lt HO.out g hg; omega)), (HK.out.alloc _).grown hg3 (fun e => by have := own_lt HO.out _ e.symm; omega), ?_, ?_⟩
              · show _ = _
                rw [HN.out, List.length_append, hlen.out]; rfl
              · rw [HN.out, sv_app]
                exact ho3
            case measure => simp [intOf]
          · have hp1 : p (k - 1) = false := by
              rcases hh : p (k - 1) with _ | _
              · rfl
              · exact absurd ⟨hk0, hh⟩ hext
            have gk1 := hblk.cell (k - 1)
            rw [b256_at _ _ (by omega), hp1] at gk1
            obtain ⟨j, hj⟩ : ∃ j, k = j + 1 := ⟨k - 1, by omega⟩
            subst hj
            rw [Nat.add_sub_cancel] at gk1
            have e1 : (((j + 1 : Nat) : Int) - 1) = (j : Int) := by omega
            clear hblk hp hp1 hext
            go_wp2_with (at_builtin; go_must (refine wpList_append_rd _ rfl (.tmp 28) (.tmp 32) _ rfl (w.heap.size + 1) 37 i0 _ 2 16 Tryd.underlying23 hi0 hz0 hz1 hz2 rfl (by decide) (.slice A' m c') m _ rfl (HO.out.alloc _) (wr.heap.size + 1) (some ⟨wr.heap.size, 0, none⟩) 1 1 [.int .i64 ((j + 1 : Nat) : Int), .int .i64 ((j + 1 : Nat) : Int)] rfl (Rd.new wr _ 2 1 #[.int .i64 ((j + 1 : Nat) : Int), .int .i64 ((j + 1 : Nat) : Int)] rfl h1max) (sv_oneCell [(((j + 1 : Nat) : Int), ((j + 1 : Nat) : Int))]) h63 (by omega) (by simp; omega) ?_); intro A3 c3 w3 ho3 hg3 hat3)
            go_roundw
            case rel =>
              refine ⟨j + 1 + 1, m + 1, c3, A3, by omega, by go_num, rfl, by omega, (HB.out.alloc (by omega) _).trans (grown_below hg3 (by simp; omega) (fun g hg => by have := own_lt HO.out g hg; omega)), (HK.out.alloc _).grown hg3 (fun e => by have := own_lt HO.out _ e.symm; omega), ?_, ?_⟩
              · show _ = _
                rw [HN.out, List.length_append, hlen.out]; rfl
              · rw [HN.out, sv_app]
                exact ho3
            case measure => simp [intOf]; omega
    · obtain rfl : k = 256 := by omega
      clear hblk
      go_wp2
      go_ret
      have hl : (Sn.of p).length = m := hlen.out
      exact ⟨A', c', by rw [hl]; rfl, by rw [hl]; exact own_less HO.out (by omega), HB.out⟩
end Go.Proofs.YtnibkniggiokkaaDoor
