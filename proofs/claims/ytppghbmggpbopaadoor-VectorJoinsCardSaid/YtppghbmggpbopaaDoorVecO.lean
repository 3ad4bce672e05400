/- Walks over vector.Meet: a range over an iterator in a plain loop; its body writes what the iterator reads. -/
import Derived.Test.YtppghbmggpbopaaDoorVecN
import Derived.Shelf.RegionOpen
namespace Go.Proofs.YtppghbmggpbopaaDoor
open Go.RowKit Go.Shelf
set_option maxRecDepth 100000
attribute [local go_sem] Oper.semAt_some

theorem meet_nil (w : World) : Calls Tryd.prog 18 #[.slice none 0 0] w fun e w' => e = .returned (.slice none 0 0) ∧ w = w' := by
  refine (callsIn_wide (n := 3)).1 ?_
  refine callsIn_of_wp_marks Tryd.func18 rfl trivial ?_ rfl
  simp only [Tryd.ntmps18, List.size_toArray, List.length_cons, List.length_nil, Nat.reduceAdd, Nat.reduceSub, Array.replicate_succ, Array.replicate_zero, List.push_toArray, List.append_toArray, List.nil_append, List.cons_append]
  gi_wp2
  exact ⟨_, results_tmp rfl _ _ _, rfl, rfl⟩
theorem meet_zero (a : Addr) (c : Nat) (w : World) : Calls Tryd.prog 18 #[.slice (some a) 0 c] w fun e w' => e = .returned (.slice none 0 0) ∧ w = w' := by
  refine (callsIn_wide (n := 3)).1 ?_
  refine callsIn_of_wp_marks Tryd.func18 rfl trivial ?_ rfl
  simp only [Tryd.ntmps18, List.size_toArray, List.length_cons, List.length_nil, Nat.reduceAdd, Nat.reduceSub, Array.replicate_succ, Array.replicate_zero, List.push_toArray, List.append_toArray, List.nil_append, List.cons_append]
  gi_wp2
  exact ⟨_, results_tmp rfl _ _ _, rfl, rfl⟩

theorem RdL.from_one {w : World} {B n c : Nat} {A : Option Addr} {vs : List (List Vc.St)} (h : RdL w B A n c vs) (hn : 0 < n) : RdL w B (cutAt 1 A c 1) (n - 1) (c - 1) (vs.drop 1) := by
  have h1 := h.len
  have h2 := h.cap
  refine ⟨by rw [List.length_drop]; omega, by omega, by have := h.max; omega, fun hA => ?_, fun k hk => ?_⟩
  · unfold cutAt at hA
    split at hA
    · omega
    · have := h.nil (by simpa using hA); omega
  · rw [List.length_drop] at hk
    obtain ⟨b, o, Ak, nk, ck, e, hb, hc, hl, hr⟩ := h.at_ (k + 1) (by omega)
    refine ⟨b, o + 1, Ak, nk, ck, ?_, hb, ?_, ?_, ?_⟩
    · unfold cutAt
      rw [if_neg (by omega), e]
      rfl
    · rw [show o + 1 + k = o + (k + 1) by omega]; exact hc
    · rw [List.getElem_drop]; simp only [Nat.add_comm 1 k]; exact hl
    · rw [List.getElem_drop]; simp only [Nat.add_comm 1 k]; exact hr

theorem Marks.drew {n₀ : Nat} {w : World} {ds : List Deferred} (h : Marks n₀ w ds) : Marks n₀ w.drew ds := Marks.keep (w := w) (w' := w.drew) (fun _ hD _ => hD) h
theorem Good.drew {G Bx : Nat} {val : Nat → Int → Prop} {W : World} (h : Good G Bx val W) : Good G Bx val W.drew := ⟨h.tab, h.box, h.cnts⟩
theorem Good.setG {G Bx : Nat} {W : World} (h : Good G Bx (fun _ _ => True) W) {m : Nat} {z : Int} (hm : m < 64) (hB : Bx ≠ G) (h0 : 0 ≠ G) : Good G Bx (fun _ _ => True) (W.setCell ⟨G, m, none⟩ (.int .i64 z)) := by
  obtain ⟨f, c, hf, _⟩ := h.cnts
  refine ⟨fun j hj => ?_, h.box.far (p := ⟨G, m, none⟩) hB _, upd f m z, c, ?_, fun _ _ => trivial⟩
  · rw [World.cell?_setCell_other W ⟨G, m, none⟩ _ _ (fun e => h0 (by injection e with e; exact e.symm))]
    exact h.tab j hj
  · have := hf.set_ m (.int .i64 z)
    rwa [cc_set _ _ _ _ hm] at this

/-- In a round an operation that defers nothing is carried out as anywhere. -/
theorem wpAnyIn_round {F : Fence} {n : Nat} {P : Program} {ops : Array Oper} {Q : Exit → Act → World → Prop} {md : Region.Mode} {l : Nat} (hro : F.round = none) (hd : ops.all (fun o => match o.op with | .defer _ => false | _ => true) = true) :
    ∀ (fuel : Nat) (listed : Array Bool) (a : Act) (w : World), wpAnyIn F n P md ops Q fuel listed a w → wpAnyIn (F.inRound l) n P md ops Q fuel listed a w
  | 0, _, _, _, h => h
  | fuel + 1, listed, a, w, h => by
    refine ⟨h.1, fun i hi => ?_⟩
    have h2 := wpOpIn_mono (fun a w => wpAnyIn_round (l := l) hro hd fuel (listed.setIfInBounds i true) a w) (h.2 i hi)
    unfold wpOpIn at h2 ⊢
    split
    · rename_i e
      rw [e] at h2
      exact h2
    · rename_i o e
      rw [e] at h2
      simp only at h2 ⊢
      have hdo : ∀ c, o.op ≠ .defer c := fun c hc => by
        have := Array.all_eq_true'.1 hd o (Array.mem_of_getElem? e)
        rw [hc] at this
        cases this
      split
      · rename_i hw
        rw [if_pos hw] at h2
        refine ⟨h2.1, ?_⟩
        have h3 := h2.2
        rw [hro, Oper.semAt_none] at h3
        rw [Fence.inRound_round, Oper.semAt_some _ _ _ hdo]
        exact h3
      · rename_i hw
        rw [if_neg hw] at h2
        exact h2

/-- The lesser counts of the nodes that have come. -/
def ml (f g : Nat → Int) (l : List Nat) : Nat → Int := fun j => if j ∈ l then min (f j) (g j) else f j
theorem ml_nil (f g : Nat → Int) : ml f g [] = f := by funext j; simp [ml]
theorem ml_snoc (f g : Nat → Int) (l : List Nat) (m : Nat) (x : Int) (hx : x = min (ml f g l m) (g m)) : ∀ j, upd (ml f g l) m x j = ml f g (l ++ [m]) j := fun j => by
  subst hx
  unfold upd ml
  by_cases e : j = m
  · subst e
    simp only [if_true, List.mem_append, List.mem_singleton, or_true]
    split <;> omega
  · simp [e]

set_option maxHeartbeats 4000000 in
theorem meet_ne (A : Option Addr) (n c : Nat) (vs : List (List Vc.St)) (w : World) (hT : Tab w) (hR : RdL w w.heap.size A n c vs) (hn : 0 < n) :
    Calls Tryd.prog 18 #[.slice A n c] w fun e w' => ∃ A' c', e = .returned (.slice A' (vec (mt vs)).length c') ∧
      w'.ownsRow w.heap.size 29 2 (.slice A' (vec (mt vs)).length c') (vec (mt vs)).length (sv (vec (mt vs))) ∧ Below w.heap.size w w' := by
  have h0lt : 0 < w.heap.size := World.block_lt_of_cell? _ _ (hT 0 (by decide))
  obtain ⟨hz, hi⟩ := zero_of_info zero_counts
  have HI := Lib.hid hi
  clear hi
  have hlen := hR.len
  have hcap := hR.cap
  have hmax : n ≤ 9223372036854775807 := by have h1 := hR.cap; have h2 := hR.max; unfold maxLen at h2; omega
  have hcut := fun W => run_from (P := Tryd.prog) W 35 22 1 Tryd.underlying35 (fun w => by simp [go_sem]) A n c .i64 1 1 rfl hn
  obtain ⟨b, o, A0, n0, c0, rfl, hbB, hcell, hvl, hR0⟩ := hR.at_ 0 (by omega)
  rw [Nat.add_zero] at hcell
  have H0 := Lib.hid (read_any A0 n0 c0 (vs[0]'(by omega)) w hvl hR0)
  have HR1 := Lib.hid (hR.from_one hn)
  obtain ⟨A1, hA1⟩ : ∃ A1, A1 = cutAt 1 (some ⟨b, o, none⟩) c 1 := ⟨_, rfl⟩
  rw [← hA1] at HR1
  simp only [← hA1] at hcut
  clear hA1
  obtain ⟨v0, hv0⟩ : ∃ v0, v0 = vs[0]'(by omega) := ⟨_, rfl⟩
  rw [← hv0] at H0
  obtain ⟨f0, hf0⟩ : ∃ f, f = Vc.cnt v0 := ⟨_, rfl⟩
  rw [← hf0] at H0
  obtain ⟨h0, hh0⟩ : ∃ h, h = has_ f0 := ⟨_, rfl⟩
  rw [← hh0] at H0
  have HV := Lib.hid hv0
  have HF := Lib.hid hf0
  have HH := Lib.hid hh0
  clear hR hR0 hvl hv0 hf0 hh0
  refine (callsIn_wide (n := 3)).1 ?_
  refine callsIn_of_wp_marks Tryd.func18 rfl trivial ?_ rfl
  simp only [Tryd.ntmps18, List.size_toArray, List.length_cons, List.length_nil, Nat.reduceAdd, Nat.reduceSub, Array.replicate_succ, Array.replicate_zero, List.push_toArray, List.append_toArray, List.nil_append, List.cons_append]
  gi_wp2_with fail
  refine ⟨trivial, ?_⟩
  refine (callsIn_wide.2 H0.out).mono ?_
  rintro e w1 ⟨rfl, hb1⟩
  have hs1 := hb1.size
  have HNw := Lib.hid (Blk.new w1 48 (cc (fun _ => 0) 0))
  clear H0
  gi_wp2_with (refine wpListIn_store_blk rfl 48 _ _ rfl w1.heap.size 48 _ (cc f0 h0) rfl rfl HNw.out (by rw [cc_size]; exact HI.out) rfl (cc_oneCell _ _) ?_; intro w2 hk2 hg2)
  have hb2 : Below w.heap.size w w2 := (hb1.alloc hs1 _).trans (grown_below hg2 (by simp; omega) (fun k hk => by cases hk; omega))
  have hlt1 : w1.heap.size < w2.heap.size := hk2.lt
  clear hg2 HNw hb1 hcell hcut
  refine wpIn_loop (fun a' w' => ∃ (ds : List Deferred) (i u5 u6 u19 u20 u21 u22 u23 u24 u25 u26 u27 u28 u29 u30 u45 : Value), (∃ (k : Nat) (F : Nat → Int), k ≤ n - 1 ∧ i = .int .i64 k ∧ Below w.heap.size w w' ∧ Blk w' w1.heap.size 48 (cc F (Vc.msk (pos (mt (vs.take (k + 1)))))) ∧ (∀ j, j < 64 → pos (mt (vs.take (k + 1))) j = true → F j = mt (vs.take (k + 1)) j) ∧ Marks w.heap.size w' ds) ∧
    a' = { tmps := #[.slice (some ⟨b, o, none⟩) n c, undef, .slice none 0 0, .pointer (some ⟨w1.heap.size, 0, none⟩), undef, u5, u6, undef, .slice (some ⟨b, o, none⟩) n c, .int .i64 (n : Int), .bool false, .slice (some ⟨b, o, none⟩) n c, .pointer (some ⟨b, o, none⟩), .slice A0 n0 c0, .agg (cc f0 h0), .slice (some ⟨b, o, none⟩) n c, .slice A1 (n - 1) (c - 1), .int .i64 ((n - 1 : Nat) : Int), i, u19, u20, u21, u22, u23, u24, u25, u26, u27, u28, u29, u30, undef, undef, undef, undef, undef, undef, undef, undef, undef, undef, undef, undef, undef, undef, u45, undef], defers := ds })
    (fun a' _ => n - 1 - (intOf (a'.tmps.getD 18 undef)).toNat) ?atStart ?round
  case atStart =>
    (repeat apply Exists.intro)
    refine ⟨?_, rfl⟩
    have e : mt (vs.take (0 + 1)) = f0 := by
      rw [HF.out, HV.out]
      funext j
      cases vs with
      | nil => simp at hlen; omega
      | cons v r => simp [mt]
    exact ⟨0, f0, by omega, rfl, hb2, by rw [e, ← has_pos, ← HH.out]; exact hk2, by rw [e]; intro j _ _; rfl, trivial⟩
  case round =>
    intro a' wr hinv
    obtain ⟨ds, i, u5, u6, u19, u20, u21, u22, u23, u24, u25, u26, u27, u28, u29, u30, u45, ⟨k, F, hk, rfl, hb, hblk, hFM, hM⟩, rfl⟩ := hinv
    dsimp only
    by_cases hlt : k < n - 1
    · have hkv : k < (vs.drop 1).length := by rw [List.length_drop]; omega
      obtain ⟨b1, o1, Ak, nk, ck, hA1, hbB1, hcell, hvl, hRk⟩ := (HR1.out.below hb).at_ k hkv
      have hsz := hblk.lt
      have hTr := hT.below hb
      have H1 := Lib.hid (read_any Ak nk ck (vs.drop 1)[k] wr hvl (hRk.more hb.size))
      have HGN := Lib.hid (Vc.cnt_nonneg (vs.drop 1)[k])
      obtain ⟨g, hg⟩ : ∃ g, g = Vc.cnt (vs.drop 1)[k] := ⟨_, rfl⟩
      rw [← hg] at H1 HGN
      obtain ⟨hh, hhe⟩ : ∃ hh, hh = has_ g := ⟨_, rfl⟩
      rw [← hhe] at H1
      have HHE := Lib.hid hhe
      have HJ := Lib.hid (show ∀ j, mt (vs.take (k + 1 + 1)) j = min (mt (vs.take (k + 1)) j) (g j) by
        intro j
        rw [take_nextL vs (k + 1) (by omega), mt_snoc _ _ _ (by intro e; have := congrArg List.length e; rw [List.length_take] at this; simp only [List.length_nil] at this; omega), hg, List.getElem_drop]
        simp only [Nat.add_comm 1 k])
      have HFM := Lib.hid hFM
      obtain ⟨M, hMe⟩ : ∃ M, M = mt (vs.take (k + 1)) := ⟨_, rfl⟩
      rw [← hMe] at hblk HFM HJ
      obtain ⟨M', hMe'⟩ : ∃ M, M = mt (vs.take (k + 1 + 1)) := ⟨_, rfl⟩
      rw [← hMe'] at HJ
      obtain ⟨hm, hhm⟩ : ∃ hm, hm = Vc.msk (pos M) := ⟨_, rfl⟩
      rw [← hhm] at hblk
      have HHM := Lib.hid hhm
      have HME := Lib.hid hMe'
      subst hA1
      clear hRk hvl hg hMe hhe hFM hMe' hhm
      gi_wp2_with fail
      refine ⟨trivial, ?_⟩
      refine (callsIn_wide.2 H1.out).mono ?_
      rintro e w3 ⟨rfl, hb3⟩
      have hbw3 := below_then hb (Nat.le_refl _) hb3
      have bC3 := hblk.go hb3
      have hM3 := hM.below hb3
      have hT3 := hTr.below hb3
      have hs3 := hb3.size
      have HNd := Lib.hid (Blk.new w3 48 (cc (fun _ => 0) 0))
      clear H1 hb hb3 hblk hM hTr
      have hhl : hh < 18446744073709551616 := by rw [HHE.out]; exact Vc.msk_lt _
      have hml : hm < 18446744073709551616 := by rw [HHM.out]; exact Vc.msk_lt _
      have hand : bits BinOp.and .u64 (hm : Int) (hh : Int) = ((hm &&& hh : Nat) : Int) := bits_and_u64_nat hm hh hml hhl
      clear hhl hml
      gi_wp2_with (first
        | (refine wpListIn_store_blk rfl 48 _ _ rfl w3.heap.size 48 _ (cc g hh) rfl rfl HNd.out (by rw [cc_size]; exact HI.out) rfl (cc_oneCell _ _) ?_; intro w4 hk4 hg4; have bC4 := (bC3.alloc (.cells (cc (fun _ => 0) 0) 48)).grown hg4 (by simp; omega); have q1 := bC4.cell 64; rw [cc_has] at q1; have q2 := hk4.cell 64; rw [cc_has] at q2; have q3 := bC4.frozen 64; have HC4 := Lib.hid bC4; have HK4 := Lib.hid hk4; have HG4 := Lib.hid hg4; clear bC4 hk4 hg4)
        | (refine ⟨trivial, ?_⟩; gi_at_call 33; refine (callsIn_wide.2 (each_any _ _)).mono ?_; rintro e w5 ⟨rfl, rfl⟩))
      have hhq : hm &&& hh = Vc.msk (pos M') := by
        rw [HHM.out, HHE.out, has_pos, Vc.msk_and]
        refine Vc.msk_congr fun j _ => ?_
        have := HJ.out j
        unfold pos
        by_cases h1 : 0 < M j <;> by_cases h2 : 0 < g j <;> simp [h1, h2] <;> omega
      obtain ⟨hq, hhqe⟩ : ∃ hq, hq = hm &&& hh := ⟨_, rfl⟩
      rw [← hhqe] at hhq ⊢
      have hb4 : Below w.heap.size w w4 := (hbw3.alloc (by omega) _).trans (grown_below HG4.out (by simp; omega) (fun k hk => by cases hk; omega))
      have hM4 : Marks w.heap.size w4 ds := (hM3.below ((Below.refl _ w3).alloc (Nat.le_refl _) (.cells (cc (fun _ => 0) 0) 48))).grown HG4.out (fun r e => by cases e; rw [show (w3.alloc _).heap[w3.heap.size]? = _ from HNd.out]; intro h; cases h)
      have hlt4 := HK4.out.lt
      obtain ⟨W5, hW5⟩ : ∃ W5, W5 = (w4.setCell ⟨w1.heap.size, 64, none⟩ (.int .u64 (hq : Int))).alloc (.cells #[.pointer (some ⟨w1.heap.size, 0, none⟩)] 58) := ⟨_, rfl⟩
      have bG5 : Blk W5 w1.heap.size 48 (cc F hq) := by
        rw [hW5]; have := (HC4.out.set_ 64 (.int .u64 (hq : Int))).alloc (.cells #[.pointer (some ⟨w1.heap.size, 0, none⟩)] 58); rw [cc_sethas] at this; exact this
      have bD5 : Blk W5 w3.heap.size 48 (cc g hh) := by
        rw [hW5]; exact (HK4.out.far (p := ⟨w1.heap.size, 64, none⟩) (by simp; omega) _).alloc _
      have bB5 : Blk W5 w4.heap.size 58 #[.pointer (some ⟨w1.heap.size, 0, none⟩)] := by
        rw [hW5]; have := Blk.new (w4.setCell ⟨w1.heap.size, 64, none⟩ (.int .u64 (hq : Int))) 58 #[.pointer (some ⟨w1.heap.size, 0, none⟩)]; rw [World.size_setCell] at this; exact this
      have hb5 : Below w.heap.size w W5 := by
        rw [hW5]; exact (hb4.setCell (p := ⟨w1.heap.size, 64, none⟩) (by simp; omega) _).alloc (by rw [World.size_setCell]; exact hb4.size) _
      have hM5 : Marks w.heap.size W5 ds := by
        rw [hW5]; exact (hM4.set_ HC4.out 64 _).below ((Below.refl _ _).alloc (Nat.le_refl _) _)
      have hT5 : Tab W5 := hT.below hb5
      have hs5 : w4.heap.size < W5.heap.size := bB5.lt
      rw [← hW5]
      clear hW5 hb4 hM4 HC4 HK4 HG4 HNd q1 q2 q3 hand hM3 hbw3 bC3 hT3
      have hGood : Good w1.heap.size w4.heap.size (fun _ _ => True) W5 := ⟨hT5, bB5, F, _, bG5, fun _ _ => trivial⟩
      have hh5 := bG5.cell 64
      rw [cc_has, hhq] at hh5
      have HQ := Lib.hid hhq
      clear hhq hhqe
      refine wpIn_rangeFunc_ownG rfl (by omega) (gf := 39) (lb := #[.pointer (some ⟨w4.heap.size, 0, none⟩)]) rfl trivial (enters_of Tryd.func39 (by kernel_rfl) rfl)
        (each_stops (3 - 1) (by omega) w1.heap.size w4.heap.size (pos M') (fun _ _ => True) _ hGood hh5) good_t (good_b bG5.lt bB5.lt (by omega)) (Below.refl _ _) (fun _ => rfl)
        (fun pre W => Blk W w1.heap.size 48 (cc (ml F g (nds pre)) hq) ∧ Blk W w3.heap.size 48 (cc g hh) ∧ Below w.heap.size w W ∧ Marks w.heap.size W ds)
        (fun _ _ _ => False)
        (OwnFrom.and (Own.from (blk_own w1.heap.size 48 (fun pre => cc (ml F g (nds pre)) hq)) _) (OwnFrom.and (Own.from (blk_own w3.heap.size 48 (fun _ => cc g hh)) _) (OwnFrom.and (ownFrom_below (Nat.le_refl _) (by omega)) (marks_ownFrom hM5 (Nat.le_refl _)))))
        (fun _ _ _ _ _ hs _ _ => hs)
        ⟨by rw [show nds ([] : List (Ev (pos M') fun _ _ => True)) = [] from rfl, ml_nil]; exact bG5, bD5, hb5, hM5⟩
        (fun x => { tmps := #[.slice (some ⟨b, o, none⟩) n c, undef, .slice none 0 0, .pointer (some ⟨w1.heap.size, 0, none⟩), undef, .slice Ak nk ck, .pointer (some ⟨w3.heap.size, 0, none⟩), .int .i64 (x.1.1 : Int), .slice (some ⟨b, o, none⟩) n c, .int .i64 (n : Int), .bool false, .slice (some ⟨b, o, none⟩) n c, .pointer (some ⟨b, o, none⟩), .slice A0 n0 c0, .agg (cc f0 h0), .slice (some ⟨b, o, none⟩) n c, .slice (some ⟨b1, o1, none⟩) (n - 1) (c - 1), .int .i64 ((n - 1 : Nat) : Int), .int .i64 (k : Int), .bool true, .pointer (some ⟨b1, o1 + k, none⟩), .slice Ak nk ck, .slice Ak nk ck, .agg (cc g hh), .pointer (some ⟨w1.heap.size, 64, none⟩), .int .u64 (hm : Int), .pointer (some ⟨w3.heap.size, 64, none⟩), .int .u64 (hh : Int), .int .u64 (hq : Int), .pointer (some ⟨w1.heap.size, 64, none⟩), .func (.func 39) #[] #[.pointer (some ⟨w4.heap.size, 0, none⟩)], .int .i64 (x.1.1 : Int), .int .i64 x.1.2, undef, undef, undef, undef, undef, undef, undef, undef, undef, undef, undef, undef, u45, undef], defers := [] }) ?assign ?body ?done ?stop
      case assign =>
        intro l x W K hK
        dsimp only [evs]
        gi_wp2
        exact hK
      case body =>
        rintro l pre x W ⟨hC, hD, hB, hMW⟩ hlt2
        have hj := x.2.1
        obtain ⟨fp, hfp⟩ : ∃ fp, fp = ml F g (nds pre) := ⟨_, rfl⟩
        rw [← hfp] at hC
        have g1 := hC.cell x.1.1
        rw [cc_at _ _ _ hj] at g1
        have f1 := hC.frozen x.1.1
        have g2 := hD.cell x.1.1
        rw [cc_at _ _ _ hj] at g2
        obtain ⟨y, hy⟩ : ∃ y, y = fp x.1.1 := ⟨_, rfl⟩
        rw [← hy] at g1
        obtain ⟨z, hz'⟩ : ∃ z, z = g x.1.1 := ⟨_, rfl⟩
        rw [← hz'] at g2
        have HX := Lib.hid (show min y z = min (ml F g (nds pre) x.1.1) (g x.1.1) by rw [hy, hfp, hz'])
        have HC := Lib.hid hC
        have HD := Lib.hid hD
        have HF5 := Lib.hid hfp
        clear hfp hy hz' hC hD
        gi_wp2
        refine wpIn_region_any (by kernel_rfl) (wpAnyIn_round rfl (by kernel_rfl) _ _ _ _ ?_)
        change wpAnyIn _ _ _ _ _ _ _ _ _ (World.drew _)
        refine wpAnyIn_take (i := 0) (v := .int .i64 (x.1.1 : Int)) rfl rfl (by kernel_rfl) (by kernel_rfl) (by kernel_rfl) (fun _ _ _ h => h) ⟨Or.inl ⟨by rfl, fun w => ?_⟩, fun _ => rfl⟩ ?_
        · go_simp
        refine wpAnyIn_take (i := 1) (v := .int .i64 (x.1.1 : Int)) rfl rfl (by kernel_rfl) (by kernel_rfl) (by kernel_rfl) (fun _ _ _ h => h) ⟨Or.inl ⟨by rfl, fun w => ?_⟩, fun _ => rfl⟩ ?_
        · go_simp
        refine wpAnyIn_take (i := 2) (v := .pointer (some ⟨w1.heap.size, 0, none⟩)) rfl rfl (by kernel_rfl) (by kernel_rfl) (by kernel_rfl) (fun _ _ _ h => h) ⟨Or.inl ⟨by rfl, fun w => ?_⟩, fun _ => rfl⟩ ?_
        · go_simp
        refine wpAnyIn_take (i := 5) (v := .int .i64 (x.1.1 : Int)) rfl rfl (by kernel_rfl) (by kernel_rfl) (by kernel_rfl) (fun _ _ _ h => h) ⟨Or.inl ⟨by rfl, fun w => ?_⟩, fun _ => rfl⟩ ?_
        · go_simp
        refine wpAnyIn_take (i := 6) (v := .pointer (some ⟨w3.heap.size, 0, none⟩)) rfl rfl (by kernel_rfl) (by kernel_rfl) (by kernel_rfl) (fun _ _ _ h => h) ⟨Or.inl ⟨by rfl, fun w => ?_⟩, fun _ => rfl⟩ ?_
        · go_simp
        refine wpAnyIn_take (i := 10) (v := .pointer (some ⟨w1.heap.size, 0, none⟩)) rfl rfl (by kernel_rfl) (by kernel_rfl) (by kernel_rfl) (fun _ _ _ h => h) ⟨Or.inl ⟨by rfl, fun w => ?_⟩, fun _ => rfl⟩ ?_
        · go_simp
        refine wpAnyIn_take (i := 3) (v := .pointer (some ⟨w1.heap.size, x.1.1, none⟩)) rfl rfl (by kernel_rfl) (by kernel_rfl) (by kernel_rfl) (fun _ _ _ h => h) ⟨Or.inl ⟨by rfl, fun w => ?_⟩, fun _ => rfl⟩ ?_
        · go_simp
          intro h
          omega
        refine wpAnyIn_take (i := 7) (v := .pointer (some ⟨w3.heap.size, x.1.1, none⟩)) rfl rfl (by kernel_rfl) (by kernel_rfl) (by kernel_rfl) (fun _ _ _ h => h) ⟨Or.inl ⟨by rfl, fun w => ?_⟩, fun _ => rfl⟩ ?_
        · go_simp
          intro h
          omega
        have G1 : (World.drew W).cell? ⟨w1.heap.size, x.1.1, none⟩ = some (.int .i64 y) := g1
        have G2 : (World.drew W).cell? ⟨w3.heap.size, x.1.1, none⟩ = some (.int .i64 z) := g2
        have G3 : (World.drew W).frozen? ⟨w1.heap.size, x.1.1, none⟩ = false := f1
        refine wpAnyIn_ready (rs := [4, 8]) (by kernel_rfl) (by simp) ?_
        refine AllReadyIn.cons rfl (fun K hK => ?_) (AllReadyIn.cons rfl (fun K hK => ?_) AllReadyIn.nil)
        · go_simp
          refine hK _ _ ?_
          clear hK K
          refine wpAnyIn_ready (rs := [8]) (by kernel_rfl) (by simp) ?_
          refine AllReadyIn.cons rfl (fun K hK => ?_) AllReadyIn.nil
          go_simp
          refine hK _ _ ?_
          clear hK K
          refine wpAnyIn_ready (rs := [9]) (by kernel_rfl) (by simp) ?_
          refine AllReadyIn.cons rfl (fun K hK => ?_) AllReadyIn.nil
          go_simp
          refine hK _ _ ?_
          clear hK K
          refine wpAnyIn_take (i := 11) (v := .pointer (some ⟨w1.heap.size, x.1.1, none⟩)) rfl rfl (by kernel_rfl) (by kernel_rfl) (by kernel_rfl) (fun _ _ _ h => h) ⟨Or.inl ⟨by rfl, fun w => ?_⟩, fun _ => rfl⟩ ?_
          · go_simp
            intro h
            omega
          refine wpAnyIn_ready (rs := [12]) (by kernel_rfl) (by simp) ?_
          refine AllReadyIn.cons rfl (fun K hK => ?_) AllReadyIn.nil
          go_simp
          refine hK _ _ ?_
          clear hK K
          refine wpAnyIn_done (by kernel_rfl) ?_ _
          simp only [Exit.inBlock]
          refine ⟨((KeepsOthers.setCell _ _ _).trans (KeepsOthers.drew _)).from _, fun hg => (hg.setG hj (by omega) (by omega)).drew, ?_, ?_, ?_, ?_⟩
          · have h5 := HC.out.set_ x.1.1 (.int .i64 (if z < y then z else y))
            rw [cc_set _ _ _ _ hj, HF5.out, cc_congr (fun j _ => ml_snoc F g (nds pre) x.1.1 _ (by rw [← HX.out]; split <;> omega) j), ← nds_snoc] at h5
            exact h5
          · exact HD.out.far (p := ⟨w1.heap.size, x.1.1, none⟩) (by simp; omega) _
          · exact (hB.setCell (p := ⟨w1.heap.size, x.1.1, none⟩) (by simp; omega) _).drew
          · exact (hMW.set_ HC.out x.1.1 (.int .i64 (if z < y then z else y))).drew
        · go_simp
          refine hK _ _ ?_
          clear hK K
          refine wpAnyIn_ready (rs := [4]) (by kernel_rfl) (by simp) ?_
          refine AllReadyIn.cons rfl (fun K hK => ?_) AllReadyIn.nil
          go_simp
          refine hK _ _ ?_
          clear hK K
          refine wpAnyIn_ready (rs := [9]) (by kernel_rfl) (by simp) ?_
          refine AllReadyIn.cons rfl (fun K hK => ?_) AllReadyIn.nil
          go_simp
          refine hK _ _ ?_
          clear hK K
          refine wpAnyIn_take (i := 11) (v := .pointer (some ⟨w1.heap.size, x.1.1, none⟩)) rfl rfl (by kernel_rfl) (by kernel_rfl) (by kernel_rfl) (fun _ _ _ h => h) ⟨Or.inl ⟨by rfl, fun w => ?_⟩, fun _ => rfl⟩ ?_
          · go_simp
            intro h
            omega
          refine wpAnyIn_ready (rs := [12]) (by kernel_rfl) (by simp) ?_
          refine AllReadyIn.cons rfl (fun K hK => ?_) AllReadyIn.nil
          go_simp
          refine hK _ _ ?_
          clear hK K
          refine wpAnyIn_done (by kernel_rfl) ?_ _
          simp only [Exit.inBlock]
          refine ⟨((KeepsOthers.setCell _ _ _).trans (KeepsOthers.drew _)).from _, fun hg => (hg.setG hj (by omega) (by omega)).drew, ?_, ?_, ?_, ?_⟩
          · have h5 := HC.out.set_ x.1.1 (.int .i64 (if z < y then z else y))
            rw [cc_set _ _ _ _ hj, HF5.out, cc_congr (fun j _ => ml_snoc F g (nds pre) x.1.1 _ (by rw [← HX.out]; split <;> omega) j), ← nds_snoc] at h5
            exact h5
          · exact HD.out.far (p := ⟨w1.heap.size, x.1.1, none⟩) (by simp; omega) _
          · exact (hB.setCell (p := ⟨w1.heap.size, x.1.1, none⟩) (by simp; omega) _).drew
          · exact (hMW.set_ HC.out x.1.1 (.int .i64 (if z < y then z else y))).drew
      case done =>
        rintro D ys W hD hys ⟨hC, hDD, hB, hMW⟩ hK
        rw [hys, HQ.out, HME.out] at hC
        have hF2 : ∀ j, j < 64 → pos (mt (vs.take (k + 1 + 1))) j = true → ml F g (Vc.upto (pos (mt (vs.take (k + 1 + 1)))) 64) j = mt (vs.take (k + 1 + 1)) j := by
          intro j hj hp
          have h1 := HJ.out j
          rw [HME.out] at h1
          have h2 : 0 < mt (vs.take (k + 1 + 1)) j := by simpa [pos] using hp
          unfold ml
          rw [if_pos (by simp [Vc.upto, hj, hp]), HFM.out j hj (by simp [pos]; omega)]
          omega
        have hP := hM5.push (w' := W) hK (by omega) hD hMW
        clear hys
        gi_wp2
        refine ⟨?rel, ?measure⟩
        case rel =>
          (repeat apply Exists.intro)
          refine ⟨?_, rfl⟩
          exact ⟨k + 1, _, by omega, by go_num, hB, hC, hF2, hP⟩
        case measure => simp [intOf]; omega
      case stop =>
        rintro D c' pre W _ _ h _
        exact h.elim
    · obtain rfl : k = n - 1 := by omega
      rw [show n - 1 + 1 = n by omega, List.take_of_length_le (by omega)] at hblk hFM
      have hv : vecTo F (pos (mt vs)) 64 = vec (mt vs) := by
        refine List.map_congr_left fun j hj => ?_
        have := Vc.upto_lt hj
        rw [hFM j this.1 this.2]
      have hL0 := list_any w1.heap.size F (pos (mt vs)) wr (hT.below hb) hblk
      rw [hv] at hL0
      have HL := Lib.hid hL0
      clear hL0 hv hFM
      gi_wp2_with (refine ⟨trivial, ?_⟩; gi_at_call 35; refine (callsIn_wide.2 HL.out).mono ?_; rintro e w5 ⟨A', c', rfl, ho, hb1⟩)
      have hM1 := hM.below hb1
      refine leaves_marks (n₀ := w.heap.size) (fun W => W.ownsRow w.heap.size 29 2 (.slice A' (vec (mt vs)).length c') (vec (mt vs)).length (sv (vec (mt vs))) ∧ Below w.heap.size w W)
        (fun W D h hn hK => ⟨ownsRow_putObj h.1 _ hK rfl, h.2.trans ((Below.refl _ W).grown (grownBy_putObj' W D _) h.2.size (fun k e => by cases e; omega))⟩) ?_ ds _ hM1 ⟨own_less ho (hb.size), below_then hb (Nat.le_refl _) hb1⟩
      intro W ⟨h1, h2⟩
      exact ⟨_, results_tmp rfl _ _ _, A', c', rfl, h1, h2⟩
end Go.Proofs.YtppghbmggpbopaaDoor
