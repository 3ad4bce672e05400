/- Walk over the law LogWhole (printed by wip/tools/genLwD.py). -/
import Derived.Test.YtepdcbhapjgijaaDoorLwC
import Derived.Test.YtepdcbhapjgijaaDoorLwA
import Derived.Test.YtepdcbhapjgijaaDoorMLg
namespace Go.Proofs.YtepdcbhapjgijaaDoor
open Go.RowKit Go.Shelf
set_option maxRecDepth 100000
attribute [local go_sem] Oper.semAt_some

theorem goodG_cell {w0 W : World} {Bl Bf : Nat} {v : LV} {su fr : Int} (h : GoodG w0 Bl Bf v su fr W) {p : Addr} (h1 : p.block ≠ Bl) (h2 : p.block ≠ Bf) (h3 : w0.heap.size ≤ p.block) (u : Value) : GoodG w0 Bl Bf v su fr (W.setCell p u) :=
  ⟨h.ol.setCell h3 u, h.bl.far (fun e => h1 e.symm) u, h.bf.far (fun e => h2 e.symm) u, h.gl, h.gf⟩
/-- What is known behind a formed log. -/
theorem lgKnown_q {v : LV} {b q : List Vc.St} {L : List (NV × Nt)} {su : Int} (w : World) (hT : Tab w) (h : LgRd w v b L) (hr : lgR b L su = true) (hq : lgW b (nts L) = some q) :
    Calls Tryd.prog 10 #[.agg (v.val su)] w fun e w' => ∃ K kc, e = .returned (.slice K q.length kc) ∧ Rd w' w'.heap.size 2 K q.length kc (sv q) ∧ Below w.heap.size w w' :=
  (lgKnown_any v b L su w hT h).mono fun e w' hk => by
    have hf : lgF b L su = true := by rw [lgF_R]; exact hr
    have hb : fm (-1) b = true := by
      unfold lgR at hr
      simp only [Bool.and_eq_true] at hr
      exact hr.1
    rcases hk with ⟨_, q', K, kc, h1, h2, h3, h4⟩ | ⟨h1, _⟩
    · rw [vec_one hb, hq] at h1
      obtain rfl := Option.some.inj h1
      exact ⟨K, kc, h2, h3, h4⟩
    · rw [hf] at h1; cases h1
/-- What the loop has come to. -/
def LwAt (u b q : List Vc.St) (L : List (NV × Nt)) (su : Int) (i0 : Nat) (z : List Zn) (cur : List Vc.St) (pre : List EvG) : Prop :=
  saidG pre <+: evG b L su (i0 : Int) → ∃ k, LwOk u k z cur ∧ lgW k ((nts L).drop (i0 + pre.length)) = some q
theorem LwAt.step {u b q : List Vc.St} {L : List (NV × Nt)} {su : Int} {i0 : Nat} {z : List Zn} {cur : List Vc.St} {pre : List EvG} (h : LwAt u b q L su i0 z cur pre) (hev : evG b L su (i0 : Int) = evD i0 ((nts L).drop i0)) (x : EvG) :
    (saidG (pre ++ [x]) <+: evG b L su (i0 : Int) → tkE z cur x.2.2 = 0) ∧ LwAt u b q L su i0 (tkZ' z cur x.2.2) (tkK z cur x.2.2) (pre ++ [x]) := by
  have key : saidG (pre ++ [x]) <+: evG b L su (i0 : Int) → tkE z cur x.2.2 = 0 ∧ ∃ k, LwOk u k (tkZ' z cur x.2.2) (tkK z cur x.2.2) ∧ lgW k ((nts L).drop (i0 + (pre ++ [x]).length)) = some q := fun hp => by
    have h1 : saidG pre <+: evG b L su (i0 : Int) := by
      rw [saidG_snoc] at hp
      exact (List.prefix_append _ _).trans hp
    obtain ⟨k, hk, hq⟩ := h h1
    rw [hev] at hp
    obtain ⟨h2, _⟩ := said_at hp
    rw [List.getElem?_drop] at h2
    have hlt : i0 + pre.length < (nts L).length := by
      rcases Nat.lt_or_ge (i0 + pre.length) (nts L).length with hh | hh
      · exact hh
      · rw [List.getElem?_eq_none hh] at h2; cases h2
    rw [List.getElem?_eq_getElem hlt, Option.some.injEq] at h2
    obtain ⟨h3, h4⟩ := lw_round hlt hq
    rw [h2] at h3 h4
    obtain ⟨h5, h6⟩ := lw_step hk h3
    exact ⟨h5, _, h6, by rw [List.length_append, List.length_singleton, ← Nat.add_assoc]; exact h4⟩
  exact ⟨fun hp => (key hp).1, fun hp => (key hp).2⟩
theorem LwAt.last {u b q : List Vc.St} {L : List (NV × Nt)} {su : Int} {i0 : Nat} {z : List Zn} {cur : List Vc.St} {ys : List EvG} (h : LwAt u b q L su i0 z cur ys) (hev : evG b L su (i0 : Int) = evD i0 ((nts L).drop i0)) (hi : i0 ≤ (nts L).length) (hys : saidG ys = evG b L su (i0 : Int)) :
    covB (Vc.cnt cur) (Vc.cnt q) = true ∧ cur = vec (jn [u, q]) := by
  obtain ⟨k, hk, hq⟩ := h (by rw [hys]; exact List.prefix_refl _)
  have hlen : ys.length = (nts L).length - i0 := by rw [← saidG_len, hys, hev, evD_len, List.length_drop]
  obtain rfl := lw_last (by omega) hq
  obtain ⟨h1, h2⟩ := lw_end hk
  exact ⟨(covB_iff _ _).2 ((cov2_iff _ _).1 h1), h2⟩

set_option maxHeartbeats 16000000 in
theorem logWhole_walk (v : LV) (b : List Vc.St) (L : List (NV × Nt)) (su : Int) (E : Option Addr) (p f : Nat) (u : List Vc.St) (w : World) (hT : Tab w) (h : LgRd w v b L) (hsz : LgSz v L) (hl : u.length = p) (hR : Rd w w.heap.size 2 E p f (sv u)) :
    Calls Tryd.prog 3 #[.agg (v.val su), .slice E p f] w fun e w' => e = .returned (.bool true) ∧ Below w.heap.size w w' := by
  obtain ⟨A, n, c, D, m, d⟩ := v
  have hmax : m ≤ 1466015503659 := hsz.m1
  have hln : L.length = m := h.ns.len
  have HLN := Lib.hid hln
  have b1 := (Blk.new w 25 (LV.val ⟨A, n, c, D, m, d⟩ su)).alloc (.cells #[.bool false] 4)
  have b2 := Blk.new (w.alloc (.cells (LV.val ⟨A, n, c, D, m, d⟩ su) 25)) 4 #[.bool false]
  rw [World.size_alloc] at b2
  have hb0 : Below w.heap.size w ((w.alloc (.cells (LV.val ⟨A, n, c, D, m, d⟩ su) 25)).alloc (.cells #[.bool false] 4)) := ((Below.refl _ w).alloc (Nat.le_refl _) _).alloc (by simp) _
  obtain ⟨W0, hW0⟩ : ∃ W0, W0 = (w.alloc (.cells (LV.val ⟨A, n, c, D, m, d⟩ su) 25)).alloc (.cells #[.bool false] 4) := ⟨_, rfl⟩
  have hs0 : w.heap.size + 2 = W0.heap.size := by rw [hW0]; simp
  rw [← hW0] at b1 b2 hb0
  have HT := Lib.hid hT
  have HH := Lib.hid h
  have HR := Lib.hid hR
  have HL := Lib.hid hl
  have HB0 := Lib.hid hb0
  have HS0 := Lib.hid hs0
  have HW := Lib.hid hW0.symm
  have G1 := Lib.hid (aliveL_any W0 (hT.below hb0))
  have g2 := fun V (hb : Below W0.heap.size W0 V) => lgPlace_any ⟨A, n, c, D, m, d⟩ b L su E p f u V ((hT.below hb0).below hb) ((h.go hb0).go hb) hsz hl ((hR.go hb0).go hb)
  have HQ := Lib.hid fun V (hb : Below W0.heap.size W0 V) => (show (V.cell? ⟨w.heap.size, 0, none⟩ = some (.slice A n c) ∧ V.cell? ⟨w.heap.size, 1, none⟩ = some (.slice D m d) ∧ V.cell? ⟨w.heap.size, 2, none⟩ = some (.int .i64 su)) ∧ (V.cell? ⟨w.heap.size + 1, 0, none⟩ = some (.bool false) ∧ V.frozen? ⟨w.heap.size + 1, 0, none⟩ = false) from
    ⟨⟨(b1.go hb).cell 0, (b1.go hb).cell 1, (b1.go hb).cell 2⟩, ⟨(b2.go hb).cell 0, (b2.go hb).frozen 0⟩⟩)
  have C1 := Lib.hid fun V (hb : Below W0.heap.size W0 V) => b1.go hb
  have C2 := Lib.hid fun V (hb : Below W0.heap.size W0 V) => b2.go hb
  clear hT h hl hR hb0 hs0 hW0 b1 b2 hln
  by_cases he : (lgP b L su u).2 = 0
  rotate_left
  · obtain ⟨er, her⟩ : ∃ er, (lgP b L su u).2 = er := ⟨_, rfl⟩
    have h0 := lw_no he
    rw [her] at he
    have hne : (er != 0) = true := bne_iff_ne.2 he
    have G2 := Lib.hid fun V (hb : Below W0.heap.size W0 V) => (show Calls Tryd.prog 5 #[.agg (LV.val ⟨A, n, c, D, m, d⟩ su), .slice E p f] V fun e w' => e = .returned (.tuple #[.int .i64 0, .int .i64 er]) ∧ Below V.heap.size V w' from by have := g2 V hb; rwa [h0, her] at this)
    clear g2 her h0 he hsz
    go_enter Tryd.func3, Tryd.ntmps3
    go_wp2_with fail
    rw [HW.out]
    refine G1.out.mono ?_
    rintro e w1 ⟨rfl, hb1⟩
    obtain ⟨⟨q0, q1, q2⟩, _⟩ := HQ.out _ hb1
    go_wp2_with fail
    refine (G2.out w1 hb1).mono ?_
    rintro e w2 ⟨rfl, hb2⟩
    have k := below_then hb1 (Nat.le_refl _) hb2
    clear q0 q1 q2 hb1 hb2
    obtain ⟨_, q4, f4⟩ := HQ.out _ k
    have HK := Lib.hid k
    clear k
    go_wp2
    have hc5 := World.cell?_setCell_same' w2 ⟨w.heap.size + 1, 0, none⟩ (.bool true) (by rw [q4]; rfl)
    refine bodyPost_ret (v := .bool true) (by simp [results, Tryd.f3, go_sem, hc5]) rfl ⟨rfl, (below_then HB0.out (Nat.le_refl _) HK.out).setCell (p := ⟨w.heap.size + 1, 0, none⟩) (by show _ ≤ w.heap.size + 1; omega) _⟩
  · obtain ⟨hr, hat, q, k0, hq, hk0, hcov⟩ := lw_go he
    have hi0m := plW_le u (nts L)
    obtain ⟨i0, hi0⟩ : ∃ i0, plW u (nts L) = i0 := ⟨_, rfl⟩
    rw [hi0] at hat hk0 hi0m
    have hev : evG b L su (i0 : Int) = evD i0 ((nts L).drop i0) := by unfold evG; rw [if_pos hr]; rfl
    have G2 := Lib.hid fun V (hb : Below W0.heap.size W0 V) => (show Calls Tryd.prog 5 #[.agg (LV.val ⟨A, n, c, D, m, d⟩ su), .slice E p f] V fun e w' => e = .returned (.tuple #[.int .i64 (i0 : Int), .int .i64 0]) ∧ Below V.heap.size V w' from by have := g2 V hb; rwa [hat, he] at this)
    have HE := Lib.hid hev
    have HIM := Lib.hid hi0m
    have HR0 := Lib.hid hr
    have HQ0 := Lib.hid hq
    obtain ⟨C0, hC0⟩ : ∃ C0, C0 = vec (jn [u, []]) := ⟨_, rfl⟩
    have g3 := fun V (hb : Below W0.heap.size W0 V) => refTwo_any E none p f 0 0 u [] V HL.out rfl ((HR.out.go HB0.out).go hb) Rd.none_
    rw [← hC0] at g3
    have G3 := Lib.hid g3
    have HAT0 := Lib.hid (show LwAt u b q L su i0 [] C0 [] from fun _ => ⟨k0, by rw [hC0]; exact lw_init hcov, hk0⟩)
    clear g2 g3 hC0 hev hi0m hr hq hcov hk0 hat he hi0
    refine (callsIn_wide (n := 3)).1 ?_
    refine callsIn_of_wp_marks Tryd.func3 rfl trivial ?_ rfl
    simp only [Tryd.ntmps3, List.size_toArray, List.length_cons, List.length_nil, Nat.reduceAdd, Nat.reduceSub, Array.replicate_succ, Array.replicate_zero, List.push_toArray, List.append_toArray, List.nil_append, List.cons_append]
    gi_wp2_with fail
    rw [HW.out]
    refine ⟨trivial, ?_⟩
    refine (callsIn_wide.2 G1.out).mono ?_
    rintro e w1 ⟨rfl, hb1⟩
    obtain ⟨⟨q0, q1, q2⟩, _⟩ := HQ.out _ hb1
    gi_wp2_with fail
    refine ⟨trivial, ?_⟩
    refine (callsIn_wide.2 (G2.out w1 hb1)).mono ?_
    rintro e w2 ⟨rfl, hb2⟩
    have k := below_then hb1 (Nat.le_refl _) hb2
    clear q0 q1 q2 hb1 hb2
    gi_wp2_with fail
    refine ⟨trivial, ?_⟩
    refine (callsIn_wide.2 (G3.out w2 k)).mono ?_
    rintro e w3 ⟨K1, k1, rfl, ho3, hb3⟩
    have k3 := below_then k (Nat.le_refl _) hb3
    clear k hb3
    have HAB := Lib.hid (show Below w3.heap.size w3 ((w3.alloc (.cells #[.slice K1 C0.length k1] 22)).alloc (.cells #[.slice none 0 0] 31)) from ((Below.refl _ w3).alloc (Nat.le_refl _) _).alloc (by simp) _)
    have d1 := (Blk.new w3 22 #[.slice K1 C0.length k1]).alloc (.cells #[.slice none 0 0] 31)
    have d2 := Blk.new (w3.alloc (.cells #[.slice K1 C0.length k1] 22)) 31 #[.slice none 0 0]
    rw [World.size_alloc] at d2
    have h1 : ∀ V, Below w3.heap.size w3 V → (V.cell? ⟨w.heap.size, 0, none⟩ = some (.slice A n c) ∧ V.cell? ⟨w.heap.size, 1, none⟩ = some (.slice D m d) ∧ V.cell? ⟨w.heap.size, 2, none⟩ = some (.int .i64 su)) := fun V hb => (HQ.out _ (below_then k3 (Nat.le_refl _) hb)).1
    obtain ⟨y0, y1, y2⟩ := h1 _ HAB.out
    obtain ⟨W4, hW4⟩ : ∃ W4, W4 = (w3.alloc (.cells #[.slice K1 C0.length k1] 22)).alloc (.cells #[.slice none 0 0] 31) := ⟨_, rfl⟩
    have hs4 : W4.heap.size = w3.heap.size + 1 + 1 := by rw [hW4]; simp
    rw [← hW4] at d1 d2 HAB
    have HD1 := Lib.hid d1
    have HD2 := Lib.hid d2
    have HW4 := Lib.hid hW4.symm
    have HS4 := Lib.hid hs4
    have HK3 := Lib.hid k3
    have HO3 := Lib.hid ho3
    clear d1 d2 hW4 hs4 h1 k3 ho3
    gi_wp2_with fail
    rw [HW4.out]
    refine ⟨trivial, ?_⟩
    refine (callsIn_wide.2 (lgAll_any ⟨A, n, c, D, m, d⟩ su i0 W4)).mono ?_
    rintro e w5 ⟨rfl, rfl⟩
    clear y0 y1 y2
    have e1 := (Blk.new W4 25 (LV.val ⟨A, n, c, D, m, d⟩ su)).alloc (.cells #[.int .i64 (i0 : Int)] 3)
    have e2 := Blk.new (W4.alloc (.cells (LV.val ⟨A, n, c, D, m, d⟩ su) 25)) 3 #[.int .i64 (i0 : Int)]
    rw [World.size_alloc] at e2
    have hkA : Below W4.heap.size W4 ((W4.alloc (.cells (LV.val ⟨A, n, c, D, m, d⟩ su) 25)).alloc (.cells #[.int .i64 (i0 : Int)] 3)) := ((Below.refl _ W4).alloc (Nat.le_refl _) _).alloc (by simp) _
    rw [HS4.out] at e1 e2 ⊢
    obtain ⟨W5, hW5⟩ : ∃ W5, W5 = (W4.alloc (.cells (LV.val ⟨A, n, c, D, m, d⟩ su) 25)).alloc (.cells #[.int .i64 (i0 : Int)] 3) := ⟨_, rfl⟩
    have hs5 : w3.heap.size + 4 = W5.heap.size := by rw [hW5]; simp; have := HS4.out; omega
    rw [← hW5] at e1 e2 hkA ⊢
    have hb35 := below_then HAB.out (Nat.le_refl _) hkA
    have hk5 := below_then HK3.out (Nat.le_refl _) hb35
    have hbw5 := below_then HB0.out (Nat.le_refl _) hk5
    have hsz3 : w.heap.size + 2 ≤ w3.heap.size := by have := HK3.out.size; have := HS0.out; omega
    have hInv : LbI w w.heap.size (w.heap.size + 1) (w3.heap.size + 1) w3.heap.size 25 (LV.val ⟨A, n, c, D, m, d⟩ su) [] C0 W5 :=
      ⟨Olds.of_below hbw5, C1.out _ hk5, C2.out _ hk5, ⟨none, 0, 0, [], HD2.out.go hkA, RdZ.none_ _ _, rfl⟩, ⟨K1, C0.length, k1, HD1.out.go hkA, rfl, (Rd.of_own HO3.out).go hb35⟩⟩
    have hGood : GoodG w (w3.heap.size + 1 + 1) (w3.heap.size + 1 + 1 + 1) ⟨A, n, c, D, m, d⟩ su i0 W5 := ⟨Olds.of_below hbw5, e1, e2, by omega, by omega⟩
    have HTold := Lib.hid (lgAll_told (3 - 1) (by omega) (w3.heap.size + 1 + 1) (w3.heap.size + 1 + 1 + 1) ⟨A, n, c, D, m, d⟩ b L su i0 w HT.out HH.out hsz W5 hGood)
    have HBW5 := Lib.hid hbw5
    have HI5 := Lib.hid hInv
    clear hW5 hkA e1 e2 hGood hbw5 hInv hb35 hk5
    gi_wp2
    refine wpIn_rangeFunc_told rfl (by omega) (gf := 17) (lb := #[.pointer (some ⟨w3.heap.size + 1 + 1, 0, none⟩), .pointer (some ⟨w3.heap.size + 1 + 1 + 1, 0, none⟩)]) rfl trivial (enters_of Tryd.func17 (by kernel_rfl) rfl)
      HTold.out goodG_t (fun W lp o o' _ h ho _ => goodG_b W lp o o' h ho) (Below.refl _ _) (fun _ => rfl)
      (fun pre W => (∃ z cur, LbI w w.heap.size (w.heap.size + 1) (w3.heap.size + 1) w3.heap.size 25 (LV.val ⟨A, n, c, D, m, d⟩ su) z cur W ∧ LwAt u b q L su i0 z cur pre) ∧ Below w.heap.size w W)
      (fun cc pre W => (cc = .ret ∧ ¬ (saidG pre <+: evG b L su i0)) ∧ Below w.heap.size w W)
      (OwnFrom.and (Own.from (fun s X Y row hs hg hr => by
        obtain ⟨z, cur, h1, h2⟩ := hs
        exact ⟨z, cur, h1.kept hg hr, h2⟩) _) (ownFrom_below (Nat.le_refl _) (by omega)))
      (fun cc => OwnFrom.and (Own.from (fun s X Y row hs hg hr => hs) _) (ownFrom_below (Nat.le_refl _) (by omega)))
      ⟨⟨[], C0, HI5.out, HAT0.out⟩, HBW5.out⟩
      (fun x a₁ V => ∃ Bs, Blk V Bs 38 x.2.1.val ∧ egT x V ∧ a₁ = { tmps := #[.agg (LV.val ⟨A, n, c, D, m, d⟩ su), .slice E p f, .pointer (some ⟨w.heap.size, 0, none⟩), undef, .pointer (some ⟨w.heap.size + 1, 0, none⟩), .int .i64 (i0 : Int), .int .i64 0, .pointer (some ⟨w3.heap.size, 0, none⟩), .pointer (some ⟨w3.heap.size + 1, 0, none⟩), undef, .pointer (some ⟨Bs, 0, none⟩), undef, undef, undef, .bool true, .bool false, .tuple #[.int .i64 (i0 : Int), .int .i64 0], .agg #[.slice A n c, .slice D m d, .int .i64 su], .slice E p f, .tuple #[.int .i64 (i0 : Int), .int .i64 0], .int .i64 (i0 : Int), .int .i64 0, .int .i64 0, .bool false, undef, undef, .slice E p f, .slice K1 C0.length k1, .agg #[.slice A n c, .slice D m d, .int .i64 su], .int .i64 (i0 : Int), .func (.func 17) #[] #[.pointer (some ⟨w3.heap.size + 1 + 1, 0, none⟩), .pointer (some ⟨w3.heap.size + 1 + 1 + 1, 0, none⟩)], .int .i64 (x.1 : Int), .agg x.2.1.val, undef, undef, undef, undef, undef, undef, undef, undef, undef, undef, undef, undef, undef, undef, undef, undef, undef, undef, undef, undef, undef, undef, undef, undef], defers := [] }) (fun a₁ x X Y row hs hg hr => by
        obtain ⟨Bs, h1, h3, h4⟩ := hs
        exact ⟨Bs, blkG_kept h1 hg (fun r e => (hr r e).2), egT_kept h3 hg (fun r e => (hr r e).2), h4⟩) ?assign ?body ?done ?stop
    case assign =>
      rintro lp pre x W K ⟨⟨z, cur, hI, hat⟩, hB⟩ hT hK
      obtain ⟨i, ⟨P1, p1, r1, P2, p2, r2, P3, p3, r3, P4, p4, r4⟩, y⟩ := x
      dsimp only [evsG]
      gi_wp2
      have hbA : Below W.heap.size W (W.alloc (.cells (NV.val ⟨P1, p1, r1, P2, p2, r2, P3, p3, r3, P4, p4, r4⟩) 38)) := (Below.refl _ _).alloc (Nat.le_refl _) _
      exact hK _ _ ((KeepsOthers.alloc _ _).from _) (fun g => g.go hbA) ⟨⟨z, cur, hI.below hbA, hat⟩, hB.alloc hB.size _⟩ ⟨W.heap.size, Blk.new W _ _, NtRd.go hT hbA, rfl⟩
    case body =>
      rintro lp pre x a₁ W hlp ⟨⟨z, cur, hI, hat⟩, hB⟩ ⟨Bs, hX, hT, rfl⟩ hlt
      have HST := Lib.hid (hat.step HE.out x)
      obtain ⟨i, ⟨P1, p1, r1, P2, p2, r2, P3, p3, r3, P4, p4, r4⟩, y⟩ := x
      have hT' : NtRd W W.heap.size ⟨P1, p1, r1, P2, p2, r2, P3, p3, r3, P4, p4, r4⟩ y := hT
      obtain ⟨Az, nz, cz, M, z1, z2, z3⟩ := hI.zb
      obtain ⟨Ak, nk, ck, c1, c2, c3⟩ := hI.kb
      have GT := Lib.hid (take_any Az Ak nz cz nk ck M cur ⟨P1, p1, r1, P2, p2, r2, P3, p3, r3, P4, p4, r4⟩ y W (HT.out.olds hI.ol) z2 c2 c3 hT')
      rw [z3] at GT
      have y0 := z1.cell 0
      have y1 := c1.cell 0
      have x0 := hX.cell 0
      have x1 := hX.cell 1
      have x2 := hX.cell 2
      have x3 := hX.cell 3
      have HI := Lib.hid hI
      have HBB := Lib.hid hB
      clear hT hT' hX z1 z2 z3 c1 c2 c3 hat hI hB hlt
      gi_wp2_with fail
      refine ⟨trivial, ?_⟩
      refine (callsIn_wide.2 GT.out).mono ?_
      rintro e V ⟨A', k', c', M', B', m', d', rfl, t2, t3, t4, t5, hb'⟩
      clear y0 y1 x0 x1 x2 x3
      have hIV := HI.out.below hb'
      have HB' := Lib.hid hb'
      have HBV := Lib.hid (HBB.out.trans (hb'.mono HBB.out.size))
      have HIV := Lib.hid hIV
      clear hb'
      by_cases he : tkE z cur y = 0
      · have HP := Lib.hid (hIV.put (A := A') (n := k') (c := c') (B := B') (m := m') (d := d') (by omega) (by omega) (by omega) (by omega) (by omega) (by omega) (by omega) t2 t3 t4 t5)
        have HNX := Lib.hid HST.out.2
        obtain ⟨A0, n0, c0, M0, z1, z2, z3⟩ := hIV.zb
        obtain ⟨D0, m0, d0, c1, c2, c3⟩ := hIV.kb
        have y0 := z1.cell 0
        have y1 := c1.cell 0
        have g0 := z1.frozen 0
        have g1 := c1.frozen 0
        rw [he]
        clear t2 t3 t4 t5 hIV z1 z2 z3 c1 c2 c3 he HST
        gi_wp2
        refine ⟨(((keeps_belowG HB'.out).trans (KeepsOthers.setCell _ _ _)).trans (KeepsOthers.setCell _ _ _)).from _, fun g => goodG_cell (goodG_cell (g.go HB'.out) (p := ⟨w3.heap.size + 1, 0, none⟩) (by show w3.heap.size + 1 ≠ _; omega) (by show w3.heap.size + 1 ≠ _; omega) (by show _ ≤ w3.heap.size + 1; omega) _) (p := ⟨w3.heap.size, 0, none⟩) (by show w3.heap.size ≠ _; omega) (by show w3.heap.size ≠ _; omega) (by show _ ≤ w3.heap.size; omega) _, ⟨_, _, HP.out, HNX.out⟩,
          (HBV.out.setCell (p := ⟨w3.heap.size + 1, 0, none⟩) (by show _ ≤ w3.heap.size + 1; omega) _).setCell (p := ⟨w3.heap.size, 0, none⟩) (by show _ ≤ w3.heap.size; omega) _⟩
      · obtain ⟨er, her⟩ : ∃ er, tkE z cur y = er := ⟨_, rfl⟩
        have HNO := Lib.hid (show ¬ (saidG (pre ++ [(i, ⟨P1, p1, r1, P2, p2, r2, P3, p3, r3, P4, p4, r4⟩, y)]) <+: evG b L su i0) from fun hp => he (HST.out.1 hp))
        rw [her] at he ⊢
        have hne : (er != 0) = true := bne_iff_ne.2 he
        have q4 := hIV.re.cell 0
        have f4 := hIV.re.frozen 0
        clear t2 t3 t4 t5 hIV he her HST
        gi_wp2
        exact ⟨((keeps_belowG HB'.out).trans (KeepsOthers.setCell _ _ _)).from _, ⟨rfl, HNO.out⟩, HBV.out.setCell (p := ⟨w.heap.size + 1, 0, none⟩) (by show _ ≤ w.heap.size + 1; omega) _⟩
    case stop =>
      rintro E' c' pre W hD hpre ⟨⟨rfl, hno⟩, hB⟩ hK
      exact absurd hpre hno
    case done =>
      rintro E' ys W hD hys ⟨⟨z, cur, hI, hat⟩, hB⟩ hK
      have hys' : saidG ys = evG b L su i0 := hys
      have HLS := Lib.hid (hat.last HE.out HIM.out hys')
      obtain ⟨N1, o1, s1, c1, c2, c3⟩ := hI.kb
      have kw : Below W.heap.size W W.drew := (Below.refl _ W).drew
      have HQN := Lib.hid fun W' (hb : Below W.heap.size W W') => (show W'.cell? ⟨w3.heap.size, 0, none⟩ = some (.slice N1 o1 s1) ∧ W'.cell? ⟨w.heap.size, 0, none⟩ = some (.slice A n c) ∧ W'.cell? ⟨w.heap.size, 1, none⟩ = some (.slice D m d) ∧ W'.cell? ⟨w.heap.size, 2, none⟩ = some (.int .i64 su) from ⟨(c1.go hb).cell 0, (hI.lg.go hb).cell 0, (hI.lg.go hb).cell 1, (hI.lg.go hb).cell 2⟩)
      have HQ := HQN
      have HQS := Lib.hid fun W' (hb : Below W.heap.size W W') => (show (W'.setCell ⟨w.heap.size + 1, 0, none⟩ (.bool true)).cell? ⟨w3.heap.size, 0, none⟩ = some (.slice N1 o1 s1) ∧ (W'.setCell ⟨w.heap.size + 1, 0, none⟩ (.bool true)).cell? ⟨w.heap.size, 0, none⟩ = some (.slice A n c) ∧ (W'.setCell ⟨w.heap.size + 1, 0, none⟩ (.bool true)).cell? ⟨w.heap.size, 1, none⟩ = some (.slice D m d) ∧ (W'.setCell ⟨w.heap.size + 1, 0, none⟩ (.bool true)).cell? ⟨w.heap.size, 2, none⟩ = some (.int .i64 su) from by
        have k1 := (c1.go hb).far (p := ⟨w.heap.size + 1, 0, none⟩) (by show w3.heap.size ≠ w.heap.size + 1; omega) (.bool true)
        have k2 := (hI.lg.go hb).far (p := ⟨w.heap.size + 1, 0, none⟩) (by show w.heap.size ≠ w.heap.size + 1; omega) (.bool true)
        exact ⟨k1.cell 0, k2.cell 0, k2.cell 1, k2.cell 2⟩)
      have hLR := HH.out.olds hI.ol
      have hTW := HT.out.olds hI.ol
      have hRW : Rd W W.heap.size 2 E p f (sv u) := (HR.out.olds hI.ol).more hI.ol.size
      have GK := Lib.hid fun W' (hb : Below W.heap.size W W') => lgKnown_q (v := ⟨A, n, c, D, m, d⟩) W' (hTW.below hb) (hLR.go hb) HR0.out HQ0.out
      have GC := Lib.hid fun Q1 q1 W' (hb : Below W.heap.size W W') (r1 : Rd W' W'.heap.size 2 Q1 q.length q1 (sv q)) => (show Calls Tryd.prog 9 #[.slice N1 o1 s1, .slice Q1 q.length q1] W' fun e w' => e = .returned (.bool true) ∧ Below W'.heap.size W' w' from by have := refCovers_any N1 Q1 o1 s1 q.length q1 cur q W' c2 rfl (c3.go hb) r1; rwa [HLS.out.1] at this)
      obtain ⟨T, hT0⟩ : ∃ T, T = vec (jn [u, q]) := ⟨_, rfl⟩
      have GT := Lib.hid fun Q2 q2 W' (hb : Below W.heap.size W W') (r2 : Rd W' W'.heap.size 2 Q2 q.length q2 (sv q)) => (show Calls Tryd.prog 6 #[.slice E p f, .slice Q2 q.length q2] W' fun e w' => ∃ A' c', e = .returned (.slice A' T.length c') ∧ w'.ownsRow W'.heap.size 47 2 (.slice A' T.length c') T.length (sv T) ∧ Below W'.heap.size W' w' from by rw [hT0]; exact refTwo_any E Q2 p f q.length q2 u q W' HL.out rfl (hRW.go hb) r2)
      have GS := Lib.hid fun Q3 q3 W' (hb : Below W.heap.size W W') (r3 : Rd W' W'.heap.size 2 Q3 T.length q3 (sv T)) => (show Calls Tryd.prog 11 #[.slice N1 o1 s1, .slice Q3 T.length q3] W' fun e w' => e = .returned (.bool true) ∧ Below W'.heap.size W' w' from by have := same_any N1 Q3 o1 s1 T.length q3 cur T W' c2 rfl (c3.go hb) r3; rwa [decide_eq_true (show cur = T by rw [hT0]; exact HLS.out.2)] at this)
      have HI := Lib.hid hI
      have HBB := Lib.hid hB
      clear hys hys' hat c1 c2 c3 hLR hTW hRW hT0 HLS hI hB
      gi_wp2_with fail
      refine wpIn_wide.2 ?_
      refine region_nrm fun KK hKK => ?_
      refine wp_region_held_drew (S := (fun W' => W'.cell? ⟨w3.heap.size, 0, none⟩ = some (.slice N1 o1 s1) ∧ W'.cell? ⟨w.heap.size, 0, none⟩ = some (.slice A n c) ∧ W'.cell? ⟨w.heap.size, 1, none⟩ = some (.slice D m d) ∧ W'.cell? ⟨w.heap.size, 2, none⟩ = some (.int .i64 su))) (by kernel_rfl) (by first | exact HQ.out _ kw | exact HQS.out _ kw) (fun hHeld => ?_)
      refine wpAnyH_putD (i := 0) (d := 45) (v := ?_) rfl rfl (by kernel_rfl) (by kernel_rfl) (by kernel_rfl) (fun _ _ _ h => h) (Or.inl ⟨by kernel_rfl, ?_⟩) (by first | exact HQ.out _ kw | exact HQS.out _ kw) ?_
      rotate_left
      · (intro w hS; (try dsimp only at hS); go_simp <;> with_reducible rfl)
      try simp only [List.setIfInBounds_toArray, List.set_cons_zero, List.set_cons_succ]
      refine wpAnyH_putD (i := 1) (d := 46) (v := ?_) rfl rfl (by kernel_rfl) (by kernel_rfl) (by kernel_rfl) (fun _ _ _ h => h) (Or.inl ⟨by kernel_rfl, ?_⟩) (by first | exact HQ.out _ kw | exact HQS.out _ kw) ?_
      rotate_left
      · (intro w hS; (try dsimp only at hS); go_simp <;> with_reducible rfl)
      try simp only [List.setIfInBounds_toArray, List.set_cons_zero, List.set_cons_succ]
      refine wpAnyH_ready (rs := [2]) (by kernel_rfl) (by simp) ?_
      refine AllReadyH.cons rfl (fun K hK => ?_) AllReadyH.nil
      go_simp
      refine (GK.out _ kw).mono ?_
      rintro e V1 ⟨Q1, q1, rfl, r1, hb'⟩
      have kw := below_then kw (Nat.le_refl _) hb'
      have R1 := Lib.hid r1
      clear hb' r1
      refine hK.out _ _ (by first | exact HQ.out _ kw | exact HQS.out _ kw) (fun hHeld => ?_)
      clear hK K
      refine wpAnyH_ready (rs := [3]) (by kernel_rfl) (by simp) ?_
      refine AllReadyH.cons rfl (fun K hK => ?_) AllReadyH.nil
      go_simp
      refine (GC.out Q1 q1 _ kw R1.out).mono ?_
      rintro e V2 ⟨rfl, hb'⟩
      have kw := below_then kw (Nat.le_refl _) hb'
      clear hb'
      refine hK.out _ _ (by first | exact HQ.out _ kw | exact HQS.out _ kw) (fun hHeld => ?_)
      clear hK K
      refine wpAnyH_putD (i := 4) (d := 49) (v := ?_) rfl rfl (by kernel_rfl) (by kernel_rfl) (by kernel_rfl) (fun _ _ _ h => h) (Or.inl ⟨by kernel_rfl, ?_⟩) (by first | exact HQ.out _ kw | exact HQS.out _ kw) ?_
      rotate_left
      · (intro w hS; (try dsimp only at hS); go_simp <;> with_reducible rfl)
      try simp only [List.setIfInBounds_toArray, List.set_cons_zero, List.set_cons_succ]
      refine wpAnyH_putD (i := 5) (d := 50) (v := ?_) rfl rfl (by kernel_rfl) (by kernel_rfl) (by kernel_rfl) (fun _ _ _ h => h) (Or.inl ⟨by kernel_rfl, ?_⟩) (by first | exact HQ.out _ kw | exact HQS.out _ kw) ?_
      rotate_left
      · (intro w hS; (try dsimp only at hS); go_simp <;> with_reducible rfl)
      try simp only [List.setIfInBounds_toArray, List.set_cons_zero, List.set_cons_succ]
      refine wpAnyH_putD (i := 6) (d := 51) (v := ?_) rfl rfl (by kernel_rfl) (by kernel_rfl) (by kernel_rfl) (fun _ _ _ h => h) (Or.inl ⟨by kernel_rfl, ?_⟩) (by first | exact HQ.out _ kw | exact HQS.out _ kw) ?_
      rotate_left
      · (intro w hS; (try dsimp only at hS); go_simp <;> with_reducible rfl)
      try simp only [List.setIfInBounds_toArray, List.set_cons_zero, List.set_cons_succ]
      refine wpAnyH_putD (i := 7) (d := 52) (v := ?_) rfl rfl (by kernel_rfl) (by kernel_rfl) (by kernel_rfl) (fun _ _ _ h => h) (Or.inl ⟨by kernel_rfl, ?_⟩) (by first | exact HQ.out _ kw | exact HQS.out _ kw) ?_
      rotate_left
      · (intro w hS; (try dsimp only at hS); go_simp <;> with_reducible rfl)
      try simp only [List.setIfInBounds_toArray, List.set_cons_zero, List.set_cons_succ]
      refine wpAnyH_ready (rs := [8]) (by kernel_rfl) (by simp) ?_
      refine AllReadyH.cons rfl (fun K hK => ?_) AllReadyH.nil
      go_simp
      refine (GK.out _ kw).mono ?_
      rintro e V3 ⟨Q2, q2, rfl, r2, hb'⟩
      have kw := below_then kw (Nat.le_refl _) hb'
      have R2 := Lib.hid r2
      clear hb' r2
      refine hK.out _ _ (by first | exact HQ.out _ kw | exact HQS.out _ kw) (fun hHeld => ?_)
      clear hK K
      refine wpAnyH_ready (rs := [9]) (by kernel_rfl) (by simp) ?_
      refine AllReadyH.cons rfl (fun K hK => ?_) AllReadyH.nil
      go_simp
      refine (GT.out Q2 q2 _ kw R2.out).mono ?_
      rintro e V4 ⟨Q3, q3, rfl, r3, hb'⟩
      have kw := below_then kw (Nat.le_refl _) hb'
      have R3 := Lib.hid (Rd.of_own r3)
      clear hb' r3
      refine hK.out _ _ (by first | exact HQ.out _ kw | exact HQS.out _ kw) (fun hHeld => ?_)
      clear hK K
      refine wpAnyH_ready (rs := [10]) (by kernel_rfl) (by simp) ?_
      refine AllReadyH.cons rfl (fun K hK => ?_) AllReadyH.nil
      go_simp
      refine (GS.out Q3 q3 _ kw R3.out).mono ?_
      rintro e V5 ⟨rfl, hb'⟩
      have kw := below_then kw (Nat.le_refl _) hb'
      clear hb'
      refine hK.out _ _ (by first | exact HQ.out _ kw | exact HQS.out _ kw) (fun hHeld => ?_)
      clear hK K
      refine wpAnyH_putD (i := 11) (d := 56) (v := ?_) rfl rfl (by kernel_rfl) (by kernel_rfl) (by kernel_rfl) (fun _ _ _ h => h) (Or.inl ⟨by kernel_rfl, ?_⟩) (by first | exact HQ.out _ kw | exact HQS.out _ kw) ?_
      rotate_left
      · (intro w hS; (try dsimp only at hS); go_simp <;> with_reducible rfl)
      try simp only [List.setIfInBounds_toArray, List.set_cons_zero, List.set_cons_succ]
      refine wpAnyH_ready (rs := [12]) (by kernel_rfl) (by simp) ?_
      refine AllReadyH.cons rfl (fun K hK => ?_) AllReadyH.nil
      have hIV := HI.out.below kw
      have f4 := hIV.re.frozen 0
      have q4 := hIV.re.cell 0
      go_simp
      refine hK.out _ _ (by first | exact HQ.out _ kw | exact HQS.out _ kw) (fun hHeld => ?_)
      clear hK K
      refine wpAnyH_done (by kernel_rfl) ?_ _
      refine Nrm.out (hKK _ _ ?_)
      skip
      have hK8 := (keeps_belowG kw).same E' _ hK rfl
      have hK9 := (KeepsOthers.setCell V5 ⟨w.heap.size + 1, 0, none⟩ (.bool true)).same E' _ hK8 rfl
      have hI5 := HI.out.below kw
      have q4 := hI5.re.cell 0
      have hc5 := cell_kept (World.cell?_setCell_same' V5 ⟨w.heap.size + 1, 0, none⟩ (.bool true) (by rw [q4]; rfl)) (grownBy_putObj' _ E' (.deferred none)) (fun r e => by cases e; exact ⟨_, hK9, rfl⟩)
      have hb8 : Below w.heap.size w V5 := HBB.out.trans (kw.mono HBB.out.size)
      clear q4 hI5
      gi_wp2
      refine ⟨by simp, .inl ⟨_, _, rfl, run_takeDeferred hK9, ?_⟩⟩
      refine ⟨.bool true, by simp [results, Tryd.f3, go_sem, hc5], rfl, (hb8.setCell (p := ⟨w.heap.size + 1, 0, none⟩) (by show _ ≤ w.heap.size + 1; omega) _).trans (belowK_b (w := w) (Nat.le_refl _) _ E' _ _ (by omega) hK9 rfl rfl)⟩
end Go.Proofs.YtepdcbhapjgijaaDoor
