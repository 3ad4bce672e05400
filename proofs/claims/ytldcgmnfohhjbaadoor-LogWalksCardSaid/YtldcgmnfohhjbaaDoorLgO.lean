/- Walk over the law LogWalks (printed by wip/tools/genLgO.py). -/
import Derived.Test.YtldcgmnfohhjbaaDoorLgL
namespace Go.Proofs.YtldcgmnfohhjbaaDoor
open Go.RowKit Go.Shelf
set_option maxRecDepth 100000
attribute [local go_sem] Oper.semAt_some

/-- What the loop keeps. -/
structure LwInv (w w2 : World) (z : Bool) (most : Int) (r : Bool) (a k : Nat) (v : LV) (su : Int) (W : World) : Prop where
  ol : Olds w W
  lg : Blk W w.heap.size 47 (v.val su)
  mo : Blk W (w.heap.size + 1) 5 #[.int .u8 most]
  re : Blk W (w.heap.size + 1 + 1) 4 #[.bool r]
  fo : Blk W w2.heap.size 4 #[.bool z]
  at_ : Blk W (w2.heap.size + 1) 3 #[.int .i64 a]
  kk : Blk W (w2.heap.size + 1 + 1) 3 #[.int .i64 k]
theorem LwInv.kept {w w2 : World} {z : Bool} {most : Int} {r : Bool} {a k : Nat} {v : LV} {su : Int} {X Y : World} {row : Option Nat} (h : LwInv w w2 z most r a k v su X) (hg : X.grownBy Y row) (hr : ∀ r, row = some r → ∃ o : Obj, X.heap[r]? = some o ∧ o.isCells = false) : LwInv w w2 z most r a k v su Y :=
  ⟨h.ol.grown hg hr, blkG_kept h.lg hg hr, blkG_kept h.mo hg hr, blkG_kept h.re hg hr, blkG_kept h.fo hg hr, blkG_kept h.at_ hg hr, blkG_kept h.kk hg hr⟩
theorem LwInv.below {w w2 : World} {z : Bool} {most : Int} {r : Bool} {a k : Nat} {v : LV} {su : Int} {X Y : World} (h : LwInv w w2 z most r a k v su X) (hb : Below X.heap.size X Y) : LwInv w w2 z most r a k v su Y :=
  ⟨h.ol.below hb, h.lg.go hb, h.mo.go hb, h.re.go hb, h.fo.go hb, h.at_.go hb, h.kk.go hb⟩
theorem LwInv.setR {w w2 : World} {z : Bool} {most : Int} {r : Bool} {a k : Nat} {v : LV} {su : Int} {X : World} (h : LwInv w w2 z most r a k v su X) (hlt : w.heap.size + 1 + 1 < w2.heap.size) (q : Bool) : LwInv w w2 z most q a k v su (X.setCell ⟨w.heap.size + 1 + 1, 0, none⟩ (.bool q)) :=
  ⟨h.ol.setCell (p := ⟨w.heap.size + 1 + 1, 0, none⟩) (by show _ ≤ w.heap.size + 1 + 1; omega) _, h.lg.far (p := ⟨w.heap.size + 1 + 1, 0, none⟩) (by show w.heap.size ≠ w.heap.size + 1 + 1; omega) _, h.mo.far (p := ⟨w.heap.size + 1 + 1, 0, none⟩) (by show w.heap.size + 1 ≠ w.heap.size + 1 + 1; omega) _, h.re.set_ 0 _,
   h.fo.far (p := ⟨w.heap.size + 1 + 1, 0, none⟩) (by show w2.heap.size ≠ w.heap.size + 1 + 1; omega) _, h.at_.far (p := ⟨w.heap.size + 1 + 1, 0, none⟩) (by show w2.heap.size + 1 ≠ w.heap.size + 1 + 1; omega) _, h.kk.far (p := ⟨w.heap.size + 1 + 1, 0, none⟩) (by show w2.heap.size + 1 + 1 ≠ w.heap.size + 1 + 1; omega) _⟩
theorem LwInv.setA {w w2 : World} {z : Bool} {most : Int} {r : Bool} {a k : Nat} {v : LV} {su : Int} {X : World} (h : LwInv w w2 z most r a k v su X) (hlt : w.heap.size + 1 + 1 < w2.heap.size) (q : Nat) : LwInv w w2 z most r q k v su (X.setCell ⟨w2.heap.size + 1, 0, none⟩ (.int .i64 q)) :=
  ⟨h.ol.setCell (p := ⟨w2.heap.size + 1, 0, none⟩) (by show _ ≤ w2.heap.size + 1; omega) _, h.lg.far (p := ⟨w2.heap.size + 1, 0, none⟩) (by show w.heap.size ≠ w2.heap.size + 1; omega) _, h.mo.far (p := ⟨w2.heap.size + 1, 0, none⟩) (by show w.heap.size + 1 ≠ w2.heap.size + 1; omega) _, h.re.far (p := ⟨w2.heap.size + 1, 0, none⟩) (by show w.heap.size + 1 + 1 ≠ w2.heap.size + 1; omega) _,
   h.fo.far (p := ⟨w2.heap.size + 1, 0, none⟩) (by show w2.heap.size ≠ w2.heap.size + 1; omega) _, h.at_.set_ 0 _, h.kk.far (p := ⟨w2.heap.size + 1, 0, none⟩) (by show w2.heap.size + 1 + 1 ≠ w2.heap.size + 1; omega) _⟩
theorem LwInv.setK {w w2 : World} {z : Bool} {most : Int} {r : Bool} {a k : Nat} {v : LV} {su : Int} {X : World} (h : LwInv w w2 z most r a k v su X) (hlt : w.heap.size + 1 + 1 < w2.heap.size) (q : Nat) : LwInv w w2 z most r a q v su (X.setCell ⟨w2.heap.size + 1 + 1, 0, none⟩ (.int .i64 q)) :=
  ⟨h.ol.setCell (p := ⟨w2.heap.size + 1 + 1, 0, none⟩) (by show _ ≤ w2.heap.size + 1 + 1; omega) _, h.lg.far (p := ⟨w2.heap.size + 1 + 1, 0, none⟩) (by show w.heap.size ≠ w2.heap.size + 1 + 1; omega) _, h.mo.far (p := ⟨w2.heap.size + 1 + 1, 0, none⟩) (by show w.heap.size + 1 ≠ w2.heap.size + 1 + 1; omega) _, h.re.far (p := ⟨w2.heap.size + 1 + 1, 0, none⟩) (by show w.heap.size + 1 + 1 ≠ w2.heap.size + 1 + 1; omega) _,
   h.fo.far (p := ⟨w2.heap.size + 1 + 1, 0, none⟩) (by show w2.heap.size ≠ w2.heap.size + 1 + 1; omega) _, h.at_.far (p := ⟨w2.heap.size + 1 + 1, 0, none⟩) (by show w2.heap.size + 1 ≠ w2.heap.size + 1 + 1; omega) _, h.kk.set_ 0 _⟩
theorem GoodG.setCell {w0 W : World} {Bl Bf : Nat} {v : LV} {su fr : Int} (h : GoodG w0 Bl Bf v su fr W) {p : Addr} (h1 : p.block ≠ Bl) (h2 : p.block ≠ Bf) (h3 : w0.heap.size ≤ p.block) (u : Value) : GoodG w0 Bl Bf v su fr (W.setCell p u) :=
  ⟨h.ol.setCell h3 u, h.bl.far (fun e => h1 e.symm) u, h.bf.far (fun e => h2 e.symm) u, h.gl, h.gf⟩
theorem said_next {l : List Nt} {i0 i : Nat} {v : NV} {y : Nt} {pre : List EvG} (h : saidG pre <+: evD i0 l) (h1 : l[pre.length]? = some y) (h2 : i = i0 + pre.length) : saidG (pre ++ [(i, v, y)]) <+: evD i0 l := by
  obtain ⟨r, hr⟩ := h
  have h3 : (evD i0 l)[pre.length]? = some (i, y) := by rw [evD_at, h1, h2]; rfl
  rw [← hr, List.getElem?_append_right (by rw [saidG_len]; exact Nat.le_refl _), saidG_len, Nat.sub_self] at h3
  rcases r with _ | ⟨q, r⟩
  · cases h3
  · simp only [List.getElem?_cons_zero, Option.some.injEq] at h3
    subst h3
    exact ⟨r, by rw [saidG_snoc, ← hr, List.append_assoc]; rfl⟩
def LwStop (w w2 : World) (z : Bool) (most : Int) (v : LV) (su : Int) (p : Prop) (W : World) : Prop := ∃ r a k, LwInv w w2 z most r a k v su W ∧ (p → r = true)

set_option maxHeartbeats 16000000 in
theorem logWalks_walk (v : LV) (b : List Vc.St) (L : List (NV × Nt)) (su fr most : Int) (w : World) (hT : Tab w) (h : LgRd w v b L) (hsz : LgSz v L) (hm0 : 0 ≤ most) (hm1 : most < 256) (hfr : fr ≤ 9223372036854775807) :
    Calls Tryd.prog 8 #[.agg (v.val su), .int .i64 fr, .int .u8 most] w fun e w' => e = .returned (.bool true) ∧ Below w.heap.size w w' := by
  obtain ⟨A, n, c, D, m, d⟩ := v
  have hmax : m ≤ 1466015503659 := hsz.m1
  have hln : L.length = m := h.ns.len
  have HLN := Lib.hid hln
  obtain ⟨i0, hi0⟩ : ∃ i0 : Nat, fr.toNat = i0 := ⟨_, rfl⟩
  have hi64 : i0 ≤ 9223372036854775807 := by omega
  have HI0 := Lib.hid hi0
  have b1 := ((Blk.new w 47 (LV.val ⟨A, n, c, D, m, d⟩ su)).alloc (.cells #[.int .u8 most] 5)).alloc (.cells #[.bool false] 4)
  have b2 := (Blk.new (w.alloc (.cells (LV.val ⟨A, n, c, D, m, d⟩ su) 47)) 5 #[.int .u8 most]).alloc (.cells #[.bool false] 4)
  have b3 := Blk.new ((w.alloc (.cells (LV.val ⟨A, n, c, D, m, d⟩ su) 47)).alloc (.cells #[.int .u8 most] 5)) 4 #[.bool false]
  rw [World.size_alloc] at b2
  rw [World.size_alloc, World.size_alloc] at b3
  have hb0 : Below w.heap.size w (((w.alloc (.cells (LV.val ⟨A, n, c, D, m, d⟩ su) 47)).alloc (.cells #[.int .u8 most] 5)).alloc (.cells #[.bool false] 4)) :=
    (((Below.refl _ w).alloc (Nat.le_refl _) _).alloc (by simp) _).alloc (by simp; omega) _
  obtain ⟨W0, hW0⟩ : ∃ W0, W0 = ((w.alloc (.cells (LV.val ⟨A, n, c, D, m, d⟩ su) 47)).alloc (.cells #[.int .u8 most] 5)).alloc (.cells #[.bool false] 4) := ⟨_, rfl⟩
  have hs0 : w.heap.size + 3 = W0.heap.size := by rw [hW0]; simp
  rw [← hW0] at b1 b2 b3 hb0
  have HT := Lib.hid hT
  have HH := Lib.hid h
  have G1 := Lib.hid (aliveL_any W0 (hT.below hb0))
  have g2 := fun V (hb : Below W0.heap.size W0 V) => refLgFormed_any ⟨A, n, c, D, m, d⟩ b L su V ((h.go hb0).go hb)
  have HEV := Lib.hid (show evG b L su fr = if lgR b L su = true then evD i0 ((nts L).drop i0) else [] by rw [← hi0]; rfl)
  generalize lgR b L su = z at g2 HEV
  have G2 := Lib.hid g2
  have HW := Lib.hid hW0.symm
  clear hT h hln hi0 hW0 g2
  refine (callsIn_wide (n := 3)).1 ?_
  refine callsIn_of_wp_marks Tryd.func8 rfl trivial ?_ rfl
  simp only [Tryd.ntmps8, List.size_toArray, List.length_cons, List.length_nil, Nat.reduceAdd, Nat.reduceSub, Array.replicate_succ, Array.replicate_zero, List.push_toArray, List.append_toArray, List.nil_append, List.cons_append]
  gi_wp2_with fail
  rw [HW.out]
  refine ⟨trivial, ?_⟩
  refine (callsIn_wide.2 G1.out).mono ?_
  rintro e w1 ⟨rfl, hb1⟩
  have q0 := (b1.go hb1).cell 0
  have q1 := (b1.go hb1).cell 1
  have q2 := (b1.go hb1).cell 2
  gi_wp2_with fail
  refine ⟨trivial, ?_⟩
  refine (callsIn_wide.2 (G2.out w1 hb1)).mono ?_
  rintro e w2 ⟨rfl, hb2⟩
  have hb12 := below_then hb1 (Nat.le_refl _) hb2
  have c1 := b1.go hb12
  have c2 := b2.go hb12
  have c3 := b3.go hb12
  have hbw2 := below_then hb0 (Nat.le_refl _) hb12
  have hs2 : w.heap.size + 1 + 1 < w2.heap.size := by have := hb12.size; omega
  clear q0 q1 q2 b1 b2 b3 hb0 hb1 hb2 hb12
  have q0 := c1.cell 0
  have q1 := c1.cell 1
  have q2 := c1.cell 2
  have C1 := Lib.hid c1
  have C2 := Lib.hid c2
  have C3 := Lib.hid c3
  have HB2 := Lib.hid hbw2
  clear c1 c2 c3 hbw2
  by_cases hpos : 0 < fr
  · obtain rfl : fr = (i0 : Int) := by have := HI0.out; omega
    have h1 : ∀ V, Below w2.heap.size w2 V → (V.cell? ⟨w.heap.size, 0, none⟩ = some (.slice A n c) ∧ V.cell? ⟨w.heap.size, 1, none⟩ = some (.slice D m d) ∧ V.cell? ⟨w.heap.size, 2, none⟩ = some (.int .i64 su)) := fun V hb => ⟨(C1.out.go hb).cell 0, (C1.out.go hb).cell 1, (C1.out.go hb).cell 2⟩
    have HAB := Lib.hid (show Below w2.heap.size w2 (((w2.alloc (.cells #[.bool z] 4)).alloc (.cells #[.int .i64 (i0 : Int)] 3)).alloc (.cells #[.int .i64 0] 3)) from (((Below.refl _ w2).alloc (Nat.le_refl _) _).alloc (by simp) _).alloc (by simp; omega) _)
    have d1 := ((Blk.new w2 4 #[.bool z]).alloc (.cells #[.int .i64 (i0 : Int)] 3)).alloc (.cells #[.int .i64 0] 3)
    have d2 := (Blk.new (w2.alloc (.cells #[.bool z] 4)) 3 #[.int .i64 (i0 : Int)]).alloc (.cells #[.int .i64 0] 3)
    have d3 := Blk.new ((w2.alloc (.cells #[.bool z] 4)).alloc (.cells #[.int .i64 (i0 : Int)] 3)) 3 #[.int .i64 0]
    rw [World.size_alloc] at d2
    rw [World.size_alloc, World.size_alloc] at d3
    obtain ⟨y0, y1, y2⟩ := h1 _ HAB.out
    have H1 := Lib.hid h1
    obtain ⟨W3, hW3⟩ : ∃ W3, W3 = ((w2.alloc (.cells #[.bool z] 4)).alloc (.cells #[.int .i64 (i0 : Int)] 3)).alloc (.cells #[.int .i64 0] 3) := ⟨_, rfl⟩
    have hs3 : W3.heap.size = w2.heap.size + 1 + 1 + 1 := by rw [hW3]; simp
    rw [← hW3] at d1 d2 d3 HAB
    have D1 := Lib.hid d1
    have D2 := Lib.hid d2
    have D3 := Lib.hid d3
    have HW3 := Lib.hid hW3.symm
    have HS3 := Lib.hid hs3
    clear d1 d2 d3 hW3 hs3 h1
    gi_wp2_with fail
    rw [HW3.out]
    refine ⟨trivial, ?_⟩
    refine (callsIn_wide.2 (lgAll_any ⟨A, n, c, D, m, d⟩ su (i0 : Int) W3)).mono ?_
    rintro e w4 ⟨rfl, rfl⟩
    clear y0 y1 y2 q0 q1 q2
    have e1 := (Blk.new W3 47 (LV.val ⟨A, n, c, D, m, d⟩ su)).alloc (.cells #[.int .i64 (i0 : Int)] 3)
    have e2 := Blk.new (W3.alloc (.cells (LV.val ⟨A, n, c, D, m, d⟩ su) 47)) 3 #[.int .i64 (i0 : Int)]
    rw [World.size_alloc] at e2
    have hkA : Below W3.heap.size W3 ((W3.alloc (.cells (LV.val ⟨A, n, c, D, m, d⟩ su) 47)).alloc (.cells #[.int .i64 (i0 : Int)] 3)) := ((Below.refl _ W3).alloc (Nat.le_refl _) _).alloc (by simp) _
    rw [HS3.out] at e1 e2 ⊢
    obtain ⟨W5, hW5⟩ : ∃ W5, W5 = (W3.alloc (.cells (LV.val ⟨A, n, c, D, m, d⟩ su) 47)).alloc (.cells #[.int .i64 (i0 : Int)] 3) := ⟨_, rfl⟩
    have hs5 : w2.heap.size + 5 = W5.heap.size := by rw [hW5]; simp; have := HS3.out; omega
    rw [← hW5] at e1 e2 hkA ⊢
    have hb25 := below_then HAB.out (Nat.le_refl _) hkA
    have hbw5 := below_then HB2.out (Nat.le_refl _) hb25
    have hInv : LwInv w w2 z most false i0 0 ⟨A, n, c, D, m, d⟩ su W5 := ⟨Olds.of_below hbw5, C1.out.go hb25, C2.out.go hb25, C3.out.go hb25, D1.out.go hkA, D2.out.go hkA, D3.out.go hkA⟩
    have hGood : GoodG w (w2.heap.size + 1 + 1 + 1) (w2.heap.size + 1 + 1 + 1 + 1) ⟨A, n, c, D, m, d⟩ su (i0 : Int) W5 := ⟨Olds.of_below hbw5, e1, e2, by omega, by omega⟩
    have HTold := Lib.hid (lgAll_told (3 - 1) (by omega) (w2.heap.size + 1 + 1 + 1) (w2.heap.size + 1 + 1 + 1 + 1) ⟨A, n, c, D, m, d⟩ b L su (i0 : Int) w HT.out HH.out hsz W5 hGood)
    have HBW5 := Lib.hid hbw5
    have HI5 := Lib.hid hInv
    clear hW5 hkA e1 e2 hGood hbw5 hInv hb25
    gi_wp2
    refine wpIn_rangeFunc_told rfl (by omega) (gf := 67) (lb := #[.pointer (some ⟨w2.heap.size + 1 + 1 + 1, 0, none⟩), .pointer (some ⟨w2.heap.size + 1 + 1 + 1 + 1, 0, none⟩)]) rfl trivial (enters_of Tryd.func67 (by kernel_rfl) rfl)
      HTold.out goodG_t (fun W lp o o' _ h ho _ => goodG_b W lp o o' h ho) (Below.refl _ _) (fun _ => rfl)
      (fun pre W => (LwInv w w2 z most false (i0 + pre.length) pre.length ⟨A, n, c, D, m, d⟩ su W ∧ (saidG pre <+: evG b L su (i0 : Int))) ∧ Below w.heap.size w W)
      (fun cc pre W => (cc = .ret ∧ LwStop w w2 z most ⟨A, n, c, D, m, d⟩ su (saidG pre <+: evG b L su (i0 : Int)) W) ∧ Below w.heap.size w W)
      (OwnFrom.and (Own.from (fun s X Y row hs hg hr => ⟨hs.1.kept hg hr, hs.2⟩) _) (ownFrom_below (Nat.le_refl _) (by omega)))
      (fun cc => OwnFrom.and (Own.from (fun s X Y row hs hg hr => by
        obtain ⟨h1, r, a, k, h2, h3⟩ := hs
        exact ⟨h1, r, a, k, h2.kept hg hr, h3⟩) _) (ownFrom_below (Nat.le_refl _) (by omega)))
      ⟨⟨HI5.out, List.nil_prefix⟩, HBW5.out⟩
      (fun x a₁ V => ∃ Bs, Blk V Bs 32 x.2.1.val ∧ w2.heap.size + 1 + 1 < Bs ∧ egT x V ∧ a₁ = { tmps := #[.agg (LV.val ⟨A, n, c, D, m, d⟩ su), .int .i64 (i0 : Int), .int .u8 most, .pointer (some ⟨w.heap.size, 0, none⟩), undef, .pointer (some ⟨w.heap.size + 1, 0, none⟩), .pointer (some ⟨w.heap.size + 1 + 1, 0, none⟩), .pointer (some ⟨w2.heap.size, 0, none⟩), .pointer (some ⟨w2.heap.size + 1, 0, none⟩), .pointer (some ⟨w2.heap.size + 1 + 1, 0, none⟩), .int .i64 (x.1 : Int), .pointer (some ⟨Bs, 0, none⟩), .bool true, .bool false, .agg #[.slice A n c, .slice D m d, .int .i64 su], .bool z, .int .i64 (i0 : Int), .int .i64 (i0 : Int), .agg #[.slice A n c, .slice D m d, .int .i64 su], .int .i64 (i0 : Int), .func (.func 67) #[] #[.pointer (some ⟨w2.heap.size + 1 + 1 + 1, 0, none⟩), .pointer (some ⟨w2.heap.size + 1 + 1 + 1 + 1, 0, none⟩)], .int .i64 (x.1 : Int), .agg x.2.1.val, undef, undef, undef, undef, undef, undef, undef, undef, undef, undef, undef, undef, undef, undef, undef, undef, undef, undef, undef, undef, undef, undef, undef, undef, undef, undef, undef, undef, undef, undef, undef, undef, undef, undef, undef, undef, undef, undef, undef, undef, undef], defers := [] }) (fun a₁ x X Y row hs hg hr => by
        obtain ⟨Bs, h1, h2, h3, h4⟩ := hs
        exact ⟨Bs, blkG_kept h1 hg (fun r e => (hr r e).2), h2, egT_kept h3 hg (fun r e => (hr r e).2), h4⟩) ?assign ?body ?done ?stop
    case assign =>
      rintro lp pre x W K ⟨⟨hI, hpre⟩, hB⟩ hT hK
      obtain ⟨i, ⟨P1, p1, q1, P2, p2, q2, P3, p3, q3, P4, p4, q4⟩, y⟩ := x
      dsimp only [evsG]
      gi_wp2
      have hbA : Below W.heap.size W (W.alloc (.cells (NV.val ⟨P1, p1, q1, P2, p2, q2, P3, p3, q3, P4, p4, q4⟩) 32)) := (Below.refl _ _).alloc (Nat.le_refl _) _
      exact hK _ _ ((KeepsOthers.alloc _ _).from _) (fun g => g.go hbA) ⟨⟨hI.below hbA, hpre⟩, hB.alloc hB.size _⟩ ⟨W.heap.size, Blk.new W _ _, hI.kk.lt, NtRd.go hT hbA, rfl⟩
    case body =>
      rintro lp pre x a₁ W hlp ⟨⟨hI, hpre⟩, hB⟩ ⟨Bs, hX, hBs, hT, rfl⟩ hlt
      obtain ⟨i, ⟨P1, p1, q1, P2, p2, q2, P3, p3, q3, P4, p4, q4⟩, y⟩ := x
      have hT' : NtRd W W.heap.size ⟨P1, p1, q1, P2, p2, q2, P3, p3, q3, P4, p4, q4⟩ y := hT
      obtain ⟨k, hk0⟩ : ∃ k, k = pre.length := ⟨_, rfl⟩
      obtain ⟨a, ha0⟩ : ∃ a, a = i0 + k := ⟨_, rfl⟩
      rw [← hk0] at hI hlt
      rw [← ha0] at hI
      have hk64 : k < 1466015503659 := by
        have h1 : k < m := hlt
        omega
      have HPRE := Lib.hid hpre
      have HLT := Lib.hid hlt
      have HK0 := Lib.hid hk0
      have HA0 := Lib.hid ha0
      have HI := Lib.hid hI
      have kw : Below W.heap.size W W.drew := (Below.refl _ W).drew
      have hLR := HH.out.olds hI.ol
      clear hT hlt hk0 ha0 hpre
      rcases z with _ | _
      · have HNO := Lib.hid (show ¬ (saidG (pre ++ [(i, ⟨P1, p1, q1, P2, p2, q2, P3, p3, q3, P4, p4, q4⟩, y)]) <+: evG b L su (i0 : Int)) from fun h => by
          rw [HEV.out, if_neg (by decide), saidG_snoc] at h
          have := h.length_le
          simp at this)
        have HQ := Lib.hid fun W' (hb : Below W.heap.size W W') => (show W'.cell? ⟨w2.heap.size, 0, none⟩ = some (.bool false) ∧ W'.cell? ⟨w2.heap.size + 1, 0, none⟩ = some (.int .i64 (a : Int)) ∧ W'.cell? ⟨w.heap.size, 1, none⟩ = some (.slice D m d) ∧ W'.cell? ⟨Bs, 0, none⟩ = some (.slice P1 p1 q1) ∧ W'.cell? ⟨Bs, 1, none⟩ = some (.slice P2 p2 q2) ∧ W'.cell? ⟨Bs, 2, none⟩ = some (.slice P3 p3 q3) ∧ W'.cell? ⟨Bs, 3, none⟩ = some (.slice P4 p4 q4) from ⟨(hI.fo.go hb).cell 0, (hI.at_.go hb).cell 0, (hI.lg.go hb).cell 1, (hX.go hb).cell 0, (hX.go hb).cell 1, (hX.go hb).cell 2, (hX.go hb).cell 3⟩)
        clear hX hT' hLR hI
        gi_wp2
        refine region_round (S := (fun W' => W'.cell? ⟨w2.heap.size, 0, none⟩ = some (.bool false) ∧ W'.cell? ⟨w2.heap.size + 1, 0, none⟩ = some (.int .i64 (a : Int)) ∧ W'.cell? ⟨w.heap.size, 1, none⟩ = some (.slice D m d) ∧ W'.cell? ⟨Bs, 0, none⟩ = some (.slice P1 p1 q1) ∧ W'.cell? ⟨Bs, 1, none⟩ = some (.slice P2 p2 q2) ∧ W'.cell? ⟨Bs, 2, none⟩ = some (.slice P3 p3 q3) ∧ W'.cell? ⟨Bs, 3, none⟩ = some (.slice P4 p4 q4))) (by kernel_rfl) (by kernel_rfl) (by first | exact HQ.out _ kw) (fun KK hKK hHeld => ?_)
        refine wpAnyH_putD (i := 0) (d := 23) (v := ?_) rfl rfl (by kernel_rfl) (by kernel_rfl) (by kernel_rfl) (fun _ _ _ h => h) (Or.inl ⟨by kernel_rfl, ?_⟩) (by first | exact HQ.out _ kw) ?_
        rotate_left
        · (intro w hS; (try dsimp only at hS); go_simp <;> with_reducible rfl)
        try simp only [List.setIfInBounds_toArray, List.set_cons_zero, List.set_cons_succ]
        refine wpAnyH_putD (i := 1) (d := 24) (v := (.bool true)) rfl rfl (by kernel_rfl) (by kernel_rfl) (by kernel_rfl) (fun _ _ _ h => h) (Or.inl ⟨by kernel_rfl, ?_⟩) (by first | exact HQ.out _ kw) ?_
        · (intro w hS; (try dsimp only at hS); go_simp <;> with_reducible rfl)
        try simp only [List.setIfInBounds_toArray, List.set_cons_zero, List.set_cons_succ]
        refine wpAnyH_putD (i := 2) (d := 25) (v := ?_) rfl rfl (by kernel_rfl) (by kernel_rfl) (by kernel_rfl) (fun _ _ _ h => h) (Or.inl ⟨by kernel_rfl, ?_⟩) (by first | exact HQ.out _ kw) ?_
        rotate_left
        · (intro w hS; (try dsimp only at hS); go_simp <;> with_reducible rfl)
        try simp only [List.setIfInBounds_toArray, List.set_cons_zero, List.set_cons_succ]
        refine wpAnyH_putD (i := 3) (d := 26) (v := undef) rfl rfl (by kernel_rfl) (by kernel_rfl) (by kernel_rfl) (fun _ _ _ h => h) (Or.inr ⟨by kernel_rfl, rfl⟩) (by first | exact HQ.out _ kw) ?_
        try simp only [List.setIfInBounds_toArray, List.set_cons_zero, List.set_cons_succ]
        refine wpAnyH_putD (i := 4) (d := 27) (v := undef) rfl rfl (by kernel_rfl) (by kernel_rfl) (by kernel_rfl) (fun _ _ _ h => h) (Or.inr ⟨by kernel_rfl, rfl⟩) (by first | exact HQ.out _ kw) ?_
        try simp only [List.setIfInBounds_toArray, List.set_cons_zero, List.set_cons_succ]
        refine wpAnyH_putD (i := 5) (d := 28) (v := undef) rfl rfl (by kernel_rfl) (by kernel_rfl) (by kernel_rfl) (fun _ _ _ h => h) (Or.inr ⟨by kernel_rfl, rfl⟩) (by first | exact HQ.out _ kw) ?_
        try simp only [List.setIfInBounds_toArray, List.set_cons_zero, List.set_cons_succ]
        refine wpAnyH_putD (i := 6) (d := 29) (v := ?_) rfl rfl (by kernel_rfl) (by kernel_rfl) (by kernel_rfl) (fun _ _ _ h => h) (Or.inl ⟨by kernel_rfl, ?_⟩) (by first | exact HQ.out _ kw) ?_
        rotate_left
        · (intro w hS; (try dsimp only at hS); go_simp <;> with_reducible rfl)
        try simp only [List.setIfInBounds_toArray, List.set_cons_zero, List.set_cons_succ]
        refine wpAnyH_putD (i := 7) (d := 30) (v := ?_) rfl rfl (by kernel_rfl) (by kernel_rfl) (by kernel_rfl) (fun _ _ _ h => h) (Or.inl ⟨by kernel_rfl, ?_⟩) (by first | exact HQ.out _ kw) ?_
        rotate_left
        · (intro w hS; (try dsimp only at hS); go_simp <;> with_reducible rfl)
        try simp only [List.setIfInBounds_toArray, List.set_cons_zero, List.set_cons_succ]
        refine wpAnyH_putD (i := 8) (d := 31) (v := undef) rfl rfl (by kernel_rfl) (by kernel_rfl) (by kernel_rfl) (fun _ _ _ h => h) (Or.inr ⟨by kernel_rfl, rfl⟩) (by first | exact HQ.out _ kw) ?_
        try simp only [List.setIfInBounds_toArray, List.set_cons_zero, List.set_cons_succ]
        refine wpAnyH_putD (i := 9) (d := 32) (v := undef) rfl rfl (by kernel_rfl) (by kernel_rfl) (by kernel_rfl) (fun _ _ _ h => h) (Or.inr ⟨by kernel_rfl, rfl⟩) (by first | exact HQ.out _ kw) ?_
        try simp only [List.setIfInBounds_toArray, List.set_cons_zero, List.set_cons_succ]
        refine wpAnyH_putD (i := 10) (d := 33) (v := undef) rfl rfl (by kernel_rfl) (by kernel_rfl) (by kernel_rfl) (fun _ _ _ h => h) (Or.inr ⟨by kernel_rfl, rfl⟩) (by first | exact HQ.out _ kw) ?_
        try simp only [List.setIfInBounds_toArray, List.set_cons_zero, List.set_cons_succ]
        refine wpAnyH_putD (i := 11) (d := 34) (v := undef) rfl rfl (by kernel_rfl) (by kernel_rfl) (by kernel_rfl) (fun _ _ _ h => h) (Or.inr ⟨by kernel_rfl, rfl⟩) (by first | exact HQ.out _ kw) ?_
        try simp only [List.setIfInBounds_toArray, List.set_cons_zero, List.set_cons_succ]
        refine wpAnyH_putD (i := 12) (d := 35) (v := undef) rfl rfl (by kernel_rfl) (by kernel_rfl) (by kernel_rfl) (fun _ _ _ h => h) (Or.inr ⟨by kernel_rfl, rfl⟩) (by first | exact HQ.out _ kw) ?_
        try simp only [List.setIfInBounds_toArray, List.set_cons_zero, List.set_cons_succ]
        refine wpAnyH_putD (i := 13) (d := 36) (v := ?_) rfl rfl (by kernel_rfl) (by kernel_rfl) (by kernel_rfl) (fun _ _ _ h => h) (Or.inl ⟨by kernel_rfl, ?_⟩) (by first | exact HQ.out _ kw) ?_
        rotate_left
        · (intro w hS; (try dsimp only at hS); go_simp <;> with_reducible rfl)
        try simp only [List.setIfInBounds_toArray, List.set_cons_zero, List.set_cons_succ]
        refine wpAnyH_putD (i := 14) (d := 37) (v := ?_) rfl rfl (by kernel_rfl) (by kernel_rfl) (by kernel_rfl) (fun _ _ _ h => h) (Or.inl ⟨by kernel_rfl, ?_⟩) (by first | exact HQ.out _ kw) ?_
        rotate_left
        · (intro w hS; (try dsimp only at hS); go_simp <;> with_reducible rfl)
        try simp only [List.setIfInBounds_toArray, List.set_cons_zero, List.set_cons_succ]
        refine wpAnyH_putD (i := 15) (d := 38) (v := undef) rfl rfl (by kernel_rfl) (by kernel_rfl) (by kernel_rfl) (fun _ _ _ h => h) (Or.inr ⟨by kernel_rfl, rfl⟩) (by first | exact HQ.out _ kw) ?_
        try simp only [List.setIfInBounds_toArray, List.set_cons_zero, List.set_cons_succ]
        refine wpAnyH_putD (i := 16) (d := 39) (v := undef) rfl rfl (by kernel_rfl) (by kernel_rfl) (by kernel_rfl) (fun _ _ _ h => h) (Or.inr ⟨by kernel_rfl, rfl⟩) (by first | exact HQ.out _ kw) ?_
        try simp only [List.setIfInBounds_toArray, List.set_cons_zero, List.set_cons_succ]
        refine wpAnyH_putD (i := 17) (d := 40) (v := undef) rfl rfl (by kernel_rfl) (by kernel_rfl) (by kernel_rfl) (fun _ _ _ h => h) (Or.inr ⟨by kernel_rfl, rfl⟩) (by first | exact HQ.out _ kw) ?_
        try simp only [List.setIfInBounds_toArray, List.set_cons_zero, List.set_cons_succ]
        refine wpAnyH_putD (i := 18) (d := 41) (v := undef) rfl rfl (by kernel_rfl) (by kernel_rfl) (by kernel_rfl) (fun _ _ _ h => h) (Or.inr ⟨by kernel_rfl, rfl⟩) (by first | exact HQ.out _ kw) ?_
        try simp only [List.setIfInBounds_toArray, List.set_cons_zero, List.set_cons_succ]
        refine wpAnyH_putD (i := 19) (d := 42) (v := undef) rfl rfl (by kernel_rfl) (by kernel_rfl) (by kernel_rfl) (fun _ _ _ h => h) (Or.inr ⟨by kernel_rfl, rfl⟩) (by first | exact HQ.out _ kw) ?_
        try simp only [List.setIfInBounds_toArray, List.set_cons_zero, List.set_cons_succ]
        refine wpAnyH_putD (i := 20) (d := 43) (v := undef) rfl rfl (by kernel_rfl) (by kernel_rfl) (by kernel_rfl) (fun _ _ _ h => h) (Or.inr ⟨by kernel_rfl, rfl⟩) (by first | exact HQ.out _ kw) ?_
        try simp only [List.setIfInBounds_toArray, List.set_cons_zero, List.set_cons_succ]
        refine wpAnyH_putD (i := 21) (d := 44) (v := undef) rfl rfl (by kernel_rfl) (by kernel_rfl) (by kernel_rfl) (fun _ _ _ h => h) (Or.inr ⟨by kernel_rfl, rfl⟩) (by first | exact HQ.out _ kw) ?_
        try simp only [List.setIfInBounds_toArray, List.set_cons_zero, List.set_cons_succ]
        refine wpAnyH_putD (i := 22) (d := 45) (v := undef) rfl rfl (by kernel_rfl) (by kernel_rfl) (by kernel_rfl) (fun _ _ _ h => h) (Or.inr ⟨by kernel_rfl, rfl⟩) (by first | exact HQ.out _ kw) ?_
        try simp only [List.setIfInBounds_toArray, List.set_cons_zero, List.set_cons_succ]
        refine wpAnyH_putD (i := 23) (d := 46) (v := ?_) rfl rfl (by kernel_rfl) (by kernel_rfl) (by kernel_rfl) (fun _ _ _ h => h) (Or.inl ⟨by kernel_rfl, ?_⟩) (by first | exact HQ.out _ kw) ?_
        rotate_left
        · (intro w hS; (try dsimp only at hS); go_simp <;> with_reducible rfl)
        try simp only [List.setIfInBounds_toArray, List.set_cons_zero, List.set_cons_succ]
        refine wpAnyH_done (by kernel_rfl) ?_ _
        refine Nrm.out (hKK _ _ ?_)
        have hIV := HI.out.below kw
        have f4 := hIV.re.frozen 0
        have q4 := hIV.re.cell 0
        gi_wp2
        refine ⟨((keeps_belowG kw).trans (KeepsOthers.setCell _ _ _)).from _, ⟨rfl, false, a, k, hIV.setR hs2 false, fun h => absurd h HNO.out⟩, (hB.trans (kw.mono hB.size)).setCell (p := ⟨w.heap.size + 1 + 1, 0, none⟩) (by show _ ≤ w.heap.size + 1 + 1; omega) _⟩
      · have HEVT : evG b L su (i0 : Int) = evD i0 ((nts L).drop i0) := by rw [HEV.out, if_pos rfl]
        have hno : saidG (pre ++ [(i, ⟨P1, p1, q1, P2, p2, q2, P3, p3, q3, P4, p4, q4⟩, y)]) <+: evG b L su (i0 : Int) → i = a ∧ (nts L)[a]? = some y := fun h => by
          rw [HEVT] at h
          obtain ⟨h1, h2⟩ := said_at h
          rw [List.getElem?_drop, ← HK0.out, ← HA0.out] at h1
          rw [← HK0.out, ← HA0.out] at h2
          exact ⟨h2, h1⟩
        by_cases ei : i = a
        · subst ei
          have he : ((i : Int) != (i : Int)) = false := by simp
          by_cases hlt2 : i < m
          · have hkk : decide (m ≤ i) = false := decide_eq_false (by omega)
            have hkL : i < L.length := by rw [HLN.out]; exact hlt2
            obtain ⟨bb, o, hDe, hab, g0, g1, g2, g3⟩ := hLR.ns.note hkL
            have hDe : D = some ⟨bb, o, none⟩ := hDe
            subst hDe
            have hrd := hLR.ns.each _ (List.getElem_mem hkL)
            have hat : (nts L)[i]? = some L[i].2 := by rw [List.getElem?_eq_getElem (by rw [nts_len]; exact hkL), nts_at L i hkL]
            generalize L[i] = p at g0 g1 g2 g3 hrd hat
            obtain ⟨⟨R1, r1, s1, R2, r2, s2, R3, r3, s3, R4, r4, s4⟩, z⟩ := p
            dsimp only at g0 g1 g2 g3 hrd hat
            have hSame := fun (V : World) (hb : Below W.heap.size W V) => refNtSame_any ⟨P1, p1, q1, P2, p2, q2, P3, p3, q3, P4, p4, q4⟩ ⟨R1, r1, s1, R2, r2, s2, R3, r3, s3, R4, r4, s4⟩ y z V (hT'.go hb) (hrd.go hb)
            have HQ := Lib.hid fun W' (hb : Below W.heap.size W W') => (show W'.cell? ⟨w2.heap.size, 0, none⟩ = some (.bool true) ∧ W'.cell? ⟨w2.heap.size + 1, 0, none⟩ = some (.int .i64 (i : Int)) ∧ W'.cell? ⟨w.heap.size, 1, none⟩ = some (.slice (some ⟨bb, o, none⟩) m d) ∧ W'.cell? ⟨Bs, 0, none⟩ = some (.slice P1 p1 q1) ∧ W'.cell? ⟨Bs, 1, none⟩ = some (.slice P2 p2 q2) ∧ W'.cell? ⟨Bs, 2, none⟩ = some (.slice P3 p3 q3) ∧ W'.cell? ⟨Bs, 3, none⟩ = some (.slice P4 p4 q4) ∧ W'.cell? ⟨bb, o + i * 4, none⟩ = some (.slice R1 r1 s1) ∧ W'.cell? ⟨bb, o + i * 4 + 1, none⟩ = some (.slice R2 r2 s2) ∧ W'.cell? ⟨bb, o + i * 4 + 2, none⟩ = some (.slice R3 r3 s3) ∧ W'.cell? ⟨bb, o + i * 4 + 3, none⟩ = some (.slice R4 r4 s4) from ⟨(hI.fo.go hb).cell 0, (hI.at_.go hb).cell 0, (hI.lg.go hb).cell 1, (hX.go hb).cell 0, (hX.go hb).cell 1, (hX.go hb).cell 2, (hX.go hb).cell 3, (hb.cell (p := ⟨bb, o + i * 4, none⟩) hab).trans g0, (hb.cell (p := ⟨bb, o + i * 4 + 1, none⟩) hab).trans g1, (hb.cell (p := ⟨bb, o + i * 4 + 2, none⟩) hab).trans g2, (hb.cell (p := ⟨bb, o + i * 4 + 3, none⟩) hab).trans g3⟩)
            rcases hsm : ntSame y z with _ | _
            · have HNO := Lib.hid (show ¬ (saidG (pre ++ [(i, ⟨P1, p1, q1, P2, p2, q2, P3, p3, q3, P4, p4, q4⟩, y)]) <+: evG b L su (i0 : Int)) from fun h => by
                have h2 := (hno h).2
                rw [hat, Option.some.injEq] at h2
                rw [h2, ntSame_self] at hsm
                cases hsm)
              rw [hsm] at hSame
              have G := Lib.hid hSame
              clear hX hT' hLR hI hSame hsm hno HEVT hat hrd g0 g1 g2 g3 hkL
              gi_wp2
              refine region_round (S := (fun W' => W'.cell? ⟨w2.heap.size, 0, none⟩ = some (.bool true) ∧ W'.cell? ⟨w2.heap.size + 1, 0, none⟩ = some (.int .i64 (i : Int)) ∧ W'.cell? ⟨w.heap.size, 1, none⟩ = some (.slice (some ⟨bb, o, none⟩) m d) ∧ W'.cell? ⟨Bs, 0, none⟩ = some (.slice P1 p1 q1) ∧ W'.cell? ⟨Bs, 1, none⟩ = some (.slice P2 p2 q2) ∧ W'.cell? ⟨Bs, 2, none⟩ = some (.slice P3 p3 q3) ∧ W'.cell? ⟨Bs, 3, none⟩ = some (.slice P4 p4 q4) ∧ W'.cell? ⟨bb, o + i * 4, none⟩ = some (.slice R1 r1 s1) ∧ W'.cell? ⟨bb, o + i * 4 + 1, none⟩ = some (.slice R2 r2 s2) ∧ W'.cell? ⟨bb, o + i * 4 + 2, none⟩ = some (.slice R3 r3 s3) ∧ W'.cell? ⟨bb, o + i * 4 + 3, none⟩ = some (.slice R4 r4 s4))) (by kernel_rfl) (by kernel_rfl) (by first | exact HQ.out _ kw) (fun KK hKK hHeld => ?_)
              refine wpAnyH_putD (i := 0) (d := 23) (v := ?_) rfl rfl (by kernel_rfl) (by kernel_rfl) (by kernel_rfl) (fun _ _ _ h => h) (Or.inl ⟨by kernel_rfl, ?_⟩) (by first | exact HQ.out _ kw) ?_
              rotate_left
              · (intro w hS; (try dsimp only at hS); go_simp <;> with_reducible rfl)
              try simp only [List.setIfInBounds_toArray, List.set_cons_zero, List.set_cons_succ]
              refine wpAnyH_putD (i := 1) (d := 24) (v := (.bool false)) rfl rfl (by kernel_rfl) (by kernel_rfl) (by kernel_rfl) (fun _ _ _ h => h) (Or.inl ⟨by kernel_rfl, ?_⟩) (by first | exact HQ.out _ kw) ?_
              · (intro w hS; (try dsimp only at hS); go_simp <;> with_reducible rfl)
              try simp only [List.setIfInBounds_toArray, List.set_cons_zero, List.set_cons_succ]
              refine wpAnyH_putD (i := 2) (d := 25) (v := ?_) rfl rfl (by kernel_rfl) (by kernel_rfl) (by kernel_rfl) (fun _ _ _ h => h) (Or.inl ⟨by kernel_rfl, ?_⟩) (by first | exact HQ.out _ kw) ?_
              rotate_left
              · (intro w hS; (try dsimp only at hS); go_simp <;> with_reducible rfl)
              try simp only [List.setIfInBounds_toArray, List.set_cons_zero, List.set_cons_succ]
              refine wpAnyH_putD (i := 3) (d := 26) (v := ?_) rfl rfl (by kernel_rfl) (by kernel_rfl) (by kernel_rfl) (fun _ _ _ h => h) (Or.inl ⟨by kernel_rfl, ?_⟩) (by first | exact HQ.out _ kw) ?_
              rotate_left
              · (intro w hS; (try dsimp only at hS); go_simp <;> with_reducible rfl)
              try simp only [List.setIfInBounds_toArray, List.set_cons_zero, List.set_cons_succ]
              refine wpAnyH_putD (i := 4) (d := 27) (v := ?_) rfl rfl (by kernel_rfl) (by kernel_rfl) (by kernel_rfl) (fun _ _ _ h => h) (Or.inl ⟨by kernel_rfl, ?_⟩) (by first | exact HQ.out _ kw) ?_
              rotate_left
              · (intro w hS; (try dsimp only at hS); go_simp <;> with_reducible rfl)
              try simp only [List.setIfInBounds_toArray, List.set_cons_zero, List.set_cons_succ]
              refine wpAnyH_putD (i := 5) (d := 28) (v := (.bool false)) rfl rfl (by kernel_rfl) (by kernel_rfl) (by kernel_rfl) (fun _ _ _ h => h) (Or.inl ⟨by kernel_rfl, ?_⟩) (by first | exact HQ.out _ kw) ?_
              · (intro w hS; (try dsimp only at hS); go_simp <;> with_reducible rfl)
              try simp only [List.setIfInBounds_toArray, List.set_cons_zero, List.set_cons_succ]
              refine wpAnyH_putD (i := 6) (d := 29) (v := ?_) rfl rfl (by kernel_rfl) (by kernel_rfl) (by kernel_rfl) (fun _ _ _ h => h) (Or.inl ⟨by kernel_rfl, ?_⟩) (by first | exact HQ.out _ kw) ?_
              rotate_left
              · (intro w hS; (try dsimp only at hS); go_simp <;> with_reducible rfl)
              try simp only [List.setIfInBounds_toArray, List.set_cons_zero, List.set_cons_succ]
              refine wpAnyH_putD (i := 7) (d := 30) (v := ?_) rfl rfl (by kernel_rfl) (by kernel_rfl) (by kernel_rfl) (fun _ _ _ h => h) (Or.inl ⟨by kernel_rfl, ?_⟩) (by first | exact HQ.out _ kw) ?_
              rotate_left
              · (intro w hS; (try dsimp only at hS); go_simp <;> with_reducible rfl)
              try simp only [List.setIfInBounds_toArray, List.set_cons_zero, List.set_cons_succ]
              refine wpAnyH_putD (i := 8) (d := 31) (v := ?_) rfl rfl (by kernel_rfl) (by kernel_rfl) (by kernel_rfl) (fun _ _ _ h => h) (Or.inl ⟨by kernel_rfl, ?_⟩) (by first | exact HQ.out _ kw) ?_
              rotate_left
              · (intro w hS; (try dsimp only at hS); go_simp <;> with_reducible rfl)
              try simp only [List.setIfInBounds_toArray, List.set_cons_zero, List.set_cons_succ]
              refine wpAnyH_putD (i := 9) (d := 32) (v := ?_) rfl rfl (by kernel_rfl) (by kernel_rfl) (by kernel_rfl) (fun _ _ _ h => h) (Or.inl ⟨by kernel_rfl, ?_⟩) (by first | exact HQ.out _ kw) ?_
              rotate_left
              · (intro w hS; (try dsimp only at hS); go_simp <;> with_reducible rfl)
              try simp only [List.setIfInBounds_toArray, List.set_cons_zero, List.set_cons_succ]
              refine wpAnyH_putD (i := 10) (d := 33) (v := ?_) rfl rfl (by kernel_rfl) (by kernel_rfl) (by kernel_rfl) (fun _ _ _ h => h) (Or.inl ⟨by kernel_rfl, ?_⟩) (by first | exact HQ.out _ kw) ?_
              rotate_left
              · (intro w hS; (try dsimp only at hS); go_simp <;> with_reducible rfl)
              try simp only [List.setIfInBounds_toArray, List.set_cons_zero, List.set_cons_succ]
              refine wpAnyH_putD (i := 11) (d := 34) (v := ?_) rfl rfl (by kernel_rfl) (by kernel_rfl) (by kernel_rfl) (fun _ _ _ h => h) (Or.inl ⟨by kernel_rfl, ?_⟩) (by first | exact HQ.out _ kw) ?_
              rotate_left
              · (intro w hS; (try dsimp only at hS); go_simp <;> with_reducible rfl)
              try simp only [List.setIfInBounds_toArray, List.set_cons_zero, List.set_cons_succ]
              refine wpAnyH_putD (i := 12) (d := 35) (v := (.bool false)) rfl rfl (by kernel_rfl) (by kernel_rfl) (by kernel_rfl) (fun _ _ _ h => h) (Or.inl ⟨by kernel_rfl, ?_⟩) (by first | exact HQ.out _ kw) ?_
              · (intro w hS; (try dsimp only at hS); go_simp <;> with_reducible rfl)
              try simp only [List.setIfInBounds_toArray, List.set_cons_zero, List.set_cons_succ]
              refine wpAnyH_putD (i := 13) (d := 36) (v := ?_) rfl rfl (by kernel_rfl) (by kernel_rfl) (by kernel_rfl) (fun _ _ _ h => h) (Or.inl ⟨by kernel_rfl, ?_⟩) (by first | exact HQ.out _ kw) ?_
              rotate_left
              · (intro w hS; (try dsimp only at hS); go_simp <;> with_reducible rfl)
              try simp only [List.setIfInBounds_toArray, List.set_cons_zero, List.set_cons_succ]
              refine wpAnyH_putD (i := 14) (d := 37) (v := ?_) rfl rfl (by kernel_rfl) (by kernel_rfl) (by kernel_rfl) (fun _ _ _ h => h) (Or.inl ⟨by kernel_rfl, ?_⟩) (by first | exact HQ.out _ kw) ?_
              rotate_left
              · (intro w hS; (try dsimp only at hS); go_simp <;> with_reducible rfl)
              try simp only [List.setIfInBounds_toArray, List.set_cons_zero, List.set_cons_succ]
              refine wpAnyH_putD (i := 15) (d := 38) (v := ?_) rfl rfl (by kernel_rfl) (by kernel_rfl) (by kernel_rfl) (fun _ _ _ h => h) (Or.inl ⟨by kernel_rfl, ?_⟩) (by first | exact HQ.out _ kw) ?_
              rotate_left
              · (intro w hS; (try dsimp only at hS); go_simp <;> with_reducible rfl)
              try simp only [List.setIfInBounds_toArray, List.set_cons_zero, List.set_cons_succ]
              refine wpAnyH_putD (i := 16) (d := 39) (v := ?_) rfl rfl (by kernel_rfl) (by kernel_rfl) (by kernel_rfl) (fun _ _ _ h => h) (Or.inl ⟨by kernel_rfl, ?_⟩) (by first | exact HQ.out _ kw) ?_
              rotate_left
              · (intro w hS; (try dsimp only at hS); go_simp <;> with_reducible rfl)
              try simp only [List.setIfInBounds_toArray, List.set_cons_zero, List.set_cons_succ]
              refine wpAnyH_putD (i := 17) (d := 40) (v := ?_) rfl rfl (by kernel_rfl) (by kernel_rfl) (by kernel_rfl) (fun _ _ _ h => h) (Or.inl ⟨by kernel_rfl, ?_⟩) (by first | exact HQ.out _ kw) ?_
              rotate_left
              · (intro w hS; (try dsimp only at hS); go_simp <;> with_reducible rfl)
              try simp only [List.setIfInBounds_toArray, List.set_cons_zero, List.set_cons_succ]
              refine wpAnyH_putD (i := 18) (d := 41) (v := ?_) rfl rfl (by kernel_rfl) (by kernel_rfl) (by kernel_rfl) (fun _ _ _ h => h) (Or.inl ⟨by kernel_rfl, ?_⟩) (by first | exact HQ.out _ kw) ?_
              rotate_left
              · (intro w hS; (try dsimp only at hS); go_simp <;> with_reducible rfl)
              try simp only [List.setIfInBounds_toArray, List.set_cons_zero, List.set_cons_succ]
              refine wpAnyH_putD (i := 19) (d := 42) (v := ?_) rfl rfl (by kernel_rfl) (by kernel_rfl) (by kernel_rfl) (fun _ _ _ h => h) (Or.inl ⟨by kernel_rfl, ?_⟩) (by first | exact HQ.out _ kw) ?_
              rotate_left
              · (intro w hS; (try dsimp only at hS); go_simp <;> with_reducible rfl)
              try simp only [List.setIfInBounds_toArray, List.set_cons_zero, List.set_cons_succ]
              refine wpAnyH_putD (i := 20) (d := 43) (v := ?_) rfl rfl (by kernel_rfl) (by kernel_rfl) (by kernel_rfl) (fun _ _ _ h => h) (Or.inl ⟨by kernel_rfl, ?_⟩) (by first | exact HQ.out _ kw) ?_
              rotate_left
              · (intro w hS; (try dsimp only at hS); go_simp <;> with_reducible rfl)
              try simp only [List.setIfInBounds_toArray, List.set_cons_zero, List.set_cons_succ]
              refine wpAnyH_ready (rs := [21]) (by kernel_rfl) (by simp) ?_
              refine AllReadyH.cons rfl (fun K hK => ?_) AllReadyH.nil
              go_simp
              refine (G.out _ kw).mono ?_
              rintro e V ⟨rfl, hb'⟩
              have kw := below_then kw (Nat.le_refl _) hb'
              clear hb'
              refine hK.out _ _ (by first | exact HQ.out _ kw) (fun hHeld => ?_)
              clear hK K
              refine wpAnyH_putD (i := 22) (d := 45) (v := ?_) rfl rfl (by kernel_rfl) (by kernel_rfl) (by kernel_rfl) (fun _ _ _ h => h) (Or.inl ⟨by kernel_rfl, ?_⟩) (by first | exact HQ.out _ kw) ?_
              rotate_left
              · (intro w hS; (try dsimp only at hS); go_simp <;> with_reducible rfl)
              try simp only [List.setIfInBounds_toArray, List.set_cons_zero, List.set_cons_succ]
              refine wpAnyH_putD (i := 23) (d := 46) (v := ?_) rfl rfl (by kernel_rfl) (by kernel_rfl) (by kernel_rfl) (fun _ _ _ h => h) (Or.inl ⟨by kernel_rfl, ?_⟩) (by first | exact HQ.out _ kw) ?_
              rotate_left
              · (intro w hS; (try dsimp only at hS); go_simp <;> with_reducible rfl)
              try simp only [List.setIfInBounds_toArray, List.set_cons_zero, List.set_cons_succ]
              refine wpAnyH_done (by kernel_rfl) ?_ _
              refine Nrm.out (hKK _ _ ?_)
              have hIV := HI.out.below kw
              have f4 := hIV.re.frozen 0
              have q4 := hIV.re.cell 0
              gi_wp2
              refine ⟨((keeps_belowG kw).trans (KeepsOthers.setCell _ _ _)).from _, ⟨rfl, false, i, k, hIV.setR hs2 false, fun h => absurd h HNO.out⟩, (hB.trans (kw.mono hB.size)).setCell (p := ⟨w.heap.size + 1 + 1, 0, none⟩) (by show _ ≤ w.heap.size + 1 + 1; omega) _⟩
            · have hyz := (ntSame_iff y z).1 hsm
              have HYES := Lib.hid (show saidG (pre ++ [(i, ⟨P1, p1, q1, P2, p2, q2, P3, p3, q3, P4, p4, q4⟩, y)]) <+: evG b L su (i0 : Int) by
                rw [HEVT]
                exact said_next (by rw [← HEVT]; exact HPRE.out) (by rw [List.getElem?_drop, ← HK0.out, ← HA0.out, hat, hyz]) (by rw [← HK0.out, ← HA0.out]))
              rw [hsm] at hSame
              have G := Lib.hid hSame
              clear hX hT' hLR hI hSame hsm hno HEVT hat hrd g0 g1 g2 g3 hkL hyz
              by_cases e3 : ((k : Int) + 1 == most) = true
              · gi_wp2
                refine region_round (S := (fun W' => W'.cell? ⟨w2.heap.size, 0, none⟩ = some (.bool true) ∧ W'.cell? ⟨w2.heap.size + 1, 0, none⟩ = some (.int .i64 (i : Int)) ∧ W'.cell? ⟨w.heap.size, 1, none⟩ = some (.slice (some ⟨bb, o, none⟩) m d) ∧ W'.cell? ⟨Bs, 0, none⟩ = some (.slice P1 p1 q1) ∧ W'.cell? ⟨Bs, 1, none⟩ = some (.slice P2 p2 q2) ∧ W'.cell? ⟨Bs, 2, none⟩ = some (.slice P3 p3 q3) ∧ W'.cell? ⟨Bs, 3, none⟩ = some (.slice P4 p4 q4) ∧ W'.cell? ⟨bb, o + i * 4, none⟩ = some (.slice R1 r1 s1) ∧ W'.cell? ⟨bb, o + i * 4 + 1, none⟩ = some (.slice R2 r2 s2) ∧ W'.cell? ⟨bb, o + i * 4 + 2, none⟩ = some (.slice R3 r3 s3) ∧ W'.cell? ⟨bb, o + i * 4 + 3, none⟩ = some (.slice R4 r4 s4))) (by kernel_rfl) (by kernel_rfl) (by first | exact HQ.out _ kw) (fun KK hKK hHeld => ?_)
                refine wpAnyH_putD (i := 0) (d := 23) (v := ?_) rfl rfl (by kernel_rfl) (by kernel_rfl) (by kernel_rfl) (fun _ _ _ h => h) (Or.inl ⟨by kernel_rfl, ?_⟩) (by first | exact HQ.out _ kw) ?_
                rotate_left
                · (intro w hS; (try dsimp only at hS); go_simp <;> with_reducible rfl)
                try simp only [List.setIfInBounds_toArray, List.set_cons_zero, List.set_cons_succ]
                refine wpAnyH_putD (i := 1) (d := 24) (v := (.bool false)) rfl rfl (by kernel_rfl) (by kernel_rfl) (by kernel_rfl) (fun _ _ _ h => h) (Or.inl ⟨by kernel_rfl, ?_⟩) (by first | exact HQ.out _ kw) ?_
                · (intro w hS; (try dsimp only at hS); go_simp <;> with_reducible rfl)
                try simp only [List.setIfInBounds_toArray, List.set_cons_zero, List.set_cons_succ]
                refine wpAnyH_putD (i := 2) (d := 25) (v := ?_) rfl rfl (by kernel_rfl) (by kernel_rfl) (by kernel_rfl) (fun _ _ _ h => h) (Or.inl ⟨by kernel_rfl, ?_⟩) (by first | exact HQ.out _ kw) ?_
                rotate_left
                · (intro w hS; (try dsimp only at hS); go_simp <;> with_reducible rfl)
                try simp only [List.setIfInBounds_toArray, List.set_cons_zero, List.set_cons_succ]
                refine wpAnyH_putD (i := 3) (d := 26) (v := ?_) rfl rfl (by kernel_rfl) (by kernel_rfl) (by kernel_rfl) (fun _ _ _ h => h) (Or.inl ⟨by kernel_rfl, ?_⟩) (by first | exact HQ.out _ kw) ?_
                rotate_left
                · (intro w hS; (try dsimp only at hS); go_simp <;> with_reducible rfl)
                try simp only [List.setIfInBounds_toArray, List.set_cons_zero, List.set_cons_succ]
                refine wpAnyH_putD (i := 4) (d := 27) (v := ?_) rfl rfl (by kernel_rfl) (by kernel_rfl) (by kernel_rfl) (fun _ _ _ h => h) (Or.inl ⟨by kernel_rfl, ?_⟩) (by first | exact HQ.out _ kw) ?_
                rotate_left
                · (intro w hS; (try dsimp only at hS); go_simp <;> with_reducible rfl)
                try simp only [List.setIfInBounds_toArray, List.set_cons_zero, List.set_cons_succ]
                refine wpAnyH_putD (i := 5) (d := 28) (v := (.bool false)) rfl rfl (by kernel_rfl) (by kernel_rfl) (by kernel_rfl) (fun _ _ _ h => h) (Or.inl ⟨by kernel_rfl, ?_⟩) (by first | exact HQ.out _ kw) ?_
                · (intro w hS; (try dsimp only at hS); go_simp <;> with_reducible rfl)
                try simp only [List.setIfInBounds_toArray, List.set_cons_zero, List.set_cons_succ]
                refine wpAnyH_putD (i := 6) (d := 29) (v := ?_) rfl rfl (by kernel_rfl) (by kernel_rfl) (by kernel_rfl) (fun _ _ _ h => h) (Or.inl ⟨by kernel_rfl, ?_⟩) (by first | exact HQ.out _ kw) ?_
                rotate_left
                · (intro w hS; (try dsimp only at hS); go_simp <;> with_reducible rfl)
                try simp only [List.setIfInBounds_toArray, List.set_cons_zero, List.set_cons_succ]
                refine wpAnyH_putD (i := 7) (d := 30) (v := ?_) rfl rfl (by kernel_rfl) (by kernel_rfl) (by kernel_rfl) (fun _ _ _ h => h) (Or.inl ⟨by kernel_rfl, ?_⟩) (by first | exact HQ.out _ kw) ?_
                rotate_left
                · (intro w hS; (try dsimp only at hS); go_simp <;> with_reducible rfl)
                try simp only [List.setIfInBounds_toArray, List.set_cons_zero, List.set_cons_succ]
                refine wpAnyH_putD (i := 8) (d := 31) (v := ?_) rfl rfl (by kernel_rfl) (by kernel_rfl) (by kernel_rfl) (fun _ _ _ h => h) (Or.inl ⟨by kernel_rfl, ?_⟩) (by first | exact HQ.out _ kw) ?_
                rotate_left
                · (intro w hS; (try dsimp only at hS); go_simp <;> with_reducible rfl)
                try simp only [List.setIfInBounds_toArray, List.set_cons_zero, List.set_cons_succ]
                refine wpAnyH_putD (i := 9) (d := 32) (v := ?_) rfl rfl (by kernel_rfl) (by kernel_rfl) (by kernel_rfl) (fun _ _ _ h => h) (Or.inl ⟨by kernel_rfl, ?_⟩) (by first | exact HQ.out _ kw) ?_
                rotate_left
                · (intro w hS; (try dsimp only at hS); go_simp <;> with_reducible rfl)
                try simp only [List.setIfInBounds_toArray, List.set_cons_zero, List.set_cons_succ]
                refine wpAnyH_putD (i := 10) (d := 33) (v := ?_) rfl rfl (by kernel_rfl) (by kernel_rfl) (by kernel_rfl) (fun _ _ _ h => h) (Or.inl ⟨by kernel_rfl, ?_⟩) (by first | exact HQ.out _ kw) ?_
                rotate_left
                · (intro w hS; (try dsimp only at hS); go_simp <;> with_reducible rfl)
                try simp only [List.setIfInBounds_toArray, List.set_cons_zero, List.set_cons_succ]
                refine wpAnyH_putD (i := 11) (d := 34) (v := ?_) rfl rfl (by kernel_rfl) (by kernel_rfl) (by kernel_rfl) (fun _ _ _ h => h) (Or.inl ⟨by kernel_rfl, ?_⟩) (by first | exact HQ.out _ kw) ?_
                rotate_left
                · (intro w hS; (try dsimp only at hS); go_simp <;> with_reducible rfl)
                try simp only [List.setIfInBounds_toArray, List.set_cons_zero, List.set_cons_succ]
                refine wpAnyH_putD (i := 12) (d := 35) (v := (.bool false)) rfl rfl (by kernel_rfl) (by kernel_rfl) (by kernel_rfl) (fun _ _ _ h => h) (Or.inl ⟨by kernel_rfl, ?_⟩) (by first | exact HQ.out _ kw) ?_
                · (intro w hS; (try dsimp only at hS); go_simp <;> with_reducible rfl)
                try simp only [List.setIfInBounds_toArray, List.set_cons_zero, List.set_cons_succ]
                refine wpAnyH_putD (i := 13) (d := 36) (v := ?_) rfl rfl (by kernel_rfl) (by kernel_rfl) (by kernel_rfl) (fun _ _ _ h => h) (Or.inl ⟨by kernel_rfl, ?_⟩) (by first | exact HQ.out _ kw) ?_
                rotate_left
                · (intro w hS; (try dsimp only at hS); go_simp <;> with_reducible rfl)
                try simp only [List.setIfInBounds_toArray, List.set_cons_zero, List.set_cons_succ]
                refine wpAnyH_putD (i := 14) (d := 37) (v := ?_) rfl rfl (by kernel_rfl) (by kernel_rfl) (by kernel_rfl) (fun _ _ _ h => h) (Or.inl ⟨by kernel_rfl, ?_⟩) (by first | exact HQ.out _ kw) ?_
                rotate_left
                · (intro w hS; (try dsimp only at hS); go_simp <;> with_reducible rfl)
                try simp only [List.setIfInBounds_toArray, List.set_cons_zero, List.set_cons_succ]
                refine wpAnyH_putD (i := 15) (d := 38) (v := ?_) rfl rfl (by kernel_rfl) (by kernel_rfl) (by kernel_rfl) (fun _ _ _ h => h) (Or.inl ⟨by kernel_rfl, ?_⟩) (by first | exact HQ.out _ kw) ?_
                rotate_left
                · (intro w hS; (try dsimp only at hS); go_simp <;> with_reducible rfl)
                try simp only [List.setIfInBounds_toArray, List.set_cons_zero, List.set_cons_succ]
                refine wpAnyH_putD (i := 16) (d := 39) (v := ?_) rfl rfl (by kernel_rfl) (by kernel_rfl) (by kernel_rfl) (fun _ _ _ h => h) (Or.inl ⟨by kernel_rfl, ?_⟩) (by first | exact HQ.out _ kw) ?_
                rotate_left
                · (intro w hS; (try dsimp only at hS); go_simp <;> with_reducible rfl)
                try simp only [List.setIfInBounds_toArray, List.set_cons_zero, List.set_cons_succ]
                refine wpAnyH_putD (i := 17) (d := 40) (v := ?_) rfl rfl (by kernel_rfl) (by kernel_rfl) (by kernel_rfl) (fun _ _ _ h => h) (Or.inl ⟨by kernel_rfl, ?_⟩) (by first | exact HQ.out _ kw) ?_
                rotate_left
                · (intro w hS; (try dsimp only at hS); go_simp <;> with_reducible rfl)
                try simp only [List.setIfInBounds_toArray, List.set_cons_zero, List.set_cons_succ]
                refine wpAnyH_putD (i := 18) (d := 41) (v := ?_) rfl rfl (by kernel_rfl) (by kernel_rfl) (by kernel_rfl) (fun _ _ _ h => h) (Or.inl ⟨by kernel_rfl, ?_⟩) (by first | exact HQ.out _ kw) ?_
                rotate_left
                · (intro w hS; (try dsimp only at hS); go_simp <;> with_reducible rfl)
                try simp only [List.setIfInBounds_toArray, List.set_cons_zero, List.set_cons_succ]
                refine wpAnyH_putD (i := 19) (d := 42) (v := ?_) rfl rfl (by kernel_rfl) (by kernel_rfl) (by kernel_rfl) (fun _ _ _ h => h) (Or.inl ⟨by kernel_rfl, ?_⟩) (by first | exact HQ.out _ kw) ?_
                rotate_left
                · (intro w hS; (try dsimp only at hS); go_simp <;> with_reducible rfl)
                try simp only [List.setIfInBounds_toArray, List.set_cons_zero, List.set_cons_succ]
                refine wpAnyH_putD (i := 20) (d := 43) (v := ?_) rfl rfl (by kernel_rfl) (by kernel_rfl) (by kernel_rfl) (fun _ _ _ h => h) (Or.inl ⟨by kernel_rfl, ?_⟩) (by first | exact HQ.out _ kw) ?_
                rotate_left
                · (intro w hS; (try dsimp only at hS); go_simp <;> with_reducible rfl)
                try simp only [List.setIfInBounds_toArray, List.set_cons_zero, List.set_cons_succ]
                refine wpAnyH_ready (rs := [21]) (by kernel_rfl) (by simp) ?_
                refine AllReadyH.cons rfl (fun K hK => ?_) AllReadyH.nil
                go_simp
                refine (G.out _ kw).mono ?_
                rintro e V ⟨rfl, hb'⟩
                have kw := below_then kw (Nat.le_refl _) hb'
                clear hb'
                refine hK.out _ _ (by first | exact HQ.out _ kw) (fun hHeld => ?_)
                clear hK K
                refine wpAnyH_putD (i := 22) (d := 45) (v := ?_) rfl rfl (by kernel_rfl) (by kernel_rfl) (by kernel_rfl) (fun _ _ _ h => h) (Or.inl ⟨by kernel_rfl, ?_⟩) (by first | exact HQ.out _ kw) ?_
                rotate_left
                · (intro w hS; (try dsimp only at hS); go_simp <;> with_reducible rfl)
                try simp only [List.setIfInBounds_toArray, List.set_cons_zero, List.set_cons_succ]
                refine wpAnyH_putD (i := 23) (d := 46) (v := ?_) rfl rfl (by kernel_rfl) (by kernel_rfl) (by kernel_rfl) (fun _ _ _ h => h) (Or.inl ⟨by kernel_rfl, ?_⟩) (by first | exact HQ.out _ kw) ?_
                rotate_left
                · (intro w hS; (try dsimp only at hS); go_simp <;> with_reducible rfl)
                try simp only [List.setIfInBounds_toArray, List.set_cons_zero, List.set_cons_succ]
                refine wpAnyH_done (by kernel_rfl) ?_ _
                refine Nrm.out (hKK _ _ ?_)
                have hIV := HI.out.below kw
                have f4 := hIV.re.frozen 0
                have q4 := hIV.re.cell 0
                have f3 := hIV.at_.frozen 0
                have q3 := hIV.at_.cell 0
                have f5 := hIV.kk.frozen 0
                have q5 := hIV.kk.cell 0
                have qm := hIV.mo.cell 0
                gi_wp2
                refine ⟨((((keeps_belowG kw).trans (KeepsOthers.setCell _ _ _)).trans (KeepsOthers.setCell _ _ _)).trans (KeepsOthers.setCell _ _ _)).from _, ⟨rfl, true, i + 1, k + 1, ((hIV.setA hs2 (i + 1)).setK hs2 (k + 1)).setR hs2 true, fun _ => rfl⟩, (((hB.trans (kw.mono hB.size)).setCell (p := ⟨w2.heap.size + 1, 0, none⟩) (by show _ ≤ w2.heap.size + 1; omega) _).setCell (p := ⟨w2.heap.size + 1 + 1, 0, none⟩) (by show _ ≤ w2.heap.size + 1 + 1; omega) _).setCell (p := ⟨w.heap.size + 1 + 1, 0, none⟩) (by show _ ≤ w.heap.size + 1 + 1; omega) _⟩
              · have e3' : ((k : Int) + 1 == most) = false := by simpa using e3
                clear e3
                gi_wp2
                refine region_round (S := (fun W' => W'.cell? ⟨w2.heap.size, 0, none⟩ = some (.bool true) ∧ W'.cell? ⟨w2.heap.size + 1, 0, none⟩ = some (.int .i64 (i : Int)) ∧ W'.cell? ⟨w.heap.size, 1, none⟩ = some (.slice (some ⟨bb, o, none⟩) m d) ∧ W'.cell? ⟨Bs, 0, none⟩ = some (.slice P1 p1 q1) ∧ W'.cell? ⟨Bs, 1, none⟩ = some (.slice P2 p2 q2) ∧ W'.cell? ⟨Bs, 2, none⟩ = some (.slice P3 p3 q3) ∧ W'.cell? ⟨Bs, 3, none⟩ = some (.slice P4 p4 q4) ∧ W'.cell? ⟨bb, o + i * 4, none⟩ = some (.slice R1 r1 s1) ∧ W'.cell? ⟨bb, o + i * 4 + 1, none⟩ = some (.slice R2 r2 s2) ∧ W'.cell? ⟨bb, o + i * 4 + 2, none⟩ = some (.slice R3 r3 s3) ∧ W'.cell? ⟨bb, o + i * 4 + 3, none⟩ = some (.slice R4 r4 s4))) (by kernel_rfl) (by kernel_rfl) (by first | exact HQ.out _ kw) (fun KK hKK hHeld => ?_)
                refine wpAnyH_putD (i := 0) (d := 23) (v := ?_) rfl rfl (by kernel_rfl) (by kernel_rfl) (by kernel_rfl) (fun _ _ _ h => h) (Or.inl ⟨by kernel_rfl, ?_⟩) (by first | exact HQ.out _ kw) ?_
                rotate_left
                · (intro w hS; (try dsimp only at hS); go_simp <;> with_reducible rfl)
                try simp only [List.setIfInBounds_toArray, List.set_cons_zero, List.set_cons_succ]
                refine wpAnyH_putD (i := 1) (d := 24) (v := (.bool false)) rfl rfl (by kernel_rfl) (by kernel_rfl) (by kernel_rfl) (fun _ _ _ h => h) (Or.inl ⟨by kernel_rfl, ?_⟩) (by first | exact HQ.out _ kw) ?_
                · (intro w hS; (try dsimp only at hS); go_simp <;> with_reducible rfl)
                try simp only [List.setIfInBounds_toArray, List.set_cons_zero, List.set_cons_succ]
                refine wpAnyH_putD (i := 2) (d := 25) (v := ?_) rfl rfl (by kernel_rfl) (by kernel_rfl) (by kernel_rfl) (fun _ _ _ h => h) (Or.inl ⟨by kernel_rfl, ?_⟩) (by first | exact HQ.out _ kw) ?_
                rotate_left
                · (intro w hS; (try dsimp only at hS); go_simp <;> with_reducible rfl)
                try simp only [List.setIfInBounds_toArray, List.set_cons_zero, List.set_cons_succ]
                refine wpAnyH_putD (i := 3) (d := 26) (v := ?_) rfl rfl (by kernel_rfl) (by kernel_rfl) (by kernel_rfl) (fun _ _ _ h => h) (Or.inl ⟨by kernel_rfl, ?_⟩) (by first | exact HQ.out _ kw) ?_
                rotate_left
                · (intro w hS; (try dsimp only at hS); go_simp <;> with_reducible rfl)
                try simp only [List.setIfInBounds_toArray, List.set_cons_zero, List.set_cons_succ]
                refine wpAnyH_putD (i := 4) (d := 27) (v := ?_) rfl rfl (by kernel_rfl) (by kernel_rfl) (by kernel_rfl) (fun _ _ _ h => h) (Or.inl ⟨by kernel_rfl, ?_⟩) (by first | exact HQ.out _ kw) ?_
                rotate_left
                · (intro w hS; (try dsimp only at hS); go_simp <;> with_reducible rfl)
                try simp only [List.setIfInBounds_toArray, List.set_cons_zero, List.set_cons_succ]
                refine wpAnyH_putD (i := 5) (d := 28) (v := (.bool false)) rfl rfl (by kernel_rfl) (by kernel_rfl) (by kernel_rfl) (fun _ _ _ h => h) (Or.inl ⟨by kernel_rfl, ?_⟩) (by first | exact HQ.out _ kw) ?_
                · (intro w hS; (try dsimp only at hS); go_simp <;> with_reducible rfl)
                try simp only [List.setIfInBounds_toArray, List.set_cons_zero, List.set_cons_succ]
                refine wpAnyH_putD (i := 6) (d := 29) (v := ?_) rfl rfl (by kernel_rfl) (by kernel_rfl) (by kernel_rfl) (fun _ _ _ h => h) (Or.inl ⟨by kernel_rfl, ?_⟩) (by first | exact HQ.out _ kw) ?_
                rotate_left
                · (intro w hS; (try dsimp only at hS); go_simp <;> with_reducible rfl)
                try simp only [List.setIfInBounds_toArray, List.set_cons_zero, List.set_cons_succ]
                refine wpAnyH_putD (i := 7) (d := 30) (v := ?_) rfl rfl (by kernel_rfl) (by kernel_rfl) (by kernel_rfl) (fun _ _ _ h => h) (Or.inl ⟨by kernel_rfl, ?_⟩) (by first | exact HQ.out _ kw) ?_
                rotate_left
                · (intro w hS; (try dsimp only at hS); go_simp <;> with_reducible rfl)
                try simp only [List.setIfInBounds_toArray, List.set_cons_zero, List.set_cons_succ]
                refine wpAnyH_putD (i := 8) (d := 31) (v := ?_) rfl rfl (by kernel_rfl) (by kernel_rfl) (by kernel_rfl) (fun _ _ _ h => h) (Or.inl ⟨by kernel_rfl, ?_⟩) (by first | exact HQ.out _ kw) ?_
                rotate_left
                · (intro w hS; (try dsimp only at hS); go_simp <;> with_reducible rfl)
                try simp only [List.setIfInBounds_toArray, List.set_cons_zero, List.set_cons_succ]
                refine wpAnyH_putD (i := 9) (d := 32) (v := ?_) rfl rfl (by kernel_rfl) (by kernel_rfl) (by kernel_rfl) (fun _ _ _ h => h) (Or.inl ⟨by kernel_rfl, ?_⟩) (by first | exact HQ.out _ kw) ?_
                rotate_left
                · (intro w hS; (try dsimp only at hS); go_simp <;> with_reducible rfl)
                try simp only [List.setIfInBounds_toArray, List.set_cons_zero, List.set_cons_succ]
                refine wpAnyH_putD (i := 10) (d := 33) (v := ?_) rfl rfl (by kernel_rfl) (by kernel_rfl) (by kernel_rfl) (fun _ _ _ h => h) (Or.inl ⟨by kernel_rfl, ?_⟩) (by first | exact HQ.out _ kw) ?_
                rotate_left
                · (intro w hS; (try dsimp only at hS); go_simp <;> with_reducible rfl)
                try simp only [List.setIfInBounds_toArray, List.set_cons_zero, List.set_cons_succ]
                refine wpAnyH_putD (i := 11) (d := 34) (v := ?_) rfl rfl (by kernel_rfl) (by kernel_rfl) (by kernel_rfl) (fun _ _ _ h => h) (Or.inl ⟨by kernel_rfl, ?_⟩) (by first | exact HQ.out _ kw) ?_
                rotate_left
                · (intro w hS; (try dsimp only at hS); go_simp <;> with_reducible rfl)
                try simp only [List.setIfInBounds_toArray, List.set_cons_zero, List.set_cons_succ]
                refine wpAnyH_putD (i := 12) (d := 35) (v := (.bool false)) rfl rfl (by kernel_rfl) (by kernel_rfl) (by kernel_rfl) (fun _ _ _ h => h) (Or.inl ⟨by kernel_rfl, ?_⟩) (by first | exact HQ.out _ kw) ?_
                · (intro w hS; (try dsimp only at hS); go_simp <;> with_reducible rfl)
                try simp only [List.setIfInBounds_toArray, List.set_cons_zero, List.set_cons_succ]
                refine wpAnyH_putD (i := 13) (d := 36) (v := ?_) rfl rfl (by kernel_rfl) (by kernel_rfl) (by kernel_rfl) (fun _ _ _ h => h) (Or.inl ⟨by kernel_rfl, ?_⟩) (by first | exact HQ.out _ kw) ?_
                rotate_left
                · (intro w hS; (try dsimp only at hS); go_simp <;> with_reducible rfl)
                try simp only [List.setIfInBounds_toArray, List.set_cons_zero, List.set_cons_succ]
                refine wpAnyH_putD (i := 14) (d := 37) (v := ?_) rfl rfl (by kernel_rfl) (by kernel_rfl) (by kernel_rfl) (fun _ _ _ h => h) (Or.inl ⟨by kernel_rfl, ?_⟩) (by first | exact HQ.out _ kw) ?_
                rotate_left
                · (intro w hS; (try dsimp only at hS); go_simp <;> with_reducible rfl)
                try simp only [List.setIfInBounds_toArray, List.set_cons_zero, List.set_cons_succ]
                refine wpAnyH_putD (i := 15) (d := 38) (v := ?_) rfl rfl (by kernel_rfl) (by kernel_rfl) (by kernel_rfl) (fun _ _ _ h => h) (Or.inl ⟨by kernel_rfl, ?_⟩) (by first | exact HQ.out _ kw) ?_
                rotate_left
                · (intro w hS; (try dsimp only at hS); go_simp <;> with_reducible rfl)
                try simp only [List.setIfInBounds_toArray, List.set_cons_zero, List.set_cons_succ]
                refine wpAnyH_putD (i := 16) (d := 39) (v := ?_) rfl rfl (by kernel_rfl) (by kernel_rfl) (by kernel_rfl) (fun _ _ _ h => h) (Or.inl ⟨by kernel_rfl, ?_⟩) (by first | exact HQ.out _ kw) ?_
                rotate_left
                · (intro w hS; (try dsimp only at hS); go_simp <;> with_reducible rfl)
                try simp only [List.setIfInBounds_toArray, List.set_cons_zero, List.set_cons_succ]
                refine wpAnyH_putD (i := 17) (d := 40) (v := ?_) rfl rfl (by kernel_rfl) (by kernel_rfl) (by kernel_rfl) (fun _ _ _ h => h) (Or.inl ⟨by kernel_rfl, ?_⟩) (by first | exact HQ.out _ kw) ?_
                rotate_left
                · (intro w hS; (try dsimp only at hS); go_simp <;> with_reducible rfl)
                try simp only [List.setIfInBounds_toArray, List.set_cons_zero, List.set_cons_succ]
                refine wpAnyH_putD (i := 18) (d := 41) (v := ?_) rfl rfl (by kernel_rfl) (by kernel_rfl) (by kernel_rfl) (fun _ _ _ h => h) (Or.inl ⟨by kernel_rfl, ?_⟩) (by first | exact HQ.out _ kw) ?_
                rotate_left
                · (intro w hS; (try dsimp only at hS); go_simp <;> with_reducible rfl)
                try simp only [List.setIfInBounds_toArray, List.set_cons_zero, List.set_cons_succ]
                refine wpAnyH_putD (i := 19) (d := 42) (v := ?_) rfl rfl (by kernel_rfl) (by kernel_rfl) (by kernel_rfl) (fun _ _ _ h => h) (Or.inl ⟨by kernel_rfl, ?_⟩) (by first | exact HQ.out _ kw) ?_
                rotate_left
                · (intro w hS; (try dsimp only at hS); go_simp <;> with_reducible rfl)
                try simp only [List.setIfInBounds_toArray, List.set_cons_zero, List.set_cons_succ]
                refine wpAnyH_putD (i := 20) (d := 43) (v := ?_) rfl rfl (by kernel_rfl) (by kernel_rfl) (by kernel_rfl) (fun _ _ _ h => h) (Or.inl ⟨by kernel_rfl, ?_⟩) (by first | exact HQ.out _ kw) ?_
                rotate_left
                · (intro w hS; (try dsimp only at hS); go_simp <;> with_reducible rfl)
                try simp only [List.setIfInBounds_toArray, List.set_cons_zero, List.set_cons_succ]
                refine wpAnyH_ready (rs := [21]) (by kernel_rfl) (by simp) ?_
                refine AllReadyH.cons rfl (fun K hK => ?_) AllReadyH.nil
                go_simp
                refine (G.out _ kw).mono ?_
                rintro e V ⟨rfl, hb'⟩
                have kw := below_then kw (Nat.le_refl _) hb'
                clear hb'
                refine hK.out _ _ (by first | exact HQ.out _ kw) (fun hHeld => ?_)
                clear hK K
                refine wpAnyH_putD (i := 22) (d := 45) (v := ?_) rfl rfl (by kernel_rfl) (by kernel_rfl) (by kernel_rfl) (fun _ _ _ h => h) (Or.inl ⟨by kernel_rfl, ?_⟩) (by first | exact HQ.out _ kw) ?_
                rotate_left
                · (intro w hS; (try dsimp only at hS); go_simp <;> with_reducible rfl)
                try simp only [List.setIfInBounds_toArray, List.set_cons_zero, List.set_cons_succ]
                refine wpAnyH_putD (i := 23) (d := 46) (v := ?_) rfl rfl (by kernel_rfl) (by kernel_rfl) (by kernel_rfl) (fun _ _ _ h => h) (Or.inl ⟨by kernel_rfl, ?_⟩) (by first | exact HQ.out _ kw) ?_
                rotate_left
                · (intro w hS; (try dsimp only at hS); go_simp <;> with_reducible rfl)
                try simp only [List.setIfInBounds_toArray, List.set_cons_zero, List.set_cons_succ]
                refine wpAnyH_done (by kernel_rfl) ?_ _
                refine Nrm.out (hKK _ _ ?_)
                have hIV := HI.out.below kw
                have f4 := hIV.re.frozen 0
                have q4 := hIV.re.cell 0
                have f3 := hIV.at_.frozen 0
                have q3 := hIV.at_.cell 0
                have f5 := hIV.kk.frozen 0
                have q5 := hIV.kk.cell 0
                have qm := hIV.mo.cell 0
                gi_wp2
                refine ⟨(((keeps_belowG kw).trans (KeepsOthers.setCell _ _ _)).trans (KeepsOthers.setCell _ _ _)).from _, fun g => ((g.go kw).setCell (p := ⟨w2.heap.size + 1, 0, none⟩) (by show w2.heap.size + 1 ≠ _; omega) (by show w2.heap.size + 1 ≠ _; omega) (by show _ ≤ w2.heap.size + 1; omega) _).setCell (p := ⟨w2.heap.size + 1 + 1, 0, none⟩) (by show w2.heap.size + 1 + 1 ≠ _; omega) (by show w2.heap.size + 1 + 1 ≠ _; omega) (by show _ ≤ w2.heap.size + 1 + 1; omega) _, ⟨?_, HYES.out⟩, ((hB.trans (kw.mono hB.size)).setCell (p := ⟨w2.heap.size + 1, 0, none⟩) (by show _ ≤ w2.heap.size + 1; omega) _).setCell (p := ⟨w2.heap.size + 1 + 1, 0, none⟩) (by show _ ≤ w2.heap.size + 1 + 1; omega) _⟩
                rw [List.length_append, List.length_singleton, ← HK0.out, ← Nat.add_assoc, ← HA0.out]
                exact (hIV.setA hs2 (i + 1)).setK hs2 (k + 1)
          · have hkk : decide (m ≤ i) = true := decide_eq_true (by omega)
            have HNO := Lib.hid (show ¬ (saidG (pre ++ [(i, ⟨P1, p1, q1, P2, p2, q2, P3, p3, q3, P4, p4, q4⟩, y)]) <+: evG b L su (i0 : Int)) from fun h => by
              have h2 := (hno h).2
              rw [List.getElem?_eq_none (by rw [nts_len, HLN.out]; omega)] at h2
              cases h2)
            have HQ := Lib.hid fun W' (hb : Below W.heap.size W W') => (show W'.cell? ⟨w2.heap.size, 0, none⟩ = some (.bool true) ∧ W'.cell? ⟨w2.heap.size + 1, 0, none⟩ = some (.int .i64 (i : Int)) ∧ W'.cell? ⟨w.heap.size, 1, none⟩ = some (.slice D m d) ∧ W'.cell? ⟨Bs, 0, none⟩ = some (.slice P1 p1 q1) ∧ W'.cell? ⟨Bs, 1, none⟩ = some (.slice P2 p2 q2) ∧ W'.cell? ⟨Bs, 2, none⟩ = some (.slice P3 p3 q3) ∧ W'.cell? ⟨Bs, 3, none⟩ = some (.slice P4 p4 q4) from ⟨(hI.fo.go hb).cell 0, (hI.at_.go hb).cell 0, (hI.lg.go hb).cell 1, (hX.go hb).cell 0, (hX.go hb).cell 1, (hX.go hb).cell 2, (hX.go hb).cell 3⟩)
            clear hX hT' hLR hI hno HEVT
            gi_wp2
            refine region_round (S := (fun W' => W'.cell? ⟨w2.heap.size, 0, none⟩ = some (.bool true) ∧ W'.cell? ⟨w2.heap.size + 1, 0, none⟩ = some (.int .i64 (i : Int)) ∧ W'.cell? ⟨w.heap.size, 1, none⟩ = some (.slice D m d) ∧ W'.cell? ⟨Bs, 0, none⟩ = some (.slice P1 p1 q1) ∧ W'.cell? ⟨Bs, 1, none⟩ = some (.slice P2 p2 q2) ∧ W'.cell? ⟨Bs, 2, none⟩ = some (.slice P3 p3 q3) ∧ W'.cell? ⟨Bs, 3, none⟩ = some (.slice P4 p4 q4))) (by kernel_rfl) (by kernel_rfl) (by first | exact HQ.out _ kw) (fun KK hKK hHeld => ?_)
            refine wpAnyH_putD (i := 0) (d := 23) (v := ?_) rfl rfl (by kernel_rfl) (by kernel_rfl) (by kernel_rfl) (fun _ _ _ h => h) (Or.inl ⟨by kernel_rfl, ?_⟩) (by first | exact HQ.out _ kw) ?_
            rotate_left
            · (intro w hS; (try dsimp only at hS); go_simp <;> with_reducible rfl)
            try simp only [List.setIfInBounds_toArray, List.set_cons_zero, List.set_cons_succ]
            refine wpAnyH_putD (i := 1) (d := 24) (v := (.bool false)) rfl rfl (by kernel_rfl) (by kernel_rfl) (by kernel_rfl) (fun _ _ _ h => h) (Or.inl ⟨by kernel_rfl, ?_⟩) (by first | exact HQ.out _ kw) ?_
            · (intro w hS; (try dsimp only at hS); go_simp <;> with_reducible rfl)
            try simp only [List.setIfInBounds_toArray, List.set_cons_zero, List.set_cons_succ]
            refine wpAnyH_putD (i := 2) (d := 25) (v := ?_) rfl rfl (by kernel_rfl) (by kernel_rfl) (by kernel_rfl) (fun _ _ _ h => h) (Or.inl ⟨by kernel_rfl, ?_⟩) (by first | exact HQ.out _ kw) ?_
            rotate_left
            · (intro w hS; (try dsimp only at hS); go_simp <;> with_reducible rfl)
            try simp only [List.setIfInBounds_toArray, List.set_cons_zero, List.set_cons_succ]
            refine wpAnyH_putD (i := 3) (d := 26) (v := ?_) rfl rfl (by kernel_rfl) (by kernel_rfl) (by kernel_rfl) (fun _ _ _ h => h) (Or.inl ⟨by kernel_rfl, ?_⟩) (by first | exact HQ.out _ kw) ?_
            rotate_left
            · (intro w hS; (try dsimp only at hS); go_simp <;> with_reducible rfl)
            try simp only [List.setIfInBounds_toArray, List.set_cons_zero, List.set_cons_succ]
            refine wpAnyH_putD (i := 4) (d := 27) (v := ?_) rfl rfl (by kernel_rfl) (by kernel_rfl) (by kernel_rfl) (fun _ _ _ h => h) (Or.inl ⟨by kernel_rfl, ?_⟩) (by first | exact HQ.out _ kw) ?_
            rotate_left
            · (intro w hS; (try dsimp only at hS); go_simp <;> with_reducible rfl)
            try simp only [List.setIfInBounds_toArray, List.set_cons_zero, List.set_cons_succ]
            refine wpAnyH_putD (i := 5) (d := 28) (v := (.bool false)) rfl rfl (by kernel_rfl) (by kernel_rfl) (by kernel_rfl) (fun _ _ _ h => h) (Or.inl ⟨by kernel_rfl, ?_⟩) (by first | exact HQ.out _ kw) ?_
            · (intro w hS; (try dsimp only at hS); go_simp <;> with_reducible rfl)
            try simp only [List.setIfInBounds_toArray, List.set_cons_zero, List.set_cons_succ]
            refine wpAnyH_putD (i := 6) (d := 29) (v := ?_) rfl rfl (by kernel_rfl) (by kernel_rfl) (by kernel_rfl) (fun _ _ _ h => h) (Or.inl ⟨by kernel_rfl, ?_⟩) (by first | exact HQ.out _ kw) ?_
            rotate_left
            · (intro w hS; (try dsimp only at hS); go_simp <;> with_reducible rfl)
            try simp only [List.setIfInBounds_toArray, List.set_cons_zero, List.set_cons_succ]
            refine wpAnyH_putD (i := 7) (d := 30) (v := ?_) rfl rfl (by kernel_rfl) (by kernel_rfl) (by kernel_rfl) (fun _ _ _ h => h) (Or.inl ⟨by kernel_rfl, ?_⟩) (by first | exact HQ.out _ kw) ?_
            rotate_left
            · (intro w hS; (try dsimp only at hS); go_simp <;> with_reducible rfl)
            try simp only [List.setIfInBounds_toArray, List.set_cons_zero, List.set_cons_succ]
            refine wpAnyH_putD (i := 8) (d := 31) (v := ?_) rfl rfl (by kernel_rfl) (by kernel_rfl) (by kernel_rfl) (fun _ _ _ h => h) (Or.inl ⟨by kernel_rfl, ?_⟩) (by first | exact HQ.out _ kw) ?_
            rotate_left
            · (intro w hS; (try dsimp only at hS); go_simp <;> with_reducible rfl)
            try simp only [List.setIfInBounds_toArray, List.set_cons_zero, List.set_cons_succ]
            refine wpAnyH_putD (i := 9) (d := 32) (v := ?_) rfl rfl (by kernel_rfl) (by kernel_rfl) (by kernel_rfl) (fun _ _ _ h => h) (Or.inl ⟨by kernel_rfl, ?_⟩) (by first | exact HQ.out _ kw) ?_
            rotate_left
            · (intro w hS; (try dsimp only at hS); go_simp <;> with_reducible rfl)
            try simp only [List.setIfInBounds_toArray, List.set_cons_zero, List.set_cons_succ]
            refine wpAnyH_putD (i := 10) (d := 33) (v := ?_) rfl rfl (by kernel_rfl) (by kernel_rfl) (by kernel_rfl) (fun _ _ _ h => h) (Or.inl ⟨by kernel_rfl, ?_⟩) (by first | exact HQ.out _ kw) ?_
            rotate_left
            · (intro w hS; (try dsimp only at hS); go_simp <;> with_reducible rfl)
            try simp only [List.setIfInBounds_toArray, List.set_cons_zero, List.set_cons_succ]
            refine wpAnyH_putD (i := 11) (d := 34) (v := ?_) rfl rfl (by kernel_rfl) (by kernel_rfl) (by kernel_rfl) (fun _ _ _ h => h) (Or.inl ⟨by kernel_rfl, ?_⟩) (by first | exact HQ.out _ kw) ?_
            rotate_left
            · (intro w hS; (try dsimp only at hS); go_simp <;> with_reducible rfl)
            try simp only [List.setIfInBounds_toArray, List.set_cons_zero, List.set_cons_succ]
            refine wpAnyH_putD (i := 12) (d := 35) (v := (.bool true)) rfl rfl (by kernel_rfl) (by kernel_rfl) (by kernel_rfl) (fun _ _ _ h => h) (Or.inl ⟨by kernel_rfl, ?_⟩) (by first | exact HQ.out _ kw) ?_
            · (intro w hS; (try dsimp only at hS); go_simp <;> with_reducible rfl)
            try simp only [List.setIfInBounds_toArray, List.set_cons_zero, List.set_cons_succ]
            refine wpAnyH_putD (i := 13) (d := 36) (v := ?_) rfl rfl (by kernel_rfl) (by kernel_rfl) (by kernel_rfl) (fun _ _ _ h => h) (Or.inl ⟨by kernel_rfl, ?_⟩) (by first | exact HQ.out _ kw) ?_
            rotate_left
            · (intro w hS; (try dsimp only at hS); go_simp <;> with_reducible rfl)
            try simp only [List.setIfInBounds_toArray, List.set_cons_zero, List.set_cons_succ]
            refine wpAnyH_putD (i := 14) (d := 37) (v := ?_) rfl rfl (by kernel_rfl) (by kernel_rfl) (by kernel_rfl) (fun _ _ _ h => h) (Or.inl ⟨by kernel_rfl, ?_⟩) (by first | exact HQ.out _ kw) ?_
            rotate_left
            · (intro w hS; (try dsimp only at hS); go_simp <;> with_reducible rfl)
            try simp only [List.setIfInBounds_toArray, List.set_cons_zero, List.set_cons_succ]
            refine wpAnyH_putD (i := 15) (d := 38) (v := undef) rfl rfl (by kernel_rfl) (by kernel_rfl) (by kernel_rfl) (fun _ _ _ h => h) (Or.inr ⟨by kernel_rfl, rfl⟩) (by first | exact HQ.out _ kw) ?_
            try simp only [List.setIfInBounds_toArray, List.set_cons_zero, List.set_cons_succ]
            refine wpAnyH_putD (i := 16) (d := 39) (v := undef) rfl rfl (by kernel_rfl) (by kernel_rfl) (by kernel_rfl) (fun _ _ _ h => h) (Or.inr ⟨by kernel_rfl, rfl⟩) (by first | exact HQ.out _ kw) ?_
            try simp only [List.setIfInBounds_toArray, List.set_cons_zero, List.set_cons_succ]
            refine wpAnyH_putD (i := 17) (d := 40) (v := undef) rfl rfl (by kernel_rfl) (by kernel_rfl) (by kernel_rfl) (fun _ _ _ h => h) (Or.inr ⟨by kernel_rfl, rfl⟩) (by first | exact HQ.out _ kw) ?_
            try simp only [List.setIfInBounds_toArray, List.set_cons_zero, List.set_cons_succ]
            refine wpAnyH_putD (i := 18) (d := 41) (v := undef) rfl rfl (by kernel_rfl) (by kernel_rfl) (by kernel_rfl) (fun _ _ _ h => h) (Or.inr ⟨by kernel_rfl, rfl⟩) (by first | exact HQ.out _ kw) ?_
            try simp only [List.setIfInBounds_toArray, List.set_cons_zero, List.set_cons_succ]
            refine wpAnyH_putD (i := 19) (d := 42) (v := undef) rfl rfl (by kernel_rfl) (by kernel_rfl) (by kernel_rfl) (fun _ _ _ h => h) (Or.inr ⟨by kernel_rfl, rfl⟩) (by first | exact HQ.out _ kw) ?_
            try simp only [List.setIfInBounds_toArray, List.set_cons_zero, List.set_cons_succ]
            refine wpAnyH_putD (i := 20) (d := 43) (v := undef) rfl rfl (by kernel_rfl) (by kernel_rfl) (by kernel_rfl) (fun _ _ _ h => h) (Or.inr ⟨by kernel_rfl, rfl⟩) (by first | exact HQ.out _ kw) ?_
            try simp only [List.setIfInBounds_toArray, List.set_cons_zero, List.set_cons_succ]
            refine wpAnyH_putD (i := 21) (d := 44) (v := undef) rfl rfl (by kernel_rfl) (by kernel_rfl) (by kernel_rfl) (fun _ _ _ h => h) (Or.inr ⟨by kernel_rfl, rfl⟩) (by first | exact HQ.out _ kw) ?_
            try simp only [List.setIfInBounds_toArray, List.set_cons_zero, List.set_cons_succ]
            refine wpAnyH_putD (i := 22) (d := 45) (v := undef) rfl rfl (by kernel_rfl) (by kernel_rfl) (by kernel_rfl) (fun _ _ _ h => h) (Or.inr ⟨by kernel_rfl, rfl⟩) (by first | exact HQ.out _ kw) ?_
            try simp only [List.setIfInBounds_toArray, List.set_cons_zero, List.set_cons_succ]
            refine wpAnyH_putD (i := 23) (d := 46) (v := ?_) rfl rfl (by kernel_rfl) (by kernel_rfl) (by kernel_rfl) (fun _ _ _ h => h) (Or.inl ⟨by kernel_rfl, ?_⟩) (by first | exact HQ.out _ kw) ?_
            rotate_left
            · (intro w hS; (try dsimp only at hS); go_simp <;> with_reducible rfl)
            try simp only [List.setIfInBounds_toArray, List.set_cons_zero, List.set_cons_succ]
            refine wpAnyH_done (by kernel_rfl) ?_ _
            refine Nrm.out (hKK _ _ ?_)
            have hIV := HI.out.below kw
            have f4 := hIV.re.frozen 0
            have q4 := hIV.re.cell 0
            gi_wp2
            refine ⟨((keeps_belowG kw).trans (KeepsOthers.setCell _ _ _)).from _, ⟨rfl, false, i, k, hIV.setR hs2 false, fun h => absurd h HNO.out⟩, (hB.trans (kw.mono hB.size)).setCell (p := ⟨w.heap.size + 1 + 1, 0, none⟩) (by show _ ≤ w.heap.size + 1 + 1; omega) _⟩
        · have he : ((i : Int) != (a : Int)) = true := bne_iff_ne.2 (by omega)
          have HNO := Lib.hid (show ¬ (saidG (pre ++ [(i, ⟨P1, p1, q1, P2, p2, q2, P3, p3, q3, P4, p4, q4⟩, y)]) <+: evG b L su (i0 : Int)) from fun h => ei (hno h).1)
          have HQ := Lib.hid fun W' (hb : Below W.heap.size W W') => (show W'.cell? ⟨w2.heap.size, 0, none⟩ = some (.bool true) ∧ W'.cell? ⟨w2.heap.size + 1, 0, none⟩ = some (.int .i64 (a : Int)) ∧ W'.cell? ⟨w.heap.size, 1, none⟩ = some (.slice D m d) ∧ W'.cell? ⟨Bs, 0, none⟩ = some (.slice P1 p1 q1) ∧ W'.cell? ⟨Bs, 1, none⟩ = some (.slice P2 p2 q2) ∧ W'.cell? ⟨Bs, 2, none⟩ = some (.slice P3 p3 q3) ∧ W'.cell? ⟨Bs, 3, none⟩ = some (.slice P4 p4 q4) from ⟨(hI.fo.go hb).cell 0, (hI.at_.go hb).cell 0, (hI.lg.go hb).cell 1, (hX.go hb).cell 0, (hX.go hb).cell 1, (hX.go hb).cell 2, (hX.go hb).cell 3⟩)
          clear hX hT' hLR hI hno HEVT ei
          gi_wp2
          refine region_round (S := (fun W' => W'.cell? ⟨w2.heap.size, 0, none⟩ = some (.bool true) ∧ W'.cell? ⟨w2.heap.size + 1, 0, none⟩ = some (.int .i64 (a : Int)) ∧ W'.cell? ⟨w.heap.size, 1, none⟩ = some (.slice D m d) ∧ W'.cell? ⟨Bs, 0, none⟩ = some (.slice P1 p1 q1) ∧ W'.cell? ⟨Bs, 1, none⟩ = some (.slice P2 p2 q2) ∧ W'.cell? ⟨Bs, 2, none⟩ = some (.slice P3 p3 q3) ∧ W'.cell? ⟨Bs, 3, none⟩ = some (.slice P4 p4 q4))) (by kernel_rfl) (by kernel_rfl) (by first | exact HQ.out _ kw) (fun KK hKK hHeld => ?_)
          refine wpAnyH_putD (i := 0) (d := 23) (v := ?_) rfl rfl (by kernel_rfl) (by kernel_rfl) (by kernel_rfl) (fun _ _ _ h => h) (Or.inl ⟨by kernel_rfl, ?_⟩) (by first | exact HQ.out _ kw) ?_
          rotate_left
          · (intro w hS; (try dsimp only at hS); go_simp <;> with_reducible rfl)
          try simp only [List.setIfInBounds_toArray, List.set_cons_zero, List.set_cons_succ]
          refine wpAnyH_putD (i := 1) (d := 24) (v := (.bool false)) rfl rfl (by kernel_rfl) (by kernel_rfl) (by kernel_rfl) (fun _ _ _ h => h) (Or.inl ⟨by kernel_rfl, ?_⟩) (by first | exact HQ.out _ kw) ?_
          · (intro w hS; (try dsimp only at hS); go_simp <;> with_reducible rfl)
          try simp only [List.setIfInBounds_toArray, List.set_cons_zero, List.set_cons_succ]
          refine wpAnyH_putD (i := 2) (d := 25) (v := ?_) rfl rfl (by kernel_rfl) (by kernel_rfl) (by kernel_rfl) (fun _ _ _ h => h) (Or.inl ⟨by kernel_rfl, ?_⟩) (by first | exact HQ.out _ kw) ?_
          rotate_left
          · (intro w hS; (try dsimp only at hS); go_simp <;> with_reducible rfl)
          try simp only [List.setIfInBounds_toArray, List.set_cons_zero, List.set_cons_succ]
          refine wpAnyH_putD (i := 3) (d := 26) (v := ?_) rfl rfl (by kernel_rfl) (by kernel_rfl) (by kernel_rfl) (fun _ _ _ h => h) (Or.inl ⟨by kernel_rfl, ?_⟩) (by first | exact HQ.out _ kw) ?_
          rotate_left
          · (intro w hS; (try dsimp only at hS); go_simp <;> with_reducible rfl)
          try simp only [List.setIfInBounds_toArray, List.set_cons_zero, List.set_cons_succ]
          refine wpAnyH_putD (i := 4) (d := 27) (v := ?_) rfl rfl (by kernel_rfl) (by kernel_rfl) (by kernel_rfl) (fun _ _ _ h => h) (Or.inl ⟨by kernel_rfl, ?_⟩) (by first | exact HQ.out _ kw) ?_
          rotate_left
          · (intro w hS; (try dsimp only at hS); go_simp <;> with_reducible rfl)
          try simp only [List.setIfInBounds_toArray, List.set_cons_zero, List.set_cons_succ]
          refine wpAnyH_putD (i := 5) (d := 28) (v := (.bool true)) rfl rfl (by kernel_rfl) (by kernel_rfl) (by kernel_rfl) (fun _ _ _ h => h) (Or.inl ⟨by kernel_rfl, ?_⟩) (by first | exact HQ.out _ kw) ?_
          · (intro w hS; (try dsimp only at hS); go_simp <;> with_reducible rfl)
          try simp only [List.setIfInBounds_toArray, List.set_cons_zero, List.set_cons_succ]
          refine wpAnyH_putD (i := 6) (d := 29) (v := ?_) rfl rfl (by kernel_rfl) (by kernel_rfl) (by kernel_rfl) (fun _ _ _ h => h) (Or.inl ⟨by kernel_rfl, ?_⟩) (by first | exact HQ.out _ kw) ?_
          rotate_left
          · (intro w hS; (try dsimp only at hS); go_simp <;> with_reducible rfl)
          try simp only [List.setIfInBounds_toArray, List.set_cons_zero, List.set_cons_succ]
          refine wpAnyH_putD (i := 7) (d := 30) (v := ?_) rfl rfl (by kernel_rfl) (by kernel_rfl) (by kernel_rfl) (fun _ _ _ h => h) (Or.inl ⟨by kernel_rfl, ?_⟩) (by first | exact HQ.out _ kw) ?_
          rotate_left
          · (intro w hS; (try dsimp only at hS); go_simp <;> with_reducible rfl)
          try simp only [List.setIfInBounds_toArray, List.set_cons_zero, List.set_cons_succ]
          refine wpAnyH_putD (i := 8) (d := 31) (v := undef) rfl rfl (by kernel_rfl) (by kernel_rfl) (by kernel_rfl) (fun _ _ _ h => h) (Or.inr ⟨by kernel_rfl, rfl⟩) (by first | exact HQ.out _ kw) ?_
          try simp only [List.setIfInBounds_toArray, List.set_cons_zero, List.set_cons_succ]
          refine wpAnyH_putD (i := 9) (d := 32) (v := undef) rfl rfl (by kernel_rfl) (by kernel_rfl) (by kernel_rfl) (fun _ _ _ h => h) (Or.inr ⟨by kernel_rfl, rfl⟩) (by first | exact HQ.out _ kw) ?_
          try simp only [List.setIfInBounds_toArray, List.set_cons_zero, List.set_cons_succ]
          refine wpAnyH_putD (i := 10) (d := 33) (v := undef) rfl rfl (by kernel_rfl) (by kernel_rfl) (by kernel_rfl) (fun _ _ _ h => h) (Or.inr ⟨by kernel_rfl, rfl⟩) (by first | exact HQ.out _ kw) ?_
          try simp only [List.setIfInBounds_toArray, List.set_cons_zero, List.set_cons_succ]
          refine wpAnyH_putD (i := 11) (d := 34) (v := undef) rfl rfl (by kernel_rfl) (by kernel_rfl) (by kernel_rfl) (fun _ _ _ h => h) (Or.inr ⟨by kernel_rfl, rfl⟩) (by first | exact HQ.out _ kw) ?_
          try simp only [List.setIfInBounds_toArray, List.set_cons_zero, List.set_cons_succ]
          refine wpAnyH_putD (i := 12) (d := 35) (v := undef) rfl rfl (by kernel_rfl) (by kernel_rfl) (by kernel_rfl) (fun _ _ _ h => h) (Or.inr ⟨by kernel_rfl, rfl⟩) (by first | exact HQ.out _ kw) ?_
          try simp only [List.setIfInBounds_toArray, List.set_cons_zero, List.set_cons_succ]
          refine wpAnyH_putD (i := 13) (d := 36) (v := ?_) rfl rfl (by kernel_rfl) (by kernel_rfl) (by kernel_rfl) (fun _ _ _ h => h) (Or.inl ⟨by kernel_rfl, ?_⟩) (by first | exact HQ.out _ kw) ?_
          rotate_left
          · (intro w hS; (try dsimp only at hS); go_simp <;> with_reducible rfl)
          try simp only [List.setIfInBounds_toArray, List.set_cons_zero, List.set_cons_succ]
          refine wpAnyH_putD (i := 14) (d := 37) (v := ?_) rfl rfl (by kernel_rfl) (by kernel_rfl) (by kernel_rfl) (fun _ _ _ h => h) (Or.inl ⟨by kernel_rfl, ?_⟩) (by first | exact HQ.out _ kw) ?_
          rotate_left
          · (intro w hS; (try dsimp only at hS); go_simp <;> with_reducible rfl)
          try simp only [List.setIfInBounds_toArray, List.set_cons_zero, List.set_cons_succ]
          refine wpAnyH_putD (i := 15) (d := 38) (v := undef) rfl rfl (by kernel_rfl) (by kernel_rfl) (by kernel_rfl) (fun _ _ _ h => h) (Or.inr ⟨by kernel_rfl, rfl⟩) (by first | exact HQ.out _ kw) ?_
          try simp only [List.setIfInBounds_toArray, List.set_cons_zero, List.set_cons_succ]
          refine wpAnyH_putD (i := 16) (d := 39) (v := undef) rfl rfl (by kernel_rfl) (by kernel_rfl) (by kernel_rfl) (fun _ _ _ h => h) (Or.inr ⟨by kernel_rfl, rfl⟩) (by first | exact HQ.out _ kw) ?_
          try simp only [List.setIfInBounds_toArray, List.set_cons_zero, List.set_cons_succ]
          refine wpAnyH_putD (i := 17) (d := 40) (v := undef) rfl rfl (by kernel_rfl) (by kernel_rfl) (by kernel_rfl) (fun _ _ _ h => h) (Or.inr ⟨by kernel_rfl, rfl⟩) (by first | exact HQ.out _ kw) ?_
          try simp only [List.setIfInBounds_toArray, List.set_cons_zero, List.set_cons_succ]
          refine wpAnyH_putD (i := 18) (d := 41) (v := undef) rfl rfl (by kernel_rfl) (by kernel_rfl) (by kernel_rfl) (fun _ _ _ h => h) (Or.inr ⟨by kernel_rfl, rfl⟩) (by first | exact HQ.out _ kw) ?_
          try simp only [List.setIfInBounds_toArray, List.set_cons_zero, List.set_cons_succ]
          refine wpAnyH_putD (i := 19) (d := 42) (v := undef) rfl rfl (by kernel_rfl) (by kernel_rfl) (by kernel_rfl) (fun _ _ _ h => h) (Or.inr ⟨by kernel_rfl, rfl⟩) (by first | exact HQ.out _ kw) ?_
          try simp only [List.setIfInBounds_toArray, List.set_cons_zero, List.set_cons_succ]
          refine wpAnyH_putD (i := 20) (d := 43) (v := undef) rfl rfl (by kernel_rfl) (by kernel_rfl) (by kernel_rfl) (fun _ _ _ h => h) (Or.inr ⟨by kernel_rfl, rfl⟩) (by first | exact HQ.out _ kw) ?_
          try simp only [List.setIfInBounds_toArray, List.set_cons_zero, List.set_cons_succ]
          refine wpAnyH_putD (i := 21) (d := 44) (v := undef) rfl rfl (by kernel_rfl) (by kernel_rfl) (by kernel_rfl) (fun _ _ _ h => h) (Or.inr ⟨by kernel_rfl, rfl⟩) (by first | exact HQ.out _ kw) ?_
          try simp only [List.setIfInBounds_toArray, List.set_cons_zero, List.set_cons_succ]
          refine wpAnyH_putD (i := 22) (d := 45) (v := undef) rfl rfl (by kernel_rfl) (by kernel_rfl) (by kernel_rfl) (fun _ _ _ h => h) (Or.inr ⟨by kernel_rfl, rfl⟩) (by first | exact HQ.out _ kw) ?_
          try simp only [List.setIfInBounds_toArray, List.set_cons_zero, List.set_cons_succ]
          refine wpAnyH_putD (i := 23) (d := 46) (v := ?_) rfl rfl (by kernel_rfl) (by kernel_rfl) (by kernel_rfl) (fun _ _ _ h => h) (Or.inl ⟨by kernel_rfl, ?_⟩) (by first | exact HQ.out _ kw) ?_
          rotate_left
          · (intro w hS; (try dsimp only at hS); go_simp <;> with_reducible rfl)
          try simp only [List.setIfInBounds_toArray, List.set_cons_zero, List.set_cons_succ]
          refine wpAnyH_done (by kernel_rfl) ?_ _
          refine Nrm.out (hKK _ _ ?_)
          have hIV := HI.out.below kw
          have f4 := hIV.re.frozen 0
          have q4 := hIV.re.cell 0
          gi_wp2
          refine ⟨((keeps_belowG kw).trans (KeepsOthers.setCell _ _ _)).from _, ⟨rfl, false, a, k, hIV.setR hs2 false, fun h => absurd h HNO.out⟩, (hB.trans (kw.mono hB.size)).setCell (p := ⟨w.heap.size + 1 + 1, 0, none⟩) (by show _ ≤ w.heap.size + 1 + 1; omega) _⟩
    case done =>
      rintro E' ys W hD hys ⟨⟨hI, hpre⟩, hB⟩ hK
      have q2 := hI.fo.cell 0
      have q3 := hI.at_.cell 0
      have q4 := hI.re.cell 0
      have f4 := hI.re.frozen 0
      have q5 := hI.lg.cell 1
      have HRE := Lib.hid hI.re
      have hys' : saidG ys = evG b L su (i0 : Int) := hys
      have hK' := (KeepsOthers.setCell W ⟨w.heap.size + 1 + 1, 0, none⟩ (.bool true)).same E' _ hK rfl
      have hge : z = true → m ≤ i0 + ys.length := fun hz => by
        rw [HEV.out, if_pos hz] at hys'
        have h1 := congrArg List.length hys'
        rw [saidG_len, evD_len, List.length_drop, nts_len, HLN.out] at h1
        omega
      clear hys hys' hpre hI
      rcases z with _ | _
      · clear q3 hge
        gi_wp2
        refine ⟨by simp, .inl ⟨_, _, rfl, run_takeDeferred hK', ?_⟩⟩
        have hc5 := cell_kept (World.cell?_setCell_same' W ⟨w.heap.size + 1 + 1, 0, none⟩ (.bool true) (by rw [q4]; rfl)) (grownBy_putObj' _ E' (.deferred none)) (fun r e => by cases e; exact ⟨_, hK', rfl⟩)
        refine ⟨.bool true, ?_, rfl, (hB.setCell (p := ⟨w.heap.size + 1 + 1, 0, none⟩) (by show _ ≤ w.heap.size + 1 + 1; omega) _).trans (belowK_b (w := w) (Nat.le_refl _) _ E' _ _ (by omega) hK' rfl rfl)⟩
        simp [results, Tryd.f8, go_sem, hc5]
      · have hkk := hge rfl
        obtain ⟨a, ha⟩ : ∃ a, a = i0 + ys.length := ⟨_, rfl⟩
        rw [← ha] at hkk q3
        have hd : decide (m ≤ a) = true := decide_eq_true hkk
        clear hge ha
        gi_wp2
        refine ⟨by simp, .inl ⟨_, _, rfl, run_takeDeferred hK', ?_⟩⟩
        have hc5 := cell_kept (World.cell?_setCell_same' W ⟨w.heap.size + 1 + 1, 0, none⟩ (.bool true) (by rw [q4]; rfl)) (grownBy_putObj' _ E' (.deferred none)) (fun r e => by cases e; exact ⟨_, hK', rfl⟩)
        refine ⟨.bool true, ?_, rfl, (hB.setCell (p := ⟨w.heap.size + 1 + 1, 0, none⟩) (by show _ ≤ w.heap.size + 1 + 1; omega) _).trans (belowK_b (w := w) (Nat.le_refl _) _ E' _ _ (by omega) hK' rfl rfl)⟩
        simp [results, Tryd.f8, go_sem, hc5]
    case stop =>
      rintro E' c' pre W hD hpre ⟨⟨rfl, r, a, k, hI, hr⟩, hB⟩ hK
      obtain rfl := hr hpre
      have q4 := hI.re.cell 0
      clear hr hpre hI
      gi_wp2
      refine ⟨by simp, .inl ⟨_, _, rfl, run_takeDeferred hK, ?_⟩⟩
      have hc5 := cell_kept q4 (grownBy_putObj' _ E' (.deferred none)) (fun r e => by cases e; exact ⟨_, hK, rfl⟩)
      refine ⟨.bool true, ?_, rfl, hB.trans (belowK_b (w := w) (Nat.le_refl _) W E' _ _ (by omega) hK rfl rfl)⟩
      simp [results, Tryd.f8, go_sem, hc5]
  · have hneg : fr ≤ 0 := by omega
    obtain rfl : i0 = 0 := by have := HI0.out; omega
    clear hpos
    have h1 : ∀ V, Below w2.heap.size w2 V → (V.cell? ⟨w.heap.size, 0, none⟩ = some (.slice A n c) ∧ V.cell? ⟨w.heap.size, 1, none⟩ = some (.slice D m d) ∧ V.cell? ⟨w.heap.size, 2, none⟩ = some (.int .i64 su)) := fun V hb => ⟨(C1.out.go hb).cell 0, (C1.out.go hb).cell 1, (C1.out.go hb).cell 2⟩
    have HAB := Lib.hid (show Below w2.heap.size w2 (((w2.alloc (.cells #[.bool z] 4)).alloc (.cells #[.int .i64 0] 3)).alloc (.cells #[.int .i64 0] 3)) from (((Below.refl _ w2).alloc (Nat.le_refl _) _).alloc (by simp) _).alloc (by simp; omega) _)
    have d1 := ((Blk.new w2 4 #[.bool z]).alloc (.cells #[.int .i64 0] 3)).alloc (.cells #[.int .i64 0] 3)
    have d2 := (Blk.new (w2.alloc (.cells #[.bool z] 4)) 3 #[.int .i64 0]).alloc (.cells #[.int .i64 0] 3)
    have d3 := Blk.new ((w2.alloc (.cells #[.bool z] 4)).alloc (.cells #[.int .i64 0] 3)) 3 #[.int .i64 0]
    rw [World.size_alloc] at d2
    rw [World.size_alloc, World.size_alloc] at d3
    obtain ⟨y0, y1, y2⟩ := h1 _ HAB.out
    have H1 := Lib.hid h1
    obtain ⟨W3, hW3⟩ : ∃ W3, W3 = ((w2.alloc (.cells #[.bool z] 4)).alloc (.cells #[.int .i64 0] 3)).alloc (.cells #[.int .i64 0] 3) := ⟨_, rfl⟩
    have hs3 : W3.heap.size = w2.heap.size + 1 + 1 + 1 := by rw [hW3]; simp
    rw [← hW3] at d1 d2 d3 HAB
    have D1 := Lib.hid d1
    have D2 := Lib.hid d2
    have D3 := Lib.hid d3
    have HW3 := Lib.hid hW3.symm
    have HS3 := Lib.hid hs3
    clear d1 d2 d3 hW3 hs3 h1
    gi_wp2_with fail
    rw [HW3.out]
    refine ⟨trivial, ?_⟩
    refine (callsIn_wide.2 (lgAll_any ⟨A, n, c, D, m, d⟩ su fr W3)).mono ?_
    rintro e w4 ⟨rfl, rfl⟩
    clear y0 y1 y2 q0 q1 q2
    have e1 := (Blk.new W3 47 (LV.val ⟨A, n, c, D, m, d⟩ su)).alloc (.cells #[.int .i64 fr] 3)
    have e2 := Blk.new (W3.alloc (.cells (LV.val ⟨A, n, c, D, m, d⟩ su) 47)) 3 #[.int .i64 fr]
    rw [World.size_alloc] at e2
    have hkA : Below W3.heap.size W3 ((W3.alloc (.cells (LV.val ⟨A, n, c, D, m, d⟩ su) 47)).alloc (.cells #[.int .i64 fr] 3)) := ((Below.refl _ W3).alloc (Nat.le_refl _) _).alloc (by simp) _
    rw [HS3.out] at e1 e2 ⊢
    obtain ⟨W5, hW5⟩ : ∃ W5, W5 = (W3.alloc (.cells (LV.val ⟨A, n, c, D, m, d⟩ su) 47)).alloc (.cells #[.int .i64 fr] 3) := ⟨_, rfl⟩
    have hs5 : w2.heap.size + 5 = W5.heap.size := by rw [hW5]; simp; have := HS3.out; omega
    rw [← hW5] at e1 e2 hkA ⊢
    have hb25 := below_then HAB.out (Nat.le_refl _) hkA
    have hbw5 := below_then HB2.out (Nat.le_refl _) hb25
    have hInv : LwInv w w2 z most false 0 0 ⟨A, n, c, D, m, d⟩ su W5 := ⟨Olds.of_below hbw5, C1.out.go hb25, C2.out.go hb25, C3.out.go hb25, D1.out.go hkA, D2.out.go hkA, D3.out.go hkA⟩
    have hGood : GoodG w (w2.heap.size + 1 + 1 + 1) (w2.heap.size + 1 + 1 + 1 + 1) ⟨A, n, c, D, m, d⟩ su fr W5 := ⟨Olds.of_below hbw5, e1, e2, by omega, by omega⟩
    have HTold := Lib.hid (lgAll_told (3 - 1) (by omega) (w2.heap.size + 1 + 1 + 1) (w2.heap.size + 1 + 1 + 1 + 1) ⟨A, n, c, D, m, d⟩ b L su fr w HT.out HH.out hsz W5 hGood)
    have HBW5 := Lib.hid hbw5
    have HI5 := Lib.hid hInv
    clear hW5 hkA e1 e2 hGood hbw5 hInv hb25
    gi_wp2
    refine wpIn_rangeFunc_told rfl (by omega) (gf := 67) (lb := #[.pointer (some ⟨w2.heap.size + 1 + 1 + 1, 0, none⟩), .pointer (some ⟨w2.heap.size + 1 + 1 + 1 + 1, 0, none⟩)]) rfl trivial (enters_of Tryd.func67 (by kernel_rfl) rfl)
      HTold.out goodG_t (fun W lp o o' _ h ho _ => goodG_b W lp o o' h ho) (Below.refl _ _) (fun _ => rfl)
      (fun pre W => (LwInv w w2 z most false (0 + pre.length) pre.length ⟨A, n, c, D, m, d⟩ su W ∧ (saidG pre <+: evG b L su fr)) ∧ Below w.heap.size w W)
      (fun cc pre W => (cc = .ret ∧ LwStop w w2 z most ⟨A, n, c, D, m, d⟩ su (saidG pre <+: evG b L su fr) W) ∧ Below w.heap.size w W)
      (OwnFrom.and (Own.from (fun s X Y row hs hg hr => ⟨hs.1.kept hg hr, hs.2⟩) _) (ownFrom_below (Nat.le_refl _) (by omega)))
      (fun cc => OwnFrom.and (Own.from (fun s X Y row hs hg hr => by
        obtain ⟨h1, r, a, k, h2, h3⟩ := hs
        exact ⟨h1, r, a, k, h2.kept hg hr, h3⟩) _) (ownFrom_below (Nat.le_refl _) (by omega)))
      ⟨⟨HI5.out, List.nil_prefix⟩, HBW5.out⟩
      (fun x a₁ V => ∃ Bs, Blk V Bs 32 x.2.1.val ∧ w2.heap.size + 1 + 1 < Bs ∧ egT x V ∧ a₁ = { tmps := #[.agg (LV.val ⟨A, n, c, D, m, d⟩ su), .int .i64 fr, .int .u8 most, .pointer (some ⟨w.heap.size, 0, none⟩), undef, .pointer (some ⟨w.heap.size + 1, 0, none⟩), .pointer (some ⟨w.heap.size + 1 + 1, 0, none⟩), .pointer (some ⟨w2.heap.size, 0, none⟩), .pointer (some ⟨w2.heap.size + 1, 0, none⟩), .pointer (some ⟨w2.heap.size + 1 + 1, 0, none⟩), .int .i64 (x.1 : Int), .pointer (some ⟨Bs, 0, none⟩), .bool true, .bool false, .agg #[.slice A n c, .slice D m d, .int .i64 su], .bool z, .int .i64 fr, .int .i64 0, .agg #[.slice A n c, .slice D m d, .int .i64 su], .int .i64 fr, .func (.func 67) #[] #[.pointer (some ⟨w2.heap.size + 1 + 1 + 1, 0, none⟩), .pointer (some ⟨w2.heap.size + 1 + 1 + 1 + 1, 0, none⟩)], .int .i64 (x.1 : Int), .agg x.2.1.val, undef, undef, undef, undef, undef, undef, undef, undef, undef, undef, undef, undef, undef, undef, undef, undef, undef, undef, undef, undef, undef, undef, undef, undef, undef, undef, undef, undef, undef, undef, undef, undef, undef, undef, undef, undef, undef, undef, undef, undef, undef], defers := [] }) (fun a₁ x X Y row hs hg hr => by
        obtain ⟨Bs, h1, h2, h3, h4⟩ := hs
        exact ⟨Bs, blkG_kept h1 hg (fun r e => (hr r e).2), h2, egT_kept h3 hg (fun r e => (hr r e).2), h4⟩) ?assign ?body ?done ?stop
    case assign =>
      rintro lp pre x W K ⟨⟨hI, hpre⟩, hB⟩ hT hK
      obtain ⟨i, ⟨P1, p1, q1, P2, p2, q2, P3, p3, q3, P4, p4, q4⟩, y⟩ := x
      dsimp only [evsG]
      gi_wp2
      have hbA : Below W.heap.size W (W.alloc (.cells (NV.val ⟨P1, p1, q1, P2, p2, q2, P3, p3, q3, P4, p4, q4⟩) 32)) := (Below.refl _ _).alloc (Nat.le_refl _) _
      exact hK _ _ ((KeepsOthers.alloc _ _).from _) (fun g => g.go hbA) ⟨⟨hI.below hbA, hpre⟩, hB.alloc hB.size _⟩ ⟨W.heap.size, Blk.new W _ _, hI.kk.lt, NtRd.go hT hbA, rfl⟩
    case body =>
      rintro lp pre x a₁ W hlp ⟨⟨hI, hpre⟩, hB⟩ ⟨Bs, hX, hBs, hT, rfl⟩ hlt
      obtain ⟨i, ⟨P1, p1, q1, P2, p2, q2, P3, p3, q3, P4, p4, q4⟩, y⟩ := x
      have hT' : NtRd W W.heap.size ⟨P1, p1, q1, P2, p2, q2, P3, p3, q3, P4, p4, q4⟩ y := hT
      obtain ⟨k, hk0⟩ : ∃ k, k = pre.length := ⟨_, rfl⟩
      obtain ⟨a, ha0⟩ : ∃ a, a = 0 + k := ⟨_, rfl⟩
      rw [← hk0] at hI hlt
      rw [← ha0] at hI
      have hk64 : k < 1466015503659 := by
        have h1 : k < m := hlt
        omega
      have HPRE := Lib.hid hpre
      have HLT := Lib.hid hlt
      have HK0 := Lib.hid hk0
      have HA0 := Lib.hid ha0
      have HI := Lib.hid hI
      have kw : Below W.heap.size W W.drew := (Below.refl _ W).drew
      have hLR := HH.out.olds hI.ol
      clear hT hlt hk0 ha0 hpre
      rcases z with _ | _
      · have HNO := Lib.hid (show ¬ (saidG (pre ++ [(i, ⟨P1, p1, q1, P2, p2, q2, P3, p3, q3, P4, p4, q4⟩, y)]) <+: evG b L su fr) from fun h => by
          rw [HEV.out, if_neg (by decide), saidG_snoc] at h
          have := h.length_le
          simp at this)
        have HQ := Lib.hid fun W' (hb : Below W.heap.size W W') => (show W'.cell? ⟨w2.heap.size, 0, none⟩ = some (.bool false) ∧ W'.cell? ⟨w2.heap.size + 1, 0, none⟩ = some (.int .i64 (a : Int)) ∧ W'.cell? ⟨w.heap.size, 1, none⟩ = some (.slice D m d) ∧ W'.cell? ⟨Bs, 0, none⟩ = some (.slice P1 p1 q1) ∧ W'.cell? ⟨Bs, 1, none⟩ = some (.slice P2 p2 q2) ∧ W'.cell? ⟨Bs, 2, none⟩ = some (.slice P3 p3 q3) ∧ W'.cell? ⟨Bs, 3, none⟩ = some (.slice P4 p4 q4) from ⟨(hI.fo.go hb).cell 0, (hI.at_.go hb).cell 0, (hI.lg.go hb).cell 1, (hX.go hb).cell 0, (hX.go hb).cell 1, (hX.go hb).cell 2, (hX.go hb).cell 3⟩)
        clear hX hT' hLR hI
        gi_wp2
        refine region_round (S := (fun W' => W'.cell? ⟨w2.heap.size, 0, none⟩ = some (.bool false) ∧ W'.cell? ⟨w2.heap.size + 1, 0, none⟩ = some (.int .i64 (a : Int)) ∧ W'.cell? ⟨w.heap.size, 1, none⟩ = some (.slice D m d) ∧ W'.cell? ⟨Bs, 0, none⟩ = some (.slice P1 p1 q1) ∧ W'.cell? ⟨Bs, 1, none⟩ = some (.slice P2 p2 q2) ∧ W'.cell? ⟨Bs, 2, none⟩ = some (.slice P3 p3 q3) ∧ W'.cell? ⟨Bs, 3, none⟩ = some (.slice P4 p4 q4))) (by kernel_rfl) (by kernel_rfl) (by first | exact HQ.out _ kw) (fun KK hKK hHeld => ?_)
        refine wpAnyH_putD (i := 0) (d := 23) (v := ?_) rfl rfl (by kernel_rfl) (by kernel_rfl) (by kernel_rfl) (fun _ _ _ h => h) (Or.inl ⟨by kernel_rfl, ?_⟩) (by first | exact HQ.out _ kw) ?_
        rotate_left
        · (intro w hS; (try dsimp only at hS); go_simp <;> with_reducible rfl)
        try simp only [List.setIfInBounds_toArray, List.set_cons_zero, List.set_cons_succ]
        refine wpAnyH_putD (i := 1) (d := 24) (v := (.bool true)) rfl rfl (by kernel_rfl) (by kernel_rfl) (by kernel_rfl) (fun _ _ _ h => h) (Or.inl ⟨by kernel_rfl, ?_⟩) (by first | exact HQ.out _ kw) ?_
        · (intro w hS; (try dsimp only at hS); go_simp <;> with_reducible rfl)
        try simp only [List.setIfInBounds_toArray, List.set_cons_zero, List.set_cons_succ]
        refine wpAnyH_putD (i := 2) (d := 25) (v := ?_) rfl rfl (by kernel_rfl) (by kernel_rfl) (by kernel_rfl) (fun _ _ _ h => h) (Or.inl ⟨by kernel_rfl, ?_⟩) (by first | exact HQ.out _ kw) ?_
        rotate_left
        · (intro w hS; (try dsimp only at hS); go_simp <;> with_reducible rfl)
        try simp only [List.setIfInBounds_toArray, List.set_cons_zero, List.set_cons_succ]
        refine wpAnyH_putD (i := 3) (d := 26) (v := undef) rfl rfl (by kernel_rfl) (by kernel_rfl) (by kernel_rfl) (fun _ _ _ h => h) (Or.inr ⟨by kernel_rfl, rfl⟩) (by first | exact HQ.out _ kw) ?_
        try simp only [List.setIfInBounds_toArray, List.set_cons_zero, List.set_cons_succ]
        refine wpAnyH_putD (i := 4) (d := 27) (v := undef) rfl rfl (by kernel_rfl) (by kernel_rfl) (by kernel_rfl) (fun _ _ _ h => h) (Or.inr ⟨by kernel_rfl, rfl⟩) (by first | exact HQ.out _ kw) ?_
        try simp only [List.setIfInBounds_toArray, List.set_cons_zero, List.set_cons_succ]
        refine wpAnyH_putD (i := 5) (d := 28) (v := undef) rfl rfl (by kernel_rfl) (by kernel_rfl) (by kernel_rfl) (fun _ _ _ h => h) (Or.inr ⟨by kernel_rfl, rfl⟩) (by first | exact HQ.out _ kw) ?_
        try simp only [List.setIfInBounds_toArray, List.set_cons_zero, List.set_cons_succ]
        refine wpAnyH_putD (i := 6) (d := 29) (v := ?_) rfl rfl (by kernel_rfl) (by kernel_rfl) (by kernel_rfl) (fun _ _ _ h => h) (Or.inl ⟨by kernel_rfl, ?_⟩) (by first | exact HQ.out _ kw) ?_
        rotate_left
        · (intro w hS; (try dsimp only at hS); go_simp <;> with_reducible rfl)
        try simp only [List.setIfInBounds_toArray, List.set_cons_zero, List.set_cons_succ]
        refine wpAnyH_putD (i := 7) (d := 30) (v := ?_) rfl rfl (by kernel_rfl) (by kernel_rfl) (by kernel_rfl) (fun _ _ _ h => h) (Or.inl ⟨by kernel_rfl, ?_⟩) (by first | exact HQ.out _ kw) ?_
        rotate_left
        · (intro w hS; (try dsimp only at hS); go_simp <;> with_reducible rfl)
        try simp only [List.setIfInBounds_toArray, List.set_cons_zero, List.set_cons_succ]
        refine wpAnyH_putD (i := 8) (d := 31) (v := undef) rfl rfl (by kernel_rfl) (by kernel_rfl) (by kernel_rfl) (fun _ _ _ h => h) (Or.inr ⟨by kernel_rfl, rfl⟩) (by first | exact HQ.out _ kw) ?_
        try simp only [List.setIfInBounds_toArray, List.set_cons_zero, List.set_cons_succ]
        refine wpAnyH_putD (i := 9) (d := 32) (v := undef) rfl rfl (by kernel_rfl) (by kernel_rfl) (by kernel_rfl) (fun _ _ _ h => h) (Or.inr ⟨by kernel_rfl, rfl⟩) (by first | exact HQ.out _ kw) ?_
        try simp only [List.setIfInBounds_toArray, List.set_cons_zero, List.set_cons_succ]
        refine wpAnyH_putD (i := 10) (d := 33) (v := undef) rfl rfl (by kernel_rfl) (by kernel_rfl) (by kernel_rfl) (fun _ _ _ h => h) (Or.inr ⟨by kernel_rfl, rfl⟩) (by first | exact HQ.out _ kw) ?_
        try simp only [List.setIfInBounds_toArray, List.set_cons_zero, List.set_cons_succ]
        refine wpAnyH_putD (i := 11) (d := 34) (v := undef) rfl rfl (by kernel_rfl) (by kernel_rfl) (by kernel_rfl) (fun _ _ _ h => h) (Or.inr ⟨by kernel_rfl, rfl⟩) (by first | exact HQ.out _ kw) ?_
        try simp only [List.setIfInBounds_toArray, List.set_cons_zero, List.set_cons_succ]
        refine wpAnyH_putD (i := 12) (d := 35) (v := undef) rfl rfl (by kernel_rfl) (by kernel_rfl) (by kernel_rfl) (fun _ _ _ h => h) (Or.inr ⟨by kernel_rfl, rfl⟩) (by first | exact HQ.out _ kw) ?_
        try simp only [List.setIfInBounds_toArray, List.set_cons_zero, List.set_cons_succ]
        refine wpAnyH_putD (i := 13) (d := 36) (v := ?_) rfl rfl (by kernel_rfl) (by kernel_rfl) (by kernel_rfl) (fun _ _ _ h => h) (Or.inl ⟨by kernel_rfl, ?_⟩) (by first | exact HQ.out _ kw) ?_
        rotate_left
        · (intro w hS; (try dsimp only at hS); go_simp <;> with_reducible rfl)
        try simp only [List.setIfInBounds_toArray, List.set_cons_zero, List.set_cons_succ]
        refine wpAnyH_putD (i := 14) (d := 37) (v := ?_) rfl rfl (by kernel_rfl) (by kernel_rfl) (by kernel_rfl) (fun _ _ _ h => h) (Or.inl ⟨by kernel_rfl, ?_⟩) (by first | exact HQ.out _ kw) ?_
        rotate_left
        · (intro w hS; (try dsimp only at hS); go_simp <;> with_reducible rfl)
        try simp only [List.setIfInBounds_toArray, List.set_cons_zero, List.set_cons_succ]
        refine wpAnyH_putD (i := 15) (d := 38) (v := undef) rfl rfl (by kernel_rfl) (by kernel_rfl) (by kernel_rfl) (fun _ _ _ h => h) (Or.inr ⟨by kernel_rfl, rfl⟩) (by first | exact HQ.out _ kw) ?_
        try simp only [List.setIfInBounds_toArray, List.set_cons_zero, List.set_cons_succ]
        refine wpAnyH_putD (i := 16) (d := 39) (v := undef) rfl rfl (by kernel_rfl) (by kernel_rfl) (by kernel_rfl) (fun _ _ _ h => h) (Or.inr ⟨by kernel_rfl, rfl⟩) (by first | exact HQ.out _ kw) ?_
        try simp only [List.setIfInBounds_toArray, List.set_cons_zero, List.set_cons_succ]
        refine wpAnyH_putD (i := 17) (d := 40) (v := undef) rfl rfl (by kernel_rfl) (by kernel_rfl) (by kernel_rfl) (fun _ _ _ h => h) (Or.inr ⟨by kernel_rfl, rfl⟩) (by first | exact HQ.out _ kw) ?_
        try simp only [List.setIfInBounds_toArray, List.set_cons_zero, List.set_cons_succ]
        refine wpAnyH_putD (i := 18) (d := 41) (v := undef) rfl rfl (by kernel_rfl) (by kernel_rfl) (by kernel_rfl) (fun _ _ _ h => h) (Or.inr ⟨by kernel_rfl, rfl⟩) (by first | exact HQ.out _ kw) ?_
        try simp only [List.setIfInBounds_toArray, List.set_cons_zero, List.set_cons_succ]
        refine wpAnyH_putD (i := 19) (d := 42) (v := undef) rfl rfl (by kernel_rfl) (by kernel_rfl) (by kernel_rfl) (fun _ _ _ h => h) (Or.inr ⟨by kernel_rfl, rfl⟩) (by first | exact HQ.out _ kw) ?_
        try simp only [List.setIfInBounds_toArray, List.set_cons_zero, List.set_cons_succ]
        refine wpAnyH_putD (i := 20) (d := 43) (v := undef) rfl rfl (by kernel_rfl) (by kernel_rfl) (by kernel_rfl) (fun _ _ _ h => h) (Or.inr ⟨by kernel_rfl, rfl⟩) (by first | exact HQ.out _ kw) ?_
        try simp only [List.setIfInBounds_toArray, List.set_cons_zero, List.set_cons_succ]
        refine wpAnyH_putD (i := 21) (d := 44) (v := undef) rfl rfl (by kernel_rfl) (by kernel_rfl) (by kernel_rfl) (fun _ _ _ h => h) (Or.inr ⟨by kernel_rfl, rfl⟩) (by first | exact HQ.out _ kw) ?_
        try simp only [List.setIfInBounds_toArray, List.set_cons_zero, List.set_cons_succ]
        refine wpAnyH_putD (i := 22) (d := 45) (v := undef) rfl rfl (by kernel_rfl) (by kernel_rfl) (by kernel_rfl) (fun _ _ _ h => h) (Or.inr ⟨by kernel_rfl, rfl⟩) (by first | exact HQ.out _ kw) ?_
        try simp only [List.setIfInBounds_toArray, List.set_cons_zero, List.set_cons_succ]
        refine wpAnyH_putD (i := 23) (d := 46) (v := ?_) rfl rfl (by kernel_rfl) (by kernel_rfl) (by kernel_rfl) (fun _ _ _ h => h) (Or.inl ⟨by kernel_rfl, ?_⟩) (by first | exact HQ.out _ kw) ?_
        rotate_left
        · (intro w hS; (try dsimp only at hS); go_simp <;> with_reducible rfl)
        try simp only [List.setIfInBounds_toArray, List.set_cons_zero, List.set_cons_succ]
        refine wpAnyH_done (by kernel_rfl) ?_ _
        refine Nrm.out (hKK _ _ ?_)
        have hIV := HI.out.below kw
        have f4 := hIV.re.frozen 0
        have q4 := hIV.re.cell 0
        gi_wp2
        refine ⟨((keeps_belowG kw).trans (KeepsOthers.setCell _ _ _)).from _, ⟨rfl, false, a, k, hIV.setR hs2 false, fun h => absurd h HNO.out⟩, (hB.trans (kw.mono hB.size)).setCell (p := ⟨w.heap.size + 1 + 1, 0, none⟩) (by show _ ≤ w.heap.size + 1 + 1; omega) _⟩
      · have HEVT : evG b L su fr = evD 0 ((nts L).drop 0) := by rw [HEV.out, if_pos rfl]
        have hno : saidG (pre ++ [(i, ⟨P1, p1, q1, P2, p2, q2, P3, p3, q3, P4, p4, q4⟩, y)]) <+: evG b L su fr → i = a ∧ (nts L)[a]? = some y := fun h => by
          rw [HEVT] at h
          obtain ⟨h1, h2⟩ := said_at h
          rw [List.getElem?_drop, ← HK0.out, ← HA0.out] at h1
          rw [← HK0.out, ← HA0.out] at h2
          exact ⟨h2, h1⟩
        by_cases ei : i = a
        · subst ei
          have he : ((i : Int) != (i : Int)) = false := by simp
          by_cases hlt2 : i < m
          · have hkk : decide (m ≤ i) = false := decide_eq_false (by omega)
            have hkL : i < L.length := by rw [HLN.out]; exact hlt2
            obtain ⟨bb, o, hDe, hab, g0, g1, g2, g3⟩ := hLR.ns.note hkL
            have hDe : D = some ⟨bb, o, none⟩ := hDe
            subst hDe
            have hrd := hLR.ns.each _ (List.getElem_mem hkL)
            have hat : (nts L)[i]? = some L[i].2 := by rw [List.getElem?_eq_getElem (by rw [nts_len]; exact hkL), nts_at L i hkL]
            generalize L[i] = p at g0 g1 g2 g3 hrd hat
            obtain ⟨⟨R1, r1, s1, R2, r2, s2, R3, r3, s3, R4, r4, s4⟩, z⟩ := p
            dsimp only at g0 g1 g2 g3 hrd hat
            have hSame := fun (V : World) (hb : Below W.heap.size W V) => refNtSame_any ⟨P1, p1, q1, P2, p2, q2, P3, p3, q3, P4, p4, q4⟩ ⟨R1, r1, s1, R2, r2, s2, R3, r3, s3, R4, r4, s4⟩ y z V (hT'.go hb) (hrd.go hb)
            have HQ := Lib.hid fun W' (hb : Below W.heap.size W W') => (show W'.cell? ⟨w2.heap.size, 0, none⟩ = some (.bool true) ∧ W'.cell? ⟨w2.heap.size + 1, 0, none⟩ = some (.int .i64 (i : Int)) ∧ W'.cell? ⟨w.heap.size, 1, none⟩ = some (.slice (some ⟨bb, o, none⟩) m d) ∧ W'.cell? ⟨Bs, 0, none⟩ = some (.slice P1 p1 q1) ∧ W'.cell? ⟨Bs, 1, none⟩ = some (.slice P2 p2 q2) ∧ W'.cell? ⟨Bs, 2, none⟩ = some (.slice P3 p3 q3) ∧ W'.cell? ⟨Bs, 3, none⟩ = some (.slice P4 p4 q4) ∧ W'.cell? ⟨bb, o + i * 4, none⟩ = some (.slice R1 r1 s1) ∧ W'.cell? ⟨bb, o + i * 4 + 1, none⟩ = some (.slice R2 r2 s2) ∧ W'.cell? ⟨bb, o + i * 4 + 2, none⟩ = some (.slice R3 r3 s3) ∧ W'.cell? ⟨bb, o + i * 4 + 3, none⟩ = some (.slice R4 r4 s4) from ⟨(hI.fo.go hb).cell 0, (hI.at_.go hb).cell 0, (hI.lg.go hb).cell 1, (hX.go hb).cell 0, (hX.go hb).cell 1, (hX.go hb).cell 2, (hX.go hb).cell 3, (hb.cell (p := ⟨bb, o + i * 4, none⟩) hab).trans g0, (hb.cell (p := ⟨bb, o + i * 4 + 1, none⟩) hab).trans g1, (hb.cell (p := ⟨bb, o + i * 4 + 2, none⟩) hab).trans g2, (hb.cell (p := ⟨bb, o + i * 4 + 3, none⟩) hab).trans g3⟩)
            rcases hsm : ntSame y z with _ | _
            · have HNO := Lib.hid (show ¬ (saidG (pre ++ [(i, ⟨P1, p1, q1, P2, p2, q2, P3, p3, q3, P4, p4, q4⟩, y)]) <+: evG b L su fr) from fun h => by
                have h2 := (hno h).2
                rw [hat, Option.some.injEq] at h2
                rw [h2, ntSame_self] at hsm
                cases hsm)
              rw [hsm] at hSame
              have G := Lib.hid hSame
              clear hX hT' hLR hI hSame hsm hno HEVT hat hrd g0 g1 g2 g3 hkL
              gi_wp2
              refine region_round (S := (fun W' => W'.cell? ⟨w2.heap.size, 0, none⟩ = some (.bool true) ∧ W'.cell? ⟨w2.heap.size + 1, 0, none⟩ = some (.int .i64 (i : Int)) ∧ W'.cell? ⟨w.heap.size, 1, none⟩ = some (.slice (some ⟨bb, o, none⟩) m d) ∧ W'.cell? ⟨Bs, 0, none⟩ = some (.slice P1 p1 q1) ∧ W'.cell? ⟨Bs, 1, none⟩ = some (.slice P2 p2 q2) ∧ W'.cell? ⟨Bs, 2, none⟩ = some (.slice P3 p3 q3) ∧ W'.cell? ⟨Bs, 3, none⟩ = some (.slice P4 p4 q4) ∧ W'.cell? ⟨bb, o + i * 4, none⟩ = some (.slice R1 r1 s1) ∧ W'.cell? ⟨bb, o + i * 4 + 1, none⟩ = some (.slice R2 r2 s2) ∧ W'.cell? ⟨bb, o + i * 4 + 2, none⟩ = some (.slice R3 r3 s3) ∧ W'.cell? ⟨bb, o + i * 4 + 3, none⟩ = some (.slice R4 r4 s4))) (by kernel_rfl) (by kernel_rfl) (by first | exact HQ.out _ kw) (fun KK hKK hHeld => ?_)
              refine wpAnyH_putD (i := 0) (d := 23) (v := ?_) rfl rfl (by kernel_rfl) (by kernel_rfl) (by kernel_rfl) (fun _ _ _ h => h) (Or.inl ⟨by kernel_rfl, ?_⟩) (by first | exact HQ.out _ kw) ?_
              rotate_left
              · (intro w hS; (try dsimp only at hS); go_simp <;> with_reducible rfl)
              try simp only [List.setIfInBounds_toArray, List.set_cons_zero, List.set_cons_succ]
              refine wpAnyH_putD (i := 1) (d := 24) (v := (.bool false)) rfl rfl (by kernel_rfl) (by kernel_rfl) (by kernel_rfl) (fun _ _ _ h => h) (Or.inl ⟨by kernel_rfl, ?_⟩) (by first | exact HQ.out _ kw) ?_
              · (intro w hS; (try dsimp only at hS); go_simp <;> with_reducible rfl)
              try simp only [List.setIfInBounds_toArray, List.set_cons_zero, List.set_cons_succ]
              refine wpAnyH_putD (i := 2) (d := 25) (v := ?_) rfl rfl (by kernel_rfl) (by kernel_rfl) (by kernel_rfl) (fun _ _ _ h => h) (Or.inl ⟨by kernel_rfl, ?_⟩) (by first | exact HQ.out _ kw) ?_
              rotate_left
              · (intro w hS; (try dsimp only at hS); go_simp <;> with_reducible rfl)
              try simp only [List.setIfInBounds_toArray, List.set_cons_zero, List.set_cons_succ]
              refine wpAnyH_putD (i := 3) (d := 26) (v := ?_) rfl rfl (by kernel_rfl) (by kernel_rfl) (by kernel_rfl) (fun _ _ _ h => h) (Or.inl ⟨by kernel_rfl, ?_⟩) (by first | exact HQ.out _ kw) ?_
              rotate_left
              · (intro w hS; (try dsimp only at hS); go_simp <;> with_reducible rfl)
              try simp only [List.setIfInBounds_toArray, List.set_cons_zero, List.set_cons_succ]
              refine wpAnyH_putD (i := 4) (d := 27) (v := ?_) rfl rfl (by kernel_rfl) (by kernel_rfl) (by kernel_rfl) (fun _ _ _ h => h) (Or.inl ⟨by kernel_rfl, ?_⟩) (by first | exact HQ.out _ kw) ?_
              rotate_left
              · (intro w hS; (try dsimp only at hS); go_simp <;> with_reducible rfl)
              try simp only [List.setIfInBounds_toArray, List.set_cons_zero, List.set_cons_succ]
              refine wpAnyH_putD (i := 5) (d := 28) (v := (.bool false)) rfl rfl (by kernel_rfl) (by kernel_rfl) (by kernel_rfl) (fun _ _ _ h => h) (Or.inl ⟨by kernel_rfl, ?_⟩) (by first | exact HQ.out _ kw) ?_
              · (intro w hS; (try dsimp only at hS); go_simp <;> with_reducible rfl)
              try simp only [List.setIfInBounds_toArray, List.set_cons_zero, List.set_cons_succ]
              refine wpAnyH_putD (i := 6) (d := 29) (v := ?_) rfl rfl (by kernel_rfl) (by kernel_rfl) (by kernel_rfl) (fun _ _ _ h => h) (Or.inl ⟨by kernel_rfl, ?_⟩) (by first | exact HQ.out _ kw) ?_
              rotate_left
              · (intro w hS; (try dsimp only at hS); go_simp <;> with_reducible rfl)
              try simp only [List.setIfInBounds_toArray, List.set_cons_zero, List.set_cons_succ]
              refine wpAnyH_putD (i := 7) (d := 30) (v := ?_) rfl rfl (by kernel_rfl) (by kernel_rfl) (by kernel_rfl) (fun _ _ _ h => h) (Or.inl ⟨by kernel_rfl, ?_⟩) (by first | exact HQ.out _ kw) ?_
              rotate_left
              · (intro w hS; (try dsimp only at hS); go_simp <;> with_reducible rfl)
              try simp only [List.setIfInBounds_toArray, List.set_cons_zero, List.set_cons_succ]
              refine wpAnyH_putD (i := 8) (d := 31) (v := ?_) rfl rfl (by kernel_rfl) (by kernel_rfl) (by kernel_rfl) (fun _ _ _ h => h) (Or.inl ⟨by kernel_rfl, ?_⟩) (by first | exact HQ.out _ kw) ?_
              rotate_left
              · (intro w hS; (try dsimp only at hS); go_simp <;> with_reducible rfl)
              try simp only [List.setIfInBounds_toArray, List.set_cons_zero, List.set_cons_succ]
              refine wpAnyH_putD (i := 9) (d := 32) (v := ?_) rfl rfl (by kernel_rfl) (by kernel_rfl) (by kernel_rfl) (fun _ _ _ h => h) (Or.inl ⟨by kernel_rfl, ?_⟩) (by first | exact HQ.out _ kw) ?_
              rotate_left
              · (intro w hS; (try dsimp only at hS); go_simp <;> with_reducible rfl)
              try simp only [List.setIfInBounds_toArray, List.set_cons_zero, List.set_cons_succ]
              refine wpAnyH_putD (i := 10) (d := 33) (v := ?_) rfl rfl (by kernel_rfl) (by kernel_rfl) (by kernel_rfl) (fun _ _ _ h => h) (Or.inl ⟨by kernel_rfl, ?_⟩) (by first | exact HQ.out _ kw) ?_
              rotate_left
              · (intro w hS; (try dsimp only at hS); go_simp <;> with_reducible rfl)
              try simp only [List.setIfInBounds_toArray, List.set_cons_zero, List.set_cons_succ]
              refine wpAnyH_putD (i := 11) (d := 34) (v := ?_) rfl rfl (by kernel_rfl) (by kernel_rfl) (by kernel_rfl) (fun _ _ _ h => h) (Or.inl ⟨by kernel_rfl, ?_⟩) (by first | exact HQ.out _ kw) ?_
              rotate_left
              · (intro w hS; (try dsimp only at hS); go_simp <;> with_reducible rfl)
              try simp only [List.setIfInBounds_toArray, List.set_cons_zero, List.set_cons_succ]
              refine wpAnyH_putD (i := 12) (d := 35) (v := (.bool false)) rfl rfl (by kernel_rfl) (by kernel_rfl) (by kernel_rfl) (fun _ _ _ h => h) (Or.inl ⟨by kernel_rfl, ?_⟩) (by first | exact HQ.out _ kw) ?_
              · (intro w hS; (try dsimp only at hS); go_simp <;> with_reducible rfl)
              try simp only [List.setIfInBounds_toArray, List.set_cons_zero, List.set_cons_succ]
              refine wpAnyH_putD (i := 13) (d := 36) (v := ?_) rfl rfl (by kernel_rfl) (by kernel_rfl) (by kernel_rfl) (fun _ _ _ h => h) (Or.inl ⟨by kernel_rfl, ?_⟩) (by first | exact HQ.out _ kw) ?_
              rotate_left
              · (intro w hS; (try dsimp only at hS); go_simp <;> with_reducible rfl)
              try simp only [List.setIfInBounds_toArray, List.set_cons_zero, List.set_cons_succ]
              refine wpAnyH_putD (i := 14) (d := 37) (v := ?_) rfl rfl (by kernel_rfl) (by kernel_rfl) (by kernel_rfl) (fun _ _ _ h => h) (Or.inl ⟨by kernel_rfl, ?_⟩) (by first | exact HQ.out _ kw) ?_
              rotate_left
              · (intro w hS; (try dsimp only at hS); go_simp <;> with_reducible rfl)
              try simp only [List.setIfInBounds_toArray, List.set_cons_zero, List.set_cons_succ]
              refine wpAnyH_putD (i := 15) (d := 38) (v := ?_) rfl rfl (by kernel_rfl) (by kernel_rfl) (by kernel_rfl) (fun _ _ _ h => h) (Or.inl ⟨by kernel_rfl, ?_⟩) (by first | exact HQ.out _ kw) ?_
              rotate_left
              · (intro w hS; (try dsimp only at hS); go_simp <;> with_reducible rfl)
              try simp only [List.setIfInBounds_toArray, List.set_cons_zero, List.set_cons_succ]
              refine wpAnyH_putD (i := 16) (d := 39) (v := ?_) rfl rfl (by kernel_rfl) (by kernel_rfl) (by kernel_rfl) (fun _ _ _ h => h) (Or.inl ⟨by kernel_rfl, ?_⟩) (by first | exact HQ.out _ kw) ?_
              rotate_left
              · (intro w hS; (try dsimp only at hS); go_simp <;> with_reducible rfl)
              try simp only [List.setIfInBounds_toArray, List.set_cons_zero, List.set_cons_succ]
              refine wpAnyH_putD (i := 17) (d := 40) (v := ?_) rfl rfl (by kernel_rfl) (by kernel_rfl) (by kernel_rfl) (fun _ _ _ h => h) (Or.inl ⟨by kernel_rfl, ?_⟩) (by first | exact HQ.out _ kw) ?_
              rotate_left
              · (intro w hS; (try dsimp only at hS); go_simp <;> with_reducible rfl)
              try simp only [List.setIfInBounds_toArray, List.set_cons_zero, List.set_cons_succ]
              refine wpAnyH_putD (i := 18) (d := 41) (v := ?_) rfl rfl (by kernel_rfl) (by kernel_rfl) (by kernel_rfl) (fun _ _ _ h => h) (Or.inl ⟨by kernel_rfl, ?_⟩) (by first | exact HQ.out _ kw) ?_
              rotate_left
              · (intro w hS; (try dsimp only at hS); go_simp <;> with_reducible rfl)
              try simp only [List.setIfInBounds_toArray, List.set_cons_zero, List.set_cons_succ]
              refine wpAnyH_putD (i := 19) (d := 42) (v := ?_) rfl rfl (by kernel_rfl) (by kernel_rfl) (by kernel_rfl) (fun _ _ _ h => h) (Or.inl ⟨by kernel_rfl, ?_⟩) (by first | exact HQ.out _ kw) ?_
              rotate_left
              · (intro w hS; (try dsimp only at hS); go_simp <;> with_reducible rfl)
              try simp only [List.setIfInBounds_toArray, List.set_cons_zero, List.set_cons_succ]
              refine wpAnyH_putD (i := 20) (d := 43) (v := ?_) rfl rfl (by kernel_rfl) (by kernel_rfl) (by kernel_rfl) (fun _ _ _ h => h) (Or.inl ⟨by kernel_rfl, ?_⟩) (by first | exact HQ.out _ kw) ?_
              rotate_left
              · (intro w hS; (try dsimp only at hS); go_simp <;> with_reducible rfl)
              try simp only [List.setIfInBounds_toArray, List.set_cons_zero, List.set_cons_succ]
              refine wpAnyH_ready (rs := [21]) (by kernel_rfl) (by simp) ?_
              refine AllReadyH.cons rfl (fun K hK => ?_) AllReadyH.nil
              go_simp
              refine (G.out _ kw).mono ?_
              rintro e V ⟨rfl, hb'⟩
              have kw := below_then kw (Nat.le_refl _) hb'
              clear hb'
              refine hK.out _ _ (by first | exact HQ.out _ kw) (fun hHeld => ?_)
              clear hK K
              refine wpAnyH_putD (i := 22) (d := 45) (v := ?_) rfl rfl (by kernel_rfl) (by kernel_rfl) (by kernel_rfl) (fun _ _ _ h => h) (Or.inl ⟨by kernel_rfl, ?_⟩) (by first | exact HQ.out _ kw) ?_
              rotate_left
              · (intro w hS; (try dsimp only at hS); go_simp <;> with_reducible rfl)
              try simp only [List.setIfInBounds_toArray, List.set_cons_zero, List.set_cons_succ]
              refine wpAnyH_putD (i := 23) (d := 46) (v := ?_) rfl rfl (by kernel_rfl) (by kernel_rfl) (by kernel_rfl) (fun _ _ _ h => h) (Or.inl ⟨by kernel_rfl, ?_⟩) (by first | exact HQ.out _ kw) ?_
              rotate_left
              · (intro w hS; (try dsimp only at hS); go_simp <;> with_reducible rfl)
              try simp only [List.setIfInBounds_toArray, List.set_cons_zero, List.set_cons_succ]
              refine wpAnyH_done (by kernel_rfl) ?_ _
              refine Nrm.out (hKK _ _ ?_)
              have hIV := HI.out.below kw
              have f4 := hIV.re.frozen 0
              have q4 := hIV.re.cell 0
              gi_wp2
              refine ⟨((keeps_belowG kw).trans (KeepsOthers.setCell _ _ _)).from _, ⟨rfl, false, i, k, hIV.setR hs2 false, fun h => absurd h HNO.out⟩, (hB.trans (kw.mono hB.size)).setCell (p := ⟨w.heap.size + 1 + 1, 0, none⟩) (by show _ ≤ w.heap.size + 1 + 1; omega) _⟩
            · have hyz := (ntSame_iff y z).1 hsm
              have HYES := Lib.hid (show saidG (pre ++ [(i, ⟨P1, p1, q1, P2, p2, q2, P3, p3, q3, P4, p4, q4⟩, y)]) <+: evG b L su fr by
                rw [HEVT]
                exact said_next (by rw [← HEVT]; exact HPRE.out) (by rw [List.getElem?_drop, ← HK0.out, ← HA0.out, hat, hyz]) (by rw [← HK0.out, ← HA0.out]))
              rw [hsm] at hSame
              have G := Lib.hid hSame
              clear hX hT' hLR hI hSame hsm hno HEVT hat hrd g0 g1 g2 g3 hkL hyz
              by_cases e3 : ((k : Int) + 1 == most) = true
              · gi_wp2
                refine region_round (S := (fun W' => W'.cell? ⟨w2.heap.size, 0, none⟩ = some (.bool true) ∧ W'.cell? ⟨w2.heap.size + 1, 0, none⟩ = some (.int .i64 (i : Int)) ∧ W'.cell? ⟨w.heap.size, 1, none⟩ = some (.slice (some ⟨bb, o, none⟩) m d) ∧ W'.cell? ⟨Bs, 0, none⟩ = some (.slice P1 p1 q1) ∧ W'.cell? ⟨Bs, 1, none⟩ = some (.slice P2 p2 q2) ∧ W'.cell? ⟨Bs, 2, none⟩ = some (.slice P3 p3 q3) ∧ W'.cell? ⟨Bs, 3, none⟩ = some (.slice P4 p4 q4) ∧ W'.cell? ⟨bb, o + i * 4, none⟩ = some (.slice R1 r1 s1) ∧ W'.cell? ⟨bb, o + i * 4 + 1, none⟩ = some (.slice R2 r2 s2) ∧ W'.cell? ⟨bb, o + i * 4 + 2, none⟩ = some (.slice R3 r3 s3) ∧ W'.cell? ⟨bb, o + i * 4 + 3, none⟩ = some (.slice R4 r4 s4))) (by kernel_rfl) (by kernel_rfl) (by first | exact HQ.out _ kw) (fun KK hKK hHeld => ?_)
                refine wpAnyH_putD (i := 0) (d := 23) (v := ?_) rfl rfl (by kernel_rfl) (by kernel_rfl) (by kernel_rfl) (fun _ _ _ h => h) (Or.inl ⟨by kernel_rfl, ?_⟩) (by first | exact HQ.out _ kw) ?_
                rotate_left
                · (intro w hS; (try dsimp only at hS); go_simp <;> with_reducible rfl)
                try simp only [List.setIfInBounds_toArray, List.set_cons_zero, List.set_cons_succ]
                refine wpAnyH_putD (i := 1) (d := 24) (v := (.bool false)) rfl rfl (by kernel_rfl) (by kernel_rfl) (by kernel_rfl) (fun _ _ _ h => h) (Or.inl ⟨by kernel_rfl, ?_⟩) (by first | exact HQ.out _ kw) ?_
                · (intro w hS; (try dsimp only at hS); go_simp <;> with_reducible rfl)
                try simp only [List.setIfInBounds_toArray, List.set_cons_zero, List.set_cons_succ]
                refine wpAnyH_putD (i := 2) (d := 25) (v := ?_) rfl rfl (by kernel_rfl) (by kernel_rfl) (by kernel_rfl) (fun _ _ _ h => h) (Or.inl ⟨by kernel_rfl, ?_⟩) (by first | exact HQ.out _ kw) ?_
                rotate_left
                · (intro w hS; (try dsimp only at hS); go_simp <;> with_reducible rfl)
                try simp only [List.setIfInBounds_toArray, List.set_cons_zero, List.set_cons_succ]
                refine wpAnyH_putD (i := 3) (d := 26) (v := ?_) rfl rfl (by kernel_rfl) (by kernel_rfl) (by kernel_rfl) (fun _ _ _ h => h) (Or.inl ⟨by kernel_rfl, ?_⟩) (by first | exact HQ.out _ kw) ?_
                rotate_left
                · (intro w hS; (try dsimp only at hS); go_simp <;> with_reducible rfl)
                try simp only [List.setIfInBounds_toArray, List.set_cons_zero, List.set_cons_succ]
                refine wpAnyH_putD (i := 4) (d := 27) (v := ?_) rfl rfl (by kernel_rfl) (by kernel_rfl) (by kernel_rfl) (fun _ _ _ h => h) (Or.inl ⟨by kernel_rfl, ?_⟩) (by first | exact HQ.out _ kw) ?_
                rotate_left
                · (intro w hS; (try dsimp only at hS); go_simp <;> with_reducible rfl)
                try simp only [List.setIfInBounds_toArray, List.set_cons_zero, List.set_cons_succ]
                refine wpAnyH_putD (i := 5) (d := 28) (v := (.bool false)) rfl rfl (by kernel_rfl) (by kernel_rfl) (by kernel_rfl) (fun _ _ _ h => h) (Or.inl ⟨by kernel_rfl, ?_⟩) (by first | exact HQ.out _ kw) ?_
                · (intro w hS; (try dsimp only at hS); go_simp <;> with_reducible rfl)
                try simp only [List.setIfInBounds_toArray, List.set_cons_zero, List.set_cons_succ]
                refine wpAnyH_putD (i := 6) (d := 29) (v := ?_) rfl rfl (by kernel_rfl) (by kernel_rfl) (by kernel_rfl) (fun _ _ _ h => h) (Or.inl ⟨by kernel_rfl, ?_⟩) (by first | exact HQ.out _ kw) ?_
                rotate_left
                · (intro w hS; (try dsimp only at hS); go_simp <;> with_reducible rfl)
                try simp only [List.setIfInBounds_toArray, List.set_cons_zero, List.set_cons_succ]
                refine wpAnyH_putD (i := 7) (d := 30) (v := ?_) rfl rfl (by kernel_rfl) (by kernel_rfl) (by kernel_rfl) (fun _ _ _ h => h) (Or.inl ⟨by kernel_rfl, ?_⟩) (by first | exact HQ.out _ kw) ?_
                rotate_left
                · (intro w hS; (try dsimp only at hS); go_simp <;> with_reducible rfl)
                try simp only [List.setIfInBounds_toArray, List.set_cons_zero, List.set_cons_succ]
                refine wpAnyH_putD (i := 8) (d := 31) (v := ?_) rfl rfl (by kernel_rfl) (by kernel_rfl) (by kernel_rfl) (fun _ _ _ h => h) (Or.inl ⟨by kernel_rfl, ?_⟩) (by first | exact HQ.out _ kw) ?_
                rotate_left
                · (intro w hS; (try dsimp only at hS); go_simp <;> with_reducible rfl)
                try simp only [List.setIfInBounds_toArray, List.set_cons_zero, List.set_cons_succ]
                refine wpAnyH_putD (i := 9) (d := 32) (v := ?_) rfl rfl (by kernel_rfl) (by kernel_rfl) (by kernel_rfl) (fun _ _ _ h => h) (Or.inl ⟨by kernel_rfl, ?_⟩) (by first | exact HQ.out _ kw) ?_
                rotate_left
                · (intro w hS; (try dsimp only at hS); go_simp <;> with_reducible rfl)
                try simp only [List.setIfInBounds_toArray, List.set_cons_zero, List.set_cons_succ]
                refine wpAnyH_putD (i := 10) (d := 33) (v := ?_) rfl rfl (by kernel_rfl) (by kernel_rfl) (by kernel_rfl) (fun _ _ _ h => h) (Or.inl ⟨by kernel_rfl, ?_⟩) (by first | exact HQ.out _ kw) ?_
                rotate_left
                · (intro w hS; (try dsimp only at hS); go_simp <;> with_reducible rfl)
                try simp only [List.setIfInBounds_toArray, List.set_cons_zero, List.set_cons_succ]
                refine wpAnyH_putD (i := 11) (d := 34) (v := ?_) rfl rfl (by kernel_rfl) (by kernel_rfl) (by kernel_rfl) (fun _ _ _ h => h) (Or.inl ⟨by kernel_rfl, ?_⟩) (by first | exact HQ.out _ kw) ?_
                rotate_left
                · (intro w hS; (try dsimp only at hS); go_simp <;> with_reducible rfl)
                try simp only [List.setIfInBounds_toArray, List.set_cons_zero, List.set_cons_succ]
                refine wpAnyH_putD (i := 12) (d := 35) (v := (.bool false)) rfl rfl (by kernel_rfl) (by kernel_rfl) (by kernel_rfl) (fun _ _ _ h => h) (Or.inl ⟨by kernel_rfl, ?_⟩) (by first | exact HQ.out _ kw) ?_
                · (intro w hS; (try dsimp only at hS); go_simp <;> with_reducible rfl)
                try simp only [List.setIfInBounds_toArray, List.set_cons_zero, List.set_cons_succ]
                refine wpAnyH_putD (i := 13) (d := 36) (v := ?_) rfl rfl (by kernel_rfl) (by kernel_rfl) (by kernel_rfl) (fun _ _ _ h => h) (Or.inl ⟨by kernel_rfl, ?_⟩) (by first | exact HQ.out _ kw) ?_
                rotate_left
                · (intro w hS; (try dsimp only at hS); go_simp <;> with_reducible rfl)
                try simp only [List.setIfInBounds_toArray, List.set_cons_zero, List.set_cons_succ]
                refine wpAnyH_putD (i := 14) (d := 37) (v := ?_) rfl rfl (by kernel_rfl) (by kernel_rfl) (by kernel_rfl) (fun _ _ _ h => h) (Or.inl ⟨by kernel_rfl, ?_⟩) (by first | exact HQ.out _ kw) ?_
                rotate_left
                · (intro w hS; (try dsimp only at hS); go_simp <;> with_reducible rfl)
                try simp only [List.setIfInBounds_toArray, List.set_cons_zero, List.set_cons_succ]
                refine wpAnyH_putD (i := 15) (d := 38) (v := ?_) rfl rfl (by kernel_rfl) (by kernel_rfl) (by kernel_rfl) (fun _ _ _ h => h) (Or.inl ⟨by kernel_rfl, ?_⟩) (by first | exact HQ.out _ kw) ?_
                rotate_left
                · (intro w hS; (try dsimp only at hS); go_simp <;> with_reducible rfl)
                try simp only [List.setIfInBounds_toArray, List.set_cons_zero, List.set_cons_succ]
                refine wpAnyH_putD (i := 16) (d := 39) (v := ?_) rfl rfl (by kernel_rfl) (by kernel_rfl) (by kernel_rfl) (fun _ _ _ h => h) (Or.inl ⟨by kernel_rfl, ?_⟩) (by first | exact HQ.out _ kw) ?_
                rotate_left
                · (intro w hS; (try dsimp only at hS); go_simp <;> with_reducible rfl)
                try simp only [List.setIfInBounds_toArray, List.set_cons_zero, List.set_cons_succ]
                refine wpAnyH_putD (i := 17) (d := 40) (v := ?_) rfl rfl (by kernel_rfl) (by kernel_rfl) (by kernel_rfl) (fun _ _ _ h => h) (Or.inl ⟨by kernel_rfl, ?_⟩) (by first | exact HQ.out _ kw) ?_
                rotate_left
                · (intro w hS; (try dsimp only at hS); go_simp <;> with_reducible rfl)
                try simp only [List.setIfInBounds_toArray, List.set_cons_zero, List.set_cons_succ]
                refine wpAnyH_putD (i := 18) (d := 41) (v := ?_) rfl rfl (by kernel_rfl) (by kernel_rfl) (by kernel_rfl) (fun _ _ _ h => h) (Or.inl ⟨by kernel_rfl, ?_⟩) (by first | exact HQ.out _ kw) ?_
                rotate_left
                · (intro w hS; (try dsimp only at hS); go_simp <;> with_reducible rfl)
                try simp only [List.setIfInBounds_toArray, List.set_cons_zero, List.set_cons_succ]
                refine wpAnyH_putD (i := 19) (d := 42) (v := ?_) rfl rfl (by kernel_rfl) (by kernel_rfl) (by kernel_rfl) (fun _ _ _ h => h) (Or.inl ⟨by kernel_rfl, ?_⟩) (by first | exact HQ.out _ kw) ?_
                rotate_left
                · (intro w hS; (try dsimp only at hS); go_simp <;> with_reducible rfl)
                try simp only [List.setIfInBounds_toArray, List.set_cons_zero, List.set_cons_succ]
                refine wpAnyH_putD (i := 20) (d := 43) (v := ?_) rfl rfl (by kernel_rfl) (by kernel_rfl) (by kernel_rfl) (fun _ _ _ h => h) (Or.inl ⟨by kernel_rfl, ?_⟩) (by first | exact HQ.out _ kw) ?_
                rotate_left
                · (intro w hS; (try dsimp only at hS); go_simp <;> with_reducible rfl)
                try simp only [List.setIfInBounds_toArray, List.set_cons_zero, List.set_cons_succ]
                refine wpAnyH_ready (rs := [21]) (by kernel_rfl) (by simp) ?_
                refine AllReadyH.cons rfl (fun K hK => ?_) AllReadyH.nil
                go_simp
                refine (G.out _ kw).mono ?_
                rintro e V ⟨rfl, hb'⟩
                have kw := below_then kw (Nat.le_refl _) hb'
                clear hb'
                refine hK.out _ _ (by first | exact HQ.out _ kw) (fun hHeld => ?_)
                clear hK K
                refine wpAnyH_putD (i := 22) (d := 45) (v := ?_) rfl rfl (by kernel_rfl) (by kernel_rfl) (by kernel_rfl) (fun _ _ _ h => h) (Or.inl ⟨by kernel_rfl, ?_⟩) (by first | exact HQ.out _ kw) ?_
                rotate_left
                · (intro w hS; (try dsimp only at hS); go_simp <;> with_reducible rfl)
                try simp only [List.setIfInBounds_toArray, List.set_cons_zero, List.set_cons_succ]
                refine wpAnyH_putD (i := 23) (d := 46) (v := ?_) rfl rfl (by kernel_rfl) (by kernel_rfl) (by kernel_rfl) (fun _ _ _ h => h) (Or.inl ⟨by kernel_rfl, ?_⟩) (by first | exact HQ.out _ kw) ?_
                rotate_left
                · (intro w hS; (try dsimp only at hS); go_simp <;> with_reducible rfl)
                try simp only [List.setIfInBounds_toArray, List.set_cons_zero, List.set_cons_succ]
                refine wpAnyH_done (by kernel_rfl) ?_ _
                refine Nrm.out (hKK _ _ ?_)
                have hIV := HI.out.below kw
                have f4 := hIV.re.frozen 0
                have q4 := hIV.re.cell 0
                have f3 := hIV.at_.frozen 0
                have q3 := hIV.at_.cell 0
                have f5 := hIV.kk.frozen 0
                have q5 := hIV.kk.cell 0
                have qm := hIV.mo.cell 0
                gi_wp2
                refine ⟨((((keeps_belowG kw).trans (KeepsOthers.setCell _ _ _)).trans (KeepsOthers.setCell _ _ _)).trans (KeepsOthers.setCell _ _ _)).from _, ⟨rfl, true, i + 1, k + 1, ((hIV.setA hs2 (i + 1)).setK hs2 (k + 1)).setR hs2 true, fun _ => rfl⟩, (((hB.trans (kw.mono hB.size)).setCell (p := ⟨w2.heap.size + 1, 0, none⟩) (by show _ ≤ w2.heap.size + 1; omega) _).setCell (p := ⟨w2.heap.size + 1 + 1, 0, none⟩) (by show _ ≤ w2.heap.size + 1 + 1; omega) _).setCell (p := ⟨w.heap.size + 1 + 1, 0, none⟩) (by show _ ≤ w.heap.size + 1 + 1; omega) _⟩
              · have e3' : ((k : Int) + 1 == most) = false := by simpa using e3
                clear e3
                gi_wp2
                refine region_round (S := (fun W' => W'.cell? ⟨w2.heap.size, 0, none⟩ = some (.bool true) ∧ W'.cell? ⟨w2.heap.size + 1, 0, none⟩ = some (.int .i64 (i : Int)) ∧ W'.cell? ⟨w.heap.size, 1, none⟩ = some (.slice (some ⟨bb, o, none⟩) m d) ∧ W'.cell? ⟨Bs, 0, none⟩ = some (.slice P1 p1 q1) ∧ W'.cell? ⟨Bs, 1, none⟩ = some (.slice P2 p2 q2) ∧ W'.cell? ⟨Bs, 2, none⟩ = some (.slice P3 p3 q3) ∧ W'.cell? ⟨Bs, 3, none⟩ = some (.slice P4 p4 q4) ∧ W'.cell? ⟨bb, o + i * 4, none⟩ = some (.slice R1 r1 s1) ∧ W'.cell? ⟨bb, o + i * 4 + 1, none⟩ = some (.slice R2 r2 s2) ∧ W'.cell? ⟨bb, o + i * 4 + 2, none⟩ = some (.slice R3 r3 s3) ∧ W'.cell? ⟨bb, o + i * 4 + 3, none⟩ = some (.slice R4 r4 s4))) (by kernel_rfl) (by kernel_rfl) (by first | exact HQ.out _ kw) (fun KK hKK hHeld => ?_)
                refine wpAnyH_putD (i := 0) (d := 23) (v := ?_) rfl rfl (by kernel_rfl) (by kernel_rfl) (by kernel_rfl) (fun _ _ _ h => h) (Or.inl ⟨by kernel_rfl, ?_⟩) (by first | exact HQ.out _ kw) ?_
                rotate_left
                · (intro w hS; (try dsimp only at hS); go_simp <;> with_reducible rfl)
                try simp only [List.setIfInBounds_toArray, List.set_cons_zero, List.set_cons_succ]
                refine wpAnyH_putD (i := 1) (d := 24) (v := (.bool false)) rfl rfl (by kernel_rfl) (by kernel_rfl) (by kernel_rfl) (fun _ _ _ h => h) (Or.inl ⟨by kernel_rfl, ?_⟩) (by first | exact HQ.out _ kw) ?_
                · (intro w hS; (try dsimp only at hS); go_simp <;> with_reducible rfl)
                try simp only [List.setIfInBounds_toArray, List.set_cons_zero, List.set_cons_succ]
                refine wpAnyH_putD (i := 2) (d := 25) (v := ?_) rfl rfl (by kernel_rfl) (by kernel_rfl) (by kernel_rfl) (fun _ _ _ h => h) (Or.inl ⟨by kernel_rfl, ?_⟩) (by first | exact HQ.out _ kw) ?_
                rotate_left
                · (intro w hS; (try dsimp only at hS); go_simp <;> with_reducible rfl)
                try simp only [List.setIfInBounds_toArray, List.set_cons_zero, List.set_cons_succ]
                refine wpAnyH_putD (i := 3) (d := 26) (v := ?_) rfl rfl (by kernel_rfl) (by kernel_rfl) (by kernel_rfl) (fun _ _ _ h => h) (Or.inl ⟨by kernel_rfl, ?_⟩) (by first | exact HQ.out _ kw) ?_
                rotate_left
                · (intro w hS; (try dsimp only at hS); go_simp <;> with_reducible rfl)
                try simp only [List.setIfInBounds_toArray, List.set_cons_zero, List.set_cons_succ]
                refine wpAnyH_putD (i := 4) (d := 27) (v := ?_) rfl rfl (by kernel_rfl) (by kernel_rfl) (by kernel_rfl) (fun _ _ _ h => h) (Or.inl ⟨by kernel_rfl, ?_⟩) (by first | exact HQ.out _ kw) ?_
                rotate_left
                · (intro w hS; (try dsimp only at hS); go_simp <;> with_reducible rfl)
                try simp only [List.setIfInBounds_toArray, List.set_cons_zero, List.set_cons_succ]
                refine wpAnyH_putD (i := 5) (d := 28) (v := (.bool false)) rfl rfl (by kernel_rfl) (by kernel_rfl) (by kernel_rfl) (fun _ _ _ h => h) (Or.inl ⟨by kernel_rfl, ?_⟩) (by first | exact HQ.out _ kw) ?_
                · (intro w hS; (try dsimp only at hS); go_simp <;> with_reducible rfl)
                try simp only [List.setIfInBounds_toArray, List.set_cons_zero, List.set_cons_succ]
                refine wpAnyH_putD (i := 6) (d := 29) (v := ?_) rfl rfl (by kernel_rfl) (by kernel_rfl) (by kernel_rfl) (fun _ _ _ h => h) (Or.inl ⟨by kernel_rfl, ?_⟩) (by first | exact HQ.out _ kw) ?_
                rotate_left
                · (intro w hS; (try dsimp only at hS); go_simp <;> with_reducible rfl)
                try simp only [List.setIfInBounds_toArray, List.set_cons_zero, List.set_cons_succ]
                refine wpAnyH_putD (i := 7) (d := 30) (v := ?_) rfl rfl (by kernel_rfl) (by kernel_rfl) (by kernel_rfl) (fun _ _ _ h => h) (Or.inl ⟨by kernel_rfl, ?_⟩) (by first | exact HQ.out _ kw) ?_
                rotate_left
                · (intro w hS; (try dsimp only at hS); go_simp <;> with_reducible rfl)
                try simp only [List.setIfInBounds_toArray, List.set_cons_zero, List.set_cons_succ]
                refine wpAnyH_putD (i := 8) (d := 31) (v := ?_) rfl rfl (by kernel_rfl) (by kernel_rfl) (by kernel_rfl) (fun _ _ _ h => h) (Or.inl ⟨by kernel_rfl, ?_⟩) (by first | exact HQ.out _ kw) ?_
                rotate_left
                · (intro w hS; (try dsimp only at hS); go_simp <;> with_reducible rfl)
                try simp only [List.setIfInBounds_toArray, List.set_cons_zero, List.set_cons_succ]
                refine wpAnyH_putD (i := 9) (d := 32) (v := ?_) rfl rfl (by kernel_rfl) (by kernel_rfl) (by kernel_rfl) (fun _ _ _ h => h) (Or.inl ⟨by kernel_rfl, ?_⟩) (by first | exact HQ.out _ kw) ?_
                rotate_left
                · (intro w hS; (try dsimp only at hS); go_simp <;> with_reducible rfl)
                try simp only [List.setIfInBounds_toArray, List.set_cons_zero, List.set_cons_succ]
                refine wpAnyH_putD (i := 10) (d := 33) (v := ?_) rfl rfl (by kernel_rfl) (by kernel_rfl) (by kernel_rfl) (fun _ _ _ h => h) (Or.inl ⟨by kernel_rfl, ?_⟩) (by first | exact HQ.out _ kw) ?_
                rotate_left
                · (intro w hS; (try dsimp only at hS); go_simp <;> with_reducible rfl)
                try simp only [List.setIfInBounds_toArray, List.set_cons_zero, List.set_cons_succ]
                refine wpAnyH_putD (i := 11) (d := 34) (v := ?_) rfl rfl (by kernel_rfl) (by kernel_rfl) (by kernel_rfl) (fun _ _ _ h => h) (Or.inl ⟨by kernel_rfl, ?_⟩) (by first | exact HQ.out _ kw) ?_
                rotate_left
                · (intro w hS; (try dsimp only at hS); go_simp <;> with_reducible rfl)
                try simp only [List.setIfInBounds_toArray, List.set_cons_zero, List.set_cons_succ]
                refine wpAnyH_putD (i := 12) (d := 35) (v := (.bool false)) rfl rfl (by kernel_rfl) (by kernel_rfl) (by kernel_rfl) (fun _ _ _ h => h) (Or.inl ⟨by kernel_rfl, ?_⟩) (by first | exact HQ.out _ kw) ?_
                · (intro w hS; (try dsimp only at hS); go_simp <;> with_reducible rfl)
                try simp only [List.setIfInBounds_toArray, List.set_cons_zero, List.set_cons_succ]
                refine wpAnyH_putD (i := 13) (d := 36) (v := ?_) rfl rfl (by kernel_rfl) (by kernel_rfl) (by kernel_rfl) (fun _ _ _ h => h) (Or.inl ⟨by kernel_rfl, ?_⟩) (by first | exact HQ.out _ kw) ?_
                rotate_left
                · (intro w hS; (try dsimp only at hS); go_simp <;> with_reducible rfl)
                try simp only [List.setIfInBounds_toArray, List.set_cons_zero, List.set_cons_succ]
                refine wpAnyH_putD (i := 14) (d := 37) (v := ?_) rfl rfl (by kernel_rfl) (by kernel_rfl) (by kernel_rfl) (fun _ _ _ h => h) (Or.inl ⟨by kernel_rfl, ?_⟩) (by first | exact HQ.out _ kw) ?_
                rotate_left
                · (intro w hS; (try dsimp only at hS); go_simp <;> with_reducible rfl)
                try simp only [List.setIfInBounds_toArray, List.set_cons_zero, List.set_cons_succ]
                refine wpAnyH_putD (i := 15) (d := 38) (v := ?_) rfl rfl (by kernel_rfl) (by kernel_rfl) (by kernel_rfl) (fun _ _ _ h => h) (Or.inl ⟨by kernel_rfl, ?_⟩) (by first | exact HQ.out _ kw) ?_
                rotate_left
                · (intro w hS; (try dsimp only at hS); go_simp <;> with_reducible rfl)
                try simp only [List.setIfInBounds_toArray, List.set_cons_zero, List.set_cons_succ]
                refine wpAnyH_putD (i := 16) (d := 39) (v := ?_) rfl rfl (by kernel_rfl) (by kernel_rfl) (by kernel_rfl) (fun _ _ _ h => h) (Or.inl ⟨by kernel_rfl, ?_⟩) (by first | exact HQ.out _ kw) ?_
                rotate_left
                · (intro w hS; (try dsimp only at hS); go_simp <;> with_reducible rfl)
                try simp only [List.setIfInBounds_toArray, List.set_cons_zero, List.set_cons_succ]
                refine wpAnyH_putD (i := 17) (d := 40) (v := ?_) rfl rfl (by kernel_rfl) (by kernel_rfl) (by kernel_rfl) (fun _ _ _ h => h) (Or.inl ⟨by kernel_rfl, ?_⟩) (by first | exact HQ.out _ kw) ?_
                rotate_left
                · (intro w hS; (try dsimp only at hS); go_simp <;> with_reducible rfl)
                try simp only [List.setIfInBounds_toArray, List.set_cons_zero, List.set_cons_succ]
                refine wpAnyH_putD (i := 18) (d := 41) (v := ?_) rfl rfl (by kernel_rfl) (by kernel_rfl) (by kernel_rfl) (fun _ _ _ h => h) (Or.inl ⟨by kernel_rfl, ?_⟩) (by first | exact HQ.out _ kw) ?_
                rotate_left
                · (intro w hS; (try dsimp only at hS); go_simp <;> with_reducible rfl)
                try simp only [List.setIfInBounds_toArray, List.set_cons_zero, List.set_cons_succ]
                refine wpAnyH_putD (i := 19) (d := 42) (v := ?_) rfl rfl (by kernel_rfl) (by kernel_rfl) (by kernel_rfl) (fun _ _ _ h => h) (Or.inl ⟨by kernel_rfl, ?_⟩) (by first | exact HQ.out _ kw) ?_
                rotate_left
                · (intro w hS; (try dsimp only at hS); go_simp <;> with_reducible rfl)
                try simp only [List.setIfInBounds_toArray, List.set_cons_zero, List.set_cons_succ]
                refine wpAnyH_putD (i := 20) (d := 43) (v := ?_) rfl rfl (by kernel_rfl) (by kernel_rfl) (by kernel_rfl) (fun _ _ _ h => h) (Or.inl ⟨by kernel_rfl, ?_⟩) (by first | exact HQ.out _ kw) ?_
                rotate_left
                · (intro w hS; (try dsimp only at hS); go_simp <;> with_reducible rfl)
                try simp only [List.setIfInBounds_toArray, List.set_cons_zero, List.set_cons_succ]
                refine wpAnyH_ready (rs := [21]) (by kernel_rfl) (by simp) ?_
                refine AllReadyH.cons rfl (fun K hK => ?_) AllReadyH.nil
                go_simp
                refine (G.out _ kw).mono ?_
                rintro e V ⟨rfl, hb'⟩
                have kw := below_then kw (Nat.le_refl _) hb'
                clear hb'
                refine hK.out _ _ (by first | exact HQ.out _ kw) (fun hHeld => ?_)
                clear hK K
                refine wpAnyH_putD (i := 22) (d := 45) (v := ?_) rfl rfl (by kernel_rfl) (by kernel_rfl) (by kernel_rfl) (fun _ _ _ h => h) (Or.inl ⟨by kernel_rfl, ?_⟩) (by first | exact HQ.out _ kw) ?_
                rotate_left
                · (intro w hS; (try dsimp only at hS); go_simp <;> with_reducible rfl)
                try simp only [List.setIfInBounds_toArray, List.set_cons_zero, List.set_cons_succ]
                refine wpAnyH_putD (i := 23) (d := 46) (v := ?_) rfl rfl (by kernel_rfl) (by kernel_rfl) (by kernel_rfl) (fun _ _ _ h => h) (Or.inl ⟨by kernel_rfl, ?_⟩) (by first | exact HQ.out _ kw) ?_
                rotate_left
                · (intro w hS; (try dsimp only at hS); go_simp <;> with_reducible rfl)
                try simp only [List.setIfInBounds_toArray, List.set_cons_zero, List.set_cons_succ]
                refine wpAnyH_done (by kernel_rfl) ?_ _
                refine Nrm.out (hKK _ _ ?_)
                have hIV := HI.out.below kw
                have f4 := hIV.re.frozen 0
                have q4 := hIV.re.cell 0
                have f3 := hIV.at_.frozen 0
                have q3 := hIV.at_.cell 0
                have f5 := hIV.kk.frozen 0
                have q5 := hIV.kk.cell 0
                have qm := hIV.mo.cell 0
                gi_wp2
                refine ⟨(((keeps_belowG kw).trans (KeepsOthers.setCell _ _ _)).trans (KeepsOthers.setCell _ _ _)).from _, fun g => ((g.go kw).setCell (p := ⟨w2.heap.size + 1, 0, none⟩) (by show w2.heap.size + 1 ≠ _; omega) (by show w2.heap.size + 1 ≠ _; omega) (by show _ ≤ w2.heap.size + 1; omega) _).setCell (p := ⟨w2.heap.size + 1 + 1, 0, none⟩) (by show w2.heap.size + 1 + 1 ≠ _; omega) (by show w2.heap.size + 1 + 1 ≠ _; omega) (by show _ ≤ w2.heap.size + 1 + 1; omega) _, ⟨?_, HYES.out⟩, ((hB.trans (kw.mono hB.size)).setCell (p := ⟨w2.heap.size + 1, 0, none⟩) (by show _ ≤ w2.heap.size + 1; omega) _).setCell (p := ⟨w2.heap.size + 1 + 1, 0, none⟩) (by show _ ≤ w2.heap.size + 1 + 1; omega) _⟩
                rw [List.length_append, List.length_singleton, ← HK0.out, ← Nat.add_assoc, ← HA0.out]
                exact (hIV.setA hs2 (i + 1)).setK hs2 (k + 1)
          · have hkk : decide (m ≤ i) = true := decide_eq_true (by omega)
            have HNO := Lib.hid (show ¬ (saidG (pre ++ [(i, ⟨P1, p1, q1, P2, p2, q2, P3, p3, q3, P4, p4, q4⟩, y)]) <+: evG b L su fr) from fun h => by
              have h2 := (hno h).2
              rw [List.getElem?_eq_none (by rw [nts_len, HLN.out]; omega)] at h2
              cases h2)
            have HQ := Lib.hid fun W' (hb : Below W.heap.size W W') => (show W'.cell? ⟨w2.heap.size, 0, none⟩ = some (.bool true) ∧ W'.cell? ⟨w2.heap.size + 1, 0, none⟩ = some (.int .i64 (i : Int)) ∧ W'.cell? ⟨w.heap.size, 1, none⟩ = some (.slice D m d) ∧ W'.cell? ⟨Bs, 0, none⟩ = some (.slice P1 p1 q1) ∧ W'.cell? ⟨Bs, 1, none⟩ = some (.slice P2 p2 q2) ∧ W'.cell? ⟨Bs, 2, none⟩ = some (.slice P3 p3 q3) ∧ W'.cell? ⟨Bs, 3, none⟩ = some (.slice P4 p4 q4) from ⟨(hI.fo.go hb).cell 0, (hI.at_.go hb).cell 0, (hI.lg.go hb).cell 1, (hX.go hb).cell 0, (hX.go hb).cell 1, (hX.go hb).cell 2, (hX.go hb).cell 3⟩)
            clear hX hT' hLR hI hno HEVT
            gi_wp2
            refine region_round (S := (fun W' => W'.cell? ⟨w2.heap.size, 0, none⟩ = some (.bool true) ∧ W'.cell? ⟨w2.heap.size + 1, 0, none⟩ = some (.int .i64 (i : Int)) ∧ W'.cell? ⟨w.heap.size, 1, none⟩ = some (.slice D m d) ∧ W'.cell? ⟨Bs, 0, none⟩ = some (.slice P1 p1 q1) ∧ W'.cell? ⟨Bs, 1, none⟩ = some (.slice P2 p2 q2) ∧ W'.cell? ⟨Bs, 2, none⟩ = some (.slice P3 p3 q3) ∧ W'.cell? ⟨Bs, 3, none⟩ = some (.slice P4 p4 q4))) (by kernel_rfl) (by kernel_rfl) (by first | exact HQ.out _ kw) (fun KK hKK hHeld => ?_)
            refine wpAnyH_putD (i := 0) (d := 23) (v := ?_) rfl rfl (by kernel_rfl) (by kernel_rfl) (by kernel_rfl) (fun _ _ _ h => h) (Or.inl ⟨by kernel_rfl, ?_⟩) (by first | exact HQ.out _ kw) ?_
            rotate_left
            · (intro w hS; (try dsimp only at hS); go_simp <;> with_reducible rfl)
            try simp only [List.setIfInBounds_toArray, List.set_cons_zero, List.set_cons_succ]
            refine wpAnyH_putD (i := 1) (d := 24) (v := (.bool false)) rfl rfl (by kernel_rfl) (by kernel_rfl) (by kernel_rfl) (fun _ _ _ h => h) (Or.inl ⟨by kernel_rfl, ?_⟩) (by first | exact HQ.out _ kw) ?_
            · (intro w hS; (try dsimp only at hS); go_simp <;> with_reducible rfl)
            try simp only [List.setIfInBounds_toArray, List.set_cons_zero, List.set_cons_succ]
            refine wpAnyH_putD (i := 2) (d := 25) (v := ?_) rfl rfl (by kernel_rfl) (by kernel_rfl) (by kernel_rfl) (fun _ _ _ h => h) (Or.inl ⟨by kernel_rfl, ?_⟩) (by first | exact HQ.out _ kw) ?_
            rotate_left
            · (intro w hS; (try dsimp only at hS); go_simp <;> with_reducible rfl)
            try simp only [List.setIfInBounds_toArray, List.set_cons_zero, List.set_cons_succ]
            refine wpAnyH_putD (i := 3) (d := 26) (v := ?_) rfl rfl (by kernel_rfl) (by kernel_rfl) (by kernel_rfl) (fun _ _ _ h => h) (Or.inl ⟨by kernel_rfl, ?_⟩) (by first | exact HQ.out _ kw) ?_
            rotate_left
            · (intro w hS; (try dsimp only at hS); go_simp <;> with_reducible rfl)
            try simp only [List.setIfInBounds_toArray, List.set_cons_zero, List.set_cons_succ]
            refine wpAnyH_putD (i := 4) (d := 27) (v := ?_) rfl rfl (by kernel_rfl) (by kernel_rfl) (by kernel_rfl) (fun _ _ _ h => h) (Or.inl ⟨by kernel_rfl, ?_⟩) (by first | exact HQ.out _ kw) ?_
            rotate_left
            · (intro w hS; (try dsimp only at hS); go_simp <;> with_reducible rfl)
            try simp only [List.setIfInBounds_toArray, List.set_cons_zero, List.set_cons_succ]
            refine wpAnyH_putD (i := 5) (d := 28) (v := (.bool false)) rfl rfl (by kernel_rfl) (by kernel_rfl) (by kernel_rfl) (fun _ _ _ h => h) (Or.inl ⟨by kernel_rfl, ?_⟩) (by first | exact HQ.out _ kw) ?_
            · (intro w hS; (try dsimp only at hS); go_simp <;> with_reducible rfl)
            try simp only [List.setIfInBounds_toArray, List.set_cons_zero, List.set_cons_succ]
            refine wpAnyH_putD (i := 6) (d := 29) (v := ?_) rfl rfl (by kernel_rfl) (by kernel_rfl) (by kernel_rfl) (fun _ _ _ h => h) (Or.inl ⟨by kernel_rfl, ?_⟩) (by first | exact HQ.out _ kw) ?_
            rotate_left
            · (intro w hS; (try dsimp only at hS); go_simp <;> with_reducible rfl)
            try simp only [List.setIfInBounds_toArray, List.set_cons_zero, List.set_cons_succ]
            refine wpAnyH_putD (i := 7) (d := 30) (v := ?_) rfl rfl (by kernel_rfl) (by kernel_rfl) (by kernel_rfl) (fun _ _ _ h => h) (Or.inl ⟨by kernel_rfl, ?_⟩) (by first | exact HQ.out _ kw) ?_
            rotate_left
            · (intro w hS; (try dsimp only at hS); go_simp <;> with_reducible rfl)
            try simp only [List.setIfInBounds_toArray, List.set_cons_zero, List.set_cons_succ]
            refine wpAnyH_putD (i := 8) (d := 31) (v := ?_) rfl rfl (by kernel_rfl) (by kernel_rfl) (by kernel_rfl) (fun _ _ _ h => h) (Or.inl ⟨by kernel_rfl, ?_⟩) (by first | exact HQ.out _ kw) ?_
            rotate_left
            · (intro w hS; (try dsimp only at hS); go_simp <;> with_reducible rfl)
            try simp only [List.setIfInBounds_toArray, List.set_cons_zero, List.set_cons_succ]
            refine wpAnyH_putD (i := 9) (d := 32) (v := ?_) rfl rfl (by kernel_rfl) (by kernel_rfl) (by kernel_rfl) (fun _ _ _ h => h) (Or.inl ⟨by kernel_rfl, ?_⟩) (by first | exact HQ.out _ kw) ?_
            rotate_left
            · (intro w hS; (try dsimp only at hS); go_simp <;> with_reducible rfl)
            try simp only [List.setIfInBounds_toArray, List.set_cons_zero, List.set_cons_succ]
            refine wpAnyH_putD (i := 10) (d := 33) (v := ?_) rfl rfl (by kernel_rfl) (by kernel_rfl) (by kernel_rfl) (fun _ _ _ h => h) (Or.inl ⟨by kernel_rfl, ?_⟩) (by first | exact HQ.out _ kw) ?_
            rotate_left
            · (intro w hS; (try dsimp only at hS); go_simp <;> with_reducible rfl)
            try simp only [List.setIfInBounds_toArray, List.set_cons_zero, List.set_cons_succ]
            refine wpAnyH_putD (i := 11) (d := 34) (v := ?_) rfl rfl (by kernel_rfl) (by kernel_rfl) (by kernel_rfl) (fun _ _ _ h => h) (Or.inl ⟨by kernel_rfl, ?_⟩) (by first | exact HQ.out _ kw) ?_
            rotate_left
            · (intro w hS; (try dsimp only at hS); go_simp <;> with_reducible rfl)
            try simp only [List.setIfInBounds_toArray, List.set_cons_zero, List.set_cons_succ]
            refine wpAnyH_putD (i := 12) (d := 35) (v := (.bool true)) rfl rfl (by kernel_rfl) (by kernel_rfl) (by kernel_rfl) (fun _ _ _ h => h) (Or.inl ⟨by kernel_rfl, ?_⟩) (by first | exact HQ.out _ kw) ?_
            · (intro w hS; (try dsimp only at hS); go_simp <;> with_reducible rfl)
            try simp only [List.setIfInBounds_toArray, List.set_cons_zero, List.set_cons_succ]
            refine wpAnyH_putD (i := 13) (d := 36) (v := ?_) rfl rfl (by kernel_rfl) (by kernel_rfl) (by kernel_rfl) (fun _ _ _ h => h) (Or.inl ⟨by kernel_rfl, ?_⟩) (by first | exact HQ.out _ kw) ?_
            rotate_left
            · (intro w hS; (try dsimp only at hS); go_simp <;> with_reducible rfl)
            try simp only [List.setIfInBounds_toArray, List.set_cons_zero, List.set_cons_succ]
            refine wpAnyH_putD (i := 14) (d := 37) (v := ?_) rfl rfl (by kernel_rfl) (by kernel_rfl) (by kernel_rfl) (fun _ _ _ h => h) (Or.inl ⟨by kernel_rfl, ?_⟩) (by first | exact HQ.out _ kw) ?_
            rotate_left
            · (intro w hS; (try dsimp only at hS); go_simp <;> with_reducible rfl)
            try simp only [List.setIfInBounds_toArray, List.set_cons_zero, List.set_cons_succ]
            refine wpAnyH_putD (i := 15) (d := 38) (v := undef) rfl rfl (by kernel_rfl) (by kernel_rfl) (by kernel_rfl) (fun _ _ _ h => h) (Or.inr ⟨by kernel_rfl, rfl⟩) (by first | exact HQ.out _ kw) ?_
            try simp only [List.setIfInBounds_toArray, List.set_cons_zero, List.set_cons_succ]
            refine wpAnyH_putD (i := 16) (d := 39) (v := undef) rfl rfl (by kernel_rfl) (by kernel_rfl) (by kernel_rfl) (fun _ _ _ h => h) (Or.inr ⟨by kernel_rfl, rfl⟩) (by first | exact HQ.out _ kw) ?_
            try simp only [List.setIfInBounds_toArray, List.set_cons_zero, List.set_cons_succ]
            refine wpAnyH_putD (i := 17) (d := 40) (v := undef) rfl rfl (by kernel_rfl) (by kernel_rfl) (by kernel_rfl) (fun _ _ _ h => h) (Or.inr ⟨by kernel_rfl, rfl⟩) (by first | exact HQ.out _ kw) ?_
            try simp only [List.setIfInBounds_toArray, List.set_cons_zero, List.set_cons_succ]
            refine wpAnyH_putD (i := 18) (d := 41) (v := undef) rfl rfl (by kernel_rfl) (by kernel_rfl) (by kernel_rfl) (fun _ _ _ h => h) (Or.inr ⟨by kernel_rfl, rfl⟩) (by first | exact HQ.out _ kw) ?_
            try simp only [List.setIfInBounds_toArray, List.set_cons_zero, List.set_cons_succ]
            refine wpAnyH_putD (i := 19) (d := 42) (v := undef) rfl rfl (by kernel_rfl) (by kernel_rfl) (by kernel_rfl) (fun _ _ _ h => h) (Or.inr ⟨by kernel_rfl, rfl⟩) (by first | exact HQ.out _ kw) ?_
            try simp only [List.setIfInBounds_toArray, List.set_cons_zero, List.set_cons_succ]
            refine wpAnyH_putD (i := 20) (d := 43) (v := undef) rfl rfl (by kernel_rfl) (by kernel_rfl) (by kernel_rfl) (fun _ _ _ h => h) (Or.inr ⟨by kernel_rfl, rfl⟩) (by first | exact HQ.out _ kw) ?_
            try simp only [List.setIfInBounds_toArray, List.set_cons_zero, List.set_cons_succ]
            refine wpAnyH_putD (i := 21) (d := 44) (v := undef) rfl rfl (by kernel_rfl) (by kernel_rfl) (by kernel_rfl) (fun _ _ _ h => h) (Or.inr ⟨by kernel_rfl, rfl⟩) (by first | exact HQ.out _ kw) ?_
            try simp only [List.setIfInBounds_toArray, List.set_cons_zero, List.set_cons_succ]
            refine wpAnyH_putD (i := 22) (d := 45) (v := undef) rfl rfl (by kernel_rfl) (by kernel_rfl) (by kernel_rfl) (fun _ _ _ h => h) (Or.inr ⟨by kernel_rfl, rfl⟩) (by first | exact HQ.out _ kw) ?_
            try simp only [List.setIfInBounds_toArray, List.set_cons_zero, List.set_cons_succ]
            refine wpAnyH_putD (i := 23) (d := 46) (v := ?_) rfl rfl (by kernel_rfl) (by kernel_rfl) (by kernel_rfl) (fun _ _ _ h => h) (Or.inl ⟨by kernel_rfl, ?_⟩) (by first | exact HQ.out _ kw) ?_
            rotate_left
            · (intro w hS; (try dsimp only at hS); go_simp <;> with_reducible rfl)
            try simp only [List.setIfInBounds_toArray, List.set_cons_zero, List.set_cons_succ]
            refine wpAnyH_done (by kernel_rfl) ?_ _
            refine Nrm.out (hKK _ _ ?_)
            have hIV := HI.out.below kw
            have f4 := hIV.re.frozen 0
            have q4 := hIV.re.cell 0
            gi_wp2
            refine ⟨((keeps_belowG kw).trans (KeepsOthers.setCell _ _ _)).from _, ⟨rfl, false, i, k, hIV.setR hs2 false, fun h => absurd h HNO.out⟩, (hB.trans (kw.mono hB.size)).setCell (p := ⟨w.heap.size + 1 + 1, 0, none⟩) (by show _ ≤ w.heap.size + 1 + 1; omega) _⟩
        · have he : ((i : Int) != (a : Int)) = true := bne_iff_ne.2 (by omega)
          have HNO := Lib.hid (show ¬ (saidG (pre ++ [(i, ⟨P1, p1, q1, P2, p2, q2, P3, p3, q3, P4, p4, q4⟩, y)]) <+: evG b L su fr) from fun h => ei (hno h).1)
          have HQ := Lib.hid fun W' (hb : Below W.heap.size W W') => (show W'.cell? ⟨w2.heap.size, 0, none⟩ = some (.bool true) ∧ W'.cell? ⟨w2.heap.size + 1, 0, none⟩ = some (.int .i64 (a : Int)) ∧ W'.cell? ⟨w.heap.size, 1, none⟩ = some (.slice D m d) ∧ W'.cell? ⟨Bs, 0, none⟩ = some (.slice P1 p1 q1) ∧ W'.cell? ⟨Bs, 1, none⟩ = some (.slice P2 p2 q2) ∧ W'.cell? ⟨Bs, 2, none⟩ = some (.slice P3 p3 q3) ∧ W'.cell? ⟨Bs, 3, none⟩ = some (.slice P4 p4 q4) from ⟨(hI.fo.go hb).cell 0, (hI.at_.go hb).cell 0, (hI.lg.go hb).cell 1, (hX.go hb).cell 0, (hX.go hb).cell 1, (hX.go hb).cell 2, (hX.go hb).cell 3⟩)
          clear hX hT' hLR hI hno HEVT ei
          gi_wp2
          refine region_round (S := (fun W' => W'.cell? ⟨w2.heap.size, 0, none⟩ = some (.bool true) ∧ W'.cell? ⟨w2.heap.size + 1, 0, none⟩ = some (.int .i64 (a : Int)) ∧ W'.cell? ⟨w.heap.size, 1, none⟩ = some (.slice D m d) ∧ W'.cell? ⟨Bs, 0, none⟩ = some (.slice P1 p1 q1) ∧ W'.cell? ⟨Bs, 1, none⟩ = some (.slice P2 p2 q2) ∧ W'.cell? ⟨Bs, 2, none⟩ = some (.slice P3 p3 q3) ∧ W'.cell? ⟨Bs, 3, none⟩ = some (.slice P4 p4 q4))) (by kernel_rfl) (by kernel_rfl) (by first | exact HQ.out _ kw) (fun KK hKK hHeld => ?_)
          refine wpAnyH_putD (i := 0) (d := 23) (v := ?_) rfl rfl (by kernel_rfl) (by kernel_rfl) (by kernel_rfl) (fun _ _ _ h => h) (Or.inl ⟨by kernel_rfl, ?_⟩) (by first | exact HQ.out _ kw) ?_
          rotate_left
          · (intro w hS; (try dsimp only at hS); go_simp <;> with_reducible rfl)
          try simp only [List.setIfInBounds_toArray, List.set_cons_zero, List.set_cons_succ]
          refine wpAnyH_putD (i := 1) (d := 24) (v := (.bool false)) rfl rfl (by kernel_rfl) (by kernel_rfl) (by kernel_rfl) (fun _ _ _ h => h) (Or.inl ⟨by kernel_rfl, ?_⟩) (by first | exact HQ.out _ kw) ?_
          · (intro w hS; (try dsimp only at hS); go_simp <;> with_reducible rfl)
          try simp only [List.setIfInBounds_toArray, List.set_cons_zero, List.set_cons_succ]
          refine wpAnyH_putD (i := 2) (d := 25) (v := ?_) rfl rfl (by kernel_rfl) (by kernel_rfl) (by kernel_rfl) (fun _ _ _ h => h) (Or.inl ⟨by kernel_rfl, ?_⟩) (by first | exact HQ.out _ kw) ?_
          rotate_left
          · (intro w hS; (try dsimp only at hS); go_simp <;> with_reducible rfl)
          try simp only [List.setIfInBounds_toArray, List.set_cons_zero, List.set_cons_succ]
          refine wpAnyH_putD (i := 3) (d := 26) (v := ?_) rfl rfl (by kernel_rfl) (by kernel_rfl) (by kernel_rfl) (fun _ _ _ h => h) (Or.inl ⟨by kernel_rfl, ?_⟩) (by first | exact HQ.out _ kw) ?_
          rotate_left
          · (intro w hS; (try dsimp only at hS); go_simp <;> with_reducible rfl)
          try simp only [List.setIfInBounds_toArray, List.set_cons_zero, List.set_cons_succ]
          refine wpAnyH_putD (i := 4) (d := 27) (v := ?_) rfl rfl (by kernel_rfl) (by kernel_rfl) (by kernel_rfl) (fun _ _ _ h => h) (Or.inl ⟨by kernel_rfl, ?_⟩) (by first | exact HQ.out _ kw) ?_
          rotate_left
          · (intro w hS; (try dsimp only at hS); go_simp <;> with_reducible rfl)
          try simp only [List.setIfInBounds_toArray, List.set_cons_zero, List.set_cons_succ]
          refine wpAnyH_putD (i := 5) (d := 28) (v := (.bool true)) rfl rfl (by kernel_rfl) (by kernel_rfl) (by kernel_rfl) (fun _ _ _ h => h) (Or.inl ⟨by kernel_rfl, ?_⟩) (by first | exact HQ.out _ kw) ?_
          · (intro w hS; (try dsimp only at hS); go_simp <;> with_reducible rfl)
          try simp only [List.setIfInBounds_toArray, List.set_cons_zero, List.set_cons_succ]
          refine wpAnyH_putD (i := 6) (d := 29) (v := ?_) rfl rfl (by kernel_rfl) (by kernel_rfl) (by kernel_rfl) (fun _ _ _ h => h) (Or.inl ⟨by kernel_rfl, ?_⟩) (by first | exact HQ.out _ kw) ?_
          rotate_left
          · (intro w hS; (try dsimp only at hS); go_simp <;> with_reducible rfl)
          try simp only [List.setIfInBounds_toArray, List.set_cons_zero, List.set_cons_succ]
          refine wpAnyH_putD (i := 7) (d := 30) (v := ?_) rfl rfl (by kernel_rfl) (by kernel_rfl) (by kernel_rfl) (fun _ _ _ h => h) (Or.inl ⟨by kernel_rfl, ?_⟩) (by first | exact HQ.out _ kw) ?_
          rotate_left
          · (intro w hS; (try dsimp only at hS); go_simp <;> with_reducible rfl)
          try simp only [List.setIfInBounds_toArray, List.set_cons_zero, List.set_cons_succ]
          refine wpAnyH_putD (i := 8) (d := 31) (v := undef) rfl rfl (by kernel_rfl) (by kernel_rfl) (by kernel_rfl) (fun _ _ _ h => h) (Or.inr ⟨by kernel_rfl, rfl⟩) (by first | exact HQ.out _ kw) ?_
          try simp only [List.setIfInBounds_toArray, List.set_cons_zero, List.set_cons_succ]
          refine wpAnyH_putD (i := 9) (d := 32) (v := undef) rfl rfl (by kernel_rfl) (by kernel_rfl) (by kernel_rfl) (fun _ _ _ h => h) (Or.inr ⟨by kernel_rfl, rfl⟩) (by first | exact HQ.out _ kw) ?_
          try simp only [List.setIfInBounds_toArray, List.set_cons_zero, List.set_cons_succ]
          refine wpAnyH_putD (i := 10) (d := 33) (v := undef) rfl rfl (by kernel_rfl) (by kernel_rfl) (by kernel_rfl) (fun _ _ _ h => h) (Or.inr ⟨by kernel_rfl, rfl⟩) (by first | exact HQ.out _ kw) ?_
          try simp only [List.setIfInBounds_toArray, List.set_cons_zero, List.set_cons_succ]
          refine wpAnyH_putD (i := 11) (d := 34) (v := undef) rfl rfl (by kernel_rfl) (by kernel_rfl) (by kernel_rfl) (fun _ _ _ h => h) (Or.inr ⟨by kernel_rfl, rfl⟩) (by first | exact HQ.out _ kw) ?_
          try simp only [List.setIfInBounds_toArray, List.set_cons_zero, List.set_cons_succ]
          refine wpAnyH_putD (i := 12) (d := 35) (v := undef) rfl rfl (by kernel_rfl) (by kernel_rfl) (by kernel_rfl) (fun _ _ _ h => h) (Or.inr ⟨by kernel_rfl, rfl⟩) (by first | exact HQ.out _ kw) ?_
          try simp only [List.setIfInBounds_toArray, List.set_cons_zero, List.set_cons_succ]
          refine wpAnyH_putD (i := 13) (d := 36) (v := ?_) rfl rfl (by kernel_rfl) (by kernel_rfl) (by kernel_rfl) (fun _ _ _ h => h) (Or.inl ⟨by kernel_rfl, ?_⟩) (by first | exact HQ.out _ kw) ?_
          rotate_left
          · (intro w hS; (try dsimp only at hS); go_simp <;> with_reducible rfl)
          try simp only [List.setIfInBounds_toArray, List.set_cons_zero, List.set_cons_succ]
          refine wpAnyH_putD (i := 14) (d := 37) (v := ?_) rfl rfl (by kernel_rfl) (by kernel_rfl) (by kernel_rfl) (fun _ _ _ h => h) (Or.inl ⟨by kernel_rfl, ?_⟩) (by first | exact HQ.out _ kw) ?_
          rotate_left
          · (intro w hS; (try dsimp only at hS); go_simp <;> with_reducible rfl)
          try simp only [List.setIfInBounds_toArray, List.set_cons_zero, List.set_cons_succ]
          refine wpAnyH_putD (i := 15) (d := 38) (v := undef) rfl rfl (by kernel_rfl) (by kernel_rfl) (by kernel_rfl) (fun _ _ _ h => h) (Or.inr ⟨by kernel_rfl, rfl⟩) (by first | exact HQ.out _ kw) ?_
          try simp only [List.setIfInBounds_toArray, List.set_cons_zero, List.set_cons_succ]
          refine wpAnyH_putD (i := 16) (d := 39) (v := undef) rfl rfl (by kernel_rfl) (by kernel_rfl) (by kernel_rfl) (fun _ _ _ h => h) (Or.inr ⟨by kernel_rfl, rfl⟩) (by first | exact HQ.out _ kw) ?_
          try simp only [List.setIfInBounds_toArray, List.set_cons_zero, List.set_cons_succ]
          refine wpAnyH_putD (i := 17) (d := 40) (v := undef) rfl rfl (by kernel_rfl) (by kernel_rfl) (by kernel_rfl) (fun _ _ _ h => h) (Or.inr ⟨by kernel_rfl, rfl⟩) (by first | exact HQ.out _ kw) ?_
          try simp only [List.setIfInBounds_toArray, List.set_cons_zero, List.set_cons_succ]
          refine wpAnyH_putD (i := 18) (d := 41) (v := undef) rfl rfl (by kernel_rfl) (by kernel_rfl) (by kernel_rfl) (fun _ _ _ h => h) (Or.inr ⟨by kernel_rfl, rfl⟩) (by first | exact HQ.out _ kw) ?_
          try simp only [List.setIfInBounds_toArray, List.set_cons_zero, List.set_cons_succ]
          refine wpAnyH_putD (i := 19) (d := 42) (v := undef) rfl rfl (by kernel_rfl) (by kernel_rfl) (by kernel_rfl) (fun _ _ _ h => h) (Or.inr ⟨by kernel_rfl, rfl⟩) (by first | exact HQ.out _ kw) ?_
          try simp only [List.setIfInBounds_toArray, List.set_cons_zero, List.set_cons_succ]
          refine wpAnyH_putD (i := 20) (d := 43) (v := undef) rfl rfl (by kernel_rfl) (by kernel_rfl) (by kernel_rfl) (fun _ _ _ h => h) (Or.inr ⟨by kernel_rfl, rfl⟩) (by first | exact HQ.out _ kw) ?_
          try simp only [List.setIfInBounds_toArray, List.set_cons_zero, List.set_cons_succ]
          refine wpAnyH_putD (i := 21) (d := 44) (v := undef) rfl rfl (by kernel_rfl) (by kernel_rfl) (by kernel_rfl) (fun _ _ _ h => h) (Or.inr ⟨by kernel_rfl, rfl⟩) (by first | exact HQ.out _ kw) ?_
          try simp only [List.setIfInBounds_toArray, List.set_cons_zero, List.set_cons_succ]
          refine wpAnyH_putD (i := 22) (d := 45) (v := undef) rfl rfl (by kernel_rfl) (by kernel_rfl) (by kernel_rfl) (fun _ _ _ h => h) (Or.inr ⟨by kernel_rfl, rfl⟩) (by first | exact HQ.out _ kw) ?_
          try simp only [List.setIfInBounds_toArray, List.set_cons_zero, List.set_cons_succ]
          refine wpAnyH_putD (i := 23) (d := 46) (v := ?_) rfl rfl (by kernel_rfl) (by kernel_rfl) (by kernel_rfl) (fun _ _ _ h => h) (Or.inl ⟨by kernel_rfl, ?_⟩) (by first | exact HQ.out _ kw) ?_
          rotate_left
          · (intro w hS; (try dsimp only at hS); go_simp <;> with_reducible rfl)
          try simp only [List.setIfInBounds_toArray, List.set_cons_zero, List.set_cons_succ]
          refine wpAnyH_done (by kernel_rfl) ?_ _
          refine Nrm.out (hKK _ _ ?_)
          have hIV := HI.out.below kw
          have f4 := hIV.re.frozen 0
          have q4 := hIV.re.cell 0
          gi_wp2
          refine ⟨((keeps_belowG kw).trans (KeepsOthers.setCell _ _ _)).from _, ⟨rfl, false, a, k, hIV.setR hs2 false, fun h => absurd h HNO.out⟩, (hB.trans (kw.mono hB.size)).setCell (p := ⟨w.heap.size + 1 + 1, 0, none⟩) (by show _ ≤ w.heap.size + 1 + 1; omega) _⟩
    case done =>
      rintro E' ys W hD hys ⟨⟨hI, hpre⟩, hB⟩ hK
      have q2 := hI.fo.cell 0
      have q3 := hI.at_.cell 0
      have q4 := hI.re.cell 0
      have f4 := hI.re.frozen 0
      have q5 := hI.lg.cell 1
      have HRE := Lib.hid hI.re
      have hys' : saidG ys = evG b L su fr := hys
      have hK' := (KeepsOthers.setCell W ⟨w.heap.size + 1 + 1, 0, none⟩ (.bool true)).same E' _ hK rfl
      have hge : z = true → m ≤ 0 + ys.length := fun hz => by
        rw [HEV.out, if_pos hz] at hys'
        have h1 := congrArg List.length hys'
        rw [saidG_len, evD_len, List.length_drop, nts_len, HLN.out] at h1
        omega
      clear hys hys' hpre hI
      rcases z with _ | _
      · clear q3 hge
        gi_wp2
        refine ⟨by simp, .inl ⟨_, _, rfl, run_takeDeferred hK', ?_⟩⟩
        have hc5 := cell_kept (World.cell?_setCell_same' W ⟨w.heap.size + 1 + 1, 0, none⟩ (.bool true) (by rw [q4]; rfl)) (grownBy_putObj' _ E' (.deferred none)) (fun r e => by cases e; exact ⟨_, hK', rfl⟩)
        refine ⟨.bool true, ?_, rfl, (hB.setCell (p := ⟨w.heap.size + 1 + 1, 0, none⟩) (by show _ ≤ w.heap.size + 1 + 1; omega) _).trans (belowK_b (w := w) (Nat.le_refl _) _ E' _ _ (by omega) hK' rfl rfl)⟩
        simp [results, Tryd.f8, go_sem, hc5]
      · have hkk := hge rfl
        obtain ⟨a, ha⟩ : ∃ a, a = 0 + ys.length := ⟨_, rfl⟩
        rw [← ha] at hkk q3
        have hd : decide (m ≤ a) = true := decide_eq_true hkk
        clear hge ha
        gi_wp2
        refine ⟨by simp, .inl ⟨_, _, rfl, run_takeDeferred hK', ?_⟩⟩
        have hc5 := cell_kept (World.cell?_setCell_same' W ⟨w.heap.size + 1 + 1, 0, none⟩ (.bool true) (by rw [q4]; rfl)) (grownBy_putObj' _ E' (.deferred none)) (fun r e => by cases e; exact ⟨_, hK', rfl⟩)
        refine ⟨.bool true, ?_, rfl, (hB.setCell (p := ⟨w.heap.size + 1 + 1, 0, none⟩) (by show _ ≤ w.heap.size + 1 + 1; omega) _).trans (belowK_b (w := w) (Nat.le_refl _) _ E' _ _ (by omega) hK' rfl rfl)⟩
        simp [results, Tryd.f8, go_sem, hc5]
    case stop =>
      rintro E' c' pre W hD hpre ⟨⟨rfl, r, a, k, hI, hr⟩, hB⟩ hK
      obtain rfl := hr hpre
      have q4 := hI.re.cell 0
      clear hr hpre hI
      gi_wp2
      refine ⟨by simp, .inl ⟨_, _, rfl, run_takeDeferred hK, ?_⟩⟩
      have hc5 := cell_kept q4 (grownBy_putObj' _ E' (.deferred none)) (fun r e => by cases e; exact ⟨_, hK, rfl⟩)
      refine ⟨.bool true, ?_, rfl, hB.trans (belowK_b (w := w) (Nat.le_refl _) W E' _ _ (by omega) hK rfl rfl)⟩
      simp [results, Tryd.f8, go_sem, hc5]
end Go.Proofs.YtldcgmnfohhjbaaDoor
