/- Walk: invlog.Place. -/
import Derived.Test.YtldcgmnfohhjbaaDoorLgJ
import Derived.Test.YtldcgmnfohhjbaaDoorMOld
namespace Go.Proofs.YtldcgmnfohhjbaaDoor
open Go.RowKit Go.Shelf
set_option maxRecDepth 100000
attribute [local go_sem] Oper.semAt_some

theorem keeps_belowG {W V : World} (hb : Below W.heap.size W V) : KeepsOthers W V := ⟨hb.size, fun k _ hk _ => (hb.block k (Array.getElem?_eq_some_iff.1 hk).1).trans hk⟩
theorem evD_len : ∀ (l : List Nt) (i : Nat), (evD i l).length = l.length
  | [], _ => rfl
  | x :: r, i => by rw [evD, List.length_cons, List.length_cons, evD_len r (i + 1)]
theorem evD_at : ∀ (l : List Nt) (i k : Nat), (evD i l)[k]? = l[k]?.map fun x => (i + k, x)
  | [], i, k => by simp [evD]
  | x :: r, i, 0 => by simp [evD]
  | x :: r, i, k + 1 => by
    rw [evD, List.getElem?_cons_succ, List.getElem?_cons_succ, evD_at r (i + 1) k]
    congr 1; funext y; rw [show i + 1 + k = i + (k + 1) by omega]
theorem saidG_len (l : List EvG) : (saidG l).length = l.length := by simp [saidG]
/-- What a prefix of what is told says. -/
theorem said_at {l : List Nt} {i : Nat} {pre : List EvG} {x : EvG} (h : saidG (pre ++ [x]) <+: evD i l) : l[pre.length]? = some x.2.2 ∧ x.1 = i + pre.length := by
  obtain ⟨r, hr⟩ := h
  rw [saidG_snoc] at hr
  have h1 : (evD i l)[pre.length]? = some (x.1, x.2.2) := by
    rw [← hr, List.append_assoc, List.getElem?_append_right (by rw [saidG_len]; exact Nat.le_refl _), saidG_len, Nat.sub_self]; rfl
  rw [evD_at] at h1
  cases hx : l[pre.length]? with
  | none => rw [hx] at h1; cases h1
  | some y =>
    rw [hx] at h1
    simp only [Option.map_some, Option.some.injEq, Prod.mk.injEq] at h1
    exact ⟨by rw [h1.2], h1.1.symm⟩
/-- No note that came is new. -/
def noNews (u : List Vc.St) (pre : List EvG) : Prop := ∀ x ∈ pre, ntNews x.2.2 u = false
theorem plW_pre {u : List Vc.St} : ∀ (k : Nat) (l : List Nt), (∀ i (h : i < l.length), i < k → ntNews l[i] u = false) → k ≤ l.length → plW u l = k + plW u (l.drop k)
  | 0, l, _, _ => by simp
  | k + 1, [], _, h => by simp at h
  | k + 1, x :: r, h, hk => by
    have h0 := h 0 (by simp) (by omega)
    rw [plW, if_neg (by rw [show x = (x :: r)[0] from rfl, h0]; simp), plW_pre k r (fun i hi hik => h (i + 1) (by simp; omega) (by omega)) (by simpa using hk)]
    rw [List.drop_succ_cons]; omega
theorem said_no {l : List Nt} {u : List Vc.St} {pre : List EvG} (h : saidG pre <+: evD 0 l) (hn : noNews u pre) : pre.length ≤ l.length ∧ ∀ i (h : i < l.length), i < pre.length → ntNews l[i] u = false := by
  have hlen : pre.length ≤ l.length := by
    have := h.length_le
    rwa [saidG_len, evD_len] at this
  refine ⟨hlen, fun i hi hip => ?_⟩
  obtain ⟨r, hr⟩ := h
  have h1 : (evD 0 l)[i]? = some (pre[i].1, pre[i].2.2) := by
    rw [← hr, List.getElem?_append_left (by rw [saidG_len]; exact hip)]; simp [saidG, List.getElem?_eq_getElem hip]
  rw [evD_at, List.getElem?_eq_getElem hi] at h1
  simp only [Option.map_some, Option.some.injEq, Prod.mk.injEq] at h1
  rw [h1.2]
  exact hn _ (List.getElem_mem hip)

theorem blkG_kept {W W' : World} {g : Nat} {t : TypeId} {cs : Array Value} {row : Option Nat} (h : Blk W g t cs) (hg : W.grownBy W' row) (hr : ∀ r, row = some r → ∃ o : Obj, W.heap[r]? = some o ∧ o.isCells = false) : Blk W' g t cs :=
  h.grown hg (fun e => by obtain ⟨o, ho, hc⟩ := hr _ e.symm; rw [h] at ho; injection ho with ho; rw [← ho] at hc; cases hc)
theorem egT_kept {x : EvG} {X Y : World} {row : Option Nat} (h : egT x X) (hg : X.grownBy Y row) (hr : ∀ r, row = some r → ∃ o : Obj, X.heap[r]? = some o ∧ o.isCells = false) : egT x Y := by
  have h' : NtRd X X.heap.size x.2.1 x.2.2 := h
  exact (⟨h'.l1, (rd_kept h'.r1 hg hr).more hg.size, h'.l2, (rd_kept h'.r2 hg hr).more hg.size, h'.l3, (rd_kept h'.r3 hg hr).more hg.size, h'.l4, (rd_kept h'.r4 hg hr).more hg.size⟩ : NtRd Y Y.heap.size x.2.1 x.2.2)
theorem goodG_t {w0 : World} {Bl Bf : Nat} {v : LV} {su fr : Int} {X Y Z : World} (h : GoodG w0 Bl Bf v su fr X → GoodG w0 Bl Bf v su fr Y) (k : GoodG w0 Bl Bf v su fr Y → GoodG w0 Bl Bf v su fr Z) : GoodG w0 Bl Bf v su fr X → GoodG w0 Bl Bf v su fr Z := fun g => k (h g)
theorem GoodG.grown {w0 W V : World} {Bl Bf : Nat} {v : LV} {su fr : Int} {row : Option Nat} (h : GoodG w0 Bl Bf v su fr W) (hg : W.grownBy V row) (hr : ∀ r, row = some r → ∃ o : Obj, W.heap[r]? = some o ∧ o.isCells = false) : GoodG w0 Bl Bf v su fr V :=
  ⟨h.ol.grown hg hr, blkG_kept h.bl hg hr, blkG_kept h.bf hg hr, h.gl, h.gf⟩
theorem goodG_b {w0 : World} {Bl Bf : Nat} {v : LV} {su fr : Int} (W : World) (lp : Nat) (o o' : Obj) (h : W.heap[lp]? = some o) (ho : o.isCells = false) : GoodG w0 Bl Bf v su fr W → GoodG w0 Bl Bf v su fr (W.putObj lp o') := fun g =>
  g.grown (grownBy_putObj' W lp o') (fun r e => by cases e; exact ⟨o, h, ho⟩)
theorem results_two_cells {P : Program} {fn : Func} {p q : Tmp} {ty ty2 : TypeId} (h : fn.results = #[.cell p ty, .cell q ty2]) (tmps : Array Value) (w : World) (a b : Addr) (u v : Value) (hp : tmps.getD p undef = .pointer (some a)) (hq : tmps.getD q undef = .pointer (some b))
    (ha : (loadVar ty a).run P w = .ok u w) (hb : (loadVar ty2 b).run P w = .ok v w) : (results fn tmps).run P w = .ok (.tuple #[u, v]) w := by
  have hp' : tmps[p]?.getD undef = .pointer (some a) := by simpa using hp
  have hq' : tmps[q]?.getD undef = .pointer (some b) := by simpa using hq
  simp [results, h, hp', hq', asAddr, ha, hb]

set_option maxHeartbeats 16000000 in
theorem lgPlace_any (v : LV) (b : List Vc.St) (L : List (NV × Nt)) (su : Int) (E : Option Addr) (p f : Nat) (u : List Vc.St) (w : World) (hT : Tab w) (h : LgRd w v b L) (hsz : LgSz v L) (hl : u.length = p) (hR : Rd w w.heap.size 2 E p f (sv u)) :
    Calls Tryd.prog 27 #[.agg (v.val su), .slice E p f] w fun e w' => e = .returned (.tuple #[.int .i64 (lgP b L su u).1, .int .i64 (lgP b L su u).2]) ∧ Below w.heap.size w w' := by
  obtain ⟨A, n, c, D, m, d⟩ := v
  have hmax : m ≤ 1466015503659 := hsz.m1
  have hW00 : ∃ W0, W0 = (((w.alloc (.cells (LV.val ⟨A, n, c, D, m, d⟩ su) 47)).alloc (.cells #[.slice E p f] 22)).alloc (.cells #[.int .i64 0] 3)).alloc (.cells #[.int .i64 0] 33) := ⟨_, rfl⟩
  have b1 := (((Blk.new w 47 (LV.val ⟨A, n, c, D, m, d⟩ su)).alloc (.cells #[.slice E p f] 22)).alloc (.cells #[.int .i64 0] 3)).alloc (.cells #[.int .i64 0] 33)
  have b2 := ((Blk.new (w.alloc (.cells (LV.val ⟨A, n, c, D, m, d⟩ su) 47)) 22 #[.slice E p f]).alloc (.cells #[.int .i64 0] 3)).alloc (.cells #[.int .i64 0] 33)
  have b3 := (Blk.new ((w.alloc (.cells (LV.val ⟨A, n, c, D, m, d⟩ su) 47)).alloc (.cells #[.slice E p f] 22)) 3 #[.int .i64 0]).alloc (.cells #[.int .i64 0] 33)
  have b4 := Blk.new (((w.alloc (.cells (LV.val ⟨A, n, c, D, m, d⟩ su) 47)).alloc (.cells #[.slice E p f] 22)).alloc (.cells #[.int .i64 0] 3)) 33 #[.int .i64 0]
  rw [World.size_alloc] at b2
  rw [World.size_alloc, World.size_alloc] at b3
  rw [World.size_alloc, World.size_alloc, World.size_alloc] at b4
  have hb0 : Below w.heap.size w ((((w.alloc (.cells (LV.val ⟨A, n, c, D, m, d⟩ su) 47)).alloc (.cells #[.slice E p f] 22)).alloc (.cells #[.int .i64 0] 3)).alloc (.cells #[.int .i64 0] 33)) :=
    ((((Below.refl _ w).alloc (Nat.le_refl _) _).alloc (by simp) _).alloc (by simp; omega) _).alloc (by simp; omega) _
  obtain ⟨W0, hW0⟩ := hW00
  rw [← hW0] at b1 b2 b3 b4 hb0
  have hs0 : w.heap.size + 4 = W0.heap.size := by rw [hW0]; simp
  have G := lgFormed_any ⟨A, n, c, D, m, d⟩ b L su W0 (hT.below hb0) (h.go hb0)
  rw [lgF_R] at G
  have G2 := Lib.hid fun (V : World) (hv : Below W0.heap.size W0 V) => covers_any E A p f n c u b V ((hT.below hb0).below hv) hl ((h.go hb0).go hv).l1 ((hR.go hb0).go hv) ((h.go hb0).go hv).r1
  have HQ := Lib.hid fun V (hb : Below W0.heap.size W0 V) => (show (V.cell? ⟨w.heap.size, 0, none⟩ = some (.slice A n c) ∧ V.cell? ⟨w.heap.size, 1, none⟩ = some (.slice D m d) ∧ V.cell? ⟨w.heap.size, 2, none⟩ = some (.int .i64 su)) ∧ V.cell? ⟨w.heap.size + 1, 0, none⟩ = some (.slice E p f) ∧
      (V.cell? ⟨w.heap.size + 1 + 1, 0, none⟩ = some (.int .i64 0) ∧ V.frozen? ⟨w.heap.size + 1 + 1, 0, none⟩ = false) ∧ (V.cell? ⟨w.heap.size + 1 + 1 + 1, 0, none⟩ = some (.int .i64 0) ∧ V.frozen? ⟨w.heap.size + 1 + 1 + 1, 0, none⟩ = false) from
    ⟨⟨(b1.go hb).cell 0, (b1.go hb).cell 1, (b1.go hb).cell 2⟩, (b2.go hb).cell 0, ⟨(b3.go hb).cell 0, (b3.go hb).frozen 0⟩, ⟨(b4.go hb).cell 0, (b4.go hb).frozen 0⟩⟩)
  have HB3 := Lib.hid fun V (hb : Below W0.heap.size W0 V) => b3.go hb
  have HB4 := Lib.hid fun V (hb : Below W0.heap.size W0 V) => b4.go hb
  have HB0 := Lib.hid hb0
  have HW := Lib.hid hW0.symm
  have HS0 := Lib.hid hs0
  have HT := Lib.hid hT
  have HH := Lib.hid h
  have HL := Lib.hid hl
  have HR := Lib.hid hR
  have HF := Lib.hid (show lgP b L su u = if lgR b L su = true then (if covB (Vc.cnt u) (Vc.cnt b) = true then ((plW u (nts L) : Int), 0) else (0, 12)) else (0, 1) from rfl)
  -- two results stored
  have HST := Lib.hid fun V (hb : Below W0.heap.size W0 V) (x y : Int) => (show Below w.heap.size w ((V.setCell ⟨w.heap.size + 1 + 1, 0, none⟩ (.int .i64 x)).setCell ⟨w.heap.size + 1 + 1 + 1, 0, none⟩ (.int .i64 y)) ∧ Blk ((V.setCell ⟨w.heap.size + 1 + 1, 0, none⟩ (.int .i64 x)).setCell ⟨w.heap.size + 1 + 1 + 1, 0, none⟩ (.int .i64 y)) (w.heap.size + 1 + 1) 3 #[.int .i64 x] ∧
      Blk ((V.setCell ⟨w.heap.size + 1 + 1, 0, none⟩ (.int .i64 x)).setCell ⟨w.heap.size + 1 + 1 + 1, 0, none⟩ (.int .i64 y)) (w.heap.size + 1 + 1 + 1) 33 #[.int .i64 y] from
    ⟨((below_then HB0.out (Nat.le_refl _) hb).setCell (p := ⟨w.heap.size + 1 + 1, 0, none⟩) (by show _ ≤ w.heap.size + 1 + 1; omega) _).setCell (p := ⟨w.heap.size + 1 + 1 + 1, 0, none⟩) (by show _ ≤ w.heap.size + 1 + 1 + 1; omega) _,
      ((HB3.out V hb).set_ 0 (.int .i64 x)).far (p := ⟨w.heap.size + 1 + 1 + 1, 0, none⟩) (by show w.heap.size + 1 + 1 ≠ w.heap.size + 1 + 1 + 1; omega) _, (((HB4.out V hb).far (p := ⟨w.heap.size + 1 + 1, 0, none⟩) (by show w.heap.size + 1 + 1 + 1 ≠ w.heap.size + 1 + 1; omega) _).set_ 0 (.int .i64 y))⟩)
  have hLd := fun (V : World) (g : Nat) (x : Int) (hb : Blk V g 3 #[.int .i64 x]) => (show (loadVar 3 ⟨g, 0, none⟩).run Tryd.prog V = .ok (.int .i64 x) V from by
    have h := hb.cell 0
    simp [loadVar, isAgg, go_sem, h])
  have hLd2 := fun (V : World) (g : Nat) (x : Int) (hb : Blk V g 33 #[.int .i64 x]) => (show (loadVar 33 ⟨g, 0, none⟩).run Tryd.prog V = .ok (.int .i64 x) V from by
    have h := hb.cell 0
    simp [loadVar, isAgg, go_sem, h])
  have HLD := Lib.hid hLd
  have HLD2 := Lib.hid hLd2
  clear hT h hl hR hb0 hW0 b1 b2 b3 b4 hLd hLd2 hs0
  rcases hr : lgR b L su with _ | _
  · have HN := Lib.hid (show lgP b L su u = (0, 1) by rw [HF.out, hr]; rfl)
    rw [hr] at G
    have G1 := Lib.hid G
    obtain ⟨⟨q0, q1, q2⟩, q3, _⟩ := HQ.out _ (Below.refl _ _)
    clear G hr
    go_enter Tryd.func27, Tryd.ntmps27
    go_wp2_with fail
    rw [HW.out]
    refine G1.out.mono ?_
    rintro e w1 ⟨rfl, hb1⟩
    clear q0 q1 q2 q3
    obtain ⟨_, _, ⟨q4, f4⟩, ⟨q5, f5⟩⟩ := HQ.out _ hb1
    have HB1 := Lib.hid hb1
    clear hb1
    go_wp2
    obtain ⟨h1, h2, h3⟩ := HST.out _ HB1.out 0 1
    refine bodyPost_ret (results_two_cells rfl _ _ ⟨w.heap.size + 1 + 1, 0, none⟩ ⟨w.heap.size + 1 + 1 + 1, 0, none⟩ _ _ rfl rfl (HLD.out _ _ _ h2) (HLD2.out _ _ _ h3)) rfl ⟨by rw [HN.out], h1⟩
  · rcases hc : covB (Vc.cnt u) (Vc.cnt b) with _ | _
    · have HN := Lib.hid (show lgP b L su u = (0, 12) by rw [HF.out, hr, hc]; rfl)
      rw [hr] at G
      have G1 := Lib.hid G
      have G3 := Lib.hid fun (V : World) (hv : Below W0.heap.size W0 V) => (show Calls Tryd.prog 54 #[.slice E p f, .slice A n c] V fun e w' => e = .returned (.bool false) ∧ Below V.heap.size V w' from by have := G2.out V hv; rwa [hc] at this)
      obtain ⟨⟨q0, q1, q2⟩, q3, _⟩ := HQ.out _ (Below.refl _ _)
      clear G hr hc G2
      go_enter Tryd.func27, Tryd.ntmps27
      go_wp2_with fail
      rw [HW.out]
      refine G1.out.mono ?_
      rintro e w1 ⟨rfl, hb1⟩
      clear q0 q1 q2 q3
      obtain ⟨⟨q0, q1, q2⟩, q3, _⟩ := HQ.out _ hb1
      go_wp2_with fail
      refine (G3.out w1 hb1).mono ?_
      rintro e w2 ⟨rfl, hb2⟩
      have k := below_then hb1 (Nat.le_refl _) hb2
      clear q0 q1 q2 q3
      obtain ⟨_, _, ⟨q4, f4⟩, ⟨q5, f5⟩⟩ := HQ.out _ k
      have HB1 := Lib.hid k
      clear hb1 hb2 k
      go_wp2
      obtain ⟨h1, h2, h3⟩ := HST.out _ HB1.out 0 12
      refine bodyPost_ret (results_two_cells rfl _ _ ⟨w.heap.size + 1 + 1, 0, none⟩ ⟨w.heap.size + 1 + 1 + 1, 0, none⟩ _ _ rfl rfl (HLD.out _ _ _ h2) (HLD2.out _ _ _ h3)) rfl ⟨by rw [HN.out], h1⟩
    · have HN := Lib.hid (show lgP b L su u = ((plW u (nts L) : Int), 0) by rw [HF.out, hr, hc]; rfl)
      have HEV := Lib.hid (show evG b L su 0 = evD 0 (nts L) by unfold evG; rw [if_pos hr]; rfl)
      rw [hr] at G
      have G1 := Lib.hid G
      have G3 := Lib.hid fun (V : World) (hv : Below W0.heap.size W0 V) => (show Calls Tryd.prog 54 #[.slice E p f, .slice A n c] V fun e w' => e = .returned (.bool true) ∧ Below V.heap.size V w' from by have := G2.out V hv; rwa [hc] at this)
      obtain ⟨⟨q0, q1, q2⟩, q3, _⟩ := HQ.out _ (Below.refl _ _)
      clear G hr hc G2
      refine (callsIn_wide (n := 3)).1 ?_
      refine callsIn_of_wp_marks Tryd.func27 rfl trivial ?_ rfl
      simp only [Tryd.ntmps27, List.size_toArray, List.length_cons, List.length_nil, Nat.reduceAdd, Nat.reduceSub, Array.replicate_succ, Array.replicate_zero, List.push_toArray, List.append_toArray, List.nil_append, List.cons_append]
      gi_wp2_with fail
      rw [HW.out]
      refine ⟨trivial, ?_⟩
      refine (callsIn_wide.2 G1.out).mono ?_
      rintro e w1 ⟨rfl, hb1⟩
      clear q0 q1 q2 q3
      obtain ⟨⟨q0, q1, q2⟩, q3, _⟩ := HQ.out _ hb1
      gi_wp2_with fail
      refine ⟨trivial, ?_⟩
      refine (callsIn_wide.2 (G3.out w1 hb1)).mono ?_
      rintro e w2 ⟨rfl, hb2⟩
      have k := below_then hb1 (Nat.le_refl _) hb2
      clear q0 q1 q2 q3
      obtain ⟨⟨q0, q1, q2⟩, q3, _⟩ := HQ.out _ k
      clear hb1 hb2
      gi_wp2_with fail
      refine ⟨trivial, ?_⟩
      refine (callsIn_wide.2 (lgAll_any ⟨A, n, c, D, m, d⟩ su 0 w2)).mono ?_
      rintro e w3 ⟨rfl, rfl⟩
      have hkA : Below w2.heap.size w2 ((w2.alloc (.cells (LV.val ⟨A, n, c, D, m, d⟩ su) 47)).alloc (.cells #[.int .i64 0] 3)) := ((Below.refl _ w2).alloc (Nat.le_refl _) _).alloc (by simp) _
      have c1 := (Blk.new w2 47 (LV.val ⟨A, n, c, D, m, d⟩ su)).alloc (.cells #[.int .i64 0] 3)
      have c2 := Blk.new (w2.alloc (.cells (LV.val ⟨A, n, c, D, m, d⟩ su) 47)) 3 #[.int .i64 0]
      rw [World.size_alloc] at c2
      obtain ⟨W5, hW5⟩ : ∃ W5, W5 = (w2.alloc (.cells (LV.val ⟨A, n, c, D, m, d⟩ su) 47)).alloc (.cells #[.int .i64 0] 3) := ⟨_, rfl⟩
      rw [← hW5] at hkA c1 c2 ⊢
      have k5 := below_then k (Nat.le_refl _) hkA
      have hbw5 := below_then HB0.out (Nat.le_refl _) k5
      have hsz2 : w.heap.size + 4 ≤ w2.heap.size := by have := k.size; have := HS0.out; omega
      have hs5 : w2.heap.size + 2 = W5.heap.size := by rw [hW5]; simp
      have hGood : GoodG w w2.heap.size (w2.heap.size + 1) ⟨A, n, c, D, m, d⟩ su 0 W5 := ⟨Olds.of_below hbw5, c1, c2, by omega, by omega⟩
      have HTold := Lib.hid (lgAll_told (3 - 1) (by omega) w2.heap.size (w2.heap.size + 1) ⟨A, n, c, D, m, d⟩ b L su 0 w HT.out HH.out hsz W5 hGood)
      have HK5 := Lib.hid k5
      have HBW5 := Lib.hid hbw5
      clear hW5 hkA c1 c2 k q0 q1 q2 q3 hGood k5 hbw5
      gi_wp2
      refine wpIn_rangeFunc_told rfl (by omega) (gf := 67) (lb := #[.pointer (some ⟨w2.heap.size, 0, none⟩), .pointer (some ⟨w2.heap.size + 1, 0, none⟩)]) rfl trivial (enters_of Tryd.func67 (by kernel_rfl) rfl)
        HTold.out goodG_t (fun W lp o o' _ h ho _ => goodG_b W lp o o' h ho) (Below.refl _ _) (fun _ => rfl)
        (fun pre W => noNews u pre ∧ Below W5.heap.size W5 W)
        (fun cc pre W => (cc = .ret ∧ ∃ pre0 x, pre = pre0 ++ [x] ∧ noNews u pre0 ∧ ntNews x.2.2 u = true ∧ Blk W (w.heap.size + 1 + 1) 3 #[.int .i64 (x.1 : Int)] ∧ Blk W (w.heap.size + 1 + 1 + 1) 33 #[.int .i64 0]) ∧ Below w.heap.size w W)
        (OwnFrom.and (Own.from (fun s X Y row hs hg hr => hs) _) (ownFrom_below (Nat.le_refl _) (Nat.le_refl _)))
        (fun cc => OwnFrom.and (Own.from (fun s X Y row hs hg hr => by
          obtain ⟨h1, pre0, x, h2, h3, h4, h5, h6⟩ := hs
          exact ⟨h1, pre0, x, h2, h3, h4, blkG_kept h5 hg hr, blkG_kept h6 hg hr⟩) _) (ownFrom_below (Nat.le_refl _) (by omega)))
        ⟨fun x hx => (by cases hx), Below.refl _ _⟩
        (fun x a₁ V => ∃ Bs, Blk V Bs 32 x.2.1.val ∧ egT x V ∧ a₁ = { tmps := #[.agg (LV.val ⟨A, n, c, D, m, d⟩ su), .slice E p f, .pointer (some ⟨w.heap.size, 0, none⟩), .pointer (some ⟨w.heap.size + 1, 0, none⟩), .pointer (some ⟨w.heap.size + 1 + 1, 0, none⟩), .pointer (some ⟨w.heap.size + 1 + 1 + 1, 0, none⟩), .int .i64 (x.1 : Int), .pointer (some ⟨Bs, 0, none⟩), .agg #[.slice A n c, .slice D m d, .int .i64 su], .bool true, .bool false, .slice E p f, .pointer (some ⟨w.heap.size, 0, none⟩), .slice A n c, .bool true, .bool false, .agg #[.slice A n c, .slice D m d, .int .i64 su], .func (.func 67) #[] #[.pointer (some ⟨w2.heap.size, 0, none⟩), .pointer (some ⟨w2.heap.size + 1, 0, none⟩)], .int .i64 (x.1 : Int), .agg x.2.1.val, undef, undef, undef, undef, undef, undef, undef], defers := [] }) (fun a₁ x X Y row hs hg hr => by
          obtain ⟨Bs, h1, h2, h3⟩ := hs
          exact ⟨Bs, blkG_kept h1 hg (fun r e => (hr r e).2), egT_kept h2 hg (fun r e => (hr r e).2), h3⟩) ?assign ?body ?done ?stop
      case assign =>
        rintro lp pre x W K ⟨hI, hB⟩ hT hK
        obtain ⟨i, ⟨P1, p1, q1, P2, p2, q2, P3, p3, q3, P4, p4, q4⟩, y⟩ := x
        dsimp only [evsG]
        gi_wp2
        have hbA : Below W.heap.size W (W.alloc (.cells (NV.val ⟨P1, p1, q1, P2, p2, q2, P3, p3, q3, P4, p4, q4⟩) 32)) := (Below.refl _ _).alloc (Nat.le_refl _) _
        exact hK _ _ ((KeepsOthers.alloc _ _).from _) (fun g => g.go hbA) ⟨hI, below_then hB (Nat.le_refl _) hbA⟩ ⟨W.heap.size, Blk.new W _ _, NtRd.go hT hbA, rfl⟩
      case body =>
        rintro lp pre x a₁ W hlp ⟨hI, hB⟩ ⟨Bs, hX, hT, rfl⟩ hlt
        have k := below_then HK5.out (Nat.le_refl _) hB
        have kw := below_then HBW5.out (Nat.le_refl _) hB
        have hT' : NtRd W W.heap.size x.2.1 x.2.2 := hT
        have HX := Lib.hid (fun (h : ntNews x.2.2 u = false) => (show noNews u (pre ++ [x]) from fun z hz => by
          rcases List.mem_append.1 hz with hz | hz
          · exact hI z hz
          · rw [List.mem_singleton] at hz; rw [hz]; exact h))
        obtain ⟨y, hy⟩ : ∃ y, y = x := ⟨_, rfl⟩
        have HY := Lib.hid hy
        clear hy
        obtain ⟨i, ⟨P1, p1, q1, P2, p2, q2, P3, p3, q3, P4, p4, q4⟩, z⟩ := x
        have G4 := Lib.hid (news_any ⟨P1, p1, q1, P2, p2, q2, P3, p3, q3, P4, p4, q4⟩ z E p f u W (HT.out.below kw) hT' HL.out (HR.out.go kw))
        have x0 := hX.cell 0
        have x1 := hX.cell 1
        have x2 := hX.cell 2
        have x3 := hX.cell 3
        obtain ⟨_, y3, ⟨y4, f4⟩, ⟨y5, f5⟩⟩ := HQ.out _ k
        have HBB := Lib.hid hB
        have HK := Lib.hid k
        have HKW := Lib.hid kw
        have HI := Lib.hid hI
        clear hT hT' hX k kw hB hI y4 f4 y5 f5
        gi_wp2_with fail
        refine ⟨trivial, ?_⟩
        refine (callsIn_wide.2 G4.out).mono ?_
        rintro e V ⟨rfl, hb'⟩
        have k := below_then HK.out (Nat.le_refl _) hb'
        obtain ⟨_, _, ⟨y4, f4⟩, ⟨y5, f5⟩⟩ := HQ.out _ k
        have HB' := Lib.hid hb'
        have HK' := Lib.hid k
        clear hb' k x0 x1 x2 x3 y3
        rcases hz : ntNews z u with _ | _
        · have HNO := Lib.hid (HX.out hz)
          clear hz
          gi_wp2
          exact ⟨(keeps_belowG HB'.out).from _, fun g => g.go HB'.out, HNO.out, below_then HBB.out (Nat.le_refl _) HB'.out⟩
        · have HYE := Lib.hid hz
          clear hz
          gi_wp2
          obtain ⟨h1, h2, h3⟩ := HST.out _ HK'.out i 0
          exact ⟨(((keeps_belowG HB'.out).trans (KeepsOthers.setCell _ _ _)).trans (KeepsOthers.setCell _ _ _)).from _, ⟨rfl, pre, _, rfl, HI.out, HYE.out, h2, h3⟩, h1⟩
      case done =>
        rintro E' ys W hD hys ⟨hI, hB⟩ hK
        have hys' : saidG ys = evD 0 (nts L) := by rw [← HEV.out]; exact hys
        have HP := Lib.hid (show plW u (nts L) = m from by
          obtain ⟨h1, h2⟩ := said_no (by rw [hys']; exact List.prefix_refl _) hI
          have h3 : ys.length = (nts L).length := by rw [← saidG_len, hys', evD_len]
          have h4 := plW_pre ys.length (nts L) h2 h1
          have h5 : L.length = m := HH.out.ns.len
          rw [h4, plW_end (by omega), h3, nts_len]; omega)
        have k := below_then HK5.out (Nat.le_refl _) hB
        obtain ⟨⟨y0, y1, y2⟩, y3, ⟨y4, f4⟩, ⟨y5, f5⟩⟩ := HQ.out _ k
        have HK := Lib.hid k
        clear hys hys' hI hB k
        gi_wp2
        obtain ⟨h1, h2, h3⟩ := HST.out _ HK.out m 0
        have hK' := ((KeepsOthers.setCell W ⟨w.heap.size + 1 + 1, 0, none⟩ (.int .i64 (m : Int))).trans (KeepsOthers.setCell _ ⟨w.heap.size + 1 + 1 + 1, 0, none⟩ (.int .i64 0))).same E' _ hK rfl
        refine ⟨by simp, .inl ⟨_, _, rfl, run_takeDeferred hK', ?_⟩⟩
        have h2' := blkG_kept h2 (grownBy_putObj' _ E' (.deferred none)) (fun r e => by cases e; exact ⟨_, hK', rfl⟩)
        have h3' := blkG_kept h3 (grownBy_putObj' _ E' (.deferred none)) (fun r e => by cases e; exact ⟨_, hK', rfl⟩)
        exact ⟨_, results_two_cells rfl _ _ ⟨w.heap.size + 1 + 1, 0, none⟩ ⟨w.heap.size + 1 + 1 + 1, 0, none⟩ _ _ rfl rfl (HLD.out _ _ _ h2') (HLD2.out _ _ _ h3'), by rw [HN.out, HP.out], h1.trans (belowK_b (w := w) (Nat.le_refl _) _ E' _ _ (by omega) hK' rfl rfl)⟩
      case stop =>
        rintro E' c' pre W hD hpre ⟨⟨rfl, pre0, x, rfl, hno, hx, h2, h3⟩, hB⟩ hK
        rw [HEV.out] at hpre
        have HP := Lib.hid (show plW u (nts L) = x.1 from by
          have h4 : saidG pre0 <+: evD 0 (nts L) := by
            rw [saidG_snoc] at hpre
            exact (List.prefix_append _ _).trans hpre
          obtain ⟨h5, h6⟩ := said_no h4 hno
          obtain ⟨h7, h8⟩ := said_at hpre
          have h9 : pre0.length < (nts L).length := by
            rcases Nat.lt_or_ge pre0.length (nts L).length with h | h
            · exact h
            · rw [List.getElem?_eq_none h] at h7; cases h7
          rw [List.getElem?_eq_getElem h9, Option.some.injEq] at h7
          rw [plW_pre pre0.length (nts L) h6 h5, plW_hit h9 (by rw [h7]; exact hx)]; omega)
        have H2 := Lib.hid h2
        have H3 := Lib.hid h3
        have HB := Lib.hid hB
        clear hno hx hpre h2 h3 hB
        gi_wp2
        refine ⟨by simp, .inl ⟨_, _, rfl, run_takeDeferred hK, ?_⟩⟩
        have h2' := blkG_kept H2.out (grownBy_putObj' _ E' (.deferred none)) (fun r e => by cases e; exact ⟨_, hK, rfl⟩)
        have h3' := blkG_kept H3.out (grownBy_putObj' _ E' (.deferred none)) (fun r e => by cases e; exact ⟨_, hK, rfl⟩)
        exact ⟨_, results_two_cells rfl _ _ ⟨w.heap.size + 1 + 1, 0, none⟩ ⟨w.heap.size + 1 + 1 + 1, 0, none⟩ _ _ rfl rfl (HLD.out _ _ _ h2') (HLD2.out _ _ _ h3'), by rw [HN.out, HP.out], HB.out.trans (belowK_b (w := w) (Nat.le_refl _) _ E' _ _ (by omega) hK rfl rfl)⟩
end Go.Proofs.YtldcgmnfohhjbaaDoor
