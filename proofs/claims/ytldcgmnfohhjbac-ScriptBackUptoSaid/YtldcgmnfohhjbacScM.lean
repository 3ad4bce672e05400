/- Walk over the law ScriptSteps (printed by wip/tools/genScM.py). -/
import Derived.Test.YtldcgmnfohhjbacScL
import Derived.Test.YtldcgmnfohhjbacMid
import Derived.Test.YtldcgmnfohhjbacRnd
namespace Go.Proofs.Ytldcgmnfohhjbac
open Go.RowKit Go.Shelf
set_option maxRecDepth 100000
attribute [local go_sem] Oper.semAt_some

theorem GoodS.grown {Bx B0 : Nat} {A : Option Addr} {n c : Nat} {l : List UInt8} {W W' : World} {row : Option Nat} (h : GoodS Bx B0 A n c l W) (hg : W.grownBy W' row) (hr : ∀ r, row = some r → ∃ o : Obj, W.heap[r]? = some o ∧ o.isCells = false) : GoodS Bx B0 A n c l W' :=
  ⟨h.box.grown hg (fun e => by obtain ⟨o, ho, hc⟩ := hr _ e.symm; rw [h.box] at ho; injection ho with ho; rw [← ho] at hc; cases hc), rd_kept h.rd hg hr, h.le⟩
theorem goodS_t {Bx B0 : Nat} {A : Option Addr} {n c : Nat} {l : List UInt8} {X Y Z : World} (h : GoodS Bx B0 A n c l X → GoodS Bx B0 A n c l Y) (k : GoodS Bx B0 A n c l Y → GoodS Bx B0 A n c l Z) : GoodS Bx B0 A n c l X → GoodS Bx B0 A n c l Z := fun g => k (h g)
theorem goodS_b {Bx B0 : Nat} {A : Option Addr} {n c : Nat} {l : List UInt8} (W : World) (lp : Nat) (o o' : Obj) (h : W.heap[lp]? = some o) (ho : o.isCells = false) : GoodS Bx B0 A n c l W → GoodS Bx B0 A n c l (W.putObj lp o') := fun g =>
  g.grown (grownBy_putObj' W lp o') (fun r e => by cases e; exact ⟨o, h, ho⟩)
theorem GoodS.setCell {Bx B0 : Nat} {A : Option Addr} {n c : Nat} {l : List UInt8} {W : World} (h : GoodS Bx B0 A n c l W) {p : Addr} (h1 : p.block ≠ Bx) (h2 : B0 ≤ p.block) (u : Value) : GoodS Bx B0 A n c l (W.setCell p u) :=
  ⟨h.box.far (fun e => h1 e.symm) u, h.rd.setCell h2 u, h.le⟩
theorem GoodS.alloc {Bx B0 : Nat} {A : Option Addr} {n c : Nat} {l : List UInt8} {W : World} (h : GoodS Bx B0 A n c l W) (o : Obj) : GoodS Bx B0 A n c l (W.alloc o) := h.below ((Below.refl _ W).alloc (Nat.le_refl _) o) h.box.lt

/-- script.All: the function value. -/
theorem scAll_any (A : Option Addr) (n c : Nat) (w : World) : Calls Try.prog 21 #[.slice A n c] w fun e w' =>
    e = .returned (.func (.func 38) #[] #[.pointer (some ⟨w.heap.size, 0, none⟩)]) ∧ w' = w.alloc (.cells #[.slice A n c] 23) := by
  go_enter Try.func21, Try.ntmps21
  go_wp2
  go_ret
  exact ⟨rfl, rfl⟩
theorem scAll_told (m : Nat) (hm : 1 ≤ m) (Bx B0 : Nat) (A : Option Addr) (n c : Nat) (l : List UInt8) (w : World) (hg : GoodS Bx B0 A n c l w) (hl : l.length = n) (hn : n ≤ 4294967296) :
    SeqTold Fence.wide m Try.prog 38 #[.pointer (some ⟨Bx, 0, none⟩)] evsS evT (fun W W' => GoodS Bx B0 A n c l W → GoodS Bx B0 A n c l W') (fun ys => said ys = evS l) (fun pre => said pre <+: evS l) n w := by
  intro lp J Jx W hW hJ hJx hY h0
  exact scAll1_in m hm lp Bx B0 A n c l J Jx W.heap.size hJ hl hn hY W (hg.below hW hg.box.lt) h0

/-- What the loop keeps. -/
structure SkInv (w W0 : World) (lo hi : Nat) (most : Int) (r : Bool) (k : Nat) (W : World) : Prop where
  mo : Boxed W w.heap.size 5 (.int .u8 most)
  re : Boxed W (w.heap.size + 1) 4 (.bool r)
  kk : Boxed W hi 3 (.int .i64 k)
  md : Mid lo hi W0 W
theorem SkInv.kept {w W0 : World} {lo hi : Nat} {most : Int} {r : Bool} {k : Nat} {X Y : World} {row : Option Nat} (h : SkInv w W0 lo hi most r k X) (hg : X.grownBy Y row) (hr : ∀ r, row = some r → ∃ o : Obj, X.heap[r]? = some o ∧ o.isCells = false) : SkInv w W0 lo hi most r k Y :=
  ⟨boxed_own _ _ (fun _ : Unit => _) () X Y row h.mo hg hr, boxed_own _ _ (fun _ : Unit => _) () X Y row h.re hg hr, boxed_own _ _ (fun _ : Unit => _) () X Y row h.kk hg hr, Mid.own lo hi 0 W0 () X Y row h.md hg (fun r e => ⟨Nat.zero_le _, hr r e⟩)⟩
theorem SkInv.setR {w W0 : World} {lo hi : Nat} {most : Int} {r : Bool} {k : Nat} {W : World} (h : SkInv w W0 lo hi most r k W) (q : Bool) (h1 : w.heap.size + 1 < lo) (h2 : w.heap.size + 1 < hi) : SkInv w W0 lo hi most q k (W.setCell ⟨w.heap.size + 1, 0, none⟩ (.bool q)) :=
  ⟨h.mo.other (by omega) _, h.re.set _, h.kk.other (by omega) _, h.md.setCell (p := ⟨w.heap.size + 1, 0, none⟩) (.inl h1) _⟩
theorem SkInv.setK {w W0 : World} {lo hi : Nat} {most : Int} {r : Bool} {k : Nat} {W : World} (h : SkInv w W0 lo hi most r k W) (q : Nat) (h1 : w.heap.size + 1 < hi) : SkInv w W0 lo hi most r q (W.setCell ⟨hi, 0, none⟩ (.int .i64 q)) :=
  ⟨h.mo.other (by omega) _, h.re.other (by omega) _, h.kk.set _, h.md.setCell (p := ⟨hi, 0, none⟩) (.inr (Nat.le_refl _)) _⟩
theorem SkInv.below {w W0 : World} {lo hi : Nat} {most : Int} {r : Bool} {k : Nat} {W V : World} (h : SkInv w W0 lo hi most r k W) (hb : Below W.heap.size W V) : SkInv w W0 lo hi most r k V :=
  ⟨(hb.block _ h.mo.lt).trans h.mo, (hb.block _ h.re.lt).trans h.re, (hb.block _ h.kk.lt).trans h.kk, h.md.below hb (Nat.le_of_lt h.kk.lt)⟩
def SkStop (w W0 : World) (lo hi : Nat) (most : Int) (p : Prop) (W : World) : Prop := ∃ r k, SkInv w W0 lo hi most r k W ∧ (p → r = true)
/-- What the round holds: the handed step in a cell of its own. -/
def EvIn (hi : Nat) (x : EvS) (V : World) (a₁ : Act) (f : Nat → Act) : Prop := ∃ Bs, hi < Bs ∧ Blk V Bs 25 (x.1.val x.2.1) ∧ evT x V ∧ a₁ = f Bs
theorem evT_kept {x : EvS} {X Y : World} {row : Option Nat} (h : evT x X) (hg : X.grownBy Y row) (hr : ∀ r, row = some r → ∃ o : Obj, X.heap[r]? = some o ∧ o.isCells = false) : evT x Y := by
  have h' : StpRd X X.heap.size x.1 x.2.1 := h
  exact (⟨h'.l1, (rd_kept h'.r1 hg hr).more hg.size, h'.l2, (rd_kept h'.r2 hg hr).more hg.size⟩ : StpRd Y Y.heap.size x.1 x.2.1)
theorem EvIn.own (hi B : Nat) (a₁ : Act) (f : EvS → Nat → Act) : OwnFrom B (fun x V => EvIn hi x V a₁ (f x)) := fun x X Y row hs hg hr => by
  obtain ⟨Bs, h1, h2, h3, h4⟩ := hs
  exact ⟨Bs, h1, h2.grown hg (fun e => by obtain ⟨_, _, ho, hc⟩ := hr _ e.symm; rw [h2] at ho; injection ho with ho; rw [← ho] at hc; cases hc), evT_kept h3 hg (fun r e => (hr r e).2), h4⟩
theorem keeps_below {W V : World} (hb : Below W.heap.size W V) : KeepsOthers W V := ⟨hb.size, fun k _ hk _ => (hb.block k (Array.getElem?_eq_some_iff.1 hk).1).trans hk⟩
theorem prefix_snoc2 {α : Type} {u v : List α} (h : u <+: v) (x : α) (hk : u.length < v.length) (hx : v[u.length] = x) : (u ++ [x]) <+: v := by
  obtain ⟨r, rfl⟩ := h
  rcases r with _ | ⟨y, r⟩
  · simp at hk
  · obtain rfl : y = x := by simpa using hx
    exact ⟨r, by simp⟩
theorem prefix_at2 {α : Type} {u v : List α} {x : α} (h : (u ++ [x]) <+: v) : ∃ hk : u.length < v.length, v[u.length] = x := by
  obtain ⟨r, rfl⟩ := h
  exact ⟨by simp, by simp⟩

set_option maxHeartbeats 16000000 in
theorem scriptSteps_walk (A : Option Addr) (n c : Nat) (l : List UInt8) (most : Int) (w : World) (hl : l.length = n) (hR : Rd w w.heap.size 1 A n c (bv l)) (hn : n ≤ 4294967296) (hm0 : 0 ≤ most) (hm1 : most < 256) :
    Calls Try.prog 6 #[.slice A n c, .int .u8 most] w (TrueP w) := by
  have HR := Lib.hid hR
  have HLL := Lib.hid hl
  have H1 := Lib.hid fun (W : World) hR => refScAll_any A n c l W hl hR hn
  clear hR hl
  refine (callsIn_wide (n := 3)).1 ?_
  refine callsIn_of_wp_marks Try.func6 rfl trivial ?_ rfl
  simp only [Try.ntmps6, List.size_toArray, List.length_cons, List.length_nil, Nat.reduceAdd, Nat.reduceSub, Array.replicate_succ, Array.replicate_zero, List.push_toArray, List.append_toArray, List.nil_append, List.cons_append]
  gi_wp2_with fail
  have hbA : Below w.heap.size w ((w.alloc (.cells #[.int .u8 most] 5)).alloc (.cells #[.bool false] 4)) := ((Below.refl _ w).alloc (Nat.le_refl _) _).alloc (by simp) _
  have bM := (Boxed.new w 5 (.int .u8 most)).alloc (.cells #[.bool false] 4)
  have bR := Boxed.new (w.alloc (.cells #[.int .u8 most] 5)) 4 (.bool false)
  rw [World.size_alloc] at bR
  obtain ⟨W0, hW0⟩ : ∃ W0, W0 = (w.alloc (.cells #[.int .u8 most] 5)).alloc (.cells #[.bool false] 4) := ⟨_, rfl⟩
  have hs0 : W0.heap.size = w.heap.size + 1 + 1 := by rw [hW0]; simp
  rw [← hW0] at bM bR hbA ⊢
  clear hW0
  refine ⟨trivial, ?_⟩
  refine (callsIn_wide.2 (alive_any W0)).mono ?_
  rintro e w1 ⟨rfl, hb1⟩
  have hbw1 : Below w.heap.size w w1 := below_then hbA (Nat.le_refl _) hb1
  have bM1 : Boxed w1 w.heap.size 5 (.int .u8 most) := (hb1.block _ (by omega)).trans bM
  have bR1 : Boxed w1 (w.heap.size + 1) 4 (.bool false) := (hb1.block _ (by omega)).trans bR
  have hs1 := hb1.size
  clear bM bR hbA hb1
  gi_wp2_with fail
  refine ⟨trivial, ?_⟩
  refine (callsIn_wide.2 (H1.out w1 (HR.out.go hbw1))).mono ?_
  rintro e w2 ⟨PRE, D1, D2, m, d1, d2, rfl, hsaid, hlen, ho1, ho2, hoa, hb2⟩
  have hbw2 : Below w.heap.size w w2 := below_then hbw1 (Nat.le_refl _) hb2
  have bM2 : Boxed w2 w.heap.size 5 (.int .u8 most) := (hb2.block _ (by omega)).trans bM1
  have bR2 : Boxed w2 (w.heap.size + 1) 4 (.bool false) := (hb2.block _ (by omega)).trans bR1
  have hs2 := hb2.size
  have HSAID := Lib.hid hsaid
  have HLEN := Lib.hid hlen
  have hmn : m ≤ n := by
    have h1 := evS_len l
    rw [← hsaid, HLL.out] at h1
    have h2 : (said PRE).length = PRE.length := by simp [said]
    omega
  clear H1 bM1 bR1 hb2 hsaid hlen
  gi_wp2_with fail
  have bL := (Boxed.new w2 37 (.slice D1 m d1)).alloc (.cells #[.slice D2 m d2] 41)
  have bE := Boxed.new (w2.alloc (.cells #[.slice D1 m d1] 37)) 41 (.slice D2 m d2)
  rw [World.size_alloc] at bE
  have hbA : Below w2.heap.size w2 ((w2.alloc (.cells #[.slice D1 m d1] 37)).alloc (.cells #[.slice D2 m d2] 41)) := ((Below.refl _ w2).alloc (Nat.le_refl _) _).alloc (by simp) _
  obtain ⟨W3, hW3⟩ : ∃ W3, W3 = (w2.alloc (.cells #[.slice D1 m d1] 37)).alloc (.cells #[.slice D2 m d2] 41) := ⟨_, rfl⟩
  have hs3 : W3.heap.size = w2.heap.size + 1 + 1 := by rw [hW3]; simp
  rw [← hW3] at bL bE hbA ⊢
  clear hW3
  have hbw3 := below_then hbw2 (Nat.le_refl _) hbA
  have bM3 : Boxed W3 w.heap.size 5 (.int .u8 most) := (hbA.block _ (by omega)).trans bM2
  have bR3 : Boxed W3 (w.heap.size + 1) 4 (.bool false) := (hbA.block _ (by omega)).trans bR2
  have O1 := Lib.hid (own_below ho1 hbA (Nat.le_refl _))
  have O2 := Lib.hid (own_below ho2 hbA (Nat.le_refl _))
  have O3 := Lib.hid (hoa.below hbA)
  have BL := Lib.hid bL
  have BE := Lib.hid bE
  clear bM2 bR2 hbw2 hbA ho1 ho2 hoa bL bE
  refine ⟨trivial, ?_⟩
  refine (callsIn_wide.2 (scAll_any A n c _)).mono ?_
  rintro e w4 ⟨rfl, rfl⟩
  have bK := Boxed.new W3 3 (.int .i64 0)
  rw [hs3] at bK
  have hbK : Below W3.heap.size W3 (W3.alloc (.cells #[.int .i64 0] 3)) := (Below.refl _ _).alloc (Nat.le_refl _) _
  obtain ⟨W4, hW4⟩ : ∃ W4, W4 = W3.alloc (.cells #[.int .i64 0] 3) := ⟨_, rfl⟩
  have hs4 : W4.heap.size = W3.heap.size + 1 := by rw [hW4]; simp
  rw [← hW4] at bK hbK ⊢
  clear hW4
  have hInv4 : SkInv w W3 w1.heap.size (w2.heap.size + 1 + 1) most false 0 W4 := ⟨(hbK.block _ (by omega)).trans bM3, (hbK.block _ (by omega)).trans bR3, bK, (Mid.refl _ _ W3).below hbK (by omega)⟩
  have hbw4 := below_then hbw3 (Nat.le_refl _) hbK
  have hbX : Below W4.heap.size W4 (W4.alloc (.cells #[.slice A n c] 23)) := (Below.refl _ _).alloc (Nat.le_refl _) _
  have hbw5 := below_then hbw4 (Nat.le_refl _) hbX
  have hBx := Blk.new W4 23 #[.slice A n c]
  rw [hs4, hs3] at hBx
  have hGood : GoodS (w2.heap.size + 1 + 1 + 1) w.heap.size A n c l (W4.alloc (.cells #[.slice A n c] 23)) := ⟨hBx, HR.out.below hbw5, by omega⟩
  have hInv : SkInv w W3 w1.heap.size (w2.heap.size + 1 + 1) most false 0 (W4.alloc (.cells #[.slice A n c] 23)) := hInv4.below hbX
  have hTold := scAll_told (3 - 1) (by omega) (w2.heap.size + 1 + 1 + 1) w.heap.size A n c l _ hGood HLL.out hn
  obtain ⟨W5, hW5⟩ : ∃ W5, W5 = W4.alloc (.cells #[.slice A n c] 23) := ⟨_, rfl⟩
  have hs5 : W5.heap.size = W4.heap.size + 1 := by rw [hW5]; simp
  rw [← hW5] at hGood hInv hTold hbw5 ⊢
  clear hW5 hbX hbK bK hInv4 hbw4 hbw3 bM3 bR3 hbw1
  have HTold := Lib.hid hTold
  clear hTold
  gi_wp2
  refine wpIn_rangeFunc_told rfl (by omega) (gf := 38) (lb := #[.pointer (some ⟨w2.heap.size + 1 + 1 + 1, 0, none⟩)]) rfl trivial (enters_of Try.func38 (by kernel_rfl) rfl)
    HTold.out goodS_t (fun W lp o o' _ h ho _ => goodS_b W lp o o' h ho) (Below.refl _ _) (fun _ => rfl)
    (fun pre W => (SkInv w W3 w1.heap.size (w2.heap.size + 1 + 1) most false pre.length W ∧ (said pre <+: evS l)) ∧ Below w.heap.size w W)
    (fun c pre W => (c = .ret ∧ SkStop w W3 w1.heap.size (w2.heap.size + 1 + 1) most (said pre <+: evS l) W) ∧ Below w.heap.size w W)
    (OwnFrom.and (Own.from (fun s X Y row hs hg hr => ⟨hs.1.kept hg hr, hs.2⟩) _) (ownFrom_below (Nat.le_refl _) (by omega)))
    (fun c => OwnFrom.and (Own.from (fun s X Y row hs hg hr => ⟨hs.1, hs.2.choose, hs.2.choose_spec.choose, hs.2.choose_spec.choose_spec.1.kept hg hr, hs.2.choose_spec.choose_spec.2⟩) _) (ownFrom_below (Nat.le_refl _) (by omega)))
    ⟨⟨hInv, List.nil_prefix⟩, hbw5⟩
    (fun x a₁ V => EvIn (w2.heap.size + 1 + 1) x V a₁ (fun Bs => { tmps := #[.slice A n c, .int .u8 most, undef, .pointer (some ⟨w.heap.size, 0, none⟩), .pointer (some ⟨w.heap.size + 1, 0, none⟩), .pointer (some ⟨w2.heap.size, 0, none⟩), .pointer (some ⟨w2.heap.size + 1, 0, none⟩), .pointer (some ⟨w2.heap.size + 1 + 1, 0, none⟩), .pointer (some ⟨Bs, 0, none⟩), .int .i64 (x.2.2 : Int), .bool true, .bool false, .tuple #[.slice D1 m d1, .slice D2 m d2], .slice A n c, .tuple #[.slice D1 m d1, .slice D2 m d2], .slice D1 m d1, .slice D2 m d2, .slice A n c, .func (.func 38) #[] #[.pointer (some ⟨w2.heap.size + 1 + 1 + 1, 0, none⟩)], .agg (x.1.val x.2.1), .int .i64 (x.2.2 : Int), undef, undef, undef, undef, undef, undef, undef, undef, undef, undef, undef, undef, undef, undef, undef, undef, undef, undef, undef, undef, undef, undef, undef, undef, undef, undef, undef, undef, undef, undef, undef], defers := [] })) (fun a₁ => EvIn.own _ _ _ _) ?assign ?body ?done ?stop
  case assign =>
    rintro lp pre x W K ⟨⟨hI, hpre⟩, hB⟩ hT hK
    obtain ⟨⟨P1, p1, q1, P2, p2, q2⟩, ⟨xk, xa, xb, xo, xn, xs, xv⟩, er⟩ := x
    dsimp only [evsS]
    gi_wp2
    have hbA : Below W.heap.size W (W.alloc (.cells (SV.val ⟨P1, p1, q1, P2, p2, q2⟩ ⟨xk, xa, xb, xo, xn, xs, xv⟩) 25)) := (Below.refl _ _).alloc (Nat.le_refl _) _
    exact hK _ _ ((KeepsOthers.alloc _ _).from _) (fun g => g.alloc _) ⟨⟨hI.below hbA, hpre⟩, hB.alloc hB.size _⟩ ⟨W.heap.size, hI.kk.lt, Blk.new W _ _, StpRd.go hT hbA, rfl⟩
  case body =>
    rintro lp pre x a₁ W hlp ⟨⟨hI, hpre⟩, hB⟩ ⟨Bs, hBs, hX, hT, rfl⟩ hlt
    obtain ⟨⟨P1, p1, q1, P2, p2, q2⟩, ⟨xk, xa, xb, xo, xn, xs, xv⟩, er⟩ := x
    have hT' : StpRd W W.heap.size ⟨P1, p1, q1, P2, p2, q2⟩ ⟨xk, xa, xb, xo, xn, xs, xv⟩ := hT
    have hlo1 : w.heap.size + 1 < w1.heap.size := by omega
    have hlo2 : w.heap.size + 1 < w2.heap.size + 1 + 1 := by omega
    have bLW : Blk W w2.heap.size 37 #[.slice D1 m d1] := hI.md _ _ (by omega) (by omega) BL.out rfl
    have bEW : Blk W (w2.heap.size + 1) 41 #[.slice D2 m d2] := hI.md _ _ (by omega) (by omega) BE.out rfl
    have o1 := own_mid O1.out hI.md (Nat.le_refl _) (by omega)
    have o2 := own_mid O2.out hI.md (Nat.le_refl _) (by omega)
    have o3 : OwnAll W w1.heap.size PRE := fun p hp => ⟨(O3.out p hp).l1, own_mid (O3.out p hp).o1 hI.md (Nat.le_refl _) (by omega), (O3.out p hp).l2, own_mid (O3.out p hp).o2 hI.md (Nat.le_refl _) (by omega)⟩
    obtain ⟨k, hk0⟩ : ∃ k, k = pre.length := ⟨_, rfl⟩
    rw [← hk0] at hI hlt
    have HK0 := Lib.hid hk0
    have hspl : (said pre).length = k := by rw [hk0]; simp [said]
    have HSPL := Lib.hid hspl
    clear hk0 hspl
    have HPRE := Lib.hid hpre
    have HI := Lib.hid hI
    have f3 := hI.kk.frozen
    have f4 := hI.re.frozen
    have q4 := hI.re.cell
    have kw : Below W.heap.size W W.drew := (Below.refl _ W).drew
    have hWs : w2.heap.size + 1 + 1 < W.heap.size := hI.kk.lt
    have HGo := Lib.hid fun (V : World) (hb : Below W.heap.size W V) => (show GoodS (w2.heap.size + 1 + 1 + 1) w.heap.size A n c l W → GoodS (w2.heap.size + 1 + 1 + 1) w.heap.size A n c l V from fun g => g.below hb g.box.lt)
    have HSN := Lib.hid (show said (pre ++ [(⟨P1, p1, q1, P2, p2, q2⟩, ⟨xk, xa, xb, xo, xn, xs, xv⟩, er)]) = said pre ++ [(⟨xk, xa, xb, xo, xn, xs, xv⟩, er)] from said_snoc _ _)
    have hk64 : k < 9223372036854775807 := by omega
    by_cases hk : k < m
    · have hkL : k < (evL PRE).length := by simp only [evL, List.length_map]; rw [HLEN.out]; exact hk
      have hRS : RdSt W W.heap.size D1 m d1 (evL PRE) := ⟨by simp only [evL, List.length_map]; rw [HLEN.out], Rd.of_own o1, fun p hp => by
        simp only [evL, List.mem_map] at hp
        obtain ⟨q, hq, rfl⟩ := hp
        exact (o3 q hq).rd⟩
      have hkP : k < PRE.length := by rw [HLEN.out]; exact hk
      obtain ⟨b, o, rfl, hab, g0, g1, g2, g3, g4, g5, g6⟩ := hRS.step hkL
      have hel : (evL PRE)[k] = (PRE[k].1, PRE[k].2.1) := by simp [evL]
      have hrd := hRS.each _ (List.getElem_mem hkL)
      rw [hel] at g0 g1 g2 g3 g4 g5 g6 hrd
      obtain ⟨ad, u, rfl, hab2, hu1, hc1⟩ := (Rd.of_own o2).at_ hk
      have hue : (evE PRE)[k]? = some (.int .i64 (PRE[k].2.2 : Int)) := by simp [evE, List.getElem?_eq_getElem hkP]
      rw [hue] at hu1
      simp only [Option.some.injEq] at hu1
      subst hu1
      have hsk : (evS l)[k]? = some PRE[k].2 := by rw [← HSAID.out]; simp [said, List.getElem?_eq_getElem hkP]
      obtain ⟨g', cap', hv', hg1', hg2'⟩ := o2.form (by omega)
      obtain ⟨b2, o2', hb2o⟩ : ∃ b2 o2', ad = ⟨b2, o2', none⟩ := by injection hv' with a1 _ _; injection a1 with a1; exact ⟨g', 0, a1⟩
      subst hb2o
      rw [show (⟨b2, o2', none⟩ : Addr).add k = ⟨b2, o2' + k, none⟩ from by unfold Addr.add; split <;> simp_all] at hc1
      generalize hPk : PRE[k] = pk at g0 g1 g2 g3 g4 g5 g6 hrd hc1 hsk
      obtain ⟨⟨R1, r1, s1, R2, r2, s2⟩, ⟨yk, ya, yb, yo, yn, ys, yv⟩, der⟩ := pk
      have HQ := Lib.hid fun W' (hb : Below W.heap.size W W') => (show (W'.cell? ⟨w2.heap.size + 1 + 1, 0, none⟩ = some (.int .i64 (k : Int)) ∧ W'.cell? ⟨w2.heap.size, 0, none⟩ = some (.slice (some ⟨b, o, none⟩) m d1) ∧ W'.cell? ⟨w2.heap.size + 1, 0, none⟩ = some (.slice (some ⟨b2, o2', none⟩) m d2) ∧ W'.cell? ⟨Bs, 0, none⟩ = some (.int .i64 xk) ∧ W'.cell? ⟨Bs, 1, none⟩ = some (.int .i64 xa) ∧ W'.cell? ⟨Bs, 2, none⟩ = some (.int .i64 xb) ∧ W'.cell? ⟨Bs, 3, none⟩ = some (.int .i64 xo) ∧ W'.cell? ⟨Bs, 4, none⟩ = some (.int .i64 xn) ∧ W'.cell? ⟨Bs, 5, none⟩ = some (.slice P1 p1 q1) ∧ W'.cell? ⟨Bs, 6, none⟩ = some (.slice P2 p2 q2) ∧ W'.cell? ⟨b, o + k * 7, none⟩ = some (.int .i64 yk) ∧ W'.cell? ⟨b, o + k * 7 + 1, none⟩ = some (.int .i64 ya) ∧ W'.cell? ⟨b, o + k * 7 + 2, none⟩ = some (.int .i64 yb) ∧ W'.cell? ⟨b, o + k * 7 + 3, none⟩ = some (.int .i64 yo) ∧ W'.cell? ⟨b, o + k * 7 + 4, none⟩ = some (.int .i64 yn) ∧ W'.cell? ⟨b, o + k * 7 + 5, none⟩ = some (.slice R1 r1 s1) ∧ W'.cell? ⟨b, o + k * 7 + 6, none⟩ = some (.slice R2 r2 s2) ∧ W'.cell? ⟨b2, o2' + k, none⟩ = some (.int .i64 (der : Int))) from ⟨(hb.cell (p := ⟨w2.heap.size + 1 + 1, 0, none⟩) hI.kk.lt).trans hI.kk.cell, (hb.cell (p := ⟨w2.heap.size, 0, none⟩) bLW.lt).trans (bLW.cell 0), (hb.cell (p := ⟨w2.heap.size + 1, 0, none⟩) bEW.lt).trans (bEW.cell 0), (hb.cell (p := ⟨Bs, 0, none⟩) hX.lt).trans (hX.cell 0), (hb.cell (p := ⟨Bs, 1, none⟩) hX.lt).trans (hX.cell 1), (hb.cell (p := ⟨Bs, 2, none⟩) hX.lt).trans (hX.cell 2), (hb.cell (p := ⟨Bs, 3, none⟩) hX.lt).trans (hX.cell 3), (hb.cell (p := ⟨Bs, 4, none⟩) hX.lt).trans (hX.cell 4), (hb.cell (p := ⟨Bs, 5, none⟩) hX.lt).trans (hX.cell 5), (hb.cell (p := ⟨Bs, 6, none⟩) hX.lt).trans (hX.cell 6), (hb.cell (p := ⟨b, o + k * 7, none⟩) hab).trans g0, (hb.cell (p := ⟨b, o + k * 7 + 1, none⟩) hab).trans g1, (hb.cell (p := ⟨b, o + k * 7 + 2, none⟩) hab).trans g2, (hb.cell (p := ⟨b, o + k * 7 + 3, none⟩) hab).trans g3, (hb.cell (p := ⟨b, o + k * 7 + 4, none⟩) hab).trans g4, (hb.cell (p := ⟨b, o + k * 7 + 5, none⟩) hab).trans g5, (hb.cell (p := ⟨b, o + k * 7 + 6, none⟩) hab).trans g6, (hb.cell (p := ⟨b2, o2' + k, none⟩) hab2).trans hc1⟩)
      have hkm : ¬ m ≤ k := by omega
      have hkk : decide (m ≤ k) = false := decide_eq_false hkm
      have hSame := fun (V : World) (hb : Below W.heap.size W V) => refScSame_any ⟨P1, p1, q1, P2, p2, q2⟩ ⟨R1, r1, s1, R2, r2, s2⟩ ⟨xk, xa, xb, xo, xn, xs, xv⟩ ⟨yk, ya, yb, yo, yn, ys, yv⟩ V (hT'.go hb) (hrd.go hb)
      have hpn : (said pre ++ [(⟨xk, xa, xb, xo, xn, xs, xv⟩, er)]) <+: evS l ↔ ((⟨xk, xa, xb, xo, xn, xs, xv⟩ : Sc.Stp) = ⟨yk, ya, yb, yo, yn, ys, yv⟩ ∧ er = der) := by
        constructor
        · intro h
          obtain ⟨h2, h3⟩ := prefix_at2 h
          have h4 : (evS l)[k]? = some (⟨xk, xa, xb, xo, xn, xs, xv⟩, er) := by rw [← HSPL.out, List.getElem?_eq_getElem h2, h3]
          rw [hsk] at h4
          simp only [Option.some.injEq, Prod.mk.injEq] at h4
          exact ⟨h4.1.symm, h4.2.symm⟩
        · rintro ⟨h1, h2⟩
          have hlt2 : (said pre).length < (evS l).length := by
            rw [HSPL.out]
            rcases Nat.lt_or_ge k (evS l).length with h | h
            · exact h
            · rw [List.getElem?_eq_none h] at hsk; cases hsk
          refine prefix_snoc2 HPRE.out _ hlt2 ?_
          have h4 : (evS l)[(said pre).length]? = some (⟨yk, ya, yb, yo, yn, ys, yv⟩, der) := by rw [HSPL.out]; exact hsk
          rw [List.getElem?_eq_getElem hlt2] at h4
          rw [Option.some.inj h4, h1, h2]
      rw [← HSN.out] at hpn
      clear g0 g1 g2 g3 g4 g5 g6 hc1 hsk hrd hT' bLW bEW o1 o2 o3 hRS hkL hel hue hPk hX hT hv'
      by_cases es : (⟨xk, xa, xb, xo, xn, xs, xv⟩ : Sc.Stp) = ⟨yk, ya, yb, yo, yn, ys, yv⟩
      · have G := Lib.hid fun (V : World) (hb : Below W.heap.size W V) => (show Calls Try.prog 17 #[.agg #[.int .i64 xk, .int .i64 xa, .int .i64 xb, .int .i64 xo, .int .i64 xn, .slice P1 p1 q1, .slice P2 p2 q2], .agg #[.int .i64 yk, .int .i64 ya, .int .i64 yb, .int .i64 yo, .int .i64 yn, .slice R1 r1 s1, .slice R2 r2 s2]] V fun e w' => e = .returned (.bool true) ∧ Below V.heap.size V w' from by have := hSame V hb; rwa [decide_eq_true es] at this)
        by_cases ee : er = der
        · have HYES := Lib.hid (hpn.2 ⟨es, ee⟩)
          have he : ((er : Int) != (der : Int)) = false := by rw [ee]; simp
          clear hpn hSame es ee
          by_cases e3 : ((k : Int) + 1 == most) = true
          · gi_wp2
            refine region_round (S := (fun W' => W'.cell? ⟨w2.heap.size + 1 + 1, 0, none⟩ = some (.int .i64 (k : Int)) ∧ W'.cell? ⟨w2.heap.size, 0, none⟩ = some (.slice (some ⟨b, o, none⟩) m d1) ∧ W'.cell? ⟨w2.heap.size + 1, 0, none⟩ = some (.slice (some ⟨b2, o2', none⟩) m d2) ∧ W'.cell? ⟨Bs, 0, none⟩ = some (.int .i64 xk) ∧ W'.cell? ⟨Bs, 1, none⟩ = some (.int .i64 xa) ∧ W'.cell? ⟨Bs, 2, none⟩ = some (.int .i64 xb) ∧ W'.cell? ⟨Bs, 3, none⟩ = some (.int .i64 xo) ∧ W'.cell? ⟨Bs, 4, none⟩ = some (.int .i64 xn) ∧ W'.cell? ⟨Bs, 5, none⟩ = some (.slice P1 p1 q1) ∧ W'.cell? ⟨Bs, 6, none⟩ = some (.slice P2 p2 q2) ∧ W'.cell? ⟨b, o + k * 7, none⟩ = some (.int .i64 yk) ∧ W'.cell? ⟨b, o + k * 7 + 1, none⟩ = some (.int .i64 ya) ∧ W'.cell? ⟨b, o + k * 7 + 2, none⟩ = some (.int .i64 yb) ∧ W'.cell? ⟨b, o + k * 7 + 3, none⟩ = some (.int .i64 yo) ∧ W'.cell? ⟨b, o + k * 7 + 4, none⟩ = some (.int .i64 yn) ∧ W'.cell? ⟨b, o + k * 7 + 5, none⟩ = some (.slice R1 r1 s1) ∧ W'.cell? ⟨b, o + k * 7 + 6, none⟩ = some (.slice R2 r2 s2) ∧ W'.cell? ⟨b2, o2' + k, none⟩ = some (.int .i64 (der : Int)))) (by kernel_rfl) (by kernel_rfl) (by first | exact HQ.out _ kw) (fun KK hKK hHeld => ?_)
            refine wpAnyH_putD (i := 0) (d := 21) (v := ?_) rfl rfl (by kernel_rfl) (by kernel_rfl) (by kernel_rfl) (fun _ _ _ h => h) (Or.inl ⟨by kernel_rfl, ?_⟩) (by first | exact HQ.out _ kw) ?_
            rotate_left
            · (intro w hS; (try dsimp only at hS); go_simp <;> with_reducible rfl)
            try simp only [List.setIfInBounds_toArray, List.set_cons_zero, List.set_cons_succ]
            refine wpAnyH_putD (i := 1) (d := 22) (v := ?_) rfl rfl (by kernel_rfl) (by kernel_rfl) (by kernel_rfl) (fun _ _ _ h => h) (Or.inl ⟨by kernel_rfl, ?_⟩) (by first | exact HQ.out _ kw) ?_
            rotate_left
            · (intro w hS; (try dsimp only at hS); go_simp <;> with_reducible rfl)
            try simp only [List.setIfInBounds_toArray, List.set_cons_zero, List.set_cons_succ]
            refine wpAnyH_putD (i := 2) (d := 23) (v := ?_) rfl rfl (by kernel_rfl) (by kernel_rfl) (by kernel_rfl) (fun _ _ _ h => h) (Or.inl ⟨by kernel_rfl, ?_⟩) (by first | exact HQ.out _ kw) ?_
            rotate_left
            · (intro w hS; (try dsimp only at hS); go_simp <;> with_reducible rfl)
            try simp only [List.setIfInBounds_toArray, List.set_cons_zero, List.set_cons_succ]
            refine wpAnyH_putD (i := 3) (d := 24) (v := (.bool false)) rfl rfl (by kernel_rfl) (by kernel_rfl) (by kernel_rfl) (fun _ _ _ h => h) (Or.inl ⟨by kernel_rfl, ?_⟩) (by first | exact HQ.out _ kw) ?_
            · (intro w hS; (try dsimp only at hS); go_simp <;> with_reducible rfl)
            try simp only [List.setIfInBounds_toArray, List.set_cons_zero, List.set_cons_succ]
            refine wpAnyH_putD (i := 4) (d := 25) (v := ?_) rfl rfl (by kernel_rfl) (by kernel_rfl) (by kernel_rfl) (fun _ _ _ h => h) (Or.inl ⟨by kernel_rfl, ?_⟩) (by first | exact HQ.out _ kw) ?_
            rotate_left
            · (intro w hS; (try dsimp only at hS); go_simp <;> with_reducible rfl)
            try simp only [List.setIfInBounds_toArray, List.set_cons_zero, List.set_cons_succ]
            refine wpAnyH_putD (i := 5) (d := 26) (v := ?_) rfl rfl (by kernel_rfl) (by kernel_rfl) (by kernel_rfl) (fun _ _ _ h => h) (Or.inl ⟨by kernel_rfl, ?_⟩) (by first | exact HQ.out _ kw) ?_
            rotate_left
            · (intro w hS; (try dsimp only at hS); go_simp <;> with_reducible rfl)
            try simp only [List.setIfInBounds_toArray, List.set_cons_zero, List.set_cons_succ]
            refine wpAnyH_putD (i := 6) (d := 27) (v := ?_) rfl rfl (by kernel_rfl) (by kernel_rfl) (by kernel_rfl) (fun _ _ _ h => h) (Or.inl ⟨by kernel_rfl, ?_⟩) (by first | exact HQ.out _ kw) ?_
            rotate_left
            · (intro w hS; (try dsimp only at hS); go_simp <;> with_reducible rfl)
            try simp only [List.setIfInBounds_toArray, List.set_cons_zero, List.set_cons_succ]
            refine wpAnyH_putD (i := 7) (d := 28) (v := ?_) rfl rfl (by kernel_rfl) (by kernel_rfl) (by kernel_rfl) (fun _ _ _ h => h) (Or.inl ⟨by kernel_rfl, ?_⟩) (by first | exact HQ.out _ kw) ?_
            rotate_left
            · (intro w hS; (try dsimp only at hS); go_simp <;> with_reducible rfl)
            try simp only [List.setIfInBounds_toArray, List.set_cons_zero, List.set_cons_succ]
            refine wpAnyH_putD (i := 8) (d := 29) (v := ?_) rfl rfl (by kernel_rfl) (by kernel_rfl) (by kernel_rfl) (fun _ _ _ h => h) (Or.inl ⟨by kernel_rfl, ?_⟩) (by first | exact HQ.out _ kw) ?_
            rotate_left
            · (intro w hS; (try dsimp only at hS); go_simp <;> with_reducible rfl)
            try simp only [List.setIfInBounds_toArray, List.set_cons_zero, List.set_cons_succ]
            refine wpAnyH_putD (i := 9) (d := 30) (v := ?_) rfl rfl (by kernel_rfl) (by kernel_rfl) (by kernel_rfl) (fun _ _ _ h => h) (Or.inl ⟨by kernel_rfl, ?_⟩) (by first | exact HQ.out _ kw) ?_
            rotate_left
            · (intro w hS; (try dsimp only at hS); go_simp <;> with_reducible rfl)
            try simp only [List.setIfInBounds_toArray, List.set_cons_zero, List.set_cons_succ]
            refine wpAnyH_ready (rs := [10]) (by kernel_rfl) (by simp) ?_
            refine AllReadyH.cons rfl (fun K hK => ?_) AllReadyH.nil
            go_simp
            refine (G.out _ kw).mono ?_
            rintro e V ⟨rfl, hb'⟩
            have kw := below_then kw (Nat.le_refl _) hb'
            clear hb'
            refine hK.out _ _ (by first | exact HQ.out _ kw) (fun hHeld => ?_)
            clear hK K
            refine wpAnyH_putD (i := 11) (d := 32) (v := ?_) rfl rfl (by kernel_rfl) (by kernel_rfl) (by kernel_rfl) (fun _ _ _ h => h) (Or.inl ⟨by kernel_rfl, ?_⟩) (by first | exact HQ.out _ kw) ?_
            rotate_left
            · (intro w hS; (try dsimp only at hS); go_simp <;> with_reducible rfl)
            try simp only [List.setIfInBounds_toArray, List.set_cons_zero, List.set_cons_succ]
            refine wpAnyH_putD (i := 12) (d := 33) (v := ?_) rfl rfl (by kernel_rfl) (by kernel_rfl) (by kernel_rfl) (fun _ _ _ h => h) (Or.inl ⟨by kernel_rfl, ?_⟩) (by first | exact HQ.out _ kw) ?_
            rotate_left
            · (intro w hS; (try dsimp only at hS); go_simp <;> with_reducible rfl)
            try simp only [List.setIfInBounds_toArray, List.set_cons_zero, List.set_cons_succ]
            refine wpAnyH_putD (i := 13) (d := 34) (v := ?_) rfl rfl (by kernel_rfl) (by kernel_rfl) (by kernel_rfl) (fun _ _ _ h => h) (Or.inl ⟨by kernel_rfl, ?_⟩) (by first | exact HQ.out _ kw) ?_
            rotate_left
            · (intro w hS; (try dsimp only at hS); go_simp <;> with_reducible rfl)
            try simp only [List.setIfInBounds_toArray, List.set_cons_zero, List.set_cons_succ]
            refine wpAnyH_putD (i := 14) (d := 35) (v := ?_) rfl rfl (by kernel_rfl) (by kernel_rfl) (by kernel_rfl) (fun _ _ _ h => h) (Or.inl ⟨by kernel_rfl, ?_⟩) (by first | exact HQ.out _ kw) ?_
            rotate_left
            · (intro w hS; (try dsimp only at hS); go_simp <;> with_reducible rfl)
            try simp only [List.setIfInBounds_toArray, List.set_cons_zero, List.set_cons_succ]
            refine wpAnyH_putD (i := 15) (d := 36) (v := ?_) rfl rfl (by kernel_rfl) (by kernel_rfl) (by kernel_rfl) (fun _ _ _ h => h) (Or.inl ⟨by kernel_rfl, ?_⟩) (by first | exact HQ.out _ kw) ?_
            rotate_left
            · (intro w hS; (try dsimp only at hS); go_simp <;> with_reducible rfl)
            try simp only [List.setIfInBounds_toArray, List.set_cons_zero, List.set_cons_succ]
            refine wpAnyH_putD (i := 16) (d := 37) (v := ?_) rfl rfl (by kernel_rfl) (by kernel_rfl) (by kernel_rfl) (fun _ _ _ h => h) (Or.inl ⟨by kernel_rfl, ?_⟩) (by first | exact HQ.out _ kw) ?_
            rotate_left
            · (intro w hS; (try dsimp only at hS); go_simp <;> with_reducible rfl)
            try simp only [List.setIfInBounds_toArray, List.set_cons_zero, List.set_cons_succ]
            refine wpAnyH_putD (i := 17) (d := 38) (v := ?_) rfl rfl (by kernel_rfl) (by kernel_rfl) (by kernel_rfl) (fun _ _ _ h => h) (Or.inl ⟨by kernel_rfl, ?_⟩) (by first | exact HQ.out _ kw) ?_
            rotate_left
            · (intro w hS; (try dsimp only at hS); go_simp <;> with_reducible rfl)
            try simp only [List.setIfInBounds_toArray, List.set_cons_zero, List.set_cons_succ]
            refine wpAnyH_putD (i := 18) (d := 39) (v := ?_) rfl rfl (by kernel_rfl) (by kernel_rfl) (by kernel_rfl) (fun _ _ _ h => h) (Or.inl ⟨by kernel_rfl, ?_⟩) (by first | exact HQ.out _ kw) ?_
            rotate_left
            · (intro w hS; (try dsimp only at hS); go_simp <;> with_reducible rfl)
            try simp only [List.setIfInBounds_toArray, List.set_cons_zero, List.set_cons_succ]
            refine wpAnyH_putD (i := 19) (d := 40) (v := (.bool false)) rfl rfl (by kernel_rfl) (by kernel_rfl) (by kernel_rfl) (fun _ _ _ h => h) (Or.inl ⟨by kernel_rfl, ?_⟩) (by first | exact HQ.out _ kw) ?_
            · (intro w hS; (try dsimp only at hS); go_simp <;> with_reducible rfl)
            try simp only [List.setIfInBounds_toArray, List.set_cons_zero, List.set_cons_succ]
            refine wpAnyH_putD (i := 20) (d := 41) (v := ?_) rfl rfl (by kernel_rfl) (by kernel_rfl) (by kernel_rfl) (fun _ _ _ h => h) (Or.inl ⟨by kernel_rfl, ?_⟩) (by first | exact HQ.out _ kw) ?_
            rotate_left
            · (intro w hS; (try dsimp only at hS); go_simp <;> with_reducible rfl)
            try simp only [List.setIfInBounds_toArray, List.set_cons_zero, List.set_cons_succ]
            refine wpAnyH_done (by kernel_rfl) ?_ _
            refine Nrm.out (hKK _ _ ?_)
            have hIV := HI.out.below kw
            have f4 := hIV.re.frozen
            have q4 := hIV.re.cell
            have f3 := hIV.kk.frozen
            have q3 := hIV.kk.cell
            have qm := hIV.mo.cell
            gi_wp2
            refine ⟨(((keeps_below kw).trans (KeepsOthers.setCell _ _ _)).trans (KeepsOthers.setCell _ _ _)).from _, ⟨rfl, true, k + 1, (hIV.setK (k + 1) hlo2).setR true hlo1 hlo2, fun _ => rfl⟩, ((hB.trans (kw.mono hB.size)).setCell (p := ⟨w2.heap.size + 1 + 1, 0, none⟩) (by show _ ≤ w2.heap.size + 1 + 1; omega) _).setCell (p := ⟨w.heap.size + 1, 0, none⟩) (by show _ ≤ w.heap.size + 1; omega) _⟩
          · have e3' : ((k : Int) + 1 == most) = false := by simpa using e3
            clear e3
            gi_wp2
            refine region_round (S := (fun W' => W'.cell? ⟨w2.heap.size + 1 + 1, 0, none⟩ = some (.int .i64 (k : Int)) ∧ W'.cell? ⟨w2.heap.size, 0, none⟩ = some (.slice (some ⟨b, o, none⟩) m d1) ∧ W'.cell? ⟨w2.heap.size + 1, 0, none⟩ = some (.slice (some ⟨b2, o2', none⟩) m d2) ∧ W'.cell? ⟨Bs, 0, none⟩ = some (.int .i64 xk) ∧ W'.cell? ⟨Bs, 1, none⟩ = some (.int .i64 xa) ∧ W'.cell? ⟨Bs, 2, none⟩ = some (.int .i64 xb) ∧ W'.cell? ⟨Bs, 3, none⟩ = some (.int .i64 xo) ∧ W'.cell? ⟨Bs, 4, none⟩ = some (.int .i64 xn) ∧ W'.cell? ⟨Bs, 5, none⟩ = some (.slice P1 p1 q1) ∧ W'.cell? ⟨Bs, 6, none⟩ = some (.slice P2 p2 q2) ∧ W'.cell? ⟨b, o + k * 7, none⟩ = some (.int .i64 yk) ∧ W'.cell? ⟨b, o + k * 7 + 1, none⟩ = some (.int .i64 ya) ∧ W'.cell? ⟨b, o + k * 7 + 2, none⟩ = some (.int .i64 yb) ∧ W'.cell? ⟨b, o + k * 7 + 3, none⟩ = some (.int .i64 yo) ∧ W'.cell? ⟨b, o + k * 7 + 4, none⟩ = some (.int .i64 yn) ∧ W'.cell? ⟨b, o + k * 7 + 5, none⟩ = some (.slice R1 r1 s1) ∧ W'.cell? ⟨b, o + k * 7 + 6, none⟩ = some (.slice R2 r2 s2) ∧ W'.cell? ⟨b2, o2' + k, none⟩ = some (.int .i64 (der : Int)))) (by kernel_rfl) (by kernel_rfl) (by first | exact HQ.out _ kw) (fun KK hKK hHeld => ?_)
            refine wpAnyH_putD (i := 0) (d := 21) (v := ?_) rfl rfl (by kernel_rfl) (by kernel_rfl) (by kernel_rfl) (fun _ _ _ h => h) (Or.inl ⟨by kernel_rfl, ?_⟩) (by first | exact HQ.out _ kw) ?_
            rotate_left
            · (intro w hS; (try dsimp only at hS); go_simp <;> with_reducible rfl)
            try simp only [List.setIfInBounds_toArray, List.set_cons_zero, List.set_cons_succ]
            refine wpAnyH_putD (i := 1) (d := 22) (v := ?_) rfl rfl (by kernel_rfl) (by kernel_rfl) (by kernel_rfl) (fun _ _ _ h => h) (Or.inl ⟨by kernel_rfl, ?_⟩) (by first | exact HQ.out _ kw) ?_
            rotate_left
            · (intro w hS; (try dsimp only at hS); go_simp <;> with_reducible rfl)
            try simp only [List.setIfInBounds_toArray, List.set_cons_zero, List.set_cons_succ]
            refine wpAnyH_putD (i := 2) (d := 23) (v := ?_) rfl rfl (by kernel_rfl) (by kernel_rfl) (by kernel_rfl) (fun _ _ _ h => h) (Or.inl ⟨by kernel_rfl, ?_⟩) (by first | exact HQ.out _ kw) ?_
            rotate_left
            · (intro w hS; (try dsimp only at hS); go_simp <;> with_reducible rfl)
            try simp only [List.setIfInBounds_toArray, List.set_cons_zero, List.set_cons_succ]
            refine wpAnyH_putD (i := 3) (d := 24) (v := (.bool false)) rfl rfl (by kernel_rfl) (by kernel_rfl) (by kernel_rfl) (fun _ _ _ h => h) (Or.inl ⟨by kernel_rfl, ?_⟩) (by first | exact HQ.out _ kw) ?_
            · (intro w hS; (try dsimp only at hS); go_simp <;> with_reducible rfl)
            try simp only [List.setIfInBounds_toArray, List.set_cons_zero, List.set_cons_succ]
            refine wpAnyH_putD (i := 4) (d := 25) (v := ?_) rfl rfl (by kernel_rfl) (by kernel_rfl) (by kernel_rfl) (fun _ _ _ h => h) (Or.inl ⟨by kernel_rfl, ?_⟩) (by first | exact HQ.out _ kw) ?_
            rotate_left
            · (intro w hS; (try dsimp only at hS); go_simp <;> with_reducible rfl)
            try simp only [List.setIfInBounds_toArray, List.set_cons_zero, List.set_cons_succ]
            refine wpAnyH_putD (i := 5) (d := 26) (v := ?_) rfl rfl (by kernel_rfl) (by kernel_rfl) (by kernel_rfl) (fun _ _ _ h => h) (Or.inl ⟨by kernel_rfl, ?_⟩) (by first | exact HQ.out _ kw) ?_
            rotate_left
            · (intro w hS; (try dsimp only at hS); go_simp <;> with_reducible rfl)
            try simp only [List.setIfInBounds_toArray, List.set_cons_zero, List.set_cons_succ]
            refine wpAnyH_putD (i := 6) (d := 27) (v := ?_) rfl rfl (by kernel_rfl) (by kernel_rfl) (by kernel_rfl) (fun _ _ _ h => h) (Or.inl ⟨by kernel_rfl, ?_⟩) (by first | exact HQ.out _ kw) ?_
            rotate_left
            · (intro w hS; (try dsimp only at hS); go_simp <;> with_reducible rfl)
            try simp only [List.setIfInBounds_toArray, List.set_cons_zero, List.set_cons_succ]
            refine wpAnyH_putD (i := 7) (d := 28) (v := ?_) rfl rfl (by kernel_rfl) (by kernel_rfl) (by kernel_rfl) (fun _ _ _ h => h) (Or.inl ⟨by kernel_rfl, ?_⟩) (by first | exact HQ.out _ kw) ?_
            rotate_left
            · (intro w hS; (try dsimp only at hS); go_simp <;> with_reducible rfl)
            try simp only [List.setIfInBounds_toArray, List.set_cons_zero, List.set_cons_succ]
            refine wpAnyH_putD (i := 8) (d := 29) (v := ?_) rfl rfl (by kernel_rfl) (by kernel_rfl) (by kernel_rfl) (fun _ _ _ h => h) (Or.inl ⟨by kernel_rfl, ?_⟩) (by first | exact HQ.out _ kw) ?_
            rotate_left
            · (intro w hS; (try dsimp only at hS); go_simp <;> with_reducible rfl)
            try simp only [List.setIfInBounds_toArray, List.set_cons_zero, List.set_cons_succ]
            refine wpAnyH_putD (i := 9) (d := 30) (v := ?_) rfl rfl (by kernel_rfl) (by kernel_rfl) (by kernel_rfl) (fun _ _ _ h => h) (Or.inl ⟨by kernel_rfl, ?_⟩) (by first | exact HQ.out _ kw) ?_
            rotate_left
            · (intro w hS; (try dsimp only at hS); go_simp <;> with_reducible rfl)
            try simp only [List.setIfInBounds_toArray, List.set_cons_zero, List.set_cons_succ]
            refine wpAnyH_ready (rs := [10]) (by kernel_rfl) (by simp) ?_
            refine AllReadyH.cons rfl (fun K hK => ?_) AllReadyH.nil
            go_simp
            refine (G.out _ kw).mono ?_
            rintro e V ⟨rfl, hb'⟩
            have kw := below_then kw (Nat.le_refl _) hb'
            clear hb'
            refine hK.out _ _ (by first | exact HQ.out _ kw) (fun hHeld => ?_)
            clear hK K
            refine wpAnyH_putD (i := 11) (d := 32) (v := ?_) rfl rfl (by kernel_rfl) (by kernel_rfl) (by kernel_rfl) (fun _ _ _ h => h) (Or.inl ⟨by kernel_rfl, ?_⟩) (by first | exact HQ.out _ kw) ?_
            rotate_left
            · (intro w hS; (try dsimp only at hS); go_simp <;> with_reducible rfl)
            try simp only [List.setIfInBounds_toArray, List.set_cons_zero, List.set_cons_succ]
            refine wpAnyH_putD (i := 12) (d := 33) (v := ?_) rfl rfl (by kernel_rfl) (by kernel_rfl) (by kernel_rfl) (fun _ _ _ h => h) (Or.inl ⟨by kernel_rfl, ?_⟩) (by first | exact HQ.out _ kw) ?_
            rotate_left
            · (intro w hS; (try dsimp only at hS); go_simp <;> with_reducible rfl)
            try simp only [List.setIfInBounds_toArray, List.set_cons_zero, List.set_cons_succ]
            refine wpAnyH_putD (i := 13) (d := 34) (v := ?_) rfl rfl (by kernel_rfl) (by kernel_rfl) (by kernel_rfl) (fun _ _ _ h => h) (Or.inl ⟨by kernel_rfl, ?_⟩) (by first | exact HQ.out _ kw) ?_
            rotate_left
            · (intro w hS; (try dsimp only at hS); go_simp <;> with_reducible rfl)
            try simp only [List.setIfInBounds_toArray, List.set_cons_zero, List.set_cons_succ]
            refine wpAnyH_putD (i := 14) (d := 35) (v := ?_) rfl rfl (by kernel_rfl) (by kernel_rfl) (by kernel_rfl) (fun _ _ _ h => h) (Or.inl ⟨by kernel_rfl, ?_⟩) (by first | exact HQ.out _ kw) ?_
            rotate_left
            · (intro w hS; (try dsimp only at hS); go_simp <;> with_reducible rfl)
            try simp only [List.setIfInBounds_toArray, List.set_cons_zero, List.set_cons_succ]
            refine wpAnyH_putD (i := 15) (d := 36) (v := ?_) rfl rfl (by kernel_rfl) (by kernel_rfl) (by kernel_rfl) (fun _ _ _ h => h) (Or.inl ⟨by kernel_rfl, ?_⟩) (by first | exact HQ.out _ kw) ?_
            rotate_left
            · (intro w hS; (try dsimp only at hS); go_simp <;> with_reducible rfl)
            try simp only [List.setIfInBounds_toArray, List.set_cons_zero, List.set_cons_succ]
            refine wpAnyH_putD (i := 16) (d := 37) (v := ?_) rfl rfl (by kernel_rfl) (by kernel_rfl) (by kernel_rfl) (fun _ _ _ h => h) (Or.inl ⟨by kernel_rfl, ?_⟩) (by first | exact HQ.out _ kw) ?_
            rotate_left
            · (intro w hS; (try dsimp only at hS); go_simp <;> with_reducible rfl)
            try simp only [List.setIfInBounds_toArray, List.set_cons_zero, List.set_cons_succ]
            refine wpAnyH_putD (i := 17) (d := 38) (v := ?_) rfl rfl (by kernel_rfl) (by kernel_rfl) (by kernel_rfl) (fun _ _ _ h => h) (Or.inl ⟨by kernel_rfl, ?_⟩) (by first | exact HQ.out _ kw) ?_
            rotate_left
            · (intro w hS; (try dsimp only at hS); go_simp <;> with_reducible rfl)
            try simp only [List.setIfInBounds_toArray, List.set_cons_zero, List.set_cons_succ]
            refine wpAnyH_putD (i := 18) (d := 39) (v := ?_) rfl rfl (by kernel_rfl) (by kernel_rfl) (by kernel_rfl) (fun _ _ _ h => h) (Or.inl ⟨by kernel_rfl, ?_⟩) (by first | exact HQ.out _ kw) ?_
            rotate_left
            · (intro w hS; (try dsimp only at hS); go_simp <;> with_reducible rfl)
            try simp only [List.setIfInBounds_toArray, List.set_cons_zero, List.set_cons_succ]
            refine wpAnyH_putD (i := 19) (d := 40) (v := (.bool false)) rfl rfl (by kernel_rfl) (by kernel_rfl) (by kernel_rfl) (fun _ _ _ h => h) (Or.inl ⟨by kernel_rfl, ?_⟩) (by first | exact HQ.out _ kw) ?_
            · (intro w hS; (try dsimp only at hS); go_simp <;> with_reducible rfl)
            try simp only [List.setIfInBounds_toArray, List.set_cons_zero, List.set_cons_succ]
            refine wpAnyH_putD (i := 20) (d := 41) (v := ?_) rfl rfl (by kernel_rfl) (by kernel_rfl) (by kernel_rfl) (fun _ _ _ h => h) (Or.inl ⟨by kernel_rfl, ?_⟩) (by first | exact HQ.out _ kw) ?_
            rotate_left
            · (intro w hS; (try dsimp only at hS); go_simp <;> with_reducible rfl)
            try simp only [List.setIfInBounds_toArray, List.set_cons_zero, List.set_cons_succ]
            refine wpAnyH_done (by kernel_rfl) ?_ _
            refine Nrm.out (hKK _ _ ?_)
            have hIV := HI.out.below kw
            have f4 := hIV.re.frozen
            have q4 := hIV.re.cell
            have f3 := hIV.kk.frozen
            have q3 := hIV.kk.cell
            have qm := hIV.mo.cell
            gi_wp2
            refine ⟨((keeps_below kw).trans (KeepsOthers.setCell _ _ _)).from _, fun g => (g.below kw g.box.lt).setCell (p := ⟨w2.heap.size + 1 + 1, 0, none⟩) (by show w2.heap.size + 1 + 1 ≠ _; omega) (by show _ ≤ w2.heap.size + 1 + 1; omega) _, ⟨?_, HYES.out⟩, (hB.trans (kw.mono hB.size)).setCell (p := ⟨w2.heap.size + 1 + 1, 0, none⟩) (by show _ ≤ w2.heap.size + 1 + 1; omega) _⟩
            rw [List.length_append, List.length_singleton, ← HK0.out]
            exact hIV.setK (k + 1) hlo2
        · have HNO := Lib.hid (fun h => ee (hpn.1 h).2)
          have he : ((er : Int) != (der : Int)) = true := bne_iff_ne.2 (by omega)
          clear hpn hSame es ee
          gi_wp2
          refine region_round (S := (fun W' => W'.cell? ⟨w2.heap.size + 1 + 1, 0, none⟩ = some (.int .i64 (k : Int)) ∧ W'.cell? ⟨w2.heap.size, 0, none⟩ = some (.slice (some ⟨b, o, none⟩) m d1) ∧ W'.cell? ⟨w2.heap.size + 1, 0, none⟩ = some (.slice (some ⟨b2, o2', none⟩) m d2) ∧ W'.cell? ⟨Bs, 0, none⟩ = some (.int .i64 xk) ∧ W'.cell? ⟨Bs, 1, none⟩ = some (.int .i64 xa) ∧ W'.cell? ⟨Bs, 2, none⟩ = some (.int .i64 xb) ∧ W'.cell? ⟨Bs, 3, none⟩ = some (.int .i64 xo) ∧ W'.cell? ⟨Bs, 4, none⟩ = some (.int .i64 xn) ∧ W'.cell? ⟨Bs, 5, none⟩ = some (.slice P1 p1 q1) ∧ W'.cell? ⟨Bs, 6, none⟩ = some (.slice P2 p2 q2) ∧ W'.cell? ⟨b, o + k * 7, none⟩ = some (.int .i64 yk) ∧ W'.cell? ⟨b, o + k * 7 + 1, none⟩ = some (.int .i64 ya) ∧ W'.cell? ⟨b, o + k * 7 + 2, none⟩ = some (.int .i64 yb) ∧ W'.cell? ⟨b, o + k * 7 + 3, none⟩ = some (.int .i64 yo) ∧ W'.cell? ⟨b, o + k * 7 + 4, none⟩ = some (.int .i64 yn) ∧ W'.cell? ⟨b, o + k * 7 + 5, none⟩ = some (.slice R1 r1 s1) ∧ W'.cell? ⟨b, o + k * 7 + 6, none⟩ = some (.slice R2 r2 s2) ∧ W'.cell? ⟨b2, o2' + k, none⟩ = some (.int .i64 (der : Int)))) (by kernel_rfl) (by kernel_rfl) (by first | exact HQ.out _ kw) (fun KK hKK hHeld => ?_)
          refine wpAnyH_putD (i := 0) (d := 21) (v := ?_) rfl rfl (by kernel_rfl) (by kernel_rfl) (by kernel_rfl) (fun _ _ _ h => h) (Or.inl ⟨by kernel_rfl, ?_⟩) (by first | exact HQ.out _ kw) ?_
          rotate_left
          · (intro w hS; (try dsimp only at hS); go_simp <;> with_reducible rfl)
          try simp only [List.setIfInBounds_toArray, List.set_cons_zero, List.set_cons_succ]
          refine wpAnyH_putD (i := 1) (d := 22) (v := ?_) rfl rfl (by kernel_rfl) (by kernel_rfl) (by kernel_rfl) (fun _ _ _ h => h) (Or.inl ⟨by kernel_rfl, ?_⟩) (by first | exact HQ.out _ kw) ?_
          rotate_left
          · (intro w hS; (try dsimp only at hS); go_simp <;> with_reducible rfl)
          try simp only [List.setIfInBounds_toArray, List.set_cons_zero, List.set_cons_succ]
          refine wpAnyH_putD (i := 2) (d := 23) (v := ?_) rfl rfl (by kernel_rfl) (by kernel_rfl) (by kernel_rfl) (fun _ _ _ h => h) (Or.inl ⟨by kernel_rfl, ?_⟩) (by first | exact HQ.out _ kw) ?_
          rotate_left
          · (intro w hS; (try dsimp only at hS); go_simp <;> with_reducible rfl)
          try simp only [List.setIfInBounds_toArray, List.set_cons_zero, List.set_cons_succ]
          refine wpAnyH_putD (i := 3) (d := 24) (v := (.bool false)) rfl rfl (by kernel_rfl) (by kernel_rfl) (by kernel_rfl) (fun _ _ _ h => h) (Or.inl ⟨by kernel_rfl, ?_⟩) (by first | exact HQ.out _ kw) ?_
          · (intro w hS; (try dsimp only at hS); go_simp <;> with_reducible rfl)
          try simp only [List.setIfInBounds_toArray, List.set_cons_zero, List.set_cons_succ]
          refine wpAnyH_putD (i := 4) (d := 25) (v := ?_) rfl rfl (by kernel_rfl) (by kernel_rfl) (by kernel_rfl) (fun _ _ _ h => h) (Or.inl ⟨by kernel_rfl, ?_⟩) (by first | exact HQ.out _ kw) ?_
          rotate_left
          · (intro w hS; (try dsimp only at hS); go_simp <;> with_reducible rfl)
          try simp only [List.setIfInBounds_toArray, List.set_cons_zero, List.set_cons_succ]
          refine wpAnyH_putD (i := 5) (d := 26) (v := ?_) rfl rfl (by kernel_rfl) (by kernel_rfl) (by kernel_rfl) (fun _ _ _ h => h) (Or.inl ⟨by kernel_rfl, ?_⟩) (by first | exact HQ.out _ kw) ?_
          rotate_left
          · (intro w hS; (try dsimp only at hS); go_simp <;> with_reducible rfl)
          try simp only [List.setIfInBounds_toArray, List.set_cons_zero, List.set_cons_succ]
          refine wpAnyH_putD (i := 6) (d := 27) (v := ?_) rfl rfl (by kernel_rfl) (by kernel_rfl) (by kernel_rfl) (fun _ _ _ h => h) (Or.inl ⟨by kernel_rfl, ?_⟩) (by first | exact HQ.out _ kw) ?_
          rotate_left
          · (intro w hS; (try dsimp only at hS); go_simp <;> with_reducible rfl)
          try simp only [List.setIfInBounds_toArray, List.set_cons_zero, List.set_cons_succ]
          refine wpAnyH_putD (i := 7) (d := 28) (v := ?_) rfl rfl (by kernel_rfl) (by kernel_rfl) (by kernel_rfl) (fun _ _ _ h => h) (Or.inl ⟨by kernel_rfl, ?_⟩) (by first | exact HQ.out _ kw) ?_
          rotate_left
          · (intro w hS; (try dsimp only at hS); go_simp <;> with_reducible rfl)
          try simp only [List.setIfInBounds_toArray, List.set_cons_zero, List.set_cons_succ]
          refine wpAnyH_putD (i := 8) (d := 29) (v := ?_) rfl rfl (by kernel_rfl) (by kernel_rfl) (by kernel_rfl) (fun _ _ _ h => h) (Or.inl ⟨by kernel_rfl, ?_⟩) (by first | exact HQ.out _ kw) ?_
          rotate_left
          · (intro w hS; (try dsimp only at hS); go_simp <;> with_reducible rfl)
          try simp only [List.setIfInBounds_toArray, List.set_cons_zero, List.set_cons_succ]
          refine wpAnyH_putD (i := 9) (d := 30) (v := ?_) rfl rfl (by kernel_rfl) (by kernel_rfl) (by kernel_rfl) (fun _ _ _ h => h) (Or.inl ⟨by kernel_rfl, ?_⟩) (by first | exact HQ.out _ kw) ?_
          rotate_left
          · (intro w hS; (try dsimp only at hS); go_simp <;> with_reducible rfl)
          try simp only [List.setIfInBounds_toArray, List.set_cons_zero, List.set_cons_succ]
          refine wpAnyH_ready (rs := [10]) (by kernel_rfl) (by simp) ?_
          refine AllReadyH.cons rfl (fun K hK => ?_) AllReadyH.nil
          go_simp
          refine (G.out _ kw).mono ?_
          rintro e V ⟨rfl, hb'⟩
          have kw := below_then kw (Nat.le_refl _) hb'
          clear hb'
          refine hK.out _ _ (by first | exact HQ.out _ kw) (fun hHeld => ?_)
          clear hK K
          refine wpAnyH_putD (i := 11) (d := 32) (v := ?_) rfl rfl (by kernel_rfl) (by kernel_rfl) (by kernel_rfl) (fun _ _ _ h => h) (Or.inl ⟨by kernel_rfl, ?_⟩) (by first | exact HQ.out _ kw) ?_
          rotate_left
          · (intro w hS; (try dsimp only at hS); go_simp <;> with_reducible rfl)
          try simp only [List.setIfInBounds_toArray, List.set_cons_zero, List.set_cons_succ]
          refine wpAnyH_putD (i := 12) (d := 33) (v := ?_) rfl rfl (by kernel_rfl) (by kernel_rfl) (by kernel_rfl) (fun _ _ _ h => h) (Or.inl ⟨by kernel_rfl, ?_⟩) (by first | exact HQ.out _ kw) ?_
          rotate_left
          · (intro w hS; (try dsimp only at hS); go_simp <;> with_reducible rfl)
          try simp only [List.setIfInBounds_toArray, List.set_cons_zero, List.set_cons_succ]
          refine wpAnyH_putD (i := 13) (d := 34) (v := ?_) rfl rfl (by kernel_rfl) (by kernel_rfl) (by kernel_rfl) (fun _ _ _ h => h) (Or.inl ⟨by kernel_rfl, ?_⟩) (by first | exact HQ.out _ kw) ?_
          rotate_left
          · (intro w hS; (try dsimp only at hS); go_simp <;> with_reducible rfl)
          try simp only [List.setIfInBounds_toArray, List.set_cons_zero, List.set_cons_succ]
          refine wpAnyH_putD (i := 14) (d := 35) (v := ?_) rfl rfl (by kernel_rfl) (by kernel_rfl) (by kernel_rfl) (fun _ _ _ h => h) (Or.inl ⟨by kernel_rfl, ?_⟩) (by first | exact HQ.out _ kw) ?_
          rotate_left
          · (intro w hS; (try dsimp only at hS); go_simp <;> with_reducible rfl)
          try simp only [List.setIfInBounds_toArray, List.set_cons_zero, List.set_cons_succ]
          refine wpAnyH_putD (i := 15) (d := 36) (v := ?_) rfl rfl (by kernel_rfl) (by kernel_rfl) (by kernel_rfl) (fun _ _ _ h => h) (Or.inl ⟨by kernel_rfl, ?_⟩) (by first | exact HQ.out _ kw) ?_
          rotate_left
          · (intro w hS; (try dsimp only at hS); go_simp <;> with_reducible rfl)
          try simp only [List.setIfInBounds_toArray, List.set_cons_zero, List.set_cons_succ]
          refine wpAnyH_putD (i := 16) (d := 37) (v := ?_) rfl rfl (by kernel_rfl) (by kernel_rfl) (by kernel_rfl) (fun _ _ _ h => h) (Or.inl ⟨by kernel_rfl, ?_⟩) (by first | exact HQ.out _ kw) ?_
          rotate_left
          · (intro w hS; (try dsimp only at hS); go_simp <;> with_reducible rfl)
          try simp only [List.setIfInBounds_toArray, List.set_cons_zero, List.set_cons_succ]
          refine wpAnyH_putD (i := 17) (d := 38) (v := ?_) rfl rfl (by kernel_rfl) (by kernel_rfl) (by kernel_rfl) (fun _ _ _ h => h) (Or.inl ⟨by kernel_rfl, ?_⟩) (by first | exact HQ.out _ kw) ?_
          rotate_left
          · (intro w hS; (try dsimp only at hS); go_simp <;> with_reducible rfl)
          try simp only [List.setIfInBounds_toArray, List.set_cons_zero, List.set_cons_succ]
          refine wpAnyH_putD (i := 18) (d := 39) (v := ?_) rfl rfl (by kernel_rfl) (by kernel_rfl) (by kernel_rfl) (fun _ _ _ h => h) (Or.inl ⟨by kernel_rfl, ?_⟩) (by first | exact HQ.out _ kw) ?_
          rotate_left
          · (intro w hS; (try dsimp only at hS); go_simp <;> with_reducible rfl)
          try simp only [List.setIfInBounds_toArray, List.set_cons_zero, List.set_cons_succ]
          refine wpAnyH_putD (i := 19) (d := 40) (v := (.bool true)) rfl rfl (by kernel_rfl) (by kernel_rfl) (by kernel_rfl) (fun _ _ _ h => h) (Or.inl ⟨by kernel_rfl, ?_⟩) (by first | exact HQ.out _ kw) ?_
          · (intro w hS; (try dsimp only at hS); go_simp <;> with_reducible rfl)
          try simp only [List.setIfInBounds_toArray, List.set_cons_zero, List.set_cons_succ]
          refine wpAnyH_putD (i := 20) (d := 41) (v := ?_) rfl rfl (by kernel_rfl) (by kernel_rfl) (by kernel_rfl) (fun _ _ _ h => h) (Or.inl ⟨by kernel_rfl, ?_⟩) (by first | exact HQ.out _ kw) ?_
          rotate_left
          · (intro w hS; (try dsimp only at hS); go_simp <;> with_reducible rfl)
          try simp only [List.setIfInBounds_toArray, List.set_cons_zero, List.set_cons_succ]
          refine wpAnyH_done (by kernel_rfl) ?_ _
          refine Nrm.out (hKK _ _ ?_)
          have hIV := HI.out.below kw
          have f4 := hIV.re.frozen
          have q4 := hIV.re.cell
          gi_wp2
          refine ⟨((keeps_below kw).trans (KeepsOthers.setCell _ _ _)).from _, ⟨rfl, false, k, hIV.setR false hlo1 hlo2, fun h => absurd h HNO.out⟩, (hB.trans (kw.mono hB.size)).setCell (p := ⟨w.heap.size + 1, 0, none⟩) (by show _ ≤ w.heap.size + 1; omega) _⟩
      · have HNO := Lib.hid (fun h => es (hpn.1 h).1)
        have G := Lib.hid fun (V : World) (hb : Below W.heap.size W V) => (show Calls Try.prog 17 #[.agg #[.int .i64 xk, .int .i64 xa, .int .i64 xb, .int .i64 xo, .int .i64 xn, .slice P1 p1 q1, .slice P2 p2 q2], .agg #[.int .i64 yk, .int .i64 ya, .int .i64 yb, .int .i64 yo, .int .i64 yn, .slice R1 r1 s1, .slice R2 r2 s2]] V fun e w' => e = .returned (.bool false) ∧ Below V.heap.size V w' from by have := hSame V hb; rwa [decide_eq_false es] at this)
        clear hpn hSame es
        gi_wp2
        refine region_round (S := (fun W' => W'.cell? ⟨w2.heap.size + 1 + 1, 0, none⟩ = some (.int .i64 (k : Int)) ∧ W'.cell? ⟨w2.heap.size, 0, none⟩ = some (.slice (some ⟨b, o, none⟩) m d1) ∧ W'.cell? ⟨w2.heap.size + 1, 0, none⟩ = some (.slice (some ⟨b2, o2', none⟩) m d2) ∧ W'.cell? ⟨Bs, 0, none⟩ = some (.int .i64 xk) ∧ W'.cell? ⟨Bs, 1, none⟩ = some (.int .i64 xa) ∧ W'.cell? ⟨Bs, 2, none⟩ = some (.int .i64 xb) ∧ W'.cell? ⟨Bs, 3, none⟩ = some (.int .i64 xo) ∧ W'.cell? ⟨Bs, 4, none⟩ = some (.int .i64 xn) ∧ W'.cell? ⟨Bs, 5, none⟩ = some (.slice P1 p1 q1) ∧ W'.cell? ⟨Bs, 6, none⟩ = some (.slice P2 p2 q2) ∧ W'.cell? ⟨b, o + k * 7, none⟩ = some (.int .i64 yk) ∧ W'.cell? ⟨b, o + k * 7 + 1, none⟩ = some (.int .i64 ya) ∧ W'.cell? ⟨b, o + k * 7 + 2, none⟩ = some (.int .i64 yb) ∧ W'.cell? ⟨b, o + k * 7 + 3, none⟩ = some (.int .i64 yo) ∧ W'.cell? ⟨b, o + k * 7 + 4, none⟩ = some (.int .i64 yn) ∧ W'.cell? ⟨b, o + k * 7 + 5, none⟩ = some (.slice R1 r1 s1) ∧ W'.cell? ⟨b, o + k * 7 + 6, none⟩ = some (.slice R2 r2 s2) ∧ W'.cell? ⟨b2, o2' + k, none⟩ = some (.int .i64 (der : Int)))) (by kernel_rfl) (by kernel_rfl) (by first | exact HQ.out _ kw) (fun KK hKK hHeld => ?_)
        refine wpAnyH_putD (i := 0) (d := 21) (v := ?_) rfl rfl (by kernel_rfl) (by kernel_rfl) (by kernel_rfl) (fun _ _ _ h => h) (Or.inl ⟨by kernel_rfl, ?_⟩) (by first | exact HQ.out _ kw) ?_
        rotate_left
        · (intro w hS; (try dsimp only at hS); go_simp <;> with_reducible rfl)
        try simp only [List.setIfInBounds_toArray, List.set_cons_zero, List.set_cons_succ]
        refine wpAnyH_putD (i := 1) (d := 22) (v := ?_) rfl rfl (by kernel_rfl) (by kernel_rfl) (by kernel_rfl) (fun _ _ _ h => h) (Or.inl ⟨by kernel_rfl, ?_⟩) (by first | exact HQ.out _ kw) ?_
        rotate_left
        · (intro w hS; (try dsimp only at hS); go_simp <;> with_reducible rfl)
        try simp only [List.setIfInBounds_toArray, List.set_cons_zero, List.set_cons_succ]
        refine wpAnyH_putD (i := 2) (d := 23) (v := ?_) rfl rfl (by kernel_rfl) (by kernel_rfl) (by kernel_rfl) (fun _ _ _ h => h) (Or.inl ⟨by kernel_rfl, ?_⟩) (by first | exact HQ.out _ kw) ?_
        rotate_left
        · (intro w hS; (try dsimp only at hS); go_simp <;> with_reducible rfl)
        try simp only [List.setIfInBounds_toArray, List.set_cons_zero, List.set_cons_succ]
        refine wpAnyH_putD (i := 3) (d := 24) (v := (.bool false)) rfl rfl (by kernel_rfl) (by kernel_rfl) (by kernel_rfl) (fun _ _ _ h => h) (Or.inl ⟨by kernel_rfl, ?_⟩) (by first | exact HQ.out _ kw) ?_
        · (intro w hS; (try dsimp only at hS); go_simp <;> with_reducible rfl)
        try simp only [List.setIfInBounds_toArray, List.set_cons_zero, List.set_cons_succ]
        refine wpAnyH_putD (i := 4) (d := 25) (v := ?_) rfl rfl (by kernel_rfl) (by kernel_rfl) (by kernel_rfl) (fun _ _ _ h => h) (Or.inl ⟨by kernel_rfl, ?_⟩) (by first | exact HQ.out _ kw) ?_
        rotate_left
        · (intro w hS; (try dsimp only at hS); go_simp <;> with_reducible rfl)
        try simp only [List.setIfInBounds_toArray, List.set_cons_zero, List.set_cons_succ]
        refine wpAnyH_putD (i := 5) (d := 26) (v := ?_) rfl rfl (by kernel_rfl) (by kernel_rfl) (by kernel_rfl) (fun _ _ _ h => h) (Or.inl ⟨by kernel_rfl, ?_⟩) (by first | exact HQ.out _ kw) ?_
        rotate_left
        · (intro w hS; (try dsimp only at hS); go_simp <;> with_reducible rfl)
        try simp only [List.setIfInBounds_toArray, List.set_cons_zero, List.set_cons_succ]
        refine wpAnyH_putD (i := 6) (d := 27) (v := ?_) rfl rfl (by kernel_rfl) (by kernel_rfl) (by kernel_rfl) (fun _ _ _ h => h) (Or.inl ⟨by kernel_rfl, ?_⟩) (by first | exact HQ.out _ kw) ?_
        rotate_left
        · (intro w hS; (try dsimp only at hS); go_simp <;> with_reducible rfl)
        try simp only [List.setIfInBounds_toArray, List.set_cons_zero, List.set_cons_succ]
        refine wpAnyH_putD (i := 7) (d := 28) (v := ?_) rfl rfl (by kernel_rfl) (by kernel_rfl) (by kernel_rfl) (fun _ _ _ h => h) (Or.inl ⟨by kernel_rfl, ?_⟩) (by first | exact HQ.out _ kw) ?_
        rotate_left
        · (intro w hS; (try dsimp only at hS); go_simp <;> with_reducible rfl)
        try simp only [List.setIfInBounds_toArray, List.set_cons_zero, List.set_cons_succ]
        refine wpAnyH_putD (i := 8) (d := 29) (v := ?_) rfl rfl (by kernel_rfl) (by kernel_rfl) (by kernel_rfl) (fun _ _ _ h => h) (Or.inl ⟨by kernel_rfl, ?_⟩) (by first | exact HQ.out _ kw) ?_
        rotate_left
        · (intro w hS; (try dsimp only at hS); go_simp <;> with_reducible rfl)
        try simp only [List.setIfInBounds_toArray, List.set_cons_zero, List.set_cons_succ]
        refine wpAnyH_putD (i := 9) (d := 30) (v := ?_) rfl rfl (by kernel_rfl) (by kernel_rfl) (by kernel_rfl) (fun _ _ _ h => h) (Or.inl ⟨by kernel_rfl, ?_⟩) (by first | exact HQ.out _ kw) ?_
        rotate_left
        · (intro w hS; (try dsimp only at hS); go_simp <;> with_reducible rfl)
        try simp only [List.setIfInBounds_toArray, List.set_cons_zero, List.set_cons_succ]
        refine wpAnyH_ready (rs := [10]) (by kernel_rfl) (by simp) ?_
        refine AllReadyH.cons rfl (fun K hK => ?_) AllReadyH.nil
        go_simp
        refine (G.out _ kw).mono ?_
        rintro e V ⟨rfl, hb'⟩
        have kw := below_then kw (Nat.le_refl _) hb'
        clear hb'
        refine hK.out _ _ (by first | exact HQ.out _ kw) (fun hHeld => ?_)
        clear hK K
        refine wpAnyH_putD (i := 11) (d := 32) (v := ?_) rfl rfl (by kernel_rfl) (by kernel_rfl) (by kernel_rfl) (fun _ _ _ h => h) (Or.inl ⟨by kernel_rfl, ?_⟩) (by first | exact HQ.out _ kw) ?_
        rotate_left
        · (intro w hS; (try dsimp only at hS); go_simp <;> with_reducible rfl)
        try simp only [List.setIfInBounds_toArray, List.set_cons_zero, List.set_cons_succ]
        refine wpAnyH_putD (i := 12) (d := 33) (v := ?_) rfl rfl (by kernel_rfl) (by kernel_rfl) (by kernel_rfl) (fun _ _ _ h => h) (Or.inl ⟨by kernel_rfl, ?_⟩) (by first | exact HQ.out _ kw) ?_
        rotate_left
        · (intro w hS; (try dsimp only at hS); go_simp <;> with_reducible rfl)
        try simp only [List.setIfInBounds_toArray, List.set_cons_zero, List.set_cons_succ]
        refine wpAnyH_putD (i := 13) (d := 34) (v := ?_) rfl rfl (by kernel_rfl) (by kernel_rfl) (by kernel_rfl) (fun _ _ _ h => h) (Or.inl ⟨by kernel_rfl, ?_⟩) (by first | exact HQ.out _ kw) ?_
        rotate_left
        · (intro w hS; (try dsimp only at hS); go_simp <;> with_reducible rfl)
        try simp only [List.setIfInBounds_toArray, List.set_cons_zero, List.set_cons_succ]
        refine wpAnyH_putD (i := 14) (d := 35) (v := undef) rfl rfl (by kernel_rfl) (by kernel_rfl) (by kernel_rfl) (fun _ _ _ h => h) (Or.inr ⟨by kernel_rfl, rfl⟩) (by first | exact HQ.out _ kw) ?_
        try simp only [List.setIfInBounds_toArray, List.set_cons_zero, List.set_cons_succ]
        refine wpAnyH_putD (i := 15) (d := 36) (v := undef) rfl rfl (by kernel_rfl) (by kernel_rfl) (by kernel_rfl) (fun _ _ _ h => h) (Or.inr ⟨by kernel_rfl, rfl⟩) (by first | exact HQ.out _ kw) ?_
        try simp only [List.setIfInBounds_toArray, List.set_cons_zero, List.set_cons_succ]
        refine wpAnyH_putD (i := 16) (d := 37) (v := undef) rfl rfl (by kernel_rfl) (by kernel_rfl) (by kernel_rfl) (fun _ _ _ h => h) (Or.inr ⟨by kernel_rfl, rfl⟩) (by first | exact HQ.out _ kw) ?_
        try simp only [List.setIfInBounds_toArray, List.set_cons_zero, List.set_cons_succ]
        refine wpAnyH_putD (i := 17) (d := 38) (v := undef) rfl rfl (by kernel_rfl) (by kernel_rfl) (by kernel_rfl) (fun _ _ _ h => h) (Or.inr ⟨by kernel_rfl, rfl⟩) (by first | exact HQ.out _ kw) ?_
        try simp only [List.setIfInBounds_toArray, List.set_cons_zero, List.set_cons_succ]
        refine wpAnyH_putD (i := 18) (d := 39) (v := undef) rfl rfl (by kernel_rfl) (by kernel_rfl) (by kernel_rfl) (fun _ _ _ h => h) (Or.inr ⟨by kernel_rfl, rfl⟩) (by first | exact HQ.out _ kw) ?_
        try simp only [List.setIfInBounds_toArray, List.set_cons_zero, List.set_cons_succ]
        refine wpAnyH_putD (i := 19) (d := 40) (v := undef) rfl rfl (by kernel_rfl) (by kernel_rfl) (by kernel_rfl) (fun _ _ _ h => h) (Or.inr ⟨by kernel_rfl, rfl⟩) (by first | exact HQ.out _ kw) ?_
        try simp only [List.setIfInBounds_toArray, List.set_cons_zero, List.set_cons_succ]
        refine wpAnyH_putD (i := 20) (d := 41) (v := ?_) rfl rfl (by kernel_rfl) (by kernel_rfl) (by kernel_rfl) (fun _ _ _ h => h) (Or.inl ⟨by kernel_rfl, ?_⟩) (by first | exact HQ.out _ kw) ?_
        rotate_left
        · (intro w hS; (try dsimp only at hS); go_simp <;> with_reducible rfl)
        try simp only [List.setIfInBounds_toArray, List.set_cons_zero, List.set_cons_succ]
        refine wpAnyH_done (by kernel_rfl) ?_ _
        refine Nrm.out (hKK _ _ ?_)
        have hIV := HI.out.below kw
        have f4 := hIV.re.frozen
        have q4 := hIV.re.cell
        gi_wp2
        refine ⟨((keeps_below kw).trans (KeepsOthers.setCell _ _ _)).from _, ⟨rfl, false, k, hIV.setR false hlo1 hlo2, fun h => absurd h HNO.out⟩, (hB.trans (kw.mono hB.size)).setCell (p := ⟨w.heap.size + 1, 0, none⟩) (by show _ ≤ w.heap.size + 1; omega) _⟩
    · skip
      have HQ := Lib.hid fun W' (hb : Below W.heap.size W W') => (show (W'.cell? ⟨w2.heap.size + 1 + 1, 0, none⟩ = some (.int .i64 (k : Int)) ∧ W'.cell? ⟨w2.heap.size, 0, none⟩ = some (.slice D1 m d1) ∧ W'.cell? ⟨w2.heap.size + 1, 0, none⟩ = some (.slice D2 m d2) ∧ W'.cell? ⟨Bs, 0, none⟩ = some (.int .i64 xk) ∧ W'.cell? ⟨Bs, 1, none⟩ = some (.int .i64 xa) ∧ W'.cell? ⟨Bs, 2, none⟩ = some (.int .i64 xb) ∧ W'.cell? ⟨Bs, 3, none⟩ = some (.int .i64 xo) ∧ W'.cell? ⟨Bs, 4, none⟩ = some (.int .i64 xn) ∧ W'.cell? ⟨Bs, 5, none⟩ = some (.slice P1 p1 q1) ∧ W'.cell? ⟨Bs, 6, none⟩ = some (.slice P2 p2 q2)) from ⟨(hb.cell (p := ⟨w2.heap.size + 1 + 1, 0, none⟩) hI.kk.lt).trans hI.kk.cell, (hb.cell (p := ⟨w2.heap.size, 0, none⟩) bLW.lt).trans (bLW.cell 0), (hb.cell (p := ⟨w2.heap.size + 1, 0, none⟩) bEW.lt).trans (bEW.cell 0), (hb.cell (p := ⟨Bs, 0, none⟩) hX.lt).trans (hX.cell 0), (hb.cell (p := ⟨Bs, 1, none⟩) hX.lt).trans (hX.cell 1), (hb.cell (p := ⟨Bs, 2, none⟩) hX.lt).trans (hX.cell 2), (hb.cell (p := ⟨Bs, 3, none⟩) hX.lt).trans (hX.cell 3), (hb.cell (p := ⟨Bs, 4, none⟩) hX.lt).trans (hX.cell 4), (hb.cell (p := ⟨Bs, 5, none⟩) hX.lt).trans (hX.cell 5), (hb.cell (p := ⟨Bs, 6, none⟩) hX.lt).trans (hX.cell 6)⟩)
      have hkm : m ≤ k := by omega
      have hkk : decide (m ≤ k) = true := by simpa using hkm
      have HNO := Lib.hid (show ¬ (said (pre ++ [(⟨P1, p1, q1, P2, p2, q2⟩, ⟨xk, xa, xb, xo, xn, xs, xv⟩, er)]) <+: evS l) by
        intro h
        rw [HSN.out] at h
        obtain ⟨h2, h3⟩ := prefix_at2 h
        rw [HSPL.out, ← HSAID.out] at h2
        have h4 : (said PRE).length = PRE.length := by simp [said]
        have h5 := HLEN.out
        omega)
      clear bLW bEW o1 o2 o3 hX hT hT'
      gi_wp2
      refine region_round (S := (fun W' => W'.cell? ⟨w2.heap.size + 1 + 1, 0, none⟩ = some (.int .i64 (k : Int)) ∧ W'.cell? ⟨w2.heap.size, 0, none⟩ = some (.slice D1 m d1) ∧ W'.cell? ⟨w2.heap.size + 1, 0, none⟩ = some (.slice D2 m d2) ∧ W'.cell? ⟨Bs, 0, none⟩ = some (.int .i64 xk) ∧ W'.cell? ⟨Bs, 1, none⟩ = some (.int .i64 xa) ∧ W'.cell? ⟨Bs, 2, none⟩ = some (.int .i64 xb) ∧ W'.cell? ⟨Bs, 3, none⟩ = some (.int .i64 xo) ∧ W'.cell? ⟨Bs, 4, none⟩ = some (.int .i64 xn) ∧ W'.cell? ⟨Bs, 5, none⟩ = some (.slice P1 p1 q1) ∧ W'.cell? ⟨Bs, 6, none⟩ = some (.slice P2 p2 q2))) (by kernel_rfl) (by kernel_rfl) (by first | exact HQ.out _ kw) (fun KK hKK hHeld => ?_)
      refine wpAnyH_putD (i := 0) (d := 21) (v := ?_) rfl rfl (by kernel_rfl) (by kernel_rfl) (by kernel_rfl) (fun _ _ _ h => h) (Or.inl ⟨by kernel_rfl, ?_⟩) (by first | exact HQ.out _ kw) ?_
      rotate_left
      · (intro w hS; (try dsimp only at hS); go_simp <;> with_reducible rfl)
      try simp only [List.setIfInBounds_toArray, List.set_cons_zero, List.set_cons_succ]
      refine wpAnyH_putD (i := 1) (d := 22) (v := ?_) rfl rfl (by kernel_rfl) (by kernel_rfl) (by kernel_rfl) (fun _ _ _ h => h) (Or.inl ⟨by kernel_rfl, ?_⟩) (by first | exact HQ.out _ kw) ?_
      rotate_left
      · (intro w hS; (try dsimp only at hS); go_simp <;> with_reducible rfl)
      try simp only [List.setIfInBounds_toArray, List.set_cons_zero, List.set_cons_succ]
      refine wpAnyH_putD (i := 2) (d := 23) (v := ?_) rfl rfl (by kernel_rfl) (by kernel_rfl) (by kernel_rfl) (fun _ _ _ h => h) (Or.inl ⟨by kernel_rfl, ?_⟩) (by first | exact HQ.out _ kw) ?_
      rotate_left
      · (intro w hS; (try dsimp only at hS); go_simp <;> with_reducible rfl)
      try simp only [List.setIfInBounds_toArray, List.set_cons_zero, List.set_cons_succ]
      refine wpAnyH_putD (i := 3) (d := 24) (v := (.bool true)) rfl rfl (by kernel_rfl) (by kernel_rfl) (by kernel_rfl) (fun _ _ _ h => h) (Or.inl ⟨by kernel_rfl, ?_⟩) (by first | exact HQ.out _ kw) ?_
      · (intro w hS; (try dsimp only at hS); go_simp <;> with_reducible rfl)
      try simp only [List.setIfInBounds_toArray, List.set_cons_zero, List.set_cons_succ]
      refine wpAnyH_putD (i := 4) (d := 25) (v := ?_) rfl rfl (by kernel_rfl) (by kernel_rfl) (by kernel_rfl) (fun _ _ _ h => h) (Or.inl ⟨by kernel_rfl, ?_⟩) (by first | exact HQ.out _ kw) ?_
      rotate_left
      · (intro w hS; (try dsimp only at hS); go_simp <;> with_reducible rfl)
      try simp only [List.setIfInBounds_toArray, List.set_cons_zero, List.set_cons_succ]
      refine wpAnyH_putD (i := 5) (d := 26) (v := undef) rfl rfl (by kernel_rfl) (by kernel_rfl) (by kernel_rfl) (fun _ _ _ h => h) (Or.inr ⟨by kernel_rfl, rfl⟩) (by first | exact HQ.out _ kw) ?_
      try simp only [List.setIfInBounds_toArray, List.set_cons_zero, List.set_cons_succ]
      refine wpAnyH_putD (i := 6) (d := 27) (v := undef) rfl rfl (by kernel_rfl) (by kernel_rfl) (by kernel_rfl) (fun _ _ _ h => h) (Or.inr ⟨by kernel_rfl, rfl⟩) (by first | exact HQ.out _ kw) ?_
      try simp only [List.setIfInBounds_toArray, List.set_cons_zero, List.set_cons_succ]
      refine wpAnyH_putD (i := 7) (d := 28) (v := undef) rfl rfl (by kernel_rfl) (by kernel_rfl) (by kernel_rfl) (fun _ _ _ h => h) (Or.inr ⟨by kernel_rfl, rfl⟩) (by first | exact HQ.out _ kw) ?_
      try simp only [List.setIfInBounds_toArray, List.set_cons_zero, List.set_cons_succ]
      refine wpAnyH_putD (i := 8) (d := 29) (v := undef) rfl rfl (by kernel_rfl) (by kernel_rfl) (by kernel_rfl) (fun _ _ _ h => h) (Or.inr ⟨by kernel_rfl, rfl⟩) (by first | exact HQ.out _ kw) ?_
      try simp only [List.setIfInBounds_toArray, List.set_cons_zero, List.set_cons_succ]
      refine wpAnyH_putD (i := 9) (d := 30) (v := undef) rfl rfl (by kernel_rfl) (by kernel_rfl) (by kernel_rfl) (fun _ _ _ h => h) (Or.inr ⟨by kernel_rfl, rfl⟩) (by first | exact HQ.out _ kw) ?_
      try simp only [List.setIfInBounds_toArray, List.set_cons_zero, List.set_cons_succ]
      refine wpAnyH_putD (i := 10) (d := 31) (v := undef) rfl rfl (by kernel_rfl) (by kernel_rfl) (by kernel_rfl) (fun _ _ _ h => h) (Or.inr ⟨by kernel_rfl, rfl⟩) (by first | exact HQ.out _ kw) ?_
      try simp only [List.setIfInBounds_toArray, List.set_cons_zero, List.set_cons_succ]
      refine wpAnyH_putD (i := 11) (d := 32) (v := undef) rfl rfl (by kernel_rfl) (by kernel_rfl) (by kernel_rfl) (fun _ _ _ h => h) (Or.inr ⟨by kernel_rfl, rfl⟩) (by first | exact HQ.out _ kw) ?_
      try simp only [List.setIfInBounds_toArray, List.set_cons_zero, List.set_cons_succ]
      refine wpAnyH_putD (i := 12) (d := 33) (v := ?_) rfl rfl (by kernel_rfl) (by kernel_rfl) (by kernel_rfl) (fun _ _ _ h => h) (Or.inl ⟨by kernel_rfl, ?_⟩) (by first | exact HQ.out _ kw) ?_
      rotate_left
      · (intro w hS; (try dsimp only at hS); go_simp <;> with_reducible rfl)
      try simp only [List.setIfInBounds_toArray, List.set_cons_zero, List.set_cons_succ]
      refine wpAnyH_putD (i := 13) (d := 34) (v := ?_) rfl rfl (by kernel_rfl) (by kernel_rfl) (by kernel_rfl) (fun _ _ _ h => h) (Or.inl ⟨by kernel_rfl, ?_⟩) (by first | exact HQ.out _ kw) ?_
      rotate_left
      · (intro w hS; (try dsimp only at hS); go_simp <;> with_reducible rfl)
      try simp only [List.setIfInBounds_toArray, List.set_cons_zero, List.set_cons_succ]
      refine wpAnyH_putD (i := 14) (d := 35) (v := undef) rfl rfl (by kernel_rfl) (by kernel_rfl) (by kernel_rfl) (fun _ _ _ h => h) (Or.inr ⟨by kernel_rfl, rfl⟩) (by first | exact HQ.out _ kw) ?_
      try simp only [List.setIfInBounds_toArray, List.set_cons_zero, List.set_cons_succ]
      refine wpAnyH_putD (i := 15) (d := 36) (v := undef) rfl rfl (by kernel_rfl) (by kernel_rfl) (by kernel_rfl) (fun _ _ _ h => h) (Or.inr ⟨by kernel_rfl, rfl⟩) (by first | exact HQ.out _ kw) ?_
      try simp only [List.setIfInBounds_toArray, List.set_cons_zero, List.set_cons_succ]
      refine wpAnyH_putD (i := 16) (d := 37) (v := undef) rfl rfl (by kernel_rfl) (by kernel_rfl) (by kernel_rfl) (fun _ _ _ h => h) (Or.inr ⟨by kernel_rfl, rfl⟩) (by first | exact HQ.out _ kw) ?_
      try simp only [List.setIfInBounds_toArray, List.set_cons_zero, List.set_cons_succ]
      refine wpAnyH_putD (i := 17) (d := 38) (v := undef) rfl rfl (by kernel_rfl) (by kernel_rfl) (by kernel_rfl) (fun _ _ _ h => h) (Or.inr ⟨by kernel_rfl, rfl⟩) (by first | exact HQ.out _ kw) ?_
      try simp only [List.setIfInBounds_toArray, List.set_cons_zero, List.set_cons_succ]
      refine wpAnyH_putD (i := 18) (d := 39) (v := undef) rfl rfl (by kernel_rfl) (by kernel_rfl) (by kernel_rfl) (fun _ _ _ h => h) (Or.inr ⟨by kernel_rfl, rfl⟩) (by first | exact HQ.out _ kw) ?_
      try simp only [List.setIfInBounds_toArray, List.set_cons_zero, List.set_cons_succ]
      refine wpAnyH_putD (i := 19) (d := 40) (v := undef) rfl rfl (by kernel_rfl) (by kernel_rfl) (by kernel_rfl) (fun _ _ _ h => h) (Or.inr ⟨by kernel_rfl, rfl⟩) (by first | exact HQ.out _ kw) ?_
      try simp only [List.setIfInBounds_toArray, List.set_cons_zero, List.set_cons_succ]
      refine wpAnyH_putD (i := 20) (d := 41) (v := ?_) rfl rfl (by kernel_rfl) (by kernel_rfl) (by kernel_rfl) (fun _ _ _ h => h) (Or.inl ⟨by kernel_rfl, ?_⟩) (by first | exact HQ.out _ kw) ?_
      rotate_left
      · (intro w hS; (try dsimp only at hS); go_simp <;> with_reducible rfl)
      try simp only [List.setIfInBounds_toArray, List.set_cons_zero, List.set_cons_succ]
      refine wpAnyH_done (by kernel_rfl) ?_ _
      refine Nrm.out (hKK _ _ ?_)
      have hIV := HI.out.below kw
      have f4 := hIV.re.frozen
      have q4 := hIV.re.cell
      gi_wp2
      refine ⟨((keeps_below kw).trans (KeepsOthers.setCell _ _ _)).from _, ⟨rfl, false, k, hIV.setR false hlo1 hlo2, fun h => absurd h HNO.out⟩, (hB.trans (kw.mono hB.size)).setCell (p := ⟨w.heap.size + 1, 0, none⟩) (by show _ ≤ w.heap.size + 1; omega) _⟩
  case done =>
    rintro E ys W hD hys ⟨⟨hI, hpre⟩, hB⟩ hK
    have bLW : Blk W w2.heap.size 37 #[.slice D1 m d1] := hI.md _ _ (by omega) (by omega) BL.out rfl
    have q2 := bLW.cell 0
    have q3 := hI.kk.cell
    have q4 := hI.re.cell
    have f4 := hI.re.frozen
    have hlen : ys.length = m := by
      have h1 : (said ys).length = ys.length := by simp [said]
      have h2 : (said PRE).length = PRE.length := by simp [said]
      rw [← h1, hys, ← HSAID.out, h2, HLEN.out]
    rw [hlen] at q3
    clear hys hpre hI hlen bLW
    gi_wp2
    have hK' := (KeepsOthers.setCell W ⟨w.heap.size + 1, 0, none⟩ (.bool true)).same E _ hK rfl
    refine ⟨by simp, .inl ⟨_, _, rfl, run_takeDeferred hK', ?_⟩⟩
    have hc5 := cell_kept (World.cell?_setCell_same' W ⟨w.heap.size + 1, 0, none⟩ (.bool true) (by rw [q4]; rfl)) (grownBy_putObj' _ E (.deferred none)) (fun r e => by cases e; exact ⟨_, hK', rfl⟩)
    refine ⟨.bool true, ?_, rfl, (hB.setCell (p := ⟨w.heap.size + 1, 0, none⟩) (by show _ ≤ w.heap.size + 1; omega) _).trans (belowK_b (w := w) (Nat.le_refl _) _ E _ _ (by omega) hK' rfl rfl)⟩
    simp [results, Try.f6, go_sem, hc5]
  case stop =>
    rintro E c' pre W hD hpre ⟨⟨rfl, r, k, hI, hr⟩, hB⟩ hK
    obtain rfl := hr hpre
    have q4 := hI.re.cell
    clear hr hpre hI
    gi_wp2
    refine ⟨by simp, .inl ⟨_, _, rfl, run_takeDeferred hK, ?_⟩⟩
    have hc5 := cell_kept q4 (grownBy_putObj' _ E (.deferred none)) (fun r e => by cases e; exact ⟨_, hK, rfl⟩)
    refine ⟨.bool true, ?_, rfl, hB.trans (belowK_b (w := w) (Nat.le_refl _) W E _ _ (by omega) hK rfl rfl)⟩
    simp [results, Try.f6, go_sem, hc5]
end Go.Proofs.Ytldcgmnfohhjbac
