/- What a round over pieces may do; walk over trust.Since. -/
import Derived.Test.YticnfjfdeagmaaaDoorTwF
import Derived.Test.YticnfjfdeagmaaaDoorSpO
import Derived.Maps.OwnIn
namespace Go.Proofs.YticnfjfdeagmaaaDoor
open Go.RowKit Go.Shelf
set_option maxRecDepth 100000
attribute [local go_sem] Oper.semAt_some

theorem keeps_below {B : Nat} {W V : World} (h : Below W.heap.size W V) : KeepsFrom B W V := ⟨h.size, fun k _ _ hk _ => (h.block k (Array.getElem?_eq_some_iff.1 hk).1).trans hk⟩
theorem pt_box {W : World} {BO : Nat} {t : TypeId} {v : Value} (h : Boxed W BO t v) : pt BO W = v.ownBlock := by
  unfold pt
  rw [h.cell]
  rcases v with _ | _ | _ | _ | _ | _ | _ | _ | _ | _ | _ | _ | _ | _ <;> first | rfl | (rename_i a _ _; cases a <;> rfl)
/-- An append to the row in the box, and the store into the box. -/
theorem KZ.appended {W W1 W2 : World} {BO base k : Nat} {t e : TypeId} {size : Nat} {v v' : Value} {xs : List Value} (hv : Boxed W BO t v) (hte : t ≠ e) (hb : Below W.heap.size W W1) (hrow : W1.ownsRow base e size v k xs)
    (hg : W1.grownBy W2 v.ownBlock) (hat : v'.ownBlock = v.ownBlock ∨ v'.ownBlock = some W1.heap.size) (hlt : ∀ g, v'.ownBlock = some g → g < W2.heap.size) : KZ BO W (W2.setCell ⟨BO, 0, none⟩ v') := by
  have hv1 : Boxed W1 BO t v := (hb.block _ hv.lt).trans hv
  have hv2 : Boxed W2 BO t v := hv1.kept hg (hv1.not_row hte hrow)
  refine ⟨by have := hb.size; have := hg.size; simp; omega, fun i o hB hp hi _ => ?_, ?_⟩
  · have h1 := (hb.block i (Array.getElem?_eq_some_iff.1 hi).1).trans hi
    have h2 := (hg.block i (Array.getElem?_eq_some_iff.1 h1).1 (fun e => hp (by rw [pt_box hv, ← e]))).trans h1
    exact (Below.heap_setCell W2 ⟨BO, 0, none⟩ v' i (fun e => hB (by rw [e]))).trans h2
  · rw [pt_box (hv2.set v'), pt_box hv]
    rcases hat with e | e
    · exact .inl e
    · exact .inr ⟨_, e, hb.size, by have := hlt _ e; simpa using this⟩
theorem KeepsFrom.appended {W W1 W2 : World} {B BO base k : Nat} {e : TypeId} {size : Nat} {v v' : Value} {xs : List Value} (hb : Below W.heap.size W W1) (hrow : W1.ownsRow base e size v k xs) (hg : W1.grownBy W2 v.ownBlock) : KeepsFrom B W (W2.setCell ⟨BO, 0, none⟩ v') := by
  refine (keeps_below hb).trans (((KeepsOthers.of_grownBy hg fun j o ej hj => ?_).trans (KeepsOthers.setCell _ _ _)).from _)
  rcases hrow.2 with ⟨rfl, _⟩ | ⟨g, cap, cur, rfl, _, hgb, _⟩
  · simp [Value.ownBlock] at ej
  · obtain rfl : g = j := by simpa [Value.ownBlock] using ej
    rw [hgb] at hj; cases hj; rfl

theorem meet_rdT (A : Option Addr) (n c : Nat) (vs : List (List Vc.St)) (w : World) (hT : Tab w) (hR : RdL w w.heap.size A n c vs) (hn : 0 < n) :
    Calls Tryd.prog 51 #[.slice A n c] w fun e w' => StOut w w' e (vec (mt vs)) :=
  (meet_ne A n c vs w hT hR hn).mono fun _ _ ⟨A', c', he, ho, hb⟩ => ⟨A', c', he, ho, hb⟩

/-- An append under a fence. -/
theorem wpListIn_append_rz {P : Program} {w : World} {F : Fence} {nF : Nat} {ops : Array Oper} {rest : List Oper} {o : Oper} {a : Act} {Q : Exit → Act → World → Prop} (hgd : o.guard = none) (s x : Operand) (t : TypeId)
    (ho : o.op = .call { callee := .builtin .append, args := #[s, x], argTypes := #[t, t] })
    (base : Nat) (e : TypeId) (i : TypeInfo) (z : Value) (size bytes : Nat) (ht : P.underlying t = some (.slice e)) (hi : P.info? e = some i) (hz : i.zero = some z)
    (hsize : i.size = size) (hby : i.bytes = bytes) (hzs : z.cells.size = size) (hsz : 0 < size)
    (v : Value) (n : Nat) (xs : List Value) (hs : a.eval s = v) (hown : w.ownsRow base e size v n xs)
    (B : Nat) (A : Option Addr) (m c : Nat) (news : List Value) (hx : a.eval x = .slice A m c) (hr : Rd w B size A m c news) (h1 : ∀ u ∈ news, u.oneCell' = true)
    (h63 : n + m ≤ maxLen) (hbytes : (n + m) * bytes ≤ 140737488355328) (hbase : base ≤ w.heap.size)
    (h : ∀ A' c' w', w'.ownsRow base e size (.slice A' (n + m) c') (n + m) (xs ++ news) → w.grownBy w' v.ownBlock → ((Value.slice A' (n + m) c').ownBlock = v.ownBlock ∨ (Value.slice A' (n + m) c').ownBlock = some w.heap.size) → wpListIn F nF P ops Q rest (a.put o.dst (.slice A' (n + m) c')) w') : wpListIn F nF P ops Q (o :: rest) a w := by
  refine wpListIn_plain hgd fun K hK' => ?_
  obtain ⟨A', c', w', hrun, r1, r2, r3⟩ := run_append_rd (P := P) w base t o.type e i z size bytes ht hi hz hsize hby hzs hsz v n xs hown B A m c news hr h1 h63 hbytes hbase
  unfold Oper.wpIn
  refine ⟨?_, ?_⟩
  · simp [Oper.about, ho, resolve, Target.leads, Sem.run_pure]
  · rw [Oper.semAt_plain F _ _ (by rw [ho]; intro c hc'; cases hc')]
    simp [execOp, ho, resolve, invoke, builtin, hs, hx, hrun, Result.andThen]
    exact hK' _ _ (h A' c' w' r1 r2 r3)
/-- The pieces that touch an interest. -/
def selZ (i : List Sn.Sp) (l : List (ZV × Zn)) : List (ZV × Zn) := l.filter fun x => decide (Sn.meetL i [x.2.1] ≠ [])
theorem selZ_snoc (i : List Sn.Sp) (l : List (ZV × Zn)) (x : ZV × Zn) : selZ i (l ++ [x]) = if Sn.meetL i [x.2.1] ≠ [] then selZ i l ++ [x] else selZ i l := by
  unfold selZ
  rw [List.filter_append]
  by_cases h : Sn.meetL i [x.2.1] ≠ []
  · rw [if_pos h]; simp [h]
  · rw [if_neg h]
    simp at h
    simp [h]
theorem selZ_le (i : List Sn.Sp) (l : List (ZV × Zn)) : (selZ i l).length ≤ l.length := List.length_filter_le _ _
def lsv (l : List (ZV × Zn)) : List Value := l.map fun x => .slice x.1.A x.1.n x.1.c
theorem lsv_snoc (l : List (ZV × Zn)) (x : ZV × Zn) : lsv (l ++ [x]) = lsv l ++ [.slice x.1.A x.1.n x.1.c] := by simp [lsv]
theorem selZ_since (z : List Zn) (known : List Vc.St) (i : List Sn.Sp) {ys : List (ZV × Zn)} (h : zns ys = pcs known 0 z) : (selZ i ys).map (fun x => x.2.2) = sinceA z known i := by
  unfold sinceA selZ
  rw [← h]
  unfold zns
  rw [List.filter_map, List.map_map]
  rfl
def sinceF (z : List Zn) (known : List Vc.St) (i : List Sn.Sp) : List Vc.St := if (zF (-1) none z && fm (-1) known) = true then sinceZ z known i else []
/-- The rows in hand read as a list of lists. -/
theorem rdL_of {w0 W : World} {base k c : Nat} {A : Option Addr} {l : List (ZV × Zn)} (ho : W.ownsRow base 23 1 (.slice A k c) k (lsv l)) (hk : l.length = k) (hb : Below w0.heap.size w0 W) (hT : ∀ x ∈ l, EvT w0 x) : RdL W W.heap.size A k c (l.map fun x => x.2.2) := by
  have hR := Rd.of_own ho
  refine ⟨by rw [List.length_map]; exact hk, hR.cap, hR.max, hR.nil, fun i hi => ?_⟩
  rw [List.length_map] at hi
  obtain ⟨b, o, hA, hb', hcell⟩ := hR.plain (by omega) (by decide)
  have ht := hT _ (List.getElem_mem hi)
  refine ⟨b, o, (l[i]).1.A, (l[i]).1.n, (l[i]).1.c, hA, hb', hcell i _ ?_, by rw [List.getElem_map]; exact ht.len, by rw [List.getElem_map]; exact ht.rd.go hb⟩
  unfold lsv
  rw [List.getElem?_map, List.getElem?_eq_getElem hi]; rfl

theorem stampsT_info : (Tryd.prog.info? 23).map (fun i => (i.zero, i.size, i.bytes)) = some (some (.slice none 0 0), 1, 24) := by kernel_rfl

set_option maxHeartbeats 8000000 in
theorem zonesSince_any (A D E : Option Addr) (n c m d q s : Nat) (L : List (ZV × Zn)) (u0 : List Vc.St) (sp : List Sn.Sp) (w : World) (hT : Tab w) (hR : RdZ w w.heap.size A n c L) (hl : u0.length = m) (hR2 : Rd w w.heap.size 2 D m d (sv u0))
    (hl3 : sp.length = q) (hR3 : Rd w w.heap.size 2 E q s (sv sp)) (hq : q ≤ 8796093022208) :
    Calls Tryd.prog 22 #[.slice A n c, .slice D m d, .slice E q s] w fun e w' => StOut w w' e (sinceF (zns L) u0 sp) := by
  have hbA : Below w.heap.size w (w.alloc (.cells #[.slice E q s] 24)) := (Below.refl _ w).alloc (Nat.le_refl _) _
  have bE := Boxed.new w 24 (.slice E q s)
  have G := zonesFormed_any A n c L _ (hR.go hbA)
  obtain ⟨W0, hW0⟩ : ∃ W0, W0 = w.alloc (.cells #[.slice E q s] 24) := ⟨_, rfl⟩
  have hs0 : W0.heap.size = w.heap.size + 1 := by rw [hW0]; simp
  rw [← hW0] at hbA bE G
  have HW := Lib.hid hW0.symm
  have F := fun (V : World) (hb : Below W0.heap.size W0 V) => formed_any D m d u0 V hl ((hR2.go hbA).go hb)
  have HB0 := Lib.hid hbA
  rcases hf : zF (-1) none (zns L) with _ | _
  · have HN := Lib.hid (show sinceF (zns L) u0 sp = [] by unfold sinceF; rw [hf]; rfl)
    rw [hf] at G
    have G := Lib.hid G
    clear hf hR hR2 hl F hW0 hbA bE hR3 hl3 hT
    refine (callsIn_wide (n := 3)).1 ?_
    refine callsIn_of_wp_marks Tryd.func22 rfl trivial ?_ rfl
    simp only [Tryd.ntmps22, List.size_toArray, List.length_cons, List.length_nil, Nat.reduceAdd, Nat.reduceSub, Array.replicate_succ, Array.replicate_zero, List.push_toArray, List.append_toArray, List.nil_append, List.cons_append]
    gi_wp2_with fail
    rw [HW.out]
    refine ⟨trivial, ?_⟩
    refine (callsIn_wide.2 G.out).mono ?_
    rintro e w1 ⟨rfl, hb1⟩
    gi_wp2
    refine ⟨trivial, ?_⟩
    gi_wp2
    refine ⟨_, results_tmp rfl _ _ _, ?_⟩
    rw [HN.out]
    exact StOut.nil (below_then HB0.out (Nat.le_refl _) hb1)
  · rcases hf2 : fm (-1) u0 with _ | _
    · have HN := Lib.hid (show sinceF (zns L) u0 sp = [] by unfold sinceF; rw [hf2]; simp)
      rw [hf] at G
      rw [hf2] at F
      have G := Lib.hid G
      have F := Lib.hid F
      clear hf hf2 hR hR2 hl hW0 hbA bE hR3 hl3 hT
      refine (callsIn_wide (n := 3)).1 ?_
      refine callsIn_of_wp_marks Tryd.func22 rfl trivial ?_ rfl
      simp only [Tryd.ntmps22, List.size_toArray, List.length_cons, List.length_nil, Nat.reduceAdd, Nat.reduceSub, Array.replicate_succ, Array.replicate_zero, List.push_toArray, List.append_toArray, List.nil_append, List.cons_append]
      gi_wp2_with fail
      rw [HW.out]
      refine ⟨trivial, ?_⟩
      refine (callsIn_wide.2 G.out).mono ?_
      rintro e w1 ⟨rfl, hb1⟩
      gi_wp2_with fail
      refine ⟨trivial, ?_⟩
      refine (callsIn_wide.2 (F.out _ hb1)).mono ?_
      rintro e w2 ⟨rfl, hb2⟩
      gi_wp2
      refine ⟨_, results_tmp rfl _ _ _, ?_⟩
      rw [HN.out]
      exact StOut.nil (below_then HB0.out (Nat.le_refl _) (below_then hb1 (Nat.le_refl _) hb2))
    · have HN := Lib.hid (show sinceF (zns L) u0 sp = sinceZ (zns L) u0 sp by unfold sinceF; rw [hf, hf2]; rfl)
      have hm64 : m ≤ 64 := by rw [← hl]; exact stl_len hf2
      obtain ⟨i0, hi0, hz0, hz1, hz2⟩ := info_parts stampsT_info
      have h1max : 1 ≤ maxLen := by unfold maxLen; omega
      rw [hf] at G
      rw [hf2] at F
      have G := Lib.hid G
      have F := Lib.hid F
      have HR := Lib.hid (hR.go hbA)
      have HR2 := Lib.hid (hR2.go hbA)
      have HR3 := Lib.hid (hR3.go hbA)
      have HT := Lib.hid (hT.below hbA)
      have HL2 := Lib.hid hl
      have HL3 := Lib.hid hl3
      have HF := Lib.hid hf
      have HF2 := Lib.hid hf2
      have HBE := Lib.hid bE
      have HS0 := Lib.hid hs0
      clear hf hf2 hR hR2 hl hW0 hbA bE hR3 hl3 hT hs0
      refine (callsIn_wide (n := 3)).1 ?_
      refine callsIn_of_wp_marks Tryd.func22 rfl trivial ?_ rfl
      simp only [Tryd.ntmps22, List.size_toArray, List.length_cons, List.length_nil, Nat.reduceAdd, Nat.reduceSub, Array.replicate_succ, Array.replicate_zero, List.push_toArray, List.append_toArray, List.nil_append, List.cons_append]
      gi_wp2_with fail
      rw [HW.out]
      refine ⟨trivial, ?_⟩
      refine (callsIn_wide.2 G.out).mono ?_
      rintro e w1 ⟨rfl, hb1⟩
      gi_wp2_with fail
      refine ⟨trivial, ?_⟩
      refine (callsIn_wide.2 (F.out _ hb1)).mono ?_
      rintro e w2 ⟨rfl, hb2⟩
      have hb02 := below_then hb1 (Nat.le_refl _) hb2
      have HB02 := Lib.hid hb02
      have hs2 := hb02.size
      clear G F hb1 hb2 hb02
      gi_wp2_with fail
      refine ⟨trivial, ?_⟩
      refine (callsIn_wide.2 (pieces_any A D n c m d _)).mono ?_
      rintro e w3 ⟨rfl, rfl⟩
      have bO := Boxed.new w2 48 (.slice none 0 0)
      have e1 := (Blk.new (w2.alloc (.cells #[.slice none 0 0] 48)) 22 #[.slice A n c]).alloc (.cells #[.slice D m d] 23)
      have e2 := Blk.new ((w2.alloc (.cells #[.slice none 0 0] 48)).alloc (.cells #[.slice A n c] 22)) 23 #[.slice D m d]
      have hb23 : Below w2.heap.size w2 (((w2.alloc (.cells #[.slice none 0 0] 48)).alloc (.cells #[.slice A n c] 22)).alloc (.cells #[.slice D m d] 23)) := (((Below.refl _ _).alloc (Nat.le_refl _) _).alloc (by simp) _).alloc (by simp; omega) _
      have bO3 := (bO.alloc (.cells #[.slice A n c] 22)).alloc (.cells #[.slice D m d] 23)
      simp only [World.size_alloc] at e1 e2
      obtain ⟨W3, hW3⟩ : ∃ W3, W3 = ((w2.alloc (.cells #[.slice none 0 0] 48)).alloc (.cells #[.slice A n c] 22)).alloc (.cells #[.slice D m d] 23) := ⟨_, rfl⟩
      have hs3 : W3.heap.size = w2.heap.size + 1 + 1 + 1 := by rw [hW3]; simp
      rw [← hW3] at e1 e2 hb23 bO3 ⊢
      have hR2' := HR.out.go HB02.out
      have hT0 : ∀ s, EvT w2 (⟨D, m, d⟩, s, u0) := fun _ => ⟨HL2.out, HR2.out.go HB02.out, HF2.out⟩
      have hGood : GoodZ w2 w2.heap.size (w2.heap.size + 1) (w2.heap.size + 1 + 1) A n c D m d W3 := ⟨Olds.of_below hb23, e1, e2, by omega, Nat.le_refl _, by omega, by omega, fun g hg => by rw [pt_box bO3] at hg; cases hg⟩
      have HTold := Lib.hid (pieces_told (3 - 1) (by omega) w2.heap.size (w2.heap.size + 1) (w2.heap.size + 1 + 1) A D n c m d L u0 w2 hR2' HF.out hT0 W3 hGood)
      have HB3 := Lib.hid hb23
      have HO3 := Lib.hid bO3
      have HS3 := Lib.hid hs3
      clear hW3 e1 e2 hb23 bO3 hR2' hT0 hGood bO
      gi_wp2
      refine wpIn_rangeFunc_told rfl (by omega) (gf := 63) (lb := #[.pointer (some ⟨w2.heap.size + 1, 0, none⟩), .pointer (some ⟨w2.heap.size + 1 + 1, 0, none⟩)]) rfl trivial (enters_of Tryd.func63 (by kernel_rfl) rfl)
        HTold.out KZ.trans (fun W l o o' hl h ho _ => KZ.putObj (by omega) h ho) (Below.refl _ _) (fun _ => rfl)
        (fun pre W => (∃ v, Boxed W w2.heap.size 48 v ∧ W.ownsRow w2.heap.size 23 1 v (selZ sp pre).length (lsv (selZ sp pre)) ∧ ∀ x ∈ pre, EvT w2 x) ∧ Below w2.heap.size w2 W)
        (fun _ _ _ => False)
        (OwnFrom.and (Own.from (holdsRow_own w2.heap.size w2.heap.size 48 23 1 (fun pre => (selZ sp pre).length) (fun pre => lsv (selZ sp pre)) (fun pre _ => ∀ x ∈ pre, EvT w2 x)) _) (ownFrom_below (Nat.le_refl _) (by omega)))
        (fun _ _ _ _ _ hs _ _ => hs)
        ⟨⟨_, HO3.out, World.ownsRow_nil _ _ _ _, fun x hx => by cases hx⟩, HB3.out⟩
        (fun x a₁ V => ∃ G, Blk V G 55 #[.int .i64 x.2.1.1, .int .i64 x.2.1.2, .slice x.1.A x.1.n x.1.c] ∧ w2.heap.size < G ∧ EvT w2 x ∧ a₁ = { tmps := #[.slice A n c, .slice D m d, .slice E q s, undef, undef, .pointer (some ⟨w.heap.size, 0, none⟩), .slice none 0 0, .pointer (some ⟨w2.heap.size, 0, none⟩), .pointer (some ⟨G, 0, none⟩), .slice A n c, .bool true, .bool false, .bool false, .slice D m d, .bool true, .bool false, .bool false, .slice A n c, .slice D m d, .func (.func 63) #[] #[.pointer (some ⟨w2.heap.size + 1, 0, none⟩), .pointer (some ⟨w2.heap.size + 1 + 1, 0, none⟩)], .agg #[.int .i64 x.2.1.1, .int .i64 x.2.1.2, .slice x.1.A x.1.n x.1.c], undef, undef, undef, undef, undef, undef, undef, undef, undef, undef, undef, undef, undef, undef, undef, undef, undef], defers := [] }) (fun a₁ x X Y row hs hg hr => by
          obtain ⟨G, h1, h2, h3, h4⟩ := hs
          exact ⟨G, h1.kept_ hg (fun r e => (hr r e).2), h2, h3, h4⟩) ?assign ?body ?done ?stop
      case assign =>
        rintro lp pre x W K ⟨⟨v, hv, hrow, hall⟩, hB⟩ hX hK
        obtain ⟨⟨Av, nv, cv⟩, ⟨lo, hi⟩, u⟩ := x
        dsimp only [evZ]
        gi_wp2
        have hbA : Below W.heap.size W (W.alloc (.cells #[.int .i64 lo, .int .i64 hi, .slice Av nv cv] 55)) := (Below.refl _ _).alloc (Nat.le_refl _) _
        exact hK _ _ (keeps_below hbA) (KZ.of_below hv.lt hbA) ⟨⟨v, hv.alloc _, hrow.alloc _, hall⟩, hB.alloc hB.size _⟩ ⟨W.heap.size, Blk.new W _ _, hv.lt, hX, rfl⟩
      case body =>
        rintro lp pre x a₁ W hlp ⟨⟨v, hv, hrow, hall⟩, hB⟩ ⟨G, hX, hGl, hEv, rfl⟩ hlt
        obtain ⟨⟨Av, nv, cv⟩, ⟨lo, hi⟩, u⟩ := x
        have hE : Boxed W w.heap.size 24 (.slice E q s) := (hB.block _ (by have := HS0.out; omega)).trans ((HB02.out.block _ (by have := HS0.out; omega)).trans HBE.out)
        have c0 := hE.cell
        obtain ⟨x0, x1, x2⟩ := hX.three
        have hbA : Below W.heap.size W (W.alloc (.cells #[.int .i64 lo, .int .i64 hi] 53)) := (Below.refl _ _).alloc (Nat.le_refl _) _
        have hRS := Rd.new W 53 2 1 #[.int .i64 lo, .int .i64 hi] rfl h1max
        have TC := touch_any E q s sp (some ⟨W.heap.size, 0, none⟩) 1 1 [(lo, hi)] (W.alloc (.cells #[.int .i64 lo, .int .i64 hi] 53)) HL3.out ((HR3.out.go (below_then HB02.out (Nat.le_refl _) hB)).go hbA) hq rfl (by rw [World.size_alloc]; exact hRS) (by omega)
        rw [Sn.tch_meet] at TC
        have hsn := selZ_snoc sp pre (⟨Av, nv, cv⟩, (lo, hi), u)
        dsimp only at hsn
        have hle := selZ_le sp pre
        generalize hk : (selZ sp pre).length = k at hrow hle
        have HK := Lib.hid hk
        have HX := Lib.hid hX
        have HBA := Lib.hid hbA
        have HV := Lib.hid hv
        have HROW := Lib.hid hrow
        have HALL := Lib.hid (show ∀ y ∈ pre ++ [((⟨Av, nv, cv⟩ : ZV), (lo, hi), u)], EvT w2 y from fun y hy => by
          rcases List.mem_append.1 hy with hy | hy
          · exact hall y hy
          · rw [List.mem_singleton] at hy; subst hy; exact hEv)
        have HBW := Lib.hid hB
        clear hE hbA hRS hX hall hEv hrow hv hB hk
        by_cases hm : Sn.meetL sp [(lo, hi)] ≠ []
        · rw [if_pos hm] at hsn
          rw [decide_eq_true hm] at TC
          have TC := Lib.hid TC
          have HSN := Lib.hid hsn
          clear hm hsn
          gi_wp2_with fail
          refine ⟨trivial, ?_⟩
          refine (callsIn_wide.2 TC.out).mono ?_
          rintro e w4 ⟨rfl, hb4⟩
          have hb4 := below_then HBA.out (Nat.le_refl _) hb4
          obtain ⟨x0, x1, x2⟩ := (HX.out.go hb4).three
          have hv4 : Boxed w4 w2.heap.size 48 v := (hb4.block _ HV.out.lt).trans HV.out
          have c1 := hv4.cell
          have HB4 := Lib.hid hb4
          have hs4 := hb4.size
          have h63 : k + 1 ≤ maxLen := by unfold maxLen; omega
          have hRow4 := own_below HROW.out hb4 (Nat.le_refl _)
          obtain ⟨A0, c0', rfl, _⟩ := own_form hRow4
          have HRN := Lib.hid (Rd.new w4 23 1 1 #[.slice Av nv cv] rfl h1max)
          have HR4 := Lib.hid hRow4
          have HV4 := Lib.hid (show Boxed (w4.alloc (.cells #[.slice Av nv cv] 23)) w2.heap.size 48 (.slice A0 k c0') from hv4.alloc _)
          have HNR := Lib.hid (HV4.out.not_row (show (48 : TypeId) ≠ 23 by decide) (hRow4.alloc (.cells #[.slice Av nv cv] 23)))
          have hbsz := HBW.out.size
          clear hb4 TC hRow4 hv4
          gi_wp2_with (gi_at_builtin; go_must (refine wpListIn_append_rz rfl (.tmp 26) (.tmp 29) _ rfl w2.heap.size 23 i0 _ 1 24 Tryd.underlying48 hi0 hz0 hz1 hz2 rfl (by decide) (.slice A0 k c0') k _ rfl (HR4.out.alloc _) _ (some ⟨_, 0, none⟩) 1 1 [.slice Av nv cv] rfl HRN.out (by intro u hu; simp at hu; subst hu; rfl) h63 (by omega) (by simp; omega) ?_); intro A5 c5 w5 ho5 hg5 hat5; have hv5 : Boxed w5 w2.heap.size 48 (.slice A0 k c0') := HV4.out.kept hg5 HNR.out; have c5' := hv5.cell; have f5 := hv5.frozen)
          have hbA4 : Below W.heap.size W (w4.alloc (.cells #[.slice Av nv cv] 23)) := HB4.out.alloc hs4 _
          have ho6 : (w5.setCell ⟨w2.heap.size, 0, none⟩ (.slice A5 (k + 1) c5)).ownsRow w2.heap.size 23 1 (.slice A5 (k + 1) c5) (k + 1) (lsv (selZ sp pre) ++ [.slice Av nv cv]) := ho5.kept (grownBy_setCell' w5 w2.heap.size _) (.inr (hv5.not_row (by decide) ho5).symm)
          refine ⟨KeepsFrom.appended hbA4 (HR4.out.alloc _) hg5, KZ.appended HV.out (by decide) hbA4 (HR4.out.alloc _) hg5 hat5 (fun g hg => (ho5.lt g hg).2), ⟨_, hv5.set _, ?_, HALL.out⟩, ?_⟩
          · show World.ownsRow _ _ _ _ _ _ _
            rw [HSN.out, lsv_snoc, List.length_append, List.length_singleton, HK.out]
            exact ho6
          · exact (HBW.out.trans (hbA4.mono hbsz)).trans ((grown_below hg5 (by simp; omega) (fun j hj => own_lt HR4.out j hj)).setCell (p := ⟨w2.heap.size, 0, none⟩) (Nat.le_refl _) _)
        · rw [if_neg hm] at hsn
          rw [decide_eq_false hm] at TC
          have TC := Lib.hid TC
          have HSN := Lib.hid hsn
          clear hm hsn
          gi_wp2_with fail
          refine ⟨trivial, ?_⟩
          refine (callsIn_wide.2 TC.out).mono ?_
          rintro e w4 ⟨rfl, hb4⟩
          have hb4 := below_then HBA.out (Nat.le_refl _) hb4
          clear x0 x1 x2 c0 TC
          gi_wp2
          refine ⟨keeps_below hb4, KZ.of_below HV.out.lt hb4, ⟨v, (hb4.block _ HV.out.lt).trans HV.out, ?_, HALL.out⟩, below_then HBW.out (Nat.le_refl _) hb4⟩
          show World.ownsRow _ _ _ _ _ _ _
          rw [HSN.out, HK.out]
          exact own_below HROW.out hb4 (Nat.le_refl _)
      case done =>
        rintro E' ys W hD hys ⟨⟨v, hv, hrow, hall⟩, hB⟩ hK
        have hsel := selZ_since (zns L) u0 sp hys
        have hsi := since_is HF.out u0 sp
        rw [← hsel] at hsi
        have c1 := hv.cell
        have hall' : ∀ x ∈ selZ sp ys, EvT w2 x := fun x hx => hall x (List.mem_filter.1 hx).1
        generalize selZ sp ys = S at hsel hsi hrow hall'
        generalize hk : S.length = k at hrow
        obtain ⟨A0, c0, rfl, hnil⟩ := own_form hrow
        have hRL := rdL_of hrow hk hB hall'
        have HB := Lib.hid (below_then HB0.out (Nat.le_refl _) (below_then HB02.out (Nat.le_refl _) hB))
        have hW : Below w2.heap.size w2 W := hB
        clear hall hall' hsel hys hv hB
        by_cases hk0 : k = 0
        · have hS : S = [] := List.eq_nil_of_length_eq_zero (by omega)
          have HX := Lib.hid (show sinceF (zns L) u0 sp = u0 by rw [HN.out, ← hsi, hS]; rfl)
          have C := Lib.hid (cloneSt_any D m d (sv u0) W ((HR2.out.go HB02.out).go hW) (sv_oneCell _) (by omega))
          subst hk0
          clear hS hsi hk hrow hRL hW
          gi_wp2_with fail
          refine ⟨trivial, ?_⟩
          refine (callsIn_wide.2 C.out).mono ?_
          rintro e w4 ⟨A4, c4, rfl, ho4, hb4⟩
          have hK4 := (hb4.block _ (Array.getElem?_eq_some_iff.1 hK).1).trans hK
          gi_wp2
          refine ⟨by simp, .inl ⟨_, _, rfl, run_takeDeferred hK4, ?_⟩⟩
          refine ⟨_, results_tmp rfl _ _ _, ?_⟩
          rw [HX.out]
          exact ⟨A4, c4, by rw [HL2.out] <;> rfl, by rw [HL2.out]; exact ownsRow_putObj (own_less ho4 HB.out.size) _ hK4 rfl, (below_then HB.out (Nat.le_refl _) hb4).trans (belowK_b (w := w) (Nat.le_refl _) _ E' _ _ (by have := HS0.out; have := HB02.out.size; omega) hK4 rfl rfl)⟩
        · have hS : S.map (fun x => x.2.2) ≠ [] := by
            intro e
            have := congrArg List.length e
            rw [List.length_map, hk] at this
            exact hk0 this
          have HX := Lib.hid (show sinceF (zns L) u0 sp = vec (mt (S.map fun x => x.2.2)) by rw [HN.out, ← hsi, if_neg hS])
          have C := Lib.hid (meet_rdT A0 k c0 _ W ((HT.out.below HB02.out).below hW) hRL (by omega))
          clear hS hsi hk hrow hRL hW
          gi_wp2_with fail
          refine ⟨trivial, ?_⟩
          refine (callsIn_wide.2 C.out).mono ?_
          rintro e w4 hout
          rw [← HX.out] at hout
          obtain ⟨A4, c4, rfl, ho4, hb4⟩ := hout
          have hK4 := (hb4.block _ (Array.getElem?_eq_some_iff.1 hK).1).trans hK
          gi_wp2
          refine ⟨by simp, .inl ⟨_, _, rfl, run_takeDeferred hK4, ?_⟩⟩
          exact ⟨_, results_tmp rfl _ _ _, A4, c4, rfl, ownsRow_putObj (own_less ho4 HB.out.size) _ hK4 rfl, (below_then HB.out (Nat.le_refl _) hb4).trans (belowK_b (w := w) (Nat.le_refl _) _ E' _ _ (by have := HS0.out; have := HB02.out.size; omega) hK4 rfl rfl)⟩
      case stop =>
        rintro E' c' pre W _ _ h _
        exact h.elim
end Go.Proofs.YticnfjfdeagmaaaDoor
