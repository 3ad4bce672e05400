/- Walks over slices.Clone at stamps, Fits, News, and the document's Same of notes. -/
import Derived.Test.YtepdcbhapjgijaaDoorNtA
import Derived.Test.YtepdcbhapjgijaaDoorReg
namespace Go.Proofs.YtepdcbhapjgijaaDoor
open Go.RowKit
set_option maxRecDepth 100000

theorem writes_info : (Tryd.prog.info? 69).map (fun i => (i.zero, i.size, i.bytes)) = some (some (.agg #[.int .i64 0, .int .i64 0, .int .i64 0, .bool false]), 4, 32) := by kernel_rfl

/-- A store of a whole value into its block, at the level of one operation. -/
theorem wp_store_blk {P : Program} {op : Oper} {a : Act} {w : World} {K : Act → World → Prop} {Q : Exit → Act → World → Prop} (ty : TypeId) (x y : Operand) (ho : op.op = .store ty x y)
    (g : Nat) (t : TypeId) (old cells : Array Value) (hx : a.eval x = .pointer (some ⟨g, 0, none⟩)) (hy : a.eval y = .agg cells) (hg : Blk w g t old)
    (hi : (P.info? ty).map (·.size) = some cells.size) (hs : old.size = cells.size) (h1 : cells.all (·.oneCell') = true)
    (h : ∀ w', Blk w' g t cells → w.grownBy w' (some g) → K (a.put op.dst undef) w') : op.wp P a w K Q := by
  unfold Oper.wp execOp
  simp only [ho, hx, hy, Instr.storeAt, Instr.sureAddr, Sem.run_bind, Sem.run_pure, Result.andThen_ok, run_storeVar_row w g t ty old cells hg hi hs h1]
  exact h _ (setRow_heap w g old _ t _ hg) ⟨rfl, rfl, rfl, by simp, fun k _ hk => setRow_other w g k _ (fun e => hk (by rw [e]))⟩

/-- Rows of different elements lie apart. -/
theorem own_two {w : World} {b1 b2 : Nat} {e1 e2 : TypeId} {s1 s2 n1 n2 : Nat} {v1 v2 : Value} {xs1 xs2 : List Value} (h1 : w.ownsRow b1 e1 s1 v1 n1 xs1) (h2 : w.ownsRow b2 e2 s2 v2 n2 xs2) (he : e1 ≠ e2) : v1.ownBlock = none ∨ v1.ownBlock ≠ v2.ownBlock := by
  rcases h1.2 with ⟨rfl, _⟩ | ⟨g, cap, cur, rfl, _, hh, _⟩
  · exact .inl rfl
  · refine .inr ?_
    rcases h2.2 with ⟨rfl, _⟩ | ⟨g', cap', cur', rfl, _, hh', _⟩
    · exact fun h => by cases h
    · intro h
      obtain rfl : g = g' := by simpa [Value.ownBlock] using h
      rw [hh] at hh'
      injection hh' with hh'
      injection hh' with _ h2
      exact he h2
/-- A row of the call's own lies behind what was there. -/
theorem own_ne {w : World} {base g : Nat} {e : TypeId} {size n : Nat} {v : Value} {xs : List Value} (h : w.ownsRow base e size v n xs) (hg : g < base) : v.ownBlock = none ∨ v.ownBlock ≠ some g := by
  refine .inr fun e => ?_
  have := (h.lt g e).1
  omega
theorem then_alloc {B : Nat} {a W : World} (_ : Below B a W) (o : Obj) : Below W.heap.size W (W.alloc o) := (Below.refl _ _).alloc (Nat.le_refl _) _
theorem emptyOf {W : World} {t : TypeId} (_ : Below W.heap.size W (W.alloc (.cells #[] t))) (size : Nat) : (W.alloc (.cells #[] t)).ownsRow W.heap.size t size (.slice (some ⟨W.heap.size, 0, none⟩) 0 0) 0 [] := own_empty W t size
/-- What a slice holds now. -/
def At (w : World) (size : Nat) (A : Option Addr) (n c : Nat) (xs : List Value) : Prop := Rd w w.heap.size size A n c xs
theorem At.go {w w' : World} {size n c : Nat} {A : Option Addr} {xs : List Value} (h : At w size A n c xs) (hb : Below w.heap.size w w') : At w' size A n c xs := Rd.go h hb

/-- slices.Clone: a row of the call's own with the same stamps. -/
theorem cloneSt_any (A : Option Addr) (n c : Nat) (xs : List Value) (w : World) (hR : Rd w w.heap.size 2 A n c xs) (h1 : ∀ u ∈ xs, u.oneCell' = true) (hn : n ≤ 8796093022208) :
    Calls Tryd.prog 25 #[.slice A n c] w fun e w' => ∃ A' c', e = .returned (.slice A' n c') ∧ w'.ownsRow w.heap.size 47 2 (.slice A' n c') n xs ∧ Below w.heap.size w w' := by
  have hmax := hR.max
  have hcap := hR.cap
  rcases A with _ | ad
  · have hc0 := hR.nil rfl
    obtain rfl : n = 0 := by omega
    subst hc0
    have hx : xs = [] := List.eq_nil_of_length_eq_zero (by simpa using hR.len)
    subst hx
    have ht := fun W => Lib.run_eql_slice_nil (P := Tryd.prog) W 22 47 none 0 0 0 0 Tryd.underlying22
    clear hR h1
    go_enter Tryd.func25, Tryd.ntmps25
    go_wp2
    go_ret
    exact ⟨none, 0, rfl, World.ownsRow_nil _ _ _ _, Below.refl _ _⟩
  · have ht := fun W => Lib.run_eql_slice_nil (P := Tryd.prog) W 22 47 (some ad) n c 0 0 Tryd.underlying22
    obtain ⟨i0, hi0, hz0, hz1, hz2⟩ := info_parts stamp_info
    have h63 : 0 + n ≤ maxLen := by omega
    go_enter Tryd.func25, Tryd.ntmps25
    go_wp2_with (at_builtin; go_must (refine wpList_append_rd _ rfl (.tmp 5) (.tmp 6) _ rfl w.heap.size 47 i0 _ 2 16 Tryd.underlying22 hi0 hz0 hz1 hz2 rfl (by decide) (.slice (some ⟨w.heap.size, 0, none⟩) 0 0) 0 [] rfl (own_empty w _ _) w.heap.size (some ad) n c xs rfl (hR.alloc (Nat.le_refl _) _) h1 h63 (by omega) (by simp) ?_); intro A' c' w1 hown hg hat)
    go_ret
    exact ⟨A', c', rfl, by simpa using hown, ((Below.refl _ _).alloc (Nat.le_refl _) _).trans (grown_below hg (by simp) (by simp [Value.ownBlock]))⟩

def ntFits (x : Nt) (known : List Vc.St) : Bool := covB (Vc.cnt known) (Vc.cnt x.s)
def ntNews (x : Nt) (known : List Vc.St) : Bool := !covB (Vc.cnt known) (Vc.cnt x.e)

set_option maxHeartbeats 1000000 in
theorem fits_any (v : NV) (x : Nt) (A : Option Addr) (n c : Nat) (u : List Vc.St) (w : World) (hT : Tab w) (hN : NtRd w w.heap.size v x) (hl : u.length = n) (hR : Rd w w.heap.size 2 A n c (sv u)) :
    Calls Tryd.prog 22 #[.agg v.val, .slice A n c] w fun e w' => e = .returned (.bool (ntFits x u)) ∧ Below w.heap.size w w' := by
  obtain ⟨A1, n1, c1, A2, n2, c2, A3, n3, c3, A4, n4, c4⟩ := v
  have hb0 : Below w.heap.size w (w.alloc (.cells #[.slice A1 n1 c1, .slice A2 n2 c2, .slice A3 n3 c3, .slice A4 n4 c4] 38)) := (Below.refl _ _).alloc (Nat.le_refl _) _
  have H1 := Lib.hid (covers_any A A1 n c n1 c1 u x.s _ (hT.below hb0) hl hN.l1 (hR.go hb0) (hN.go hb0).r1)
  have HX := Lib.hid (show ntFits x u = covB (Vc.cnt u) (Vc.cnt x.s) from rfl)
  generalize covB (Vc.cnt u) (Vc.cnt x.s) = z at H1 HX
  have HB := Lib.hid hb0
  clear hN hl hR hb0 hT
  go_enter Tryd.func22, Tryd.ntmps22
  go_wp2_with (go_at_call 14; go_must (refine H1.out.mono ?_); rintro e w1 ⟨rfl, hb1⟩)
  go_ret
  exact ⟨by rw [HX.out]; rfl, below_then HB.out (Nat.le_refl _) hb1⟩

set_option maxHeartbeats 1000000 in
theorem news_any (v : NV) (x : Nt) (A : Option Addr) (n c : Nat) (u : List Vc.St) (w : World) (hT : Tab w) (hN : NtRd w w.heap.size v x) (hl : u.length = n) (hR : Rd w w.heap.size 2 A n c (sv u)) :
    Calls Tryd.prog 15 #[.agg v.val, .slice A n c] w fun e w' => e = .returned (.bool (ntNews x u)) ∧ Below w.heap.size w w' := by
  obtain ⟨A1, n1, c1, A2, n2, c2, A3, n3, c3, A4, n4, c4⟩ := v
  have hb0 : Below w.heap.size w (w.alloc (.cells #[.slice A1 n1 c1, .slice A2 n2 c2, .slice A3 n3 c3, .slice A4 n4 c4] 38)) := (Below.refl _ _).alloc (Nat.le_refl _) _
  have H1 := Lib.hid (covers_any A A2 n c n2 c2 u x.e _ (hT.below hb0) hl hN.l2 (hR.go hb0) (hN.go hb0).r2)
  have HX := Lib.hid (show ntNews x u = !covB (Vc.cnt u) (Vc.cnt x.e) from rfl)
  generalize covB (Vc.cnt u) (Vc.cnt x.e) = z at H1 HX
  have HB := Lib.hid hb0
  clear hN hl hR hb0 hT
  go_enter Tryd.func15, Tryd.ntmps15
  go_wp2_with (go_at_call 14; go_must (refine H1.out.mono ?_); rintro e w1 ⟨rfl, hb1⟩)
  go_ret
  exact ⟨by rw [HX.out]; rfl, below_then HB.out (Nat.le_refl _) hb1⟩

theorem dec_dropW {u v : List Wr} {k : Nat} (h1 : k < u.length) (h2 : k < v.length) (h : u[k] = v[k]) : decide (u.drop k = v.drop k) = decide (u.drop (k + 1) = v.drop (k + 1)) := by
  refine decide_eq_decide.2 ?_
  rw [List.drop_eq_getElem_cons h1, List.drop_eq_getElem_cons h2, h]
  exact ⟨fun e => (List.cons.inj e).2, fun e => by rw [e]⟩

def ntSame (x y : Nt) : Bool := decide (x.s = y.s) && (decide (x.e = y.e) && (decide (x.b = y.b) && decide (x.w = y.w)))
theorem ntSame_self (x : Nt) : ntSame x x = true := by simp [ntSame]
theorem ntSame_iff (x y : Nt) : ntSame x y = true ↔ x = y := by
  cases x; cases y; simp [ntSame]

end Go.Proofs.YtepdcbhapjgijaaDoor
