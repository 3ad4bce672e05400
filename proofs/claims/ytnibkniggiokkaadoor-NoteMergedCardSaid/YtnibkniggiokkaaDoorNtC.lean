/- Walks over slices.Clone at stamps, Fits, News, and the document's Same of notes. -/
import Derived.Test.YtnibkniggiokkaaDoorNtA
import Derived.Test.YtnibkniggiokkaaDoorReg
namespace Go.Proofs.YtnibkniggiokkaaDoor
open Go.RowKit
set_option maxRecDepth 100000

theorem writes_info : (Tryd.prog.info? 46).map (fun i => (i.zero, i.size, i.bytes)) = some (some (.agg #[.int .i64 0, .int .i64 0, .int .i64 0, .bool false]), 4, 32) := by kernel_rfl

/-- A store of a whole value into its block, at the level of one operation. -/
theorem wp_store_blk {P : Program} {op : Oper} {a : Act} {w : World} {K : Act → World → Prop} {Q : Exit → Act → World → Prop} (ty : TypeId) (x y : Operand) (ho : op.op = .store ty x y)
    (g : Nat) (t : TypeId) (old cells : Array Value) (hx : a.eval x = .pointer (some ⟨g, 0, none⟩)) (hy : a.eval y = .agg cells) (hg : Blk w g t old)
    (hi : (P.info? ty).map (·.size) = some cells.size) (hs : old.size = cells.size) (h1 : cells.all (·.oneCell') = true)
    (h : ∀ w', Blk w' g t cells → w.grownBy w' (some g) → K (a.put op.dst undef) w') : op.wp P a w K Q := by
  unfold Oper.wp execOp
  simp only [ho, hx, hy, Instr.storeAt, Instr.sureAddr, Sem.run_bind, Sem.run_pure, Result.andThen_ok, run_storeVar_row w g t ty old cells hg hi hs h1]
  exact h _ (setRow_heap w g old _ t _ hg) ⟨rfl, rfl, rfl, by simp, fun k _ hk => setRow_other w g k _ (fun e => hk (by rw [e]))⟩

/-- Rows of different elements lie apart. -/
theorem own_two {w : World} {b1 b2 : Nat} {e1 e2 : TypeId} {s1 s2 n1 n2 : Nat} {v1 v2 : Value} {xs1 xs2 : List Value} (h1 : w.ownsRow b1 e1 s1 v1 n1 xs1) (h2 : w.ownsRow b2 e2 s2 v2 n2 xs2) (he : e1 ≠ e2) : v1.ownBlock = none ∨ v1.ownBlock ≠ v2.ownBlock := by
  rcases h1.2 with ⟨rfl, _⟩ | ⟨g, cap, cur, rfl, _, hh, _⟩
  · exact .inl rfl
  · refine .inr ?_
    rcases h2.2 with ⟨rfl, _⟩ | ⟨g', cap', cur', rfl, _, hh', _⟩
    · exact fun h => by cases h
    · intro h
      obtain rfl : g = g' := by simpa [Value.ownBlock] using h
      rw [hh] at hh'
      injection hh' with hh'
      injection hh' with _ h2
      exact he h2
/-- A row of the call's own lies behind what was there. -/
theorem own_ne {w : World} {base g : Nat} {e : TypeId} {size n : Nat} {v : Value} {xs : List Value} (h : w.ownsRow base e size v n xs) (hg : g < base) : v.ownBlock = none ∨ v.ownBlock ≠ some g := by
  refine .inr fun e => ?_
  have := (h.lt g e).1
  omega
theorem then_alloc {B : Nat} {a W : World} (_ : Below B a W) (o : Obj) : Below W.heap.size W (W.alloc o) := (Below.refl _ _).alloc (Nat.le_refl _) _
theorem emptyOf {W : World} {t : TypeId} (_ : Below W.heap.size W (W.alloc (.cells #[] t))) (size : Nat) : (W.alloc (.cells #[] t)).ownsRow W.heap.size t size (.slice (some ⟨W.heap.size, 0, none⟩) 0 0) 0 [] := own_empty W t size
/-- What a slice holds now. -/
def At (w : World) (size : Nat) (A : Option Addr) (n c : Nat) (xs : List Value) : Prop := Rd w w.heap.size size A n c xs
theorem At.go {w w' : World} {size n c : Nat} {A : Option Addr} {xs : List Value} (h : At w size A n c xs) (hb : Below w.heap.size w w') : At w' size A n c xs := Rd.go h hb

/-- slices.Clone: a row of the call's own with the same stamps. -/
theorem cloneSt_any (A : Option Addr) (n c : Nat) (xs : List Value) (w : World) (hR : Rd w w.heap.size 2 A n c xs) (h1 : ∀ u ∈ xs, u.oneCell' = true) (hn : n ≤ 8796093022208) :
    Calls Tryd.prog 26 #[.slice A n c] w fun e w' => ∃ A' c', e = .returned (.slice A' n c') ∧ w'.ownsRow w.heap.size 44 2 (.slice A' n c') n xs ∧ Below w.heap.size w w' := by
  have hmax := hR.max
  have hcap := hR.cap
  rcases A with _ | ad
  · have hc0 := hR.nil rfl
    obtain rfl : n = 0 := by omega
    subst hc0
    have hx : xs = [] := List.eq_nil_of_length_eq_zero (by simpa using hR.len)
    subst hx
    have ht := fun W => Lib.run_eql_slice_nil (P := Tryd.prog) W 22 44 none 0 0 0 0 Tryd.underlying22
    clear hR h1
    go_enter Tryd.func26, Tryd.ntmps26
    go_wp2
    go_ret
    exact ⟨none, 0, rfl, World.ownsRow_nil _ _ _ _, Below.refl _ _⟩
  · have ht := fun W => Lib.run_eql_slice_nil (P := Tryd.prog) W 22 44 (some ad) n c 0 0 Tryd.underlying22
    obtain ⟨i0, hi0, hz0, hz1, hz2⟩ := info_parts stamp_info
    have h63 : 0 + n ≤ maxLen := by omega
    go_enter Tryd.func26, Tryd.ntmps26
    go_wp2_with (at_builtin; go_must (refine wpList_append_rd _ rfl (.tmp 5) (.tmp 6) _ rfl w.heap.size 44 i0 _ 2 16 Tryd.underlying22 hi0 hz0 hz1 hz2 rfl (by decide) (.slice (some ⟨w.heap.size, 0, none⟩) 0 0) 0 [] rfl (own_empty w _ _) w.heap.size (some ad) n c xs rfl (hR.alloc (Nat.le_refl _) _) h1 h63 (by omega) (by simp) ?_); intro A' c' w1 hown hg hat)
    go_ret
    exact ⟨A', c', rfl, by simpa using hown, ((Below.refl _ _).alloc (Nat.le_refl _) _).trans (grown_below hg (by simp) (by simp [Value.ownBlock]))⟩

def ntFits (x : Nt) (known : List Vc.St) : Bool := covB (Vc.cnt known) (Vc.cnt x.s)
def ntNews (x : Nt) (known : List Vc.St) : Bool := !covB (Vc.cnt known) (Vc.cnt x.e)

set_option maxHeartbeats 1000000 in
theorem fits_any (v : NV) (x : Nt) (A : Option Addr) (n c : Nat) (u : List Vc.St) (w : World) (hT : Tab w) (hN : NtRd w w.heap.size v x) (hl : u.length = n) (hR : Rd w w.heap.size 2 A n c (sv u)) :
    Calls Tryd.prog 17 #[.agg v.val, .slice A n c] w fun e w' => e = .returned (.bool (ntFits x u)) ∧ Below w.heap.size w w' := by
  obtain ⟨A1, n1, c1, A2, n2, c2, A3, n3, c3, A4, n4, c4⟩ := v
  have hb0 : Below w.heap.size w (w.alloc (.cells #[.slice A1 n1 c1, .slice A2 n2 c2, .slice A3 n3 c3, .slice A4 n4 c4] 26)) := (Below.refl _ _).alloc (Nat.le_refl _) _
  have H1 := Lib.hid (covers_any A A1 n c n1 c1 u x.s _ (hT.below hb0) hl hN.l1 (hR.go hb0) (hN.go hb0).r1)
  have HX := Lib.hid (show ntFits x u = covB (Vc.cnt u) (Vc.cnt x.s) from rfl)
  generalize covB (Vc.cnt u) (Vc.cnt x.s) = z at H1 HX
  have HB := Lib.hid hb0
  clear hN hl hR hb0 hT
  go_enter Tryd.func17, Tryd.ntmps17
  go_wp2_with (go_at_call 35; go_must (refine H1.out.mono ?_); rintro e w1 ⟨rfl, hb1⟩)
  go_ret
  exact ⟨by rw [HX.out]; rfl, below_then HB.out (Nat.le_refl _) hb1⟩

set_option maxHeartbeats 1000000 in
theorem news_any (v : NV) (x : Nt) (A : Option Addr) (n c : Nat) (u : List Vc.St) (w : World) (hT : Tab w) (hN : NtRd w w.heap.size v x) (hl : u.length = n) (hR : Rd w w.heap.size 2 A n c (sv u)) :
    Calls Tryd.prog 19 #[.agg v.val, .slice A n c] w fun e w' => e = .returned (.bool (ntNews x u)) ∧ Below w.heap.size w w' := by
  obtain ⟨A1, n1, c1, A2, n2, c2, A3, n3, c3, A4, n4, c4⟩ := v
  have hb0 : Below w.heap.size w (w.alloc (.cells #[.slice A1 n1 c1, .slice A2 n2 c2, .slice A3 n3 c3, .slice A4 n4 c4] 26)) := (Below.refl _ _).alloc (Nat.le_refl _) _
  have H1 := Lib.hid (covers_any A A2 n c n2 c2 u x.e _ (hT.below hb0) hl hN.l2 (hR.go hb0) (hN.go hb0).r2)
  have HX := Lib.hid (show ntNews x u = !covB (Vc.cnt u) (Vc.cnt x.e) from rfl)
  generalize covB (Vc.cnt u) (Vc.cnt x.e) = z at H1 HX
  have HB := Lib.hid hb0
  clear hN hl hR hb0 hT
  go_enter Tryd.func19, Tryd.ntmps19
  go_wp2_with (go_at_call 35; go_must (refine H1.out.mono ?_); rintro e w1 ⟨rfl, hb1⟩)
  go_ret
  exact ⟨by rw [HX.out]; rfl, below_then HB.out (Nat.le_refl _) hb1⟩

theorem dec_dropW {u v : List Wr} {k : Nat} (h1 : k < u.length) (h2 : k < v.length) (h : u[k] = v[k]) : decide (u.drop k = v.drop k) = decide (u.drop (k + 1) = v.drop (k + 1)) := by
  refine decide_eq_decide.2 ?_
  rw [List.drop_eq_getElem_cons h1, List.drop_eq_getElem_cons h2, h]
  exact ⟨fun e => (List.cons.inj e).2, fun e => by rw [e]⟩

set_option maxHeartbeats 4000000 in
theorem sameW_any (A D : Option Addr) (n c m d : Nat) (u v : List Wr) (w : World) (hl : u.length = n) (hl2 : v.length = m) (hR : Rd w w.heap.size 4 A n c (wv u)) (hR2 : Rd w w.heap.size 4 D m d (wv v)) :
    Calls Tryd.prog 33 #[.slice A n c, .slice D m d] w fun e w' => e = .returned (.bool (decide (u = v))) ∧ Below w.heap.size w w' := by
  have hmax : n ≤ 9223372036854775807 := by have h1 := hR.cap; have h2 := hR.max; unfold maxLen at h2; omega
  by_cases hnm : n = m
  · subst hnm
    go_enter Tryd.func33, Tryd.ntmps33
    go_wp2
    go_loopw [5] (fun i wr => ∃ (k : Nat), k ≤ n ∧ i = .int .i64 k ∧ Hid (decide (u = v) = decide (u.drop k = v.drop k)) ∧ Below w.heap.size w wr) (fun i _ => n - (intOf i).toNat)
    case atStart => exact ⟨0, by omega, rfl, rfl, Below.refl _ _⟩
    case round =>
      obtain ⟨k, hk, rfl, hdd, hb⟩ := hrel
      by_cases hlt : k < n
      · have hk1 : k < u.length := by omega
        have hk2 : k < v.length := by omega
        obtain ⟨b, o, rfl, hab, g0, g1, g2, g3⟩ := (hR.below hb).write hl hk1
        obtain ⟨b2, o2, rfl, hab2, p0, p1, p2, p3⟩ := (hR2.below hb).write hl2 hk2
        have HE := Lib.hid (show u[k] = (((u[k]'hk1).1.1, (u[k]'hk1).1.2), (u[k]'hk1).2.1, (u[k]'hk1).2.2) from rfl)
        have HE2 := Lib.hid (show v[k] = (((v[k]'hk2).1.1, (v[k]'hk2).1.2), (v[k]'hk2).2.1, (v[k]'hk2).2.2) from rfl)
        generalize (u[k]'hk1).1.1 = sc at g0 HE
        generalize (u[k]'hk1).1.2 = sn at g1 HE
        generalize (u[k]'hk1).2.1 = so at g2 HE
        generalize (u[k]'hk1).2.2 = sg at g3 HE
        generalize (v[k]'hk2).1.1 = tc at p0 HE2
        generalize (v[k]'hk2).1.2 = tn at p1 HE2
        generalize (v[k]'hk2).2.1 = to at p2 HE2
        generalize (v[k]'hk2).2.2 = tg at p3 HE2
        have HB := Lib.hid hb
        clear hb hR hR2
        by_cases e0 : sc = tc ∧ sn = tn ∧ so = to ∧ sg = tg
        · obtain ⟨rfl, rfl, rfl, rfl⟩ := e0
          have HN := Lib.hid (dec_dropW hk1 hk2 (by rw [HE.out, HE2.out]))
          clear hl hl2
          go_wp2
          go_quiet (fail)
          go_wp2
          go_roundw
          case rel => exact ⟨k + 1, by omega, by go_num, by show _ = _; rw [hdd.out, HN.out], below_drewN HB.out _⟩
          case measure => simp [intOf]; omega
        · have HN := Lib.hid (show decide (u = v) = false by
            rw [decide_eq_false_iff_not]; intro h; subst h
            have h2 := HE.out.symm.trans HE2.out
            simp only [Prod.mk.injEq] at h2
            exact e0 ⟨h2.1.1, h2.1.2, h2.2.1, h2.2.2⟩)
          clear hl hl2
          by_cases e1 : sc = tc
          · by_cases e2 : sn = tn
            · by_cases e3 : so = to
              · have e4 : ¬ sg = tg := fun h => e0 ⟨e1, e2, e3, h⟩
                subst e1 e2 e3
                clear e0
                cases sg <;> cases tg <;> first | exact absurd rfl e4 | skip
                all_goals
                  clear e4
                  go_wp2
                  go_quiet (fail)
                  go_wp2
                  go_ret
                  exact ⟨by rw [HN.out]; rfl, below_drewN HB.out _⟩
              · subst e1 e2
                clear e0
                go_wp2
                go_quiet (fail)
                go_wp2
                go_ret
                exact ⟨by rw [HN.out]; rfl, below_drewN HB.out _⟩
            · subst e1
              clear e0
              go_wp2
              go_quiet (fail)
              go_wp2
              go_ret
              exact ⟨by rw [HN.out]; rfl, below_drewN HB.out _⟩
          · clear e0
            go_wp2
            go_quiet (fail)
            go_wp2
            go_ret
            exact ⟨by rw [HN.out]; rfl, below_drewN HB.out _⟩
      · obtain rfl : k = n := by omega
        have HX := Lib.hid (show decide (u = v) = true by rw [hdd.out, List.drop_of_length_le (by omega), List.drop_of_length_le (by omega)]; simp)
        clear hdd
        go_wp2
        go_ret
        exact ⟨by rw [HX.out]; rfl, hb⟩
  · have HN := Lib.hid (show decide (u = v) = false by rw [decide_eq_false_iff_not]; intro h; subst h; omega)
    have hne : ¬ ((n : Int) = (m : Int)) := by omega
    clear hl hl2
    go_enter Tryd.func33, Tryd.ntmps33
    go_wp2
    all_goals first
      | (exfalso; omega)
      | (go_ret; exact ⟨by rw [HN.out]; rfl, Below.refl _ _⟩)

def ntSame (x y : Nt) : Bool := decide (x.s = y.s) && (decide (x.e = y.e) && (decide (x.b = y.b) && decide (x.w = y.w)))
theorem ntSame_self (x : Nt) : ntSame x x = true := by simp [ntSame]
theorem ntSame_iff (x y : Nt) : ntSame x y = true ↔ x = y := by
  cases x; cases y; simp [ntSame]

set_option maxHeartbeats 4000000 in
theorem refNtSame_any (v v' : NV) (x y : Nt) (w : World) (hN : NtRd w w.heap.size v x) (hM : NtRd w w.heap.size v' y) :
    Calls Tryd.prog 11 #[.agg v.val, .agg v'.val] w fun e w' => e = .returned (.bool (ntSame x y)) ∧ Below w.heap.size w w' := by
  obtain ⟨A1, n1, c1, A2, n2, c2, A3, n3, c3, A4, n4, c4⟩ := v
  obtain ⟨D1, m1, d1, D2, m2, d2, D3, m3, d3, D4, m4, d4⟩ := v'
  have hb1 : Below w.heap.size w (w.alloc (.cells #[.slice A1 n1 c1, .slice A2 n2 c2, .slice A3 n3 c3, .slice A4 n4 c4] 26)) := (Below.refl _ _).alloc (Nat.le_refl _) _
  have hb0 : Below w.heap.size w ((w.alloc (.cells #[.slice A1 n1 c1, .slice A2 n2 c2, .slice A3 n3 c3, .slice A4 n4 c4] 26)).alloc (.cells #[.slice D1 m1 d1, .slice D2 m2 d2, .slice D3 m3 d3, .slice D4 m4 d4] 26)) := hb1.alloc hb1.size _
  have hB1 := (Blk.new w 26 #[.slice A1 n1 c1, .slice A2 n2 c2, .slice A3 n3 c3, .slice A4 n4 c4]).alloc (.cells #[.slice D1 m1 d1, .slice D2 m2 d2, .slice D3 m3 d3, .slice D4 m4 d4] 26)
  have hB2 := Blk.new (w.alloc (.cells #[.slice A1 n1 c1, .slice A2 n2 c2, .slice A3 n3 c3, .slice A4 n4 c4] 26)) 26 #[.slice D1 m1 d1, .slice D2 m2 d2, .slice D3 m3 d3, .slice D4 m4 d4]
  rw [World.size_alloc] at hB2
  obtain ⟨w0, hw0⟩ : ∃ w0, w0 = (w.alloc (.cells #[.slice A1 n1 c1, .slice A2 n2 c2, .slice A3 n3 c3, .slice A4 n4 c4] 26)).alloc (.cells #[.slice D1 m1 d1, .slice D2 m2 d2, .slice D3 m3 d3, .slice D4 m4 d4] 26) := ⟨_, rfl⟩
  rw [← hw0] at hb0 hB1 hB2
  obtain ⟨l1, r1, l2, r2, l3, r3, l4, r4⟩ := hN.go hb0
  obtain ⟨k1, s1, k2, s2, k3, s3, k4, s4⟩ := hM.go hb0
  dsimp only at l1 r1 l2 r2 l3 r3 l4 r4 k1 s1 k2 s2 k3 s3 k4 s4
  have hQ : ∀ W, Below w0.heap.size w0 W → (W.cell? ⟨w.heap.size, 0, none⟩ = some (.slice A1 n1 c1) ∧ W.cell? ⟨w.heap.size, 1, none⟩ = some (.slice A2 n2 c2) ∧ W.cell? ⟨w.heap.size, 2, none⟩ = some (.slice A3 n3 c3) ∧ W.cell? ⟨w.heap.size, 3, none⟩ = some (.slice A4 n4 c4) ∧
      W.cell? ⟨w.heap.size + 1, 0, none⟩ = some (.slice D1 m1 d1) ∧ W.cell? ⟨w.heap.size + 1, 1, none⟩ = some (.slice D2 m2 d2) ∧ W.cell? ⟨w.heap.size + 1, 2, none⟩ = some (.slice D3 m3 d3) ∧ W.cell? ⟨w.heap.size + 1, 3, none⟩ = some (.slice D4 m4 d4)) :=
    fun W hb => ⟨(hB1.go hb).cell 0, (hB1.go hb).cell 1, (hB1.go hb).cell 2, (hB1.go hb).cell 3, (hB2.go hb).cell 0, (hB2.go hb).cell 1, (hB2.go hb).cell 2, (hB2.go hb).cell 3⟩
  have HQ := Lib.hid hQ
  have H1 := Lib.hid fun (W : World) (hb : Below w0.heap.size w0 W) => same_any A1 D1 n1 c1 m1 d1 x.s y.s W l1 k1 (r1.go hb) (s1.go hb)
  have H2 := Lib.hid fun (W : World) (hb : Below w0.heap.size w0 W) => same_any A2 D2 n2 c2 m2 d2 x.e y.e W l2 k2 (r2.go hb) (s2.go hb)
  have H3 := Lib.hid fun (W : World) (hb : Below w0.heap.size w0 W) => sameS_any A3 D3 n3 c3 m3 d3 x.b y.b W l3 k3 (r3.go hb) (s3.go hb)
  have H4 := Lib.hid fun (W : World) (hb : Below w0.heap.size w0 W) => sameW_any A4 D4 n4 c4 m4 d4 x.w y.w W l4 k4 (r4.go hb) (s4.go hb)
  have hf0 : ntSame x y = (decide (x.s = y.s) && (decide (x.e = y.e) && (decide (x.b = y.b) && decide (x.w = y.w)))) := rfl
  generalize decide (x.s = y.s) = f1 at H1 hf0
  generalize decide (x.e = y.e) = f2 at H2 hf0
  generalize decide (x.b = y.b) = f3 at H3 hf0
  generalize decide (x.w = y.w) = f4 at H4 hf0
  have HF := Lib.hid hf0
  have HW := Lib.hid hw0.symm
  have k := Below.refl w0.heap.size w0
  obtain ⟨q0, q1, q2, q3, q4, q5, q6, q7⟩ := hQ w0 k
  clear hN hM l1 r1 l2 r2 l3 r3 l4 r4 k1 s1 k2 s2 k3 s3 k4 s4 hB1 hB2 hQ hf0 hw0 hb1
  go_enter Tryd.func11, Tryd.ntmps11
  go_wp2_with fail
  rw [HW.out]
  cases f1 <;> cases f2 <;> cases f3 <;> cases f4
  all_goals
    go_wp2_with (first
      | (go_at_call 31; (first
        | ((with_reducible refine (H1.out _ k).mono ?_); rintro e w' ⟨rfl, hb'⟩; have k := below_then k (Nat.le_refl _) hb'; clear hb'; obtain ⟨q0, q1, q2, q3, q4, q5, q6, q7⟩ := HQ.out _ k)
        | ((with_reducible refine (H2.out _ k).mono ?_); rintro e w' ⟨rfl, hb'⟩; have k := below_then k (Nat.le_refl _) hb'; clear hb'; obtain ⟨q0, q1, q2, q3, q4, q5, q6, q7⟩ := HQ.out _ k)))
      | (go_at_call 32; go_must (with_reducible refine (H3.out _ k).mono ?_); rintro e w' ⟨rfl, hb'⟩; have k := below_then k (Nat.le_refl _) hb'; clear hb'; obtain ⟨q0, q1, q2, q3, q4, q5, q6, q7⟩ := HQ.out _ k)
      | (go_at_call 33; go_must (with_reducible refine (H4.out _ k).mono ?_); rintro e w' ⟨rfl, hb'⟩; have k := below_then k (Nat.le_refl _) hb'; clear hb'; obtain ⟨q0, q1, q2, q3, q4, q5, q6, q7⟩ := HQ.out _ k))
    go_ret
    exact ⟨by rw [HF.out]; rfl, below_then hb0 (Nat.le_refl _) k⟩
end Go.Proofs.YtnibkniggiokkaaDoor
