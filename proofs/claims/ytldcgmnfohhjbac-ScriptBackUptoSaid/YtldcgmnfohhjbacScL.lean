/- Walk over the document's All of scripts. -/
import Derived.Test.YtldcgmnfohhjbacScK
namespace Go.Proofs.Ytldcgmnfohhjbac
open Go.RowKit
set_option maxRecDepth 100000

theorem own_apart2 {w : World} {b1 b2 : Nat} {e1 e2 : TypeId} {s1 s2 n1 n2 : Nat} {v1 v2 : Value} {xs1 xs2 : List Value} (h1 : w.ownsRow b1 e1 s1 v1 n1 xs1) (h2 : w.ownsRow b2 e2 s2 v2 n2 xs2) (he : e1 ≠ e2) : v1.ownBlock = none ∨ v1.ownBlock ≠ v2.ownBlock := by
  rcases h1.2 with ⟨rfl, _⟩ | ⟨g, cap, cur, rfl, _, hh, _⟩
  · exact .inl rfl
  · refine .inr ?_
    rcases h2.2 with ⟨rfl, _⟩ | ⟨g', cap', cur', rfl, _, hh', _⟩
    · exact fun h => by cases h
    · intro h
      obtain rfl : g = g' := by simpa [Value.ownBlock] using h
      rw [hh] at hh'
      injection hh' with hh'
      injection hh' with _ h2
      exact he h2
theorem step_info : (Try.prog.info? 25).map (fun i => (i.zero, i.size, i.bytes)) = some (some (.agg #[.int .i64 0, .int .i64 0, .int .i64 0, .int .i64 0, .int .i64 0, .slice none 0 0, .slice none 0 0]), 7, 88) := by kernel_rfl
theorem errno_info : (Try.prog.info? 27).map (fun i => (i.zero, i.size, i.bytes)) = some (some (.int .i64 0), 1, 8) := by kernel_rfl
theorem val_oneCell (v : SV) (x : Sc.Stp) : ∀ u ∈ (v.val x).toList, u.oneCell' = true := by
  intro u hu
  simp only [List.mem_cons, List.not_mem_nil, or_false] at hu
  rcases hu with rfl | rfl | rfl | rfl | rfl | rfl | rfl <;> rfl
def evL (pre : List EvS) : List (SV × Sc.Stp) := pre.map fun p => (p.1, p.2.1)
def evE (pre : List EvS) : List Value := pre.map fun p => .int .i64 (p.2.2 : Int)
theorem evL_snoc (pre : List EvS) (x : EvS) : stv (evL (pre ++ [x])) = stv (evL pre) ++ (x.1.val x.2.1).toList := by simp [evL, stv]
theorem evE_snoc (pre : List EvS) (x : EvS) : evE (pre ++ [x]) = evE pre ++ [.int .i64 (x.2.2 : Int)] := by simp [evE]
def OwnAll (w : World) (base : Nat) (pre : List EvS) : Prop := ∀ p ∈ pre, StpOwn w base p.1 p.2.1
theorem OwnAll.below {w w' : World} {base : Nat} {pre : List EvS} (h : OwnAll w base pre) (hb : Below w.heap.size w w') : OwnAll w' base pre := fun p hp => (h p hp).below hb
theorem OwnAll.row {w w' : World} {base b n size : Nat} {e : TypeId} {v : Value} {xs : List Value} {pre : List EvS} (h : OwnAll w base pre) (ho : w.ownsRow b e size v n xs) (h1 : 76 ≠ e) (h2 : 5 ≠ e) (hg : w.grownBy w' v.ownBlock) : OwnAll w' base pre :=
  fun p hp => ⟨(h p hp).l1, (h p hp).o1.kept hg (own_apart2 (h p hp).o1 ho h1), (h p hp).l2, (h p hp).o2.kept hg (own_apart2 (h p hp).o2 ho h2)⟩
theorem OwnAll.alloc {w : World} {base : Nat} {pre : List EvS} (h : OwnAll w base pre) (o : Obj) : OwnAll (w.alloc o) base pre := h.below ((Below.refl _ _).alloc (Nat.le_refl _) _)

theorem kept2 {W V : World} {o : Obj} {b1 b2 : Nat} {e1 e2 : TypeId} {s1 s2 n1 n2 : Nat} {v1 v2 : Value} {xs1 xs2 : List Value} (h2 : W.ownsRow b2 e2 s2 v2 n2 xs2) (h1 : W.ownsRow b1 e1 s1 v1 n1 xs1) (he : e2 ≠ e1) (hg : (W.alloc o).grownBy V v1.ownBlock) : V.ownsRow b2 e2 s2 v2 n2 xs2 :=
  (h2.alloc o).kept hg (own_apart2 (h2.alloc o) (h1.alloc o) he)
theorem keptAll {W V : World} {o : Obj} {b1 base : Nat} {e1 : TypeId} {s1 n1 : Nat} {v1 : Value} {xs1 : List Value} {pre : List EvS} (h : OwnAll W base pre) (h1 : W.ownsRow b1 e1 s1 v1 n1 xs1) (q1 : 76 ≠ e1) (q2 : 5 ≠ e1) (hg : (W.alloc o).grownBy V v1.ownBlock) : OwnAll V base pre :=
  (h.alloc o).row (h1.alloc o) q1 q2 hg
theorem keptOne {W V : World} {o : Obj} {b1 base : Nat} {e1 : TypeId} {s1 n1 : Nat} {v1 : Value} {xs1 : List Value} {sv : SV} {x : Sc.Stp} (h : StpOwn W base sv x) (h1 : W.ownsRow b1 e1 s1 v1 n1 xs1) (q1 : 76 ≠ e1) (q2 : 5 ≠ e1) (hg : (W.alloc o).grownBy V v1.ownBlock) : StpOwn V base sv x :=
  ⟨h.l1, kept2 h.o1 h1 q1 hg, h.l2, kept2 h.o2 h1 q2 hg⟩
theorem below_app {B : Nat} {a W V : World} {o : Obj} {b1 : Nat} {e1 : TypeId} {s1 n1 : Nat} {v1 : Value} {xs1 : List Value} (h : Below B a W) (hB : B ≤ W.heap.size) (h1 : W.ownsRow b1 e1 s1 v1 n1 xs1) (hb : B ≤ b1) (hg : (W.alloc o).grownBy V v1.ownBlock) : Below B a V :=
  (h.alloc hB o).trans (grown_below hg (by rw [World.size_alloc]; omega) (fun g hg' => by have := own_lt h1 g hg'; omega))
theorem size_app {W V : World} {o : Obj} {r : Option Nat} (hg : (W.alloc o).grownBy V r) : W.heap.size < V.heap.size := by have := hg.size; rw [World.size_alloc] at this; omega

/-- What the document's All hands back. -/
def AllP (w : World) (l : List UInt8) (e : Ending) (w' : World) : Prop := ∃ (pre : List EvS) (D1 D2 : Option Addr) (m d1 d2 : Nat), e = .returned (.tuple #[.slice D1 m d1, .slice D2 m d2]) ∧ said pre = evS l ∧ pre.length = m ∧
  w'.ownsRow w.heap.size 25 7 (.slice D1 m d1) m (stv (evL pre)) ∧ w'.ownsRow w.heap.size 27 1 (.slice D2 m d2) m (evE pre) ∧ OwnAll w' w.heap.size pre ∧ Below w.heap.size w w'

set_option maxHeartbeats 8000000 in
theorem refScAll_any (A : Option Addr) (n c : Nat) (l : List UInt8) (w : World) (hl : l.length = n) (hR : Rd w w.heap.size 1 A n c (bv l)) (hn : n ≤ 4294967296) :
    Calls Try.prog 20 #[.slice A n c] w (AllP w l) := by
  obtain ⟨i0, hi0, hz0, hz1, hz2⟩ := info_parts step_info
  obtain ⟨j0, hj0, hy0, hy1, hy2⟩ := info_parts errno_info
  have h1max : 1 ≤ maxLen := by unfold maxLen; omega
  have HRW := Lib.hid hR
  have hln := evS_len l
  rw [hl] at hln
  have HLN := Lib.hid hln
  clear hR hln
  go_enter Try.func20, Try.ntmps20
  go_wp2
  go_loopw [0, 4, 5, 6, 7, 8, 9, 10] (fun v0 v4 v5 _ _ _ _ _ wr => ∃ (N c' : Nat) (A' : Option Addr) (r : List UInt8) (pre : List EvS) (D1 D2 : Option Addr) (m d1 d2 : Nat), v0 = .slice A' N c' ∧ v4 = .slice D1 m d1 ∧ v5 = .slice D2 m d2 ∧ r.length = N ∧ N ≤ n ∧ Rd wr w.heap.size 1 A' N c' (bv r) ∧
    Below w.heap.size w wr ∧ wr.ownsRow w.heap.size 25 7 (.slice D1 m d1) m (stv (evL pre)) ∧ wr.ownsRow w.heap.size 27 1 (.slice D2 m d2) m (evE pre) ∧ OwnAll wr w.heap.size pre ∧ Hid (evS l = said pre ++ evS r ∧ pre.length = m) ∧ m + N ≤ n)
    (fun v0 _ _ _ _ _ _ _ _ => match v0 with | .slice _ N _ => N | _ => 0)
  case atStart => exact ⟨n, c, A, l, [], none, none, 0, 0, 0, rfl, rfl, rfl, hl, Nat.le_refl _, HRW.out, Below.refl _ _, World.ownsRow_nil _ _ _ _, World.ownsRow_nil _ _ _ _, (fun p hp => by cases hp), ⟨rfl, rfl⟩, by omega⟩
  case round =>
    obtain ⟨N, c', A', r, pre, D1, D2, m, d1, d2, rfl, rfl, rfl, hr, hN, hR, hb, ho1, ho2, hoa, hev, hmN⟩ := hrel
    have hbs := hb.size
    have HO1 := Lib.hid ho1
    have HO2 := Lib.hid ho2
    have HOA := Lib.hid hoa
    have hm32 : m ≤ 4294967296 := by omega
    by_cases hN0 : N = 0
    · subst hN0
      have hr0 : r = [] := List.eq_nil_of_length_eq_zero hr
      have HD := Lib.hid (show said pre = evS l by rw [hev.out.1, hr0, evS_nil, List.append_nil])
      clear hR hr hr0 ho1 ho2 hoa
      go_wp2
      go_ret2
      exact ⟨pre, D1, D2, m, d1, d2, rfl, HD.out, hev.out.2, HO1.out, HO2.out, HOA.out, hb⟩
    · have hrne : r ≠ [] := fun e => hN0 (by rw [← hr, e]; rfl)
      have G := Lib.hid (refRow_any A' N c' r N wr hr (hR.more hbs) (by omega))
      have hcap := hR.cap
      have h63 : m + 1 ≤ maxLen := by unfold maxLen; omega
      rcases rowOf_pR r N with ⟨v, q, hx, hkl, hpR⟩ | ⟨er, her, hx, hpR⟩
      · rw [hx] at G
        have hpR' : Wq.pR r.length r = some (v, r.drop q) := by rw [hr]; exact hpR
        have hnext := evS_next hrne hpR'
        have hless := pR_less hpR'
        obtain ⟨hback, _⟩ := Wq.pR_back hpR'
        have hvN : v.length ≤ N := by
          have : r.length = (Wq.lR v ++ r.drop q).length := by rw [← hback]
          rw [List.length_append, Wq.lR, List.length_append] at this; omega
        have hqN : q ≤ N := by omega
        have hs := fun W => run_from (P := Try.prog) W 23 5 1 Try.underlying23 size_u8 A' N c' .i64 q q rfl hqN
        have hlen : (r.drop q).length = N - q := by rw [List.length_drop]; omega
        have hq0 : N - q < N := by omega
        obtain ⟨vn, hvn⟩ : ∃ vn, vn = v.length := ⟨_, rfl⟩
        have HD := Lib.hid (show ∀ sv : SV, evS l = said (pre ++ [(sv, Sc.decX v, Sc.decE v)]) ++ evS (r.drop q) from fun sv => by rw [said_snoc, hev.out.1, hnext, List.append_assoc]; rfl)
        have h2 := hR.from_ (k := q) hqN
        rw [Nat.mul_one, ← bv_drop] at h2
        have HR2 := Lib.hid h2
        have HLEN := Lib.hid hlen
        have GD := Lib.hid fun (W : World) A1 c1 (h : Rd W W.heap.size 1 A1 vn c1 (bv v)) => refScDecode_own A1 vn c1 v W hvn.symm h (by omega)
        have HVN := Lib.hid hvn
        obtain ⟨dx, hdx⟩ : ∃ dx, dx = Sc.decX v := ⟨_, rfl⟩
        rw [← hdx] at HD GD
        generalize Sc.decE v = de at HD GD
        clear hx hpR hpR' hnext hrne hR hr hback hless hkl hlen hvn hvN h2 ho1 ho2 hoa hdx
        obtain ⟨xk, xa, xb, xo, xn, xs, xv⟩ := dx
        go_wp2_with fail
        refine G.out.mono ?_
        rintro e w0 ⟨A1, c1, rfl, ho, hb1⟩
        simp only [← HVN.out] at ho ⊢
        go_wp2_with fail
        refine (GD.out w0 A1 c1 (Rd.of_own ho)).mono ?_
        rintro e wd ⟨⟨P1, p1, q1', P2, p2, q2'⟩, rfl, hst, hb2⟩
        have hb12 := below_then hb1 (Nat.le_refl _) hb2
        have hbA : Below wr.heap.size wr (wd.alloc (.cells (SV.val ⟨P1, p1, q1', P2, p2, q2'⟩ ⟨xk, xa, xb, xo, xn, xs, xv⟩) 25)) := hb12.alloc hb12.size _
        have Q1 := Lib.hid (own_below HO1.out hbA (Nat.le_refl _))
        have Q2 := Lib.hid (own_below HO2.out hbA (Nat.le_refl _))
        have Q3 := Lib.hid (HOA.out.below hbA)
        have hbw1 := below_then hb (Nat.le_refl _) hbA
        have hs1 := hbw1.size
        have HST := Lib.hid ((hst.less (by have := hb1.size; omega : w.heap.size ≤ _)).below ((Below.refl wd.heap.size wd).alloc (Nat.le_refl _) (.cells (SV.val ⟨P1, p1, q1', P2, p2, q2'⟩ ⟨xk, xa, xb, xo, xn, xs, xv⟩) 25)))
        obtain ⟨x, hxe⟩ : ∃ x : EvS, x = (⟨P1, p1, q1', P2, p2, q2'⟩, ⟨xk, xa, xb, xo, xn, xs, xv⟩, de) := ⟨_, rfl⟩
        have HXE := Lib.hid hxe
        have hsd : w.heap.size ≤ wd.heap.size := by have := hb1.size; have := hb2.size; omega
        have HBR := Lib.hid (hbA.mono hbs)
        clear HO1 HO2 HOA ho G GD hb1 hb2 hb12 hbA hst hxe
        have HK := Lib.hid fun (V : World) (hg : ((wd.alloc (.cells (SV.val ⟨P1, p1, q1', P2, p2, q2'⟩ ⟨xk, xa, xb, xo, xn, xs, xv⟩) 25)).alloc (.cells (SV.val ⟨P1, p1, q1', P2, p2, q2'⟩ ⟨xk, xa, xb, xo, xn, xs, xv⟩) 25)).grownBy V (Value.slice D1 m d1).ownBlock) => kept2 Q2.out Q1.out (by decide) hg
        have HS := Lib.hid fun (V : World) (hg : ((wd.alloc (.cells (SV.val ⟨P1, p1, q1', P2, p2, q2'⟩ ⟨xk, xa, xb, xo, xn, xs, xv⟩) 25)).alloc (.cells (SV.val ⟨P1, p1, q1', P2, p2, q2'⟩ ⟨xk, xa, xb, xo, xn, xs, xv⟩) 25)).grownBy V (Value.slice D1 m d1).ownBlock) => (show w.heap.size ≤ (V.alloc (.cells #[.int .i64 (de : Int)] 27)).heap.size by have := size_app hg; rw [World.size_alloc]; omega)
        go_wp2_with (first
          | (at_builtin; refine wpList_append_rd _ rfl (.tmp 36) (.tmp 38) _ rfl w.heap.size 25 i0 _ 7 88 Try.underlying37 hi0 hz0 hz1 hz2 rfl (by decide) (.slice D1 m d1) m _ rfl (Q1.out.alloc _) _ (some ⟨wd.heap.size + 1, 0, none⟩) 1 1 (SV.val ⟨P1, p1, q1', P2, p2, q2'⟩ ⟨xk, xa, xb, xo, xn, xs, xv⟩).toList rfl (by have h := Rd.new (wd.alloc (.cells (SV.val ⟨P1, p1, q1', P2, p2, q2'⟩ ⟨xk, xa, xb, xo, xn, xs, xv⟩) 25)) 25 7 1 (SV.val ⟨P1, p1, q1', P2, p2, q2'⟩ ⟨xk, xa, xb, xo, xn, xs, xv⟩) rfl h1max; rw [World.size_alloc] at h; exact h) (val_oneCell _ _) h63 (by omega) (by simp; omega) ?_; intro A3 c3 w3 ho3 hg3 hat3)
          | (at_builtin; refine wpList_append_rd _ rfl (.tmp 40) (.tmp 42) _ rfl w.heap.size 27 j0 _ 1 8 Try.underlying41 hj0 hy0 hy1 hy2 rfl (by decide) (.slice D2 m d2) m _ rfl ((HK.out _ (by assumption)).alloc _) _ (some ⟨_, 0, none⟩) 1 1 [.int .i64 (de : Int)] rfl (Rd.new _ _ 1 1 #[.int .i64 (de : Int)] rfl h1max) (one_oneCell _ _) h63 (by omega) (HS.out _ (by assumption)) ?_; intro A4 c4 w4 ho4 hg4 hat4))
        have Q4 := kept2 Q2.out Q1.out (by decide) hg3
        have Q5 := keptAll Q3.out Q1.out (by decide) (by decide) hg3
        have hbw3 := below_app hbw1 hs1 Q1.out (Nat.le_refl _) hg3
        have hs3 := hbw3.size
        have Q7 := kept2 ho3 Q4 (by decide) hg4
        have Q8 := keptAll Q5 Q4 (by decide) (by decide) hg4
        have hbw4 := below_app hbw3 hs3 Q4 (Nat.le_refl _) hg4
        have HST4 := keptOne (keptOne HST.out Q1.out (by decide) (by decide) hg3) Q4 (by decide) (by decide) hg4
        have hbr3 := below_app HBR.out hs1 Q1.out (Nat.le_refl _) hg3
        have hbr4 := below_app hbr3 hs3 Q4 (Nat.le_refl _) hg4
        go_roundw
        case rel =>
          have h2 := HD.out ⟨P1, p1, q1', P2, p2, q2'⟩
          rw [← HXE.out] at h2
          refine ⟨N - q, c' - q, cutAt 1 A' c' q, r.drop q, pre ++ [x], A3, A4, m + 1, c3, c4, rfl, rfl, rfl, HLEN.out, by omega, HR2.out.below hbr4, hbw4, ?_, ?_, ?_, ⟨h2, by rw [List.length_append, hev.out.2]; rfl⟩, by omega⟩
          · rw [evL_snoc, HXE.out]; exact Q7
          · rw [evE_snoc, HXE.out]; exact ho4
          · intro p hp
            rcases List.mem_append.1 hp with hp | hp
            · exact Q8 p hp
            · rw [List.mem_singleton] at hp
              rw [hp, HXE.out]; exact HST4
        case measure => exact hq0
      · rw [hx] at G
        have he2 : ((er : Int) != 0) = true := bne_iff_ne.2 (by omega)
        have hpR' : Wq.pR r.length r = none := by rw [hr]; exact hpR
        have hend := evS_bad hrne hpR'
        obtain ⟨x, hxe⟩ : ∃ x : EvS, x = (SV0, ⟨0, 0, 0, 0, 0, [], []⟩, 14) := ⟨_, rfl⟩
        have HD := Lib.hid (show said (pre ++ [x]) = evS l by rw [said_snoc, hev.out.1, hend, hxe])
        have HXE := Lib.hid hxe
        clear hx hpR hpR' her hend hrne hR hr ho1 ho2 hoa hxe
        go_wp2_with fail
        refine G.out.mono ?_
        rintro e w1 ⟨A1, c1, rfl, ho, hb1⟩
        have q1 := own_below HO1.out hb1 (Nat.le_refl _)
        have q2 := own_below HO2.out hb1 (Nat.le_refl _)
        have q3 := HOA.out.below hb1
        have hbw1 := below_then hb (Nat.le_refl _) hb1
        have Q1 := Lib.hid q1
        have Q2 := Lib.hid q2
        have Q3 := Lib.hid q3
        have hs1 := hbw1.size
        clear HO1 HO2 HOA ho G hb1 q1 q2 q3
        have HK := Lib.hid fun (V : World) (hg : (w1.alloc (.cells (SV.val SV0 ⟨0, 0, 0, 0, 0, [], []⟩) 25)).grownBy V (Value.slice D1 m d1).ownBlock) => kept2 Q2.out Q1.out (by decide) hg
        have HS := Lib.hid fun (V : World) (hg : (w1.alloc (.cells (SV.val SV0 ⟨0, 0, 0, 0, 0, [], []⟩) 25)).grownBy V (Value.slice D1 m d1).ownBlock) => (show w.heap.size ≤ (V.alloc (.cells #[.int .i64 14] 27)).heap.size by have := size_app hg; rw [World.size_alloc]; omega)
        go_wp2_with (first
          | (at_builtin; refine wpList_append_rd _ rfl (.tmp 24) (.tmp 26) _ rfl w.heap.size 25 i0 _ 7 88 Try.underlying37 hi0 hz0 hz1 hz2 rfl (by decide) (.slice D1 m d1) m _ rfl (Q1.out.alloc _) (w1.heap.size + 1) (some ⟨w1.heap.size, 0, none⟩) 1 1 (SV.val SV0 ⟨0, 0, 0, 0, 0, [], []⟩).toList rfl (Rd.new w1 _ 7 1 (SV.val SV0 ⟨0, 0, 0, 0, 0, [], []⟩) rfl h1max) (val_oneCell _ _) h63 (by omega) (by simp; omega) ?_; intro A3 c3 w3 ho3 hg3 hat3)
          | (at_builtin; refine wpList_append_rd _ rfl (.tmp 28) (.tmp 29) _ rfl w.heap.size 27 j0 _ 1 8 Try.underlying41 hj0 hy0 hy1 hy2 rfl (by decide) (.slice D2 m d2) m _ rfl ((HK.out _ (by assumption)).alloc _) _ (some ⟨_, 0, none⟩) 1 1 [.int .i64 14] rfl (Rd.new _ _ 1 1 #[.int .i64 14] rfl h1max) (one_oneCell _ _) h63 (by omega) (HS.out _ (by assumption)) ?_; intro A4 c4 w4 ho4 hg4 hat4))
        have Q4 := kept2 Q2.out Q1.out (by decide) hg3
        have Q5 := keptAll Q3.out Q1.out (by decide) (by decide) hg3
        have hbw3 := below_app hbw1 hs1 Q1.out (Nat.le_refl _) hg3
        have hs3 := hbw3.size
        have Q7 := kept2 ho3 Q4 (by decide) hg4
        have Q8 := keptAll Q5 Q4 (by decide) (by decide) hg4
        have hbw4 := below_app hbw3 hs3 Q4 (Nat.le_refl _) hg4
        go_ret2
        refine ⟨pre ++ [x], A3, A4, m + 1, c3, c4, rfl, HD.out, by rw [List.length_append, hev.out.2]; rfl, ?_, ?_, ?_, hbw4⟩
        · rw [evL_snoc, HXE.out]; exact Q7
        · rw [evE_snoc, HXE.out]; exact ho4
        · intro p hp
          rcases List.mem_append.1 hp with hp | hp
          · exact Q8 p hp
          · rw [List.mem_singleton] at hp
            rw [hp, HXE.out]; exact StpOwn.zero _ _ _ _ _ _ _
end Go.Proofs.Ytldcgmnfohhjbac
