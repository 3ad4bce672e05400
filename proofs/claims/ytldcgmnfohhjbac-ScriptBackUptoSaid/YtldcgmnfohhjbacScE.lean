/- Walk over the document's Decode of steps (printed by wip/tools/genScE.py). -/
import Derived.Test.YtldcgmnfohhjbacScD
namespace Go.Proofs.Ytldcgmnfohhjbac
open Go.RowKit
set_option maxRecDepth 100000

theorem numS_of (s : Option (List UInt8)) : (∃ l x r, s = some l ∧ Wq.pN l = some (x, r) ∧ numS s = some r ∧ numV s = x) ∨ numS s = none := by
  rcases s with _ | l
  · exact .inr rfl
  · rcases h : Wq.pN l with _ | ⟨x, r⟩
    · exact .inr (numS_no h)
    · exact .inl ⟨l, x, r, rfl, h, numS_some h, numV_some h⟩
/-- The document's chain of reads. -/
def chX (l : List UInt8) (sp : List Sn.Sp) (v : List UInt8) : Sc.Stp := ⟨numV (some l), numV (numS (some l)), numV (numS (numS (some l))), numV (numS (numS (numS (some l)))), numV (numS (numS (numS (numS (some l))))), sp, v⟩
def ch5 (l : List UInt8) : Option (List UInt8) := numS (numS (numS (numS (numS (some l)))))
theorem numS_none : numS none = none := rfl
theorem ch5_pNs (l : List UInt8) : (∃ r, ch5 l = some r ∧ Sc.pNs 5 l = some ([numV (some l), numV (numS (some l)), numV (numS (numS (some l))), numV (numS (numS (numS (some l)))), numV (numS (numS (numS (numS (some l)))))], r)) ∨ (ch5 l = none ∧ Sc.pNs 5 l = none) := by
  unfold ch5
  rcases h1 : Wq.pN l with _ | ⟨a1, l1⟩
  · exact .inr ⟨by simp only [numS_no h1, numS_none], Sc.pNs_no (Sc.pNs_stop (k := 0) rfl h1) 5 (by omega)⟩
  have q1 := Sc.pNs_step (k := 0) rfl h1
  rw [numS_some h1, numV_some h1]
  rcases h2 : Wq.pN l1 with _ | ⟨a2, l2⟩
  · exact .inr ⟨by simp only [numS_no h2, numS_none], Sc.pNs_no (Sc.pNs_stop q1 h2) 5 (by omega)⟩
  have q2 := Sc.pNs_step q1 h2
  rw [numS_some h2, numV_some h2]
  rcases h3 : Wq.pN l2 with _ | ⟨a3, l3⟩
  · exact .inr ⟨by simp only [numS_no h3, numS_none], Sc.pNs_no (Sc.pNs_stop q2 h3) 5 (by omega)⟩
  have q3 := Sc.pNs_step q2 h3
  rw [numS_some h3, numV_some h3]
  rcases h4 : Wq.pN l3 with _ | ⟨a4, l4⟩
  · exact .inr ⟨by simp only [numS_no h4, numS_none], Sc.pNs_no (Sc.pNs_stop q3 h4) 5 (by omega)⟩
  have q4 := Sc.pNs_step q3 h4
  rw [numS_some h4, numV_some h4]
  rcases h5 : Wq.pN l4 with _ | ⟨a5, l5⟩
  · exact .inr ⟨by simp only [numS_no h5], Sc.pNs_no (Sc.pNs_stop q4 h5) 5 (by omega)⟩
  have q5 := Sc.pNs_step q4 h5
  rw [numS_some h5, numV_some h5]
  exact .inl ⟨l5, rfl, q5⟩
theorem rowS_some {most : Nat} {s : Option (List UInt8)} {q : List UInt8} (h : rowS most s = some q) : ∃ l, s = some l ∧ Wq.pR most l = some (rowV most s, q) := by
  rcases s with _ | l
  · cases h
  · refine ⟨l, rfl, ?_⟩
    have h' : (match Wq.pR most l with | none => none | some (_, r) => some r) = some q := h
    rcases hp : Wq.pR most l with _ | ⟨v, r⟩
    · rw [hp] at h'; cases h'
    · rw [hp] at h'
      simp only [Option.some.injEq] at h'
      show some (v, r) = some ((match Wq.pR most l with | none => [] | some (v, _) => v), q)
      rw [hp, h']
theorem rowS_no {most : Nat} {l : List UInt8} (h : rowS most (some l) = none) : Wq.pR most l = none := by
  have h' : (match Wq.pR most l with | none => none | some (_, r) => some r) = none := h
  rcases hp : Wq.pR most l with _ | ⟨v, r⟩
  · rfl
  · rw [hp] at h'; cases h'
theorem setS_no {l : List UInt8} (h : setS (some l) = none) : Wq.pS l = none := by
  have h' : (match Wq.pS l with | none => none | some (_, r) => some r) = none := h
  rcases hp : Wq.pS l with _ | ⟨v, r⟩
  · rfl
  · rw [hp] at h'; cases h'
theorem chain_no {l : List UInt8} (h : rowS 256 (setS (ch5 l)) = none) : Sc.dec l = none := by
  rcases ch5_pNs l with ⟨r, h1, h2⟩ | ⟨h1, h2⟩
  · rw [h1] at h
    rcases h3 : setS (some r) with _ | r2
    · exact Sc.dec_noS h2 (setS_no h3)
    · rw [h3] at h
      exact Sc.dec_noR h2 (setS_some h3) (rowS_no h)
  · exact Sc.dec_no5 h2
theorem chain_some {l q : List UInt8} (h : rowS 256 (setS (ch5 l)) = some q) : (q = [] ∧ Sc.fmP (chX l (setVS (ch5 l)) (rowV 256 (setS (ch5 l)))) → Sc.dec l = some (chX l (setVS (ch5 l)) (rowV 256 (setS (ch5 l))))) ∧
    (¬ (q = [] ∧ Sc.fmP (chX l (setVS (ch5 l)) (rowV 256 (setS (ch5 l))))) → Sc.dec l = none) ∧ ∃ r, setS (ch5 l) = some r := by
  obtain ⟨r2, e2, hR⟩ := rowS_some h
  rcases ch5_pNs l with ⟨r, h1, h2⟩ | ⟨h1, h2⟩
  · rw [h1] at e2 ⊢
    have hS := setS_some e2
    rw [h1] at hR
    exact ⟨fun k => Sc.dec_yes h2 hS hR k, fun k => Sc.dec_noE h2 hS hR k, r2, e2⟩
  · rw [h1] at e2; cases e2

/-- A step whose slices are of the call's own. -/
structure StpOwn (w : World) (base : Nat) (v : SV) (x : Sc.Stp) : Prop where
  l1 : x.s.length = v.n1
  o1 : w.ownsRow base 76 2 (.slice v.A1 v.n1 v.c1) v.n1 (sv x.s)
  l2 : x.v.length = v.n2
  o2 : w.ownsRow base 5 1 (.slice v.A2 v.n2 v.c2) v.n2 (bv x.v)
theorem StpOwn.rd {w : World} {base : Nat} {v : SV} {x : Sc.Stp} (h : StpOwn w base v x) : StpRd w w.heap.size v x := ⟨h.l1, Rd.of_own h.o1, h.l2, Rd.of_own h.o2⟩
theorem StpOwn.zero (w : World) (base : Nat) (a b c d e : Int) : StpOwn w base SV0 ⟨a, b, c, d, e, [], []⟩ := ⟨rfl, World.ownsRow_nil _ _ _ _, rfl, World.ownsRow_nil _ _ _ _⟩
theorem StpOwn.below {w w' : World} {base : Nat} {v : SV} {x : Sc.Stp} (h : StpOwn w base v x) (hb : Below w.heap.size w w') : StpOwn w' base v x := ⟨h.l1, own_below h.o1 hb (Nat.le_refl _), h.l2, own_below h.o2 hb (Nat.le_refl _)⟩
theorem StpOwn.less {w : World} {base base' : Nat} {v : SV} {x : Sc.Stp} (h : StpOwn w base v x) (hb : base' ≤ base) : StpOwn w base' v x := ⟨h.l1, own_less h.o1 hb, h.l2, own_less h.o2 hb⟩
def DecO (w : World) (x : Sc.Stp) (er : Nat) (e : Ending) (w' : World) : Prop := ∃ v : SV, e = .returned (.tuple #[.agg (v.val x), .int .i64 er]) ∧ StpOwn w' w.heap.size v x ∧ Below w.heap.size w w'

set_option maxHeartbeats 16000000 in
theorem refScDecode_own (A : Option Addr) (n c : Nat) (l : List UInt8) (w : World) (hl : l.length = n) (hR : Rd w w.heap.size 1 A n c (bv l)) (hn : n ≤ 4294967296) :
    Calls Try.prog 16 #[.slice A n c] w (DecO w (Sc.decX l) (Sc.decE l)) := by
  obtain ⟨hz, hi⟩ := zero_of_info step_zero
  have HI := Lib.hid hi
  have hb0 : Below w.heap.size w ((w.alloc (.cells (stc []) 25)).alloc (.cells #[.slice A n c, .int .i64 0, .bool false] 67)) := ((Below.refl _ _).alloc (Nat.le_refl _) _).alloc (by simp) _
  have hB2 := (Blk.new w 25 (stc [])).alloc (.cells #[.slice A n c, .int .i64 0, .bool false] 67)
  have hP0 : RR ((w.alloc (.cells (stc []) 25)).alloc (.cells #[.slice A n c, .int .i64 0, .bool false] 67)) (w.heap.size + 1) l (some l) := by
    refine ⟨A, n, c, ?_, ((hR.alloc (Nat.le_refl _) _).alloc (by simp) _).more (by omega), hl, by rw [Nat.sub_self]; rfl, Nat.le_refl _⟩
    have := Blk.new (w.alloc (.cells (stc []) 25)) 67 #[.slice A n c, .int .i64 0, .bool false]
    rw [World.size_alloc] at this
    rw [Nat.sub_self]
    exact this
  have HL := Lib.hid hl
  have hch := chain_no (l := l)
  have hcs := fun q => chain_some (l := l) (q := q)
  have HC0 := Lib.hid (show ch5 l = numS (numS (numS (numS (numS (some l))))) from rfl)
  have HX0 := Lib.hid (show ∀ sp v, chX l sp v = ⟨numV (some l), numV (numS (some l)), numV (numS (numS (some l))), numV (numS (numS (numS (some l)))), numV (numS (numS (numS (numS (some l))))), sp, v⟩ from fun _ _ => rfl)
  have G := Lib.hid fun (W : World) (s : Option (List UInt8)) (h : RR W (w.heap.size + 1) l s) => refRdNum_any (w.heap.size + 1) l s W h
  have GS := Lib.hid fun (W : World) (s : Option (List UInt8)) (h : RR W (w.heap.size + 1) l s) => refRdSet_any (w.heap.size + 1) l s W h (by omega)
  have GR := Lib.hid fun (W : World) (s : Option (List UInt8)) (h : RR W (w.heap.size + 1) l s) => refRdRow_any (w.heap.size + 1) 256 l s W h (by omega)
  have HCH := Lib.hid hch
  have HCS := Lib.hid hcs
  have H0 := Lib.hid (⟨hb0, hB2, hP0⟩ : _ ∧ _ ∧ _)
  clear hi hR hl hb0 hB2 hP0 hch hcs
  obtain ⟨s0, hs0⟩ : ∃ s0, s0 = some l := ⟨_, rfl⟩
  rw [← hs0] at HC0 HX0
  obtain ⟨y1, hy1⟩ : ∃ y, y = numV s0 := ⟨_, rfl⟩
  obtain ⟨s1, hs1⟩ : ∃ s, s = numS s0 := ⟨_, rfl⟩
  rw [← hs1] at HC0
  rw [← hs1] at HX0
  simp only [← hy1] at HX0
  have C1 := Lib.hid fun (W : World) (h : RR W (w.heap.size + 1) l s0) => G.out W s0 h
  rw [← hy1, ← hs1] at C1
  obtain ⟨y2, hy2⟩ : ∃ y, y = numV s1 := ⟨_, rfl⟩
  obtain ⟨s2, hs2⟩ : ∃ s, s = numS s1 := ⟨_, rfl⟩
  rw [← hs2] at HC0
  rw [← hs2] at HX0
  simp only [← hy2] at HX0
  have C2 := Lib.hid fun (W : World) (h : RR W (w.heap.size + 1) l s1) => G.out W s1 h
  rw [← hy2, ← hs2] at C2
  obtain ⟨y3, hy3⟩ : ∃ y, y = numV s2 := ⟨_, rfl⟩
  obtain ⟨s3, hs3⟩ : ∃ s, s = numS s2 := ⟨_, rfl⟩
  rw [← hs3] at HC0
  rw [← hs3] at HX0
  simp only [← hy3] at HX0
  have C3 := Lib.hid fun (W : World) (h : RR W (w.heap.size + 1) l s2) => G.out W s2 h
  rw [← hy3, ← hs3] at C3
  obtain ⟨y4, hy4⟩ : ∃ y, y = numV s3 := ⟨_, rfl⟩
  obtain ⟨s4, hs4⟩ : ∃ s, s = numS s3 := ⟨_, rfl⟩
  rw [← hs4] at HC0
  rw [← hs4] at HX0
  simp only [← hy4] at HX0
  have C4 := Lib.hid fun (W : World) (h : RR W (w.heap.size + 1) l s3) => G.out W s3 h
  rw [← hy4, ← hs4] at C4
  obtain ⟨y5, hy5⟩ : ∃ y, y = numV s4 := ⟨_, rfl⟩
  obtain ⟨s5, hs5⟩ : ∃ s, s = numS s4 := ⟨_, rfl⟩
  rw [← hs5] at HC0
  simp only [← hy5] at HX0
  have C5 := Lib.hid fun (W : World) (h : RR W (w.heap.size + 1) l s4) => G.out W s4 h
  rw [← hy5, ← hs5] at C5
  rw [HC0.out] at HCH HCS
  obtain ⟨s6, hs6⟩ : ∃ s, s = setS s5 := ⟨_, rfl⟩
  have C6 := Lib.hid fun (W : World) (h : RR W (w.heap.size + 1) l s5) => GS.out W s5 h
  rw [← hs6] at C6 HCH HCS
  obtain ⟨s7, hs7⟩ : ∃ s, s = rowS 256 s6 := ⟨_, rfl⟩
  obtain ⟨vr, hvr⟩ : ∃ v, v = rowV 256 s6 := ⟨_, rfl⟩
  have C7 := Lib.hid fun (W : World) (h : RR W (w.heap.size + 1) l s6) => GR.out W s6 h
  rw [← hs7, ← hvr] at C7
  rw [← hs7] at HCH HCS
  rw [← hvr] at HCS
  obtain ⟨vn, hvn⟩ : ∃ vn, vn = vr.length := ⟨_, rfl⟩
  rw [← hvn] at C7
  have HVN := Lib.hid hvn
  have HP0 := H0.out.2.2
  rw [← hs0] at HP0
  have HPH := Lib.hid HP0
  clear G GS GR HC0 HP0 hvn hs0 hs1 hs2 hs3 hs4 hs5 hs6 hs7 hy1 hy2 hy3 hy4 hy5 hvr
  go_enter Try.func16, Try.ntmps16
  go_wp2_with fail
  refine (C1.out _ HPH.out).mono ?_
  rintro e w1 ⟨rfl, hP1, hu1⟩
  have hs1 := hu1.size
  rw [World.size_alloc, World.size_alloc] at hs1
  have hbw := below_but H0.out.1 hu1 (by simp; omega) (by omega)
  have hB2 := Blk.but H0.out.2.1 hu1 (show w.heap.size ≠ w.heap.size + 1 by omega)
  have hbA : Below w1.heap.size w1 (w1.alloc (.cells (stc [y1]) 25)) := (Below.refl _ _).alloc (Nat.le_refl _) _
  have hS1 := Blk.new w1 25 (stc [y1])
  have hP1' := hP1.go hbA
  have hbw' := below_then hbw (Nat.le_refl _) hbA
  have hB2' := hB2.go hbA
  have hsz1 : w.heap.size + 2 ≤ w1.heap.size := by omega
  have HS := Lib.hid hS1
  have HB2 := Lib.hid hB2'
  have HP := Lib.hid hP1'
  have HB := Lib.hid hbw'
  have hlt : w1.heap.size < (w1.alloc (.cells (stc [y1]) 25)).heap.size := by simp
  clear hu1 hbA hS1 hP1 hbw hB2 hP1' hbw' hB2' C1 HPH H0
  go_wp2_with fail
  refine (C2.out _ HP.out).mono ?_
  rintro e w2 ⟨rfl, hP, hu⟩
  have hsz2 : w1.heap.size < w2.heap.size := by have := hu.size; simp at this; omega
  have hS := Blk.but HS.out hu (by omega)
  have hP2 := hP.but (But.set_ (g := w1.heap.size) w2 (p := ⟨w1.heap.size, 1, none⟩) rfl (.int .i64 (y2 : Int))) (by omega)
  have hB := HB2.out.but hu (show w.heap.size ≠ w.heap.size + 1 by omega)
  have hB' := hB.but (But.set_ (g := w1.heap.size) w2 (p := ⟨w1.heap.size, 1, none⟩) rfl (.int .i64 (y2 : Int))) (by omega)
  have hW := below_but (below_but HB.out hu (by first | omega | (simp; omega)) (by omega)) (But.set_ (g := w1.heap.size) w2 (p := ⟨w1.heap.size, 1, none⟩) rfl (.int .i64 (y2 : Int))) (by omega) (by omega)
  have hf := hS.frozen 1
  have hc : w2.cell? ⟨w1.heap.size, 1, none⟩ = some (.int .i64 0) := hS.cell 1
  have hS' := hS.set_ 1 (.int .i64 (y2 : Int))
  clear HS HB2 HP HB
  have HS := Lib.hid (show Blk _ w1.heap.size 25 (stc [y1, y2]) from hS')
  have HB2 := Lib.hid hB'
  have HP := Lib.hid hP2
  have HB := Lib.hid hW
  clear hu hS hS' hP hP2 hB hB' hW C2
  go_wp2_with fail
  refine (C3.out _ HP.out).mono ?_
  rintro e w3 ⟨rfl, hP, hu⟩
  have hsz3 : w1.heap.size < w3.heap.size := by have := hu.size; simp at this; omega
  have hS := Blk.but HS.out hu (by omega)
  have hP2 := hP.but (But.set_ (g := w1.heap.size) w3 (p := ⟨w1.heap.size, 2, none⟩) rfl (.int .i64 (y3 : Int))) (by omega)
  have hB := HB2.out.but hu (show w.heap.size ≠ w.heap.size + 1 by omega)
  have hB' := hB.but (But.set_ (g := w1.heap.size) w3 (p := ⟨w1.heap.size, 2, none⟩) rfl (.int .i64 (y3 : Int))) (by omega)
  have hW := below_but (below_but HB.out hu (by first | omega | (simp; omega)) (by omega)) (But.set_ (g := w1.heap.size) w3 (p := ⟨w1.heap.size, 2, none⟩) rfl (.int .i64 (y3 : Int))) (by omega) (by omega)
  have hf := hS.frozen 2
  have hc : w3.cell? ⟨w1.heap.size, 2, none⟩ = some (.int .i64 0) := hS.cell 2
  have hS' := hS.set_ 2 (.int .i64 (y3 : Int))
  clear HS HB2 HP HB
  have HS := Lib.hid (show Blk _ w1.heap.size 25 (stc [y1, y2, y3]) from hS')
  have HB2 := Lib.hid hB'
  have HP := Lib.hid hP2
  have HB := Lib.hid hW
  clear hu hS hS' hP hP2 hB hB' hW C3
  go_wp2_with fail
  refine (C4.out _ HP.out).mono ?_
  rintro e w4 ⟨rfl, hP, hu⟩
  have hsz4 : w1.heap.size < w4.heap.size := by have := hu.size; simp at this; omega
  have hS := Blk.but HS.out hu (by omega)
  have hP2 := hP.but (But.set_ (g := w1.heap.size) w4 (p := ⟨w1.heap.size, 3, none⟩) rfl (.int .i64 (y4 : Int))) (by omega)
  have hB := HB2.out.but hu (show w.heap.size ≠ w.heap.size + 1 by omega)
  have hB' := hB.but (But.set_ (g := w1.heap.size) w4 (p := ⟨w1.heap.size, 3, none⟩) rfl (.int .i64 (y4 : Int))) (by omega)
  have hW := below_but (below_but HB.out hu (by first | omega | (simp; omega)) (by omega)) (But.set_ (g := w1.heap.size) w4 (p := ⟨w1.heap.size, 3, none⟩) rfl (.int .i64 (y4 : Int))) (by omega) (by omega)
  have hf := hS.frozen 3
  have hc : w4.cell? ⟨w1.heap.size, 3, none⟩ = some (.int .i64 0) := hS.cell 3
  have hS' := hS.set_ 3 (.int .i64 (y4 : Int))
  clear HS HB2 HP HB
  have HS := Lib.hid (show Blk _ w1.heap.size 25 (stc [y1, y2, y3, y4]) from hS')
  have HB2 := Lib.hid hB'
  have HP := Lib.hid hP2
  have HB := Lib.hid hW
  clear hu hS hS' hP hP2 hB hB' hW C4
  go_wp2_with fail
  refine (C5.out _ HP.out).mono ?_
  rintro e w5 ⟨rfl, hP, hu⟩
  have hsz5 : w1.heap.size < w5.heap.size := by have := hu.size; simp at this; omega
  have hS := Blk.but HS.out hu (by omega)
  have hP2 := hP.but (But.set_ (g := w1.heap.size) w5 (p := ⟨w1.heap.size, 4, none⟩) rfl (.int .i64 (y5 : Int))) (by omega)
  have hB := HB2.out.but hu (show w.heap.size ≠ w.heap.size + 1 by omega)
  have hB' := hB.but (But.set_ (g := w1.heap.size) w5 (p := ⟨w1.heap.size, 4, none⟩) rfl (.int .i64 (y5 : Int))) (by omega)
  have hW := below_but (below_but HB.out hu (by first | omega | (simp; omega)) (by omega)) (But.set_ (g := w1.heap.size) w5 (p := ⟨w1.heap.size, 4, none⟩) rfl (.int .i64 (y5 : Int))) (by omega) (by omega)
  have hf := hS.frozen 4
  have hc : w5.cell? ⟨w1.heap.size, 4, none⟩ = some (.int .i64 0) := hS.cell 4
  have hS' := hS.set_ 4 (.int .i64 (y5 : Int))
  clear HS HB2 HP HB
  have HS := Lib.hid (show Blk _ w1.heap.size 25 (stc [y1, y2, y3, y4, y5]) from hS')
  have HB2 := Lib.hid hB'
  have HP := Lib.hid hP2
  have HB := Lib.hid hW
  clear hu hS hS' hP hP2 hB hB' hW C5
  go_wp2_with fail
  refine (C6.out _ HP.out).mono ?_
  rintro e w6 ⟨sp, A1, c1, rfl, ho1, hP, hu, hsp⟩
  have hsz6 : w1.heap.size < w6.heap.size := by have := hu.size; simp at this; omega
  have hS := Blk.but HS.out hu (by omega)
  have hu5 := But.set_ (g := w1.heap.size) w6 (p := ⟨w1.heap.size, 5, none⟩) rfl (.slice A1 sp.length c1)
  have hP2 := hP.but hu5 (by omega)
  have hB := HB2.out.but hu (show w.heap.size ≠ w.heap.size + 1 by omega)
  have hB' := hB.but hu5 (by omega)
  have hW := below_but (below_but HB.out hu (by first | omega | (simp; omega)) (by omega)) hu5 (by omega) (by omega)
  have ho1' := own_but ho1 hu5 (by simp; omega)
  have hf := hS.frozen 5
  have hc : w6.cell? ⟨w1.heap.size, 5, none⟩ = some (.slice none 0 0) := hS.cell 5
  have hS' := hS.set_ 5 (.slice A1 sp.length c1)
  clear HS HB2 HP HB
  have HSP := Lib.hid hsp
  obtain ⟨m, hm⟩ : ∃ m, m = sp.length := ⟨_, rfl⟩
  rw [← hm] at hS' hP2 hB' hW ho1' ⊢
  have HM := Lib.hid hm
  have HS := Lib.hid (show Blk _ w1.heap.size 25 #[.int .i64 (y1 : Int), .int .i64 (y2 : Int), .int .i64 (y3 : Int), .int .i64 (y4 : Int), .int .i64 (y5 : Int), .slice A1 m c1, .slice none 0 0] from hS')
  have HB2 := Lib.hid hB'
  have HP := Lib.hid hP2
  have HB := Lib.hid hW
  have HO1 := Lib.hid ho1'
  clear hu hS hS' hP hP2 hB hB' hW C6 ho1 ho1' hu5 hsp hm
  go_wp2_with fail
  refine (C7.out _ HP.out).mono ?_
  rintro e w7 ⟨A3, c3, rfl, ho2, hP, hu⟩
  have hsz7 : w1.heap.size < w7.heap.size := by have := hu.size; simp at this; omega
  have hS := Blk.but HS.out hu (by omega)
  have hu5 := But.set_ (g := w1.heap.size) w7 (p := ⟨w1.heap.size, 6, none⟩) rfl (.slice A3 vn c3)
  have hP2 := hP.but hu5 (by omega)
  have hB := HB2.out.but hu (show w.heap.size ≠ w.heap.size + 1 by omega)
  have hB' := hB.but hu5 (by omega)
  have hW := below_but (below_but HB.out hu (by first | omega | (simp; omega)) (by omega)) hu5 (by omega) (by omega)
  have ho1' := own_but (own_but HO1.out hu (by simp; omega)) hu5 (by simp; omega)
  have ho2' := own_but ho2 hu5 (by simp; omega)
  have hf := hS.frozen 6
  have hc0 : w7.cell? ⟨w1.heap.size, 0, none⟩ = some (.int .i64 (y1 : Int)) := hS.cell 0
  have hc1 : w7.cell? ⟨w1.heap.size, 1, none⟩ = some (.int .i64 (y2 : Int)) := hS.cell 1
  have hc2 : w7.cell? ⟨w1.heap.size, 2, none⟩ = some (.int .i64 (y3 : Int)) := hS.cell 2
  have hc3 : w7.cell? ⟨w1.heap.size, 3, none⟩ = some (.int .i64 (y4 : Int)) := hS.cell 3
  have hc4 : w7.cell? ⟨w1.heap.size, 4, none⟩ = some (.int .i64 (y5 : Int)) := hS.cell 4
  have hc5 : w7.cell? ⟨w1.heap.size, 5, none⟩ = some (.slice A1 m c1) := hS.cell 5
  have hc : w7.cell? ⟨w1.heap.size, 6, none⟩ = some (.slice none 0 0) := hS.cell 6
  have HP7 := Lib.hid hP
  have hS' := hS.set_ 6 (.slice A3 vn c3)
  clear HS HB2 HP HB HO1
  obtain ⟨w8, hw8⟩ : ∃ w8, w8 = w7.setCell ⟨w1.heap.size, 6, none⟩ (.slice A3 vn c3) := ⟨_, rfl⟩
  rw [← hw8] at hS' hB' hP2 hW ho1' ho2'
  have hs8 : w8.heap.size = w7.heap.size := by rw [hw8]; simp
  have HW8 := Lib.hid hw8.symm
  have HS := Lib.hid (show Blk w8 w1.heap.size 25 #[.int .i64 (y1 : Int), .int .i64 (y2 : Int), .int .i64 (y3 : Int), .int .i64 (y4 : Int), .int .i64 (y5 : Int), .slice A1 m c1, .slice A3 vn c3] from hS')
  have HB2 := Lib.hid hB'
  have HP := Lib.hid hP2
  have HB := Lib.hid hW
  have HO1 := Lib.hid ho1'
  have HO2 := Lib.hid ho2'
  have k0 := HS.out.cell 0
  clear hu hS hS' hP hP2 hB hB' hW C7 ho1' ho2 ho2' hu5 k0 hw8
  have HB2' := Lib.hid (show Blk (w7.setCell ⟨w1.heap.size, 6, none⟩ (.slice A3 vn c3)) w.heap.size 25 _ by rw [HW8.out]; exact HB2.out)
  have HB' := Lib.hid (show Below w.heap.size w (w7.setCell ⟨w1.heap.size, 6, none⟩ (.slice A3 vn c3)) by rw [HW8.out]; exact HB.out)
  have hne : w.heap.size + 1 ≠ w1.heap.size := by omega
  rcases s7 with _ | q
  · have HN := Lib.hid (HCH.out rfl)
    obtain ⟨Ar, nr, cr, kr, hBr⟩ := HP7.out
    have d2 := hBr.cell 2
    clear hBr
    go_wp2_with (refine wpList_store_blk rfl 25 _ _ rfl w.heap.size 25 _ #[.int .i64 0, .int .i64 0, .int .i64 0, .int .i64 0, .int .i64 0, .slice none 0 0, .slice none 0 0] rfl rfl HB2'.out HI.out rfl (by simp [Value.oneCell']) ?_; intro wz hkz hgz)
    refine bodyPost_ret (res_ct rfl _ _ w.heap.size 25 _ _ _ rfl hkz Try.underlying25 rfl HI.out) rfl ?_
    obtain ⟨e1, e2⟩ := Sc.decX_no HN.out
    rw [e1, e2]
    exact ⟨SV0, rfl, StpOwn.zero _ _ 0 0 0 0 0, HB'.out.trans (grown_below hgz HB'.out.size (fun k hk => by cases hk; exact Nat.le_refl _))⟩
  · obtain ⟨hn1, hn2, r6, hr6⟩ := HCS.out q rfl
    have hspe := HSP.out r6 hr6
    rw [← hspe] at hn1 hn2
    rw [HX0.out] at hn1 hn2
    obtain ⟨Ar, nr, cr, hBr, hqr⟩ := HP7.out
    have d1 := hBr.cell 1
    have d2 := hBr.cell 2
    have hle : q.length ≤ n := by rw [← HL.out]; exact hqr.2.2.2
    rw [HL.out] at d1
    obtain ⟨x, hxe⟩ : ∃ x : Sc.Stp, x = ⟨(y1 : Int), (y2 : Int), (y3 : Int), (y4 : Int), (y5 : Int), sp, vr⟩ := ⟨_, rfl⟩
    rw [← hxe] at hn1 hn2
    have HXE := Lib.hid hxe
    by_cases hq : q = []
    · have hz1 : (((n - q.length : Nat) : Int) != (n : Int)) = false := by rw [hq]; simp
      have HF := Lib.hid (fun h : Sc.fmB x = true => hn1 ⟨hq, fmB_iff.1 h⟩)
      have HF2 := Lib.hid (fun h : Sc.fmB x = false => hn2 (fun k => by have := fmB_iff.2 k.2; rw [h] at this; cases this))
      have hSt : StpRd w8 w8.heap.size ⟨A1, m, c1, A3, vn, c3⟩ x := by
        rw [hxe]; exact ⟨HM.out.symm, Rd.of_own HO1.out, HVN.out.symm, Rd.of_own HO2.out⟩
      have HST := Lib.hid hSt
      have G5 := Lib.hid (refScFormed_any ⟨A1, m, c1, A3, vn, c3⟩ x w8 hSt)
      have G5' : Calls Try.prog 13 #[.agg #[.int .i64 (y1 : Int), .int .i64 (y2 : Int), .int .i64 (y3 : Int), .int .i64 (y4 : Int), .int .i64 (y5 : Int), .slice A1 m c1, .slice A3 vn c3]] w8 fun e w' => e = .returned (.bool (Sc.fmB x)) ∧ Below w8.heap.size w8 w' := by
        have := G5.out; rw [hxe] at this ⊢; exact this
      have H5 := Lib.hid G5'
      clear hBr hqr hq hn1 hn2 hspe hr6 G5 G5' hSt hxe
      go_wp2_with fail
      rw [HW8.out]
      refine H5.out.mono ?_
      rintro e w9 ⟨rfl, hb9⟩
      have HB2' := Lib.hid (HB2.out.go hb9)
      have HB' := Lib.hid (below_then HB.out (Nat.le_refl _) hb9)
      have HX9 := Lib.hid (HS.out.go hb9)
      have HO91 := Lib.hid (own_below HO1.out hb9 (Nat.le_refl _))
      have HO92 := Lib.hid (own_below HO2.out hb9 (Nat.le_refl _))
      rcases hfx : Sc.fmB x with _ | _
      · have HN := Lib.hid (HF2.out hfx)
        clear hfx d1 d2 hc0 hc1 hc2 hc3 hc4 hc5 hc hf
        go_wp2_with (refine wpList_store_blk rfl 25 _ _ rfl w.heap.size 25 _ #[.int .i64 0, .int .i64 0, .int .i64 0, .int .i64 0, .int .i64 0, .slice none 0 0, .slice none 0 0] rfl rfl HB2'.out HI.out rfl (by simp [Value.oneCell']) ?_; intro wz hkz hgz)
        refine bodyPost_ret (res_ct rfl _ _ w.heap.size 25 _ _ _ rfl hkz Try.underlying25 rfl HI.out) rfl ?_
        obtain ⟨e1, e2⟩ := Sc.decX_no HN.out
        rw [e1, e2]
        exact ⟨SV0, rfl, StpOwn.zero _ _ 0 0 0 0 0, HB'.out.trans (grown_below hgz HB'.out.size (fun k hk => by cases hk; exact Nat.le_refl _))⟩
      · have HN := Lib.hid (HF.out hfx)
        clear hfx d1 d2 hc0 hc1 hc2 hc3 hc4 hc5 hc hf
        go_wp2_with (first
          | (refine wpList_load_row rfl 25 _ rfl w1.heap.size rfl 25 _ _ _ HX9.out Try.underlying25 rfl HI.out ?_)
          | (refine wpList_store_blk rfl 25 _ _ rfl w.heap.size 25 _ #[.int .i64 (y1 : Int), .int .i64 (y2 : Int), .int .i64 (y3 : Int), .int .i64 (y4 : Int), .int .i64 (y5 : Int), .slice A1 m c1, .slice A3 vn c3] rfl rfl HB2'.out HI.out rfl (by simp [Value.oneCell']) ?_; intro wz hkz hgz))
        refine bodyPost_ret (res_ct rfl _ _ w.heap.size 25 _ _ _ rfl hkz Try.underlying25 rfl HI.out) rfl ?_
        obtain ⟨e1, e2⟩ := Sc.decX_yes HN.out
        rw [e1, e2]
        refine ⟨⟨A1, m, c1, A3, vn, c3⟩, by rw [HXE.out]; rfl, ?_, HB'.out.trans (grown_below hgz HB'.out.size (fun k hk => by cases hk; exact Nat.le_refl _))⟩
        rw [HXE.out]
        exact ⟨HM.out.symm, own_less (own_far HO91.out hgz (by simp; omega)) (by simp; omega), HVN.out.symm, own_less (own_far HO92.out hgz (by simp; omega)) (by simp; omega)⟩
    · have hz1 : (((n - q.length : Nat) : Int) != (n : Int)) = true := by
        have : 0 < q.length := List.length_pos_iff.2 hq
        exact bne_iff_ne.2 (by omega)
      have HN := Lib.hid (hn2 fun k => hq k.1)
      clear hBr hqr hq hn1 hn2 hspe hr6 hxe
      go_wp2_with (refine wpList_store_blk rfl 25 _ _ rfl w.heap.size 25 _ #[.int .i64 0, .int .i64 0, .int .i64 0, .int .i64 0, .int .i64 0, .slice none 0 0, .slice none 0 0] rfl rfl HB2'.out HI.out rfl (by simp [Value.oneCell']) ?_; intro wz hkz hgz)
      refine bodyPost_ret (res_ct rfl _ _ w.heap.size 25 _ _ _ rfl hkz Try.underlying25 rfl HI.out) rfl ?_
      obtain ⟨e1, e2⟩ := Sc.decX_no HN.out
      rw [e1, e2]
      exact ⟨SV0, rfl, StpOwn.zero _ _ 0 0 0 0 0, HB'.out.trans (grown_below hgz HB'.out.size (fun k hk => by cases hk; exact Nat.le_refl _))⟩

theorem refScDecode_any (A : Option Addr) (n c : Nat) (l : List UInt8) (w : World) (hl : l.length = n) (hR : Rd w w.heap.size 1 A n c (bv l)) (hn : n ≤ 4294967296) :
    Calls Try.prog 16 #[.slice A n c] w (DecP w (Sc.decX l) (Sc.decE l)) := (refScDecode_own A n c l w hl hR hn).mono fun _ _ ⟨v, h1, h2, h3⟩ => ⟨v, h1, h2.rd, h3⟩
end Go.Proofs.Ytldcgmnfohhjbac
