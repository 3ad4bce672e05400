/- Walk over the law SpanSets (printed by wip/tools/genSpZ.py). -/
import Derived.Test.YtafbaagjokomcaaSpZ
namespace Go.Proofs.Ytafbaagjokomcaa
open Go.RowKit
set_option maxRecDepth 100000

theorem alloc_then {W V : World} {o : Obj} (h : Below (W.alloc o).heap.size (W.alloc o) V) : Below W.heap.size W V := ((Below.refl _ W).alloc (Nat.le_refl _) o).trans (h.mono (by simp))
theorem RdL.one {w : World} {A : Option Addr} {n c : Nat} {u : List Vc.St} (hl : u.length = n) (hR : Rd w w.heap.size 2 A n c (sv u)) (t : TypeId) :
    RdL (w.alloc (.cells #[.slice A n c] t)) (w.alloc (.cells #[.slice A n c] t)).heap.size (some ⟨w.heap.size, 0, none⟩) 1 1 [u] := by
  have hb : Below w.heap.size w (w.alloc (.cells #[.slice A n c] t)) := (Below.refl _ _).alloc (Nat.le_refl _) _
  have hB := Blk.new w t #[.slice A n c]
  refine ⟨rfl, Nat.le_refl _, by simp [maxLen], (fun h => by cases h), fun k hk => ?_⟩
  rcases k with _ | k
  · exact ⟨w.heap.size, 0, A, n, c, rfl, by simp, hB.cell 0, hl, hR.go hb⟩
  · simp only [List.length_cons, List.length_nil] at hk; omega
theorem rd_all (w : World) (t : TypeId) : Rd (w.alloc (.cells #[.int .i64 0, .int .i64 255] t)) (w.alloc (.cells #[.int .i64 0, .int .i64 255] t)).heap.size 2 (some ⟨w.heap.size, 0, none⟩) 1 1 (sv Sn.all_) := by
  have := Rd.new w t 2 1 #[.int .i64 0, .int .i64 255] rfl (by unfold maxLen; omega)
  rw [World.size_alloc]
  exact this

set_option maxHeartbeats 16000000 in
theorem spanSets_walk (A : Option Addr) (n c : Nat) (a : List Sn.Sp) (B : Option Addr) (m d : Nat) (b : List Sn.Sp) (o : Int) (w : World) (hl : a.length = n) (hR : Rd w w.heap.size 2 A n c (sv a)) (hl2 : b.length = m) (hR2 : Rd w w.heap.size 2 B m d (sv b)) (hn : n + m + 512 ≤ 8796093022208) :
    Calls Try.prog 8 #[.slice A n c, .slice B m d, .int .i64 o] w fun e w' => e = .returned (.bool true) ∧ Below w.heap.size w w' := by
  have HR := Lib.hid (fun (V : World) (hb : Below w.heap.size w V) => hR.go hb)
  have HS := Lib.hid (fun (V : World) (hb : Below w.heap.size w V) => hR2.go hb)
  have HL := Lib.hid hl
  have HL2 := Lib.hid hl2
  have lM : (Sn.meetL a b).length ≤ 128 := Sn.fmS_128 (Sn.of_fm _)
  have lL : (Sn.lessL a b).length ≤ 128 := Sn.fmS_128 (Sn.of_fm _)
  have lV : (Sn.lessL Sn.all_ a).length ≤ 128 := Sn.fmS_128 (Sn.of_fm _)
  have lJ := Sn.tidy_len [a, b].flatten
  have lW := Sn.tidy_len [Sn.lessL Sn.all_ a, a].flatten
  have fl : ∀ u v : List Sn.Sp, [u, v].flatten.length = u.length + v.length := fun u v => by simp
  have G0 := Lib.hid (aliveS_any w)
  have GM := Lib.hid fun (W : World) h1 h2 => meet_any A n c a B m d b W hl h1 (by omega) hl2 h2 (by omega)
  have GL := Lib.hid fun (W : World) h1 h2 => less_any A n c a B m d b W hl h1 (by omega) hl2 h2 (by omega)
  have GJ := Lib.hid fun (W : World) (D : Option Addr) h => joinS_any D 2 2 [a, b] W h (by rw [fl, hl, hl2]; omega)
  have GT := fun (W : World) (X : Option Addr) (x : Nat) (Y : Option Addr) (y : Nat) h1 h2 => touch_any X _ x (Sn.meetL a b) Y _ y (Sn.lessL a b) W rfl h1 (by omega) rfl h2 (by omega)
  rw [Sn.tch_meet, Sn.sets_touch, decide_eq_false (p := ([] : List Sn.Sp) ≠ []) (by simp)] at GT
  have GT := Lib.hid GT
  have GJ2 := fun (W : World) (D : Option Addr) h => joinS_any D 2 2 [Sn.meetL a b, Sn.lessL a b] W h (by rw [fl]; omega)
  have GJ3 := fun (W : World) (D : Option Addr) h => joinS_any D 1 1 [a] W h (by simp; omega)
  rw [Sn.sets_join] at GJ2
  have GL2 := fun (W : World) (X : Option Addr) (x : Nat) h1 h2 => less_any X _ x (Sn.tidy [a, b].flatten) B m d b W rfl h1 (by omega) hl2 h2 (by omega)
  rw [Sn.sets_less] at GL2
  have GL2 := Lib.hid GL2
  have GZ1 := Lib.hid fun (W : World) (X : Option Addr) (x : Nat) h => spSize_any X _ x (Sn.meetL a b) W rfl h (by omega)
  have GZ2 := Lib.hid fun (W : World) (X : Option Addr) (x : Nat) h => spSize_any X _ x (Sn.lessL a b) W rfl h (by omega)
  have GZ3 := Lib.hid fun (W : World) h => spSize_any A n c a W hl h (by omega)
  have GL3 := Lib.hid fun (W : World) (D : Option Addr) h1 h2 => less_any D 1 1 Sn.all_ A n c a W rfl h1 (by omega) hl h2 (by omega)
  have GT2 := fun (W : World) (X : Option Addr) (x : Nat) h1 h2 => touch_any X _ x (Sn.lessL Sn.all_ a) A n c a W rfl h1 (by omega) hl h2 (by omega)
  rw [Sn.tch_meet, Sn.sets_rest, decide_eq_false (p := ([] : List Sn.Sp) ≠ []) (by simp)] at GT2
  have GT2 := Lib.hid GT2
  have GJ4 := Lib.hid fun (W : World) (D : Option Addr) h => joinS_any D 2 2 [Sn.lessL Sn.all_ a, a] W h (by rw [fl, hl]; omega)
  have GZ4 := fun (W : World) (X : Option Addr) (x : Nat) h => spSize_any X _ x (Sn.tidy [Sn.lessL Sn.all_ a, a].flatten) W rfl h (by omega)
  rw [sets_full] at GZ4
  have GZ4 := Lib.hid GZ4
  have GHJ := fun (W : World) (X : Option Addr) (x : Nat) h => hasS_any X _ x (Sn.tidy [a, b].flatten) o W rfl h
  have GHP := fun (W : World) (X : Option Addr) (x : Nat) h => hasS_any X _ x (Sn.meetL a b) o W rfl h
  rw [sets_hasJ] at GHJ
  rw [sets_hasM] at GHP
  have GHa := fun (W : World) h => hasS_any A n c a o W hl h
  have GHb := fun (W : World) h => hasS_any B m d b o W hl2 h
  have GC := fun (W : World) h1 h2 => covers_any_ A n c a B m d b W hl h1 (by omega) hl2 h2 (by omega)
  rw [sets_covers] at GC
  have GZ5 := fun (W : World) h => spSize_any B m d b W hl2 h (by omega)
  have E1 := fun (W : World) (X Y : Option Addr) (x y p : Nat) (u : List Vc.St) hu h1 h2 => sameS_any X Y p x p y u u W hu hu h1 h2
  simp only [decide_true] at E1
  have E1 := Lib.hid E1
  have hsum := sets_size a b
  have b1 := numTo_le (Sn.setOf (Sn.meetL a b)) 256
  have b2 := numTo_le (Sn.setOf (Sn.lessL a b)) 256
  have b3 := numTo_le (Sn.setOf a) 256
  have b5 := numTo_le (Sn.setOf b) 256
  clear hR hl hR2 hl2 lM lL lV lJ lW fl
  generalize numTo (Sn.setOf (Sn.meetL a b)) 256 = s1 at *
  generalize numTo (Sn.setOf (Sn.lessL a b)) 256 = s2 at *
  generalize numTo (Sn.setOf a) 256 = s3 at *
  generalize numTo (Sn.setOf b) 256 = s5 at *
  subst hsum
  generalize hasO a o = x at GHJ GHP GHa
  generalize hasO b o = y at GHJ GHP GHb
  generalize Sn.meetL a b = PP at *
  generalize Sn.lessL a b = LL at *
  generalize Sn.tidy [a, b].flatten = JJ at *
  generalize Sn.tidy [a].flatten = TA at *
  generalize Sn.tidy [Sn.lessL Sn.all_ a, a].flatten = WW at *
  generalize Sn.lessL Sn.all_ a = VV at *
  have GJ2 := Lib.hid GJ2
  have GJ3 := Lib.hid GJ3
  have GHJ := Lib.hid GHJ
  have GHP := Lib.hid GHP
  have GHa := Lib.hid GHa
  have GHb := Lib.hid GHb
  have GC := Lib.hid GC
  have GZ5 := Lib.hid GZ5
  have k : Below w.heap.size w w := Below.refl _ _
  go_enter Try.func8, Try.ntmps8
  go_wp2_with (go_at_call 9; go_must (refine (G0.out).mono ?_); rintro e w' ⟨rfl, hb'⟩; have k := below_then k (Nat.le_refl _) hb'; clear hb')
  go_wp2_with (go_at_call 24; go_must (refine (GM.out _ (HR.out _ k) (HS.out _ k)).mono ?_); rintro e wP ⟨XP, xP, rfl, ho, hb'⟩; have k := below_then k (Nat.le_refl _) hb'; clear hb'; have HP := Lib.hid (fun (V : World) (hb : Below wP.heap.size wP V) => (Rd.of_own ho).go hb); have kP : Below wP.heap.size wP wP := Below.refl _ _; clear ho)
  go_wp2_with (go_at_call 25; go_must (refine (GL.out _ (HR.out _ k) (HS.out _ k)).mono ?_); rintro e wQ ⟨XQ, xQ, rfl, ho, hb'⟩; have k := below_then k (Nat.le_refl _) hb'; have kP := below_then kP (Nat.le_refl _) hb'; clear hb'; have HQ := Lib.hid (fun (V : World) (hb : Below wQ.heap.size wQ V) => (Rd.of_own ho).go hb); have kQ : Below wQ.heap.size wQ wQ := Below.refl _ _; clear ho)
  go_wp2_with (go_at_call 22; go_must (refine (GJ.out _ _ (RdL.two HL.out HL2.out (HR.out _ k) (HS.out _ k) _)).mono ?_); rintro e wJ ⟨XJ, xJ, rfl, ho, hb'⟩; have hb' := alloc_then hb'; have k := below_then k (Nat.le_refl _) hb'; have kP := below_then kP (Nat.le_refl _) hb'; have kQ := below_then kQ (Nat.le_refl _) hb'; clear hb'; have HJ := Lib.hid (fun (V : World) (hb : Below wJ.heap.size wJ V) => (Rd.of_own ho).go hb); have kJ : Below wJ.heap.size wJ wJ := Below.refl _ _; clear ho)
  go_wp2_with (go_at_call 30; go_must (refine (GT.out _ _ _ _ _ (HP.out _ kP) (HQ.out _ kQ)).mono ?_); rintro e w' ⟨rfl, hb'⟩; have k := below_then k (Nat.le_refl _) hb'; have kP := below_then kP (Nat.le_refl _) hb'; have kQ := below_then kQ (Nat.le_refl _) hb'; have kJ := below_then kJ (Nat.le_refl _) hb'; clear hb')
  go_wp2_with (go_at_call 22; (first
    | ((with_reducible refine (GJ2.out _ _ (RdL.two rfl rfl (HP.out _ kP) (HQ.out _ kQ) _)).mono ?_); rintro e wX ⟨XX, xX, rfl, ho, hb'⟩; have hb' := alloc_then hb'; have k := below_then k (Nat.le_refl _) hb'; have kP := below_then kP (Nat.le_refl _) hb'; have kQ := below_then kQ (Nat.le_refl _) hb'; have kJ := below_then kJ (Nat.le_refl _) hb'; clear hb'; have HX := Lib.hid (fun (V : World) (hb : Below wX.heap.size wX V) => (Rd.of_own ho).go hb); have kX : Below wX.heap.size wX wX := Below.refl _ _; clear ho)
    | ((with_reducible refine (GJ3.out _ _ (RdL.one HL.out (HR.out _ k) _)).mono ?_); rintro e wY ⟨XY, xY, rfl, ho, hb'⟩; have hb' := alloc_then hb'; have k := below_then k (Nat.le_refl _) hb'; have kP := below_then kP (Nat.le_refl _) hb'; have kQ := below_then kQ (Nat.le_refl _) hb'; have kJ := below_then kJ (Nat.le_refl _) hb'; have kX := below_then kX (Nat.le_refl _) hb'; clear hb'; have HY := Lib.hid (fun (V : World) (hb : Below wY.heap.size wY V) => (Rd.of_own ho).go hb); have kY : Below wY.heap.size wY wY := Below.refl _ _; clear ho)))
  go_wp2_with (go_at_call 11; go_must (refine (E1.out _ _ _ _ _ _ TA rfl (HX.out _ kX) (HY.out _ kY)).mono ?_); rintro e w' ⟨rfl, hb'⟩; have k := below_then k (Nat.le_refl _) hb'; have kP := below_then kP (Nat.le_refl _) hb'; have kQ := below_then kQ (Nat.le_refl _) hb'; have kJ := below_then kJ (Nat.le_refl _) hb'; have kX := below_then kX (Nat.le_refl _) hb'; have kY := below_then kY (Nat.le_refl _) hb'; clear hb')
  go_wp2_with (go_at_call 25; go_must (refine (GL2.out _ _ _ (HJ.out _ kJ) (HS.out _ k)).mono ?_); rintro e wU ⟨XU, xU, rfl, ho, hb'⟩; have k := below_then k (Nat.le_refl _) hb'; have kP := below_then kP (Nat.le_refl _) hb'; have kQ := below_then kQ (Nat.le_refl _) hb'; have kJ := below_then kJ (Nat.le_refl _) hb'; have kX := below_then kX (Nat.le_refl _) hb'; have kY := below_then kY (Nat.le_refl _) hb'; clear hb'; have HU := Lib.hid (fun (V : World) (hb : Below wU.heap.size wU V) => (Rd.of_own ho).go hb); have kU : Below wU.heap.size wU wU := Below.refl _ _; clear ho)
  go_wp2_with (go_at_call 11; go_must (refine (E1.out _ _ _ _ _ _ LL rfl (HU.out _ kU) (HQ.out _ kQ)).mono ?_); rintro e w' ⟨rfl, hb'⟩; have k := below_then k (Nat.le_refl _) hb'; have kP := below_then kP (Nat.le_refl _) hb'; have kQ := below_then kQ (Nat.le_refl _) hb'; have kJ := below_then kJ (Nat.le_refl _) hb'; have kX := below_then kX (Nat.le_refl _) hb'; have kY := below_then kY (Nat.le_refl _) hb'; have kU := below_then kU (Nat.le_refl _) hb'; clear hb')
  go_wp2_with (go_at_call 21; (first
    | ((with_reducible refine (GZ1.out _ _ _ (HP.out _ kP)).mono ?_); rintro e w' ⟨rfl, hb'⟩; have k := below_then k (Nat.le_refl _) hb'; have kP := below_then kP (Nat.le_refl _) hb'; have kQ := below_then kQ (Nat.le_refl _) hb'; have kJ := below_then kJ (Nat.le_refl _) hb'; have kX := below_then kX (Nat.le_refl _) hb'; have kY := below_then kY (Nat.le_refl _) hb'; have kU := below_then kU (Nat.le_refl _) hb'; clear hb')
    | ((with_reducible refine (GZ2.out _ _ _ (HQ.out _ kQ)).mono ?_); rintro e w' ⟨rfl, hb'⟩; have k := below_then k (Nat.le_refl _) hb'; have kP := below_then kP (Nat.le_refl _) hb'; have kQ := below_then kQ (Nat.le_refl _) hb'; have kJ := below_then kJ (Nat.le_refl _) hb'; have kX := below_then kX (Nat.le_refl _) hb'; have kY := below_then kY (Nat.le_refl _) hb'; have kU := below_then kU (Nat.le_refl _) hb'; clear hb')
    | ((with_reducible refine (GZ3.out _ (HR.out _ k)).mono ?_); rintro e w' ⟨rfl, hb'⟩; have k := below_then k (Nat.le_refl _) hb'; have kP := below_then kP (Nat.le_refl _) hb'; have kQ := below_then kQ (Nat.le_refl _) hb'; have kJ := below_then kJ (Nat.le_refl _) hb'; have kX := below_then kX (Nat.le_refl _) hb'; have kY := below_then kY (Nat.le_refl _) hb'; have kU := below_then kU (Nat.le_refl _) hb'; clear hb')))
  go_wp2_with (go_at_call 25; go_must (refine (GL3.out _ _ (rd_all _ _) (HR.out _ (k.alloc k.size _))).mono ?_); rintro e wV ⟨XV, xV, rfl, ho, hb'⟩; have hb' := alloc_then hb'; have k := below_then k (Nat.le_refl _) hb'; have kP := below_then kP (Nat.le_refl _) hb'; have kQ := below_then kQ (Nat.le_refl _) hb'; have kJ := below_then kJ (Nat.le_refl _) hb'; have kX := below_then kX (Nat.le_refl _) hb'; have kY := below_then kY (Nat.le_refl _) hb'; have kU := below_then kU (Nat.le_refl _) hb'; clear hb'; have HV := Lib.hid (fun (V : World) (hb : Below wV.heap.size wV V) => (Rd.of_own ho).go hb); have kV : Below wV.heap.size wV wV := Below.refl _ _; clear ho)
  go_wp2_with (go_at_call 30; go_must (refine (GT2.out _ _ _ (HV.out _ kV) (HR.out _ k)).mono ?_); rintro e w' ⟨rfl, hb'⟩; have k := below_then k (Nat.le_refl _) hb'; have kP := below_then kP (Nat.le_refl _) hb'; have kQ := below_then kQ (Nat.le_refl _) hb'; have kJ := below_then kJ (Nat.le_refl _) hb'; have kX := below_then kX (Nat.le_refl _) hb'; have kY := below_then kY (Nat.le_refl _) hb'; have kU := below_then kU (Nat.le_refl _) hb'; have kV := below_then kV (Nat.le_refl _) hb'; clear hb')
  go_wp2_with (go_at_call 22; go_must (refine (GJ4.out _ _ (RdL.two rfl HL.out (HV.out _ kV) (HR.out _ k) _)).mono ?_); rintro e wW ⟨XW, xW, rfl, ho, hb'⟩; have hb' := alloc_then hb'; have k := below_then k (Nat.le_refl _) hb'; have kP := below_then kP (Nat.le_refl _) hb'; have kQ := below_then kQ (Nat.le_refl _) hb'; have kJ := below_then kJ (Nat.le_refl _) hb'; have kX := below_then kX (Nat.le_refl _) hb'; have kY := below_then kY (Nat.le_refl _) hb'; have kU := below_then kU (Nat.le_refl _) hb'; have kV := below_then kV (Nat.le_refl _) hb'; clear hb'; have HW := Lib.hid (fun (V : World) (hb : Below wW.heap.size wW V) => (Rd.of_own ho).go hb); have kW : Below wW.heap.size wW wW := Below.refl _ _; clear ho)
  go_wp2_with (go_at_call 21; go_must (refine (GZ4.out _ _ _ (HW.out _ kW)).mono ?_); rintro e w' ⟨rfl, hb'⟩; have k := below_then k (Nat.le_refl _) hb'; have kP := below_then kP (Nat.le_refl _) hb'; have kQ := below_then kQ (Nat.le_refl _) hb'; have kJ := below_then kJ (Nat.le_refl _) hb'; have kX := below_then kX (Nat.le_refl _) hb'; have kY := below_then kY (Nat.le_refl _) hb'; have kU := below_then kU (Nat.le_refl _) hb'; have kV := below_then kV (Nat.le_refl _) hb'; have kW := below_then kW (Nat.le_refl _) hb'; clear hb')
  rcases x with _ | _ <;> rcases y with _ | _
  all_goals
    go_wp2_with (first
      | (go_at_call 19; (first
        | ((with_reducible refine (GHJ.out _ _ _ (HJ.out _ kJ)).mono ?_); rintro e w' ⟨rfl, hb'⟩; have k := below_then k (Nat.le_refl _) hb'; have kP := below_then kP (Nat.le_refl _) hb'; have kQ := below_then kQ (Nat.le_refl _) hb'; have kJ := below_then kJ (Nat.le_refl _) hb'; have kX := below_then kX (Nat.le_refl _) hb'; have kY := below_then kY (Nat.le_refl _) hb'; have kU := below_then kU (Nat.le_refl _) hb'; have kV := below_then kV (Nat.le_refl _) hb'; have kW := below_then kW (Nat.le_refl _) hb'; clear hb')
        | ((with_reducible refine (GHP.out _ _ _ (HP.out _ kP)).mono ?_); rintro e w' ⟨rfl, hb'⟩; have k := below_then k (Nat.le_refl _) hb'; have kP := below_then kP (Nat.le_refl _) hb'; have kQ := below_then kQ (Nat.le_refl _) hb'; have kJ := below_then kJ (Nat.le_refl _) hb'; have kX := below_then kX (Nat.le_refl _) hb'; have kY := below_then kY (Nat.le_refl _) hb'; have kU := below_then kU (Nat.le_refl _) hb'; have kV := below_then kV (Nat.le_refl _) hb'; have kW := below_then kW (Nat.le_refl _) hb'; clear hb')
        | ((with_reducible refine (GHa.out _ (HR.out _ k)).mono ?_); rintro e w' ⟨rfl, hb'⟩; have k := below_then k (Nat.le_refl _) hb'; have kP := below_then kP (Nat.le_refl _) hb'; have kQ := below_then kQ (Nat.le_refl _) hb'; have kJ := below_then kJ (Nat.le_refl _) hb'; have kX := below_then kX (Nat.le_refl _) hb'; have kY := below_then kY (Nat.le_refl _) hb'; have kU := below_then kU (Nat.le_refl _) hb'; have kV := below_then kV (Nat.le_refl _) hb'; have kW := below_then kW (Nat.le_refl _) hb'; clear hb')
        | ((with_reducible refine (GHb.out _ (HS.out _ k)).mono ?_); rintro e w' ⟨rfl, hb'⟩; have k := below_then k (Nat.le_refl _) hb'; have kP := below_then kP (Nat.le_refl _) hb'; have kQ := below_then kQ (Nat.le_refl _) hb'; have kJ := below_then kJ (Nat.le_refl _) hb'; have kX := below_then kX (Nat.le_refl _) hb'; have kY := below_then kY (Nat.le_refl _) hb'; have kU := below_then kU (Nat.le_refl _) hb'; have kV := below_then kV (Nat.le_refl _) hb'; have kW := below_then kW (Nat.le_refl _) hb'; clear hb')
        ))
      | (go_at_call 28; go_must (refine (GC.out _ (HR.out _ k) (HS.out _ k)).mono ?_); rintro e w' ⟨rfl, hb'⟩; have k := below_then k (Nat.le_refl _) hb'; have kP := below_then kP (Nat.le_refl _) hb'; have kQ := below_then kQ (Nat.le_refl _) hb'; have kJ := below_then kJ (Nat.le_refl _) hb'; have kX := below_then kX (Nat.le_refl _) hb'; have kY := below_then kY (Nat.le_refl _) hb'; have kU := below_then kU (Nat.le_refl _) hb'; have kV := below_then kV (Nat.le_refl _) hb'; have kW := below_then kW (Nat.le_refl _) hb'; clear hb')
      | (go_at_call 21; (first
        | ((with_reducible refine (GZ1.out _ _ _ (HP.out _ kP)).mono ?_); rintro e w' ⟨rfl, hb'⟩; have k := below_then k (Nat.le_refl _) hb'; have kP := below_then kP (Nat.le_refl _) hb'; have kQ := below_then kQ (Nat.le_refl _) hb'; have kJ := below_then kJ (Nat.le_refl _) hb'; have kX := below_then kX (Nat.le_refl _) hb'; have kY := below_then kY (Nat.le_refl _) hb'; have kU := below_then kU (Nat.le_refl _) hb'; have kV := below_then kV (Nat.le_refl _) hb'; have kW := below_then kW (Nat.le_refl _) hb'; clear hb')
        | ((with_reducible refine (GZ5.out _ (HS.out _ k)).mono ?_); rintro e w' ⟨rfl, hb'⟩; have k := below_then k (Nat.le_refl _) hb'; have kP := below_then kP (Nat.le_refl _) hb'; have kQ := below_then kQ (Nat.le_refl _) hb'; have kJ := below_then kJ (Nat.le_refl _) hb'; have kX := below_then kX (Nat.le_refl _) hb'; have kY := below_then kY (Nat.le_refl _) hb'; have kU := below_then kU (Nat.le_refl _) hb'; have kV := below_then kV (Nat.le_refl _) hb'; have kW := below_then kW (Nat.le_refl _) hb'; clear hb')
        )))
    go_ret
    exact ⟨congrArg (fun q => Ending.returned (.bool q)) (show (decide (s1 = s5) == ((s1 : Int) == (s5 : Int))) = true by by_cases h : s1 = s5 <;> simp [h]; omega), k⟩
end Go.Proofs.Ytafbaagjokomcaa
