/- Walks over the laws SpanForms, SpanTwos. -/
import Derived.Test.YtafbaagjokomcaaSpS
namespace Go.Proofs.Ytafbaagjokomcaa
open Go.RowKit
set_option maxRecDepth 100000

set_option maxHeartbeats 4000000 in
theorem spanForms_walk (A : Option Addr) (n c : Nat) (l : List Sn.Sp) (o : Int) (w : World) (hl : l.length = n) (hR : Rd w w.heap.size 2 A n c (sv l)) (hn : n ≤ 8796093022208) :
    Calls Try.prog 5 #[.slice A n c, .int .i64 o] w fun e w' => e = .returned (.bool true) ∧ Below w.heap.size w w' := by
  have HR := Lib.hid (fun (V : World) (hb : Below w.heap.size w V) => hR.go hb)
  have G0 := Lib.hid (aliveS_any w)
  have G1 := Lib.hid fun (W : World) hR => copyS_any A n c (sv l) W hR (sv_oneCell _) hn
  have G2 := Lib.hid fun (W : World) (D : Option Addr) (d : Nat) hR => formedS_any D n d l W hl hR
  have G3 := Lib.hid fun (W : World) hR => refFormedS_any A n c l W hl hR
  have G4 := Lib.hid fun (W : World) (D : Option Addr) (d : Nat) hR => hasS_any D n d l o W hl hR
  have G5 := Lib.hid fun (W : World) hR => refHasS_any A n c l o W hl hR
  have G6 := Lib.hid fun (W : World) (D : Option Addr) (d : Nat) hR => spSize_any D n d l W hl hR hn
  have G7 := Lib.hid fun (W : World) hR => refSizeS_any A n c l W hl hR
  have G8 := fun (W : World) (D : Option Addr) (d : Nat) hR hR2 => sameS_any D A n d n c l l W hl hl hR hR2
  rw [decide_eq_true rfl] at G8
  have G8 := Lib.hid G8
  clear hR hl
  generalize Sn.fmS (-2) l = z1 at G2 G3
  generalize hasO l o = z2 at G4 G5
  generalize numTo (Sn.setOf l) 256 = z3 at G6 G7
  have k : Below w.heap.size w w := Below.refl _ _
  go_enter Try.func5, Try.ntmps5
  go_wp2_with (first
    | (go_at_call 9; go_must (refine G0.out.mono ?_); rintro e w' ⟨rfl, hb'⟩; have k := below_then k (Nat.le_refl _) hb'; clear hb')
    | (go_at_call 16; go_must (refine (G1.out _ (HR.out _ k)).mono ?_); rintro e w1 ⟨D, d, rfl, ho1, hb'⟩; have k := below_then k (Nat.le_refl _) hb'; clear hb'; have HD := Lib.hid (fun (V : World) (hb : Below w1.heap.size w1 V) => (Rd.of_own ho1).go hb); have k1 : Below w1.heap.size w1 w1 := Below.refl _ _; clear ho1)
    | (go_at_call 17; go_must (refine (G2.out _ _ _ (HD.out _ k1)).mono ?_); rintro e w' ⟨rfl, hb'⟩; have k := below_then k (Nat.le_refl _) hb'; have k1 := below_then k1 (Nat.le_refl _) hb'; clear hb')
    | (go_at_call 18; go_must (refine (G3.out _ (HR.out _ k)).mono ?_); rintro e w' ⟨rfl, hb'⟩; have k := below_then k (Nat.le_refl _) hb'; have k1 := below_then k1 (Nat.le_refl _) hb'; clear hb')
    | (go_at_call 19; go_must (refine (G4.out _ _ _ (HD.out _ k1)).mono ?_); rintro e w' ⟨rfl, hb'⟩; have k := below_then k (Nat.le_refl _) hb'; have k1 := below_then k1 (Nat.le_refl _) hb'; clear hb')
    | (go_at_call 20; go_must (refine (G5.out _ (HR.out _ k)).mono ?_); rintro e w' ⟨rfl, hb'⟩; have k := below_then k (Nat.le_refl _) hb'; have k1 := below_then k1 (Nat.le_refl _) hb'; clear hb')
    | (go_at_call 21; go_must (refine (G6.out _ _ _ (HD.out _ k1)).mono ?_); rintro e w' ⟨rfl, hb'⟩; have k := below_then k (Nat.le_refl _) hb'; have k1 := below_then k1 (Nat.le_refl _) hb'; clear hb')
    | (go_at_call 15; go_must (refine (G7.out _ (HR.out _ k)).mono ?_); rintro e w' ⟨rfl, hb'⟩; have k := below_then k (Nat.le_refl _) hb'; have k1 := below_then k1 (Nat.le_refl _) hb'; clear hb')
    | (go_at_call 11; go_must (refine (G8.out _ _ _ (HD.out _ k1) (HR.out _ k)).mono ?_); rintro e w' ⟨rfl, hb'⟩; have k := below_then k (Nat.le_refl _) hb'; have k1 := below_then k1 (Nat.le_refl _) hb'; clear hb'))
  go_ret
  exact ⟨rfl, k⟩

set_option maxHeartbeats 8000000 in
theorem spanTwos_walk (A : Option Addr) (n c : Nat) (a : List Sn.Sp) (B : Option Addr) (m d : Nat) (b : List Sn.Sp) (w : World) (hl : a.length = n) (hR : Rd w w.heap.size 2 A n c (sv a)) (hn : n ≤ 8796093022208) (hl2 : b.length = m) (hR2 : Rd w w.heap.size 2 B m d (sv b)) (hm : m ≤ 8796093022208) :
    Calls Try.prog 7 #[.slice A n c, .slice B m d] w fun e w' => e = .returned (.bool true) ∧ Below w.heap.size w w' := by
  have HR := Lib.hid (fun (V : World) (hb : Below w.heap.size w V) => hR.go hb)
  have HS := Lib.hid (fun (V : World) (hb : Below w.heap.size w V) => hR2.go hb)
  have G0 := Lib.hid (aliveS_any w)
  have G1 := Lib.hid fun (W : World) hR => copyS_any A n c (sv a) W hR (sv_oneCell _) hn
  have G2 := Lib.hid fun (W : World) hR => copyS_any B m d (sv b) W hR (sv_oneCell _) hm
  have G3 := Lib.hid fun (W : World) (X : Option Addr) (x : Nat) (Y : Option Addr) (y : Nat) h1 h2 => meet_any X n x a Y m y b W hl h1 hn hl2 h2 hm
  have G4 := Lib.hid fun (W : World) (X : Option Addr) (x : Nat) (Y : Option Addr) (y : Nat) h1 h2 => less_any X n x a Y m y b W hl h1 hn hl2 h2 hm
  have G5 := Lib.hid fun (W : World) h1 h2 => refMeetS_any A n c a B m d b W hl h1 hl2 h2
  have G6 := Lib.hid fun (W : World) h1 h2 => refLessS_any A n c a B m d b W hl h1 hl2 h2
  have G7 := Lib.hid fun (W : World) (X : Option Addr) (x : Nat) (Y : Option Addr) (y : Nat) h1 h2 => covers_any_ X n x a Y m y b W hl h1 hn hl2 h2 hm
  have G8 := Lib.hid fun (W : World) h1 h2 => refCoversS_any A n c a B m d b W hl h1 hl2 h2
  have G9 := fun (W : World) (X : Option Addr) (x : Nat) (Y : Option Addr) (y : Nat) h1 h2 => touch_any X n x a Y m y b W hl h1 hn hl2 h2 hm
  rw [Sn.tch_meet] at G9
  have G9 := Lib.hid G9
  have G10 := Lib.hid fun (W : World) h1 h2 => refTouchS_any A n c a B m d b W hl h1 hl2 h2
  have E1 := fun (W : World) (X Y : Option Addr) (x y p : Nat) (u : List Vc.St) hu h1 h2 => sameS_any X Y p x p y u u W hu hu h1 h2
  simp only [decide_true] at E1
  have E1 := Lib.hid E1
  have HL := Lib.hid hl
  have HL2 := Lib.hid hl2
  clear hR hl hR2 hl2
  generalize decide (Sn.lessL b a = []) = z1 at G7 G8
  generalize decide (Sn.meetL a b ≠ []) = z2 at G9 G10
  generalize Sn.meetL a b = M at G3 G5
  generalize Sn.lessL a b = L at G4 G6
  have k : Below w.heap.size w w := Below.refl _ _
  go_enter Try.func7, Try.ntmps7
  go_wp2_with (go_at_call 9; go_must (refine G0.out.mono ?_); rintro e w' ⟨rfl, hb'⟩; have k := below_then k (Nat.le_refl _) hb'; clear hb')
  go_wp2_with (first
    | (go_at_call 16; (first
      | ((with_reducible refine (G1.out _ (HR.out _ k)).mono ?_); rintro e w1 ⟨X, x, rfl, ho1, hb'⟩; have k := below_then k (Nat.le_refl _) hb'; clear hb'; have HX := Lib.hid (fun (V : World) (hb : Below w1.heap.size w1 V) => (Rd.of_own ho1).go hb); have k1 : Below w1.heap.size w1 w1 := Below.refl _ _; clear ho1)
      | ((with_reducible refine (G2.out _ (HS.out _ k)).mono ?_); rintro e w2 ⟨Y, y, rfl, ho2, hb'⟩; have k := below_then k (Nat.le_refl _) hb'; have k1 := below_then k1 (Nat.le_refl _) hb'; clear hb'; have HY := Lib.hid (fun (V : World) (hb : Below w2.heap.size w2 V) => (Rd.of_own ho2).go hb); have k2 : Below w2.heap.size w2 w2 := Below.refl _ _; clear ho2)))
    | (go_at_call 24; go_must (refine (G3.out _ _ _ _ _ (HX.out _ k1) (HY.out _ k2)).mono ?_); rintro e w3 ⟨P, p, rfl, ho3, hb'⟩; have k := below_then k (Nat.le_refl _) hb'; have k1 := below_then k1 (Nat.le_refl _) hb'; have k2 := below_then k2 (Nat.le_refl _) hb'; clear hb'; have HP := Lib.hid (fun (V : World) (hb : Below w3.heap.size w3 V) => (Rd.of_own ho3).go hb); have k3 : Below w3.heap.size w3 w3 := Below.refl _ _; clear ho3)
    | (go_at_call 25; go_must (refine (G4.out _ _ _ _ _ (HX.out _ k1) (HY.out _ k2)).mono ?_); rintro e w4 ⟨Q, q, rfl, ho4, hb'⟩; have k := below_then k (Nat.le_refl _) hb'; have k1 := below_then k1 (Nat.le_refl _) hb'; have k2 := below_then k2 (Nat.le_refl _) hb'; have k3 := below_then k3 (Nat.le_refl _) hb'; clear hb'; have HQ := Lib.hid (fun (V : World) (hb : Below w4.heap.size w4 V) => (Rd.of_own ho4).go hb); have k4 : Below w4.heap.size w4 w4 := Below.refl _ _; clear ho4)
    | (go_at_call 26; go_must (refine (G5.out _ (HR.out _ k) (HS.out _ k)).mono ?_); rintro e w5 ⟨P5, p5, rfl, ho5, hb'⟩; have k := below_then k (Nat.le_refl _) hb'; have k1 := below_then k1 (Nat.le_refl _) hb'; have k2 := below_then k2 (Nat.le_refl _) hb'; have k3 := below_then k3 (Nat.le_refl _) hb'; have k4 := below_then k4 (Nat.le_refl _) hb'; clear hb'; have S5 := Lib.hid (E1.out _ _ _ _ _ _ M rfl (HP.out _ k3) (Rd.of_own ho5)); clear ho5)
    | (go_at_call 27; go_must (refine (G6.out _ (HR.out _ k) (HS.out _ k)).mono ?_); rintro e w6 ⟨P6, p6, rfl, ho6, hb'⟩; have k := below_then k (Nat.le_refl _) hb'; have k1 := below_then k1 (Nat.le_refl _) hb'; have k2 := below_then k2 (Nat.le_refl _) hb'; have k3 := below_then k3 (Nat.le_refl _) hb'; have k4 := below_then k4 (Nat.le_refl _) hb'; clear hb'; have S6 := Lib.hid (E1.out _ _ _ _ _ _ L rfl (HQ.out _ k4) (Rd.of_own ho6)); clear ho6)
    | (go_at_call 28; go_must (refine (G7.out _ _ _ _ _ (HX.out _ k1) (HY.out _ k2)).mono ?_); rintro e w' ⟨rfl, hb'⟩; have k := below_then k (Nat.le_refl _) hb'; have k1 := below_then k1 (Nat.le_refl _) hb'; have k2 := below_then k2 (Nat.le_refl _) hb'; have k3 := below_then k3 (Nat.le_refl _) hb'; have k4 := below_then k4 (Nat.le_refl _) hb'; clear hb')
    | (go_at_call 29; go_must (refine (G8.out _ (HR.out _ k) (HS.out _ k)).mono ?_); rintro e w' ⟨rfl, hb'⟩; have k := below_then k (Nat.le_refl _) hb'; have k1 := below_then k1 (Nat.le_refl _) hb'; have k2 := below_then k2 (Nat.le_refl _) hb'; have k3 := below_then k3 (Nat.le_refl _) hb'; have k4 := below_then k4 (Nat.le_refl _) hb'; clear hb')
    | (go_at_call 30; go_must (refine (G9.out _ _ _ _ _ (HX.out _ k1) (HY.out _ k2)).mono ?_); rintro e w' ⟨rfl, hb'⟩; have k := below_then k (Nat.le_refl _) hb'; have k1 := below_then k1 (Nat.le_refl _) hb'; have k2 := below_then k2 (Nat.le_refl _) hb'; have k3 := below_then k3 (Nat.le_refl _) hb'; have k4 := below_then k4 (Nat.le_refl _) hb'; clear hb')
    | (go_at_call 31; go_must (refine (G10.out _ (HR.out _ k) (HS.out _ k)).mono ?_); rintro e w' ⟨rfl, hb'⟩; have k := below_then k (Nat.le_refl _) hb'; have k1 := below_then k1 (Nat.le_refl _) hb'; have k2 := below_then k2 (Nat.le_refl _) hb'; have k3 := below_then k3 (Nat.le_refl _) hb'; have k4 := below_then k4 (Nat.le_refl _) hb'; clear hb')
    | (go_at_call 11; (first
      | (with_reducible refine (E1.out _ _ _ _ _ _ b HL2.out (HY.out _ k2) (HS.out _ k)).mono ?_)
      | (with_reducible refine (E1.out _ _ _ _ _ _ a HL.out (HX.out _ k1) (HR.out _ k)).mono ?_)
      | (with_reducible refine S6.out.mono ?_)
      | (with_reducible refine S5.out.mono ?_)); rintro e w' ⟨rfl, hb'⟩; have k := below_then k (Nat.le_refl _) hb'; have k1 := below_then k1 (Nat.le_refl _) hb'; have k2 := below_then k2 (Nat.le_refl _) hb'; have k3 := below_then k3 (Nat.le_refl _) hb'; have k4 := below_then k4 (Nat.le_refl _) hb'; clear hb'))
  go_ret
  exact ⟨rfl, k⟩
end Go.Proofs.Ytafbaagjokomcaa
