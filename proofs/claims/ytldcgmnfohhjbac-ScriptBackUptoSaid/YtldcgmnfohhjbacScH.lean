/- Walks: alive of the script's laws; the laws ScriptEncodes, ScriptLays. -/
import Derived.Test.YtldcgmnfohhjbacScG
namespace Go.Proofs.Ytldcgmnfohhjbac
open Go.RowKit
set_option maxRecDepth 100000

def st7 : Sc.Stp := ⟨3, 1, 0, 7, 0, [], []⟩
theorem st7_fm : Sc.fmP st7 := ⟨by decide, by decide, by decide, by decide, by decide, by decide, rfl, by decide⟩
theorem st7_small : Sc.small st7 := ⟨by decide, by decide, by decide, by decide⟩
theorem st7_enc : Sc.enc st7 = [3, 1, 0, 7, 0, 0, 0] := by
  have h : ∀ n : Nat, n < 128 → Pk.lay n = [UInt8.ofNat n] := fun n h => Pk.lay_small h
  have h3 : Pk.lay 3 = [3] := h 3 (by decide)
  have h1 : Pk.lay 1 = [1] := h 1 (by decide)
  have h0 : Pk.lay 0 = [0] := h 0 (by decide)
  have h7 : Pk.lay 7 = [7] := h 7 (by decide)
  show Pk.lay 3 ++ (Pk.lay 1 ++ (Pk.lay 0 ++ (Pk.lay 7 ++ (Pk.lay 0 ++ ((Pk.lay 0 ++ []) ++ (Pk.lay 0 ++ [])))))) = _
  rw [h3, h1, h0, h7]; rfl
theorem st7_lay : layS [st7] = some [7, 3, 1, 0, 7, 0, 0, 0] := by
  have h7 : Pk.lay 7 = [7] := Pk.lay_small (by decide)
  rw [layS_all (by intro x hx; rw [List.mem_singleton] at hx; subst hx; exact fmB_iff.2 st7_fm)]
  show some ((Pk.lay (Sc.enc st7).length ++ Sc.enc st7) ++ []) = _
  rw [st7_enc]
  show some ((Pk.lay 7 ++ _) ++ []) = _
  rw [h7]; rfl
theorem st7_dec : Sc.dec [3, 1, 0, 7, 0, 0, 0] = some st7 := by rw [← st7_enc]; exact Sc.dec_enc st7_fm st7_small

set_option maxHeartbeats 4000000 in
theorem alive_any (w : World) : Calls Try.prog 8 #[] w fun e w' => e = .returned (.bool true) ∧ Below w.heap.size w w' := by
  have h1max : 1 ≤ maxLen := by unfold maxLen; omega
  have h7max : 7 ≤ maxLen := by unfold maxLen; omega
  have hb0 : Below w.heap.size w (w.alloc (.cells (SV.val SV0 st7) 25)) := (Below.refl _ _).alloc (Nat.le_refl _) _
  have hR0 : RdSt (w.alloc (.cells (SV.val SV0 st7) 25)) (w.alloc (.cells (SV.val SV0 st7) 25)).heap.size (some ⟨w.heap.size, 0, none⟩) 1 1 [(SV0, st7)] := by
    refine ⟨rfl, ?_, fun p hp => ?_⟩
    · have := Rd.new w 25 7 1 (SV.val SV0 st7) rfl h1max
      rw [World.size_alloc]; exact this
    · rw [List.mem_singleton] at hp; subst hp; exact StpRd.zero _ _ _ _ _ _ _
  have G1 := scLay_any _ 1 1 [(SV0, st7)] _ hR0 (fun p hp => by rw [List.mem_singleton] at hp; subst hp; exact st7_small) (by omega)
  have hls : layS (stps [(SV0, st7)]) = some [7, 3, 1, 0, 7, 0, 0, 0] := st7_lay
  rw [hls] at G1
  have H1 := Lib.hid G1
  have HB := Lib.hid hb0
  have GD := Lib.hid fun (W : World) (h : Rd W W.heap.size 1 (some ⟨W.heap.size - 1, 0, none⟩) 7 7 (bv [3, 1, 0, 7, 0, 0, 0])) => scDecode_any _ 7 7 [3, 1, 0, 7, 0, 0, 0] W rfl h (by omega)
  obtain ⟨e1, e2⟩ := Sc.decX_yes st7_dec
  rw [e1, e2] at GD
  clear G1 hls hR0 hb0 e1 e2
  go_enter Try.func8, Try.ntmps8
  go_wp2_with fail
  refine H1.out.mono ?_
  rintro e w1 (⟨bs, v, hbs, rfl, A1, c1, rfl, ho1, hb1⟩ | ⟨h, _⟩)
  · simp only [Option.some.injEq] at hbs
    subst hbs
    have hbw1 := below_then HB.out (Nat.le_refl _) hb1
    have hR := Rd.new w1 5 1 7 #[.int .u8 3, .int .u8 1, .int .u8 0, .int .u8 7, .int .u8 0, .int .u8 0, .int .u8 0] rfl h7max
    have hbA : Below w1.heap.size w1 (w1.alloc (.cells #[.int .u8 3, .int .u8 1, .int .u8 0, .int .u8 7, .int .u8 0, .int .u8 0, .int .u8 0] 5)) := (Below.refl _ _).alloc (Nat.le_refl _) _
    have hbw2 := below_then hbw1 (Nat.le_refl _) hbA
    have G2 := GD.out (w1.alloc (.cells #[.int .u8 3, .int .u8 1, .int .u8 0, .int .u8 7, .int .u8 0, .int .u8 0, .int .u8 0] 5)) (by rw [World.size_alloc, Nat.add_sub_cancel]; exact hR)
    rw [World.size_alloc, Nat.add_sub_cancel] at G2
    have HG2 := Lib.hid G2
    have HO1 := Lib.hid (own_below ho1 hbA (Nat.le_refl _))
    have hl8 : ([7, 3, 1, 0, 7, 0, 0, 0] : List UInt8).length = 8 := rfl
    rw [hl8] at HO1 ⊢
    clear G2 hR hb1 ho1 GD hl8
    go_wp2_with fail
    refine HG2.out.mono ?_
    rintro e w3 ⟨⟨D1, m1, d1, D2, m2, d2⟩, rfl, hst, hb3⟩
    have hbw3 := below_then hbw2 (Nat.le_refl _) hb3
    have ho3 := own_below HO1.out hb3 (Nat.le_refl _)
    obtain ⟨g, cap, hv, hg1, hg2⟩ := ho3.form (by omega)
    obtain ⟨rfl, rfl⟩ : A1 = some ⟨g, 0, none⟩ ∧ c1 = cap := by injection hv with a1 a2 a3; exact ⟨a1, a3⟩
    have hc0 := ho3.cells (g := g) rfl 0 (.int .u8 7) rfl
    rw [show (⟨g, 0, none⟩ : Addr).add 0 = ⟨g, 0, none⟩ from add_zero_ _] at hc0
    have hgl : g < w3.heap.size := hg2
    clear HG2 HO1 hv ho3 hst
    simp only [st7, SV.val]
    go_wp2
    go_ret
    exact ⟨ret_bool (by simp), hbw3.alloc hbw3.size _⟩
  · cases h

/-- A law's end: true. -/
def TrueP (w : World) (e : Ending) (w' : World) : Prop := e = .returned (.bool true) ∧ Below w.heap.size w w'
end Go.Proofs.Ytldcgmnfohhjbac
