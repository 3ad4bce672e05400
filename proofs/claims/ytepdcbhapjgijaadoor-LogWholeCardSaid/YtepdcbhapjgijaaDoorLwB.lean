/- Slices that lie apart from a box by what they hold: a box's cell is a slice, theirs begin with a number. For LogWhole's loop, whose two boxes (zones, known) are older than what they come to hold. -/
import Derived.Test.YtepdcbhapjgijaaDoorTwD
namespace Go.Proofs.YtepdcbhapjgijaaDoor
open Go.RowKit
set_option maxRecDepth 100000

theorem Rd.apartB {w : World} {B size n c g : Nat} {t : TypeId} {A : Option Addr} {xs : List Value} {x u : Value} (h : Rd w B size A n c xs) (hx : xs[0]? = some x) (hb : Blk w g t #[u]) (hne : x ≠ u) (hn : 0 < n) : ∃ ad, A = some ad ∧ ad.block ≠ g := by
  obtain ⟨ad, e, hlt, hc⟩ := h.at0 hn
  refine ⟨ad, e, fun he => ?_⟩
  have h0 := hc 0 x hx
  have hblk : (ad.add 0).block = g := by rw [block_of_add]; exact he
  unfold World.cell? at h0
  unfold Blk at hb
  rw [hblk, hb] at h0
  simp only at h0
  split at h0
  · cases h0
  · generalize (ad.add 0).off = o at h0
    rcases o with _ | o
    · simp at h0; exact hne h0.symm
    · simp at h0
theorem Rd.farB {w : World} {B size n c g : Nat} {A : Option Addr} {xs : List Value} {y : Value} (h : Rd w B size A n c xs) (hA : 0 < n → ∃ ad, A = some ad ∧ ad.block ≠ g) : Rd (w.setCell ⟨g, 0, none⟩ y) B size A n c xs :=
  ⟨h.len, h.cap, h.max, h.nil, fun hn => by
    obtain ⟨ad, e, hlt, hc⟩ := h.at0 hn
    obtain ⟨ad', e', hne⟩ := hA hn
    rw [e] at e'
    injection e' with e'
    subst e'
    refine ⟨ad, e, hlt, fun j u hu => ?_⟩
    have h0 := hc j u hu
    unfold World.cell? at h0 ⊢
    rw [Below.heap_setCell w ⟨g, 0, none⟩ y (ad.add j).block (by rw [block_of_add]; exact hne)]
    exact h0⟩
/-- Stamps under a store into a box. -/
theorem stBox {w : World} {B n c g : Nat} {t : TypeId} {A D : Option Addr} {l : List Vc.St} {m d : Nat} {y : Value} (hl : l.length = n) (h : Rd w B 2 A n c (sv l)) (hb : Blk w g t #[.slice D m d]) : Rd (w.setCell ⟨g, 0, none⟩ y) B 2 A n c (sv l) :=
  h.farB fun hn => by
    rcases l with _ | ⟨s, r⟩
    · simp at hl; omega
    · exact h.apartB (x := .int .i64 s.1) rfl hb (by simp) hn
/-- Zones under a store into a box. -/
theorem znBox {w : World} {B n c g : Nat} {t : TypeId} {A D : Option Addr} {L : List (ZV × Zn)} {m d : Nat} {y : Value} (h : RdZ w B A n c L) (hb : Blk w g t #[.slice D m d]) : RdZ (w.setCell ⟨g, 0, none⟩ y) B A n c L :=
  ⟨h.len, h.rd.farB fun hn => by
    have hl := h.len
    rcases L with _ | ⟨p, r⟩
    · simp at hl; omega
    · exact h.rd.apartB (x := .int .i64 p.2.1.1) rfl hb (by simp) hn, fun p hp => ⟨(h.each p hp).1, stBox (h.each p hp).1 (h.each p hp).2 hb⟩⟩
end Go.Proofs.YtepdcbhapjgijaaDoor
