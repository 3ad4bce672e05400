/- Zones of a call's own; walk over the document's Copy of zones (printed by wip/tools/genTwD.py). -/
import Derived.Test.YtepdcbhapjgijaaDoorTwC
import Derived.Test.YtepdcbhapjgijaaDoorNtD
namespace Go.Proofs.YtepdcbhapjgijaaDoor
open Go.RowKit
set_option maxRecDepth 100000

theorem zone_info : (Tryd.prog.info? 62).map (fun i => (i.zero, i.size, i.bytes)) = some (some (.agg #[.int .i64 0, .int .i64 0, .slice none 0 0]), 3, 40) := by kernel_rfl
/-- Zones of the call's own, each with stamps of the call's own. -/
structure OwnZ (w : World) (base : Nat) (A : Option Addr) (k c : Nat) (L : List (ZV × Zn)) : Prop where
  row : w.ownsRow base 62 3 (.slice A k c) k (zvv L)
  el : ∀ p ∈ L, p.2.2.length = p.1.n ∧ w.ownsRow base 47 2 (.slice p.1.A p.1.n p.1.c) p.1.n (sv p.2.2)
theorem OwnZ.nil (w : World) (base : Nat) : OwnZ w base none 0 0 [] := ⟨World.ownsRow_nil _ _ _ _, by simp⟩
theorem OwnZ.below {w w' : World} {base : Nat} {A : Option Addr} {k c : Nat} {L : List (ZV × Zn)} (h : OwnZ w base A k c L) (hb : Below w.heap.size w w') : OwnZ w' base A k c L :=
  ⟨own_below h.row hb (Nat.le_refl _), fun p hp => ⟨(h.el p hp).1, own_below (h.el p hp).2 hb (Nat.le_refl _)⟩⟩
theorem OwnZ.less {w : World} {base base' : Nat} {A : Option Addr} {k c : Nat} {L : List (ZV × Zn)} (h : OwnZ w base A k c L) (hb : base' ≤ base) : OwnZ w base' A k c L :=
  ⟨own_less h.row hb, fun p hp => ⟨(h.el p hp).1, own_less (h.el p hp).2 hb⟩⟩
theorem OwnZ.push {w w' : World} {base : Nat} {A A' : Option Addr} {k c c' : Nat} {L : List (ZV × Zn)} {p : ZV × Zn} (h : OwnZ w base A k c L) (hp : p.2.2.length = p.1.n ∧ w.ownsRow base 47 2 (.slice p.1.A p.1.n p.1.c) p.1.n (sv p.2.2))
    (hg : w.grownBy w' (Value.slice A k c).ownBlock) (ho : w'.ownsRow base 62 3 (.slice A' (k + 1) c') (k + 1) (zvv L ++ zvl p)) : OwnZ w' base A' (k + 1) c' (L ++ [p]) := by
  refine ⟨by rw [zvv_app]; simpa [zvv] using ho, fun z hz => ?_⟩
  rcases List.mem_append.1 hz with hz | hz
  · exact ⟨(h.el z hz).1, (h.el z hz).2.kept hg (own_two (h.el z hz).2 h.row (by decide))⟩
  · obtain rfl : z = p := by simpa using hz
    exact ⟨hp.1, hp.2.kept hg (own_two hp.2 h.row (by decide))⟩
theorem OwnZ.len {w : World} {base : Nat} {A : Option Addr} {k c : Nat} {L : List (ZV × Zn)} (h : OwnZ w base A k c L) : L.length = k := by
  have := h.row.1
  rw [zvv_len] at this
  omega
theorem OwnZ.rd {w : World} {base : Nat} {A : Option Addr} {k c : Nat} {L : List (ZV × Zn)} (h : OwnZ w base A k c L) : RdZ w w.heap.size A k c L :=
  ⟨h.len, Rd.of_own h.row, fun p hp => ⟨(h.el p hp).1, Rd.of_own (h.el p hp).2⟩⟩
/-- Sizes that a copy bears. -/
structure ZnSz (n : Nat) (L : List (ZV × Zn)) : Prop where
  n : n ≤ 3518437208883
  each : ∀ p ∈ L, p.1.n ≤ 8796093022208

end Go.Proofs.YtepdcbhapjgijaaDoor
