/- DeleteFunc, SortStableFunc, CompactFunc at a row of writes of the call's own, nil or not. -/
import Derived.Test.YtnibkniggiokkaaDoorNmD
namespace Go.Proofs.YtnibkniggiokkaaDoor
open Go.RowKit Go.Sort
set_option maxRecDepth 100000

theorem nil_or {w : World} {base n c : Nat} {A : Option Addr} {l : List Wr} (h : w.ownsRow base 46 4 (.slice A n c) n (wv l)) : (A = none ∧ n = 0 ∧ c = 0 ∧ l = []) ∨ ∃ G, A = some ⟨G, 0, none⟩ := by
  obtain ⟨hl, ⟨h1, h2⟩ | ⟨g, cap, cur, hv, _⟩⟩ := h
  · injection h1 with e1 e2 e3
    refine Or.inl ⟨e1, e2, e3, ?_⟩
    rw [wv_len] at hl
    exact List.length_eq_zero_iff.1 (by omega)
  · injection hv with e1 _ _
    exact Or.inr ⟨g, e1⟩
theorem deleteNil_any (fv : Value) (w : World) : Calls Tryd.prog 48 #[.slice none 0 0, fv] w fun e w' => e = .returned (.slice none 0 0) ∧ w = w' := by
  have H1 := Lib.hid fun (w : World) => (show Calls Tryd.prog 77 #[.slice none 0 0, fv] w fun e w' => e = .returned (.int .i64 (-1)) ∧ w = w' from by
    go_enter Tryd.func77, Tryd.ntmps77
    go_wp2
    go_loopw [8] (fun i wr => i = .int .i64 0 ∧ w = wr) (fun _ _ => 0)
    case atStart => exact ⟨rfl, rfl⟩
    case round =>
      obtain ⟨rfl, rfl⟩ := hrel
      go_wp2
      go_ret
      exact ⟨rfl, rfl⟩)
  go_enter Tryd.func48, Tryd.ntmps48
  go_wp2_with (go_at_call 77; go_must (refine (H1.out _).mono ?_); rintro e w1 ⟨rfl, rfl⟩)
  go_ret
  exact ⟨rfl, rfl⟩
theorem compactNil_any (fv : Value) (w : World) : Calls Tryd.prog 57 #[.slice none 0 0, fv] w fun e w' => e = .returned (.slice none 0 0) ∧ w = w' := by
  go_enter Tryd.func57, Tryd.ntmps57
  go_wp2
  go_ret
  exact ⟨rfl, rfl⟩

/-- What a function that works upon the row hands back. -/
def RowOut (base : Nat) (A : Option Addr) (c : Nat) (l' : List Wr) (w : World) (e : Ending) (w' : World) : Prop :=
  ∃ i : Nat, e = .returned (.slice A i c) ∧ l'.length = i ∧ i ≤ c ∧ w'.ownsRow base 46 4 (.slice A i c) i (wv l') ∧ w.grownBy w' (Value.slice A 0 0).ownBlock
theorem own_cap {w : World} {base n c : Nat} {A : Option Addr} {xs : List Value} (h : w.ownsRow base 46 4 (.slice A n c) n xs) : n ≤ c := by
  obtain ⟨_, h | ⟨g, cap, cur, hv, _, _, hnc, _⟩⟩ := h
  · obtain ⟨h1, h2⟩ := h
    omega
  · injection hv with _ _ hv3
    omega
theorem deleteO_any (base n c : Nat) (A : Option Addr) (l : List Wr) (pv : Value) (p : Wr → Bool) (w : World) (ho : w.ownsRow base 46 4 (.slice A n c) n (wv l)) (hl : l.length = n) (hn : n ≤ 1000000000) (hp : ∀ G, A = some ⟨G, 0, none⟩ → TestOk w G pv p) :
    Calls Tryd.prog 48 #[.slice A n c, .func (.func 50) #[] #[pv]] w (RowOut base A c (l.filter fun x => !p x) w) := by
  rcases nil_or ho with ⟨rfl, rfl, rfl, rfl⟩ | ⟨G, rfl⟩
  · refine (deleteNil_any _ w).mono ?_
    rintro e w' ⟨rfl, rfl⟩
    exact ⟨0, rfl, rfl, Nat.le_refl _, ho, World.grownBy.refl _ _⟩
  · refine (deleteW_any base G n c l pv p w ho hl hn (hp G rfl)).mono ?_
    rintro e w' ⟨i, rfl, h1, h2, h3⟩
    exact ⟨i, rfl, h1, own_cap h2, h2, h3⟩
theorem sortO_any (base n c : Nat) (A : Option Addr) (l : List Wr) (w : World) (ho : w.ownsRow base 46 4 (.slice A n c) n (wv l)) (hl : l.length = n) (hn : n ≤ 1000000000) :
    Calls Tryd.prog 51 #[.slice A n c, .func (.func 52) #[] #[]] w fun e w' => e = .returned (.tuple #[]) ∧
      ∃ s, St.Stab wLt l s ∧ w'.ownsRow base 46 4 (.slice A n c) n (wv s) ∧ w.grownBy w' (Value.slice A 0 0).ownBlock := by
  rcases nil_or ho with ⟨rfl, rfl, rfl, rfl⟩ | ⟨G, rfl⟩
  · refine (sortStable_nil 0 _ w).mono ?_
    rintro e w' ⟨rfl, rfl⟩
    exact ⟨rfl, [], St.Stab.nil_ _, ho, World.grownBy.refl _ _⟩
  · exact sortW_any base G n c l w ho hl hn
theorem compactO_any (base n c : Nat) (A : Option Addr) (l : List Wr) (w : World) (ho : w.ownsRow base 46 4 (.slice A n c) n (wv l)) (hl : l.length = n) (hn : n ≤ 1000000000) :
    Calls Tryd.prog 57 #[.slice A n c, .func (.func 58) #[] #[]] w (RowOut base A c (firsts l) w) := by
  rcases nil_or ho with ⟨rfl, rfl, rfl, rfl⟩ | ⟨G, rfl⟩
  · refine (compactNil_any _ w).mono ?_
    rintro e w' ⟨rfl, rfl⟩
    exact ⟨0, rfl, rfl, Nat.le_refl _, ho, World.grownBy.refl _ _⟩
  · refine (compactW_any base G n c l w ho hl hn).mono ?_
    rintro e w' ⟨i, rfl, h1, h2, h3⟩
    exact ⟨i, rfl, h1, own_cap h2, h2, h3⟩
end Go.Proofs.YtnibkniggiokkaaDoor
