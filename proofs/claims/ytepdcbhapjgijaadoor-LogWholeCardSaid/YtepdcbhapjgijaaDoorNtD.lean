/- Walks over the document's Copy of notes, note.Of and the document's Of (printed by wip/tools/genNtD.py). -/
import Derived.Test.YtepdcbhapjgijaaDoorNtC
import Derived.Test.YtepdcbhapjgijaaDoorMVec
namespace Go.Proofs.YtepdcbhapjgijaaDoor
open Go.RowKit
set_option maxRecDepth 100000

theorem notes_zero : (Tryd.prog.info? 38).map (fun i => (i.zero, i.size)) = some (some (.agg #[.slice none 0 0, .slice none 0 0, .slice none 0 0, .slice none 0 0]), 4) := by kernel_rfl
/-- A result that lies in a cell, and one in a slot. -/
theorem results_cell_tmp {P : Program} {fn : Func} {p q : Tmp} {ty : TypeId} (h : fn.results = #[.cell p ty, .tmp q]) (tmps : Array Value) (w : World) (g : Nat) (t : TypeId) (cs : Array Value) (fr : Nat × Nat) (d : TypeDesc)
    (hp : tmps.getD p undef = .pointer (some ⟨g, 0, none⟩)) (hg : w.heap[g]? = some (.cells cs t fr))
    (hu : P.underlying ty = some d) (hd : (match d with | .struct _ | .array _ _ => true | _ => false) = true) (hi : (P.info? ty).map (·.size) = some cs.size) :
    (results fn tmps).run P w = .ok (.tuple #[.agg cs, tmps.getD q undef]) w := by
  have hp' : tmps[p]?.getD undef = .pointer (some ⟨g, 0, none⟩) := by simpa using hp
  simp [results, h, hp', asAddr, run_loadVar_row w g t ty cs fr d hg hu hd hi]

/-- How long a note's lists may be for its copies to fit. -/
structure NtSz (v : NV) : Prop where
  s1 : v.n1 ≤ 8796093022208
  s2 : v.n2 ≤ 8796093022208
  s3 : v.n3 ≤ 8796093022208
  s4 : v.n4 ≤ 4398046511104

/-- A note whose lists are of the call's own. -/
structure NtOwn (w : World) (base : Nat) (v : NV) (x : Nt) : Prop where
  l1 : x.s.length = v.n1
  o1 : w.ownsRow base 47 2 (.slice v.A1 v.n1 v.c1) v.n1 (sv x.s)
  l2 : x.e.length = v.n2
  o2 : w.ownsRow base 47 2 (.slice v.A2 v.n2 v.c2) v.n2 (sv x.e)
  l3 : x.b.length = v.n3
  o3 : w.ownsRow base 59 2 (.slice v.A3 v.n3 v.c3) v.n3 (sv x.b)
  l4 : x.w.length = v.n4
  o4 : w.ownsRow base 69 4 (.slice v.A4 v.n4 v.c4) v.n4 (wv x.w)
theorem NtOwn.rd {w : World} {base : Nat} {v : NV} {x : Nt} (h : NtOwn w base v x) : NtRd w w.heap.size v x := ⟨h.l1, Rd.of_own h.o1, h.l2, Rd.of_own h.o2, h.l3, Rd.of_own h.o3, h.l4, Rd.of_own h.o4⟩
theorem NtOwn.below {w w' : World} {base : Nat} {v : NV} {x : Nt} (h : NtOwn w base v x) (hb : Below w.heap.size w w') : NtOwn w' base v x :=
  ⟨h.l1, own_below h.o1 hb (Nat.le_refl _), h.l2, own_below h.o2 hb (Nat.le_refl _), h.l3, own_below h.o3 hb (Nat.le_refl _), h.l4, own_below h.o4 hb (Nat.le_refl _)⟩
theorem NtOwn.less {w : World} {base base' : Nat} {v : NV} {x : Nt} (h : NtOwn w base v x) (hb : base' ≤ base) : NtOwn w base' v x := ⟨h.l1, own_less h.o1 hb, h.l2, own_less h.o2 hb, h.l3, own_less h.o3 hb, h.l4, own_less h.o4 hb⟩
theorem NtOwn.row {w w' : World} {base b size n : Nat} {e : TypeId} {u : Value} {xs : List Value} {v : NV} {x : Nt} (h : NtOwn w base v x) (ho : w.ownsRow b e size u n xs) (h1 : 47 ≠ e) (h2 : 59 ≠ e) (h3 : 69 ≠ e) (hg : w.grownBy w' u.ownBlock) : NtOwn w' base v x :=
  ⟨h.l1, h.o1.kept hg (own_two h.o1 ho h1), h.l2, h.o2.kept hg (own_two h.o2 ho h1), h.l3, h.o3.kept hg (own_two h.o3 ho h2), h.l4, h.o4.kept hg (own_two h.o4 ho h3)⟩
/-- A row and a known block of another type lie apart. -/
theorem own_blk {w : World} {base g : Nat} {e t : TypeId} {size n : Nat} {v : Value} {xs : List Value} {cs : Array Value} (h : w.ownsRow base e size v n xs) (hg : Blk w g t cs) (he : e ≠ t) : v.ownBlock = none ∨ v.ownBlock ≠ some g := by
  rcases h.2 with ⟨rfl, _⟩ | ⟨g', cap, cur, rfl, _, hh, _⟩
  · exact .inl rfl
  · refine .inr fun e' => ?_
    obtain rfl : g' = g := by simpa [Value.ownBlock] using e'
    unfold Blk at hg
    rw [hh] at hg
    injection hg with hg
    injection hg with _ h2
    exact he h2
theorem NtOwn.blk {w w' : World} {base g : Nat} {t : TypeId} {cs : Array Value} {v : NV} {x : Nt} (h : NtOwn w base v x) (ho : Blk w g t cs) (h1 : 47 ≠ t) (h2 : 59 ≠ t) (h3 : 69 ≠ t) (hg : w.grownBy w' (some g)) : NtOwn w' base v x :=
  ⟨h.l1, h.o1.kept hg (own_blk h.o1 ho h1), h.l2, h.o2.kept hg (own_blk h.o2 ho h1), h.l3, h.o3.kept hg (own_blk h.o3 ho h2), h.l4, h.o4.kept hg (own_blk h.o4 ho h3)⟩

/-- May a write be told behind a vector? -/
def ofOk (u : List Vc.St) (q : Wr) : Bool := fm (-1) u && (Vc.right q.1 && ((decide (0 ≤ q.2.1) && decide (q.2.1 ≤ 255)) && !hasB u q.1))
def ofNt (u : List Vc.St) (q : Wr) : Nt := if ofOk u q = true then ⟨u, vec (jn [u, [q.1]]), [], [q]⟩ else ⟨[], [], [], []⟩
def NV0 : NV := ⟨none, 0, 0, none, 0, 0, none, 0, 0, none, 0, 0⟩
/-- A note and an error, whether it may be told or not. -/
def OfP (w : World) (z : Bool) (nt : Nt) (e : Ending) (w' : World) : Prop := ∃ v : NV, e = .returned (.tuple #[.agg v.val, .int .i64 (if z = true then 0 else 1)]) ∧ NtRd w' w'.heap.size v nt ∧ Below w.heap.size w w'
theorem OfP.mk {w w' : World} {z : Bool} {nt : Nt} {e : Ending} (v : NV) (h1 : e = .returned (.tuple #[.agg v.val, .int .i64 (if z = true then 0 else 1)])) (h2 : NtRd w' w'.heap.size v nt) (h3 : Below w.heap.size w w') : OfP w z nt e w' := ⟨v, h1, h2, h3⟩
theorem NtRd.zero (w : World) (B : Nat) : NtRd w B NV0 ⟨[], [], [], []⟩ := ⟨rfl, Rd.none_, rfl, Rd.none_, rfl, Rd.none_, rfl, Rd.none_⟩

theorem newOne {W : World} {sc sn ob : Int} {gn : Bool} (_ : Below W.heap.size W (W.alloc (.cells #[.int .i64 sc, .int .i64 sn, .int .i64 ob, .bool gn] 69))) :
    Rd (W.alloc (.cells #[.int .i64 sc, .int .i64 sn, .int .i64 ob, .bool gn] 69)) (W.alloc (.cells #[.int .i64 sc, .int .i64 sn, .int .i64 ob, .bool gn] 69)).heap.size 4 (some ⟨W.heap.size, 0, none⟩) 1 1 (wv [((sc, sn), ob, gn)]) := by
  have := Rd.new W 69 4 1 #[.int .i64 sc, .int .i64 sn, .int .i64 ob, .bool gn] rfl (by unfold maxLen; omega)
  rw [World.size_alloc]
  exact this
theorem Rd.keptAt {w w' : World} {size n c g g0 : Nat} {xs : List Value} (h : Rd w w.heap.size size (some ⟨g0, 0, none⟩) n c xs) (hg : w.grownBy w' (some g)) (hne : g0 ≠ g) : Rd w' w'.heap.size size (some ⟨g0, 0, none⟩) n c xs :=
  ⟨h.len, h.cap, h.max, h.nil, fun hn => by
    obtain ⟨ad, e, hb, hc⟩ := h.at0 hn
    injection e with e
    subst e
    exact ⟨_, rfl, Nat.lt_of_lt_of_le hb hg.size, fun j u hu => hg.cell (hc j u hu) (by rw [block_of_add]; simpa using hne)⟩⟩

end Go.Proofs.YtepdcbhapjgijaaDoor
