/- Texts of one layer in one file: TwFt, TrustTakes. -/
import Derived.Test.YticnfjfdeagmaaaGreatDoorMNtE
import Derived.Test.YticnfjfdeagmaaaGreatDoorTwD
import Derived.Test.YticnfjfdeagmaaaGreatDoorOpen
import Derived.Test.YticnfjfdeagmaaaGreatDoorCards
import Derived.Test.YticnfjfdeagmaaaGreatDoorTie
import Derived.Deep.DeepHandedRow
import Derived.Lib.LaidTab
import Derived.Test.YticnfjfdeagmaaaGreatDoorMTwV
namespace Go.Proofs.YticnfjfdeagmaaaGreatDoor
open Go.ChangeShapes Go.WideShapes Go.ChangeAt Go.RowKit
set_option maxRecDepth 100000
theorem own : ownKnob Tryz.prog.godebug = none := by kernel_rfl
theorem laidOut : laidOutB Tryz.prog = true := by kernel_rfl

theorem gTab : Tryz.prog.globalNamed "math/bits.deBruijn64tab" = some 0 := by kernel_rfl
theorem gTabType : (Tryz.prog.globals[0]?).map (·.type) = some 121 := by kernel_rfl
theorem cellsTab : Tryz.prog.cellsOf 121 = 64 := by kernel_rfl
theorem cellsU8 : Tryz.prog.cellsOf 5 = 1 := by kernel_rfl
theorem table {W : World} (h : laidMetH Tryz.prog Rows.trustTakesRow.laid W) : Tab W := fun j hj => by
  have ht : Lib.TabIs Tryz.prog W "math/bits.deBruijn64tab" .u8 (Lib.deBruijn64tab.map Int.ofNat) := Lib.tabIs_of_head (rest := []) gTab gTabType Tryz.underlying121 Tryz.underlying5 cellsU8 cellsTab h
  have := ht.cell gTab j (by rw [List.length_map]; exact hj)
  rw [this]
  simp [List.getD, List.getElem?_eq_getElem hj]

/-- A world for the witness: the settled one, the table as its initialiser lays it. -/
noncomputable def laidWorld (os : Os) : World :=
  { World.holding Tryz.prog os ⟨#[], #[], []⟩ with heap := (World.holding Tryz.prog os ⟨#[], #[], []⟩).heap.modify 0 fun
      | .cells _ t frozen => .cells (Lib.deBruijn64tab.map fun n : Nat => Value.int .u8 (Int.ofNat n)).toArray t frozen
      | o => o }

section
variable {H : Type} {enc : TypeId × Value → H} {W : World}
def stWf (s : Vc.St) : Prop := (Lit.int .i64 s.1).wf = true ∧ (Lit.int .i64 s.2).wf = true
def stc (s : Vc.St) : List Value := [.int .i64 s.1, .int .i64 s.2]
theorem opens_int : Opens enc Tryz.prog W 3 (fun z : Int => [.int .i64 z]) (fun z _ => (Lit.int .i64 z).wf = true) := Opens.int Tryz.underlying3
theorem opens_stamp : Opens enc Tryz.prog W 40 stc (fun s _ => stWf s) :=
  (Opens.struct (tot := 2) Tryz.underlying40 (by kernel_rfl) (OpensFs.cons (s := 1) rfl (by kernel_rfl) opens_int (OpensFs.cons (s := 1) rfl (by kernel_rfl) opens_int OpensFs.nil))).map
    (fun x : Int × Int × Unit => ((x.1, x.2.1) : Vc.St)) stc (fun s _ => stWf s) (fun _ => rfl) (fun _ _ ⟨_, _, _, _, _, h1, _, _, _, h2, _⟩ => ⟨h1, h2⟩)
theorem opens_stamps : Opens enc Tryz.prog W 23 slv (SlOk W 2 stc (fun s _ => stWf s)) := Opens.slice Tryz.underlying23 (by kernel_rfl) (by decide) opens_stamp
theorem open_stamps {r : Reach} {b0 : Nat} {v : Value} {d : DataW H} {p : List MemPlace} (hv : Value.okWide Tryz.prog W r b0 23 v) (hT : DataW.Trod enc Tryz.prog W 0 (fun _ => true) true 23 v d p) (hf : Fit Tryz.prog 23 d) :
    ∃ A n c, ∃ l : List Vc.St, v = .slice A n c ∧ l.length = n ∧ Rd W W.heap.size 2 A n c (sv l) ∧ n ≤ 8796093022208 := by
  obtain ⟨s, rfl, ok⟩ := opens_stamps.arg_slice Tryz.underlying23 hv hT
  have h1 := (hf.slice Tryz.underlying23).1
  rw [show Tryz.prog.bytesOf 40 = 16 by kernel_rfl, ← ok.cap] at h1
  have h2 := ok.rd.cap
  exact ⟨s.A, s.n, s.c, s.xs, rfl, ok.len, ok.rd, by omega⟩
theorem open_stamp {r : Reach} {b0 : Nat} {v : Value} {d : DataW H} {p : List MemPlace} (hv : Value.okWide Tryz.prog W r b0 40 v) (hT : DataW.Trod enc Tryz.prog W 0 (fun _ => true) true 40 v d p) :
    ∃ x y, v = .agg #[.int .i64 x, .int .i64 y] := by
  obtain ⟨s, rfl, _⟩ := opens_stamp.arg_agg Tryz.underlying40 hv hT
  exact ⟨s.1, s.2, rfl⟩
theorem opens_span : Opens enc Tryz.prog W 42 stc (fun s _ => stWf s) :=
  (Opens.struct (tot := 2) Tryz.underlying42 (by kernel_rfl) (OpensFs.cons (s := 1) rfl (by kernel_rfl) opens_int (OpensFs.cons (s := 1) rfl (by kernel_rfl) opens_int OpensFs.nil))).map
    (fun x : Int × Int × Unit => ((x.1, x.2.1) : Sn.Sp)) stc (fun s _ => stWf s) (fun _ => rfl) (fun _ _ ⟨_, _, _, _, _, h1, _, _, _, h2, _⟩ => ⟨h1, h2⟩)
theorem opens_spans : Opens enc Tryz.prog W 24 slv (SlOk W 2 stc (fun s _ => stWf s)) := Opens.slice Tryz.underlying24 (by kernel_rfl) (by decide) opens_span
theorem open_spans {r : Reach} {b0 : Nat} {v : Value} {d : DataW H} {p : List MemPlace} (hv : Value.okWide Tryz.prog W r b0 24 v) (hT : DataW.Trod enc Tryz.prog W 0 (fun _ => true) true 24 v d p) (hf : Fit Tryz.prog 24 d) :
    ∃ A n c, ∃ l : List Sn.Sp, v = .slice A n c ∧ l.length = n ∧ Rd W W.heap.size 2 A n c (sv l) ∧ n ≤ 8796093022208 := by
  obtain ⟨s, rfl, ok⟩ := opens_spans.arg_slice Tryz.underlying24 hv hT
  have h1 := (hf.slice Tryz.underlying24).1
  rw [show Tryz.prog.bytesOf 42 = 16 by kernel_rfl, ← ok.cap] at h1
  have h2 := ok.rd.cap
  exact ⟨s.A, s.n, s.c, s.xs, rfl, ok.len, ok.rd, by omega⟩
theorem opens_write : Opens enc Tryz.prog W 57 wc (fun _ _ => True) :=
  (Opens.struct (tot := 4) Tryz.underlying57 (by kernel_rfl) (OpensFs.cons (s := 2) rfl (by kernel_rfl) opens_stamp (OpensFs.cons (s := 1) rfl (by kernel_rfl) opens_int (OpensFs.cons (s := 1) rfl (by kernel_rfl) (Opens.bool Tryz.underlying4) OpensFs.nil)))).map
    (fun x : Vc.St × Int × Bool × Unit => ((x.1, x.2.1, x.2.2.1) : Wr)) wc (fun _ _ => True) (fun _ => rfl) (fun _ _ _ => trivial)
theorem opens_writes : Opens enc Tryz.prog W 25 slv (SlOk W 4 wc (fun _ _ => True)) := Opens.slice Tryz.underlying25 (by kernel_rfl) (by decide) opens_write
theorem stamps_fit {d : DataW H} (hf : Fit Tryz.prog 23 d) : capOf d ≤ 8796093022208 := by
  have h1 := (hf.slice Tryz.underlying23).1
  rw [show Tryz.prog.bytesOf 40 = 16 by kernel_rfl] at h1
  omega
theorem spans_fit {d : DataW H} (hf : Fit Tryz.prog 24 d) : capOf d ≤ 8796093022208 := by
  have h1 := (hf.slice Tryz.underlying24).1
  rw [show Tryz.prog.bytesOf 42 = 16 by kernel_rfl] at h1
  omega
theorem writes_fit {d : DataW H} (hf : Fit Tryz.prog 25 d) : capOf d ≤ 4398046511104 := by
  have h1 := (hf.slice Tryz.underlying25).1
  rw [show Tryz.prog.bytesOf 57 = 32 by kernel_rfl] at h1
  omega
theorem open_write {r : Reach} {b0 : Nat} {v : Value} {d : DataW H} {p : List MemPlace} (hv : Value.okWide Tryz.prog W r b0 57 v) (hT : DataW.Trod enc Tryz.prog W 0 (fun _ => true) true 57 v d p) :
    ∃ q : Wr, v = .agg #[.int .i64 q.1.1, .int .i64 q.1.2, .int .i64 q.2.1, .bool q.2.2] := by
  obtain ⟨q, rfl, _⟩ := opens_write.arg_agg Tryz.underlying57 hv hT
  exact ⟨q, rfl⟩
theorem open_note {r : Reach} {b0 : Nat} {v : Value} {d : DataW H} {p : List MemPlace} (hv : Value.okWide Tryz.prog W r b0 27 v) (hT : DataW.Trod enc Tryz.prog W 0 (fun _ => true) true 27 v d p) (hf : Fit Tryz.prog 27 d) :
    ∃ (q : NV) (x : Nt), v = .agg q.val ∧ NtRd W W.heap.size q x ∧ NtSz q := by
  have ho := Opens.struct (enc := enc) (P := Tryz.prog) (W := W) (tot := 4) Tryz.underlying27 (by kernel_rfl) (OpensFs.cons (s := 1) rfl (by kernel_rfl) opens_stamps (OpensFs.cons (s := 1) rfl (by kernel_rfl) opens_stamps (OpensFs.cons (s := 1) rfl (by kernel_rfl) opens_spans (OpensFs.cons (s := 1) rfl (by kernel_rfl) opens_writes OpensFs.nil))))
  obtain ⟨x, rfl, ds, rfl, d1, _, rfl, o1, d2, _, rfl, o2, d3, _, rfl, o3, d4, _, rfl, o4, _⟩ := ho.arg_agg Tryz.underlying27 hv hT
  have f1 := stamps_fit (hf.agg Tryz.underlying27 (j := 0) rfl rfl)
  have f2 := stamps_fit (hf.agg Tryz.underlying27 (j := 1) rfl rfl)
  have f3 := spans_fit (hf.agg Tryz.underlying27 (j := 2) rfl rfl)
  have f4 := writes_fit (hf.agg Tryz.underlying27 (j := 3) rfl rfl)
  rw [← o1.cap] at f1
  rw [← o2.cap] at f2
  rw [← o3.cap] at f3
  rw [← o4.cap] at f4
  exact ⟨⟨x.1.A, x.1.n, x.1.c, x.2.1.A, x.2.1.n, x.2.1.c, x.2.2.1.A, x.2.2.1.n, x.2.2.1.c, x.2.2.2.1.A, x.2.2.2.1.n, x.2.2.2.1.c⟩, ⟨x.1.xs, x.2.1.xs, x.2.2.1.xs, x.2.2.2.1.xs⟩, rfl,
    ⟨o1.len, o1.rd, o2.len, o2.rd, o3.len, o3.rd, o4.len, o4.rd⟩, ⟨Nat.le_trans o1.rd.cap f1, Nat.le_trans o2.rd.cap f2, Nat.le_trans o3.rd.cap f3, Nat.le_trans o4.rd.cap f4⟩⟩
theorem opens_zone : Opens enc Tryz.prog W 44 zvl (fun p d => (p.2.2.length = p.1.n ∧ Rd W W.heap.size 2 p.1.A p.1.n p.1.c (sv p.2.2)) ∧ (Fit Tryz.prog 44 d → p.1.n ≤ 8796093022208)) :=
  (Opens.struct (enc := enc) (P := Tryz.prog) (W := W) (tot := 3) Tryz.underlying44 (by kernel_rfl) (OpensFs.cons (s := 2) rfl (by kernel_rfl) opens_span (OpensFs.cons (s := 1) rfl (by kernel_rfl) opens_stamps OpensFs.nil))).map
    (fun x => ((⟨x.2.1.A, x.2.1.n, x.2.1.c⟩ : ZV), (x.1, x.2.1.xs))) _ _ (fun _ => rfl)
    (fun x d ⟨ds, e, d1, _, e1, o1, d2, _, e2, o2, _⟩ => ⟨⟨o2.len, o2.rd⟩, fun hf => by
      subst e e1 e2
      have f2 := stamps_fit (hf.agg Tryz.underlying44 (j := 1) rfl rfl)
      rw [← o2.cap] at f2
      exact Nat.le_trans o2.rd.cap f2⟩)
theorem opens_zones : Opens enc Tryz.prog W 22 slv (SlOk W 3 zvl (fun p d => (p.2.2.length = p.1.n ∧ Rd W W.heap.size 2 p.1.A p.1.n p.1.c (sv p.2.2)) ∧ (Fit Tryz.prog 44 d → p.1.n ≤ 8796093022208))) := Opens.slice Tryz.underlying22 (by kernel_rfl) (by decide) opens_zone
theorem open_zones {r : Reach} {b0 : Nat} {v : Value} {d : DataW H} {p : List MemPlace} (hv : Value.okWide Tryz.prog W r b0 22 v) (hT : DataW.Trod enc Tryz.prog W 0 (fun _ => true) true 22 v d p) (hf : Fit Tryz.prog 22 d) :
    ∃ A n c, ∃ l : List (ZV × Zn), v = .slice A n c ∧ RdZ W W.heap.size A n c l ∧ ZnSz n l := by
  obtain ⟨s, rfl, ok⟩ := opens_zones.arg_slice Tryz.underlying22 hv hT
  have f2 := hf.slice Tryz.underlying22
  rw [show Tryz.prog.bytesOf 44 = 40 by kernel_rfl, ← ok.cap] at f2
  have h2 := ok.rd.cap
  refine ⟨s.A, s.n, s.c, s.xs, rfl, ⟨ok.len, ok.rd, fun p hp => ?_⟩, ⟨by have := f2.1; omega, fun p hp => ?_⟩⟩
  · obtain ⟨d', _, h1, _⟩ := ok.el p hp
    exact h1
  · obtain ⟨d', hd, _, h1⟩ := ok.el p hp
    exact h1 (f2.2 d' hd)
end

/-- No parameter wants a stand-in; the program's own looks are off. -/
theorem plain_of {nm : String} {k : FuncId} {fk : Func} (h1 : Tryz.prog.funcNamed nm = some k) (h2 : Tryz.prog.funcs[k]? = some fk) (h3 : (fk.params.toList.all fun t => !Tryz.prog.wantsStandIn t) = true) (h4 : false = Tryz.pinned.checked.prog.looks [])
    (f : FuncId) (fn : Func) (hf : Tryz.pinned.checked.prog.funcNamed nm = some f) (hfn : Tryz.pinned.checked.prog.funcs[f]? = some fn) :
    false = Tryz.pinned.checked.prog.looks [] ∧ ∀ (j : Nat) t, fn.params[j]? = some t → Tryz.pinned.checked.prog.wantsStandIn t = false := by
  obtain rfl : f = k := (Option.some.inj (h1.symm.trans hf)).symm
  obtain rfl : fn = fk := (Option.some.inj (h2.symm.trans hfn)).symm
  refine ⟨h4, fun j t ht => ?_⟩
  have := List.all_eq_true.1 h3 t (by simpa using Array.mem_of_getElem? ht)
  show Tryz.prog.wantsStandIn t = false
  simpa using this
end Go.Proofs.YticnfjfdeagmaaaGreatDoor

/- TrustTakes holds for every input: any note is taken by any zones as the document says. No condition; the tied card.
-/
namespace Go.Proofs.YticnfjfdeagmaaaGreatDoor
open Go.ChangeShapes Go.WideShapes Go.ChangeAt Go.RowKit
set_option maxRecDepth 100000
theorem trustTakes_step (H : Type) (enc : TypeId × Value → H) (W : World) (base : Nat) (args : Array Value) (ds gs : List (DataW H)) (before : List MemPlace)
    (hval0 : ∀ (j : Nat) t v, Tryz.f3.params[j]? = some t → args[j]? = some v → Value.okWide Tryz.prog W .any base t v)
    (hW : DataW.Whole enc Tryz.prog Tryz.f3.params.toList Rows.trustTakesSpec.vars false W args.toList ds gs before)
    (hsz0 : (DataW.weightsEach Tryz.prog (Tryz.f3.params.toList ++ Rows.trustTakesSpec.plain.varTypes Tryz.prog) (ds ++ gs)).all (· ≤ reachBytes) = true) (hL : laidMetH Tryz.prog Rows.trustTakesRow.laid W) :
    Calls Tryz.prog 3 args W fun e W' => ∃ v, e = .returned v ∧ Rows.trustTakesSpec.post enc Tryz.prog Tryz.f3 false true false false W args v W' := by
  have hval : ∀ (j : Nat) t v, Tryz.f3.params[j]? = some t → args[j]? = some v → Value.okWide Tryz.prog W .any base t v := hval0
  have hsz := hsz0
  have hW' := hW
  obtain ⟨p, q, hA0, hV, rfl, hfz, hnd⟩ := hW
  have hA : DataW.TrodAll enc Tryz.prog W 0 (fun _ => true) true Tryz.f3.params.toList args.toList ds p := hA0
  rw [Tryz.params3] at hA hval hsz
  obtain ⟨v0, v1, v2, d0, d1, d2, p0, p1, p2, rfl, rfl, rfl, h0, h1, h2⟩ := trodAll_three hA
  obtain ⟨rfl, rfl⟩ := trodVars_none hV
  simp only [List.append_nil] at hW' hsz
  obtain ⟨A0, n0, c0, L0, rfl, hR0, hz0⟩ := open_zones (hval 0 22 v0 rfl rfl) h0 (Fit.arg hsz (j := 0) rfl rfl)
  obtain ⟨A1, n1, c1, l1, rfl, hl1, hR1, hn1⟩ := open_stamps (hval 1 23 v1 rfl rfl) h1 (Fit.arg hsz (j := 1) rfl rfl)
  obtain ⟨v2, x2, rfl, hN2, hs2⟩ := open_note (hval 2 27 v2 rfl rfl) h2 (Fit.arg hsz (j := 2) rfl rfl)
  refine (trustTakes_walk A0 A1 n0 c0 n1 c1 L0 l1 v2 x2 W (table hL) hR0 hz0 hl1 hR1 hN2 hs2).mono fun e W' ⟨he, hb⟩ => ?_
  exact ⟨_, he, law_post laidOut (by kernel_rfl) (tb := 4) (by kernel_rfl) Tryz.underlying4 rfl hW' rfl hb⟩

theorem trustTakes_met (os : Os) : laidMet Tryz.prog Rows.trustTakesRow.laid ((laidWorld os).forCall (fun _ _ => 0) ⟨#[], #[.slice none 0 0, .slice none 0 0, .agg #[.slice none 0 0, .slice none 0 0, .slice none 0 0, .slice none 0 0]], []⟩).memory :=
  laidMet_of_run' 8 (by kernel_rfl) (by kernel_rfl)
theorem trustTakes_reads (os : Os) {H : Type} (enc : TypeId × Value → H) : ∃ places, DataW.whole enc Tryz.prog ((laidWorld os).forCall (fun _ _ => 0) ⟨#[], #[.slice none 0 0, .slice none 0 0, .agg #[.slice none 0 0, .slice none 0 0, .slice none 0 0, .slice none 0 0]], []⟩).memory Tryz.f3.params.toList Rows.trustTakesSpec.vars false (#[.slice none 0 0, .slice none 0 0, .agg #[.slice none 0 0, .slice none 0 0, .slice none 0 0, .slice none 0 0]] : Array Value).toList 8 = some ([.nil, .nil, .agg [.nil, .nil, .nil, .nil]], [], places) :=
  ⟨[], by kernel_rfl⟩
theorem trustTakes_lifted (os : Os) (started : os.Started) (H : Type) (enc : TypeId × Value → H) (F : Stop.Interp) :
    ReturnsInHanded {} Tryz.checked os 3 .any ((OpenSpec.ofChange Rows.trustTakesSpec).preRow enc Tryz.prog Tryz.f3 Rows.trustTakesRow.domain false Rows.trustTakesRow.laid) (((OpenSpec.ofChange Rows.trustTakesSpec).at F).post enc Tryz.prog Tryz.f3 false true false false) := by
  obtain ⟨places, hx⟩ := trustTakes_reads os enc
  refine returnsInHanded_of_row (C := Tryz.checked) (s := OpenSpec.ofChange Rows.trustTakesSpec) own started (by kernel_rfl) Tryz.func3
    (witness_row_at (enc := enc) (C := Tryz.checked) false (laidWorld os) #[.slice none 0 0, .slice none 0 0, .agg #[.slice none 0 0, .slice none 0 0, .slice none 0 0, .slice none 0 0]] rfl (by kernel_rfl) (by kernel_rfl) (by kernel_rfl)
      (OpenSpec.preRow_of_cond 8 hx (by kernel_rfl) (fun k hk => by cases hk) (by kernel_rfl) (trustTakes_met os))) ?_
  intro W base args ds gs before hval hW _ _ hsz hL _ _
  exact trustTakes_step H enc W base args ds gs before hval hW hsz hL

theorem trustTakes_said : Rows.TrustTakesSaid :=
  OpenClaim.holds_of_cond 3 Tryz.f3 rfl rfl rfl rfl rfl rfl rfl ⟨rfl, rfl, rfl, rfl, rfl⟩ rfl rfl rfl rfl rfl (by kernel_rfl) Tryz.func3 (by kernel_rfl)
    (of_decide_eq_true (by kernel_rfl)) (by unfold Func.isWrapper; first | (rw [if_pos (by decide +kernel)]; kernel_rfl) | (rw [if_neg (by decide +kernel)]; exact ⟨rfl, rfl⟩))
    (fun os started H enc _ F => by rw [OpenClaim.pre_eq_preRow]; exact trustTakes_lifted os started H enc F)

theorem trustTakes_card : Rows.TrustTakesCardSaid :=
  Claim7.holds_tied_plain_at .later [] _ _ _ _ trustTakes_said (fun _ h => by cases h) (by kernel_rfl) (fun _ h => by cases h) trustTakes_row_tie rfl ⟨rfl, rfl⟩ (by kernel_rfl) rfl (plain_of (k := 3) (fk := Tryz.f3) (by kernel_rfl) Tryz.func3 (by kernel_rfl) (by kernel_rfl)) (by kernel_rfl)
#print axioms trustTakes_card
end Go.Proofs.YticnfjfdeagmaaaGreatDoor

