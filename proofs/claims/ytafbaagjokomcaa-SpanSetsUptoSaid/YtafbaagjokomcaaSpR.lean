/- Walks over span.All, span.Size. -/
import Derived.Test.YtafbaagjokomcaaSpO
import Derived.Test.YtafbaagjokomcaaSpQ
namespace Go.Proofs.Ytafbaagjokomcaa
open Go.RowKit Go.Shelf
set_option maxRecDepth 100000
attribute [local go_sem] Oper.semAt_some

/-- span.All: the function value over a set of its own. -/
theorem spAll_any (A : Option Addr) (n c : Nat) (l : List Sn.Sp) (w : World) (hl : l.length = n) (hR : Rd w w.heap.size 2 A n c (sv l)) (hn : n ≤ 8796093022208) :
    Calls Try.prog 14 #[.slice A n c] w fun e w' => ∃ (Bx : Nat) (A' : Option Addr) (c' : Nat), e = .returned (.func (.func 34) #[] #[.pointer (some ⟨Bx, 0, none⟩)]) ∧
      GoodS Bx w.heap.size A' (Sn.tidy l).length c' (Sn.tidy l) w' ∧ Below w.heap.size w w' := by
  have htl := Sn.tidy_len l
  have HTD := Lib.hid (tidy_any A n c l w hl hR hn)
  clear hR hl
  generalize Sn.tidy l = T at htl HTD ⊢
  go_enter Try.func14, Try.ntmps14
  go_wp2_with (go_at_call 32; go_must (refine HTD.out.mono ?_); rintro e w1 ⟨A1, c1, rfl, ho1, hb1⟩)
  go_ret
  have hs1 := hb1.size
  refine ⟨_, A1, c1, rfl, ⟨Blk.new w1 24 #[.slice A1 T.length c1], ((Rd.of_own ho1).alloc (Nat.le_refl _) _).more (by simp), hs1, fun a ha => ?_⟩, hb1.alloc hs1 _⟩
  obtain ⟨A', c', hv, _, hf⟩ := own_form ho1
  injection hv with hA _ _
  obtain ⟨g, rfl, hg, _⟩ := hf a (by rw [← hA]; exact ha)
  exact hg

theorem spAll_next (m : Nat) (hm : 1 ≤ m) (Bx B : Nat) (A : Option Addr) (q c : Nat) (l : List Sn.Sp) (hq : (Sn.tidy l).length = q) (w : World) (hg : GoodS Bx B A q c (Sn.tidy l) w) :
    SeqNext Fence.wide m Try.prog 34 #[.pointer (some ⟨Bx, 0, none⟩)] evN (fun pre x => (pre ++ [x]) <+: Sn.listTo (Sn.setOf l) 256) (KA B) (fun ys => ys = Sn.listTo (Sn.setOf l) 256) (fun pre => pre <+: Sn.listTo (Sn.setOf l) 256) 256 w := by
  intro lp J Jx W hW hJ hJx hY h0
  exact spAll1_in m hm lp Bx B A q c (Sn.tidy l) _ (Sn.segs_list l) (Sn.listTo_len _ _) hq (Sn.fmS_ok (Sn.tidy_fm l)) J Jx W.heap.size hJ hY W (hg.go hW) h0

theorem boxed_kept {B : Nat} {t : TypeId} {v : Value} {X Y : World} {row : Option Nat} (h : Boxed X B t v) (hg : X.grownBy Y row) (hr : ∀ r, row = some r → ∃ o : Obj, X.heap[r]? = some o ∧ o.isCells = false) : Boxed Y B t v :=
  boxed_own B _ (fun _ : Unit => _) () X Y row h hg hr

set_option maxHeartbeats 4000000 in
theorem spSize_any (A : Option Addr) (n c : Nat) (l : List Sn.Sp) (w : World) (hl : l.length = n) (hR : Rd w w.heap.size 2 A n c (sv l)) (hn : n ≤ 8796093022208) :
    Calls Try.prog 21 #[.slice A n c] w fun e w' => e = .returned (.int .i64 (numTo (Sn.setOf l) 256 : Nat)) ∧ Below w.heap.size w w' := by
  have hbA : Below w.heap.size w (w.alloc (.cells #[.int .i64 0] 3)) := (Below.refl _ w).alloc (Nat.le_refl _) _
  have H1 := Lib.hid (spAll_any A n c l (w.alloc (.cells #[.int .i64 0] 3)) hl (hR.go hbA) hn)
  have HN := Lib.hid (show numTo (Sn.setOf l) 256 = (Sn.listTo (Sn.setOf l) 256).length from rfl)
  clear hR hl
  refine (callsIn_wide (n := 3)).1 ?_
  refine callsIn_of_wp_marks Try.func21 rfl trivial ?_ rfl
  simp only [Try.ntmps21, List.size_toArray, List.length_cons, List.length_nil, Nat.reduceAdd, Nat.reduceSub, Array.replicate_succ, Array.replicate_zero, List.push_toArray, List.append_toArray, List.nil_append, List.cons_append]
  gi_wp2_with fail
  have bN := Boxed.new w 3 (.int .i64 0)
  refine ⟨trivial, ?_⟩
  refine (callsIn_wide.2 H1.out).mono ?_
  rintro e w2 ⟨Bx, A2, c2, rfl, hg, hb⟩
  have hs2 := hb.size
  rw [World.size_alloc] at hs2
  have bN2 : Boxed w2 w.heap.size 3 (.int .i64 0) := (hb.block _ (by simp)).trans bN
  have hb2 : Below w.heap.size w w2 := hbA.trans (hb.mono (by simp))
  have hg2 : GoodS Bx (w.heap.size + 1) A2 (Sn.tidy l).length c2 (Sn.tidy l) w2 := by
    have := hg
    rw [World.size_alloc] at this
    exact this
  have HQ := Lib.hid (spAll_next (3 - 1) (by omega) Bx (w.heap.size + 1) A2 _ c2 l rfl w2 hg2)
  clear H1 hg hg2 bN hb hbA
  gi_wp2
  refine wpIn_rangeFunc_next rfl (by omega) (gf := 34) (lb := #[.pointer (some ⟨Bx, 0, none⟩)]) rfl trivial (enters_of Try.func34 (by kernel_rfl) rfl)
    HQ.out KA.trans (fun W l o o' _ h1 h2 _ => KA.putObj h1 h2) (Below.refl _ _) (fun _ => rfl)
    (fun pre W => Boxed W w.heap.size 3 (.int .i64 (pre.length : Nat)) ∧ Below w.heap.size w W)
    (fun _ _ _ => False)
    (OwnFrom.and (Own.from (show Own (fun (pre : List Nat) W => Boxed W w.heap.size 3 (.int .i64 (pre.length : Nat))) from fun s X Y row hs hg hr => boxed_kept hs hg hr) _) (ownFrom_below (Nat.le_refl _) (by omega)))
    (fun c s X Y row hs _ _ => hs)
    ⟨bN2, hb2⟩
    (fun x a₁ _ => a₁ = { tmps := #[.slice A n c, undef, .int .i64 0, .pointer (some ⟨w.heap.size, 0, none⟩), .slice A n c, .func (.func 34) #[] #[.pointer (some ⟨Bx, 0, none⟩)], .int .i64 (x : Int), undef, undef, undef], defers := [] })
    (fun _ => by intro s X Y row hs _ _; exact hs) ?assign ?body ?done ?stop
  case assign =>
    intro l pre x W K hI _ hK
    dsimp only [evN]
    gi_wp2
    exact hK _ _ (KeepsFrom.refl _ _) (KA.refl _ _) hI (by simp)
  case body =>
    rintro l pre x a₁ W hl ⟨hI, hB⟩ _ rfl hlt
    have q1 := hI.cell
    have f1 := hI.frozen
    gi_wp2
    refine ⟨(KeepsOthers.setCell _ _ _).from _, KA.setCell (by simp) _, ?_, hB.setCell (p := ⟨w.heap.size, 0, none⟩) (Nat.le_refl _) _⟩
    have := hI.set (.int .i64 ((pre.length : Int) + 1))
    rw [List.length_append, List.length_singleton]
    exact this
  case done =>
    rintro E ys W hD rfl ⟨hI, hB⟩ hK
    have q1 := hI.cell
    gi_wp2
    refine ⟨by simp, .inl ⟨_, _, rfl, run_takeDeferred hK, ?_⟩⟩
    refine ⟨.int .i64 ((Sn.listTo (Sn.setOf l) 256).length : Nat), ?_, by rw [HN.out], hB.trans (belowK_b (w := w) (Nat.le_refl _) W E _ _ (by omega) hK rfl rfl)⟩
    simp [results, Try.f21, go_sem]
  case stop =>
    rintro E c' pre W hD hpre h _
    exact h.elim
end Go.Proofs.Ytafbaagjokomcaa
