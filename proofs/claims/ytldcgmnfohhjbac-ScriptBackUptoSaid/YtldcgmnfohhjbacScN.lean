/- Walk over the law ScriptBack (printed by wip/tools/genScN.py). -/
import Derived.Test.YtldcgmnfohhjbacScM
namespace Go.Proofs.Ytldcgmnfohhjbac
open Go.RowKit Go.Shelf
set_option maxRecDepth 100000
attribute [local go_sem] Oper.semAt_some

theorem evS_row {x : Sc.Stp} (h : Sc.fmB x = true) (hs : Sc.small x) (r : List UInt8) : evS (Wq.lR (Sc.enc x) ++ r) = (x, 0) :: evS r := by
  obtain ⟨h1, h2⟩ := Sc.enc_len (fmB_iff.1 h) hs
  have h3 : (Wq.lR (Sc.enc x) ++ r).length = (Pk.lay (Sc.enc x).length).length + (Sc.enc x).length + r.length := by rw [Wq.lR]; simp [Nat.add_assoc]
  have hne : Wq.lR (Sc.enc x) ++ r ≠ [] := fun e => by rw [e] at h3; simp at h3; omega
  rw [evS_next hne (Wq.pR_lay (by omega) (by omega) r)]
  obtain ⟨e1, e2⟩ := Sc.decX_yes (Sc.dec_enc (fmB_iff.1 h) hs)
  rw [e1, e2]
theorem evS_laid : ∀ (l : List Sc.Stp) (r : List UInt8), (∀ x ∈ l, Sc.fmB x = true) → (∀ x ∈ l, Sc.small x) → evS (laid l ++ r) = l.map (fun x => (x, 0)) ++ evS r
  | [], r, _, _ => rfl
  | x :: l, r, h, hs => by
    have e : laid (x :: l) ++ r = Wq.lR (Sc.enc x) ++ (laid l ++ r) := by simp [laid]
    rw [e, evS_row (h x (by simp)) (hs x (by simp)), evS_laid l r (fun y hy => h y (by simp [hy])) (fun y hy => hs y (by simp [hy]))]
    rfl
theorem laid_len : ∀ (l : List Sc.Stp), (∀ x ∈ l, Sc.fmB x = true) → (∀ x ∈ l, Sc.small x) → (laid l).length ≤ 1033 * l.length
  | [], _, _ => by simp [laid]
  | x :: l, h, hs => by
    have e : laid (x :: l) = Wq.lR (Sc.enc x) ++ laid l := by simp [laid]
    have h1 := (lR_enc_len (h x (by simp)) (hs x (by simp))).1
    have h2 := laid_len l (fun y hy => h y (by simp [hy])) (fun y hy => hs y (by simp [hy]))
    rw [e, List.length_append, List.length_cons]; omega
theorem layS_some : ∀ {l : List Sc.Stp} {bs : List UInt8}, layS l = some bs → bs = laid l ∧ ∀ x ∈ l, Sc.fmB x = true := by
  intro l bs h
  have h2 : ∀ x ∈ l, Sc.fmB x = true := fun x hx => by
    rcases hf : Sc.fmB x with _ | _
    · rw [layS_no hx hf] at h; cases h
    · rfl
  rw [layS_all h2] at h
  exact ⟨(Option.some.inj h).symm, h2⟩
theorem evS_ne {l : List UInt8} (h : l ≠ []) : 0 < (evS l).length := by
  rcases hp : Wq.pR l.length l with _ | ⟨row, r⟩
  · rw [evS_bad h hp]; simp
  · rw [evS_next h hp]; simp
theorem evS_ev (l : List UInt8) : ∀ p ∈ evS l, p.2 = 0 ∨ (p.2 = 14 ∧ p.1.kind = 0) := by
  induction hn : l.length using Nat.strongRecOn generalizing l with
  | _ n ih =>
    subst hn
    intro p hp0
    by_cases h : l = []
    · subst h; cases hp0
    · rcases hp : Wq.pR l.length l with _ | ⟨row, r⟩
      · rw [evS_bad h hp, List.mem_singleton] at hp0
        subst hp0; exact .inr ⟨rfl, rfl⟩
      · rw [evS_next h hp, List.mem_cons] at hp0
        rcases hp0 with rfl | hp0
        · rcases hd : Sc.dec row with _ | x
          · obtain ⟨e1, e2⟩ := Sc.decX_no hd
            rw [e1, e2]; exact .inr ⟨rfl, rfl⟩
          · rw [(Sc.decX_yes hd).2]; exact .inl rfl
        · exact ih r.length (pR_less hp) r rfl p hp0

section
variable {P : Program} (w : World)
theorem wpListIn_append_rd {F : Fence} {nF : Nat} {ops : Array Oper} {rest : List Oper} {o : Oper} {a : Act} {Q : Exit → Act → World → Prop} (hgd : o.guard = none) (s x : Operand) (t : TypeId)
    (ho : o.op = .call { callee := .builtin .append, args := #[s, x], argTypes := #[t, t] })
    (base : Nat) (e : TypeId) (i : TypeInfo) (z : Value) (size bytes : Nat) (ht : P.underlying t = some (.slice e)) (hi : P.info? e = some i) (hz : i.zero = some z)
    (hsize : i.size = size) (hby : i.bytes = bytes) (hzs : z.cells.size = size) (hsz : 0 < size)
    (v : Value) (n : Nat) (xs : List Value) (hs : a.eval s = v) (hown : w.ownsRow base e size v n xs)
    (B : Nat) (A : Option Addr) (m c : Nat) (news : List Value) (hx : a.eval x = .slice A m c) (hr : Rd w B size A m c news) (h1 : ∀ u ∈ news, u.oneCell' = true)
    (h63 : n + m ≤ maxLen) (hbytes : (n + m) * bytes ≤ 140737488355328) (hbase : base ≤ w.heap.size)
    (h : ∀ A' c' w', w'.ownsRow base e size (.slice A' (n + m) c') (n + m) (xs ++ news) → w.grownBy w' v.ownBlock → ((Value.slice A' (n + m) c').ownBlock = v.ownBlock ∨ (Value.slice A' (n + m) c').ownBlock = some w.heap.size) → wpListIn F nF P ops Q rest (a.put o.dst (.slice A' (n + m) c')) w') : wpListIn F nF P ops Q (o :: rest) a w := by
  refine wpListIn_plain hgd fun K hK' => ?_
  obtain ⟨A', c', w', hrun, r1, r2, r3⟩ := run_append_rd (P := P) w base t o.type e i z size bytes ht hi hz hsize hby hzs hsz v n xs hown B A m c news hr h1 h63 hbytes hbase
  unfold Oper.wpIn
  refine ⟨?_, ?_⟩
  · simp [Oper.about, ho, resolve, Target.leads, Sem.run_pure]
  · rw [Oper.semAt_plain F _ _ (by rw [ho]; intro c hc'; cases hc')]
    simp [execOp, ho, resolve, invoke, builtin, hs, hx, hrun, Result.andThen]
    exact hK' _ _ (h A' c' w' r1 r2 r3)
end

/-- What the loop keeps. -/
structure BkInv (w : World) (hi : Nat) (sl : Value) (r : Bool) (k : Nat) (W : World) : Prop where
  mo : Boxed W w.heap.size 37 sl
  re : Boxed W (w.heap.size + 1) 4 (.bool r)
  kk : Boxed W hi 3 (.int .i64 k)
theorem BkInv.kept {w : World} {hi : Nat} {sl : Value} {r : Bool} {k : Nat} {X Y : World} {row : Option Nat} (h : BkInv w hi sl r k X) (hg : X.grownBy Y row) (hr : ∀ r, row = some r → ∃ o : Obj, X.heap[r]? = some o ∧ o.isCells = false) : BkInv w hi sl r k Y :=
  ⟨boxed_own _ _ (fun _ : Unit => _) () X Y row h.mo hg hr, boxed_own _ _ (fun _ : Unit => _) () X Y row h.re hg hr, boxed_own _ _ (fun _ : Unit => _) () X Y row h.kk hg hr⟩
theorem BkInv.setR {w : World} {hi : Nat} {sl : Value} {r : Bool} {k : Nat} {W : World} (h : BkInv w hi sl r k W) (q : Bool) (h2 : w.heap.size + 1 < hi) : BkInv w hi sl q k (W.setCell ⟨w.heap.size + 1, 0, none⟩ (.bool q)) :=
  ⟨h.mo.other (by omega) _, h.re.set _, h.kk.other (by omega) _⟩
theorem BkInv.setK {w : World} {hi : Nat} {sl : Value} {r : Bool} {k : Nat} {W : World} (h : BkInv w hi sl r k W) (q : Nat) (h1 : w.heap.size + 1 < hi) : BkInv w hi sl r q (W.setCell ⟨hi, 0, none⟩ (.int .i64 q)) :=
  ⟨h.mo.other (by omega) _, h.re.other (by omega) _, h.kk.set _⟩
theorem BkInv.below {w : World} {hi : Nat} {sl : Value} {r : Bool} {k : Nat} {W V : World} (h : BkInv w hi sl r k W) (hb : Below W.heap.size W V) : BkInv w hi sl r k V :=
  ⟨(hb.block _ h.mo.lt).trans h.mo, (hb.block _ h.re.lt).trans h.re, (hb.block _ h.kk.lt).trans h.kk⟩
def BkStop (w : World) (hi : Nat) (sl : Value) (p : Prop) (W : World) : Prop := ∃ r k, BkInv w hi sl r k W ∧ (p → r = true)

set_option maxHeartbeats 4000000 in
theorem scriptBack_no (A M : Option Addr) (n c m mc : Nat) (L : List (SV × Sc.Stp)) (w : World) (h : RdSt w w.heap.size A n c L) (hs : ∀ p ∈ L, Sc.small p.2) (hn : n ≤ 1048576) (hr : layS (stps L) = none) :
    Calls Try.prog 7 #[.slice A n c, .slice M m mc] w (TrueP w) := by
  have E1 := Lib.hid fun (W : World) (h : RdSt W W.heap.size A n c L) => scLay_any A n c L W h hs (by omega)
  have HH := Lib.hid h
  rw [hr] at E1
  clear h hs hr
  have hbA : Below w.heap.size w ((w.alloc (.cells #[.slice A n c] 37)).alloc (.cells #[.bool false] 4)) := ((Below.refl _ w).alloc (Nat.le_refl _) _).alloc (by simp) _
  have bM := (Boxed.new w 37 (.slice A n c)).alloc (.cells #[.bool false] 4)
  have bR := Boxed.new (w.alloc (.cells #[.slice A n c] 37)) 4 (.bool false)
  rw [World.size_alloc] at bR
  obtain ⟨W0, hW0⟩ : ∃ W0, W0 = (w.alloc (.cells #[.slice A n c] 37)).alloc (.cells #[.bool false] 4) := ⟨_, rfl⟩
  rw [← hW0] at bM bR hbA
  have hs0 : W0.heap.size = w.heap.size + 1 + 1 := by rw [hW0]; simp
  have HW0 := Lib.hid hW0
  clear hW0
  go_enter Try.func7, Try.ntmps7
  go_wp2_with fail
  rw [← HW0.out]
  refine (alive_any W0).mono ?_
  rintro e w1 ⟨rfl, hb1⟩
  have hbw1 : Below w.heap.size w w1 := below_then hbA (Nat.le_refl _) hb1
  have bM1 : Boxed w1 w.heap.size 37 (.slice A n c) := (hb1.block _ (by omega)).trans bM
  have bR1 : Boxed w1 (w.heap.size + 1) 4 (.bool false) := (hb1.block _ (by omega)).trans bR
  have hs1 := hb1.size
  have qM := bM1.cell
  have HbM1 := Lib.hid bM1
  have HbR1 := Lib.hid bR1
  clear bM bR hbA hb1 HW0 bM1 bR1
  go_wp2_with fail
  refine (E1.out w1 (HH.out.go hbw1)).mono ?_
  rintro e w2 (⟨bs, v, hbs, _⟩ | ⟨_, rfl, hb2⟩)
  · cases hbs
  have hbw2 : Below w.heap.size w w2 := below_then hbw1 (Nat.le_refl _) hb2
  have bR2 : Boxed w2 (w.heap.size + 1) 4 (.bool false) := (hb2.block _ (by omega)).trans HbR1.out
  have q4 := bR2.cell
  have f4 := bR2.frozen
  clear qM hbw1 hb2 HbM1 HbR1 bR2
  have hc5 := World.cell?_setCell_same' w2 ⟨w.heap.size + 1, 0, none⟩ (.bool true) (by rw [q4]; rfl)
  go_wp2
  try simp only [Exit.inBlock, Exit.then]
  refine bodyPost_ret (v := .bool true) (by simp [results, Try.f7, go_sem, hc5]) rfl ?_
  exact ⟨rfl, hbw2.setCell (p := ⟨w.heap.size + 1, 0, none⟩) (by show _ ≤ w.heap.size + 1; omega) _⟩

set_option maxHeartbeats 16000000 in
theorem scriptBack_walk (A M : Option Addr) (n c m mc : Nat) (L : List (SV × Sc.Stp)) (l : List UInt8) (w : World) (h : RdSt w w.heap.size A n c L) (hs : ∀ p ∈ L, Sc.small p.2) (hn : n ≤ 1048576) (hl : l.length = m) (hR : Rd w w.heap.size 1 M m mc (bv l)) (hm : m ≤ 1048576) :
    Calls Try.prog 7 #[.slice A n c, .slice M m mc] w (TrueP w) := by
  rcases hr : layS (stps L) with _ | bs
  · exact scriptBack_no A M n c m mc L w h hs hn hr
  have E1 := Lib.hid fun (W : World) (h : RdSt W W.heap.size A n c L) => scLay_any A n c L W h hs (by omega)
  rw [hr] at E1
  obtain ⟨hbs, hfm⟩ := layS_some hr
  have hsm : ∀ x ∈ stps L, Sc.small x := fun x hx => by
    obtain ⟨p, hp, rfl⟩ := List.mem_map.1 hx
    exact hs p hp
  have hst : (stps L).length = n := by rw [stps, List.length_map, h.len]
  have hbl0 := laid_len _ hfm hsm
  have HEV := Lib.hid (show evS (bs ++ l) = (stps L).map (fun x => (x, 0)) ++ evS l by rw [hbs]; exact evS_laid _ _ hfm hsm)
  rw [← hbs, hst] at hbl0
  obtain ⟨bl, hbl⟩ : ∃ bl, bl = bs.length := ⟨_, rfl⟩
  rw [← hbl] at hbl0
  have hBe : ∀ (W w' : World) (v : Value), BytesAre W.heap.size W bs v w' → ∃ A' c', v = .slice A' bl c' ∧ w'.ownsRow W.heap.size 5 1 (.slice A' bl c') bl (bv bs) ∧ Below W.heap.size W w' := fun W w' v h => by rw [hbl]; exact h
  have HBE := Lib.hid hBe
  have HLL := Lib.hid (show (bs ++ l).length = bl + m by rw [List.length_append, hl, hbl])
  have HR := Lib.hid hR
  have HH := Lib.hid h
  have HST := Lib.hid hst
  have HML := Lib.hid hl
  obtain ⟨i0, hi0, hz0, hz1, hz2⟩ := info_parts u8_info
  have h63 : bl + m ≤ maxLen := by unfold maxLen; omega
  clear h hs hr hbs hfm hsm hst hbl hBe hl hR
  refine (callsIn_wide (n := 3)).1 ?_
  refine callsIn_of_wp_marks Try.func7 rfl trivial ?_ rfl
  simp only [Try.ntmps7, List.size_toArray, List.length_cons, List.length_nil, Nat.reduceAdd, Nat.reduceSub, Array.replicate_succ, Array.replicate_zero, List.push_toArray, List.append_toArray, List.nil_append, List.cons_append]
  gi_wp2_with fail
  have hbA : Below w.heap.size w ((w.alloc (.cells #[.slice A n c] 37)).alloc (.cells #[.bool false] 4)) := ((Below.refl _ w).alloc (Nat.le_refl _) _).alloc (by simp) _
  have bM := (Boxed.new w 37 (.slice A n c)).alloc (.cells #[.bool false] 4)
  have bR := Boxed.new (w.alloc (.cells #[.slice A n c] 37)) 4 (.bool false)
  rw [World.size_alloc] at bR
  obtain ⟨W0, hW0⟩ : ∃ W0, W0 = (w.alloc (.cells #[.slice A n c] 37)).alloc (.cells #[.bool false] 4) := ⟨_, rfl⟩
  have hs0 : W0.heap.size = w.heap.size + 1 + 1 := by rw [hW0]; simp
  rw [← hW0] at bM bR hbA ⊢
  clear hW0
  refine ⟨trivial, ?_⟩
  refine (callsIn_wide.2 (alive_any W0)).mono ?_
  rintro e w1 ⟨rfl, hb1⟩
  have hbw1 : Below w.heap.size w w1 := below_then hbA (Nat.le_refl _) hb1
  have bM1 : Boxed w1 w.heap.size 37 (.slice A n c) := (hb1.block _ (by omega)).trans bM
  have bR1 : Boxed w1 (w.heap.size + 1) 4 (.bool false) := (hb1.block _ (by omega)).trans bR
  have hs1 := hb1.size
  have qM := bM1.cell
  have HbM1 := Lib.hid bM1
  have HbR1 := Lib.hid bR1
  clear bM bR hbA hb1 bM1 bR1
  gi_wp2_with fail
  refine ⟨trivial, ?_⟩
  refine (callsIn_wide.2 (E1.out w1 (HH.out.go hbw1))).mono ?_
  rintro e w2 (⟨bs', v, hbs', rfl, hby⟩ | ⟨hno, _⟩)
  rotate_left
  · cases hno
  simp only [Option.some.injEq] at hbs'
  subst hbs'
  obtain ⟨B1, d1, rfl, ho1, hb2⟩ := HBE.out _ _ _ hby
  have hbw2 : Below w.heap.size w w2 := below_then hbw1 (Nat.le_refl _) hb2
  have bM2 : Boxed w2 w.heap.size 37 (.slice A n c) := (hb2.block _ (by omega)).trans HbM1.out
  have bR2 : Boxed w2 (w.heap.size + 1) 4 (.bool false) := (hb2.block _ (by omega)).trans HbR1.out
  have hs2 := hb2.size
  have GC := Lib.hid (copy_any B1 bl d1 (bv bs) w2 (Rd.of_own ho1) (bv_oneCell bs) (by omega))
  have HbM2 := Lib.hid bM2
  have HbR2 := Lib.hid bR2
  clear qM hb2 hby ho1 bM2 bR2 HbM1 HbR1 hbw1
  gi_wp2_with fail
  refine ⟨trivial, ?_⟩
  refine (callsIn_wide.2 GC.out).mono ?_
  rintro e w3 ⟨C1, e1, rfl, ho2, hb3⟩
  have hbw3 : Below w.heap.size w w3 := below_then hbw2 (Nat.le_refl _) hb3
  have hs3 := hb3.size
  clear GC
  gi_wp2_with (gi_at_builtin; go_must (refine wpListIn_append_rd _ rfl (.tmp 24) (.tmp 25) _ rfl w2.heap.size 5 i0 _ 1 1 Try.underlying23 hi0 hz0 hz1 hz2 rfl (by decide) (.slice C1 bl e1) bl (bv bs) rfl ho2 _ M m mc (bv l) rfl (HR.out.below hbw3) (bv_oneCell l) h63 (by omega) hs3 ?_); intro A3 c3 w4 ho4 hg4 hat4)
  have hbX4 := grown_below hg4 hs3 (own_lt ho2)
  have hbw4 : Below w.heap.size w w4 := hbw3.trans (hbX4.mono hbw2.size)
  have bM4 : Boxed w4 w.heap.size 37 (.slice A n c) := (hbX4.block _ (by omega)).trans ((hb3.block _ (by omega)).trans HbM2.out)
  have bR4 : Boxed w4 (w.heap.size + 1) 4 (.bool false) := (hbX4.block _ (by omega)).trans ((hb3.block _ (by omega)).trans HbR2.out)
  have hs4 := hbX4.size
  have hRA : Rd w4 w4.heap.size 1 A3 (bl + m) c3 (bv (bs ++ l)) := by rw [bv_app]; exact Rd.of_own ho4
  clear hat4 ho4 hg4 ho2 hb3 hbX4 HbM2 HbR2 hbw3 hbw2
  refine ⟨trivial, ?_⟩
  refine (callsIn_wide.2 (scAll_any A3 (bl + m) c3 _)).mono ?_
  rintro e w5 ⟨rfl, rfl⟩
  have bK := Boxed.new w4 3 (.int .i64 0)
  have hbK : Below w4.heap.size w4 (w4.alloc (.cells #[.int .i64 0] 3)) := (Below.refl _ _).alloc (Nat.le_refl _) _
  obtain ⟨W4, hW4⟩ : ∃ W4, W4 = w4.alloc (.cells #[.int .i64 0] 3) := ⟨_, rfl⟩
  have hsW4 : W4.heap.size = w4.heap.size + 1 := by rw [hW4]; simp
  rw [← hW4] at bK hbK ⊢
  clear hW4
  have hInv4 : BkInv w w4.heap.size (.slice A n c) false 0 W4 := ⟨(hbK.block _ (by omega)).trans bM4, (hbK.block _ (by omega)).trans bR4, bK⟩
  have hbwK := below_then hbw4 (Nat.le_refl _) hbK
  have hbX : Below W4.heap.size W4 (W4.alloc (.cells #[.slice A3 (bl + m) c3] 23)) := (Below.refl _ _).alloc (Nat.le_refl _) _
  have hbw5 := below_then hbwK (Nat.le_refl _) hbX
  have hBx := Blk.new W4 23 #[.slice A3 (bl + m) c3]
  rw [hsW4] at hBx
  have hGood : GoodS (w4.heap.size + 1) w4.heap.size A3 (bl + m) c3 (bs ++ l) (W4.alloc (.cells #[.slice A3 (bl + m) c3] 23)) := ⟨hBx, hRA.below (below_then hbK (Nat.le_refl _) hbX), by omega⟩
  have hInv : BkInv w w4.heap.size (.slice A n c) false 0 (W4.alloc (.cells #[.slice A3 (bl + m) c3] 23)) := hInv4.below hbX
  have hTold := scAll_told (3 - 1) (by omega) (w4.heap.size + 1) w4.heap.size A3 (bl + m) c3 (bs ++ l) _ hGood HLL.out (by omega)
  obtain ⟨W5, hW5⟩ : ∃ W5, W5 = W4.alloc (.cells #[.slice A3 (bl + m) c3] 23) := ⟨_, rfl⟩
  have hs5 : W5.heap.size = W4.heap.size + 1 := by rw [hW5]; simp
  rw [← hW5] at hGood hInv hTold hbw5 ⊢
  clear hW5 hbX hbK bK hInv4 hbw4 bM4 bR4 hbwK hRA hBx
  have HTold := Lib.hid hTold
  clear hTold
  have hlo2 : w.heap.size + 1 < w4.heap.size := by omega
  gi_wp2
  refine wpIn_rangeFunc_told rfl (by omega) (gf := 38) (lb := #[.pointer (some ⟨w4.heap.size + 1, 0, none⟩)]) rfl trivial (enters_of Try.func38 (by kernel_rfl) rfl)
    HTold.out goodS_t (fun W lp o o' _ h ho _ => goodS_b W lp o o' h ho) (Below.refl _ _) (fun _ => rfl)
    (fun pre W => BkInv w w4.heap.size (.slice A n c) false pre.length W ∧ Below w.heap.size w W)
    (fun cc pre W => (cc = .ret ∧ BkStop w w4.heap.size (.slice A n c) (said pre <+: evS (bs ++ l)) W) ∧ Below w.heap.size w W)
    (OwnFrom.and (Own.from (fun s X Y row hs hg hr => hs.kept hg hr) _) (ownFrom_below (Nat.le_refl _) (by omega)))
    (fun _ => OwnFrom.and (Own.from (fun s X Y row hs hg hr => ⟨hs.1, hs.2.choose, hs.2.choose_spec.choose, hs.2.choose_spec.choose_spec.1.kept hg hr, hs.2.choose_spec.choose_spec.2⟩) _) (ownFrom_below (Nat.le_refl _) (by omega)))
    ⟨hInv, hbw5⟩
    (fun x a₁ V => EvIn w4.heap.size x V a₁ (fun Bs => { tmps := #[.slice A n c, .slice M m mc, .pointer (some ⟨w.heap.size, 0, none⟩), undef, .pointer (some ⟨w.heap.size + 1, 0, none⟩), .slice B1 bl d1, .int .i64 0, .slice A3 (bl + m) c3, .pointer (some ⟨w4.heap.size, 0, none⟩), .pointer (some ⟨Bs, 0, none⟩), .int .i64 (x.2.2 : Int), .bool true, .bool false, .tuple #[.slice B1 bl d1, .int .i64 0], .slice A n c, .tuple #[.slice B1 bl d1, .int .i64 0], .slice B1 bl d1, .int .i64 0, .int .i64 0, .bool false, undef, undef, undef, .slice B1 bl d1, .slice C1 bl e1, .slice M m mc, .slice A3 (bl + m) c3, .slice A3 (bl + m) c3, .func (.func 38) #[] #[.pointer (some ⟨w4.heap.size + 1, 0, none⟩)], .agg (x.1.val x.2.1), .int .i64 (x.2.2 : Int), undef, undef, undef, undef, undef, undef, undef, undef, undef, undef, undef, undef, undef, undef, undef, undef, undef, undef, undef, undef, undef, undef, undef, undef, undef, undef, undef, undef, undef, undef, undef, undef, undef, undef, undef, undef, undef, undef, undef, undef, undef, undef, undef, undef, undef, undef, undef, undef, undef, undef], defers := [] })) (fun a₁ => EvIn.own _ _ _ _) ?assign ?body ?done ?stop
  case assign =>
    rintro lp pre x W K ⟨hI, hB⟩ hT hK
    obtain ⟨⟨P1, p1, q1, P2, p2, q2⟩, ⟨xk, xa, xb, xo, xn, xs, xv⟩, er⟩ := x
    dsimp only [evsS]
    gi_wp2
    have hbA : Below W.heap.size W (W.alloc (.cells (SV.val ⟨P1, p1, q1, P2, p2, q2⟩ ⟨xk, xa, xb, xo, xn, xs, xv⟩) 25)) := (Below.refl _ _).alloc (Nat.le_refl _) _
    exact hK _ _ ((KeepsOthers.alloc _ _).from _) (fun g => g.alloc _) ⟨hI.below hbA, hB.alloc hB.size _⟩ ⟨W.heap.size, hI.kk.lt, Blk.new W _ _, StpRd.go hT hbA, rfl⟩
  case body =>
    rintro lp pre x a₁ W hlp ⟨hI, hB⟩ ⟨Bs, hBs, hX, hT, rfl⟩ hlt
    obtain ⟨⟨P1, p1, q1, P2, p2, q2⟩, ⟨xk, xa, xb, xo, xn, xs, xv⟩, er⟩ := x
    have hT' : StpRd W W.heap.size ⟨P1, p1, q1, P2, p2, q2⟩ ⟨xk, xa, xb, xo, xn, xs, xv⟩ := hT
    obtain ⟨k, hk0⟩ : ∃ k, k = pre.length := ⟨_, rfl⟩
    rw [← hk0] at hI hlt
    have HK0 := Lib.hid hk0
    have hspl : (said pre).length = k := by rw [hk0]; simp [said]
    have HSPL := Lib.hid hspl
    clear hk0 hspl
    have HI := Lib.hid hI
    have hRS := HH.out.go hB
    have f3 := hI.kk.frozen
    have f4 := hI.re.frozen
    have q4 := hI.re.cell
    have kw : Below W.heap.size W W.drew := (Below.refl _ W).drew
    have hWs : w4.heap.size < W.heap.size := hI.kk.lt
    have HSN := Lib.hid (show said (pre ++ [(⟨P1, p1, q1, P2, p2, q2⟩, ⟨xk, xa, xb, xo, xn, xs, xv⟩, er)]) = said pre ++ [(⟨xk, xa, xb, xo, xn, xs, xv⟩, er)] from said_snoc _ _)
    have hk64 : k < 9223372036854775807 := by omega
    have hpe : said (pre ++ [(⟨P1, p1, q1, P2, p2, q2⟩, ⟨xk, xa, xb, xo, xn, xs, xv⟩, er)]) <+: evS (bs ++ l) → (evS (bs ++ l))[k]? = some (⟨xk, xa, xb, xo, xn, xs, xv⟩, er) := fun h => by
      rw [HSN.out] at h
      obtain ⟨h2, h3⟩ := prefix_at2 h
      rw [← HSPL.out, List.getElem?_eq_getElem h2, h3]
    by_cases hk : k < n
    · have hkL : k < L.length := by rw [hRS.len]; exact hk
      have hev : (evS (bs ++ l))[k]? = some (L[k].2, 0) := by
        rw [HEV.out, List.getElem?_append_left (by simpa [stps] using hkL)]
        simp [stps, List.getElem?_eq_getElem hkL]
      obtain ⟨b, o, rfl, hab, g0, g1, g2, g3, g4, g5, g6⟩ := hRS.step hkL
      have hrd := hRS.each _ (List.getElem_mem hkL)
      generalize hPk : L[k] = pk at g0 g1 g2 g3 g4 g5 g6 hrd hev
      obtain ⟨⟨R1, r1, s1, R2, r2, s2⟩, ⟨yk, ya, yb, yo, yn, ys, yv⟩⟩ := pk
      have hab' : b < W.heap.size := hab
      have HQ := Lib.hid fun W' (hb : Below W.heap.size W W') => (show (W'.cell? ⟨w4.heap.size, 0, none⟩ = some (.int .i64 (k : Int)) ∧ W'.cell? ⟨w.heap.size, 0, none⟩ = some (.slice (some ⟨b, o, none⟩) n c) ∧ W'.cell? ⟨Bs, 0, none⟩ = some (.int .i64 xk) ∧ W'.cell? ⟨Bs, 1, none⟩ = some (.int .i64 xa) ∧ W'.cell? ⟨Bs, 2, none⟩ = some (.int .i64 xb) ∧ W'.cell? ⟨Bs, 3, none⟩ = some (.int .i64 xo) ∧ W'.cell? ⟨Bs, 4, none⟩ = some (.int .i64 xn) ∧ W'.cell? ⟨Bs, 5, none⟩ = some (.slice P1 p1 q1) ∧ W'.cell? ⟨Bs, 6, none⟩ = some (.slice P2 p2 q2) ∧ W'.cell? ⟨b, o + k * 7, none⟩ = some (.int .i64 yk) ∧ W'.cell? ⟨b, o + k * 7 + 1, none⟩ = some (.int .i64 ya) ∧ W'.cell? ⟨b, o + k * 7 + 2, none⟩ = some (.int .i64 yb) ∧ W'.cell? ⟨b, o + k * 7 + 3, none⟩ = some (.int .i64 yo) ∧ W'.cell? ⟨b, o + k * 7 + 4, none⟩ = some (.int .i64 yn) ∧ W'.cell? ⟨b, o + k * 7 + 5, none⟩ = some (.slice R1 r1 s1) ∧ W'.cell? ⟨b, o + k * 7 + 6, none⟩ = some (.slice R2 r2 s2)) from ⟨(hb.cell (p := ⟨w4.heap.size, 0, none⟩) hI.kk.lt).trans hI.kk.cell, (hb.cell (p := ⟨w.heap.size, 0, none⟩) hI.mo.lt).trans hI.mo.cell, (hb.cell (p := ⟨Bs, 0, none⟩) hX.lt).trans (hX.cell 0), (hb.cell (p := ⟨Bs, 1, none⟩) hX.lt).trans (hX.cell 1), (hb.cell (p := ⟨Bs, 2, none⟩) hX.lt).trans (hX.cell 2), (hb.cell (p := ⟨Bs, 3, none⟩) hX.lt).trans (hX.cell 3), (hb.cell (p := ⟨Bs, 4, none⟩) hX.lt).trans (hX.cell 4), (hb.cell (p := ⟨Bs, 5, none⟩) hX.lt).trans (hX.cell 5), (hb.cell (p := ⟨Bs, 6, none⟩) hX.lt).trans (hX.cell 6), (hb.cell (p := ⟨b, o + k * 7, none⟩) hab').trans g0, (hb.cell (p := ⟨b, o + k * 7 + 1, none⟩) hab').trans g1, (hb.cell (p := ⟨b, o + k * 7 + 2, none⟩) hab').trans g2, (hb.cell (p := ⟨b, o + k * 7 + 3, none⟩) hab').trans g3, (hb.cell (p := ⟨b, o + k * 7 + 4, none⟩) hab').trans g4, (hb.cell (p := ⟨b, o + k * 7 + 5, none⟩) hab').trans g5, (hb.cell (p := ⟨b, o + k * 7 + 6, none⟩) hab').trans g6⟩)
      have hkk : decide (k < n) = true := decide_eq_true hk
      have hkn : decide (n ≤ k) = false := decide_eq_false (by omega)
      have hSame := fun (V : World) (hb : Below W.heap.size W V) => refScSame_any ⟨P1, p1, q1, P2, p2, q2⟩ ⟨R1, r1, s1, R2, r2, s2⟩ ⟨xk, xa, xb, xo, xn, xs, xv⟩ ⟨yk, ya, yb, yo, yn, ys, yv⟩ V (hT'.go hb) (hrd.go hb)
      have hpn : said (pre ++ [(⟨P1, p1, q1, P2, p2, q2⟩, ⟨xk, xa, xb, xo, xn, xs, xv⟩, er)]) <+: evS (bs ++ l) → ((⟨xk, xa, xb, xo, xn, xs, xv⟩ : Sc.Stp) = ⟨yk, ya, yb, yo, yn, ys, yv⟩ ∧ er = 0) := fun h => by
        have h4 := hpe h
        rw [hev] at h4
        simp only [Option.some.injEq, Prod.mk.injEq] at h4
        exact ⟨h4.1.symm, h4.2.symm⟩
      clear g0 g1 g2 g3 g4 g5 g6 hev hrd hT' hRS hkL hPk hX hT hpe hab
      by_cases ee : er = 0
      · by_cases es : (⟨xk, xa, xb, xo, xn, xs, xv⟩ : Sc.Stp) = ⟨yk, ya, yb, yo, yn, ys, yv⟩
        · have G := Lib.hid fun (V : World) (hb : Below W.heap.size W V) => (show Calls Try.prog 17 #[.agg #[.int .i64 xk, .int .i64 xa, .int .i64 xb, .int .i64 xo, .int .i64 xn, .slice P1 p1 q1, .slice P2 p2 q2], .agg #[.int .i64 yk, .int .i64 ya, .int .i64 yb, .int .i64 yo, .int .i64 yn, .slice R1 r1 s1, .slice R2 r2 s2]] V fun e w' => e = .returned (.bool true) ∧ Below V.heap.size V w' from by have := hSame V hb; rwa [decide_eq_true es] at this)
          have he : ((er : Int) != 0) = false := by rw [ee]; rfl
          clear hpn hSame es ee
          gi_wp2
          refine region_round (S := (fun W' => W'.cell? ⟨w4.heap.size, 0, none⟩ = some (.int .i64 (k : Int)) ∧ W'.cell? ⟨w.heap.size, 0, none⟩ = some (.slice (some ⟨b, o, none⟩) n c) ∧ W'.cell? ⟨Bs, 0, none⟩ = some (.int .i64 xk) ∧ W'.cell? ⟨Bs, 1, none⟩ = some (.int .i64 xa) ∧ W'.cell? ⟨Bs, 2, none⟩ = some (.int .i64 xb) ∧ W'.cell? ⟨Bs, 3, none⟩ = some (.int .i64 xo) ∧ W'.cell? ⟨Bs, 4, none⟩ = some (.int .i64 xn) ∧ W'.cell? ⟨Bs, 5, none⟩ = some (.slice P1 p1 q1) ∧ W'.cell? ⟨Bs, 6, none⟩ = some (.slice P2 p2 q2) ∧ W'.cell? ⟨b, o + k * 7, none⟩ = some (.int .i64 yk) ∧ W'.cell? ⟨b, o + k * 7 + 1, none⟩ = some (.int .i64 ya) ∧ W'.cell? ⟨b, o + k * 7 + 2, none⟩ = some (.int .i64 yb) ∧ W'.cell? ⟨b, o + k * 7 + 3, none⟩ = some (.int .i64 yo) ∧ W'.cell? ⟨b, o + k * 7 + 4, none⟩ = some (.int .i64 yn) ∧ W'.cell? ⟨b, o + k * 7 + 5, none⟩ = some (.slice R1 r1 s1) ∧ W'.cell? ⟨b, o + k * 7 + 6, none⟩ = some (.slice R2 r2 s2))) (by kernel_rfl) (by kernel_rfl) (by first | exact HQ.out _ kw) (fun KK hKK hHeld => ?_)
          refine wpAnyH_putD (i := 0) (d := 31) (v := ?_) rfl rfl (by kernel_rfl) (by kernel_rfl) (by kernel_rfl) (fun _ _ _ h => h) (Or.inl ⟨by kernel_rfl, ?_⟩) (by first | exact HQ.out _ kw) ?_
          rotate_left
          · (intro w hS; (try dsimp only at hS); go_simp <;> with_reducible rfl)
          try simp only [List.setIfInBounds_toArray, List.set_cons_zero, List.set_cons_succ]
          refine wpAnyH_putD (i := 1) (d := 32) (v := ?_) rfl rfl (by kernel_rfl) (by kernel_rfl) (by kernel_rfl) (fun _ _ _ h => h) (Or.inl ⟨by kernel_rfl, ?_⟩) (by first | exact HQ.out _ kw) ?_
          rotate_left
          · (intro w hS; (try dsimp only at hS); go_simp <;> with_reducible rfl)
          try simp only [List.setIfInBounds_toArray, List.set_cons_zero, List.set_cons_succ]
          refine wpAnyH_putD (i := 2) (d := 33) (v := ?_) rfl rfl (by kernel_rfl) (by kernel_rfl) (by kernel_rfl) (fun _ _ _ h => h) (Or.inl ⟨by kernel_rfl, ?_⟩) (by first | exact HQ.out _ kw) ?_
          rotate_left
          · (intro w hS; (try dsimp only at hS); go_simp <;> with_reducible rfl)
          try simp only [List.setIfInBounds_toArray, List.set_cons_zero, List.set_cons_succ]
          refine wpAnyH_putD (i := 3) (d := 34) (v := (.bool true)) rfl rfl (by kernel_rfl) (by kernel_rfl) (by kernel_rfl) (fun _ _ _ h => h) (Or.inl ⟨by kernel_rfl, ?_⟩) (by first | exact HQ.out _ kw) ?_
          · (intro w hS; (try dsimp only at hS); go_simp <;> with_reducible rfl)
          try simp only [List.setIfInBounds_toArray, List.set_cons_zero, List.set_cons_succ]
          refine wpAnyH_putD (i := 4) (d := 35) (v := ?_) rfl rfl (by kernel_rfl) (by kernel_rfl) (by kernel_rfl) (fun _ _ _ h => h) (Or.inl ⟨by kernel_rfl, ?_⟩) (by first | exact HQ.out _ kw) ?_
          rotate_left
          · (intro w hS; (try dsimp only at hS); go_simp <;> with_reducible rfl)
          try simp only [List.setIfInBounds_toArray, List.set_cons_zero, List.set_cons_succ]
          refine wpAnyH_putD (i := 5) (d := 36) (v := ?_) rfl rfl (by kernel_rfl) (by kernel_rfl) (by kernel_rfl) (fun _ _ _ h => h) (Or.inl ⟨by kernel_rfl, ?_⟩) (by first | exact HQ.out _ kw) ?_
          rotate_left
          · (intro w hS; (try dsimp only at hS); go_simp <;> with_reducible rfl)
          try simp only [List.setIfInBounds_toArray, List.set_cons_zero, List.set_cons_succ]
          refine wpAnyH_putD (i := 6) (d := 37) (v := (.bool false)) rfl rfl (by kernel_rfl) (by kernel_rfl) (by kernel_rfl) (fun _ _ _ h => h) (Or.inl ⟨by kernel_rfl, ?_⟩) (by first | exact HQ.out _ kw) ?_
          · (intro w hS; (try dsimp only at hS); go_simp <;> with_reducible rfl)
          try simp only [List.setIfInBounds_toArray, List.set_cons_zero, List.set_cons_succ]
          refine wpAnyH_putD (i := 7) (d := 38) (v := ?_) rfl rfl (by kernel_rfl) (by kernel_rfl) (by kernel_rfl) (fun _ _ _ h => h) (Or.inl ⟨by kernel_rfl, ?_⟩) (by first | exact HQ.out _ kw) ?_
          rotate_left
          · (intro w hS; (try dsimp only at hS); go_simp <;> with_reducible rfl)
          try simp only [List.setIfInBounds_toArray, List.set_cons_zero, List.set_cons_succ]
          refine wpAnyH_putD (i := 8) (d := 39) (v := ?_) rfl rfl (by kernel_rfl) (by kernel_rfl) (by kernel_rfl) (fun _ _ _ h => h) (Or.inl ⟨by kernel_rfl, ?_⟩) (by first | exact HQ.out _ kw) ?_
          rotate_left
          · (intro w hS; (try dsimp only at hS); go_simp <;> with_reducible rfl)
          try simp only [List.setIfInBounds_toArray, List.set_cons_zero, List.set_cons_succ]
          refine wpAnyH_putD (i := 9) (d := 40) (v := ?_) rfl rfl (by kernel_rfl) (by kernel_rfl) (by kernel_rfl) (fun _ _ _ h => h) (Or.inl ⟨by kernel_rfl, ?_⟩) (by first | exact HQ.out _ kw) ?_
          rotate_left
          · (intro w hS; (try dsimp only at hS); go_simp <;> with_reducible rfl)
          try simp only [List.setIfInBounds_toArray, List.set_cons_zero, List.set_cons_succ]
          refine wpAnyH_putD (i := 10) (d := 41) (v := ?_) rfl rfl (by kernel_rfl) (by kernel_rfl) (by kernel_rfl) (fun _ _ _ h => h) (Or.inl ⟨by kernel_rfl, ?_⟩) (by first | exact HQ.out _ kw) ?_
          rotate_left
          · (intro w hS; (try dsimp only at hS); go_simp <;> with_reducible rfl)
          try simp only [List.setIfInBounds_toArray, List.set_cons_zero, List.set_cons_succ]
          refine wpAnyH_putD (i := 11) (d := 42) (v := ?_) rfl rfl (by kernel_rfl) (by kernel_rfl) (by kernel_rfl) (fun _ _ _ h => h) (Or.inl ⟨by kernel_rfl, ?_⟩) (by first | exact HQ.out _ kw) ?_
          rotate_left
          · (intro w hS; (try dsimp only at hS); go_simp <;> with_reducible rfl)
          try simp only [List.setIfInBounds_toArray, List.set_cons_zero, List.set_cons_succ]
          refine wpAnyH_putD (i := 12) (d := 43) (v := ?_) rfl rfl (by kernel_rfl) (by kernel_rfl) (by kernel_rfl) (fun _ _ _ h => h) (Or.inl ⟨by kernel_rfl, ?_⟩) (by first | exact HQ.out _ kw) ?_
          rotate_left
          · (intro w hS; (try dsimp only at hS); go_simp <;> with_reducible rfl)
          try simp only [List.setIfInBounds_toArray, List.set_cons_zero, List.set_cons_succ]
          refine wpAnyH_ready (rs := [13]) (by kernel_rfl) (by simp) ?_
          refine AllReadyH.cons rfl (fun K hK => ?_) AllReadyH.nil
          go_simp
          refine (G.out _ kw).mono ?_
          rintro e V ⟨rfl, hb'⟩
          have kw := below_then kw (Nat.le_refl _) hb'
          clear hb'
          refine hK.out _ _ (by first | exact HQ.out _ kw) (fun hHeld => ?_)
          clear hK K
          refine wpAnyH_putD (i := 14) (d := 45) (v := ?_) rfl rfl (by kernel_rfl) (by kernel_rfl) (by kernel_rfl) (fun _ _ _ h => h) (Or.inl ⟨by kernel_rfl, ?_⟩) (by first | exact HQ.out _ kw) ?_
          rotate_left
          · (intro w hS; (try dsimp only at hS); go_simp <;> with_reducible rfl)
          try simp only [List.setIfInBounds_toArray, List.set_cons_zero, List.set_cons_succ]
          refine wpAnyH_putD (i := 15) (d := 46) (v := ?_) rfl rfl (by kernel_rfl) (by kernel_rfl) (by kernel_rfl) (fun _ _ _ h => h) (Or.inl ⟨by kernel_rfl, ?_⟩) (by first | exact HQ.out _ kw) ?_
          rotate_left
          · (intro w hS; (try dsimp only at hS); go_simp <;> with_reducible rfl)
          try simp only [List.setIfInBounds_toArray, List.set_cons_zero, List.set_cons_succ]
          refine wpAnyH_putD (i := 16) (d := 47) (v := ?_) rfl rfl (by kernel_rfl) (by kernel_rfl) (by kernel_rfl) (fun _ _ _ h => h) (Or.inl ⟨by kernel_rfl, ?_⟩) (by first | exact HQ.out _ kw) ?_
          rotate_left
          · (intro w hS; (try dsimp only at hS); go_simp <;> with_reducible rfl)
          try simp only [List.setIfInBounds_toArray, List.set_cons_zero, List.set_cons_succ]
          refine wpAnyH_done (by kernel_rfl) ?_ _
          refine Nrm.out (hKK _ _ ?_)
          have hIV := HI.out.below kw
          have f4 := hIV.re.frozen
          have q4 := hIV.re.cell
          have q3 := hIV.kk.cell
          have qm := hIV.mo.cell
          obtain ⟨-, -, qx, -⟩ := HQ.out _ kw
          have f3 := hIV.kk.frozen
          gi_wp2
          refine ⟨((keeps_below kw).trans (KeepsOthers.setCell _ _ _)).from _, fun g => (g.below kw g.box.lt).setCell (p := ⟨w4.heap.size, 0, none⟩) (by show w4.heap.size ≠ _; omega) (by show _ ≤ w4.heap.size; omega) _, ?_, (hB.trans (kw.mono hB.size)).setCell (p := ⟨w4.heap.size, 0, none⟩) (by show _ ≤ w4.heap.size; omega) _⟩
          rw [List.length_append, List.length_singleton, ← HK0.out]
          exact hIV.setK (k + 1) hlo2
        · have HNO := Lib.hid (fun h => es (hpn h).1)
          have G := Lib.hid fun (V : World) (hb : Below W.heap.size W V) => (show Calls Try.prog 17 #[.agg #[.int .i64 xk, .int .i64 xa, .int .i64 xb, .int .i64 xo, .int .i64 xn, .slice P1 p1 q1, .slice P2 p2 q2], .agg #[.int .i64 yk, .int .i64 ya, .int .i64 yb, .int .i64 yo, .int .i64 yn, .slice R1 r1 s1, .slice R2 r2 s2]] V fun e w' => e = .returned (.bool false) ∧ Below V.heap.size V w' from by have := hSame V hb; rwa [decide_eq_false es] at this)
          have he : ((er : Int) != 0) = false := by rw [ee]; rfl
          clear hpn hSame es ee
          gi_wp2
          refine region_round (S := (fun W' => W'.cell? ⟨w4.heap.size, 0, none⟩ = some (.int .i64 (k : Int)) ∧ W'.cell? ⟨w.heap.size, 0, none⟩ = some (.slice (some ⟨b, o, none⟩) n c) ∧ W'.cell? ⟨Bs, 0, none⟩ = some (.int .i64 xk) ∧ W'.cell? ⟨Bs, 1, none⟩ = some (.int .i64 xa) ∧ W'.cell? ⟨Bs, 2, none⟩ = some (.int .i64 xb) ∧ W'.cell? ⟨Bs, 3, none⟩ = some (.int .i64 xo) ∧ W'.cell? ⟨Bs, 4, none⟩ = some (.int .i64 xn) ∧ W'.cell? ⟨Bs, 5, none⟩ = some (.slice P1 p1 q1) ∧ W'.cell? ⟨Bs, 6, none⟩ = some (.slice P2 p2 q2) ∧ W'.cell? ⟨b, o + k * 7, none⟩ = some (.int .i64 yk) ∧ W'.cell? ⟨b, o + k * 7 + 1, none⟩ = some (.int .i64 ya) ∧ W'.cell? ⟨b, o + k * 7 + 2, none⟩ = some (.int .i64 yb) ∧ W'.cell? ⟨b, o + k * 7 + 3, none⟩ = some (.int .i64 yo) ∧ W'.cell? ⟨b, o + k * 7 + 4, none⟩ = some (.int .i64 yn) ∧ W'.cell? ⟨b, o + k * 7 + 5, none⟩ = some (.slice R1 r1 s1) ∧ W'.cell? ⟨b, o + k * 7 + 6, none⟩ = some (.slice R2 r2 s2))) (by kernel_rfl) (by kernel_rfl) (by first | exact HQ.out _ kw) (fun KK hKK hHeld => ?_)
          refine wpAnyH_putD (i := 0) (d := 31) (v := ?_) rfl rfl (by kernel_rfl) (by kernel_rfl) (by kernel_rfl) (fun _ _ _ h => h) (Or.inl ⟨by kernel_rfl, ?_⟩) (by first | exact HQ.out _ kw) ?_
          rotate_left
          · (intro w hS; (try dsimp only at hS); go_simp <;> with_reducible rfl)
          try simp only [List.setIfInBounds_toArray, List.set_cons_zero, List.set_cons_succ]
          refine wpAnyH_putD (i := 1) (d := 32) (v := ?_) rfl rfl (by kernel_rfl) (by kernel_rfl) (by kernel_rfl) (fun _ _ _ h => h) (Or.inl ⟨by kernel_rfl, ?_⟩) (by first | exact HQ.out _ kw) ?_
          rotate_left
          · (intro w hS; (try dsimp only at hS); go_simp <;> with_reducible rfl)
          try simp only [List.setIfInBounds_toArray, List.set_cons_zero, List.set_cons_succ]
          refine wpAnyH_putD (i := 2) (d := 33) (v := ?_) rfl rfl (by kernel_rfl) (by kernel_rfl) (by kernel_rfl) (fun _ _ _ h => h) (Or.inl ⟨by kernel_rfl, ?_⟩) (by first | exact HQ.out _ kw) ?_
          rotate_left
          · (intro w hS; (try dsimp only at hS); go_simp <;> with_reducible rfl)
          try simp only [List.setIfInBounds_toArray, List.set_cons_zero, List.set_cons_succ]
          refine wpAnyH_putD (i := 3) (d := 34) (v := (.bool true)) rfl rfl (by kernel_rfl) (by kernel_rfl) (by kernel_rfl) (fun _ _ _ h => h) (Or.inl ⟨by kernel_rfl, ?_⟩) (by first | exact HQ.out _ kw) ?_
          · (intro w hS; (try dsimp only at hS); go_simp <;> with_reducible rfl)
          try simp only [List.setIfInBounds_toArray, List.set_cons_zero, List.set_cons_succ]
          refine wpAnyH_putD (i := 4) (d := 35) (v := ?_) rfl rfl (by kernel_rfl) (by kernel_rfl) (by kernel_rfl) (fun _ _ _ h => h) (Or.inl ⟨by kernel_rfl, ?_⟩) (by first | exact HQ.out _ kw) ?_
          rotate_left
          · (intro w hS; (try dsimp only at hS); go_simp <;> with_reducible rfl)
          try simp only [List.setIfInBounds_toArray, List.set_cons_zero, List.set_cons_succ]
          refine wpAnyH_putD (i := 5) (d := 36) (v := ?_) rfl rfl (by kernel_rfl) (by kernel_rfl) (by kernel_rfl) (fun _ _ _ h => h) (Or.inl ⟨by kernel_rfl, ?_⟩) (by first | exact HQ.out _ kw) ?_
          rotate_left
          · (intro w hS; (try dsimp only at hS); go_simp <;> with_reducible rfl)
          try simp only [List.setIfInBounds_toArray, List.set_cons_zero, List.set_cons_succ]
          refine wpAnyH_putD (i := 6) (d := 37) (v := (.bool false)) rfl rfl (by kernel_rfl) (by kernel_rfl) (by kernel_rfl) (fun _ _ _ h => h) (Or.inl ⟨by kernel_rfl, ?_⟩) (by first | exact HQ.out _ kw) ?_
          · (intro w hS; (try dsimp only at hS); go_simp <;> with_reducible rfl)
          try simp only [List.setIfInBounds_toArray, List.set_cons_zero, List.set_cons_succ]
          refine wpAnyH_putD (i := 7) (d := 38) (v := ?_) rfl rfl (by kernel_rfl) (by kernel_rfl) (by kernel_rfl) (fun _ _ _ h => h) (Or.inl ⟨by kernel_rfl, ?_⟩) (by first | exact HQ.out _ kw) ?_
          rotate_left
          · (intro w hS; (try dsimp only at hS); go_simp <;> with_reducible rfl)
          try simp only [List.setIfInBounds_toArray, List.set_cons_zero, List.set_cons_succ]
          refine wpAnyH_putD (i := 8) (d := 39) (v := ?_) rfl rfl (by kernel_rfl) (by kernel_rfl) (by kernel_rfl) (fun _ _ _ h => h) (Or.inl ⟨by kernel_rfl, ?_⟩) (by first | exact HQ.out _ kw) ?_
          rotate_left
          · (intro w hS; (try dsimp only at hS); go_simp <;> with_reducible rfl)
          try simp only [List.setIfInBounds_toArray, List.set_cons_zero, List.set_cons_succ]
          refine wpAnyH_putD (i := 9) (d := 40) (v := ?_) rfl rfl (by kernel_rfl) (by kernel_rfl) (by kernel_rfl) (fun _ _ _ h => h) (Or.inl ⟨by kernel_rfl, ?_⟩) (by first | exact HQ.out _ kw) ?_
          rotate_left
          · (intro w hS; (try dsimp only at hS); go_simp <;> with_reducible rfl)
          try simp only [List.setIfInBounds_toArray, List.set_cons_zero, List.set_cons_succ]
          refine wpAnyH_putD (i := 10) (d := 41) (v := ?_) rfl rfl (by kernel_rfl) (by kernel_rfl) (by kernel_rfl) (fun _ _ _ h => h) (Or.inl ⟨by kernel_rfl, ?_⟩) (by first | exact HQ.out _ kw) ?_
          rotate_left
          · (intro w hS; (try dsimp only at hS); go_simp <;> with_reducible rfl)
          try simp only [List.setIfInBounds_toArray, List.set_cons_zero, List.set_cons_succ]
          refine wpAnyH_putD (i := 11) (d := 42) (v := ?_) rfl rfl (by kernel_rfl) (by kernel_rfl) (by kernel_rfl) (fun _ _ _ h => h) (Or.inl ⟨by kernel_rfl, ?_⟩) (by first | exact HQ.out _ kw) ?_
          rotate_left
          · (intro w hS; (try dsimp only at hS); go_simp <;> with_reducible rfl)
          try simp only [List.setIfInBounds_toArray, List.set_cons_zero, List.set_cons_succ]
          refine wpAnyH_putD (i := 12) (d := 43) (v := ?_) rfl rfl (by kernel_rfl) (by kernel_rfl) (by kernel_rfl) (fun _ _ _ h => h) (Or.inl ⟨by kernel_rfl, ?_⟩) (by first | exact HQ.out _ kw) ?_
          rotate_left
          · (intro w hS; (try dsimp only at hS); go_simp <;> with_reducible rfl)
          try simp only [List.setIfInBounds_toArray, List.set_cons_zero, List.set_cons_succ]
          refine wpAnyH_ready (rs := [13]) (by kernel_rfl) (by simp) ?_
          refine AllReadyH.cons rfl (fun K hK => ?_) AllReadyH.nil
          go_simp
          refine (G.out _ kw).mono ?_
          rintro e V ⟨rfl, hb'⟩
          have kw := below_then kw (Nat.le_refl _) hb'
          clear hb'
          refine hK.out _ _ (by first | exact HQ.out _ kw) (fun hHeld => ?_)
          clear hK K
          refine wpAnyH_putD (i := 14) (d := 45) (v := ?_) rfl rfl (by kernel_rfl) (by kernel_rfl) (by kernel_rfl) (fun _ _ _ h => h) (Or.inl ⟨by kernel_rfl, ?_⟩) (by first | exact HQ.out _ kw) ?_
          rotate_left
          · (intro w hS; (try dsimp only at hS); go_simp <;> with_reducible rfl)
          try simp only [List.setIfInBounds_toArray, List.set_cons_zero, List.set_cons_succ]
          refine wpAnyH_putD (i := 15) (d := 46) (v := ?_) rfl rfl (by kernel_rfl) (by kernel_rfl) (by kernel_rfl) (fun _ _ _ h => h) (Or.inl ⟨by kernel_rfl, ?_⟩) (by first | exact HQ.out _ kw) ?_
          rotate_left
          · (intro w hS; (try dsimp only at hS); go_simp <;> with_reducible rfl)
          try simp only [List.setIfInBounds_toArray, List.set_cons_zero, List.set_cons_succ]
          refine wpAnyH_putD (i := 16) (d := 47) (v := ?_) rfl rfl (by kernel_rfl) (by kernel_rfl) (by kernel_rfl) (fun _ _ _ h => h) (Or.inl ⟨by kernel_rfl, ?_⟩) (by first | exact HQ.out _ kw) ?_
          rotate_left
          · (intro w hS; (try dsimp only at hS); go_simp <;> with_reducible rfl)
          try simp only [List.setIfInBounds_toArray, List.set_cons_zero, List.set_cons_succ]
          refine wpAnyH_done (by kernel_rfl) ?_ _
          refine Nrm.out (hKK _ _ ?_)
          have hIV := HI.out.below kw
          have f4 := hIV.re.frozen
          have q4 := hIV.re.cell
          gi_wp2
          refine ⟨((keeps_below kw).trans (KeepsOthers.setCell _ _ _)).from _, ⟨rfl, false, k, hIV.setR false hlo2, fun h => absurd h HNO.out⟩, (hB.trans (kw.mono hB.size)).setCell (p := ⟨w.heap.size + 1, 0, none⟩) (by show _ ≤ w.heap.size + 1; omega) _⟩
      · have HNO := Lib.hid (fun h => ee (hpn h).2)
        have he : ((er : Int) != 0) = true := bne_iff_ne.2 (by omega)
        clear hpn hSame ee
        gi_wp2
        refine region_round (S := (fun W' => W'.cell? ⟨w4.heap.size, 0, none⟩ = some (.int .i64 (k : Int)) ∧ W'.cell? ⟨w.heap.size, 0, none⟩ = some (.slice (some ⟨b, o, none⟩) n c) ∧ W'.cell? ⟨Bs, 0, none⟩ = some (.int .i64 xk) ∧ W'.cell? ⟨Bs, 1, none⟩ = some (.int .i64 xa) ∧ W'.cell? ⟨Bs, 2, none⟩ = some (.int .i64 xb) ∧ W'.cell? ⟨Bs, 3, none⟩ = some (.int .i64 xo) ∧ W'.cell? ⟨Bs, 4, none⟩ = some (.int .i64 xn) ∧ W'.cell? ⟨Bs, 5, none⟩ = some (.slice P1 p1 q1) ∧ W'.cell? ⟨Bs, 6, none⟩ = some (.slice P2 p2 q2) ∧ W'.cell? ⟨b, o + k * 7, none⟩ = some (.int .i64 yk) ∧ W'.cell? ⟨b, o + k * 7 + 1, none⟩ = some (.int .i64 ya) ∧ W'.cell? ⟨b, o + k * 7 + 2, none⟩ = some (.int .i64 yb) ∧ W'.cell? ⟨b, o + k * 7 + 3, none⟩ = some (.int .i64 yo) ∧ W'.cell? ⟨b, o + k * 7 + 4, none⟩ = some (.int .i64 yn) ∧ W'.cell? ⟨b, o + k * 7 + 5, none⟩ = some (.slice R1 r1 s1) ∧ W'.cell? ⟨b, o + k * 7 + 6, none⟩ = some (.slice R2 r2 s2))) (by kernel_rfl) (by kernel_rfl) (by first | exact HQ.out _ kw) (fun KK hKK hHeld => ?_)
        refine wpAnyH_putD (i := 0) (d := 31) (v := ?_) rfl rfl (by kernel_rfl) (by kernel_rfl) (by kernel_rfl) (fun _ _ _ h => h) (Or.inl ⟨by kernel_rfl, ?_⟩) (by first | exact HQ.out _ kw) ?_
        rotate_left
        · (intro w hS; (try dsimp only at hS); go_simp <;> with_reducible rfl)
        try simp only [List.setIfInBounds_toArray, List.set_cons_zero, List.set_cons_succ]
        refine wpAnyH_putD (i := 1) (d := 32) (v := ?_) rfl rfl (by kernel_rfl) (by kernel_rfl) (by kernel_rfl) (fun _ _ _ h => h) (Or.inl ⟨by kernel_rfl, ?_⟩) (by first | exact HQ.out _ kw) ?_
        rotate_left
        · (intro w hS; (try dsimp only at hS); go_simp <;> with_reducible rfl)
        try simp only [List.setIfInBounds_toArray, List.set_cons_zero, List.set_cons_succ]
        refine wpAnyH_putD (i := 2) (d := 33) (v := ?_) rfl rfl (by kernel_rfl) (by kernel_rfl) (by kernel_rfl) (fun _ _ _ h => h) (Or.inl ⟨by kernel_rfl, ?_⟩) (by first | exact HQ.out _ kw) ?_
        rotate_left
        · (intro w hS; (try dsimp only at hS); go_simp <;> with_reducible rfl)
        try simp only [List.setIfInBounds_toArray, List.set_cons_zero, List.set_cons_succ]
        refine wpAnyH_putD (i := 3) (d := 34) (v := (.bool true)) rfl rfl (by kernel_rfl) (by kernel_rfl) (by kernel_rfl) (fun _ _ _ h => h) (Or.inl ⟨by kernel_rfl, ?_⟩) (by first | exact HQ.out _ kw) ?_
        · (intro w hS; (try dsimp only at hS); go_simp <;> with_reducible rfl)
        try simp only [List.setIfInBounds_toArray, List.set_cons_zero, List.set_cons_succ]
        refine wpAnyH_putD (i := 4) (d := 35) (v := ?_) rfl rfl (by kernel_rfl) (by kernel_rfl) (by kernel_rfl) (fun _ _ _ h => h) (Or.inl ⟨by kernel_rfl, ?_⟩) (by first | exact HQ.out _ kw) ?_
        rotate_left
        · (intro w hS; (try dsimp only at hS); go_simp <;> with_reducible rfl)
        try simp only [List.setIfInBounds_toArray, List.set_cons_zero, List.set_cons_succ]
        refine wpAnyH_putD (i := 5) (d := 36) (v := ?_) rfl rfl (by kernel_rfl) (by kernel_rfl) (by kernel_rfl) (fun _ _ _ h => h) (Or.inl ⟨by kernel_rfl, ?_⟩) (by first | exact HQ.out _ kw) ?_
        rotate_left
        · (intro w hS; (try dsimp only at hS); go_simp <;> with_reducible rfl)
        try simp only [List.setIfInBounds_toArray, List.set_cons_zero, List.set_cons_succ]
        refine wpAnyH_putD (i := 6) (d := 37) (v := (.bool true)) rfl rfl (by kernel_rfl) (by kernel_rfl) (by kernel_rfl) (fun _ _ _ h => h) (Or.inl ⟨by kernel_rfl, ?_⟩) (by first | exact HQ.out _ kw) ?_
        · (intro w hS; (try dsimp only at hS); go_simp <;> with_reducible rfl)
        try simp only [List.setIfInBounds_toArray, List.set_cons_zero, List.set_cons_succ]
        refine wpAnyH_putD (i := 7) (d := 38) (v := ?_) rfl rfl (by kernel_rfl) (by kernel_rfl) (by kernel_rfl) (fun _ _ _ h => h) (Or.inl ⟨by kernel_rfl, ?_⟩) (by first | exact HQ.out _ kw) ?_
        rotate_left
        · (intro w hS; (try dsimp only at hS); go_simp <;> with_reducible rfl)
        try simp only [List.setIfInBounds_toArray, List.set_cons_zero, List.set_cons_succ]
        refine wpAnyH_putD (i := 8) (d := 39) (v := undef) rfl rfl (by kernel_rfl) (by kernel_rfl) (by kernel_rfl) (fun _ _ _ h => h) (Or.inr ⟨by kernel_rfl, rfl⟩) (by first | exact HQ.out _ kw) ?_
        try simp only [List.setIfInBounds_toArray, List.set_cons_zero, List.set_cons_succ]
        refine wpAnyH_putD (i := 9) (d := 40) (v := undef) rfl rfl (by kernel_rfl) (by kernel_rfl) (by kernel_rfl) (fun _ _ _ h => h) (Or.inr ⟨by kernel_rfl, rfl⟩) (by first | exact HQ.out _ kw) ?_
        try simp only [List.setIfInBounds_toArray, List.set_cons_zero, List.set_cons_succ]
        refine wpAnyH_putD (i := 10) (d := 41) (v := undef) rfl rfl (by kernel_rfl) (by kernel_rfl) (by kernel_rfl) (fun _ _ _ h => h) (Or.inr ⟨by kernel_rfl, rfl⟩) (by first | exact HQ.out _ kw) ?_
        try simp only [List.setIfInBounds_toArray, List.set_cons_zero, List.set_cons_succ]
        refine wpAnyH_putD (i := 11) (d := 42) (v := undef) rfl rfl (by kernel_rfl) (by kernel_rfl) (by kernel_rfl) (fun _ _ _ h => h) (Or.inr ⟨by kernel_rfl, rfl⟩) (by first | exact HQ.out _ kw) ?_
        try simp only [List.setIfInBounds_toArray, List.set_cons_zero, List.set_cons_succ]
        refine wpAnyH_putD (i := 12) (d := 43) (v := undef) rfl rfl (by kernel_rfl) (by kernel_rfl) (by kernel_rfl) (fun _ _ _ h => h) (Or.inr ⟨by kernel_rfl, rfl⟩) (by first | exact HQ.out _ kw) ?_
        try simp only [List.setIfInBounds_toArray, List.set_cons_zero, List.set_cons_succ]
        refine wpAnyH_putD (i := 13) (d := 44) (v := undef) rfl rfl (by kernel_rfl) (by kernel_rfl) (by kernel_rfl) (fun _ _ _ h => h) (Or.inr ⟨by kernel_rfl, rfl⟩) (by first | exact HQ.out _ kw) ?_
        try simp only [List.setIfInBounds_toArray, List.set_cons_zero, List.set_cons_succ]
        refine wpAnyH_putD (i := 14) (d := 45) (v := undef) rfl rfl (by kernel_rfl) (by kernel_rfl) (by kernel_rfl) (fun _ _ _ h => h) (Or.inr ⟨by kernel_rfl, rfl⟩) (by first | exact HQ.out _ kw) ?_
        try simp only [List.setIfInBounds_toArray, List.set_cons_zero, List.set_cons_succ]
        refine wpAnyH_putD (i := 15) (d := 46) (v := ?_) rfl rfl (by kernel_rfl) (by kernel_rfl) (by kernel_rfl) (fun _ _ _ h => h) (Or.inl ⟨by kernel_rfl, ?_⟩) (by first | exact HQ.out _ kw) ?_
        rotate_left
        · (intro w hS; (try dsimp only at hS); go_simp <;> with_reducible rfl)
        try simp only [List.setIfInBounds_toArray, List.set_cons_zero, List.set_cons_succ]
        refine wpAnyH_putD (i := 16) (d := 47) (v := ?_) rfl rfl (by kernel_rfl) (by kernel_rfl) (by kernel_rfl) (fun _ _ _ h => h) (Or.inl ⟨by kernel_rfl, ?_⟩) (by first | exact HQ.out _ kw) ?_
        rotate_left
        · (intro w hS; (try dsimp only at hS); go_simp <;> with_reducible rfl)
        try simp only [List.setIfInBounds_toArray, List.set_cons_zero, List.set_cons_succ]
        refine wpAnyH_done (by kernel_rfl) ?_ _
        refine Nrm.out (hKK _ _ ?_)
        have hIV := HI.out.below kw
        have f4 := hIV.re.frozen
        have q4 := hIV.re.cell
        gi_wp2
        refine ⟨((keeps_below kw).trans (KeepsOthers.setCell _ _ _)).from _, ⟨rfl, false, k, hIV.setR false hlo2, fun h => absurd h HNO.out⟩, (hB.trans (kw.mono hB.size)).setCell (p := ⟨w.heap.size + 1, 0, none⟩) (by show _ ≤ w.heap.size + 1; omega) _⟩
    · have HQ := Lib.hid fun W' (hb : Below W.heap.size W W') => (show (W'.cell? ⟨w4.heap.size, 0, none⟩ = some (.int .i64 (k : Int)) ∧ W'.cell? ⟨w.heap.size, 0, none⟩ = some (.slice A n c) ∧ W'.cell? ⟨Bs, 0, none⟩ = some (.int .i64 xk) ∧ W'.cell? ⟨Bs, 1, none⟩ = some (.int .i64 xa) ∧ W'.cell? ⟨Bs, 2, none⟩ = some (.int .i64 xb) ∧ W'.cell? ⟨Bs, 3, none⟩ = some (.int .i64 xo) ∧ W'.cell? ⟨Bs, 4, none⟩ = some (.int .i64 xn) ∧ W'.cell? ⟨Bs, 5, none⟩ = some (.slice P1 p1 q1) ∧ W'.cell? ⟨Bs, 6, none⟩ = some (.slice P2 p2 q2)) from ⟨(hb.cell (p := ⟨w4.heap.size, 0, none⟩) hI.kk.lt).trans hI.kk.cell, (hb.cell (p := ⟨w.heap.size, 0, none⟩) hI.mo.lt).trans hI.mo.cell, (hb.cell (p := ⟨Bs, 0, none⟩) hX.lt).trans (hX.cell 0), (hb.cell (p := ⟨Bs, 1, none⟩) hX.lt).trans (hX.cell 1), (hb.cell (p := ⟨Bs, 2, none⟩) hX.lt).trans (hX.cell 2), (hb.cell (p := ⟨Bs, 3, none⟩) hX.lt).trans (hX.cell 3), (hb.cell (p := ⟨Bs, 4, none⟩) hX.lt).trans (hX.cell 4), (hb.cell (p := ⟨Bs, 5, none⟩) hX.lt).trans (hX.cell 5), (hb.cell (p := ⟨Bs, 6, none⟩) hX.lt).trans (hX.cell 6)⟩)
      have hkk : decide (k < n) = false := decide_eq_false hk
      have hkn : decide (n ≤ k) = true := decide_eq_true (by omega)
      have hpn : said (pre ++ [(⟨P1, p1, q1, P2, p2, q2⟩, ⟨xk, xa, xb, xo, xn, xs, xv⟩, er)]) <+: evS (bs ++ l) → er = 0 ∨ (er = 14 ∧ xk = 0) := fun h => by
        have h4 := List.mem_of_getElem? (hpe h)
        exact evS_ev _ _ h4
      clear hT' hRS hX hT hpe
      by_cases ee : er = 0
      · have he : ((er : Int) != 0) = false := by rw [ee]; rfl
        clear hpn ee
        gi_wp2
        refine region_round (S := (fun W' => W'.cell? ⟨w4.heap.size, 0, none⟩ = some (.int .i64 (k : Int)) ∧ W'.cell? ⟨w.heap.size, 0, none⟩ = some (.slice A n c) ∧ W'.cell? ⟨Bs, 0, none⟩ = some (.int .i64 xk) ∧ W'.cell? ⟨Bs, 1, none⟩ = some (.int .i64 xa) ∧ W'.cell? ⟨Bs, 2, none⟩ = some (.int .i64 xb) ∧ W'.cell? ⟨Bs, 3, none⟩ = some (.int .i64 xo) ∧ W'.cell? ⟨Bs, 4, none⟩ = some (.int .i64 xn) ∧ W'.cell? ⟨Bs, 5, none⟩ = some (.slice P1 p1 q1) ∧ W'.cell? ⟨Bs, 6, none⟩ = some (.slice P2 p2 q2))) (by kernel_rfl) (by kernel_rfl) (by first | exact HQ.out _ kw) (fun KK hKK hHeld => ?_)
        refine wpAnyH_putD (i := 0) (d := 31) (v := ?_) rfl rfl (by kernel_rfl) (by kernel_rfl) (by kernel_rfl) (fun _ _ _ h => h) (Or.inl ⟨by kernel_rfl, ?_⟩) (by first | exact HQ.out _ kw) ?_
        rotate_left
        · (intro w hS; (try dsimp only at hS); go_simp <;> with_reducible rfl)
        try simp only [List.setIfInBounds_toArray, List.set_cons_zero, List.set_cons_succ]
        refine wpAnyH_putD (i := 1) (d := 32) (v := ?_) rfl rfl (by kernel_rfl) (by kernel_rfl) (by kernel_rfl) (fun _ _ _ h => h) (Or.inl ⟨by kernel_rfl, ?_⟩) (by first | exact HQ.out _ kw) ?_
        rotate_left
        · (intro w hS; (try dsimp only at hS); go_simp <;> with_reducible rfl)
        try simp only [List.setIfInBounds_toArray, List.set_cons_zero, List.set_cons_succ]
        refine wpAnyH_putD (i := 2) (d := 33) (v := ?_) rfl rfl (by kernel_rfl) (by kernel_rfl) (by kernel_rfl) (fun _ _ _ h => h) (Or.inl ⟨by kernel_rfl, ?_⟩) (by first | exact HQ.out _ kw) ?_
        rotate_left
        · (intro w hS; (try dsimp only at hS); go_simp <;> with_reducible rfl)
        try simp only [List.setIfInBounds_toArray, List.set_cons_zero, List.set_cons_succ]
        refine wpAnyH_putD (i := 3) (d := 34) (v := (.bool false)) rfl rfl (by kernel_rfl) (by kernel_rfl) (by kernel_rfl) (fun _ _ _ h => h) (Or.inl ⟨by kernel_rfl, ?_⟩) (by first | exact HQ.out _ kw) ?_
        · (intro w hS; (try dsimp only at hS); go_simp <;> with_reducible rfl)
        try simp only [List.setIfInBounds_toArray, List.set_cons_zero, List.set_cons_succ]
        refine wpAnyH_putD (i := 4) (d := 35) (v := ?_) rfl rfl (by kernel_rfl) (by kernel_rfl) (by kernel_rfl) (fun _ _ _ h => h) (Or.inl ⟨by kernel_rfl, ?_⟩) (by first | exact HQ.out _ kw) ?_
        rotate_left
        · (intro w hS; (try dsimp only at hS); go_simp <;> with_reducible rfl)
        try simp only [List.setIfInBounds_toArray, List.set_cons_zero, List.set_cons_succ]
        refine wpAnyH_putD (i := 5) (d := 36) (v := undef) rfl rfl (by kernel_rfl) (by kernel_rfl) (by kernel_rfl) (fun _ _ _ h => h) (Or.inr ⟨by kernel_rfl, rfl⟩) (by first | exact HQ.out _ kw) ?_
        try simp only [List.setIfInBounds_toArray, List.set_cons_zero, List.set_cons_succ]
        refine wpAnyH_putD (i := 6) (d := 37) (v := undef) rfl rfl (by kernel_rfl) (by kernel_rfl) (by kernel_rfl) (fun _ _ _ h => h) (Or.inr ⟨by kernel_rfl, rfl⟩) (by first | exact HQ.out _ kw) ?_
        try simp only [List.setIfInBounds_toArray, List.set_cons_zero, List.set_cons_succ]
        refine wpAnyH_putD (i := 7) (d := 38) (v := undef) rfl rfl (by kernel_rfl) (by kernel_rfl) (by kernel_rfl) (fun _ _ _ h => h) (Or.inr ⟨by kernel_rfl, rfl⟩) (by first | exact HQ.out _ kw) ?_
        try simp only [List.setIfInBounds_toArray, List.set_cons_zero, List.set_cons_succ]
        refine wpAnyH_putD (i := 8) (d := 39) (v := undef) rfl rfl (by kernel_rfl) (by kernel_rfl) (by kernel_rfl) (fun _ _ _ h => h) (Or.inr ⟨by kernel_rfl, rfl⟩) (by first | exact HQ.out _ kw) ?_
        try simp only [List.setIfInBounds_toArray, List.set_cons_zero, List.set_cons_succ]
        refine wpAnyH_putD (i := 9) (d := 40) (v := undef) rfl rfl (by kernel_rfl) (by kernel_rfl) (by kernel_rfl) (fun _ _ _ h => h) (Or.inr ⟨by kernel_rfl, rfl⟩) (by first | exact HQ.out _ kw) ?_
        try simp only [List.setIfInBounds_toArray, List.set_cons_zero, List.set_cons_succ]
        refine wpAnyH_putD (i := 10) (d := 41) (v := undef) rfl rfl (by kernel_rfl) (by kernel_rfl) (by kernel_rfl) (fun _ _ _ h => h) (Or.inr ⟨by kernel_rfl, rfl⟩) (by first | exact HQ.out _ kw) ?_
        try simp only [List.setIfInBounds_toArray, List.set_cons_zero, List.set_cons_succ]
        refine wpAnyH_putD (i := 11) (d := 42) (v := undef) rfl rfl (by kernel_rfl) (by kernel_rfl) (by kernel_rfl) (fun _ _ _ h => h) (Or.inr ⟨by kernel_rfl, rfl⟩) (by first | exact HQ.out _ kw) ?_
        try simp only [List.setIfInBounds_toArray, List.set_cons_zero, List.set_cons_succ]
        refine wpAnyH_putD (i := 12) (d := 43) (v := undef) rfl rfl (by kernel_rfl) (by kernel_rfl) (by kernel_rfl) (fun _ _ _ h => h) (Or.inr ⟨by kernel_rfl, rfl⟩) (by first | exact HQ.out _ kw) ?_
        try simp only [List.setIfInBounds_toArray, List.set_cons_zero, List.set_cons_succ]
        refine wpAnyH_putD (i := 13) (d := 44) (v := undef) rfl rfl (by kernel_rfl) (by kernel_rfl) (by kernel_rfl) (fun _ _ _ h => h) (Or.inr ⟨by kernel_rfl, rfl⟩) (by first | exact HQ.out _ kw) ?_
        try simp only [List.setIfInBounds_toArray, List.set_cons_zero, List.set_cons_succ]
        refine wpAnyH_putD (i := 14) (d := 45) (v := undef) rfl rfl (by kernel_rfl) (by kernel_rfl) (by kernel_rfl) (fun _ _ _ h => h) (Or.inr ⟨by kernel_rfl, rfl⟩) (by first | exact HQ.out _ kw) ?_
        try simp only [List.setIfInBounds_toArray, List.set_cons_zero, List.set_cons_succ]
        refine wpAnyH_putD (i := 15) (d := 46) (v := undef) rfl rfl (by kernel_rfl) (by kernel_rfl) (by kernel_rfl) (fun _ _ _ h => h) (Or.inr ⟨by kernel_rfl, rfl⟩) (by first | exact HQ.out _ kw) ?_
        try simp only [List.setIfInBounds_toArray, List.set_cons_zero, List.set_cons_succ]
        refine wpAnyH_putD (i := 16) (d := 47) (v := ?_) rfl rfl (by kernel_rfl) (by kernel_rfl) (by kernel_rfl) (fun _ _ _ h => h) (Or.inl ⟨by kernel_rfl, ?_⟩) (by first | exact HQ.out _ kw) ?_
        rotate_left
        · (intro w hS; (try dsimp only at hS); go_simp <;> with_reducible rfl)
        try simp only [List.setIfInBounds_toArray, List.set_cons_zero, List.set_cons_succ]
        refine wpAnyH_done (by kernel_rfl) ?_ _
        refine Nrm.out (hKK _ _ ?_)
        have hIV := HI.out.below kw
        have f4 := hIV.re.frozen
        have q4 := hIV.re.cell
        have q3 := hIV.kk.cell
        have qm := hIV.mo.cell
        obtain ⟨-, -, qx, -⟩ := HQ.out _ kw
        have f3 := hIV.kk.frozen
        gi_wp2
        refine ⟨((keeps_below kw).trans (KeepsOthers.setCell _ _ _)).from _, fun g => (g.below kw g.box.lt).setCell (p := ⟨w4.heap.size, 0, none⟩) (by show w4.heap.size ≠ _; omega) (by show _ ≤ w4.heap.size; omega) _, ?_, (hB.trans (kw.mono hB.size)).setCell (p := ⟨w4.heap.size, 0, none⟩) (by show _ ≤ w4.heap.size; omega) _⟩
        rw [List.length_append, List.length_singleton, ← HK0.out]
        exact hIV.setK (k + 1) hlo2
      · have he : ((er : Int) != 0) = true := bne_iff_ne.2 (by omega)
        by_cases e4 : er = 14
        · have he4 : ((er : Int) != 14) = false := by rw [e4]; rfl
          by_cases ek : xk = 0
          · have hek : (xk != 0) = false := by rw [ek]; rfl
            clear hpn ee e4 ek
            gi_wp2
            refine region_round (S := (fun W' => W'.cell? ⟨w4.heap.size, 0, none⟩ = some (.int .i64 (k : Int)) ∧ W'.cell? ⟨w.heap.size, 0, none⟩ = some (.slice A n c) ∧ W'.cell? ⟨Bs, 0, none⟩ = some (.int .i64 xk) ∧ W'.cell? ⟨Bs, 1, none⟩ = some (.int .i64 xa) ∧ W'.cell? ⟨Bs, 2, none⟩ = some (.int .i64 xb) ∧ W'.cell? ⟨Bs, 3, none⟩ = some (.int .i64 xo) ∧ W'.cell? ⟨Bs, 4, none⟩ = some (.int .i64 xn) ∧ W'.cell? ⟨Bs, 5, none⟩ = some (.slice P1 p1 q1) ∧ W'.cell? ⟨Bs, 6, none⟩ = some (.slice P2 p2 q2))) (by kernel_rfl) (by kernel_rfl) (by first | exact HQ.out _ kw) (fun KK hKK hHeld => ?_)
            refine wpAnyH_putD (i := 0) (d := 31) (v := ?_) rfl rfl (by kernel_rfl) (by kernel_rfl) (by kernel_rfl) (fun _ _ _ h => h) (Or.inl ⟨by kernel_rfl, ?_⟩) (by first | exact HQ.out _ kw) ?_
            rotate_left
            · (intro w hS; (try dsimp only at hS); go_simp <;> with_reducible rfl)
            try simp only [List.setIfInBounds_toArray, List.set_cons_zero, List.set_cons_succ]
            refine wpAnyH_putD (i := 1) (d := 32) (v := ?_) rfl rfl (by kernel_rfl) (by kernel_rfl) (by kernel_rfl) (fun _ _ _ h => h) (Or.inl ⟨by kernel_rfl, ?_⟩) (by first | exact HQ.out _ kw) ?_
            rotate_left
            · (intro w hS; (try dsimp only at hS); go_simp <;> with_reducible rfl)
            try simp only [List.setIfInBounds_toArray, List.set_cons_zero, List.set_cons_succ]
            refine wpAnyH_putD (i := 2) (d := 33) (v := ?_) rfl rfl (by kernel_rfl) (by kernel_rfl) (by kernel_rfl) (fun _ _ _ h => h) (Or.inl ⟨by kernel_rfl, ?_⟩) (by first | exact HQ.out _ kw) ?_
            rotate_left
            · (intro w hS; (try dsimp only at hS); go_simp <;> with_reducible rfl)
            try simp only [List.setIfInBounds_toArray, List.set_cons_zero, List.set_cons_succ]
            refine wpAnyH_putD (i := 3) (d := 34) (v := (.bool false)) rfl rfl (by kernel_rfl) (by kernel_rfl) (by kernel_rfl) (fun _ _ _ h => h) (Or.inl ⟨by kernel_rfl, ?_⟩) (by first | exact HQ.out _ kw) ?_
            · (intro w hS; (try dsimp only at hS); go_simp <;> with_reducible rfl)
            try simp only [List.setIfInBounds_toArray, List.set_cons_zero, List.set_cons_succ]
            refine wpAnyH_putD (i := 4) (d := 35) (v := ?_) rfl rfl (by kernel_rfl) (by kernel_rfl) (by kernel_rfl) (fun _ _ _ h => h) (Or.inl ⟨by kernel_rfl, ?_⟩) (by first | exact HQ.out _ kw) ?_
            rotate_left
            · (intro w hS; (try dsimp only at hS); go_simp <;> with_reducible rfl)
            try simp only [List.setIfInBounds_toArray, List.set_cons_zero, List.set_cons_succ]
            refine wpAnyH_putD (i := 5) (d := 36) (v := undef) rfl rfl (by kernel_rfl) (by kernel_rfl) (by kernel_rfl) (fun _ _ _ h => h) (Or.inr ⟨by kernel_rfl, rfl⟩) (by first | exact HQ.out _ kw) ?_
            try simp only [List.setIfInBounds_toArray, List.set_cons_zero, List.set_cons_succ]
            refine wpAnyH_putD (i := 6) (d := 37) (v := undef) rfl rfl (by kernel_rfl) (by kernel_rfl) (by kernel_rfl) (fun _ _ _ h => h) (Or.inr ⟨by kernel_rfl, rfl⟩) (by first | exact HQ.out _ kw) ?_
            try simp only [List.setIfInBounds_toArray, List.set_cons_zero, List.set_cons_succ]
            refine wpAnyH_putD (i := 7) (d := 38) (v := undef) rfl rfl (by kernel_rfl) (by kernel_rfl) (by kernel_rfl) (fun _ _ _ h => h) (Or.inr ⟨by kernel_rfl, rfl⟩) (by first | exact HQ.out _ kw) ?_
            try simp only [List.setIfInBounds_toArray, List.set_cons_zero, List.set_cons_succ]
            refine wpAnyH_putD (i := 8) (d := 39) (v := undef) rfl rfl (by kernel_rfl) (by kernel_rfl) (by kernel_rfl) (fun _ _ _ h => h) (Or.inr ⟨by kernel_rfl, rfl⟩) (by first | exact HQ.out _ kw) ?_
            try simp only [List.setIfInBounds_toArray, List.set_cons_zero, List.set_cons_succ]
            refine wpAnyH_putD (i := 9) (d := 40) (v := undef) rfl rfl (by kernel_rfl) (by kernel_rfl) (by kernel_rfl) (fun _ _ _ h => h) (Or.inr ⟨by kernel_rfl, rfl⟩) (by first | exact HQ.out _ kw) ?_
            try simp only [List.setIfInBounds_toArray, List.set_cons_zero, List.set_cons_succ]
            refine wpAnyH_putD (i := 10) (d := 41) (v := undef) rfl rfl (by kernel_rfl) (by kernel_rfl) (by kernel_rfl) (fun _ _ _ h => h) (Or.inr ⟨by kernel_rfl, rfl⟩) (by first | exact HQ.out _ kw) ?_
            try simp only [List.setIfInBounds_toArray, List.set_cons_zero, List.set_cons_succ]
            refine wpAnyH_putD (i := 11) (d := 42) (v := undef) rfl rfl (by kernel_rfl) (by kernel_rfl) (by kernel_rfl) (fun _ _ _ h => h) (Or.inr ⟨by kernel_rfl, rfl⟩) (by first | exact HQ.out _ kw) ?_
            try simp only [List.setIfInBounds_toArray, List.set_cons_zero, List.set_cons_succ]
            refine wpAnyH_putD (i := 12) (d := 43) (v := undef) rfl rfl (by kernel_rfl) (by kernel_rfl) (by kernel_rfl) (fun _ _ _ h => h) (Or.inr ⟨by kernel_rfl, rfl⟩) (by first | exact HQ.out _ kw) ?_
            try simp only [List.setIfInBounds_toArray, List.set_cons_zero, List.set_cons_succ]
            refine wpAnyH_putD (i := 13) (d := 44) (v := undef) rfl rfl (by kernel_rfl) (by kernel_rfl) (by kernel_rfl) (fun _ _ _ h => h) (Or.inr ⟨by kernel_rfl, rfl⟩) (by first | exact HQ.out _ kw) ?_
            try simp only [List.setIfInBounds_toArray, List.set_cons_zero, List.set_cons_succ]
            refine wpAnyH_putD (i := 14) (d := 45) (v := undef) rfl rfl (by kernel_rfl) (by kernel_rfl) (by kernel_rfl) (fun _ _ _ h => h) (Or.inr ⟨by kernel_rfl, rfl⟩) (by first | exact HQ.out _ kw) ?_
            try simp only [List.setIfInBounds_toArray, List.set_cons_zero, List.set_cons_succ]
            refine wpAnyH_putD (i := 15) (d := 46) (v := undef) rfl rfl (by kernel_rfl) (by kernel_rfl) (by kernel_rfl) (fun _ _ _ h => h) (Or.inr ⟨by kernel_rfl, rfl⟩) (by first | exact HQ.out _ kw) ?_
            try simp only [List.setIfInBounds_toArray, List.set_cons_zero, List.set_cons_succ]
            refine wpAnyH_putD (i := 16) (d := 47) (v := ?_) rfl rfl (by kernel_rfl) (by kernel_rfl) (by kernel_rfl) (fun _ _ _ h => h) (Or.inl ⟨by kernel_rfl, ?_⟩) (by first | exact HQ.out _ kw) ?_
            rotate_left
            · (intro w hS; (try dsimp only at hS); go_simp <;> with_reducible rfl)
            try simp only [List.setIfInBounds_toArray, List.set_cons_zero, List.set_cons_succ]
            refine wpAnyH_done (by kernel_rfl) ?_ _
            refine Nrm.out (hKK _ _ ?_)
            have hIV := HI.out.below kw
            have f4 := hIV.re.frozen
            have q4 := hIV.re.cell
            have q3 := hIV.kk.cell
            have qm := hIV.mo.cell
            obtain ⟨-, -, qx, -⟩ := HQ.out _ kw
            have f3 := hIV.kk.frozen
            gi_wp2
            refine ⟨((keeps_below kw).trans (KeepsOthers.setCell _ _ _)).from _, fun g => (g.below kw g.box.lt).setCell (p := ⟨w4.heap.size, 0, none⟩) (by show w4.heap.size ≠ _; omega) (by show _ ≤ w4.heap.size; omega) _, ?_, (hB.trans (kw.mono hB.size)).setCell (p := ⟨w4.heap.size, 0, none⟩) (by show _ ≤ w4.heap.size; omega) _⟩
            rw [List.length_append, List.length_singleton, ← HK0.out]
            exact hIV.setK (k + 1) hlo2
          · have hek : (xk != 0) = true := bne_iff_ne.2 ek
            have HNO := Lib.hid (fun h => (hpn h).elim ee (fun h => ek h.2))
            clear hpn ee e4 ek
            gi_wp2
            refine region_round (S := (fun W' => W'.cell? ⟨w4.heap.size, 0, none⟩ = some (.int .i64 (k : Int)) ∧ W'.cell? ⟨w.heap.size, 0, none⟩ = some (.slice A n c) ∧ W'.cell? ⟨Bs, 0, none⟩ = some (.int .i64 xk) ∧ W'.cell? ⟨Bs, 1, none⟩ = some (.int .i64 xa) ∧ W'.cell? ⟨Bs, 2, none⟩ = some (.int .i64 xb) ∧ W'.cell? ⟨Bs, 3, none⟩ = some (.int .i64 xo) ∧ W'.cell? ⟨Bs, 4, none⟩ = some (.int .i64 xn) ∧ W'.cell? ⟨Bs, 5, none⟩ = some (.slice P1 p1 q1) ∧ W'.cell? ⟨Bs, 6, none⟩ = some (.slice P2 p2 q2))) (by kernel_rfl) (by kernel_rfl) (by first | exact HQ.out _ kw) (fun KK hKK hHeld => ?_)
            refine wpAnyH_putD (i := 0) (d := 31) (v := ?_) rfl rfl (by kernel_rfl) (by kernel_rfl) (by kernel_rfl) (fun _ _ _ h => h) (Or.inl ⟨by kernel_rfl, ?_⟩) (by first | exact HQ.out _ kw) ?_
            rotate_left
            · (intro w hS; (try dsimp only at hS); go_simp <;> with_reducible rfl)
            try simp only [List.setIfInBounds_toArray, List.set_cons_zero, List.set_cons_succ]
            refine wpAnyH_putD (i := 1) (d := 32) (v := ?_) rfl rfl (by kernel_rfl) (by kernel_rfl) (by kernel_rfl) (fun _ _ _ h => h) (Or.inl ⟨by kernel_rfl, ?_⟩) (by first | exact HQ.out _ kw) ?_
            rotate_left
            · (intro w hS; (try dsimp only at hS); go_simp <;> with_reducible rfl)
            try simp only [List.setIfInBounds_toArray, List.set_cons_zero, List.set_cons_succ]
            refine wpAnyH_putD (i := 2) (d := 33) (v := ?_) rfl rfl (by kernel_rfl) (by kernel_rfl) (by kernel_rfl) (fun _ _ _ h => h) (Or.inl ⟨by kernel_rfl, ?_⟩) (by first | exact HQ.out _ kw) ?_
            rotate_left
            · (intro w hS; (try dsimp only at hS); go_simp <;> with_reducible rfl)
            try simp only [List.setIfInBounds_toArray, List.set_cons_zero, List.set_cons_succ]
            refine wpAnyH_putD (i := 3) (d := 34) (v := (.bool false)) rfl rfl (by kernel_rfl) (by kernel_rfl) (by kernel_rfl) (fun _ _ _ h => h) (Or.inl ⟨by kernel_rfl, ?_⟩) (by first | exact HQ.out _ kw) ?_
            · (intro w hS; (try dsimp only at hS); go_simp <;> with_reducible rfl)
            try simp only [List.setIfInBounds_toArray, List.set_cons_zero, List.set_cons_succ]
            refine wpAnyH_putD (i := 4) (d := 35) (v := ?_) rfl rfl (by kernel_rfl) (by kernel_rfl) (by kernel_rfl) (fun _ _ _ h => h) (Or.inl ⟨by kernel_rfl, ?_⟩) (by first | exact HQ.out _ kw) ?_
            rotate_left
            · (intro w hS; (try dsimp only at hS); go_simp <;> with_reducible rfl)
            try simp only [List.setIfInBounds_toArray, List.set_cons_zero, List.set_cons_succ]
            refine wpAnyH_putD (i := 5) (d := 36) (v := undef) rfl rfl (by kernel_rfl) (by kernel_rfl) (by kernel_rfl) (fun _ _ _ h => h) (Or.inr ⟨by kernel_rfl, rfl⟩) (by first | exact HQ.out _ kw) ?_
            try simp only [List.setIfInBounds_toArray, List.set_cons_zero, List.set_cons_succ]
            refine wpAnyH_putD (i := 6) (d := 37) (v := undef) rfl rfl (by kernel_rfl) (by kernel_rfl) (by kernel_rfl) (fun _ _ _ h => h) (Or.inr ⟨by kernel_rfl, rfl⟩) (by first | exact HQ.out _ kw) ?_
            try simp only [List.setIfInBounds_toArray, List.set_cons_zero, List.set_cons_succ]
            refine wpAnyH_putD (i := 7) (d := 38) (v := undef) rfl rfl (by kernel_rfl) (by kernel_rfl) (by kernel_rfl) (fun _ _ _ h => h) (Or.inr ⟨by kernel_rfl, rfl⟩) (by first | exact HQ.out _ kw) ?_
            try simp only [List.setIfInBounds_toArray, List.set_cons_zero, List.set_cons_succ]
            refine wpAnyH_putD (i := 8) (d := 39) (v := undef) rfl rfl (by kernel_rfl) (by kernel_rfl) (by kernel_rfl) (fun _ _ _ h => h) (Or.inr ⟨by kernel_rfl, rfl⟩) (by first | exact HQ.out _ kw) ?_
            try simp only [List.setIfInBounds_toArray, List.set_cons_zero, List.set_cons_succ]
            refine wpAnyH_putD (i := 9) (d := 40) (v := undef) rfl rfl (by kernel_rfl) (by kernel_rfl) (by kernel_rfl) (fun _ _ _ h => h) (Or.inr ⟨by kernel_rfl, rfl⟩) (by first | exact HQ.out _ kw) ?_
            try simp only [List.setIfInBounds_toArray, List.set_cons_zero, List.set_cons_succ]
            refine wpAnyH_putD (i := 10) (d := 41) (v := undef) rfl rfl (by kernel_rfl) (by kernel_rfl) (by kernel_rfl) (fun _ _ _ h => h) (Or.inr ⟨by kernel_rfl, rfl⟩) (by first | exact HQ.out _ kw) ?_
            try simp only [List.setIfInBounds_toArray, List.set_cons_zero, List.set_cons_succ]
            refine wpAnyH_putD (i := 11) (d := 42) (v := undef) rfl rfl (by kernel_rfl) (by kernel_rfl) (by kernel_rfl) (fun _ _ _ h => h) (Or.inr ⟨by kernel_rfl, rfl⟩) (by first | exact HQ.out _ kw) ?_
            try simp only [List.setIfInBounds_toArray, List.set_cons_zero, List.set_cons_succ]
            refine wpAnyH_putD (i := 12) (d := 43) (v := undef) rfl rfl (by kernel_rfl) (by kernel_rfl) (by kernel_rfl) (fun _ _ _ h => h) (Or.inr ⟨by kernel_rfl, rfl⟩) (by first | exact HQ.out _ kw) ?_
            try simp only [List.setIfInBounds_toArray, List.set_cons_zero, List.set_cons_succ]
            refine wpAnyH_putD (i := 13) (d := 44) (v := undef) rfl rfl (by kernel_rfl) (by kernel_rfl) (by kernel_rfl) (fun _ _ _ h => h) (Or.inr ⟨by kernel_rfl, rfl⟩) (by first | exact HQ.out _ kw) ?_
            try simp only [List.setIfInBounds_toArray, List.set_cons_zero, List.set_cons_succ]
            refine wpAnyH_putD (i := 14) (d := 45) (v := undef) rfl rfl (by kernel_rfl) (by kernel_rfl) (by kernel_rfl) (fun _ _ _ h => h) (Or.inr ⟨by kernel_rfl, rfl⟩) (by first | exact HQ.out _ kw) ?_
            try simp only [List.setIfInBounds_toArray, List.set_cons_zero, List.set_cons_succ]
            refine wpAnyH_putD (i := 15) (d := 46) (v := undef) rfl rfl (by kernel_rfl) (by kernel_rfl) (by kernel_rfl) (fun _ _ _ h => h) (Or.inr ⟨by kernel_rfl, rfl⟩) (by first | exact HQ.out _ kw) ?_
            try simp only [List.setIfInBounds_toArray, List.set_cons_zero, List.set_cons_succ]
            refine wpAnyH_putD (i := 16) (d := 47) (v := ?_) rfl rfl (by kernel_rfl) (by kernel_rfl) (by kernel_rfl) (fun _ _ _ h => h) (Or.inl ⟨by kernel_rfl, ?_⟩) (by first | exact HQ.out _ kw) ?_
            rotate_left
            · (intro w hS; (try dsimp only at hS); go_simp <;> with_reducible rfl)
            try simp only [List.setIfInBounds_toArray, List.set_cons_zero, List.set_cons_succ]
            refine wpAnyH_done (by kernel_rfl) ?_ _
            refine Nrm.out (hKK _ _ ?_)
            have hIV := HI.out.below kw
            have f4 := hIV.re.frozen
            have q4 := hIV.re.cell
            have q3 := hIV.kk.cell
            have qm := hIV.mo.cell
            obtain ⟨-, -, qx, -⟩ := HQ.out _ kw
            gi_wp2
            refine ⟨((keeps_below kw).trans (KeepsOthers.setCell _ _ _)).from _, ⟨rfl, false, k, hIV.setR false hlo2, fun h => absurd h HNO.out⟩, (hB.trans (kw.mono hB.size)).setCell (p := ⟨w.heap.size + 1, 0, none⟩) (by show _ ≤ w.heap.size + 1; omega) _⟩
        · have he4 : ((er : Int) != 14) = true := bne_iff_ne.2 (by omega)
          have HNO := Lib.hid (fun h => (hpn h).elim ee (fun h => e4 h.1))
          clear hpn ee e4
          gi_wp2
          refine region_round (S := (fun W' => W'.cell? ⟨w4.heap.size, 0, none⟩ = some (.int .i64 (k : Int)) ∧ W'.cell? ⟨w.heap.size, 0, none⟩ = some (.slice A n c) ∧ W'.cell? ⟨Bs, 0, none⟩ = some (.int .i64 xk) ∧ W'.cell? ⟨Bs, 1, none⟩ = some (.int .i64 xa) ∧ W'.cell? ⟨Bs, 2, none⟩ = some (.int .i64 xb) ∧ W'.cell? ⟨Bs, 3, none⟩ = some (.int .i64 xo) ∧ W'.cell? ⟨Bs, 4, none⟩ = some (.int .i64 xn) ∧ W'.cell? ⟨Bs, 5, none⟩ = some (.slice P1 p1 q1) ∧ W'.cell? ⟨Bs, 6, none⟩ = some (.slice P2 p2 q2))) (by kernel_rfl) (by kernel_rfl) (by first | exact HQ.out _ kw) (fun KK hKK hHeld => ?_)
          refine wpAnyH_putD (i := 0) (d := 31) (v := ?_) rfl rfl (by kernel_rfl) (by kernel_rfl) (by kernel_rfl) (fun _ _ _ h => h) (Or.inl ⟨by kernel_rfl, ?_⟩) (by first | exact HQ.out _ kw) ?_
          rotate_left
          · (intro w hS; (try dsimp only at hS); go_simp <;> with_reducible rfl)
          try simp only [List.setIfInBounds_toArray, List.set_cons_zero, List.set_cons_succ]
          refine wpAnyH_putD (i := 1) (d := 32) (v := ?_) rfl rfl (by kernel_rfl) (by kernel_rfl) (by kernel_rfl) (fun _ _ _ h => h) (Or.inl ⟨by kernel_rfl, ?_⟩) (by first | exact HQ.out _ kw) ?_
          rotate_left
          · (intro w hS; (try dsimp only at hS); go_simp <;> with_reducible rfl)
          try simp only [List.setIfInBounds_toArray, List.set_cons_zero, List.set_cons_succ]
          refine wpAnyH_putD (i := 2) (d := 33) (v := ?_) rfl rfl (by kernel_rfl) (by kernel_rfl) (by kernel_rfl) (fun _ _ _ h => h) (Or.inl ⟨by kernel_rfl, ?_⟩) (by first | exact HQ.out _ kw) ?_
          rotate_left
          · (intro w hS; (try dsimp only at hS); go_simp <;> with_reducible rfl)
          try simp only [List.setIfInBounds_toArray, List.set_cons_zero, List.set_cons_succ]
          refine wpAnyH_putD (i := 3) (d := 34) (v := (.bool false)) rfl rfl (by kernel_rfl) (by kernel_rfl) (by kernel_rfl) (fun _ _ _ h => h) (Or.inl ⟨by kernel_rfl, ?_⟩) (by first | exact HQ.out _ kw) ?_
          · (intro w hS; (try dsimp only at hS); go_simp <;> with_reducible rfl)
          try simp only [List.setIfInBounds_toArray, List.set_cons_zero, List.set_cons_succ]
          refine wpAnyH_putD (i := 4) (d := 35) (v := ?_) rfl rfl (by kernel_rfl) (by kernel_rfl) (by kernel_rfl) (fun _ _ _ h => h) (Or.inl ⟨by kernel_rfl, ?_⟩) (by first | exact HQ.out _ kw) ?_
          rotate_left
          · (intro w hS; (try dsimp only at hS); go_simp <;> with_reducible rfl)
          try simp only [List.setIfInBounds_toArray, List.set_cons_zero, List.set_cons_succ]
          refine wpAnyH_putD (i := 5) (d := 36) (v := undef) rfl rfl (by kernel_rfl) (by kernel_rfl) (by kernel_rfl) (fun _ _ _ h => h) (Or.inr ⟨by kernel_rfl, rfl⟩) (by first | exact HQ.out _ kw) ?_
          try simp only [List.setIfInBounds_toArray, List.set_cons_zero, List.set_cons_succ]
          refine wpAnyH_putD (i := 6) (d := 37) (v := undef) rfl rfl (by kernel_rfl) (by kernel_rfl) (by kernel_rfl) (fun _ _ _ h => h) (Or.inr ⟨by kernel_rfl, rfl⟩) (by first | exact HQ.out _ kw) ?_
          try simp only [List.setIfInBounds_toArray, List.set_cons_zero, List.set_cons_succ]
          refine wpAnyH_putD (i := 7) (d := 38) (v := undef) rfl rfl (by kernel_rfl) (by kernel_rfl) (by kernel_rfl) (fun _ _ _ h => h) (Or.inr ⟨by kernel_rfl, rfl⟩) (by first | exact HQ.out _ kw) ?_
          try simp only [List.setIfInBounds_toArray, List.set_cons_zero, List.set_cons_succ]
          refine wpAnyH_putD (i := 8) (d := 39) (v := undef) rfl rfl (by kernel_rfl) (by kernel_rfl) (by kernel_rfl) (fun _ _ _ h => h) (Or.inr ⟨by kernel_rfl, rfl⟩) (by first | exact HQ.out _ kw) ?_
          try simp only [List.setIfInBounds_toArray, List.set_cons_zero, List.set_cons_succ]
          refine wpAnyH_putD (i := 9) (d := 40) (v := undef) rfl rfl (by kernel_rfl) (by kernel_rfl) (by kernel_rfl) (fun _ _ _ h => h) (Or.inr ⟨by kernel_rfl, rfl⟩) (by first | exact HQ.out _ kw) ?_
          try simp only [List.setIfInBounds_toArray, List.set_cons_zero, List.set_cons_succ]
          refine wpAnyH_putD (i := 10) (d := 41) (v := undef) rfl rfl (by kernel_rfl) (by kernel_rfl) (by kernel_rfl) (fun _ _ _ h => h) (Or.inr ⟨by kernel_rfl, rfl⟩) (by first | exact HQ.out _ kw) ?_
          try simp only [List.setIfInBounds_toArray, List.set_cons_zero, List.set_cons_succ]
          refine wpAnyH_putD (i := 11) (d := 42) (v := undef) rfl rfl (by kernel_rfl) (by kernel_rfl) (by kernel_rfl) (fun _ _ _ h => h) (Or.inr ⟨by kernel_rfl, rfl⟩) (by first | exact HQ.out _ kw) ?_
          try simp only [List.setIfInBounds_toArray, List.set_cons_zero, List.set_cons_succ]
          refine wpAnyH_putD (i := 12) (d := 43) (v := undef) rfl rfl (by kernel_rfl) (by kernel_rfl) (by kernel_rfl) (fun _ _ _ h => h) (Or.inr ⟨by kernel_rfl, rfl⟩) (by first | exact HQ.out _ kw) ?_
          try simp only [List.setIfInBounds_toArray, List.set_cons_zero, List.set_cons_succ]
          refine wpAnyH_putD (i := 13) (d := 44) (v := undef) rfl rfl (by kernel_rfl) (by kernel_rfl) (by kernel_rfl) (fun _ _ _ h => h) (Or.inr ⟨by kernel_rfl, rfl⟩) (by first | exact HQ.out _ kw) ?_
          try simp only [List.setIfInBounds_toArray, List.set_cons_zero, List.set_cons_succ]
          refine wpAnyH_putD (i := 14) (d := 45) (v := undef) rfl rfl (by kernel_rfl) (by kernel_rfl) (by kernel_rfl) (fun _ _ _ h => h) (Or.inr ⟨by kernel_rfl, rfl⟩) (by first | exact HQ.out _ kw) ?_
          try simp only [List.setIfInBounds_toArray, List.set_cons_zero, List.set_cons_succ]
          refine wpAnyH_putD (i := 15) (d := 46) (v := undef) rfl rfl (by kernel_rfl) (by kernel_rfl) (by kernel_rfl) (fun _ _ _ h => h) (Or.inr ⟨by kernel_rfl, rfl⟩) (by first | exact HQ.out _ kw) ?_
          try simp only [List.setIfInBounds_toArray, List.set_cons_zero, List.set_cons_succ]
          refine wpAnyH_putD (i := 16) (d := 47) (v := ?_) rfl rfl (by kernel_rfl) (by kernel_rfl) (by kernel_rfl) (fun _ _ _ h => h) (Or.inl ⟨by kernel_rfl, ?_⟩) (by first | exact HQ.out _ kw) ?_
          rotate_left
          · (intro w hS; (try dsimp only at hS); go_simp <;> with_reducible rfl)
          try simp only [List.setIfInBounds_toArray, List.set_cons_zero, List.set_cons_succ]
          refine wpAnyH_done (by kernel_rfl) ?_ _
          refine Nrm.out (hKK _ _ ?_)
          have hIV := HI.out.below kw
          have f4 := hIV.re.frozen
          have q4 := hIV.re.cell
          have q3 := hIV.kk.cell
          have qm := hIV.mo.cell
          obtain ⟨-, -, qx, -⟩ := HQ.out _ kw
          gi_wp2
          refine ⟨((keeps_below kw).trans (KeepsOthers.setCell _ _ _)).from _, ⟨rfl, false, k, hIV.setR false hlo2, fun h => absurd h HNO.out⟩, (hB.trans (kw.mono hB.size)).setCell (p := ⟨w.heap.size + 1, 0, none⟩) (by show _ ≤ w.heap.size + 1; omega) _⟩
  case done =>
    rintro E ys W hD hys ⟨hI, hB⟩ hK
    have hlen : ys.length = n + (evS l).length := by
      have h1 : (said ys).length = ys.length := by simp [said]
      rw [← h1, hys, HEV.out, List.length_append, List.length_map, HST.out]
    have q2 := hI.mo.cell
    have q3 := hI.kk.cell
    have q4 := hI.re.cell
    have f4 := hI.re.frozen
    obtain ⟨k, hk⟩ : ∃ k, k = ys.length := ⟨_, rfl⟩
    rw [← hk] at q3 hlen
    have a1 : n ≤ k := by omega
    have c1 : decide (n ≤ k) = true := decide_eq_true a1
    have HB := Lib.hid hB
    by_cases hm0 : m = 0
    · have hl0 : l = [] := List.eq_nil_of_length_eq_zero (by rw [HML.out, hm0])
      have hkn : k = n := by rw [hlen, hl0]; rfl
      have c2 : decide (0 < m) = false := decide_eq_false (by omega)
      have c3 : decide (n < k) = false := decide_eq_false (by omega)
      clear hys hI hlen hl0 hkn hm0 hk hB a1
      gi_wp2
      have hK' := (KeepsOthers.setCell W ⟨w.heap.size + 1, 0, none⟩ (.bool true)).same E _ hK rfl
      refine ⟨by simp, .inl ⟨_, _, rfl, run_takeDeferred hK', ?_⟩⟩
      have hc5 := cell_kept (World.cell?_setCell_same' W ⟨w.heap.size + 1, 0, none⟩ (.bool true) (by rw [q4]; rfl)) (grownBy_putObj' _ E (.deferred none)) (fun r e => by cases e; exact ⟨_, hK', rfl⟩)
      refine ⟨.bool true, ?_, rfl, (HB.out.setCell (p := ⟨w.heap.size + 1, 0, none⟩) (by show _ ≤ w.heap.size + 1; omega) _).trans (belowK_b (w := w) (Nat.le_refl _) _ E _ _ (by omega) hK' rfl rfl)⟩
      simp [results, Try.f7, go_sem, hc5]
    · have hl0 : 0 < (evS l).length := evS_ne (fun e => hm0 (by rw [← HML.out, e]; rfl))
      have c2 : decide (0 < m) = true := decide_eq_true (by omega)
      have c3 : decide (n < k) = true := decide_eq_true (by omega)
      clear hys hI hlen hl0 hm0 hk hB a1
      gi_wp2
      have hK' := (KeepsOthers.setCell W ⟨w.heap.size + 1, 0, none⟩ (.bool true)).same E _ hK rfl
      refine ⟨by simp, .inl ⟨_, _, rfl, run_takeDeferred hK', ?_⟩⟩
      have hc5 := cell_kept (World.cell?_setCell_same' W ⟨w.heap.size + 1, 0, none⟩ (.bool true) (by rw [q4]; rfl)) (grownBy_putObj' _ E (.deferred none)) (fun r e => by cases e; exact ⟨_, hK', rfl⟩)
      refine ⟨.bool true, ?_, rfl, (HB.out.setCell (p := ⟨w.heap.size + 1, 0, none⟩) (by show _ ≤ w.heap.size + 1; omega) _).trans (belowK_b (w := w) (Nat.le_refl _) _ E _ _ (by omega) hK' rfl rfl)⟩
      simp [results, Try.f7, go_sem, hc5]
  case stop =>
    rintro E c' pre W hD hpre ⟨⟨rfl, r, k, hI, hr⟩, hB⟩ hK
    obtain rfl := hr hpre
    have q4 := hI.re.cell
    clear hr hpre hI
    gi_wp2
    refine ⟨by simp, .inl ⟨_, _, rfl, run_takeDeferred hK, ?_⟩⟩
    have hc5 := cell_kept q4 (grownBy_putObj' _ E (.deferred none)) (fun r e => by cases e; exact ⟨_, hK, rfl⟩)
    refine ⟨.bool true, ?_, rfl, hB.trans (belowK_b (w := w) (Nat.le_refl _) W E _ _ (by omega) hK rfl rfl)⟩
    simp [results, Try.f7, go_sem, hc5]
end Go.Proofs.Ytldcgmnfohhjbac
