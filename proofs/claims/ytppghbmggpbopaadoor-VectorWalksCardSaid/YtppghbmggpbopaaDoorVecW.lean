/- Walk over the law VectorWalks. -/
import Derived.Test.YtppghbmggpbopaaDoorVecU
namespace Go.Proofs.YtppghbmggpbopaaDoor
open Go.RowKit Go.Shelf
set_option maxRecDepth 100000
attribute [local go_sem] Oper.semAt_some

theorem Rd.kept_ {W W' : World} {row : Option Nat} {B size n c : Nat} {A : Option Addr} {xs : List Value} (h : Rd W B size A n c xs) (hg : W.grownBy W' row) (hr : ∀ r, row = some r → ∃ o : Obj, W.heap[r]? = some o ∧ o.isCells = false) : Rd W' B size A n c xs :=
  ⟨h.len, h.cap, h.max, h.nil, fun hn => by
    obtain ⟨ad, e, hb, hc⟩ := h.at0 hn
    exact ⟨ad, e, hb, fun j u hu => cell_kept (hc j u hu) hg hr⟩⟩

/-- What the loop keeps: the boxes of the captured variables, and the row that is wanted. -/
structure WkInv (Bm Br Bw Bk B0 : Nat) (most : Int) (Aw : Option Addr) (m cw : Nat) (L : List Vc.St) (r : Bool) (k : Nat) (W : World) : Prop where
  mo : Boxed W Bm 3 (.int .i64 most)
  re : Boxed W Br 4 (.bool r)
  wa : Boxed W Bw 22 (.slice Aw m cw)
  kk : Boxed W Bk 3 (.int .i64 k)
  rd : Rd W B0 2 Aw m cw (sv L)
  lo : ∀ a, Aw = some a → Br < a.block
theorem WkInv.kept_ {Bm Br Bw Bk B0 : Nat} {most : Int} {Aw : Option Addr} {m cw : Nat} {L : List Vc.St} {r : Bool} {k : Nat} {X Y : World} {row : Option Nat} (h : WkInv Bm Br Bw Bk B0 most Aw m cw L r k X) (hg : X.grownBy Y row) (hr : ∀ r, row = some r → ∃ o : Obj, X.heap[r]? = some o ∧ o.isCells = false) : WkInv Bm Br Bw Bk B0 most Aw m cw L r k Y :=
  ⟨boxed_own Bm _ (fun _ : Unit => _) () X Y row h.mo hg hr, boxed_own Br _ (fun _ : Unit => _) () X Y row h.re hg hr, boxed_own Bw _ (fun _ : Unit => _) () X Y row h.wa hg hr, boxed_own Bk _ (fun _ : Unit => _) () X Y row h.kk hg hr, h.rd.kept_ hg hr, h.lo⟩
theorem Rd.far {W : World} {B size n c : Nat} {A : Option Addr} {xs : List Value} (h : Rd W B size A n c xs) {p : Addr} (hne : ∀ a, A = some a → a.block ≠ p.block) (u : Value) : Rd (W.setCell p u) B size A n c xs :=
  ⟨h.len, h.cap, h.max, h.nil, fun hn => by
    obtain ⟨ad, e, hb, hc⟩ := h.at0 hn
    refine ⟨ad, e, hb, fun j u' hu => ?_⟩
    rw [World.cell?_setCell_other W p (ad.add j) u (fun e' => hne ad e (by rw [← block_of_add ad j, e']))]
    exact hc j u' hu⟩
theorem WkInv.setR {Bm Br Bw Bk B0 : Nat} {most : Int} {Aw : Option Addr} {m cw : Nat} {L : List Vc.St} {r : Bool} {k : Nat} {W : World} (h : WkInv Bm Br Bw Bk B0 most Aw m cw L r k W) (q : Bool) (h1 : Bm ≠ Br) (h2 : Bw ≠ Br) (h3 : Bk ≠ Br) : WkInv Bm Br Bw Bk B0 most Aw m cw L q k (W.setCell ⟨Br, 0, none⟩ (.bool q)) :=
  ⟨h.mo.other h1 _, h.re.set _, h.wa.other h2 _, h.kk.other h3 _, h.rd.far (p := ⟨Br, 0, none⟩) (fun a ha => by have := h.lo a ha; show a.block ≠ Br; omega) _, h.lo⟩
theorem WkInv.setK {Bm Br Bw Bk B0 : Nat} {most : Int} {Aw : Option Addr} {m cw : Nat} {L : List Vc.St} {r : Bool} {k : Nat} {W : World} (h : WkInv Bm Br Bw Bk B0 most Aw m cw L r k W) (q : Nat) (h1 : Bm ≠ Bk) (h2 : Bw ≠ Bk) (h3 : Br ≠ Bk) (h4 : B0 ≤ Bk) : WkInv Bm Br Bw Bk B0 most Aw m cw L r q (W.setCell ⟨Bk, 0, none⟩ (.int .i64 q)) :=
  ⟨h.mo.other h1 _, h.re.other h3 _, h.wa.other h2 _, h.kk.set _, h.rd.setCell (p := ⟨Bk, 0, none⟩) h4 _, h.lo⟩

/-- How the loop is left: the answer is true wherever what has come is the beginning of what is wanted. -/
def WkStop (Bm Br Bw Bk B0 : Nat) (most : Int) (Aw : Option Addr) (m cw : Nat) (L : List Vc.St) (p : Prop) (W : World) : Prop := ∃ r k, WkInv Bm Br Bw Bk B0 most Aw m cw L r k W ∧ (p → r = true)
theorem prefix_take {α : Type} {u v : List α} (h : u <+: v) : u = v.take u.length := by
  obtain ⟨r, rfl⟩ := h
  simp
theorem prefix_snoc {α : Type} {u v : List α} (h : u <+: v) (x : α) (hk : u.length < v.length) (hx : v[u.length] = x) : (u ++ [x]) <+: v := by
  obtain ⟨r, rfl⟩ := h
  rcases r with _ | ⟨y, r⟩
  · simp at hk
  · obtain rfl : y = x := by simpa using hx
    exact ⟨r, by simp⟩
theorem prefix_at {α : Type} {u v : List α} {x : α} (h : (u ++ [x]) <+: v) : ∃ hk : u.length < v.length, v[u.length] = x := by
  obtain ⟨r, rfl⟩ := h
  exact ⟨by simp, by simp⟩

set_option maxHeartbeats 8000000 in
theorem vectorWalks_walk (A : Option Addr) (n c : Nat) (v : List Vc.St) (most : Int) (w : World) (hT : Tab w) (hl : v.length = n) (hR : Rd w w.heap.size 2 A n c (sv v)) :
    Calls Tryd.prog 3 #[.slice A n c, .int .i64 most] w fun e w' => e = .returned (.bool true) ∧ Below w.heap.size w w' := by
  have h0lt : 0 < w.heap.size := World.block_lt_of_cell? _ _ (hT 0 (by decide))
  have H1 := Lib.hid fun (W : World) hR => all_any A n c v W hl hR
  have HR := Lib.hid hR
  have H0 := Lib.hid fun (W : World) hR => refTwo_any A none n c 0 0 v [] W hl rfl hR Rd.none_
  obtain ⟨f, hf⟩ : ∃ f, f = Vc.cnt v := ⟨_, rfl⟩
  have hjn : vec (jn [v, []]) = vecTo f (pos f) 64 := by rw [hf]; exact vec_congr fun n _ => by have := Vc.cnt_nonneg v n; rw [jn_two]; show max _ 0 = _; omega
  rw [hjn] at H0
  obtain ⟨L, hL⟩ : ∃ L, L = vecTo f (pos f) 64 := ⟨_, rfl⟩
  obtain ⟨m, hm⟩ : ∃ m, m = L.length := ⟨_, rfl⟩
  have hm64 : m ≤ 64 := by rw [hm, hL]; exact vecTo_len f _ 64
  rw [← hL, ← hm] at H0
  rw [← hf] at H1
  have HL := Lib.hid hL
  have HM := Lib.hid hm
  clear hR hl hf hjn hL hm
  refine (callsIn_wide (n := 3)).1 ?_
  refine callsIn_of_wp_marks Tryd.func3 rfl trivial ?_ rfl
  simp only [Tryd.ntmps3, List.size_toArray, List.length_cons, List.length_nil, Nat.reduceAdd, Nat.reduceSub, Array.replicate_succ, Array.replicate_zero, List.push_toArray, List.append_toArray, List.nil_append, List.cons_append]
  gi_wp2_with fail
  have hbA : Below w.heap.size w ((w.alloc (.cells #[.int .i64 most] 3)).alloc (.cells #[.bool false] 4)) := ((Below.refl _ w).alloc (Nat.le_refl _) _).alloc (by simp) _
  have bM := (Boxed.new w 3 (.int .i64 most)).alloc (.cells #[.bool false] 4)
  have bR := Boxed.new (w.alloc (.cells #[.int .i64 most] 3)) 4 (.bool false)
  rw [World.size_alloc] at bR
  obtain ⟨W0, hW0⟩ : ∃ W0, W0 = (w.alloc (.cells #[.int .i64 most] 3)).alloc (.cells #[.bool false] 4) := ⟨_, rfl⟩
  have hs0 : W0.heap.size = w.heap.size + 1 + 1 := by rw [hW0]; simp
  rw [← hW0] at bM bR hbA ⊢
  clear hW0
  have hTA := hT.below hbA
  refine ⟨trivial, ?_⟩
  refine (callsIn_wide.2 (alive_any W0 hTA)).mono ?_
  rintro e w1 ⟨rfl, hb1⟩
  have hbw1 : Below w.heap.size w w1 := below_then hbA (Nat.le_refl _) hb1
  have bM1 : Boxed w1 w.heap.size 3 (.int .i64 most) := (hb1.block _ (by omega)).trans bM
  have bR1 : Boxed w1 (w.heap.size + 1) 4 (.bool false) := (hb1.block _ (by omega)).trans bR
  have hT1 := hTA.below hb1
  have hs1 := hb1.size
  clear bM bR hbA hTA hb1
  gi_wp2_with fail
  refine ⟨trivial, ?_⟩
  refine (callsIn_wide.2 (H0.out w1 (HR.out.go hbw1))).mono ?_
  rintro e w2 ⟨Aw, cw, rfl, ho2, hb2⟩
  have hbw2 : Below w.heap.size w w2 := below_then hbw1 (Nat.le_refl _) hb2
  have bM2 : Boxed w2 w.heap.size 3 (.int .i64 most) := (hb2.block _ (by omega)).trans bM1
  have bR2 : Boxed w2 (w.heap.size + 1) 4 (.bool false) := (hb2.block _ (by omega)).trans bR1
  have hT2 := hT1.below hb2
  have hs2 := hb2.size
  have hR2 := Rd.of_own ho2
  have hform : ∀ a, Aw = some a → w1.heap.size ≤ a.block := fun a ha => by
    obtain ⟨A', c', hv, _, hf⟩ := own_form ho2
    injection hv with hA _ _
    obtain ⟨g, rfl, hg, _⟩ := hf a (by rw [← hA]; exact ha)
    exact hg
  clear H0 bM1 bR1 hT1 ho2
  gi_wp2_with fail
  have hbA : Below w2.heap.size w2 ((w2.alloc (.cells #[.slice Aw m cw] 22)).alloc (.cells #[.int .i64 0] 3)) := ((Below.refl _ w2).alloc (Nat.le_refl _) _).alloc (by simp) _
  have bW := (Boxed.new w2 22 (.slice Aw m cw)).alloc (.cells #[.int .i64 0] 3)
  have bK := Boxed.new (w2.alloc (.cells #[.slice Aw m cw] 22)) 3 (.int .i64 0)
  rw [World.size_alloc] at bK
  obtain ⟨W3, hW3⟩ : ∃ W3, W3 = (w2.alloc (.cells #[.slice Aw m cw] 22)).alloc (.cells #[.int .i64 0] 3) := ⟨_, rfl⟩
  have hs3 : W3.heap.size = w2.heap.size + 1 + 1 := by rw [hW3]; simp
  rw [← hW3] at bW bK hbA ⊢
  clear hW3
  have hbw3 : Below w.heap.size w W3 := below_then hbw2 (Nat.le_refl _) hbA
  have hT3 := hT2.below hbA
  have bM3 : Boxed W3 w.heap.size 3 (.int .i64 most) := (hbA.block _ (by omega)).trans bM2
  have bR3 : Boxed W3 (w.heap.size + 1) 4 (.bool false) := (hbA.block _ (by omega)).trans bR2
  have hR3 := hR2.below hbA
  refine ⟨trivial, ?_⟩
  refine (callsIn_wide.2 (H1.out W3 (HR.out.go hbw3))).mono ?_
  rintro e w4 ⟨G, Bx, rfl, hG, hBx, hg1, hb1, hb⟩
  have hbw : Below w.heap.size w w4 := below_then hbw3 (Nat.le_refl _) hb
  have hGood : Good G Bx (fun m k => k = f m) w4 := ⟨hT3.below hb, hBx, f, _, hG, fun _ _ => rfl⟩
  have hh := hG.cell 64
  rw [cc_has, has_pos] at hh
  have hInv : WkInv w.heap.size (w.heap.size + 1) w2.heap.size (w2.heap.size + 1) w2.heap.size most Aw m cw L false 0 w4 :=
    ⟨(hb.block _ (by omega)).trans bM3, (hb.block _ (by omega)).trans bR3, (hb.block _ (by omega)).trans bW, (hb.block _ (by omega)).trans bK, hR3.below (hb.mono (by omega)), fun a ha => by have := hform a ha; omega⟩
  have hs4 := hb.size
  clear H1 HR hb hbA hbw1 hbw2 hbw3 bM2 bR2 bM3 bR3 bW bK hT2 hT3 hR2 hR3 hb2
  gi_wp2
  refine wpIn_rangeFunc_ownG rfl (by omega) (gf := 39) (lb := #[.pointer (some ⟨Bx, 0, none⟩)]) rfl trivial (enters_of Tryd.func39 (by kernel_rfl) rfl)
    (each_stops (3 - 1) (by omega) G Bx (pos f) (fun m k => k = f m) _ hGood hh) good_t (good_b hG.lt hBx.lt (by omega)) (Below.refl _ _) (fun _ => rfl)
    (fun pre W => (WkInv w.heap.size (w.heap.size + 1) w2.heap.size (w2.heap.size + 1) w2.heap.size most Aw m cw L false pre.length W ∧ (come f pre <+: L)) ∧ Below w.heap.size w W)
    (fun c pre W => (c = .ret ∧ WkStop w.heap.size (w.heap.size + 1) w2.heap.size (w2.heap.size + 1) w2.heap.size most Aw m cw L (come f pre <+: L) W) ∧ Below w.heap.size w W)
    (OwnFrom.and (Own.from (fun s X Y row hs hg hr => ⟨hs.1.kept_ hg hr, hs.2⟩) _) (ownFrom_below (Nat.le_refl _) (by omega)))
    (fun c => OwnFrom.and (Own.from (fun s X Y row hs hg hr => ⟨hs.1, hs.2.choose, hs.2.choose_spec.choose, hs.2.choose_spec.choose_spec.1.kept_ hg hr, hs.2.choose_spec.choose_spec.2⟩) _) (ownFrom_below (Nat.le_refl _) (by omega)))
    ⟨⟨hInv, List.nil_prefix⟩, hbw⟩
    (fun x => { tmps := #[.slice A n c, .int .i64 most, undef, .pointer (some ⟨w.heap.size, 0, none⟩), .pointer (some ⟨w.heap.size + 1, 0, none⟩), .pointer (some ⟨w2.heap.size, 0, none⟩), .pointer (some ⟨w2.heap.size + 1, 0, none⟩), .int .i64 (x.1.1 : Int), .int .i64 x.1.2, .bool true, .bool false, .slice A n c, .slice Aw m cw, .slice A n c, .func (.func 39) #[] #[.pointer (some ⟨Bx, 0, none⟩)], .int .i64 (x.1.1 : Int), .int .i64 x.1.2, undef, undef, undef, undef, undef, undef, undef, undef, undef, undef, undef, undef, undef, undef, undef, undef, undef, undef, undef, undef, undef, undef, undef], defers := [] }) ?assign ?body ?done ?stop
  case assign =>
    intro l x W K hK
    dsimp only [evs]
    gi_wp2
    exact hK
  case body =>
    rintro l pre x W ⟨⟨hI, hpre⟩, hB⟩ hlt
    have q1 := hI.mo.cell
    have q2 := hI.wa.cell
    have q3 := hI.kk.cell
    have q4 := hI.re.cell
    have f3 := hI.kk.frozen
    have f4 := hI.re.frozen
    have HI := Lib.hid hI
    have HP := Lib.hid hpre
    have HX := Lib.hid x.2.2.2
    have hlen := come_len f pre
    have hcs := come_snoc f pre x
    obtain ⟨xn, hxn⟩ : ∃ xn, xn = x.1.1 := ⟨_, rfl⟩
    obtain ⟨xc, hxc⟩ : ∃ xc, xc = x.1.2 := ⟨_, rfl⟩
    rw [← hxn, ← hxc] at hcs ⊢
    have HLEN := Lib.hid hlen
    have HCS := Lib.hid hcs
    obtain ⟨k, hk0⟩ : ∃ k, k = pre.length := ⟨_, rfl⟩
    rw [← hk0] at q3
    have HK0 := Lib.hid hk0
    have hk64 : k < 64 := by omega
    clear hI hpre hlen hcs hxn hxc hk0
    by_cases hk : k < m
    · have hkL : k < L.length := by rw [← HM.out]; exact hk
      obtain ⟨b, o, rfl, hab, h0, h1⟩ := HI.out.rd.stamp HM.out.symm hk
      have HE := Lib.hid (show L[k] = ((L[k]'hkL).1, (L[k]'hkL).2) from rfl)
      generalize (L[k]'hkL).1 = lc at h0 HE
      generalize (L[k]'hkL).2 = ln at h1 HE
      have hkk : decide ((k : Int) ≥ (m : Int)) = false := by simp; omega
      by_cases e1 : lc = xc
      · subst e1
        by_cases e2 : ln = (xn : Int)
        · subst e2
          have HPN := Lib.hid (show come f (pre ++ [x]) <+: L by
            rw [HCS.out]
            refine prefix_snoc HP.out _ (by rw [HLEN.out, ← HK0.out]; exact hkL) ?_
            have e : (come f pre).length = k := by rw [HLEN.out, ← HK0.out]
            simp only [e]
            exact HE.out)
          by_cases e3 : ((k : Int) + 1 == most) = true
          · gi_wp2
            refine ⟨((KeepsOthers.setCell _ _ _).trans (KeepsOthers.setCell _ _ _)).from _, ⟨rfl, true, k + 1, ?_, fun _ => rfl⟩, (hB.setCell (p := ⟨w2.heap.size + 1, 0, none⟩) (by show _ ≤ w2.heap.size + 1; omega) _).setCell (p := ⟨w.heap.size + 1, 0, none⟩) (by show _ ≤ w.heap.size + 1; omega) _⟩
            have h := HI.out
            rw [← HK0.out] at h
            exact (h.setK (k + 1) (by omega) (by omega) (by omega) (by omega)).setR true (by omega) (by omega) (by omega)
          · have e3' : ((k : Int) + 1 == most) = false := by simpa using e3
            clear e3
            gi_wp2
            refine ⟨(KeepsOthers.setCell _ _ _).from _, fun hg => hg.set_ _ (by omega) (by omega) (by omega), ⟨?_, HPN.out⟩, hB.setCell (p := ⟨w2.heap.size + 1, 0, none⟩) (by show _ ≤ w2.heap.size + 1; omega) _⟩
            have h := HI.out
            rw [← HK0.out] at h
            rw [List.length_append, List.length_singleton, ← HK0.out]
            exact h.setK (k + 1) (by omega) (by omega) (by omega) (by omega)
        · have HNO := Lib.hid (show ¬ (come f (pre ++ [x]) <+: L) by
            intro h
            rw [HCS.out] at h
            obtain ⟨h2, h3⟩ := prefix_at h
            have e : (come f pre).length = k := by rw [HLEN.out, ← HK0.out]
            simp only [e] at h3
            exact e2 (congrArg Prod.snd (HE.out.symm.trans h3)))
          gi_wp2
          refine ⟨(KeepsOthers.setCell _ _ _).from _, ⟨rfl, false, pre.length, ?_, fun h => absurd h HNO.out⟩, hB.setCell (p := ⟨w.heap.size + 1, 0, none⟩) (by show _ ≤ w.heap.size + 1; omega) _⟩
          exact HI.out.setR false (by omega) (by omega) (by omega)
      · have HNO := Lib.hid (show ¬ (come f (pre ++ [x]) <+: L) by
          intro h
          rw [HCS.out] at h
          obtain ⟨h2, h3⟩ := prefix_at h
          have e : (come f pre).length = k := by rw [HLEN.out, ← HK0.out]
          simp only [e] at h3
          exact e1 (congrArg Prod.fst (HE.out.symm.trans h3)))
        gi_wp2
        refine ⟨(KeepsOthers.setCell _ _ _).from _, ⟨rfl, false, pre.length, ?_, fun h => absurd h HNO.out⟩, hB.setCell (p := ⟨w.heap.size + 1, 0, none⟩) (by show _ ≤ w.heap.size + 1; omega) _⟩
        exact HI.out.setR false (by omega) (by omega) (by omega)
    · have HNO := Lib.hid (show ¬ (come f (pre ++ [x]) <+: L) by
        intro h
        rw [HCS.out] at h
        obtain ⟨h2, h3⟩ := prefix_at h
        have e : (come f pre).length = k := by rw [HLEN.out, ← HK0.out]
        have e2 := HM.out
        omega)
      have hkk : decide ((k : Int) ≥ (m : Int)) = true := by simp; omega
      gi_wp2
      refine ⟨(KeepsOthers.setCell _ _ _).from _, ⟨rfl, false, pre.length, ?_, fun h => absurd h HNO.out⟩, hB.setCell (p := ⟨w.heap.size + 1, 0, none⟩) (by show _ ≤ w.heap.size + 1; omega) _⟩
      exact HI.out.setR false (by omega) (by omega) (by omega)
  case done =>
    rintro E ys W hD hys ⟨⟨hI, hpre⟩, hB⟩ hK
    have q2 := hI.wa.cell
    have q3 := hI.kk.cell
    have q4 := hI.re.cell
    have f4 := hI.re.frozen
    have hlen : ys.length = m := by
      have h1 := come_all f ys hys
      rw [← HL.out] at h1
      have h2 := come_len f ys
      rw [h1, ← HM.out] at h2
      exact h2.symm
    rw [hlen] at q3
    clear hys hpre hI hlen
    gi_wp2
    have hK' := (KeepsOthers.setCell W ⟨w.heap.size + 1, 0, none⟩ (.bool true)).same E _ hK rfl
    refine ⟨by simp, .inl ⟨_, _, rfl, run_takeDeferred hK', ?_⟩⟩
    have hc5 := cell_kept (World.cell?_setCell_same' W ⟨w.heap.size + 1, 0, none⟩ (.bool true) (by rw [q4]; rfl)) (grownBy_putObj' _ E (.deferred none)) (fun r e => by cases e; exact ⟨_, hK', rfl⟩)
    refine ⟨.bool true, ?_, rfl, (hB.setCell (p := ⟨w.heap.size + 1, 0, none⟩) (by show _ ≤ w.heap.size + 1; omega) _).trans (belowK_b (w := w) (Nat.le_refl _) _ E _ _ (by omega) hK' rfl rfl)⟩
    simp [results, Tryd.f3, go_sem, hc5]
  case stop =>
    rintro E c' pre W hD hpre ⟨⟨rfl, r, k, hI, hr⟩, hB⟩ hK
    have hp : come f pre <+: L := by
      rw [HL.out]
      exact List.IsPrefix.map _ hpre
    obtain rfl := hr hp
    have q4 := hI.re.cell
    clear hp hr hpre hI
    gi_wp2
    refine ⟨by simp, .inl ⟨_, _, rfl, run_takeDeferred hK, ?_⟩⟩
    have hc5 := cell_kept q4 (grownBy_putObj' _ E (.deferred none)) (fun r e => by cases e; exact ⟨_, hK, rfl⟩)
    refine ⟨.bool true, ?_, rfl, hB.trans (belowK_b (w := w) (Nat.le_refl _) W E _ _ (by omega) hK rfl rfl)⟩
    simp [results, Tryd.f3, go_sem, hc5]
end Go.Proofs.YtppghbmggpbopaaDoor
