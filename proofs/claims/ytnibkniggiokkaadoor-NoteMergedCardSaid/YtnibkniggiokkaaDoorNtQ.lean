/- Walk over the document's Through (printed by wip/tools/genNtQ.py). -/
import Derived.Test.YtnibkniggiokkaaDoorNtX
import Derived.Deep.DeepCutAuto
namespace Go.Proofs.YtnibkniggiokkaaDoor
open Go.RowKit
set_option maxRecDepth 100000

/-- A note in a block of its own, its rows the call's own. -/
structure NtB (w : World) (base X : Nat) (v : NV) (x : Nt) : Prop where
  blk : Blk w X 26 v.val
  own : NtOwn w base v x
theorem set_gr (w : World) (X i : Nat) (u : Value) : w.grownBy (w.setCell ⟨X, i, none⟩ u) (some X) :=
  ⟨rfl, rfl, rfl, by simp, fun k _ hne => Below.heap_setCell w ⟨X, i, none⟩ u k (by rintro rfl; exact hne rfl)⟩
theorem gr_ne {w : World} {X : Nat} {t e : TypeId} {cs : Array Value} {bs size n : Nat} {y : Value} {xs : List Value} (hB : Blk w X t cs) (h : w.ownsRow bs e size y n xs) (he : e ≠ t) : some X ≠ y.ownBlock := by
  rcases own_blk h hB he with h | h
  · rw [h]; simp
  · exact fun e => h e.symm
theorem blkNe {w : World} {g g' : Nat} {t t' : TypeId} {cs cs' : Array Value} (h : Blk w g t cs) (h' : Blk w g' t' cs') (hne : t ≠ t') : some g ≠ some g' := by
  intro e
  obtain rfl : g = g' := by simpa using e
  unfold Blk at h h'
  rw [h] at h'
  injection h' with h'
  injection h' with _ ht
  exact hne ht
theorem blkOfN {W : World} {t : TypeId} {cs : Array Value} (_ : Below W.heap.size W (W.alloc (.cells cs t))) : Blk (W.alloc (.cells cs t)) W.heap.size t cs := Blk.new W t cs
theorem newRowT {W : World} {t : TypeId} {cs : Array Value} (size n : Nat) (_ : Below W.heap.size W (W.alloc (.cells cs t))) (hn : cs.size = n * size) (hm : n ≤ maxLen) : Rd (W.alloc (.cells cs t)) (W.alloc (.cells cs t)).heap.size size (some ⟨W.heap.size, 0, none⟩) n n cs.toList := by
  have := Rd.new W t size n cs hn hm
  rw [World.size_alloc]; exact this
section
variable {w w' : World} {base X : Nat} {v : NV} {x : Nt}
theorem NtB.go (h : NtB w base X v x) (hb : Below w.heap.size w w') : NtB w' base X v x := ⟨h.blk.go hb, h.own.below hb⟩
theorem NtB.gr {g : Nat} {t : TypeId} {cs : Array Value} (h : NtB w base X v x) (hB : Blk w g t cs) (h1 : 44 ≠ t) (h2 : 37 ≠ t) (h3 : 46 ≠ t) (hX : X ≠ g) (hg : w.grownBy w' (some g)) : NtB w' base X v x :=
  ⟨h.blk.grown hg (by simpa using hX), h.own.blk hB h1 h2 h3 hg⟩
theorem NtB.set2 (h : NtB w base X v x) {A : Option Addr} {n c : Nat} {y : List Sn.Sp} (hl : y.length = n) (o : w.ownsRow base 37 2 (.slice A n c) n (sv y)) :
    NtB (w.setCell ⟨X, 2, none⟩ (.slice A n c)) base X ⟨v.A1, v.n1, v.c1, v.A2, v.n2, v.c2, A, n, c, v.A4, v.n4, v.c4⟩ ⟨x.s, x.e, y, x.w⟩ := by
  have k := h.own.blk h.blk (by decide) (by decide) (by decide) (set_gr w X 2 (.slice A n c))
  exact ⟨h.blk.set_ 2 (.slice A n c), ⟨k.l1, k.o1, k.l2, k.o2, hl, o.kept (set_gr w X 2 _) (own_blk o h.blk (by decide)), k.l4, k.o4⟩⟩
/-- A write more. -/
theorem NtB.push (h : NtB w base X v x) (hg : w.grownBy w' (Value.slice v.A4 v.n4 v.c4).ownBlock) {A : Option Addr} {n c : Nat} {y : List Wr} (hl : y.length = n) (o : w'.ownsRow base 46 4 (.slice A n c) n (wv y)) :
    NtB (w'.setCell ⟨X, 3, none⟩ (.slice A n c)) base X ⟨v.A1, v.n1, v.c1, v.A2, v.n2, v.c2, v.A3, v.n3, v.c3, A, n, c⟩ ⟨x.s, x.e, x.b, y⟩ := by
  have hB := h.blk.grown hg (gr_ne h.blk h.own.o4 (by decide))
  have gs := set_gr w' X 3 (.slice A n c)
  have q1 := h.own.o1.kept hg (own_two h.own.o1 h.own.o4 (by decide))
  have q2 := h.own.o2.kept hg (own_two h.own.o2 h.own.o4 (by decide))
  have q3 := h.own.o3.kept hg (own_two h.own.o3 h.own.o4 (by decide))
  exact ⟨hB.set_ 3 (.slice A n c), ⟨h.own.l1, q1.kept gs (own_blk q1 hB (by decide)), h.own.l2, q2.kept gs (own_blk q2 hB (by decide)), h.own.l3, q3.kept gs (own_blk q3 hB (by decide)), hl, o.kept gs (own_blk o hB (by decide))⟩⟩
end
/-- The marks of what a note blurs, so far. -/
def mk (b sp : List Sn.Sp) (l : List Wr) : Nat → Bool := fun o => Sn.setOf b o || (unseen sp l).any fun w => decide (w.2.1 = (o : Int))
theorem mk_same (b sp : List Sn.Sp) (l : List Wr) (k : Nat) (h : k < l.length) (hz : hasO sp l[k].2.1 = true) : ∀ o, mk b sp (l.take (k + 1)) o = mk b sp (l.take k) o := fun o => by
  unfold mk; rw [unseen_take sp l k h, if_pos hz]
theorem mk_more (b sp : List Sn.Sp) (l : List Wr) (k m : Nat) (h : k < l.length) (hz : hasO sp l[k].2.1 = false) (hm : l[k].2.1 = (m : Int)) : ∀ o, updB (mk b sp (l.take k)) m true o = mk b sp (l.take (k + 1)) o := fun o => by
  have e1 : unseen sp (l.take (k + 1)) = unseen sp (l.take k) ++ [l[k]] := by rw [unseen_take sp l k h, if_neg (by rw [hz]; simp)]
  unfold updB mk
  rw [e1, List.any_append]
  simp only [List.any_cons, List.any_nil, Bool.or_false, hm]
  by_cases e : o = m
  · subst e; simp
  · rw [if_neg e]
    have : decide ((m : Int) = (o : Int)) = false := by simp; omega
    rw [this, Bool.or_false]
theorem mk_end (x : Nt) (sp : List Sn.Sp) : Sn.of (mk x.b sp x.w) = (thru x sp).b := by
  refine Sn.fmS_one (Sn.of_fm _) (Sn.tidy_fm _) fun o h0 h1 => ?_
  obtain ⟨k, rfl⟩ := Int.eq_ofNat_of_zero_le h0
  rw [Sn.of_in _ k (by omega)]
  have := thru_in x sp k h0 h1
  show _ = Sn.inB (thru x sp).b _
  rw [this]
  rfl

set_option maxHeartbeats 2000000 in
theorem refThrough_no (v : NV) (x : Nt) (A : Option Addr) (n c : Nat) (w : World) (hN : NtRd w w.heap.size v x) (hf : ntF x = false) :
    Calls Tryd.prog 10 #[.agg v.val, .slice A n c] w fun e w' => e = .returned (.tuple #[.agg NV0.val, .int .i64 1]) ∧ Below w.heap.size w w' := by
  obtain ⟨A1, n1, c1, A2, n2, c2, A3, n3, c3, A4, n4, c4⟩ := v
  have hb0 : Below w.heap.size w ((w.alloc (.cells #[.slice A1 n1 c1, .slice A2 n2 c2, .slice A3 n3 c3, .slice A4 n4 c4] 26)).alloc (.cells #[.slice none 0 0, .slice none 0 0, .slice none 0 0, .slice none 0 0] 26)) := ((Below.refl _ _).alloc (Nat.le_refl _) _).alloc (by simp) _
  have hX := (Blk.new w 26 #[.slice A1 n1 c1, .slice A2 n2 c2, .slice A3 n3 c3, .slice A4 n4 c4]).alloc (.cells #[.slice none 0 0, .slice none 0 0, .slice none 0 0, .slice none 0 0] 26)
  have hM := Blk.new (w.alloc (.cells #[.slice A1 n1 c1, .slice A2 n2 c2, .slice A3 n3 c3, .slice A4 n4 c4] 26)) 26 #[.slice none 0 0, .slice none 0 0, .slice none 0 0, .slice none 0 0]
  rw [World.size_alloc] at hM
  obtain ⟨W0, hW0⟩ : ∃ W0, W0 = (w.alloc (.cells #[.slice A1 n1 c1, .slice A2 n2 c2, .slice A3 n3 c3, .slice A4 n4 c4] 26)).alloc (.cells #[.slice none 0 0, .slice none 0 0, .slice none 0 0, .slice none 0 0] 26) := ⟨_, rfl⟩
  have hs0 : W0.heap.size = w.heap.size + 1 + 1 := by rw [hW0]; simp
  rw [← hW0] at hb0 hX hM
  have hN0 := hN.go hb0
  have G1 := refNoteFormed_any ⟨A1, n1, c1, A2, n2, c2, A3, n3, c3, A4, n4, c4⟩ x W0 hN0
  rw [hf] at G1
  dsimp only [NV.val] at G1 ⊢
  have G1 := Lib.hid G1
  have HB := Lib.hid hb0
  have HX := Lib.hid hX
  have HM := Lib.hid hM
  have HW := Lib.hid hW0.symm
  obtain ⟨zz, hii⟩ := zero_of_info notes_zero
  have HI := Lib.hid hii
  clear hf hN hN0 hb0 hX hM hW0 hii
  go_enter Tryd.func10, Tryd.ntmps10
  go_wp2_with fail
  rw [HW.out]
  obtain ⟨q0, q1, q2, q3⟩ := HX.out.four4
  go_wp2_with fail
  refine G1.out.mono ?_
  rintro e w1 ⟨rfl, hb1⟩
  have hM1 := HM.out.go hb1
  have hs1 := hb1.size
  go_wp2_with (refine wpList_store_blk rfl 26 _ _ rfl (w.heap.size + 1) 26 _ #[.slice none 0 0, .slice none 0 0, .slice none 0 0, .slice none 0 0] rfl rfl hM1 HI.out rfl (by simp [Value.oneCell']) ?_; intro W hblk hg)
  refine bodyPost_ret (res_ct rfl _ _ (w.heap.size + 1) 26 _ _ _ rfl hblk Tryd.underlying26 rfl (by kernel_rfl)) rfl ⟨rfl, (below_then HB.out (Nat.le_refl _) hb1).trans (grown_below hg (by omega) (fun j hj => by cases hj; omega))⟩

set_option maxHeartbeats 8000000 in
theorem refThrough_yes (v : NV) (x : Nt) (A : Option Addr) (n c : Nat) (sp : List Sn.Sp) (w : World) (hN : NtRd w w.heap.size v x) (hf : ntF x = true) (hl : sp.length = n) (hR : Rd w w.heap.size 2 A n c (sv sp)) :
    Calls Tryd.prog 10 #[.agg v.val, .slice A n c] w fun e w' => ∃ v' : NV, e = .returned (.tuple #[.agg v'.val, .int .i64 0]) ∧ NtOwn w' w.heap.size v' (thru x sp) ∧ Below w.heap.size w w' := by
  obtain ⟨i0, hi0, hz0, hz1, hz2⟩ := info_parts writes_info
  obtain ⟨_, hmi⟩ := zero_of_info zero_marks
  have HMI := Lib.hid hmi
  have hf' := hf
  unfold ntF ntH at hf'
  simp only [Bool.and_eq_true] at hf'
  obtain ⟨⟨h1, h2, h3, h4⟩, h5⟩ := hf'
  have z1 := stl_len h1
  have z2 := stl_len h2
  have z3 := Sn.fmS_128 h4
  have z4 := wrl_len h5
  have hob := ((ntW_iff _ _ _ _).1 h5).2
  obtain ⟨A1, n1, c1, A2, n2, c2, A3, n3, c3, A4, n4, c4⟩ := v
  have hb0 : Below w.heap.size w ((w.alloc (.cells #[.slice A1 n1 c1, .slice A2 n2 c2, .slice A3 n3 c3, .slice A4 n4 c4] 26)).alloc (.cells #[.slice none 0 0, .slice none 0 0, .slice none 0 0, .slice none 0 0] 26)) := ((Below.refl _ _).alloc (Nat.le_refl _) _).alloc (by simp) _
  have hX := (Blk.new w 26 #[.slice A1 n1 c1, .slice A2 n2 c2, .slice A3 n3 c3, .slice A4 n4 c4]).alloc (.cells #[.slice none 0 0, .slice none 0 0, .slice none 0 0, .slice none 0 0] 26)
  have hM := Blk.new (w.alloc (.cells #[.slice A1 n1 c1, .slice A2 n2 c2, .slice A3 n3 c3, .slice A4 n4 c4] 26)) 26 #[.slice none 0 0, .slice none 0 0, .slice none 0 0, .slice none 0 0]
  rw [World.size_alloc] at hM
  obtain ⟨W0, hW0⟩ : ∃ W0, W0 = (w.alloc (.cells #[.slice A1 n1 c1, .slice A2 n2 c2, .slice A3 n3 c3, .slice A4 n4 c4] 26)).alloc (.cells #[.slice none 0 0, .slice none 0 0, .slice none 0 0, .slice none 0 0] 26) := ⟨_, rfl⟩
  have hs0 : W0.heap.size = w.heap.size + 1 + 1 := by rw [hW0]; simp
  rw [← hW0] at hb0 hX hM
  have hN0 := hN.go hb0
  have G1 := refNoteFormed_any ⟨A1, n1, c1, A2, n2, c2, A3, n3, c3, A4, n4, c4⟩ x W0 hN0
  rw [hf] at G1
  dsimp only [NV.val] at G1 ⊢
  have G1 := Lib.hid G1
  have HB := Lib.hid hb0
  have HX := Lib.hid hX
  have HM := Lib.hid hM
  have HW := Lib.hid hW0.symm
  obtain ⟨zz, hii⟩ := zero_of_info notes_zero
  have HI := Lib.hid hii
  obtain ⟨l1, r1, l2, r2, l3, r3, l4, r4⟩ := hN0
  dsimp only at l1 r1 l2 r2 l3 r3 l4 r4
  have GC1 := Lib.hid fun (W : World) (hb : Below W0.heap.size W0 W) => vcopy_any A1 n1 c1 (sv x.s) W (r1.go hb) (sv_oneCell _) (by omega)
  have GC2 := Lib.hid fun (W : World) (hb : Below W0.heap.size W0 W) => vcopy_any A2 n2 c2 (sv x.e) W (r2.go hb) (sv_oneCell _) (by omega)
  have GS1 := Lib.hid fun (W : World) (hb : Below W0.heap.size W0 W) => refSet_any A n c sp W hl ((hR.go hb0).go hb)
  have GS2 := Lib.hid fun (W : World) (hb : Below W0.heap.size W0 W) => refSet_any A3 n3 c3 x.b W l3 (r3.go hb)
  have HR4 := Lib.hid fun (W : World) (hb : Below W0.heap.size W0 W) => r4.go hb
  have HL4 := Lib.hid l4
  have HLL := Lib.hid (And.intro l1 (And.intro l2 l3))
  have HTE := Lib.hid (show x.w.take n4 = x.w from List.take_of_length_le (by omega))
  have HOB := Lib.hid fun (k : Nat) (h : k < x.w.length) => (hob _ (List.getElem_mem h)).1
  have hn4 : n4 ≤ 256 := by omega
  have h1max : 1 ≤ maxLen := by unfold maxLen; omega
  have HS := Lib.hid fun W (hb : Below W0.heap.size W0 W) => (show W.cell? ⟨w.heap.size, 0, none⟩ = some (.slice A1 n1 c1) ∧ W.cell? ⟨w.heap.size, 1, none⟩ = some (.slice A2 n2 c2) from ⟨(hX.go hb).cell 0, (hX.go hb).cell 1⟩)
  clear hf hN hb0 hX hM hW0 hii hmi h1 h2 h3 h4 h5 hob hl hR l1 r1 l2 r2 l3 r3 l4 r4
  go_enter Tryd.func10, Tryd.ntmps10
  go_wp2_with fail
  rw [HW.out]
  obtain ⟨q0, q1, q2, q3⟩ := HX.out.four4
  go_wp2_with fail
  refine G1.out.mono ?_
  rintro e w1 ⟨rfl, hb1⟩
  clear q0 q1 q2 q3
  have k1 := hb1
  go_wp2_with fail
  refine (GS1.out _ k1).mono ?_
  rintro e w2 ⟨rfl, hb2⟩
  have k2 := below_then k1 (Nat.le_refl _) hb2
  have hz := HMI.out
  have hs2 := k2.size
  go_wp2_with (refine wpList_store_blk rfl 57 _ _ rfl w2.heap.size 57 _ (b256 (Sn.setOf sp)) rfl rfl (Blk.new w2 57 (b256 fun _ => false)) (by rw [b256_size]; exact hz) rfl (b256_oneCell _) ?_; intro w3 hk3 hg3; have k3 := (k2.alloc hs2 (.cells (b256 fun _ => false) 57)).trans (grown_below hg3 (by simp; omega) (fun k hk => by cases hk; omega)); have q2 := (HX.out.go k3).cell 2)
  have hs3 : w2.heap.size < w3.heap.size := hk3.lt
  refine (GS2.out _ k3).mono ?_
  rintro e w4 ⟨rfl, hb4⟩
  have k4 := below_then k3 (Nat.le_refl _) hb4
  have hk4 := hk3.go hb4
  have hs4 := hb4.size
  go_upto_region 5 with (refine wpList_store_blk rfl 57 _ _ rfl w4.heap.size 57 _ (b256 (Sn.setOf x.b)) rfl rfl (Blk.new w4 57 (b256 fun _ => false)) (by rw [b256_size]; exact hz) rfl (b256_oneCell _) ?_; intro w5 hk5 hg5)
  have k5 := (k4.alloc k4.size (.cells (b256 fun _ => false) 57)).trans (grown_below hg5 (by have := k4.size; simp; omega) (fun k hk => by cases hk; have := k4.size; omega))
  have hs5 := hk5.lt
  have hk6 := (hk4.alloc (.cells (b256 fun _ => false) 57)).grown hg5 (by simp; omega)
  have kw := k5.drew
  have BI := Lib.hid (show Blk w5.drew w2.heap.size 57 (b256 (Sn.setOf sp)) from hk6.go (Below.refl _ _).drew)
  have BB := Lib.hid (show Blk w5.drew w4.heap.size 57 (b256 (Sn.setOf x.b)) from hk5.go (Below.refl _ _).drew)
  clear q2 hk3 hk4 hk5 hk6 hg3 hg5 hb4 hb2 hb1 k1 k2 k3 k4 k5
  dsimp only [Act.put]
  go_cut [8] (fun v8 wx => ∃ (gX f1 f2 : Nat) (F1 F2 : Option Addr), v8 = .pointer (some ⟨gX, 0, none⟩) ∧ W0.heap.size ≤ gX ∧ Hid (Below W0.heap.size W0 wx ∧ Blk wx w2.heap.size 57 (b256 (Sn.setOf sp)) ∧ Blk wx w4.heap.size 57 (b256 (Sn.setOf x.b)) ∧ NtB wx W0.heap.size gX ⟨F1, n1, f1, F2, n2, f2, none, 0, 0, none, 0, 0⟩ ⟨x.s, x.e, [], []⟩))
  case first =>
    refine region_nrm fun KK hKK => ?_
    refine wp_region_held_drew (S := (fun W => W.cell? ⟨w.heap.size, 0, none⟩ = some (.slice A1 n1 c1) ∧ W.cell? ⟨w.heap.size, 1, none⟩ = some (.slice A2 n2 c2))) (by kernel_rfl) (by first | exact HS.out _ kw) (fun hHeld => ?_)
    refine wpAnyH_putD (i := 0) (d := 19) (v := ?_) rfl rfl (by kernel_rfl) (by kernel_rfl) (by kernel_rfl) (fun _ _ _ h => h) (Or.inl ⟨by kernel_rfl, ?_⟩) (by first | exact HS.out _ kw) ?_
    rotate_left
    · (intro w hS; (try dsimp only at hS); go_simp <;> with_reducible rfl)
    try simp only [List.setIfInBounds_toArray, List.set_cons_zero, List.set_cons_succ]
    refine wpAnyH_putD (i := 1) (d := 20) (v := ?_) rfl rfl (by kernel_rfl) (by kernel_rfl) (by kernel_rfl) (fun _ _ _ h => h) (Or.inl ⟨by kernel_rfl, ?_⟩) (by first | exact HS.out _ kw) ?_
    rotate_left
    · (intro w hS; (try dsimp only at hS); go_simp <;> with_reducible rfl)
    try simp only [List.setIfInBounds_toArray, List.set_cons_zero, List.set_cons_succ]
    refine wpAnyH_putD (i := 3) (d := 22) (v := ?_) rfl rfl (by kernel_rfl) (by kernel_rfl) (by kernel_rfl) (fun _ _ _ h => h) (Or.inl ⟨by kernel_rfl, ?_⟩) (by first | exact HS.out _ kw) ?_
    rotate_left
    · (intro w hS; (try dsimp only at hS); go_simp <;> with_reducible rfl)
    try simp only [List.setIfInBounds_toArray, List.set_cons_zero, List.set_cons_succ]
    refine wpAnyH_putD (i := 4) (d := 23) (v := ?_) rfl rfl (by kernel_rfl) (by kernel_rfl) (by kernel_rfl) (fun _ _ _ h => h) (Or.inl ⟨by kernel_rfl, ?_⟩) (by first | exact HS.out _ kw) ?_
    rotate_left
    · (intro w hS; (try dsimp only at hS); go_simp <;> with_reducible rfl)
    try simp only [List.setIfInBounds_toArray, List.set_cons_zero, List.set_cons_succ]
    refine wpAnyH_ready (rs := [2, 7]) (by kernel_rfl) (by simp) ?_
    refine AllReadyH.cons rfl (fun K hK => ?_) (AllReadyH.cons rfl (fun K hK => ?_) AllReadyH.nil)
    · go_simp
      refine (GC1.out _ kw).mono ?_
      rintro e W1 ⟨F1, f1, rfl, ho, hb'⟩
      have C1 := Lib.hid (own_less ho kw.size)
      have BI := Lib.hid (BI.out.go hb')
      have BB := Lib.hid (BB.out.go hb')
      try (have G := Lib.hid (G.out.go hb'))
      have kw := below_then kw (Nat.le_refl _) hb'
      clear ho hb'
      refine hK.out _ _ (by first | exact HS.out _ kw) (fun hHeld => ?_)
      clear hK K
      refine wpAnyH_ready (rs := [5, 7]) (by kernel_rfl) (by simp) ?_
      refine AllReadyH.cons rfl (fun K hK => ?_) (AllReadyH.cons rfl (fun K hK => ?_) AllReadyH.nil)
      · go_simp
        refine (GC2.out _ kw).mono ?_
        rintro e W2 ⟨F2, f2, rfl, ho, hb'⟩
        have C2 := Lib.hid (own_less ho kw.size)
        have C1 := Lib.hid (own_below C1.out hb' (Nat.le_refl _))
        have BI := Lib.hid (BI.out.go hb')
        have BB := Lib.hid (BB.out.go hb')
        try (have G := Lib.hid (G.out.go hb'))
        have kw := below_then kw (Nat.le_refl _) hb'
        clear ho hb'
        refine hK.out _ _ (by first | exact HS.out _ kw) (fun hHeld => ?_)
        clear hK K
        refine wpAnyH_putD (i := 6) (d := 25) (v := ?_) rfl rfl (by kernel_rfl) (by kernel_rfl) (by kernel_rfl) (fun _ _ _ h => h) (Or.inl ⟨by kernel_rfl, ?_⟩) (by first | exact HS.out _ kw) ?_
        rotate_left
        · (intro w hS; (try dsimp only at hS); go_simp <;> with_reducible rfl)
        try simp only [List.setIfInBounds_toArray, List.set_cons_zero, List.set_cons_succ]
        refine wpAnyH_ready (rs := [7]) (by kernel_rfl) (by simp) ?_
        refine AllReadyH.cons rfl (fun K hK => ?_) AllReadyH.nil
        go_simp
        have hb' := then_alloc kw (.cells #[.slice none 0 0, .slice none 0 0, .slice none 0 0, .slice none 0 0] 26)
        have hge := Lib.hid kw.size
        try (have C1 := Lib.hid (own_below C1.out hb' (Nat.le_refl _)))
        try (have C2 := Lib.hid (own_below C2.out hb' (Nat.le_refl _)))
        have BI := Lib.hid (BI.out.go hb')
        have BB := Lib.hid (BB.out.go hb')
        have G := Lib.hid (blkOfN hb')
        have kw := below_then kw (Nat.le_refl _) hb'
        clear hb'
        refine hK.out _ _ (by first | exact HS.out _ kw) (fun hHeld => ?_)
        clear hK K
        refine wpAnyH_ready (rs := [8]) (by kernel_rfl) (by simp) ?_
        refine AllReadyH.cons rfl (fun K hK => ?_) AllReadyH.nil
        rw [if_pos (by kernel_rfl)]
        refine wp_store_blk 26 (.tmp 8) (.tmp 25) rfl _ 26 _ #[.slice F1 n1 f1, .slice F2 n2 f2, .slice none 0 0, .slice none 0 0] rfl rfl G.out HI.out rfl (by simp [Value.oneCell']) ?_
        intro W hblk hg
        have BI := Lib.hid (BI.out.grown hg (blkNe BI.out G.out (by decide)))
        have BB := Lib.hid (BB.out.grown hg (blkNe BB.out G.out (by decide)))
        have C1 := Lib.hid (C1.out.kept hg (own_blk C1.out G.out (by decide)))
        have C2 := Lib.hid (C2.out.kept hg (own_blk C2.out G.out (by decide)))
        have kw := kw.trans (grown_below hg kw.size (fun j hj => by cases hj; exact hge.out))
        clear hg
        refine hK.out _ _ (by first | exact HS.out _ kw) (fun hHeld => ?_)
        clear hK K
        refine wpAnyH_done (by kernel_rfl) ?_ _
        refine Nrm.out (hKK _ _ ?_)
        go_wp2_with fail
        go_meet
        exact ⟨_, f1, f2, F1, F2, rfl, hge.out, kw, BI.out, BB.out, hblk, ⟨HLL.out.1, C1.out, HLL.out.2.1, C2.out, rfl, World.ownsRow_nil _ _ _ _, rfl, World.ownsRow_nil _ _ _ _⟩⟩
      · go_simp
        have hb' := then_alloc kw (.cells #[.slice none 0 0, .slice none 0 0, .slice none 0 0, .slice none 0 0] 26)
        have hge := Lib.hid kw.size
        try (have C1 := Lib.hid (own_below C1.out hb' (Nat.le_refl _)))
        try (have C2 := Lib.hid (own_below C2.out hb' (Nat.le_refl _)))
        have BI := Lib.hid (BI.out.go hb')
        have BB := Lib.hid (BB.out.go hb')
        have G := Lib.hid (blkOfN hb')
        have kw := below_then kw (Nat.le_refl _) hb'
        clear hb'
        refine hK.out _ _ (by first | exact HS.out _ kw) (fun hHeld => ?_)
        clear hK K
        refine wpAnyH_ready (rs := [5]) (by kernel_rfl) (by simp) ?_
        refine AllReadyH.cons rfl (fun K hK => ?_) AllReadyH.nil
        go_simp
        refine (GC2.out _ kw).mono ?_
        rintro e W2 ⟨F2, f2, rfl, ho, hb'⟩
        have C2 := Lib.hid (own_less ho kw.size)
        have C1 := Lib.hid (own_below C1.out hb' (Nat.le_refl _))
        have BI := Lib.hid (BI.out.go hb')
        have BB := Lib.hid (BB.out.go hb')
        try (have G := Lib.hid (G.out.go hb'))
        have kw := below_then kw (Nat.le_refl _) hb'
        clear ho hb'
        refine hK.out _ _ (by first | exact HS.out _ kw) (fun hHeld => ?_)
        clear hK K
        refine wpAnyH_putD (i := 6) (d := 25) (v := ?_) rfl rfl (by kernel_rfl) (by kernel_rfl) (by kernel_rfl) (fun _ _ _ h => h) (Or.inl ⟨by kernel_rfl, ?_⟩) (by first | exact HS.out _ kw) ?_
        rotate_left
        · (intro w hS; (try dsimp only at hS); go_simp <;> with_reducible rfl)
        try simp only [List.setIfInBounds_toArray, List.set_cons_zero, List.set_cons_succ]
        refine wpAnyH_ready (rs := [8]) (by kernel_rfl) (by simp) ?_
        refine AllReadyH.cons rfl (fun K hK => ?_) AllReadyH.nil
        rw [if_pos (by kernel_rfl)]
        refine wp_store_blk 26 (.tmp 8) (.tmp 25) rfl _ 26 _ #[.slice F1 n1 f1, .slice F2 n2 f2, .slice none 0 0, .slice none 0 0] rfl rfl G.out HI.out rfl (by simp [Value.oneCell']) ?_
        intro W hblk hg
        have BI := Lib.hid (BI.out.grown hg (blkNe BI.out G.out (by decide)))
        have BB := Lib.hid (BB.out.grown hg (blkNe BB.out G.out (by decide)))
        have C1 := Lib.hid (C1.out.kept hg (own_blk C1.out G.out (by decide)))
        have C2 := Lib.hid (C2.out.kept hg (own_blk C2.out G.out (by decide)))
        have kw := kw.trans (grown_below hg kw.size (fun j hj => by cases hj; exact hge.out))
        clear hg
        refine hK.out _ _ (by first | exact HS.out _ kw) (fun hHeld => ?_)
        clear hK K
        refine wpAnyH_done (by kernel_rfl) ?_ _
        refine Nrm.out (hKK _ _ ?_)
        go_wp2_with fail
        go_meet
        exact ⟨_, f1, f2, F1, F2, rfl, hge.out, kw, BI.out, BB.out, hblk, ⟨HLL.out.1, C1.out, HLL.out.2.1, C2.out, rfl, World.ownsRow_nil _ _ _ _, rfl, World.ownsRow_nil _ _ _ _⟩⟩
    · go_simp
      have hb' := then_alloc kw (.cells #[.slice none 0 0, .slice none 0 0, .slice none 0 0, .slice none 0 0] 26)
      have hge := Lib.hid kw.size
      try (have C1 := Lib.hid (own_below C1.out hb' (Nat.le_refl _)))
      try (have C2 := Lib.hid (own_below C2.out hb' (Nat.le_refl _)))
      have BI := Lib.hid (BI.out.go hb')
      have BB := Lib.hid (BB.out.go hb')
      have G := Lib.hid (blkOfN hb')
      have kw := below_then kw (Nat.le_refl _) hb'
      clear hb'
      refine hK.out _ _ (by first | exact HS.out _ kw) (fun hHeld => ?_)
      clear hK K
      refine wpAnyH_ready (rs := [2]) (by kernel_rfl) (by simp) ?_
      refine AllReadyH.cons rfl (fun K hK => ?_) AllReadyH.nil
      go_simp
      refine (GC1.out _ kw).mono ?_
      rintro e W1 ⟨F1, f1, rfl, ho, hb'⟩
      have C1 := Lib.hid (own_less ho kw.size)
      have BI := Lib.hid (BI.out.go hb')
      have BB := Lib.hid (BB.out.go hb')
      try (have G := Lib.hid (G.out.go hb'))
      have kw := below_then kw (Nat.le_refl _) hb'
      clear ho hb'
      refine hK.out _ _ (by first | exact HS.out _ kw) (fun hHeld => ?_)
      clear hK K
      refine wpAnyH_ready (rs := [5]) (by kernel_rfl) (by simp) ?_
      refine AllReadyH.cons rfl (fun K hK => ?_) AllReadyH.nil
      go_simp
      refine (GC2.out _ kw).mono ?_
      rintro e W2 ⟨F2, f2, rfl, ho, hb'⟩
      have C2 := Lib.hid (own_less ho kw.size)
      have C1 := Lib.hid (own_below C1.out hb' (Nat.le_refl _))
      have BI := Lib.hid (BI.out.go hb')
      have BB := Lib.hid (BB.out.go hb')
      try (have G := Lib.hid (G.out.go hb'))
      have kw := below_then kw (Nat.le_refl _) hb'
      clear ho hb'
      refine hK.out _ _ (by first | exact HS.out _ kw) (fun hHeld => ?_)
      clear hK K
      refine wpAnyH_putD (i := 6) (d := 25) (v := ?_) rfl rfl (by kernel_rfl) (by kernel_rfl) (by kernel_rfl) (fun _ _ _ h => h) (Or.inl ⟨by kernel_rfl, ?_⟩) (by first | exact HS.out _ kw) ?_
      rotate_left
      · (intro w hS; (try dsimp only at hS); go_simp <;> with_reducible rfl)
      try simp only [List.setIfInBounds_toArray, List.set_cons_zero, List.set_cons_succ]
      refine wpAnyH_ready (rs := [8]) (by kernel_rfl) (by simp) ?_
      refine AllReadyH.cons rfl (fun K hK => ?_) AllReadyH.nil
      rw [if_pos (by kernel_rfl)]
      refine wp_store_blk 26 (.tmp 8) (.tmp 25) rfl _ 26 _ #[.slice F1 n1 f1, .slice F2 n2 f2, .slice none 0 0, .slice none 0 0] rfl rfl G.out HI.out rfl (by simp [Value.oneCell']) ?_
      intro W hblk hg
      have BI := Lib.hid (BI.out.grown hg (blkNe BI.out G.out (by decide)))
      have BB := Lib.hid (BB.out.grown hg (blkNe BB.out G.out (by decide)))
      have C1 := Lib.hid (C1.out.kept hg (own_blk C1.out G.out (by decide)))
      have C2 := Lib.hid (C2.out.kept hg (own_blk C2.out G.out (by decide)))
      have kw := kw.trans (grown_below hg kw.size (fun j hj => by cases hj; exact hge.out))
      clear hg
      refine hK.out _ _ (by first | exact HS.out _ kw) (fun hHeld => ?_)
      clear hK K
      refine wpAnyH_done (by kernel_rfl) ?_ _
      refine Nrm.out (hKK _ _ ?_)
      go_wp2_with fail
      go_meet
      exact ⟨_, f1, f2, F1, F2, rfl, hge.out, kw, BI.out, BB.out, hblk, ⟨HLL.out.1, C1.out, HLL.out.2.1, C2.out, rfl, World.ownsRow_nil _ _ _ _, rfl, World.ownsRow_nil _ _ _ _⟩⟩
  case rest =>
  obtain ⟨gX, f1, f2, F1, F2, rfl, hge, hh⟩ := hcut
  have HH := Lib.hid hh.out
  clear hh BI BB kw
  have q3 := (HX.out.go HH.out.1).cell 3
  go_wp2_with fail
  go_loopw [9] (fun v9 wr => ∃ (k m d : Nat) (D : Option Addr), v9 = .int .i64 k ∧ k ≤ n4 ∧ m ≤ k ∧ Below W0.heap.size W0 wr ∧ Blk wr w2.heap.size 57 (b256 (Sn.setOf sp)) ∧ Blk wr w4.heap.size 57 (b256 (mk x.b sp (x.w.take k))) ∧ Hid (NtB wr W0.heap.size gX ⟨F1, n1, f1, F2, n2, f2, none, 0, 0, D, m, d⟩ ⟨x.s, x.e, [], seen sp (x.w.take k)⟩)) (fun v9 _ => n4 - (intOf v9).toNat)
  case atStart => exact ⟨0, 0, 0, none, rfl, by omega, by omega, HH.out.1, HH.out.2.1, by rw [b256_congr (q := Sn.setOf x.b) fun o _ => by simp [mk, unseen]]; exact HH.out.2.2.1, HH.out.2.2.2⟩
  case round =>
    obtain ⟨k, m, d, D, rfl, hk, hm, hb, hI, hB, hN⟩ := hrel
    clear q3
    have q3 := (HX.out.go hb).cell 3
    have NX := hN
    have hXl := NX.out.blk.lt
    have BI := Lib.hid hI
    have BB := Lib.hid hB
    have hneI : some w2.heap.size ≠ some gX := blkNe hI NX.out.blk (by decide)
    have hneB : some w4.heap.size ≠ some gX := blkNe hB NX.out.blk (by decide)
    have hl4 := NX.out.own.l4
    dsimp only at hl4
    have HLM := Lib.hid hl4
    clear hI hB hN hl4
    by_cases hlt : k < n4
    · have hkl : k < x.w.length := by rw [HL4.out]; exact hlt
      obtain ⟨bb, oo, hA4, hab, g0, g1, g2, g3⟩ := (HR4.out W0 (Below.refl _ _)).write HL4.out hkl
      try dsimp only at hA4
      subst hA4
      obtain ⟨ho0, ho1⟩ := HOB.out k hkl
      have MS := fun hz => mk_same x.b sp x.w k hkl hz
      have MM := fun mm hz hm => mk_more x.b sp x.w k mm hkl hz hm
      have ST := seen_take sp x.w k hkl
      generalize x.w[k]'hkl = wk at g0 g1 g2 g3 ho0 ho1 MS MM ST
      obtain ⟨⟨ct, nd⟩, ob, gb⟩ := wk
      dsimp only at g0 g1 g2 g3 ho0 ho1 MS MM ST
      obtain ⟨mm, rfl⟩ := Int.eq_ofNat_of_zero_le ho0
      have hmm : mm ≤ 255 := by omega
      have hzz : hasO sp (mm : Int) = Sn.setOf sp mm := by unfold hasO Sn.setOf; simp; intro _; omega
      rw [hzz] at MS MM ST
      have gI := BI.out.cell mm
      rw [b256_at _ _ (by omega)] at gI
      generalize Sn.setOf sp mm = z at gI MS MM ST
      have MS := Lib.hid MS
      have MM := Lib.hid (MM mm)
      have ST := Lib.hid ST
      have HQ := Lib.hid fun V (hv : Below W0.heap.size W0 V) => (show V.cell? ⟨w.heap.size, 3, none⟩ = some (.slice (some ⟨bb, oo, none⟩) n4 c4) ∧ V.cell? ⟨bb, oo + k * 4, none⟩ = some (.int .i64 ct) ∧ V.cell? ⟨bb, oo + k * 4 + 1, none⟩ = some (.int .i64 nd) ∧ V.cell? ⟨bb, oo + k * 4 + 2, none⟩ = some (.int .i64 (mm : Int)) ∧ V.cell? ⟨bb, oo + k * 4 + 3, none⟩ = some (.bool gb) from
        ⟨(HX.out.go hv).cell 3, (hv.cell (p := ⟨bb, oo + k * 4, none⟩) hab).trans g0, (hv.cell (p := ⟨bb, oo + k * 4 + 1, none⟩) hab).trans g1, (hv.cell (p := ⟨bb, oo + k * 4 + 2, none⟩) hab).trans g2, (hv.cell (p := ⟨bb, oo + k * 4 + 3, none⟩) hab).trans g3⟩)
      clear g0 g1 g2 g3 hzz ho0 ho1 hkl
      obtain ⟨q3, g0, g1, g2, g3⟩ := HQ.out wr hb
      have h63 : m + 1 ≤ maxLen := by unfold maxLen; omega
      rcases z with _ | _
      · have gB := BB.out.cell mm
        rw [b256_at _ _ (by omega)] at gB
        have fB := BB.out.frozen mm
        have HB9 := Lib.hid hb
        have hsB := BB.out.lt
        clear hb
        go_wp2
        go_roundw
        case rel =>
          refine ⟨k + 1, m, d, D, by go_num, by omega, by omega, HB9.out.setCell (p := ⟨w4.heap.size, mm, none⟩) (by show W0.heap.size ≤ w4.heap.size; omega) _, BI.out.grown (set_gr _ _ _ _) (by simp; omega), ?_, ?_⟩
          · rw [← b256_congr fun o _ => MM.out rfl rfl o, ← b256_set _ _ _ (by omega)]
            exact BB.out.set_ mm _
          · show NtB _ _ _ _ _
            rw [ST.out]
            simp only [if_false, Bool.false_eq_true]
            exact NX.out.gr BB.out (by decide) (by decide) (by decide) (fun e => hneB (by rw [e])) (set_gr _ _ _ _)
        case measure => simp [intOf]; omega
      · have kw := hb.drew
        have NW := NX
        have NX := Lib.hid (NX.out.go (Below.refl wr.heap.size wr).drew)
        have BI := Lib.hid (BI.out.go (Below.refl wr.heap.size wr).drew)
        have BB := Lib.hid (BB.out.go (Below.refl wr.heap.size wr).drew)
        clear hb
        go_wp2_with fail
        clear q3 g0 g1 g2 g3
        refine region_nrm fun KK hKK => ?_
        refine wp_region_held_drew (S := (fun V => V.cell? ⟨w.heap.size, 3, none⟩ = some (.slice (some ⟨bb, oo, none⟩) n4 c4) ∧ V.cell? ⟨bb, oo + k * 4, none⟩ = some (.int .i64 ct) ∧ V.cell? ⟨bb, oo + k * 4 + 1, none⟩ = some (.int .i64 nd) ∧ V.cell? ⟨bb, oo + k * 4 + 2, none⟩ = some (.int .i64 (mm : Int)) ∧ V.cell? ⟨bb, oo + k * 4 + 3, none⟩ = some (.bool gb))) (by kernel_rfl) (by first | exact HQ.out _ kw) (fun hHeld => ?_)
        refine wpAnyH_putD (i := 0) (d := 41) (v := ?_) rfl rfl (by kernel_rfl) (by kernel_rfl) (by kernel_rfl) (fun _ _ _ h => h) (Or.inl ⟨by kernel_rfl, ?_⟩) (by first | exact HQ.out _ kw) ?_
        rotate_left
        · (intro w hS; (try dsimp only at hS); go_simp <;> with_reducible rfl)
        try simp only [List.setIfInBounds_toArray, List.set_cons_zero, List.set_cons_succ]
        refine wpAnyH_putD (i := 2) (d := 43) (v := ?_) rfl rfl (by kernel_rfl) (by kernel_rfl) (by kernel_rfl) (fun _ _ _ h => h) (Or.inl ⟨by kernel_rfl, ?_⟩) (by first | exact HQ.out _ kw) ?_
        rotate_left
        · (intro w hS; (try dsimp only at hS); go_simp <;> with_reducible rfl)
        try simp only [List.setIfInBounds_toArray, List.set_cons_zero, List.set_cons_succ]
        refine wpAnyH_putD (i := 3) (d := 44) (v := ?_) rfl rfl (by kernel_rfl) (by kernel_rfl) (by kernel_rfl) (fun _ _ _ h => h) (Or.inl ⟨by kernel_rfl, ?_⟩) (by first | exact HQ.out _ kw) ?_
        rotate_left
        · (intro w hS; (try dsimp only at hS); go_simp <;> with_reducible rfl)
        try simp only [List.setIfInBounds_toArray, List.set_cons_zero, List.set_cons_succ]
        refine wpAnyH_putD (i := 4) (d := 45) (v := ?_) rfl rfl (by kernel_rfl) (by kernel_rfl) (by kernel_rfl) (fun _ _ _ h => h) (Or.inl ⟨by kernel_rfl, ?_⟩) (by first | exact HQ.out _ kw) ?_
        rotate_left
        · (intro w hS; (try dsimp only at hS); go_simp <;> with_reducible rfl)
        try simp only [List.setIfInBounds_toArray, List.set_cons_zero, List.set_cons_succ]
        refine wpAnyH_putD (i := 5) (d := 46) (v := ?_) rfl rfl (by kernel_rfl) (by kernel_rfl) (by kernel_rfl) (fun _ _ _ h => h) (Or.inl ⟨by kernel_rfl, ?_⟩) (by first | exact HQ.out _ kw) ?_
        rotate_left
        · (intro w hS; (try dsimp only at hS); go_simp <;> with_reducible rfl)
        try simp only [List.setIfInBounds_toArray, List.set_cons_zero, List.set_cons_succ]
        refine wpAnyH_putD (i := 6) (d := 47) (v := ?_) rfl rfl (by kernel_rfl) (by kernel_rfl) (by kernel_rfl) (fun _ _ _ h => h) (Or.inl ⟨by kernel_rfl, ?_⟩) (by first | exact HQ.out _ kw) ?_
        rotate_left
        · (intro w hS; (try dsimp only at hS); go_simp <;> with_reducible rfl)
        try simp only [List.setIfInBounds_toArray, List.set_cons_zero, List.set_cons_succ]
        refine wpAnyH_ready (rs := [1, 7]) (by kernel_rfl) (by simp) ?_
        refine AllReadyH.cons rfl (fun K hK => ?_) (AllReadyH.cons rfl (fun K hK => ?_) AllReadyH.nil)
        · have qg := NX.out.blk.cell 3
          have qg2 := NW.out.blk.cell 3
          go_simp
          clear qg qg2
          refine hK.out _ _ (by first | exact HQ.out _ kw) (fun hHeld => ?_)
          clear hK K
          refine wpAnyH_ready (rs := [7]) (by kernel_rfl) (by simp) ?_
          refine AllReadyH.cons rfl (fun K hK => ?_) AllReadyH.nil
          go_simp
          have hb' := then_alloc kw (.cells #[.int .i64 ct, .int .i64 nd, .int .i64 (mm : Int), .bool gb] 46)
          have RN := Lib.hid (newRowT 4 1 hb' rfl h1max)
          have NX := Lib.hid (NX.out.go hb')
          have BI := Lib.hid (BI.out.go hb')
          have BB := Lib.hid (BB.out.go hb')
          have kw := below_then kw (Nat.le_refl _) hb'
          clear hb'
          refine hK.out _ _ (by first | exact HQ.out _ kw) (fun hHeld => ?_)
          clear hK K
          refine wpAnyH_ready (rs := [8]) (by kernel_rfl) (by simp) ?_
          refine AllReadyH.cons rfl (fun K hK => ?_) AllReadyH.nil
          rw [if_pos (by kernel_rfl)]
          refine wp_append_rd _ (.tmp 42) (.tmp 48) _ rfl W0.heap.size 46 i0 _ 4 32 Tryd.underlying24 hi0 hz0 hz1 hz2 rfl (by decide) (.slice D m d) m _ rfl NX.out.own.o4 _ _ 1 1 _ rfl RN.out (wv_oneCell [((ct, nd), (mm : Int), gb)]) h63 (by omega) kw.size ?_
          intro D2 d2 W ho hg hat
          have XB := Lib.hid (NX.out.blk.grown hg (gr_ne NX.out.blk NX.out.own.o4 (by decide)))
          have NP := Lib.hid (NtB.push NX.out hg (y := seen sp (x.w.take k) ++ [((ct, nd), (mm : Int), gb)]) (by rw [List.length_append, HLM.out] <;> rfl) (by rw [wv_app]; exact ho))
          have BI := Lib.hid (BI.out.grown hg (gr_ne BI.out NX.out.own.o4 (by decide)))
          have BB := Lib.hid (BB.out.grown hg (gr_ne BB.out NX.out.own.o4 (by decide)))
          have kw := kw.trans (grown_below hg kw.size (fun j hj => own_lt NX.out.own.o4 j hj))
          clear ho hg hat RN
          refine hK.out _ _ (by first | exact HQ.out _ kw) (fun hHeld => ?_)
          clear hK K
          refine wpAnyH_putD (i := 9) (d := 50) (v := ?_) rfl rfl (by kernel_rfl) (by kernel_rfl) (by kernel_rfl) (fun _ _ _ h => h) (Or.inl ⟨by kernel_rfl, ?_⟩) (by first | exact HQ.out _ kw) ?_
          rotate_left
          · (intro w hS; (try dsimp only at hS); go_simp <;> with_reducible rfl)
          try simp only [List.setIfInBounds_toArray, List.set_cons_zero, List.set_cons_succ]
          refine wpAnyH_ready (rs := [10]) (by kernel_rfl) (by simp) ?_
          refine AllReadyH.cons rfl (fun K hK => ?_) AllReadyH.nil
          have qg := XB.out.cell 3
          have qf := XB.out.frozen 3
          go_simp
          clear qg qf
          have kw := kw.setCell (p := ⟨gX, 3, none⟩) hge (.slice D2 (m + 1) d2)
          have BI := Lib.hid (BI.out.grown (set_gr _ gX 3 (.slice D2 (m + 1) d2)) hneI)
          have BB := Lib.hid (BB.out.grown (set_gr _ gX 3 (.slice D2 (m + 1) d2)) hneB)
          refine hK.out _ _ (by first | exact HQ.out _ kw) (fun hHeld => ?_)
          clear hK K
          refine wpAnyH_done (by kernel_rfl) ?_ _
          refine Nrm.out (hKK _ _ ?_)
          go_wp2
          go_roundw
          case rel =>
            refine ⟨k + 1, m + 1, d2, D2, by go_num, by omega, by omega, kw, BI.out, ?_, ?_⟩
            · rw [b256_congr fun o _ => MS.out (by first | rfl | trivial) o]; exact BB.out
            · show NtB _ _ _ _ _
              rw [ST.out]
              simp only [if_true]
              exact NP.out
          case measure => simp [intOf]; omega
        · go_simp
          have hb' := then_alloc kw (.cells #[.int .i64 ct, .int .i64 nd, .int .i64 (mm : Int), .bool gb] 46)
          have RN := Lib.hid (newRowT 4 1 hb' rfl h1max)
          have NX := Lib.hid (NX.out.go hb')
          have BI := Lib.hid (BI.out.go hb')
          have BB := Lib.hid (BB.out.go hb')
          have kw := below_then kw (Nat.le_refl _) hb'
          clear hb'
          refine hK.out _ _ (by first | exact HQ.out _ kw) (fun hHeld => ?_)
          clear hK K
          refine wpAnyH_ready (rs := [1]) (by kernel_rfl) (by simp) ?_
          refine AllReadyH.cons rfl (fun K hK => ?_) AllReadyH.nil
          have qg := NX.out.blk.cell 3
          have qg2 := NW.out.blk.cell 3
          go_simp
          clear qg qg2
          refine hK.out _ _ (by first | exact HQ.out _ kw) (fun hHeld => ?_)
          clear hK K
          refine wpAnyH_ready (rs := [8]) (by kernel_rfl) (by simp) ?_
          refine AllReadyH.cons rfl (fun K hK => ?_) AllReadyH.nil
          rw [if_pos (by kernel_rfl)]
          refine wp_append_rd _ (.tmp 42) (.tmp 48) _ rfl W0.heap.size 46 i0 _ 4 32 Tryd.underlying24 hi0 hz0 hz1 hz2 rfl (by decide) (.slice D m d) m _ rfl NX.out.own.o4 _ _ 1 1 _ rfl RN.out (wv_oneCell [((ct, nd), (mm : Int), gb)]) h63 (by omega) kw.size ?_
          intro D2 d2 W ho hg hat
          have XB := Lib.hid (NX.out.blk.grown hg (gr_ne NX.out.blk NX.out.own.o4 (by decide)))
          have NP := Lib.hid (NtB.push NX.out hg (y := seen sp (x.w.take k) ++ [((ct, nd), (mm : Int), gb)]) (by rw [List.length_append, HLM.out] <;> rfl) (by rw [wv_app]; exact ho))
          have BI := Lib.hid (BI.out.grown hg (gr_ne BI.out NX.out.own.o4 (by decide)))
          have BB := Lib.hid (BB.out.grown hg (gr_ne BB.out NX.out.own.o4 (by decide)))
          have kw := kw.trans (grown_below hg kw.size (fun j hj => own_lt NX.out.own.o4 j hj))
          clear ho hg hat RN
          refine hK.out _ _ (by first | exact HQ.out _ kw) (fun hHeld => ?_)
          clear hK K
          refine wpAnyH_putD (i := 9) (d := 50) (v := ?_) rfl rfl (by kernel_rfl) (by kernel_rfl) (by kernel_rfl) (fun _ _ _ h => h) (Or.inl ⟨by kernel_rfl, ?_⟩) (by first | exact HQ.out _ kw) ?_
          rotate_left
          · (intro w hS; (try dsimp only at hS); go_simp <;> with_reducible rfl)
          try simp only [List.setIfInBounds_toArray, List.set_cons_zero, List.set_cons_succ]
          refine wpAnyH_ready (rs := [10]) (by kernel_rfl) (by simp) ?_
          refine AllReadyH.cons rfl (fun K hK => ?_) AllReadyH.nil
          have qg := XB.out.cell 3
          have qf := XB.out.frozen 3
          go_simp
          clear qg qf
          have kw := kw.setCell (p := ⟨gX, 3, none⟩) hge (.slice D2 (m + 1) d2)
          have BI := Lib.hid (BI.out.grown (set_gr _ gX 3 (.slice D2 (m + 1) d2)) hneI)
          have BB := Lib.hid (BB.out.grown (set_gr _ gX 3 (.slice D2 (m + 1) d2)) hneB)
          refine hK.out _ _ (by first | exact HQ.out _ kw) (fun hHeld => ?_)
          clear hK K
          refine wpAnyH_done (by kernel_rfl) ?_ _
          refine Nrm.out (hKK _ _ ?_)
          go_wp2
          go_roundw
          case rel =>
            refine ⟨k + 1, m + 1, d2, D2, by go_num, by omega, by omega, kw, BI.out, ?_, ?_⟩
            · rw [b256_congr fun o _ => MS.out (by first | rfl | trivial) o]; exact BB.out
            · show NtB _ _ _ _ _
              rw [ST.out]
              simp only [if_true]
              exact NP.out
          case measure => simp [intOf]; omega
    · obtain rfl : k = n4 := by omega
      rw [HTE.out] at NX BB
      have HB9 := Lib.hid hb
      have HE := Lib.hid (mk_end x sp)
      generalize mk x.b sp x.w = p at BB HE
      clear hb
      go_wp2_with (first
        | (refine wpList_load_row rfl 57 _ rfl w4.heap.size rfl 57 _ _ _ BB.out Tryd.underlying57 rfl (by rw [b256_size]; exact HMI.out) ?_)
        | (go_at_call 30; go_must (refine (refOfS_any _ _).mono ?_); rintro e w6 ⟨A6, c6, rfl, ho6, hb6⟩; have k6 := below_then HB9.out (Nat.le_refl _) hb6; have NX6 := NX.out.go hb6; have xf2 := NX6.blk.frozen 2; have xc2 := NX6.blk.cell 2; have NX7 := NX6.set2 rfl (own_less ho6 HB9.out.size); obtain ⟨y0, y1, y2, y3⟩ := NX7.blk.four4; have k7 := k6.setCell (p := ⟨gX, 2, none⟩) hge (.slice A6 (Sn.of p).length c6); have hM7 := HM.out.go k7)
        | (refine wpList_store_blk rfl 26 _ _ rfl (w.heap.size + 1) 26 _ #[.slice F1 n1 f1, .slice F2 n2 f2, .slice A6 (Sn.of p).length c6, .slice D m d] rfl rfl hM7 HI.out rfl (by simp [Value.oneCell']) ?_; intro W hblk hg)
        | fail)
      have e4 := HE.out
      have NO := NX7.own.blk hM7 (by decide) (by decide) (by decide) hg
      refine bodyPost_ret (res_ct rfl _ _ (w.heap.size + 1) 26 _ _ _ rfl hblk Tryd.underlying26 rfl (by kernel_rfl)) rfl ⟨⟨F1, n1, f1, F2, n2, f2, A6, (Sn.of p).length, c6, D, m, d⟩, rfl, ?_, (below_then HB.out (Nat.le_refl _) k7).trans (grown_below hg (by have := k7.size; omega) (fun j hj => by cases hj; omega))⟩
      have NO := NO.less (show w.heap.size ≤ W0.heap.size by omega)
      rw [show thru x sp = ⟨x.s, x.e, Sn.of p, seen sp x.w⟩ from by rw [e4]; rfl]
      exact NO
end Go.Proofs.YtnibkniggiokkaaDoor
