/- Walks: script.Encode, the document's Encode. -/
import Derived.Test.YtldcgmnfohhjbacScA
import Derived.Test.YtldcgmnfohhjbacWrE
namespace Go.Proofs.Ytldcgmnfohhjbac
open Go.RowKit
set_option maxRecDepth 100000

/-- What an encoding hands back: the bytes, or the error. -/
def EncP (w : World) (ok : Bool) (bs : List UInt8) (e : Ending) (w' : World) : Prop :=
  (ok = true ∧ ∃ v, e = .returned (.tuple #[v, .int .i64 0]) ∧ BytesAre w.heap.size w bs v w') ∨ (ok = false ∧ e = .returned (.tuple #[.slice none 0 0, .int .i64 1]) ∧ Below w.heap.size w w')

theorem index5 (a b c d e : Int) (k : Nat) (h : k < 5) : ∃ y : Int, [a, b, c, d, e][k]? = some y ∧
    ∀ W, (Instr.index 49 (.agg #[.int .i64 a, .int .i64 b, .int .i64 c, .int .i64 d, .int .i64 e]) (.int .i64 (k : Int))).run Try.prog W = .ok (.int .i64 y) W := by
  have h' : k = 0 ∨ k = 1 ∨ k = 2 ∨ k = 3 ∨ k = 4 := by omega
  rcases h' with rfl | rfl | rfl | rfl | rfl
  · exact ⟨a, rfl, fun _ => by kernel_rfl⟩
  · exact ⟨b, rfl, fun _ => by kernel_rfl⟩
  · exact ⟨c, rfl, fun _ => by kernel_rfl⟩
  · exact ⟨d, rfl, fun _ => by kernel_rfl⟩
  · exact ⟨e, rfl, fun _ => by kernel_rfl⟩

def five (x : Sc.Stp) : List Int := [x.kind, x.a, x.b, x.obj, x.n]
theorem five_u63 {x : Sc.Stp} (h : Sc.fmP x) (hs : Sc.small x) : ∀ y ∈ five x, Wq.u63 y := by
  obtain ⟨h1, h2, h3, h4, h5, h6, h7, h8⟩ := h
  obtain ⟨s1, s2, s3, s4⟩ := hs
  intro y hy
  simp only [five, List.mem_cons, List.not_mem_nil, or_false] at hy
  rcases hy with rfl | rfl | rfl | rfl | rfl
  · exact ⟨by omega, by omega⟩
  · exact ⟨h3, s1⟩
  · exact ⟨h4, s2⟩
  · exact ⟨h5, s3⟩
  · exact ⟨h6, s4⟩
theorem enc_eq (x : Sc.Stp) : layAll (five x) ++ Wq.lS x.s ++ Pk.lay x.v.length ++ x.v = Sc.enc x := by
  simp [layAll, five, Sc.enc, Wq.lR]
theorem fmB_iff {x : Sc.Stp} : Sc.fmB x = true ↔ Sc.fmP x := by unfold Sc.fmB; exact decide_eq_true_iff

set_option maxHeartbeats 4000000 in
/-- script.Encode. -/
theorem scEncode_any (v : SV) (x : Sc.Stp) (w : World) (h : StpRd w w.heap.size v x) (hs : Sc.small x) :
    Calls Try.prog 9 #[.agg (v.val x)] w (EncP w (Sc.fmB x) (Sc.enc x)) := by
  have hb0 : Below w.heap.size w (w.alloc (.cells (v.val x) 25)) := (Below.refl _ _).alloc (Nat.le_refl _) _
  have hx0 := Blk.new w 25 (v.val x)
  have hP0 := h.go hb0
  have G1 := Lib.hid (scFormed_any v x _ hP0)
  have HB := Lib.hid hb0
  have HX0 := Lib.hid hx0
  rcases hf : Sc.fmB x with _ | _
  · rw [hf] at G1
    clear h hP0 hf hb0 hx0
    go_enter Try.func9, Try.ntmps9
    go_wp2_with fail
    refine G1.out.mono ?_
    rintro e w1 ⟨rfl, hb1⟩
    go_wp2
    go_ret2
    exact .inr ⟨rfl, rfl, below_then HB.out (Nat.le_refl _) hb1⟩
  · rw [hf] at G1
    have hfm := fmB_iff.1 hf
    have HFM := Lib.hid hfm
    have HU := Lib.hid (five_u63 hfm hs)
    have HLA := Lib.hid (layAll_len (five x) (five_u63 hfm hs))
    have HE := Lib.hid (enc_eq x)
    have HI := Lib.hid (index5 x.kind x.a x.b x.obj x.n)
    have HS := Lib.hid h
    clear h hP0 hf hb0 hx0 hfm
    obtain ⟨A1, n1, c1, A2, n2, c2⟩ := v
    go_enter Try.func9, Try.ntmps9
    go_wp2_with fail
    refine G1.out.mono ?_
    rintro e w1 ⟨rfl, hb1⟩
    have hX1 := HX0.out.go hb1
    have q0 := hX1.cell 0
    have q1 := hX1.cell 1
    have q2 := hX1.cell 2
    have q3 := hX1.cell 3
    have q4 := hX1.cell 4
    have hbw1 := below_then HB.out (Nat.le_refl _) hb1
    have hs1 := hb1.size
    rw [World.size_alloc] at hs1
    clear G1 hb1
    go_wp2_with fail
    go_loopw [4, 6, 21] (fun v4 _ v21 wr => ∃ (k N c' : Nat) (A' : Option Addr), v21 = .int .i64 k ∧ v4 = .slice A' N c' ∧ k ≤ 5 ∧ N ≤ 9 * k ∧ wr.ownsRow (w.heap.size + 1) 5 1 (.slice A' N c') N (bv (layAll ((five x).take k))) ∧ Below w.heap.size w wr ∧
      Below (w.heap.size + 1) w1 wr ∧ Hid ((layAll ((five x).take k)).length = N)) (fun _ _ v21 _ => 5 - (intOf v21).toNat)
    case atStart => exact ⟨0, 0, 0, none, rfl, rfl, by omega, by omega, World.ownsRow_nil _ _ _ _, hbw1, Below.refl _ _, rfl⟩
    case round =>
      obtain ⟨k, N, c', A', rfl, rfl, hk, hN, ho, hb, hbx, hq⟩ := hrel
      have hbs := hb.size
      have hbxs := hbx.size
      by_cases hlt : k < 5
      · obtain ⟨y, hy1, hy2⟩ := HI.out k hlt
        have hkx : k < (five x).length := hlt
        have hyk : (five x)[k] = y := by
          have h := List.getElem?_eq_getElem hkx
          unfold five at h
          rw [hy1] at h
          exact (Option.some.inj h).symm
        have hyu : Wq.u63 y := by rw [← hyk]; exact HU.out _ (List.getElem_mem hkx)
        have ht := layAll_take (five x) k hkx
        rw [hyk] at ht
        have HT := Lib.hid ht
        have hy9 := u63_len hyu
        obtain ⟨z, hz⟩ : ∃ z : Nat, y = (z : Int) := ⟨y.toNat, by have := hyu.1; omega⟩
        subst hz
        rw [Int.toNat_natCast] at HT hy9
        have G := Lib.hid (appendNumber_any A' N c' z (layAll ((five x).take k)) wr hq.out (Rd.of_own ho) (by omega) hy9)
        obtain ⟨ly, hly⟩ : ∃ ly, ly = (Pk.lay z).length := ⟨_, rfl⟩
        rw [← hly] at G hy9
        have HLY := Lib.hid hly
        clear ht hyk hkx hyu hly hy1 ho q0 q1 q2 q3 q4
        go_wp2_with fail
        refine G.out.mono ?_
        rintro e w2 ⟨A2', c3, rfl, ho2, hb2⟩
        go_wp2
        go_roundw
        case rel =>
          refine ⟨k + 1, N + ly, c3, A2', by go_num, rfl, by omega, by omega, by rw [HT.out]; exact own_less ho2 (by omega), below_then hb (Nat.le_refl _) hb2, hbx.trans (hb2.mono (by omega)), ?_⟩
          show _ = _
          rw [HT.out, List.length_append, hq.out, HLY.out]
        case measure => simp [intOf]; omega
      · obtain rfl : k = 5 := by omega
        have e0 : (five x).take 5 = five x := rfl
        rw [e0] at ho hq
        have hXr := hX1.below hbx (by omega)
        have q5 := hXr.cell 5
        have q6 := hXr.cell 6
        have HXr := Lib.hid hXr
        have hSr := HS.out.go hb
        obtain ⟨f1, f2, f3, f4, f5, f6, f7, f8⟩ := HFM.out
        have G := Lib.hid (appendSet_any A' A1 N c' n1 c1 (layAll (five x)) x.s wr hq.out (Rd.of_own ho) hSr.l1 hSr.r1 f7 (by omega))
        have hn2 : n2 ≤ 256 := by have := hSr.l2; simp only at this; omega
        have hln := Wq.lS_len f7
        have HQ2 := Lib.hid hSr.l2
        have HR2 := Lib.hid hSr.r2
        obtain ⟨l2, hl2⟩ : ∃ l2, l2 = layAll (five x) ++ Wq.lS x.s := ⟨_, rfl⟩
        have hl2n : l2.length ≤ 559 := by rw [hl2, List.length_append, hq.out]; omega
        have HL2 := Lib.hid hl2
        rw [← hl2] at G
        obtain ⟨n3, hn3⟩ : ∃ n3, n3 = l2.length := ⟨_, rfl⟩
        rw [← hn3] at hl2n
        unfold BytesAre at G
        rw [← hn3] at G
        have HN3 := Lib.hid hn3
        clear f1 f2 f3 f4 f5 f6 f7 f8 hXr hSr hl2 hn3 ho q0 q1 q2 q3 q4 hln
        go_wp2_with fail
        refine G.out.mono ?_
        rintro e w3 ⟨v3, rfl, A3, c3, rfl, ho3, hb3⟩
        have hb4 := below_then hb (Nat.le_refl _) hb3
        have q6 := (HXr.out.go hb3).cell 6
        have hR3 := HR2.out.go hb3
        have G2 := Lib.hid (appendRow_any A3 A2 n3 c3 n2 c2 l2 x.v w3 HN3.out.symm (Rd.of_own ho3) hR3 (by omega))
        clear G hb3 ho3 hR3
        go_wp2_with fail
        refine G2.out.mono ?_
        rintro e w5 ⟨A5, c5, rfl, ho5, hb5⟩
        have hb6 := below_then hb4 (Nat.le_refl _) hb5
        go_wp2
        go_ret2
        have e1 : l2 ++ Pk.lay n2 ++ x.v = Sc.enc x := by rw [HL2.out, ← HQ2.out, HE.out]
        have e2 : n3 + (Pk.lay n2).length + n2 = (Sc.enc x).length := by
          rw [← e1, List.length_append, List.length_append, HN3.out, HQ2.out]
        rw [e1] at ho5
        exact .inl ⟨rfl, _, rfl, A5, c5, by rw [← e2]; rfl, by rw [← e2]; exact own_less ho5 hb4.size, hb6⟩
end Go.Proofs.Ytldcgmnfohhjbac
