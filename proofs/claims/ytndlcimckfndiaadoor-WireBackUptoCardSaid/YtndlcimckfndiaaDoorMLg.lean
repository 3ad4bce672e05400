/- Texts of one layer in one file: LgA, LgB, LgC, LgD, LgE. -/
import Derived.Test.YtndlcimckfndiaaDoorNtC
import Derived.Test.YtndlcimckfndiaaDoorMVec
import Derived.Test.YtndlcimckfndiaaDoorNtD
import Derived.Test.YtndlcimckfndiaaDoorNtB
namespace Go.Proofs.YtndlcimckfndiaaDoor
open Go.RowKit
set_option maxRecDepth 100000

/-- What is known behind notes; none: a note isn't as it must be. -/
def lgW : List Vc.St → List Nt → Option (List Vc.St)
  | k, [] => some k
  | k, x :: r => if (ntF x && ntFits x k) = true then lgW (vec (jn [k, x.e])) r else none
theorem lgW_end {k : List Vc.St} {l : List Nt} {i : Nat} (h : l.length ≤ i) : lgW k (l.drop i) = some k := by rw [List.drop_of_length_le h]; rfl
theorem lgW_no {k : List Vc.St} {l : List Nt} {i : Nat} (h : i < l.length) (hf : (ntF l[i] && ntFits l[i] k) = false) : lgW k (l.drop i) = none := by
  rw [List.drop_eq_getElem_cons h, lgW, hf]; rfl
theorem lgW_next {k : List Vc.St} {l : List Nt} {i : Nat} (h : i < l.length) (hf : (ntF l[i] && ntFits l[i] k) = true) : lgW k (l.drop i) = lgW (vec (jn [k, l[i].e])) (l.drop (i + 1)) := by
  rw [List.drop_eq_getElem_cons h, lgW, if_pos hf]

/-- Notes as cells. -/
def nvv (L : List (NV × Nt)) : List Value := L.flatMap fun p => p.1.val.toList
theorem nvv_at (L : List (NV × Nt)) (k : Nat) (h : k < L.length) (j : Nat) (hj : j < 4) : (nvv L)[k * 4 + j]? = ((L[k].1.val).toList)[j]? := flat_at (fun p : NV × Nt => p.1.val.toList) 4 (by decide) L (fun _ _ => rfl) k h j hj
/-- A slice of notes. -/
structure RdNs (w : World) (B : Nat) (A : Option Addr) (n c : Nat) (L : List (NV × Nt)) : Prop where
  len : L.length = n
  rd : Rd w B 4 A n c (nvv L)
  each : ∀ p ∈ L, NtRd w B p.1 p.2
theorem RdNs.go {w w' : World} {A : Option Addr} {n c : Nat} {L : List (NV × Nt)} (h : RdNs w w.heap.size A n c L) (hb : Below w.heap.size w w') : RdNs w' w'.heap.size A n c L := ⟨h.len, h.rd.go hb, fun p hp => (h.each p hp).go hb⟩
theorem RdNs.note {w : World} {B n c k : Nat} {A : Option Addr} {L : List (NV × Nt)} (h : RdNs w B A n c L) (hk : k < L.length) :
    ∃ b o, A = some ⟨b, o, none⟩ ∧ b < B ∧ w.cell? ⟨b, o + k * 4, none⟩ = some (.slice L[k].1.A1 L[k].1.n1 L[k].1.c1) ∧ w.cell? ⟨b, o + k * 4 + 1, none⟩ = some (.slice L[k].1.A2 L[k].1.n2 L[k].1.c2) ∧
      w.cell? ⟨b, o + k * 4 + 2, none⟩ = some (.slice L[k].1.A3 L[k].1.n3 L[k].1.c3) ∧ w.cell? ⟨b, o + k * 4 + 3, none⟩ = some (.slice L[k].1.A4 L[k].1.n4 L[k].1.c4) := by
  have hl := h.len
  obtain ⟨b, o, rfl, hb, hc⟩ := h.rd.plain (by omega) (by decide)
  have e : ∀ j, j < 4 → ∀ u, ((L[k].1.val).toList)[j]? = some u → w.cell? ⟨b, o + k * 4 + j, none⟩ = some u := fun j hj u hu => by
    rw [Nat.add_assoc]
    exact hc (k * 4 + j) u (by rw [nvv_at L k hk j hj, hu])
  exact ⟨b, o, rfl, hb, e 0 (by decide) _ rfl, e 1 (by decide) _ rfl, e 2 (by decide) _ rfl, e 3 (by decide) _ rfl⟩
def nts (L : List (NV × Nt)) : List Nt := L.map (·.2)

/-- A log's value. -/
structure LV where
  A : Option Addr
  n : Nat
  c : Nat
  D : Option Addr
  m : Nat
  d : Nat
abbrev LV.val (v : LV) (su : Int) : Array Value := #[.slice v.A v.n v.c, .slice v.D v.m v.d, .int .i64 su]
/-- A value reads as a log: its base, its notes. -/
structure LgRd (w : World) (v : LV) (b : List Vc.St) (L : List (NV × Nt)) : Prop where
  l1 : b.length = v.n
  r1 : Rd w w.heap.size 2 v.A v.n v.c (sv b)
  ns : RdNs w w.heap.size v.D v.m v.d L
theorem LgRd.go {w w' : World} {v : LV} {b : List Vc.St} {L : List (NV × Nt)} (h : LgRd w v b L) (hb : Below w.heap.size w w') : LgRd w' v b L := ⟨h.l1, h.r1.go hb, h.ns.go hb⟩

theorem RdL.one {w : World} {A : Option Addr} {n c : Nat} {u : List Vc.St} (hl : u.length = n) (hR : Rd w w.heap.size 2 A n c (sv u)) (t : TypeId) :
    RdL (w.alloc (.cells #[.slice A n c] t)) (w.alloc (.cells #[.slice A n c] t)).heap.size (some ⟨w.heap.size, 0, none⟩) 1 1 [u] := by
  have hb : Below w.heap.size w (w.alloc (.cells #[.slice A n c] t)) := (Below.refl _ _).alloc (Nat.le_refl _) _
  have hB := Blk.new w t #[.slice A n c]
  refine ⟨rfl, Nat.le_refl _, by simp [maxLen], (fun h => by cases h), fun k hk => ?_⟩
  rcases k with _ | k
  · exact ⟨w.heap.size, 0, A, n, c, rfl, by simp, hB.cell 0, hl, hR.go hb⟩
  · simp only [List.length_cons, List.length_nil] at hk; omega
/-- What invlog.walk hands back. -/
def WalkP (w : World) (b : List Vc.St) (L : List (NV × Nt)) (su : Int) (e : Ending) (w' : World) : Prop :=
  (∃ q K c, lgW (vec (jn [b])) (nts L) = some q ∧ e = .returned (.tuple #[.slice K q.length c, .bool (fm (-1) b && (decide (0 ≤ su) && decide (su ≤ L.length)))]) ∧ Rd w' w'.heap.size 2 K q.length c (sv q) ∧ Below w.heap.size w w') ∨
  (lgW (vec (jn [b])) (nts L) = none ∧ e = .returned (.tuple #[.slice none 0 0, .bool false]) ∧ Below w.heap.size w w')

end Go.Proofs.YtndlcimckfndiaaDoor

namespace Go.Proofs.YtndlcimckfndiaaDoor
open Go.RowKit
set_option maxRecDepth 100000

/-- Is a log formed? What is known behind it. -/
def lgF (b : List Vc.St) (L : List (NV × Nt)) (su : Int) : Bool := (lgW (vec (jn [b])) (nts L)).isSome && (fm (-1) b && (decide (0 ≤ su) && decide (su ≤ L.length)))
/-- What is known behind a log, or nothing. -/
def KnownP (w : World) (b : List Vc.St) (L : List (NV × Nt)) (su : Int) (e : Ending) (w' : World) : Prop :=
  (lgF b L su = true ∧ ∃ q K kc, lgW (vec (jn [b])) (nts L) = some q ∧ e = .returned (.slice K q.length kc) ∧ Rd w' w'.heap.size 2 K q.length kc (sv q) ∧ Below w.heap.size w w') ∨
  (lgF b L su = false ∧ e = .returned (.slice none 0 0) ∧ Below w.heap.size w w')
end Go.Proofs.YtndlcimckfndiaaDoor

namespace Go.Proofs.YtndlcimckfndiaaDoor
open Go.RowKit
set_option maxRecDepth 100000

theorem fm_cons {last : Int} {s : Vc.St} {r : List Vc.St} (h : fm last (s :: r) = true) : (0 < s.1 ∧ 0 ≤ s.2 ∧ s.2 < 64) ∧ last < s.2 ∧ fm s.2 r = true := by
  simp only [fm, Bool.and_eq_true, decide_eq_true_eq] at h
  exact ⟨(Vc.right_iff s).1 h.1, h.2.1, h.2.2⟩
theorem fm_low : ∀ (v : List Vc.St) (last : Int), fm last v = true → ∀ n : Nat, (n : Int) ≤ last → Vc.cnt v n = 0
  | [], _, _, _, _ => rfl
  | s :: r, last, h, n, hn => by
    obtain ⟨_, h2, h3⟩ := fm_cons h
    rw [Vc.cnt, if_neg (fun e => by omega)]
    exact fm_low r s.2 h3 n (by omega)
theorem cnt_head {last : Int} {s : Vc.St} {r : List Vc.St} (h : fm last (s :: r) = true) (n : Nat) (hn : s.2 = n) : Vc.cnt (s :: r) n = s.1 := by
  rw [Vc.cnt, if_pos ⟨(Vc.right_iff s).2 (fm_cons h).1, hn⟩]
theorem cnt_tail {s : Vc.St} {r : List Vc.St} (n : Nat) (hn : s.2 ≠ n) : Vc.cnt (s :: r) n = Vc.cnt r n := by
  rw [Vc.cnt, if_neg (fun e => hn e.2)]
theorem fm_ext : ∀ (u v : List Vc.St) (last : Int), fm last u = true → fm last v = true → (∀ n : Nat, n < 64 → Vc.cnt u n = Vc.cnt v n) → u = v
  | [], [], _, _, _, _ => rfl
  | [], t :: r, last, _, hv, he => by
    obtain ⟨h1, _, _⟩ := fm_cons hv
    have h := he t.2.toNat (by omega)
    rw [cnt_head hv _ (by omega)] at h
    simp only [Vc.cnt] at h; omega
  | s :: r, [], last, hu, _, he => by
    obtain ⟨h1, _, _⟩ := fm_cons hu
    have h := he s.2.toNat (by omega)
    rw [cnt_head hu _ (by omega)] at h
    simp only [Vc.cnt] at h; omega
  | s :: r, t :: q, last, hu, hv, he => by
    obtain ⟨h1, _, k1⟩ := fm_cons hu
    obtain ⟨h2, _, k2⟩ := fm_cons hv
    have a := he s.2.toNat (by omega)
    have b := he t.2.toNat (by omega)
    rw [cnt_head hu _ (by omega)] at a
    rw [cnt_head hv _ (by omega)] at b
    have e2 : s.2 = t.2 := by
      rcases Int.lt_trichotomy s.2 t.2 with h | h | h
      · rw [cnt_tail _ (by omega), fm_low q _ k2 _ (by omega)] at a; omega
      · exact h
      · rw [cnt_tail _ (by omega), fm_low r _ k1 _ (by omega)] at b; omega
    rw [cnt_head hv _ (by omega)] at a
    have e : s = t := Prod.ext a e2
    subst e
    refine congrArg _ (fm_ext r q s.2 k1 k2 fun n hn => ?_)
    by_cases hs : s.2 = n
    · rw [fm_low r _ k1 _ (by omega), fm_low q _ k2 _ (by omega)]
    · have := he n hn
      rwa [cnt_tail _ hs, cnt_tail _ hs] at this
theorem jn_one (u : List Vc.St) (n : Nat) : jn [u] n = Vc.cnt u n := by
  have h := Vc.cnt_nonneg u n
  show max 0 (Vc.cnt u n) = _
  omega
theorem vec_one {b : List Vc.St} (h : fm (-1) b = true) : vec (jn [b]) = b :=
  fm_ext _ _ (-1) (formed_vec _) h fun n hn => by rw [cnt_vec (fun n => by rw [jn_one]; exact Vc.cnt_nonneg b n) hn, jn_one]

/-- Is a log formed? From its base. -/
def lgR (b : List Vc.St) (L : List (NV × Nt)) (su : Int) : Bool := fm (-1) b && (decide (0 ≤ su) && (decide (su ≤ L.length) && (lgW b (nts L)).isSome))
theorem lgF_R (b : List Vc.St) (L : List (NV × Nt)) (su : Int) : lgF b L su = lgR b L su := by
  unfold lgF lgR
  rcases hf : fm (-1) b with _ | _
  · simp
  · rw [vec_one hf]
    rcases (lgW b (nts L)) with _ | q <;> simp
theorem lgW_hit {k q : List Vc.St} {l : List Nt} {i : Nat} (h : i < l.length) (e : lgW k (l.drop i) = some q) : (ntF l[i] && ntFits l[i] k) = true := by
  rcases hz : (ntF l[i] && ntFits l[i] k) with _ | _
  · rw [lgW_no h hz] at e; cases e
  · rfl

/-- The place of the first note that is new to a vector. -/
def plW (v : List Vc.St) : List Nt → Nat
  | [] => 0
  | x :: r => if ntNews x v = true then 0 else plW v r + 1
theorem plW_end {v : List Vc.St} {l : List Nt} {i : Nat} (h : l.length ≤ i) : plW v (l.drop i) = 0 := by rw [List.drop_of_length_le h]; rfl
theorem plW_hit {v : List Vc.St} {l : List Nt} {i : Nat} (h : i < l.length) (hf : ntNews l[i] v = true) : plW v (l.drop i) = 0 := by
  rw [List.drop_eq_getElem_cons h, plW, if_pos hf]
theorem plW_miss {v : List Vc.St} {l : List Nt} {i : Nat} (h : i < l.length) (hf : ntNews l[i] v = false) : plW v (l.drop i) = plW v (l.drop (i + 1)) + 1 := by
  rw [List.drop_eq_getElem_cons h, plW, if_neg (by rw [hf]; simp)]
def lgP (b : List Vc.St) (L : List (NV × Nt)) (su : Int) (v : List Vc.St) : Int × Int :=
  if lgR b L su = true then (if covB (Vc.cnt v) (Vc.cnt b) = true then ((plW v (nts L) : Int), 0) else (0, 12)) else (0, 1)

end Go.Proofs.YtndlcimckfndiaaDoor

namespace Go.Proofs.YtndlcimckfndiaaDoor
open Go.RowKit
set_option maxRecDepth 100000

/-- What is known behind a log, from its base; or nothing. -/
def KnownR (w : World) (b : List Vc.St) (L : List (NV × Nt)) (su : Int) (e : Ending) (w' : World) : Prop :=
  (lgR b L su = true ∧ ∃ q K kc, lgW b (nts L) = some q ∧ e = .returned (.slice K q.length kc) ∧ Rd w' w'.heap.size 2 K q.length kc (sv q) ∧ Below w.heap.size w w') ∨
  (lgR b L su = false ∧ e = .returned (.slice none 0 0) ∧ Below w.heap.size w w')
theorem lgR_some {b : List Vc.St} {L : List (NV × Nt)} {su : Int} (h : lgR b L su = true) : fm (-1) b = true ∧ ∃ q, lgW b (nts L) = some q := by
  simp only [lgR, Bool.and_eq_true, Option.isSome_iff_exists] at h
  exact ⟨h.1, h.2.2.2⟩
theorem knownP_R {w : World} {b : List Vc.St} {L : List (NV × Nt)} {su : Int} {e : Ending} {w' : World} (h : KnownP w b L su e w') : KnownR w b L su e w' := by
  rcases h with ⟨h1, q, K, kc, h2, h3, h4, h5⟩ | ⟨h1, h2, h3⟩
  · rw [lgF_R] at h1
    rw [vec_one (lgR_some h1).1] at h2
    exact .inl ⟨h1, q, K, kc, h2, h3, h4, h5⟩
  · rw [lgF_R] at h1
    exact .inr ⟨h1, h2, h3⟩

end Go.Proofs.YtndlcimckfndiaaDoor

namespace Go.Proofs.YtndlcimckfndiaaDoor
open Go.RowKit
set_option maxRecDepth 100000

theorem noteE_info : (Tryd.prog.info? 51).map (fun i => (i.zero, i.size, i.bytes)) = some (some (.agg #[.slice none 0 0, .slice none 0 0, .slice none 0 0, .slice none 0 0]), 4, 96) := by kernel_rfl
theorem spanE_info : (Tryd.prog.info? 97).map (fun i => (i.zero, i.size, i.bytes)) = some (some (.agg #[.int .i64 0, .int .i64 0]), 2, 16) := by kernel_rfl
theorem nvv_oneCell (L : List (NV × Nt)) : ∀ u ∈ nvv L, u.oneCell' = true := by
  intro u hu
  simp only [nvv, List.mem_flatMap] at hu
  obtain ⟨p, _, hp⟩ := hu
  simp only [List.mem_cons, List.not_mem_nil, or_false] at hp
  rcases hp with h | h | h | h <;> subst h <;> rfl

theorem nts_at (L : List (NV × Nt)) (i : Nat) (h : i < L.length) : (nts L)[i]'(by simpa [nts] using h) = L[i].2 := by simp [nts]
theorem nts_len (L : List (NV × Nt)) : (nts L).length = L.length := by simp [nts]
def allSame (L M : List Nt) : Bool := decide (L.length = M.length) && (L.zip M).all fun p => ntSame p.1 p.2
def allFrom (L M : List Nt) (k : Nat) : Bool := ((L.drop k).zip (M.drop k)).all fun p => ntSame p.1 p.2
theorem allFrom_next {L M : List Nt} {k : Nat} (h1 : k < L.length) (h2 : k < M.length) : allFrom L M k = (ntSame L[k] M[k] && allFrom L M (k + 1)) := by
  unfold allFrom
  rw [List.drop_eq_getElem_cons h1, List.drop_eq_getElem_cons h2]; rfl
theorem allFrom_end {L M : List Nt} {k : Nat} (h1 : L.length ≤ k) : allFrom L M k = true := by
  unfold allFrom
  rw [List.drop_of_length_le h1]; rfl
theorem allSame_self (L : List Nt) : allSame L L = true := by
  unfold allSame
  rw [decide_eq_true rfl, Bool.true_and, List.all_eq_true]
  intro p hp
  obtain ⟨i, hi, e⟩ := List.getElem_of_mem hp
  rw [← e, List.getElem_zip]
  exact ntSame_self _

set_option maxHeartbeats 8000000 in
theorem refAllNt_any (A D : Option Addr) (n c m d : Nat) (L M : List (NV × Nt)) (w : World) (hR : RdNs w w.heap.size A n c L) (hR2 : RdNs w w.heap.size D m d M) :
    Calls Tryd.prog 78 #[.slice A n c, .slice D m d] w fun e w' => e = .returned (.bool (allSame (nts L) (nts M))) ∧ Below w.heap.size w w' := by
  have hmax : n ≤ 9223372036854775807 := by have h1 := hR.rd.cap; have h2 := hR.rd.max; unfold maxLen at h2; omega
  have hl : L.length = n := hR.len
  have hl2 : M.length = m := hR2.len
  by_cases hnm : n = m
  · subst hnm
    have HE := Lib.hid (show allSame (nts L) (nts M) = allFrom (nts L) (nts M) 0 by unfold allSame; rw [nts_len, nts_len, hl, hl2, decide_eq_true rfl]; rfl)
    have HL := Lib.hid hl
    have HL2 := Lib.hid hl2
    have HR := Lib.hid hR
    have HR2 := Lib.hid hR2
    clear hl hl2 hR hR2
    go_enter Tryd.func78, Tryd.ntmps78
    go_wp2
    go_loopw [5] (fun i wr => ∃ (k : Nat), k ≤ n ∧ i = .int .i64 k ∧ Hid (allSame (nts L) (nts M) = allFrom (nts L) (nts M) k) ∧ Below w.heap.size w wr) (fun i _ => n - (intOf i).toNat)
    case atStart => exact ⟨0, by omega, rfl, HE.out, Below.refl _ _⟩
    case round =>
      obtain ⟨i, hi, rfl, hq, hb⟩ := hrel
      by_cases hlt : i < n
      · have hkL : i < L.length := by rw [HL.out]; exact hlt
        have hkM : i < M.length := by rw [HL2.out]; exact hlt
        obtain ⟨bb, o, rfl, hab, g0, g1, g2, g3⟩ := (HR.out.go hb).note hkL
        obtain ⟨bb2, o2, rfl, hab2, p0, p1, p2, p3⟩ := (HR2.out.go hb).note hkM
        have hrd := (HR.out.go hb).each _ (List.getElem_mem hkL)
        have hrd2 := (HR2.out.go hb).each _ (List.getElem_mem hkM)
        have hnx := allFrom_next (L := nts L) (M := nts M) (k := i) (by rw [nts_len]; exact hkL) (by rw [nts_len]; exact hkM)
        rw [nts_at L i hkL, nts_at M i hkM, ← hq.out] at hnx
        generalize L[i] = p at g0 g1 g2 g3 hrd hnx
        generalize M[i] = q at p0 p1 p2 p3 hrd2 hnx
        obtain ⟨⟨A1, n1, c1, A2, n2, c2, A3, n3, c3, A4, n4, c4⟩, x⟩ := p
        obtain ⟨⟨D1, m1, d1, D2, m2, d2, D3, m3, d3, D4, m4, d4⟩, y⟩ := q
        dsimp only at g0 g1 g2 g3 hrd hnx p0 p1 p2 p3 hrd2
        have HQ := Lib.hid fun V (hv : Below wr.heap.size wr V) => (show (V.cell? ⟨bb, o + i * 4, none⟩ = some (.slice A1 n1 c1) ∧ V.cell? ⟨bb, o + i * 4 + 1, none⟩ = some (.slice A2 n2 c2) ∧ V.cell? ⟨bb, o + i * 4 + 2, none⟩ = some (.slice A3 n3 c3) ∧ V.cell? ⟨bb, o + i * 4 + 3, none⟩ = some (.slice A4 n4 c4)) ∧ (V.cell? ⟨bb2, o2 + i * 4, none⟩ = some (.slice D1 m1 d1) ∧ V.cell? ⟨bb2, o2 + i * 4 + 1, none⟩ = some (.slice D2 m2 d2) ∧ V.cell? ⟨bb2, o2 + i * 4 + 2, none⟩ = some (.slice D3 m3 d3) ∧ V.cell? ⟨bb2, o2 + i * 4 + 3, none⟩ = some (.slice D4 m4 d4)) from
          ⟨⟨(hv.cell (p := ⟨bb, o + i * 4, none⟩) hab).trans g0, (hv.cell (p := ⟨bb, o + i * 4 + 1, none⟩) hab).trans g1, (hv.cell (p := ⟨bb, o + i * 4 + 2, none⟩) hab).trans g2, (hv.cell (p := ⟨bb, o + i * 4 + 3, none⟩) hab).trans g3⟩, ⟨(hv.cell (p := ⟨bb2, o2 + i * 4, none⟩) hab2).trans p0, (hv.cell (p := ⟨bb2, o2 + i * 4 + 1, none⟩) hab2).trans p1, (hv.cell (p := ⟨bb2, o2 + i * 4 + 2, none⟩) hab2).trans p2, (hv.cell (p := ⟨bb2, o2 + i * 4 + 3, none⟩) hab2).trans p3⟩⟩)
        have F := Lib.hid fun V (hv : Below wr.heap.size wr V) => refNtSame_any ⟨A1, n1, c1, A2, n2, c2, A3, n3, c3, A4, n4, c4⟩ ⟨D1, m1, d1, D2, m2, d2, D3, m3, d3, D4, m4, d4⟩ x y V (hrd.go hv) (hrd2.go hv)
        have HNX := Lib.hid hnx
        have HB := Lib.hid hb
        have k : Below wr.heap.size wr wr.drew := (Below.refl _ wr).drew
        clear hrd hrd2 hnx g0 g1 g2 g3 p0 p1 p2 p3 hkL hkM hb
        go_wp2_with fail
        refine region_nrm fun KK hKK => ?_
        refine wp_region_held_drew (S := (fun V => (V.cell? ⟨bb, o + i * 4, none⟩ = some (.slice A1 n1 c1) ∧ V.cell? ⟨bb, o + i * 4 + 1, none⟩ = some (.slice A2 n2 c2) ∧ V.cell? ⟨bb, o + i * 4 + 2, none⟩ = some (.slice A3 n3 c3) ∧ V.cell? ⟨bb, o + i * 4 + 3, none⟩ = some (.slice A4 n4 c4)) ∧ (V.cell? ⟨bb2, o2 + i * 4, none⟩ = some (.slice D1 m1 d1) ∧ V.cell? ⟨bb2, o2 + i * 4 + 1, none⟩ = some (.slice D2 m2 d2) ∧ V.cell? ⟨bb2, o2 + i * 4 + 2, none⟩ = some (.slice D3 m3 d3) ∧ V.cell? ⟨bb2, o2 + i * 4 + 3, none⟩ = some (.slice D4 m4 d4)))) (by kernel_rfl) (by first | exact HQ.out _ k) (fun hHeld => ?_)
        refine wpAnyH_putD (i := 0) (d := 17) (v := ?_) rfl rfl (by kernel_rfl) (by kernel_rfl) (by kernel_rfl) (fun _ _ _ h => h) (Or.inl ⟨by kernel_rfl, ?_⟩) (by first | exact HQ.out _ k) ?_
        rotate_left
        · (intro w hS; (try dsimp only at hS); go_simp <;> with_reducible rfl)
        try simp only [List.setIfInBounds_toArray, List.set_cons_zero, List.set_cons_succ]
        refine wpAnyH_putD (i := 1) (d := 18) (v := ?_) rfl rfl (by kernel_rfl) (by kernel_rfl) (by kernel_rfl) (fun _ _ _ h => h) (Or.inl ⟨by kernel_rfl, ?_⟩) (by first | exact HQ.out _ k) ?_
        rotate_left
        · (intro w hS; (try dsimp only at hS); go_simp <;> with_reducible rfl)
        try simp only [List.setIfInBounds_toArray, List.set_cons_zero, List.set_cons_succ]
        refine wpAnyH_putD (i := 2) (d := 19) (v := ?_) rfl rfl (by kernel_rfl) (by kernel_rfl) (by kernel_rfl) (fun _ _ _ h => h) (Or.inl ⟨by kernel_rfl, ?_⟩) (by first | exact HQ.out _ k) ?_
        rotate_left
        · (intro w hS; (try dsimp only at hS); go_simp <;> with_reducible rfl)
        try simp only [List.setIfInBounds_toArray, List.set_cons_zero, List.set_cons_succ]
        refine wpAnyH_putD (i := 3) (d := 20) (v := ?_) rfl rfl (by kernel_rfl) (by kernel_rfl) (by kernel_rfl) (fun _ _ _ h => h) (Or.inl ⟨by kernel_rfl, ?_⟩) (by first | exact HQ.out _ k) ?_
        rotate_left
        · (intro w hS; (try dsimp only at hS); go_simp <;> with_reducible rfl)
        try simp only [List.setIfInBounds_toArray, List.set_cons_zero, List.set_cons_succ]
        refine wpAnyH_putD (i := 4) (d := 21) (v := ?_) rfl rfl (by kernel_rfl) (by kernel_rfl) (by kernel_rfl) (fun _ _ _ h => h) (Or.inl ⟨by kernel_rfl, ?_⟩) (by first | exact HQ.out _ k) ?_
        rotate_left
        · (intro w hS; (try dsimp only at hS); go_simp <;> with_reducible rfl)
        try simp only [List.setIfInBounds_toArray, List.set_cons_zero, List.set_cons_succ]
        refine wpAnyH_putD (i := 5) (d := 22) (v := ?_) rfl rfl (by kernel_rfl) (by kernel_rfl) (by kernel_rfl) (fun _ _ _ h => h) (Or.inl ⟨by kernel_rfl, ?_⟩) (by first | exact HQ.out _ k) ?_
        rotate_left
        · (intro w hS; (try dsimp only at hS); go_simp <;> with_reducible rfl)
        try simp only [List.setIfInBounds_toArray, List.set_cons_zero, List.set_cons_succ]
        refine wpAnyH_putD (i := 6) (d := 23) (v := ?_) rfl rfl (by kernel_rfl) (by kernel_rfl) (by kernel_rfl) (fun _ _ _ h => h) (Or.inl ⟨by kernel_rfl, ?_⟩) (by first | exact HQ.out _ k) ?_
        rotate_left
        · (intro w hS; (try dsimp only at hS); go_simp <;> with_reducible rfl)
        try simp only [List.setIfInBounds_toArray, List.set_cons_zero, List.set_cons_succ]
        refine wpAnyH_putD (i := 7) (d := 24) (v := ?_) rfl rfl (by kernel_rfl) (by kernel_rfl) (by kernel_rfl) (fun _ _ _ h => h) (Or.inl ⟨by kernel_rfl, ?_⟩) (by first | exact HQ.out _ k) ?_
        rotate_left
        · (intro w hS; (try dsimp only at hS); go_simp <;> with_reducible rfl)
        try simp only [List.setIfInBounds_toArray, List.set_cons_zero, List.set_cons_succ]
        refine wpAnyH_ready (rs := [8]) (by kernel_rfl) (by simp) ?_
        refine AllReadyH.cons rfl (fun K hK => ?_) AllReadyH.nil
        go_simp
        refine (F.out _ k).mono ?_
        rintro e W ⟨rfl, hb'⟩
        have k := below_then k (Nat.le_refl _) hb'
        clear hb'
        refine hK.out _ _ (by first | exact HQ.out _ k) (fun hHeld => ?_)
        clear hK K
        refine wpAnyH_putD (i := 9) (d := 26) (v := ?_) rfl rfl (by kernel_rfl) (by kernel_rfl) (by kernel_rfl) (fun _ _ _ h => h) (Or.inl ⟨by kernel_rfl, ?_⟩) (by first | exact HQ.out _ k) ?_
        rotate_left
        · (intro w hS; (try dsimp only at hS); go_simp <;> with_reducible rfl)
        try simp only [List.setIfInBounds_toArray, List.set_cons_zero, List.set_cons_succ]
        refine wpAnyH_done (by kernel_rfl) ?_ _
        refine Nrm.out (hKK _ _ ?_)
        rcases hz : ntSame x y with _ | _
        · have HN := Lib.hid (show allSame (nts L) (nts M) = false by rw [HNX.out, hz]; rfl)
          clear hz
          go_wp2
          go_ret
          exact ⟨by rw [HN.out]; rfl, below_then HB.out (Nat.le_refl _) k⟩
        · have HN := Lib.hid (show allSame (nts L) (nts M) = allFrom (nts L) (nts M) (i + 1) by rw [HNX.out, hz]; rfl)
          clear hz
          go_wp2
          go_roundw
          case rel => exact ⟨i + 1, by omega, by go_num, HN.out, below_then HB.out (Nat.le_refl _) k⟩
          case measure => simp [intOf]; omega
      · obtain rfl : i = n := by omega
        have HX := Lib.hid (show allSame (nts L) (nts M) = true by rw [hq.out, allFrom_end (by rw [nts_len, HL.out]; exact Nat.le_refl _)])
        clear hq
        go_wp2
        go_ret
        exact ⟨by rw [HX.out]; rfl, hb⟩
  · have HN := Lib.hid (show allSame (nts L) (nts M) = false by unfold allSame; rw [nts_len, nts_len, hl, hl2, decide_eq_false hnm]; rfl)
    have hne : ¬ ((n : Int) = (m : Int)) := by omega
    clear hl hl2 hR hR2
    go_enter Tryd.func78, Tryd.ntmps78
    go_wp2
    all_goals first
      | (exfalso; omega)
      | (go_ret; exact ⟨by rw [HN.out]; rfl, Below.refl _ _⟩)

def lgSame (b b' : List Vc.St) (su su' : Int) (L L' : List Nt) : Bool := decide (b = b') && (decide (su = su') && allSame L L')
theorem lgSame_self (b : List Vc.St) (su : Int) (L : List Nt) : lgSame b b su su L L = true := by unfold lgSame; rw [decide_eq_true rfl, decide_eq_true rfl, allSame_self]; rfl

end Go.Proofs.YtndlcimckfndiaaDoor

