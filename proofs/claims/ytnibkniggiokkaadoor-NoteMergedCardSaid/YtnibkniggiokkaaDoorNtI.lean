/- Walks over note.place and the document's At. -/
import Derived.Test.YtnibkniggiokkaaDoorNtH
import Derived.Test.YtnibkniggiokkaaDoorNtB
namespace Go.Proofs.YtnibkniggiokkaaDoor
open Go.RowKit
set_option maxRecDepth 100000

theorem place_any (A : Option Addr) (n c : Nat) (l : List Wr) (o : Int) (w : World) (hl : l.length = n) (hR : Rd w w.heap.size 4 A n c (wv l)) (hr : rise (-1) l = true) (hn : n ≤ 4398046511104) :
    Calls Tryd.prog 66 #[.slice A n c, .int .i64 o] w (Found l o w) := by
  have H1 := Lib.hid (search_any A n c l o w hl hR hr hn)
  clear hl hR hr
  go_enter Tryd.func66, Tryd.ntmps66
  go_wp2_with (go_at_call 82; go_must (refine H1.out.mono ?_); rintro e w1 ⟨i, b, rfl, h1, h2, h3, h4⟩)
  go_ret2
  exact ⟨i, b, rfl, h1, h2, h3, h4⟩

def w0_ : Wr := ((0, 0), 0, false)
def wcA (q : Wr) : Array Value := #[.int .i64 q.1.1, .int .i64 q.1.2, .int .i64 q.2.1, .bool q.2.2]
theorem wcA_one (q : Wr) : (wcA q).all (·.oneCell') = true := by simp [wcA, Value.oneCell']
theorem write_zero : (Tryd.prog.info? 46).map (fun i => (i.zero, i.size)) = some (some (.agg (wcA w0_)), 4) := by kernel_rfl
/-- A write and whether it is there. -/
def AtP (w : World) (q : Wr) (b : Bool) (e : Ending) (w' : World) : Prop := e = .returned (.tuple #[.agg (wcA q), .bool b]) ∧ Below w.heap.size w w'
theorem AtP.mk {w w' : World} {q : Wr} {b : Bool} {e : Ending} (h1 : e = .returned (.tuple #[.agg (wcA q), .bool b])) (h2 : Below w.heap.size w w') : AtP w q b e w' := ⟨h1, h2⟩
def atQ (l : List Wr) (o : Int) : Wr := (atO l o).getD w0_
def atB (l : List Wr) (o : Int) : Bool := (atO l o).isSome

set_option maxHeartbeats 4000000 in
theorem refAt_any (A : Option Addr) (n c : Nat) (l : List Wr) (o : Int) (w : World) (hl : l.length = n) (hR : Rd w w.heap.size 4 A n c (wv l)) :
    Calls Tryd.prog 62 #[.slice A n c, .int .i64 o] w (AtP w (atQ l o) (atB l o)) := by
  obtain ⟨hzz, hi⟩ := zero_of_info write_zero
  have HI := Lib.hid hi
  have hmax : n ≤ 9223372036854775807 := by have h1 := hR.cap; have h2 := hR.max; unfold maxLen at h2; omega
  have hq : atQ l o = (atO l o).getD w0_ := rfl
  have hB : atB l o = (atO l o).isSome := rfl
  generalize atQ l o = Q at hq ⊢
  generalize atB l o = B at hB ⊢
  have HQ := Lib.hid hq
  have HB := Lib.hid hB
  have HL := Lib.hid hl
  have HR := Lib.hid hR
  clear hq hB hl hR hi
  go_enter Tryd.func62, Tryd.ntmps62
  go_wp2
  go_loopw [6] (fun i wr => ∃ k : Nat, k ≤ n ∧ i = .int .i64 k ∧ Below w.heap.size w wr ∧ Blk wr w.heap.size 46 (wcA w0_) ∧ Hid (atO l o = atO (l.drop k) o)) (fun i _ => n - (intOf i).toNat)
  case atStart => exact ⟨0, by omega, rfl, (Below.refl _ _).alloc (Nat.le_refl _) _, Blk.new _ _ _, rfl⟩
  case round =>
    obtain ⟨k, hk, rfl, hb, hblk, hf⟩ := hrel
    have HK := Lib.hid hblk
    have HBw := Lib.hid hb
    by_cases hlt : k < n
    · have hkl : k < l.length := by rw [HL.out]; exact hlt
      obtain ⟨b, off, rfl, hbb, g0, g1, g2, g3⟩ := (HR.out.below hb).write HL.out hkl
      have hd := atO_drop l o k hkl
      have hst : l[k] = ((l[k].1.1, l[k].1.2), l[k].2.1, l[k].2.2) := rfl
      generalize l[k].1.1 = sc at g0 hst
      generalize l[k].1.2 = sn at g1 hst
      generalize l[k].2.1 = ob at g2 hst hd
      generalize l[k].2.2 = gn at g3 hst
      by_cases he : ob = o
      · subst he
        rw [if_pos rfl, hst] at hd
        have HD := Lib.hid (hf.out.trans hd)
        clear hd hst hb hblk hf
        go_wp2_with (refine wpList_store_blk rfl 46 _ _ rfl w.heap.size 46 _ (wcA ((sc, sn), ob, gn)) rfl rfl HK.out HI.out rfl (wcA_one _) ?_; intro w4 hk4 hg4)
        refine bodyPost_ret (results_cell_tmp rfl _ _ w.heap.size 46 _ _ _ rfl hk4 Tryd.underlying46 rfl HI.out) rfl (AtP.mk ?_ (HBw.out.trans (grown_below hg4 HBw.out.size (fun k hk => by cases hk; exact Nat.le_refl _))))
        rw [HQ.out, HB.out, HD.out]; rfl
      · rw [if_neg he] at hd
        have HD := Lib.hid (hf.out.trans hd)
        clear hd hst hb hblk hf
        go_wp2
        go_roundw
        case rel => exact ⟨k + 1, by omega, by go_num, HBw.out, HK.out, HD.out⟩
        case measure => simp [intOf]; omega
    · obtain rfl : k = n := by omega
      have HN := Lib.hid (show atO l o = none by rw [hf.out, List.drop_of_length_le (by rw [HL.out]; exact Nat.le_refl _)]; rfl)
      clear hb hblk hf
      go_wp2_with (refine wpList_store_blk rfl 46 _ _ rfl w.heap.size 46 _ (wcA w0_) rfl rfl HK.out HI.out rfl (wcA_one _) ?_; intro w4 hk4 hg4)
      refine bodyPost_ret (results_cell_tmp rfl _ _ w.heap.size 46 _ _ _ rfl hk4 Tryd.underlying46 rfl HI.out) rfl (AtP.mk ?_ (HBw.out.trans (grown_below hg4 HBw.out.size (fun k hk => by cases hk; exact Nat.le_refl _))))
      rw [HQ.out, HB.out, HN.out]; rfl
end Go.Proofs.YtnibkniggiokkaaDoor
