/- Walks over slices.insertionSortCmpFunc (the shelf's contract), stableCmpFunc, SortStableFunc at writes. -/
import Derived.Test.YtnibkniggiokkaaDoorNmV
import Derived.Test.YtnibkniggiokkaaDoorWrIns
namespace Go.Proofs.YtnibkniggiokkaaDoor
open Go.RowKit Go.Shelf Go.Sort Go.Lib
set_option maxRecDepth 100000

theorem insert_any {k : Nat} {d0 : Array Wr} {w0 : World} {blk off g : Nat} {cb : Array Value} {cf : Wr → Wr → Int} (K : SortW k d0 w0 blk off g cb cf) (cap a b : Nat) (P S Q : List Wr) (hlen : P.length + S.length + Q.length = d0.size) (ha : a = P.length) (hb : b = a + S.length) (W : World) (hW : SWK wc k w0 blk off (P ++ S ++ Q).toArray W) :
    Calls Tryd.prog 90 #[.slice (some ⟨blk, off, none⟩) d0.size cap, .int .i64 a, .int .i64 b, .func (.func g) #[] cb] W fun e W' => e = .returned (.tuple #[]) ∧ ∃ S', St.Stab (ltOf cf) S S' ∧ SWK wc k w0 blk off (P ++ S' ++ Q).toArray W' := by
  have hs : d0.size = (P ++ S ++ Q).toArray.size := by simp; omega
  have hc := AnyQ.insertionSortCmpFunc_w (ρ := insWr_ren) insWr k agg_write K.zE wc cf g cb blk off cap a b d0 (P ++ S ++ Q).toArray w0 W K.fn K.cmp K.row hs hW K.swo (by omega) (by rw [← hs]; omega) (by rw [← hs]; have := K.sz; omega)
  rw [← hs] at hc
  refine hc.mono ?_
  rintro e W' ⟨rfl, h⟩
  obtain ⟨S', h1, h2⟩ := St.ins_stab K.swo P S Q
  rw [hb, ha, h1] at h
  exact ⟨rfl, S', h2, h⟩

set_option maxHeartbeats 4000000 in
theorem stable_any {k : Nat} {d0 : Array Wr} {w0 : World} {blk off g : Nat} {cb : Array Value} {cf : Wr → Wr → Int} (K : SortW k d0 w0 blk off g cb cf) (cap : Nat) (l : List Wr) (hl : l.length = d0.size) (W : World) (hW : SWK wc k w0 blk off l.toArray W) :
    Calls Tryd.prog 79 #[.slice (some ⟨blk, off, none⟩) d0.size cap, .int .i64 d0.size, .func (.func g) #[] cb] W fun e W' => e = .returned (.tuple #[]) ∧ ∃ s, St.Stab (ltOf cf) l s ∧ SWK wc k w0 blk off s.toArray W' := by
  have HK := Lib.hid K
  have HW := Lib.hid hW
  have hsz := K.sz
  obtain ⟨n, hn⟩ : ∃ n, n = d0.size := ⟨_, rfl⟩
  have HN := Lib.hid hn
  have HL := Lib.hid (hl.trans hn.symm)
  rw [← hn] at hsz
  have HINS := Lib.hid fun (a b : Nat) (P S Q : List Wr) (h1 : P.length + S.length + Q.length = n) ha hb V hV => (hn ▸ insert_any K cap a b P S Q (h1.trans hn) ha hb V hV : Calls Tryd.prog 90 #[.slice (some ⟨blk, off, none⟩) n cap, .int .i64 a, .int .i64 b, .func (.func g) #[] cb] V fun e W' => e = .returned (.tuple #[]) ∧ ∃ S', St.Stab (ltOf cf) S S' ∧ SWK wc k w0 blk off (P ++ S' ++ Q).toArray W')
  have HSYM := Lib.hid fun (a m b : Nat) (P L R Q : List Wr) (h1 : P.length + L.length + R.length + Q.length = n) hL hR (hN : b - a < n + 1) hRL hRR ha hm hb V hV => (hn ▸ symMerge_any K (n + 1) a m b cap P L R Q (h1.trans hn) hL hR hN hRL hRR ha hm hb V hV : Calls Tryd.prog 91 #[.slice (some ⟨blk, off, none⟩) n cap, .int .i64 a, .int .i64 m, .int .i64 b, .func (.func g) #[] cb] V fun e W' => e = .returned (.tuple #[]) ∧ SWK wc k w0 blk off (P ++ St.mrg (ltOf cf) L R ++ Q).toArray W')
  clear hW K hl
  rw [← hn]
  clear hn
  go_enter Tryd.func79, Tryd.ntmps79
  go_wp2
  go_loopw [7, 8] (fun v7 v8 wr => ∃ (a b q : Nat) (d : List Wr), v7 = .int .i64 a ∧ v8 = .int .i64 b ∧ a + 20 ≤ b ∧ b ≤ a + 20 ∧ a ≤ n ∧ Hid (a = 20 * q) ∧ Hid (St.Blk1 (ltOf cf) 20 q l d) ∧ Aside (SWK wc k w0 blk off d.toArray wr)) (fun v7 _ _ => n - (intOf v7).toNat)
  case atStart => exact ⟨0, 20, 0, l, rfl, rfl, by omega, by omega, by omega, rfl, St.Blk1.start _ _ _, HW.out⟩
  case round =>
    obtain ⟨a, b, q, d, rfl, rfl, hab, hba, han, HA, HB, SW⟩ := hrel
    have hdl : d.length = n := by rw [HB.out.len]; exact HL.out
    by_cases hlt : b ≤ n
    · have hltz : (b : Int) ≤ (n : Int) := by omega
      have hd : d = d.take a ++ (d.drop a).take 20 ++ (d.drop a).drop 20 := by rw [List.append_assoc, List.take_append_drop, List.take_append_drop]
      have e1 : (d.take a).length = a := by rw [List.length_take]; omega
      have e2 : ((d.drop a).take 20).length = 20 := by rw [List.length_take, List.length_drop]; omega
      have hlen : (d.take a).length + ((d.drop a).take 20).length + ((d.drop a).drop 20).length = n := by rw [e1, e2, List.length_drop, List.length_drop]; omega
      generalize d.take a = P at *
      generalize (d.drop a).take 20 = S at *
      generalize (d.drop a).drop 20 = Q at *
      subst hd
      have HC := Lib.hid (HINS.out a b P S Q hlen e1.symm (by omega) wr SW.out)
      have HE := Lib.hid (And.intro e1 e2)
      clear hlen e1 e2 hdl SW
      go_wp2_with (go_at_call 90; refine HC.out.mono ?_; rintro e w1 ⟨rfl, S', hst, hsw⟩)
      go_roundw
      case rel => exact ⟨b, b + 20, q + 1, P ++ S' ++ Q, rfl, by go_num, by omega, by omega, hlt, by have := HA.out; show _ = _; omega, HB.out.step (by rw [HE.out.1]; exact HA.out) (.inl HE.out.2) hst, hsw⟩
      case measure => simp [intOf]; omega
    · have hltz : ¬ (b : Int) ≤ (n : Int) := by omega
      have hd : d = d.take a ++ d.drop a ++ [] := by rw [List.append_nil, List.take_append_drop]
      have e1 : (d.take a).length = a := by rw [List.length_take]; omega
      have e2 : (d.drop a).length = n - a := by rw [List.length_drop]; omega
      generalize d.take a = P at *
      generalize d.drop a = S at *
      subst hd
      have HC := Lib.hid (HINS.out a n P S [] (by simp; omega) e1.symm (by omega) wr SW.out)
      have HE := Lib.hid (And.intro e1 e2)
      clear e1 e2 hdl SW
      go_wp2_with (go_at_call 90; refine HC.out.mono ?_; rintro e w1 ⟨rfl, S', hst, hsw⟩)
      have HB2 := Lib.hid ((HB.out.step (by rw [HE.out.1]; exact HA.out) (.inr ⟨by rw [HE.out.2]; omega, rfl⟩) hst).end_ (by rw [HL.out]; have := HA.out; omega))
      have SW2 : Aside (SWK wc k w0 blk off (P ++ S' ++ []).toArray w1) := hsw
      generalize P ++ S' ++ [] = d at HB2 SW2
      clear HB hst hsw HC HE HA
      go_loopw [6, 7, 8, 9] (fun v6 v7 v8 _ wr => ∃ (s a0 b0 : Nat) (d : List Wr), v6 = .int .i64 s ∧ v7 = .int .i64 a0 ∧ v8 = .int .i64 b0 ∧ 20 ≤ s ∧ s ≤ 2000000000 ∧ Hid (St.Blk2 (ltOf cf) s 0 l d) ∧ Aside (SWK wc k w0 blk off d.toArray wr)) (fun v6 _ _ _ _ => n - (intOf v6).toNat)
      case atStart => exact ⟨20, a, b, d, rfl, rfl, rfl, by omega, by omega, HB2, SW2⟩
      case round =>
        clear HB2 SW2
        obtain ⟨s, a0, b0, d, rfl, rfl, rfl, hs20, hs2, HB, SW⟩ := hrel
        by_cases hsn : s < n
        · have hsz2 : (s : Int) < (n : Int) := by omega
          go_wp2
          go_loopw [7, 8] (fun v7 v8 wr => ∃ (a b q : Nat) (d : List Wr), v7 = .int .i64 a ∧ v8 = .int .i64 b ∧ a + 2 * s ≤ b ∧ b ≤ a + 2 * s ∧ a ≤ n ∧ Hid (a = 2 * s * q) ∧ Hid (St.Blk2 (ltOf cf) s q l d) ∧ Aside (SWK wc k w0 blk off d.toArray wr)) (fun v7 _ _ => n - (intOf v7).toNat)
          case atStart => exact ⟨0, 2 * s, 0, d, rfl, by go_num, by omega, by omega, by omega, rfl, HB, SW⟩
          case round =>
            clear HB SW
            obtain ⟨a, b, q, d, rfl, rfl, hab, hba, han, HA, HB, SW⟩ := hrel
            have hdl : d.length = n := by rw [HB.out.len]; exact HL.out
            obtain ⟨m, hm⟩ : ∃ m, m = a + s := ⟨_, rfl⟩
            have em : (a : Int) + (s : Int) = (m : Int) := by omega
            by_cases hlt : b ≤ n
            · have hltz : (b : Int) ≤ (n : Int) := by omega
              have hd : d = d.take a ++ (d.drop a).take s ++ ((d.drop a).drop s).take s ++ ((d.drop a).drop s).drop s := by rw [List.append_assoc, List.take_append_drop, List.append_assoc, List.take_append_drop, List.take_append_drop]
              have e1 : (d.take a).length = a := by rw [List.length_take]; omega
              have e2 : ((d.drop a).take s).length = s := by rw [List.length_take, List.length_drop]; omega
              have e3 : (((d.drop a).drop s).take s).length = s := by rw [List.length_take, List.length_drop, List.length_drop]; omega
              have hlen : (d.take a).length + ((d.drop a).take s).length + (((d.drop a).drop s).take s).length + (((d.drop a).drop s).drop s).length = n := by rw [e1, e2, e3, List.length_drop, List.length_drop, List.length_drop]; omega
              generalize d.take a = P at *
              generalize (d.drop a).take s = L at *
              generalize ((d.drop a).drop s).take s = R at *
              generalize ((d.drop a).drop s).drop s = Q at *
              subst hd
              have hP : P.length = 2 * s * q := e1.trans HA.out
              obtain ⟨r1, r2⟩ := HB.out.rows hP e2 (.inl e3)
              have HC := Lib.hid (HSYM.out a m b P L R Q hlen (List.length_pos_iff.1 (by omega)) (List.length_pos_iff.1 (by omega)) (by omega) r1 r2 e1.symm (by omega) (by omega) wr SW.out)
              have HB2 := Lib.hid (HB.out.step HK.out.swo hP e2 (.inl e3))
              clear hlen e1 e2 e3 hdl SW HB r1 r2 hP hm
              go_wp2_with (go_at_call 91; refine HC.out.mono ?_; rintro e w2 ⟨rfl, hsw2⟩)
              go_roundw
              case rel => exact ⟨b, b + 2 * s, q + 1, _, rfl, by go_num, by omega, by omega, hlt, by have := HA.out; show _ = _; rw [Nat.mul_succ]; omega, HB2, hsw2⟩
              case measure => simp [intOf]; omega
            · have hltz : ¬ (b : Int) ≤ (n : Int) := by omega
              by_cases hmn : m < n
              · have hmz : (m : Int) < (n : Int) := by omega
                have hd : d = d.take a ++ (d.drop a).take s ++ (d.drop a).drop s ++ [] := by rw [List.append_nil, List.append_assoc, List.take_append_drop, List.take_append_drop]
                have e1 : (d.take a).length = a := by rw [List.length_take]; omega
                have e2 : ((d.drop a).take s).length = s := by rw [List.length_take, List.length_drop]; omega
                have e3 : ((d.drop a).drop s).length = n - m := by rw [List.length_drop, List.length_drop]; omega
                generalize d.take a = P at *
                generalize (d.drop a).take s = L at *
                generalize (d.drop a).drop s = R at *
                subst hd
                have hP : P.length = 2 * s * q := e1.trans HA.out
                have hR : R.length = s ∨ R.length ≤ s ∧ ([] : List Wr) = [] := .inr ⟨by omega, rfl⟩
                obtain ⟨r1, r2⟩ := HB.out.rows hP e2 hR
                have HC := Lib.hid (HSYM.out a m n P L R [] (by simp; omega) (List.length_pos_iff.1 (by omega)) (List.length_pos_iff.1 (by omega)) (by omega) r1 r2 e1.symm (by omega) (by omega) wr SW.out)
                have HB2 := Lib.hid ((HB.out.step HK.out.swo hP e2 hR).end_ (by rw [HL.out, Nat.mul_succ, ← HA.out]; omega))
                clear e1 e2 e3 hdl SW HB r1 r2 hP hm hR
                go_wp2_with (go_at_call 91; refine HC.out.mono ?_; rintro e w2 ⟨rfl, hsw2⟩)
                go_roundw
                case rel => exact ⟨2 * s, a, b, _, by go_num, rfl, rfl, by omega, by omega, HB2, hsw2⟩
                case measure => simp [intOf]; omega
              · have hmz : ¬ (m : Int) < (n : Int) := by omega
                have HB2 := Lib.hid (HB.out.end_ (by rw [HL.out, ← HA.out]; omega))
                clear hdl HB hm
                go_wp2
                go_roundw
                case rel => exact ⟨2 * s, a, b, _, by go_num, rfl, rfl, by omega, by omega, HB2, SW⟩
                case measure => simp [intOf]; omega
        · have hsz2 : ¬ (s : Int) < (n : Int) := by omega
          go_wp2
          go_end0
          exact ⟨rfl, d, HB.out.whole (by rw [HL.out]; omega), SW⟩

/-- slices.SortStableFunc over a row that lies. -/
theorem sortStable_any {k : Nat} {d0 : Array Wr} {w0 : World} {blk off g : Nat} {cb : Array Value} {cf : Wr → Wr → Int} (K : SortW k d0 w0 blk off g cb cf) (cap : Nat) (l : List Wr) (hl : l.length = d0.size) (W : World) (hW : SWK wc k w0 blk off l.toArray W) :
    Calls Tryd.prog 51 #[.slice (some ⟨blk, off, none⟩) d0.size cap, .func (.func g) #[] cb] W fun e W' => e = .returned (.tuple #[]) ∧ ∃ s, St.Stab (ltOf cf) l s ∧ SWK wc k w0 blk off s.toArray W' := by
  have HC := Lib.hid (stable_any K cap l hl W hW)
  have hsz := K.sz
  generalize hn : d0.size = n at HC hsz ⊢
  clear K hl hW hn
  go_enter Tryd.func51, Tryd.ntmps51
  go_wp2_with (go_at_call 79; refine HC.out.mono ?_; rintro e w1 ⟨rfl, s, hs, hsw⟩)
  go_end0
  exact ⟨rfl, s, hs, hsw⟩

set_option maxHeartbeats 1000000 in
/-- .. and at nil. -/
theorem sortStable_nil (c : Nat) (fv : Value) (w : World) : Calls Tryd.prog 51 #[.slice none 0 c, fv] w fun e w' => e = .returned (.tuple #[]) ∧ w = w' := by
  have H1 := Lib.hid fun (w : World) => (show Calls Tryd.prog 90 #[.slice none 0 c, .int .i64 0, .int .i64 0, fv] w fun e w' => e = .returned (.tuple #[]) ∧ w = w' from by
    go_enter Tryd.func90, Tryd.ntmps90
    go_wp2
    go_loopw [8] (fun v8 wr => v8 = .int .i64 1 ∧ w = wr) (fun _ _ => 0)
    case atStart => exact ⟨rfl, rfl⟩
    case round =>
      obtain ⟨rfl, rfl⟩ := hrel
      go_wp2
      go_end0
      exact ⟨rfl, rfl⟩)
  have H2 := Lib.hid fun (w : World) => (show Calls Tryd.prog 79 #[.slice none 0 c, .int .i64 0, fv] w fun e w' => e = .returned (.tuple #[]) ∧ w = w' from by
    go_enter Tryd.func79, Tryd.ntmps79
    go_wp2
    go_loopw [7, 8] (fun v7 v8 wr => v7 = .int .i64 0 ∧ v8 = .int .i64 20 ∧ w = wr) (fun _ _ _ => 0)
    case atStart => exact ⟨rfl, rfl, rfl⟩
    case round =>
      obtain ⟨rfl, rfl, rfl⟩ := hrel
      go_wp2_with (go_at_call 90; refine (H1.out _).mono ?_; rintro e w1 ⟨rfl, rfl⟩)
      go_loopw [6] (fun v6 wr => v6 = .int .i64 20 ∧ w = wr) (fun _ _ => 0)
      case atStart => exact ⟨rfl, rfl⟩
      case round =>
        obtain ⟨rfl, rfl⟩ := hrel
        go_wp2
        go_end0
        exact ⟨rfl, rfl⟩)
  go_enter Tryd.func51, Tryd.ntmps51
  go_wp2_with (go_at_call 79; refine (H2.out _).mono ?_; rintro e w1 ⟨rfl, rfl⟩)
  go_end0
  exact ⟨rfl, rfl⟩
end Go.Proofs.YtnibkniggiokkaaDoor
