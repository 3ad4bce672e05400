/- Plain laws of zones behind a note: what the program comes to is the document's; taken twice; what stays sharp; what is mended. No program is named. -/
import Derived.Test.YtepdcbhapjgijaaDoorMTr
import Derived.Test.YtepdcbhapjgijaaDoorMLg
import Derived.Test.YtepdcbhapjgijaaDoorNtC
namespace Go.Proofs.YtepdcbhapjgijaaDoor

theorem farC_nonneg (r s e : List Vc.St) (n : Nat) : 0 ≤ farC r s e n := by
  have := Vc.cnt_nonneg r n
  have := Vc.cnt_nonneg e n
  unfold farC; split <;> omega
theorem cnt_far_vec (r s e : List Vc.St) {n : Nat} (hn : n < 64) : Vc.cnt (vec (farC r s e)) n = farC r s e n := cnt_vec (farC_nonneg r s e) hn
theorem farTo_vec {r : List Vc.St} (s e : List Vc.St) (hr : fm (-1) r = true) : farTo r s e 64 = vec (farC r s e) := by
  obtain ⟨h1, h2⟩ := farTo_ok r s e hr 64 (Nat.le_refl _)
  exact fm_ext _ _ (-1) h1 (formed_vec _) fun n hn => by rw [h2 n hn, if_pos hn, cnt_far_vec r s e hn]
/-- The one or the other. -/
def pickL (b : Bool) (f v : List Vc.St) : List Vc.St := if b = true then f else v
/-- The document's: a reach behind a note that doesn't blur the object. -/
def strD (v : List Vc.St) (x : Nt) (o : Int) : List Vc.St :=
  match atO x.w o with
  | some w => pickL (hasB (vec (farC v x.s x.e)) w.1) (vec (farC v x.s x.e)) v
  | none => vec (farC v x.s x.e)
def newD (z : List Zn) (known : List Vc.St) (x : Nt) (o : Int) : List Vc.St := if hasO x.b o = true then reach z known o else strD (reach z known o) x o
def nowOf (known : List Vc.St) (x : Nt) : List Vc.St := vec (jn [known, x.e])
def tkF (z : List Zn) (known : List Vc.St) (x : Nt) (o : Int) : Option (List Vc.St) := if cov2 (newD z known x o) (nowOf known x) = true then none else some (newD z known x o)
/-- The zones behind a note. -/
def tkZ (z : List Zn) (known : List Vc.St) (x : Nt) : List Zn := rls (tkF z known x) 256
theorem cov2_iff (u v : List Vc.St) : cov2 u v = true ↔ ∀ n, n < 64 → Vc.cnt v n ≤ Vc.cnt u n := covB_iff _ _
theorem cnt_now (known : List Vc.St) (x : Nt) {n : Nat} (hn : n < 64) : Vc.cnt (nowOf known x) n = max (Vc.cnt known n) (Vc.cnt x.e n) := cnt_join known x.e hn

theorem rl_congr {f g : Int → Option (List Vc.St)} : ∀ k : Nat, (∀ o : Nat, o < k → f o = g o) → rl f k = rl g k
  | 0, _ => rfl
  | k + 1, h => by
    rw [rl, rl, rl_congr k fun o ho => h o (by omega), h k (by omega)]
theorem rls_congr {f g : Int → Option (List Vc.St)} {k : Nat} (h : ∀ o : Nat, o < k → f o = g o) : rls f k = rls g k := by unfold rls; rw [rl_congr k h]

/-- What the program misses of a reach that was stretched. -/
def missP (x : Nt) (v : List Vc.St) (w : Wr) : Bool := !hasB (farTo v x.s x.e 64) w.1
def stP (x : Nt) (v : List Vc.St) (o : Nat) : Bool := Sn.setOf (staysL (missP x v) x.b x.w) o
theorem newR_D {z : List Zn} {known : List Vc.St} {x : Nt} (h : zF (-1) none z = true) (hk : fm (-1) known = true) (hx : ntF x = true) (o : Nat) (ho : o < 256) :
    newR (fun v => farTo v x.s x.e 64) (stP x) z known (o : Int) = newD z known x (o : Int) := by
  have hf := reach_fm h hk (o : Int)
  unfold newR newD
  generalize reach z known (o : Int) = v at hf ⊢
  unfold ntF at hx
  rw [Bool.and_eq_true] at hx
  have hw := ((ntW_iff _ _ _ _).1 hx.2)
  have hp := ((rise_iff _ _).1 hw.1).2
  have e1 : stP x v ((o : Int).toNat) = (Sn.inB x.b (o : Int) || match x.w.find? (fun w => decide (w.2.1 = (o : Int))) with | some w => missP x v w | none => false) := by
    rw [Int.toNat_natCast]
    unfold stP Sn.setOf
    rw [stays_in _ _ (by omega) (by omega), any_at _ _ hp]
    rcases x.w.find? (fun w => decide (w.2.1 = (o : Int))) with _ | w <;> rfl
  have e2 : hasO x.b (o : Int) = Sn.inB x.b (o : Int) := by
    unfold hasO
    rw [show (decide (0 ≤ (o : Int)) && decide ((o : Int) ≤ 255)) = true by simp; omega, Bool.true_and]
  rw [e1, e2]
  rcases hb : Sn.inB x.b (o : Int) with _ | _
  · rw [Bool.false_or, if_neg (show ¬ false = true by simp)]
    unfold strD atO missP
    dsimp only
    rw [farTo_vec x.s x.e hf]
    generalize x.w.find? (fun w => decide (w.2.1 = (o : Int))) = a
    rcases a with _ | w
    · rfl
    · show (if (!hasB (vec (farC v x.s x.e)) w.1) = true then v else vec (farC v x.s x.e)) = pickL (hasB (vec (farC v x.s x.e)) w.1) _ _
      unfold pickL
      by_cases hz : hasB (vec (farC v x.s x.e)) w.1 = true
      · rw [if_neg (by rw [hz]; simp), if_pos hz]
      · rw [if_pos (by simpa using hz), if_neg hz]
  · rfl
theorem newF_tk {z : List Zn} {known : List Vc.St} {x : Nt} (h : zF (-1) none z = true) (hk : fm (-1) known = true) (hx : ntF x = true) (o : Nat) (ho : o < 256) :
    newF (fun v => cov2 v (nowOf known x)) (fun v => farTo v x.s x.e 64) (stP x) z known (o : Int) = tkF z known x (o : Int) := by
  unfold newF tkF
  rw [newR_D h hk hx o ho]
theorem take_is {z : List Zn} {known : List Vc.St} {x : Nt} (h : zF (-1) none z = true) (hk : fm (-1) known = true) (hx : ntF x = true) {m : List Zn}
    (hp : (allP (fun v => cov2 v (nowOf known x)) (fun v => farTo v x.s x.e 64) (stP x) z known).Perm m) (hs : m.Pairwise fun a b => a.1.1 ≤ b.1.1) : joinedZ m = tkZ z known x := by
  obtain ⟨e, _⟩ := take_runs _ (fun v => farTo v x.s x.e 64) (fun v hv => (farTo_ok v x.s x.e hv 64 (Nat.le_refl _)).1) _ h hk hp hs
  rw [e]
  exact rls_congr fun o ho => newF_tk h hk hx o ho

/-- What holds of both holds of the one. -/
theorem strD_or (Q : List Vc.St → Prop) {v : List Vc.St} {x : Nt} (o : Int) (h1 : Q (vec (farC v x.s x.e))) (h2 : Q v) : Q (strD v x o) := by
  unfold strD
  rcases atO x.w o with _ | w
  · exact h1
  · show Q (pickL _ _ _)
    unfold pickL
    split
    · exact h1
    · exact h2
theorem strD_fm {v : List Vc.St} (h : fm (-1) v = true) (x : Nt) (o : Int) : fm (-1) (strD v x o) = true := strD_or (fun u => fm (-1) u = true) o (formed_vec _) h
theorem newD_fm {z : List Zn} {known : List Vc.St} (h : zF (-1) none z = true) (hk : fm (-1) known = true) (x : Nt) (o : Int) : fm (-1) (newD z known x o) = true := by
  unfold newD
  split
  · exact reach_fm h hk o
  · exact strD_fm (reach_fm h hk o) x o
theorem tkF_fm {z : List Zn} {known : List Vc.St} (h : zF (-1) none z = true) (hk : fm (-1) known = true) (x : Nt) (o : Int) (v : List Vc.St) (e : tkF z known x o = some v) : fm (-1) v = true := by
  unfold tkF at e
  split at e
  · cases e
  · rw [← Option.some.inj e]; exact newD_fm h hk x o
theorem tkZ_fm {z : List Zn} {known : List Vc.St} (h : zF (-1) none z = true) (hk : fm (-1) known = true) (x : Nt) : zF (-1) none (tkZ z known x) = true := (rl_ok _ (fun o v e => tkF_fm h hk x o v e) 256 (Nat.le_refl _)).fm
theorem tkZ_tells {z : List Zn} {known : List Vc.St} (h : zF (-1) none z = true) (hk : fm (-1) known = true) (x : Nt) (o : Int) : tells (tkZ z known x) o = if 0 ≤ o ∧ o < ((256 : Nat) : Int) then tkF z known x o else none := (rl_ok _ (fun o v e => tkF_fm h hk x o v e) 256 (Nat.le_refl _)).tell o
theorem reach_tells (z : List Zn) (known : List Vc.St) (o : Int) : reach z known o = (tells z o).getD known := by
  unfold reach tells
  rcases z.find? (inZ o) with _ | y <;> rfl
/-- An object's reach behind a note. -/
theorem reach_tk {z : List Zn} {known : List Vc.St} (h : zF (-1) none z = true) (hk : fm (-1) known = true) (x : Nt) (o : Nat) (ho : o < 256) :
    reach (tkZ z known x) (nowOf known x) (o : Int) = if cov2 (newD z known x o) (nowOf known x) = true then nowOf known x else newD z known x o := by
  rw [reach_tells, tkZ_tells h hk, if_pos (by omega)]
  unfold tkF
  split <;> rfl
/-- Formed zones that are told object by object. -/
theorem rls_is {f : Int → Option (List Vc.St)} {z : List Zn} (h : zF (-1) none z = true) (hf : ∀ o v, f o = some v → fm (-1) v = true) (ht : ∀ o : Nat, o < 256 → f o = tells z o) : rls f 256 = z := by
  have h3 := rl_ok f hf 256 (Nat.le_refl _)
  refine zF_ext h3.fm h fun o => ?_
  refine (h3.tell o).trans ?_
  split
  · rename_i ho
    obtain ⟨k, rfl⟩ := Int.eq_ofNat_of_zero_le ho.1
    exact ht k (by omega)
  · rename_i ho
    symm
    unfold tells
    rcases hz : z.find? (inZ o) with _ | y
    · rfl
    · have hm := List.mem_of_find?_eq_some hz
      have hi := inZ_iff.1 (List.find?_some hz)
      have := zF_in h y hm
      omega
where zF_in : ∀ {e : Int} {p : Option (List Vc.St)} {z : List Zn}, zF e p z = true → ∀ y ∈ z, e < y.1.1 ∧ y.1.2 ≤ 255
  | _, _, [], _, _, hy => by cases hy
  | e, p, x :: r, h, y, hy => by
    rw [zF, Bool.and_eq_true] at h
    obtain ⟨h1, h2, h3, _⟩ := zStep_iff h.1
    rcases List.mem_cons.1 hy with rfl | hy
    · exact ⟨h1, h3⟩
    · have := zF_in h.2 y hy
      omega

theorem vec_ext {u v : List Vc.St} (hu : fm (-1) u = true) (hv : fm (-1) v = true) (h : ∀ n, n < 64 → Vc.cnt u n = Vc.cnt v n) : u = v := fm_ext u v (-1) hu hv h
/-- Stretched twice is stretched once. -/
theorem strD_twice (v : List Vc.St) (x : Nt) (o : Int) : strD (strD v x o) x o = strD v x o := by
  have hff : vec (farC (vec (farC v x.s x.e)) x.s x.e) = vec (farC v x.s x.e) := by
    refine vec_ext (formed_vec _) (formed_vec _) fun n hn => ?_
    have e : ∀ u, farC u x.s x.e n = if Vc.cnt x.s n ≤ Vc.cnt u n then max (Vc.cnt u n) (Vc.cnt x.e n) else Vc.cnt u n := fun _ => rfl
    rw [cnt_far_vec _ _ _ hn, e, cnt_far_vec _ _ _ hn, e]
    split <;> (try split) <;> omega
  unfold strD
  rcases atO x.w o with _ | w
  · dsimp only; rw [hff]
  · dsimp only
    rcases hb : hasB (vec (farC v x.s x.e)) w.1 with _ | _
    · show pickL (hasB (vec (farC v x.s x.e)) w.1) (vec (farC v x.s x.e)) v = v
      rw [hb]; rfl
    · show pickL (hasB (vec (farC (vec (farC v x.s x.e)) x.s x.e)) w.1) (vec (farC (vec (farC v x.s x.e)) x.s x.e)) (vec (farC v x.s x.e)) = vec (farC v x.s x.e)
      rw [hff, hb]; rfl
/-- A vector that covers all that is known stays so. -/
theorem strD_cov {v : List Vc.St} {now : List Vc.St} (x : Nt) (o : Int) (h : cov2 v now = true) : cov2 (strD v x o) now = true := by
  have hf : cov2 (vec (farC v x.s x.e)) now = true := by
    rw [cov2_iff] at h ⊢
    intro n hn
    have := h n hn
    rw [cnt_far_vec _ _ _ hn]
    unfold farC; split <;> omega
  exact strD_or (fun u => cov2 u now = true) o hf h
theorem now_now (known : List Vc.St) (x : Nt) : nowOf (nowOf known x) x = nowOf known x := by
  refine vec_ext (formed_vec _) (formed_vec _) fun n hn => ?_
  rw [cnt_now _ _ hn, cnt_now _ _ hn]; omega
theorem fits_now {known : List Vc.St} {x : Nt} (h : ntFits x known = true) : ntFits x (nowOf known x) = true := by
  unfold ntFits at h ⊢
  rw [covB_iff] at h ⊢
  intro n hn
  have := h n hn
  rw [cnt_now _ _ hn]; omega
/-- A note that is taken twice is taken once. -/
theorem take_twice {z : List Zn} {known : List Vc.St} {x : Nt} (h : zF (-1) none z = true) (hk : fm (-1) known = true) : tkZ (tkZ z known x) (nowOf known x) x = tkZ z known x := by
  have hz := tkZ_fm h hk x
  have hn : fm (-1) (nowOf known x) = true := formed_vec _
  refine rls_is hz (fun o v e => tkF_fm hz hn x o v e) fun o ho => ?_
  rw [tkZ_tells h hk, if_pos (by omega)]
  have hr := reach_tk h hk x o ho
  have hvf := newD_fm h hk x (o : Int)
  unfold tkF
  rw [now_now known x]
  have e : newD (tkZ z known x) (nowOf known x) x (o : Int) = if hasO x.b (o : Int) = true then reach (tkZ z known x) (nowOf known x) (o : Int) else strD (reach (tkZ z known x) (nowOf known x) (o : Int)) x (o : Int) := rfl
  rw [hr] at e
  rcases hc : cov2 (newD z known x (o : Int)) (nowOf known x) with _ | _
  · rw [hc] at e
    simp only [Bool.false_eq_true, if_false] at e
    have e2 : newD (tkZ z known x) (nowOf known x) x (o : Int) = newD z known x (o : Int) := by
      rw [e]
      split
      · rfl
      · rename_i hb
        have e3 : newD z known x (o : Int) = strD (reach z known (o : Int)) x (o : Int) := by unfold newD; rw [if_neg hb]
        rw [e3]
        exact strD_twice _ x _
    rw [e2, hc]
  · rw [hc, if_pos rfl] at e
    have : cov2 (newD (tkZ z known x) (nowOf known x) x (o : Int)) (nowOf known x) = true := by
      have c0 : cov2 (nowOf known x) (nowOf known x) = true := (cov2_iff _ _).2 fun n _ => Int.le_refl _
      rw [e]
      split
      · exact c0
      · exact strD_cov x _ c0
    rw [this, if_pos rfl, if_pos rfl]
def ntE (a : List Vc.St) : Nt := ⟨a, a, [], []⟩
theorem ntE_fm {a : List Vc.St} (h : fm (-1) a = true) : ntF (ntE a) = true := by
  unfold ntF ntH ntE
  simp only [Bool.and_eq_true]
  exact ⟨⟨h, h, (cov2_iff _ _).2 fun n _ => Int.le_refl _, rfl⟩, rfl⟩
theorem ntE_fits (a : List Vc.St) : ntFits (ntE a) a = true := (covB_iff _ _).2 fun _ _ => Int.le_refl _
theorem nowE {a : List Vc.St} (h : fm (-1) a = true) : nowOf a (ntE a) = a := by
  refine vec_ext (formed_vec _) h fun n hn => ?_
  rw [cnt_now _ _ hn]
  show max (Vc.cnt a n) (Vc.cnt a n) = _
  omega
/-- A note that says nothing changes nothing. -/
theorem take_none {z : List Zn} {known : List Vc.St} {x : Nt} (h : zF (-1) none z = true) (hk : fm (-1) known = true) : tkZ (tkZ z known x) (nowOf known x) (ntE (nowOf known x)) = tkZ z known x := by
  have hz := tkZ_fm h hk x
  have hn : fm (-1) (nowOf known x) = true := formed_vec _
  refine rls_is hz (fun o v e => tkF_fm hz hn _ o v e) fun o ho => ?_
  rw [tkZ_tells h hk, if_pos (by omega)]
  have hr := reach_tk h hk x o ho
  have hvf := newD_fm h hk x (o : Int)
  unfold tkF
  rw [nowE hn]
  have hb : hasO (ntE (nowOf known x)).b (o : Int) = false := by unfold hasO ntE; simp [Sn.inB_nil]
  have e : newD (tkZ z known x) (nowOf known x) (ntE (nowOf known x)) (o : Int) = strD (reach (tkZ z known x) (nowOf known x) (o : Int)) (ntE (nowOf known x)) (o : Int) := by
    unfold newD; rw [hb]; rfl
  have hs : ∀ v, fm (-1) v = true → strD v (ntE (nowOf known x)) (o : Int) = v := fun v hv => by
    show vec (farC v (nowOf known x) (nowOf known x)) = v
    refine vec_ext (formed_vec _) hv fun n hn => ?_
    rw [cnt_far_vec _ _ _ hn]
    unfold farC; split <;> omega
  rw [hr] at e
  rcases hc : cov2 (newD z known x (o : Int)) (nowOf known x) with _ | _
  · rw [hc] at e
    simp only [Bool.false_eq_true, if_false] at e
    rw [e, hs _ hvf, hc]
  · rw [hc, if_pos rfl, hs _ hn] at e
    have c0 : cov2 (nowOf known x) (nowOf known x) = true := (cov2_iff _ _).2 fun n _ => Int.le_refl _
    rw [e, c0, if_pos rfl, if_pos rfl]

/-- The objects in zones, as a set. -/
def blurZ (z : List Zn) : List Sn.Sp := Sn.tidy (z.map Prod.fst)
theorem blurZ_has (z : List Zn) (o : Int) (h0 : 0 ≤ o) (h1 : o ≤ 255) : hasO (blurZ z) o = (tells z o).isSome := by
  unfold hasO blurZ
  rw [Sn.tidy_in _ _ h0 h1, zones_in, show (decide (0 ≤ o) && decide (o ≤ 255)) = true by simp [h0, h1], Bool.true_and]
  unfold tells
  rw [Option.isSome_map]
theorem cntZ_le {u v : List Vc.St} (h : ∀ n, n < 64 → Vc.cnt u n ≤ Vc.cnt v n) {s : Vc.St} (hs : hasB u s = true) : hasB v s = true := by
  unfold hasB at hs ⊢
  rw [Bool.and_eq_true, decide_eq_true_eq] at hs ⊢
  refine ⟨hs.1, ?_⟩
  obtain ⟨h1, h2, h3⟩ := (Vc.right_iff _).1 hs.1
  have e := hs.2
  unfold cntZ at e ⊢
  rw [if_pos ⟨h2, h3⟩] at e ⊢
  have := h s.2.toNat (by omega)
  omega
/-- What is sharp and isn't in a note's Blur stays so. -/
theorem take_sharp {z : List Zn} {known : List Vc.St} {x : Nt} (h : zF (-1) none z = true) (hk : fm (-1) known = true) (hx : ntF x = true) (hfit : ntFits x known = true) (o : Nat) (ho : o < 256)
    (h1 : hasO (blurZ z) (o : Int) = false) (h2 : hasO (blurZ (tkZ z known x)) (o : Int) = true) : hasO x.b (o : Int) = true := by
  rw [blurZ_has _ _ (by omega) (by omega)] at h1 h2
  rw [tkZ_tells h hk, if_pos (by omega)] at h2
  rcases hb : hasO x.b (o : Int) with _ | _
  · exfalso
    have hr : reach z known (o : Int) = known := by
      rw [reach_tells]
      rcases ht : tells z (o : Int) with _ | v
      · rfl
      · rw [ht] at h1; cases h1
    have hfar : ∀ n, n < 64 → Vc.cnt (vec (farC known x.s x.e)) n = max (Vc.cnt known n) (Vc.cnt x.e n) := fun n hn => by
      rw [cnt_far_vec _ _ _ hn]
      unfold ntFits at hfit
      have := (covB_iff _ _).1 hfit n hn
      unfold farC
      rw [if_pos this]
    have hs : strD known x (o : Int) = vec (farC known x.s x.e) := by
      unfold strD
      rcases ha : atO x.w (o : Int) with _ | w
      · rfl
      · show pickL (hasB (vec (farC known x.s x.e)) w.1) _ _ = _
        unfold pickL
        rw [if_pos]
        unfold ntF at hx
        rw [Bool.and_eq_true] at hx
        have hw := ((ntW_iff _ _ _ _).1 hx.2).2 w (List.mem_of_find?_eq_some ha)
        refine cntZ_le (fun n hn => ?_) hw.2.2
        rw [hfar n hn]; omega
    have hn : newD z known x (o : Int) = vec (farC known x.s x.e) := by
      unfold newD; rw [hb, hr, hs]; rfl
    have hc : cov2 (newD z known x (o : Int)) (nowOf known x) = true := (cov2_iff _ _).2 fun n hn' => by
      rw [hn, hfar n hn', cnt_now _ _ hn']; exact Int.le_refl _
    unfold tkF at h2
    rw [hc] at h2
    cases h2
  · rfl
/-- No reach falls behind what it was. -/
theorem take_reach {z : List Zn} {known : List Vc.St} {x : Nt} (h : zF (-1) none z = true) (hk : fm (-1) known = true) (o : Nat) (ho : o < 256) (hc : cov2 known (reach z known (o : Int)) = true) :
    cov2 (reach (tkZ z known x) (nowOf known x) (o : Int)) (reach z known (o : Int)) = true ∧ cov2 (nowOf known x) (reach (tkZ z known x) (nowOf known x) (o : Int)) = true := by
  rw [reach_tk h hk x o ho]
  have k := (cov2_iff _ _).1 hc
  have hN : ∀ n, n < 64 → Vc.cnt (reach z known (o : Int)) n ≤ Vc.cnt (newD z known x (o : Int)) n ∧ Vc.cnt (newD z known x (o : Int)) n ≤ Vc.cnt (nowOf known x) n := by
    intro n hn
    have kn := k n hn
    have hfar : Vc.cnt (reach z known (o : Int)) n ≤ Vc.cnt (vec (farC (reach z known (o : Int)) x.s x.e)) n ∧ Vc.cnt (vec (farC (reach z known (o : Int)) x.s x.e)) n ≤ Vc.cnt (nowOf known x) n := by
      rw [cnt_far_vec _ _ _ hn, cnt_now _ _ hn]
      unfold farC; split <;> omega
    have hself : Vc.cnt (reach z known (o : Int)) n ≤ Vc.cnt (reach z known (o : Int)) n ∧ Vc.cnt (reach z known (o : Int)) n ≤ Vc.cnt (nowOf known x) n := by
      rw [cnt_now _ _ hn]; omega
    unfold newD
    split
    · exact hself
    · exact strD_or (fun u => Vc.cnt (reach z known (o : Int)) n ≤ Vc.cnt u n ∧ Vc.cnt u n ≤ Vc.cnt (nowOf known x) n) _ hfar hself
  split
  · refine ⟨(cov2_iff _ _).2 fun n hn => ?_, (cov2_iff _ _).2 fun n _ => Int.le_refl _⟩
    have := k n hn
    rw [cnt_now _ _ hn]; omega
  · exact ⟨(cov2_iff _ _).2 fun n hn => (hN n hn).1, (cov2_iff _ _).2 fun n hn => (hN n hn).2⟩

/-- Up to where all of an interest is. -/
def sinceZ (z : List Zn) (known : List Vc.St) (i : List Sn.Sp) : List Vc.St := if sinceB z known i = [] then known else vec (mt (sinceB z known i))
theorem mt_nonneg' (vs : List (List Vc.St)) (n : Nat) : 0 ≤ mt vs n := by
  by_cases h : vs = []
  · subst h; exact Int.le_refl _
  · obtain ⟨v, _, e⟩ := mt_hit n h
    rw [e]; exact Vc.cnt_nonneg v n
theorem since_is {z : List Zn} (h : zF (-1) none z = true) (known : List Vc.St) (i : List Sn.Sp) : (if sinceA z known i = [] then known else vec (mt (sinceA z known i))) = sinceZ z known i := by
  obtain ⟨h1, h2⟩ := since_same h known i
  unfold sinceZ
  by_cases hs : sinceA z known i = []
  · rw [if_pos hs, if_pos (h2.1 hs)]
  · rw [if_neg hs, if_neg (fun e => hs (h2.2 e)), h1]
theorem since_le {z : List Zn} {known : List Vc.St} {i : List Sn.Sp} (o : Nat) (ho : o < 256) (hi : Sn.setOf i o = true) {n : Nat} (hn : n < 64) : Vc.cnt (sinceZ z known i) n ≤ Vc.cnt (reach z known (o : Int)) n := by
  have hm : reach z known (o : Int) ∈ sinceB z known i := by
    unfold sinceB
    exact List.mem_map.2 ⟨o, List.mem_filter.2 ⟨List.mem_range.2 ho, hi⟩, rfl⟩
  unfold sinceZ
  rw [if_neg (fun e => by rw [e] at hm; cases hm), cnt_vec (mt_nonneg' _) hn]
  exact mt_le n hm
/-- A note from where an interest's reaches begin to all that is known. -/
def ntM (s known : List Vc.St) (b : List Sn.Sp) : Nt := ⟨vec (mt [s, known]), known, b, []⟩
theorem ntM_fm (s : List Vc.St) {known : List Vc.St} (hk : fm (-1) known = true) {b : List Sn.Sp} (hb : Sn.fmS (-2) b = true) : ntF (ntM s known b) = true := by
  unfold ntF ntH ntM
  simp only [Bool.and_eq_true]
  refine ⟨⟨formed_vec _, hk, (cov2_iff _ _).2 fun n hn => ?_, hb⟩, rfl⟩
  rw [cnt_meet _ _ hn]; omega
theorem ntM_fits (s known : List Vc.St) (b : List Sn.Sp) : ntFits (ntM s known b) known = true := (covB_iff _ _).2 fun n hn => by
  show Vc.cnt (vec (mt [s, known])) n ≤ _
  rw [cnt_meet _ _ hn]; omega
theorem ntM_now (s : List Vc.St) {known : List Vc.St} (hk : fm (-1) known = true) (b : List Sn.Sp) : nowOf known (ntM s known b) = known := by
  refine vec_ext (formed_vec _) hk fun n hn => ?_
  rw [cnt_now _ _ hn]
  show max (Vc.cnt known n) (Vc.cnt known n) = _
  omega
theorem take_mends {z : List Zn} {known : List Vc.St} (h : zF (-1) none z = true) (hk : fm (-1) known = true) (i b : List Sn.Sp) :
    ∀ o : Nat, o < 256 → (Sn.setOf (Sn.lessL i b) o && Sn.setOf (blurZ (tkZ z known (ntM (sinceZ z known i) known b))) o) = false := by
  intro o ho
  rcases hl : Sn.setOf (Sn.lessL i b) o with _ | _
  · rfl
  · rw [Bool.true_and]
    unfold Sn.lessL at hl
    rw [Sn.setOf_of _ o ho, Bool.and_eq_true, Bool.not_eq_true'] at hl
    have hb : hasO b (o : Int) = false := by
      unfold hasO
      rw [show Sn.inB b (o : Int) = false from hl.2, Bool.and_false]
    have e := blurZ_has (tkZ z known (ntM (sinceZ z known i) known b)) (o : Int) (by omega) (by omega)
    unfold hasO at e
    rw [show (decide (0 ≤ (o : Int)) && decide ((o : Int) ≤ 255)) = true by simp; omega, Bool.true_and] at e
    unfold Sn.setOf
    rw [e, tkZ_tells h hk, if_pos (by omega)]
    have hn : newD z known (ntM (sinceZ z known i) known b) (o : Int) = vec (farC (reach z known (o : Int)) (vec (mt [sinceZ z known i, known])) known) := by
      unfold newD
      rw [show (ntM (sinceZ z known i) known b).b = b from rfl, hb]
      rfl
    have hc : cov2 (newD z known (ntM (sinceZ z known i) known b) (o : Int)) (nowOf known (ntM (sinceZ z known i) known b)) = true := by
      rw [ntM_now _ hk, hn]
      refine (cov2_iff _ _).2 fun n hn' => ?_
      rw [cnt_far_vec _ _ _ hn']
      have := since_le (z := z) (known := known) (i := i) o ho hl.1 hn'
      unfold farC
      rw [cnt_meet _ _ hn', if_pos (by omega)]
      omega
    unfold tkF
    rw [hc]; rfl
end Go.Proofs.YtepdcbhapjgijaaDoor
