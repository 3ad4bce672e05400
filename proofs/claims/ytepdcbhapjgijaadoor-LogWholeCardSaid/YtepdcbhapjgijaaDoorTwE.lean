/- Walks over Blurred and Reach of zones, the program's and the document's. -/
import Derived.Test.YtepdcbhapjgijaaDoorTwD
import Derived.Test.YtepdcbhapjgijaaDoorTrA
import Derived.Test.YtepdcbhapjgijaaDoorSpW
import Derived.Test.YtepdcbhapjgijaaDoorSpK
namespace Go.Proofs.YtepdcbhapjgijaaDoor
open Go.RowKit
set_option maxRecDepth 100000

def blurF (z : List Zn) : List Sn.Sp := if zF (-1) none z = true then blurZ z else []
theorem SpOut.nil {w w' : World} (hb : Below w.heap.size w w') : SpOut w w' (.returned (.slice none 0 0)) [] := ⟨none, 0, rfl, World.ownsRow_nil _ _ _ _, hb⟩
/-- A call that hands out stamps of its own. -/
def StOut (w w' : World) (e : Ending) (u : List Vc.St) : Prop :=
  ∃ A' c', e = .returned (.slice A' u.length c') ∧ w'.ownsRow w.heap.size 47 2 (.slice A' u.length c') u.length (sv u) ∧ Below w.heap.size w w'
theorem StOut.nil {w w' : World} (hb : Below w.heap.size w w') : StOut w w' (.returned (.slice none 0 0)) [] := ⟨none, 0, rfl, World.ownsRow_nil _ _ _ _, hb⟩

theorem blurZ_of (z : List Zn) : blurZ z = Sn.of fun o => (z.find? (inZ (o : Int))).isSome := by
  unfold blurZ Sn.tidy
  exact Sn.of_congr fun o _ => zones_in z (o : Int)

/-- Up to where an object is known sharply; nothing of zones that aren't formed. -/
def reachF (z : List Zn) (known : List Vc.St) (o : Int) : List Vc.St := if (zF (-1) none z && fm (-1) known) = true ∧ 0 ≤ o ∧ o ≤ 255 then reach z known o else []
theorem reachF_no1 {z : List Zn} {known : List Vc.St} {o : Int} (h : zF (-1) none z = false) : reachF z known o = [] := by unfold reachF; rw [h]; simp
theorem reachF_no2 {z : List Zn} {known : List Vc.St} {o : Int} (h : fm (-1) known = false) : reachF z known o = [] := by unfold reachF; rw [h]; simp
theorem reachF_no3 {z : List Zn} {known : List Vc.St} {o : Int} (h : ¬ (0 ≤ o ∧ o ≤ 255)) : reachF z known o = [] := by unfold reachF; rw [if_neg (fun e => h e.2)]
theorem reachF_yes {z : List Zn} {known : List Vc.St} {o : Int} (h1 : zF (-1) none z = true) (h2 : fm (-1) known = true) (h3 : 0 ≤ o ∧ o ≤ 255) : reachF z known o = reach z known o := by unfold reachF; rw [h1, h2, if_pos ⟨rfl, h3⟩]
theorem reach_some {z : List Zn} {known : List Vc.St} {o : Int} {x : Zn} (h : z.find? (inZ o) = some x) : reach z known o = x.2 := by unfold reach; rw [h]
theorem reach_none {z : List Zn} {known : List Vc.St} {o : Int} (h : z.find? (inZ o) = none) : reach z known o = known := by unfold reach; rw [h]

end Go.Proofs.YtepdcbhapjgijaaDoor
