/-
  The walks of the laws over package geom.
-/
import Derived.Test.YtbfpnpoafepjjaaRef03b
import Derived.Test.YtbfpnpoafepjjaaGeom3
set_option linter.unusedVariables false
set_option linter.unusedSimpArgs false
set_option maxRecDepth 16384
namespace Go.Proofs.Ytbfpnpoafepjjaa
open Go.RowKit

theorem awake_of : Geo.ofP ⟨2, 1, 3, 4, 2⟩ 5 = ⟨0, 0, 1, 1⟩ ∧ Geo.ofE ⟨2, 1, 3, 4, 2⟩ 5 = 0 := ⟨rfl, rfl⟩

set_option maxHeartbeats 400000 in
theorem awake03_any (w : World) :
    Calls Try.prog 27 #[] w fun e w' => e = .returned (.bool true) ∧ Below w.heap.size w w' := by
  have HA := Lib.hid awake_of
  go_enter Try.func27, Try.ntmps27
  (go_wp2_with fail); refine (geomOf_any ⟨2, 1, 3, 4, 2⟩ 5 _ ⟨⟨by decide, by decide⟩, ⟨by decide, by decide⟩, ⟨by decide, by decide⟩, ⟨by decide, by decide⟩, ⟨by decide, by decide⟩⟩ ⟨by decide, by decide⟩).mono ?_
  rintro e w1 ⟨rfl, hb⟩
  rw [HA.out.1, HA.out.2]
  simp only [Place.v]
  have HB := Lib.hid hb
  clear hb
  go_wp2
  go_ret
  exact ⟨rfl, HB.out.alloc HB.out.size _⟩


end Go.Proofs.Ytbfpnpoafepjjaa
