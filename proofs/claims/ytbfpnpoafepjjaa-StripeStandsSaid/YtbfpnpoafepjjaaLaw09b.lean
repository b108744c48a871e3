/-
  The walks of the laws over package stripe, second part.
-/
import Derived.Test.YtbfpnpoafepjjaaLaw09
import Derived.Test.YtbfpnpoafepjjaaStripe2
set_option linter.unusedVariables false
set_option linter.unusedSimpArgs false
set_option maxRecDepth 16384
namespace Go.Proofs.Ytbfpnpoafepjjaa
open Go.RowKit

set_option maxHeartbeats 2000000 in
theorem stripeSpotsWalk (g : Geo) (ln k : Int) (w : World) (hg : g.Wf) (hl : (Lit.int .i64 ln).wf = true) (hk : (Lit.int .i64 k).wf = true) :
    Calls Try.prog 9 #[g.v, .int .i64 ln, .int .i64 k] w fun e w' => e = .returned (.bool true) ∧ Below w.heap.size w w' := by
  have HW := Lib.hid hg
  have HI := Lib.hid (wf_i64 hk)
  have HL := Lib.hid (wf_i64 hl)
  clear hg hk hl
  obtain ⟨c, l, b, p, s⟩ := g
  have HG := Lib.hid (Blk.new w 23 [.int .i64 c, .int .i64 l, .int .i64 b, .int .i64 p, .int .i64 s])
  unfold Geo.v
  go_enter Try.func9, Try.ntmps9
  (go_wp2_with fail); refine (awake09_any _).mono ?_
  rintro e w1 ⟨rfl, hb⟩
  have hk := HG.out.below hb; have k0 : w1.cell? ⟨w.heap.size, 0, none⟩ = some (.int .i64 c) := hk.cell 0; have k1 : w1.cell? ⟨w.heap.size, 1, none⟩ = some (.int .i64 l) := hk.cell 1; have k2 : w1.cell? ⟨w.heap.size, 2, none⟩ = some (.int .i64 b) := hk.cell 2; have k3 : w1.cell? ⟨w.heap.size, 3, none⟩ = some (.int .i64 p) := hk.cell 3; have k4 : w1.cell? ⟨w.heap.size, 4, none⟩ = some (.int .i64 s) := hk.cell 4; have hltk := hk.lt
  have HG1 := Lib.hid hk
  have HB1 := Lib.hid (((Below.refl w.heap.size w).alloc (Nat.le_refl _) _).trans (hb.mono (by simp)))
  clear hb hk
  (go_wp2_with fail); refine (stripeSpot_any ⟨c, l, b, p, s⟩ k _ HW.out HI.out).mono ?_
  rintro e w2 ⟨rfl, hb⟩
  have hk := HG1.out.below hb; have k0 : w2.cell? ⟨w.heap.size, 0, none⟩ = some (.int .i64 c) := hk.cell 0; have k1 : w2.cell? ⟨w.heap.size, 1, none⟩ = some (.int .i64 l) := hk.cell 1; have k2 : w2.cell? ⟨w.heap.size, 2, none⟩ = some (.int .i64 b) := hk.cell 2; have k3 : w2.cell? ⟨w.heap.size, 3, none⟩ = some (.int .i64 p) := hk.cell 3; have k4 : w2.cell? ⟨w.heap.size, 4, none⟩ = some (.int .i64 s) := hk.cell 4; have hltk := hk.lt
  have HG2 := Lib.hid hk
  have HB2 := Lib.hid (HB1.out.trans (hb.mono HB1.out.size))
  clear hb hk
  (go_wp2_with fail); refine (ref09Spot_any ⟨c, l, b, p, s⟩ k _ HW.out).mono ?_
  rintro e w3 ⟨rfl, hb⟩
  have hk := HG2.out.below hb; have k0 : w3.cell? ⟨w.heap.size, 0, none⟩ = some (.int .i64 c) := hk.cell 0; have k1 : w3.cell? ⟨w.heap.size, 1, none⟩ = some (.int .i64 l) := hk.cell 1; have k2 : w3.cell? ⟨w.heap.size, 2, none⟩ = some (.int .i64 b) := hk.cell 2; have k3 : w3.cell? ⟨w.heap.size, 3, none⟩ = some (.int .i64 p) := hk.cell 3; have k4 : w3.cell? ⟨w.heap.size, 4, none⟩ = some (.int .i64 s) := hk.cell 4; have hltk := hk.lt
  have HG3 := Lib.hid hk
  have HB3 := Lib.hid (HB2.out.trans (hb.mono HB2.out.size))
  clear hb hk
  (go_wp2_with fail); refine (stripeFirst_any ⟨c, l, b, p, s⟩ ln k _ HW.out HL.out HI.out).mono ?_
  rintro e w4 ⟨rfl, hb⟩
  have hk := HG3.out.below hb; have k0 : w4.cell? ⟨w.heap.size, 0, none⟩ = some (.int .i64 c) := hk.cell 0; have k1 : w4.cell? ⟨w.heap.size, 1, none⟩ = some (.int .i64 l) := hk.cell 1; have k2 : w4.cell? ⟨w.heap.size, 2, none⟩ = some (.int .i64 b) := hk.cell 2; have k3 : w4.cell? ⟨w.heap.size, 3, none⟩ = some (.int .i64 p) := hk.cell 3; have k4 : w4.cell? ⟨w.heap.size, 4, none⟩ = some (.int .i64 s) := hk.cell 4; have hltk := hk.lt
  have HG4 := Lib.hid hk
  have HB4 := Lib.hid (HB3.out.trans (hb.mono HB3.out.size))
  clear hb hk
  (go_wp2_with fail); refine (ref09First_any ⟨c, l, b, p, s⟩ ln k _ HW.out).mono ?_
  rintro e w5 ⟨rfl, hb⟩
  have HB5 := Lib.hid (HB4.out.trans (hb.mono HB4.out.size))
  clear hb
  go_wp2
  go_ret
  exact ⟨ret_bool (by simp), HB5.out⟩

end Go.Proofs.Ytbfpnpoafepjjaa
