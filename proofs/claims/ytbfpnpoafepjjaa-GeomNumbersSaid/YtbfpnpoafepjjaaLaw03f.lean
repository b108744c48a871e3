/-
  The walks of the laws over package geom, sixth part.
-/
import Derived.Test.YtbfpnpoafepjjaaLaw03
import Derived.Test.YtbfpnpoafepjjaaRef03c
set_option linter.unusedVariables false
set_option linter.unusedSimpArgs false
set_option maxRecDepth 16384
namespace Go.Proofs.Ytbfpnpoafepjjaa
open Go.RowKit

set_option maxHeartbeats 4000000 in
theorem geomNumbersWalk (g : Geo) (q : Place) (w : World) (hg : g.Wf) (hq : q.Wf) :
    Calls Try.prog 6 #[g.v, q.v] w fun e w' => e = .returned (.bool true) ∧ Below w.heap.size w w' := by
  have HW := Lib.hid hg
  have HQW := Lib.hid hq
  clear hg hq
  obtain ⟨c, l, b, p, s⟩ := g
  obtain ⟨x0, x1, x2, x3⟩ := q
  have HG := Lib.hid ((Blk.new w 23 [.int .i64 c, .int .i64 l, .int .i64 b, .int .i64 p, .int .i64 s]).alloc (.cells #[.int .i64 x0, .int .i64 x1, .int .i64 x2, .int .i64 x3] 42))
  have HP := Lib.hid (Blk.new1 w (.cells #[.int .i64 c, .int .i64 l, .int .i64 b, .int .i64 p, .int .i64 s] 23) 42 [.int .i64 x0, .int .i64 x1, .int .i64 x2, .int .i64 x3])
  unfold Geo.v Place.v
  go_enter Try.func6, Try.ntmps6
  (go_wp2_with fail); refine (awake03_any _).mono ?_
  rintro e w1 ⟨rfl, hb⟩
  have hp := HP.out.below hb
  have hk := HG.out.below hb; have k0 : w1.cell? ⟨w.heap.size, 0, none⟩ = some (.int .i64 c) := hk.cell 0; have k1 : w1.cell? ⟨w.heap.size, 1, none⟩ = some (.int .i64 l) := hk.cell 1; have k2 : w1.cell? ⟨w.heap.size, 2, none⟩ = some (.int .i64 b) := hk.cell 2; have k3 : w1.cell? ⟨w.heap.size, 3, none⟩ = some (.int .i64 p) := hk.cell 3; have k4 : w1.cell? ⟨w.heap.size, 4, none⟩ = some (.int .i64 s) := hk.cell 4; have hltk := hk.lt
  have j0 : w1.cell? ⟨w.heap.size + 1, 0, none⟩ = some (.int .i64 x0) := hp.cell 0; have j1 : w1.cell? ⟨w.heap.size + 1, 1, none⟩ = some (.int .i64 x1) := hp.cell 1; have j2 : w1.cell? ⟨w.heap.size + 1, 2, none⟩ = some (.int .i64 x2) := hp.cell 2; have j3 : w1.cell? ⟨w.heap.size + 1, 3, none⟩ = some (.int .i64 x3) := hp.cell 3
  have HG1 := Lib.hid hk
  have HP1 := Lib.hid hp
  have HB1 := Lib.hid ((((Below.refl w.heap.size w).alloc (Nat.le_refl _) (.cells #[.int .i64 c, .int .i64 l, .int .i64 b, .int .i64 p, .int .i64 s] 23)).alloc (by simp) (.cells #[.int .i64 x0, .int .i64 x1, .int .i64 x2, .int .i64 x3] 42)).trans (hb.mono (by simp; omega)))
  clear hb hk hp
  (go_wp2_with fail); refine (geomNumber_any ⟨c, l, b, p, s⟩ ⟨x0, x1, x2, x3⟩ _ HW.out HQW.out).mono ?_
  rintro e w2 ⟨rfl, hb⟩
  have hp := HP1.out.below hb
  have hk := HG1.out.below hb; have k0 : w2.cell? ⟨w.heap.size, 0, none⟩ = some (.int .i64 c) := hk.cell 0; have k1 : w2.cell? ⟨w.heap.size, 1, none⟩ = some (.int .i64 l) := hk.cell 1; have k2 : w2.cell? ⟨w.heap.size, 2, none⟩ = some (.int .i64 b) := hk.cell 2; have k3 : w2.cell? ⟨w.heap.size, 3, none⟩ = some (.int .i64 p) := hk.cell 3; have k4 : w2.cell? ⟨w.heap.size, 4, none⟩ = some (.int .i64 s) := hk.cell 4; have hltk := hk.lt
  have j0 : w2.cell? ⟨w.heap.size + 1, 0, none⟩ = some (.int .i64 x0) := hp.cell 0; have j1 : w2.cell? ⟨w.heap.size + 1, 1, none⟩ = some (.int .i64 x1) := hp.cell 1; have j2 : w2.cell? ⟨w.heap.size + 1, 2, none⟩ = some (.int .i64 x2) := hp.cell 2; have j3 : w2.cell? ⟨w.heap.size + 1, 3, none⟩ = some (.int .i64 x3) := hp.cell 3
  have HG2 := Lib.hid hk
  have HP2 := Lib.hid hp
  have HB2 := Lib.hid (HB1.out.trans (hb.mono HB1.out.size))
  clear hb hk hp
  (go_wp2_with fail); refine (ref03Number_any ⟨c, l, b, p, s⟩ ⟨x0, x1, x2, x3⟩ _ HQW.out).mono ?_
  rintro e w3 ⟨rfl, hb⟩
  have hp := HP2.out.below hb
  have hk := HG2.out.below hb; have k0 : w3.cell? ⟨w.heap.size, 0, none⟩ = some (.int .i64 c) := hk.cell 0; have k1 : w3.cell? ⟨w.heap.size, 1, none⟩ = some (.int .i64 l) := hk.cell 1; have k2 : w3.cell? ⟨w.heap.size, 2, none⟩ = some (.int .i64 b) := hk.cell 2; have k3 : w3.cell? ⟨w.heap.size, 3, none⟩ = some (.int .i64 p) := hk.cell 3; have k4 : w3.cell? ⟨w.heap.size, 4, none⟩ = some (.int .i64 s) := hk.cell 4; have hltk := hk.lt
  have j0 : w3.cell? ⟨w.heap.size + 1, 0, none⟩ = some (.int .i64 x0) := hp.cell 0; have j1 : w3.cell? ⟨w.heap.size + 1, 1, none⟩ = some (.int .i64 x1) := hp.cell 1; have j2 : w3.cell? ⟨w.heap.size + 1, 2, none⟩ = some (.int .i64 x2) := hp.cell 2; have j3 : w3.cell? ⟨w.heap.size + 1, 3, none⟩ = some (.int .i64 x3) := hp.cell 3
  have HG3 := Lib.hid hk
  have HP3 := Lib.hid hp
  have HB3 := Lib.hid (HB2.out.trans (hb.mono HB2.out.size))
  clear hb hk hp
  (go_wp2_with fail); refine (geomChan_any ⟨c, l, b, p, s⟩ x0 _ HW.out).mono ?_
  rintro e w4 ⟨rfl, hb⟩
  have hp := HP3.out.below hb
  have hk := HG3.out.below hb; have k0 : w4.cell? ⟨w.heap.size, 0, none⟩ = some (.int .i64 c) := hk.cell 0; have k1 : w4.cell? ⟨w.heap.size, 1, none⟩ = some (.int .i64 l) := hk.cell 1; have k2 : w4.cell? ⟨w.heap.size, 2, none⟩ = some (.int .i64 b) := hk.cell 2; have k3 : w4.cell? ⟨w.heap.size, 3, none⟩ = some (.int .i64 p) := hk.cell 3; have k4 : w4.cell? ⟨w.heap.size, 4, none⟩ = some (.int .i64 s) := hk.cell 4; have hltk := hk.lt
  have j0 : w4.cell? ⟨w.heap.size + 1, 0, none⟩ = some (.int .i64 x0) := hp.cell 0; have j1 : w4.cell? ⟨w.heap.size + 1, 1, none⟩ = some (.int .i64 x1) := hp.cell 1; have j2 : w4.cell? ⟨w.heap.size + 1, 2, none⟩ = some (.int .i64 x2) := hp.cell 2; have j3 : w4.cell? ⟨w.heap.size + 1, 3, none⟩ = some (.int .i64 x3) := hp.cell 3
  have HG4 := Lib.hid hk
  have HP4 := Lib.hid hp
  have HB4 := Lib.hid (HB3.out.trans (hb.mono HB3.out.size))
  clear hb hk hp
  (go_wp2_with fail); refine (ref03Chan_any ⟨c, l, b, p, s⟩ x0 _ HQW.out.1).mono ?_
  rintro e w5 ⟨rfl, hb⟩
  have HB5 := Lib.hid (HB4.out.trans (hb.mono HB4.out.size))
  clear hb
  go_wp2
  go_ret
  exact ⟨ret_bool (by simp), HB5.out⟩

end Go.Proofs.Ytbfpnpoafepjjaa
