/-
  The walks of the laws over package geom.
-/
import Derived.Test.YtbeahoimefnofaaRef03b
import Derived.Test.YtbeahoimefnofaaGeom3
set_option linter.unusedVariables false
set_option linter.unusedSimpArgs false
namespace Go.Proofs.Ytbeahoimefnofaa
open Go.RowKit

theorem awake_of : Geo.ofP ⟨2, 1, 3, 4, 2⟩ 5 = ⟨0, 0, 1, 1⟩ ∧ Geo.ofE ⟨2, 1, 3, 4, 2⟩ 5 = 0 := ⟨rfl, rfl⟩

set_option maxHeartbeats 400000 in
theorem awake03_any (w : World) :
    Calls Try.prog 20 #[] w fun e w' => e = .returned (.bool true) ∧ Below w.heap.size w w' := by
  have HA := Lib.hid awake_of
  go_enter Try.func20, Try.ntmps20
  (go_wp2_with fail); refine (geomOf_any ⟨2, 1, 3, 4, 2⟩ 5 _ ⟨⟨by decide, by decide⟩, ⟨by decide, by decide⟩, ⟨by decide, by decide⟩, ⟨by decide, by decide⟩, ⟨by decide, by decide⟩⟩ ⟨by decide, by decide⟩).mono ?_
  rintro e w1 ⟨rfl, hb⟩
  rw [HA.out.1, HA.out.2]
  simp only [Place.v]
  have HB := Lib.hid hb
  clear hb
  go_wp2
  go_ret
  exact ⟨rfl, HB.out.alloc HB.out.size _⟩

set_option maxHeartbeats 1000000 in
theorem geomPlacesWalk (g : Geo) (addr : Int) (w : World) (hg : g.Wf) (ha : (Lit.int .i64 addr).wf = true) :
    Calls Try.prog 6 #[g.v, .int .i64 addr] w fun e w' => e = .returned (.bool true) ∧ Below w.heap.size w w' := by
  have HW := Lib.hid hg
  have HI := Lib.hid (wf_i64 ha)
  clear ha hg
  obtain ⟨pl, hpl⟩ : ∃ q, g.ofP addr = q := ⟨_, rfl⟩
  have HPL := Lib.hid hpl
  clear hpl
  obtain ⟨c, l, b, p, s⟩ := g
  have HG := Lib.hid (Blk.new w 30 [.int .i64 c, .int .i64 l, .int .i64 b, .int .i64 p, .int .i64 s])
  obtain ⟨q0, q1, q2, q3⟩ := pl
  unfold Geo.v
  go_enter Try.func6, Try.ntmps6
  (go_wp2_with fail); refine (awake03_any _).mono ?_
  rintro e w1 ⟨rfl, hb⟩
  have hk := HG.out.below hb
  have k0 : w1.cell? ⟨w.heap.size, 0, none⟩ = some (.int .i64 c) := hk.cell 0; have k1 : w1.cell? ⟨w.heap.size, 1, none⟩ = some (.int .i64 l) := hk.cell 1; have k2 : w1.cell? ⟨w.heap.size, 2, none⟩ = some (.int .i64 b) := hk.cell 2; have k3 : w1.cell? ⟨w.heap.size, 3, none⟩ = some (.int .i64 p) := hk.cell 3; have k4 : w1.cell? ⟨w.heap.size, 4, none⟩ = some (.int .i64 s) := hk.cell 4
  have HG1 := Lib.hid hk
  have HB1 := Lib.hid (((Below.refl w.heap.size w).alloc (Nat.le_refl _) _).trans (hb.mono (by simp)))
  clear hb hk
  (go_wp2_with fail); refine (geomOf_any ⟨c, l, b, p, s⟩ addr _ HW.out HI.out).mono ?_
  rintro e w2 ⟨rfl, hb⟩
  rw [HPL.out]
  simp only [Place.v]
  have hk := HG1.out.below hb
  have k0 : w2.cell? ⟨w.heap.size, 0, none⟩ = some (.int .i64 c) := hk.cell 0; have k1 : w2.cell? ⟨w.heap.size, 1, none⟩ = some (.int .i64 l) := hk.cell 1; have k2 : w2.cell? ⟨w.heap.size, 2, none⟩ = some (.int .i64 b) := hk.cell 2; have k3 : w2.cell? ⟨w.heap.size, 3, none⟩ = some (.int .i64 p) := hk.cell 3; have k4 : w2.cell? ⟨w.heap.size, 4, none⟩ = some (.int .i64 s) := hk.cell 4
  have hlt := hk.lt
  have HG2 := Lib.hid (hk.alloc (.cells #[.int .i64 q0, .int .i64 q1, .int .i64 q2, .int .i64 q3] 32))
  have HQ2 := Lib.hid (Blk.new w2 32 [.int .i64 q0, .int .i64 q1, .int .i64 q2, .int .i64 q3])
  have HB2 := Lib.hid ((HB1.out.trans (hb.mono HB1.out.size)).alloc (Nat.le_trans HB1.out.size hb.size) (.cells #[.int .i64 q0, .int .i64 q1, .int .i64 q2, .int .i64 q3] 32))
  clear hb hk
  (go_wp2_with fail); refine (ref03Of_any ⟨c, l, b, p, s⟩ addr _ HI.out).mono ?_
  rintro e w3 ⟨rfl, hb⟩
  rw [HPL.out]
  simp only [Place.v]
  have hq := HQ2.out.below hb
  have z0 : w3.cell? ⟨w2.heap.size, 0, none⟩ = some (.int .i64 q0) := hq.cell 0; have z1 : w3.cell? ⟨w2.heap.size, 1, none⟩ = some (.int .i64 q1) := hq.cell 1; have z2 : w3.cell? ⟨w2.heap.size, 2, none⟩ = some (.int .i64 q2) := hq.cell 2; have z3 : w3.cell? ⟨w2.heap.size, 3, none⟩ = some (.int .i64 q3) := hq.cell 3
  have hlt3 := hq.lt
  have HB3 := Lib.hid ((HB2.out.trans (hb.mono HB2.out.size)))
  clear hb hq
  go_wp2
  go_ret
  exact ⟨ret_bool (by simp), HB3.out.alloc HB3.out.size _⟩

end Go.Proofs.Ytbeahoimefnofaa
