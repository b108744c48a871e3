/-
  geom.Chan: the channel of a unit.
-/
import Derived.Test.YtbfpnpoafepjjaaGeom
import Derived.Test.YtbfpnpoafepjjaaReg
set_option linter.unusedVariables false
set_option linter.unusedSimpArgs false
set_option maxRecDepth 16384
namespace Go.Proofs.Ytbfpnpoafepjjaa
open Go.RowKit

def Geo.chanN (g : Geo) (u : Int) : Int := if g.okB = true ∧ 0 ≤ u ∧ u < g.units then u % g.chans else 0
def Geo.chanE (g : Geo) (u : Int) : Int := if g.okB = true then (if 0 ≤ u ∧ u < g.units then 0 else 2) else 1

set_option maxHeartbeats 1000000 in
theorem geomChan_any (g : Geo) (u : Int) (w : World) (hg : g.Wf) :
    Calls Try.prog 30 #[g.v, .int .i64 u] w fun e w' => e = .returned (.tuple #[.int .i64 (g.chanN u), .int .i64 (g.chanE u)]) ∧ Below w.heap.size w w' := by
  have HW := Lib.hid hg
  clear hg
  obtain ⟨c, l, b, p, s⟩ := g
  have HG := Lib.hid (Blk.new w 23 [.int .i64 c, .int .i64 l, .int .i64 b, .int .i64 p, .int .i64 s])
  unfold Geo.v
  go_enter Try.func30, Try.ntmps30
  (go_wp2_with fail); refine (geomRight_any ⟨c, l, b, p, s⟩ _ HW.out).mono ?_
  rintro e w1 ⟨rfl, hb⟩
  have hk := HG.out.below hb; have k0 : w1.cell? ⟨w.heap.size, 0, none⟩ = some (.int .i64 c) := hk.cell 0; have k1 : w1.cell? ⟨w.heap.size, 1, none⟩ = some (.int .i64 l) := hk.cell 1; have k2 : w1.cell? ⟨w.heap.size, 2, none⟩ = some (.int .i64 b) := hk.cell 2; have k3 : w1.cell? ⟨w.heap.size, 3, none⟩ = some (.int .i64 p) := hk.cell 3; have k4 : w1.cell? ⟨w.heap.size, 4, none⟩ = some (.int .i64 s) := hk.cell 4; have hltk := hk.lt
  have HG1 := Lib.hid hk
  have HB1 := Lib.hid (((Below.refl w.heap.size w).alloc (Nat.le_refl _) _).trans (hb.mono (by simp)))
  clear hb hk
  by_cases hok : Geo.okB ⟨c, l, b, p, s⟩ = true
  · obtain ⟨U, hU⟩ : ∃ r, Geo.units ⟨c, l, b, p, s⟩ = r := ⟨_, rfl⟩
    have hg := Geo.ok_of hok
    have hc := hg.c.1
    simp only at hc
    have hc0 : (c == 0) = false := by simp; omega
    have hc1 : ¬ c = 0 := by omega
    have HU : Hid (∀ wy, Calls Try.prog 19 #[.agg #[.int .i64 c, .int .i64 l, .int .i64 b, .int .i64 p, .int .i64 s]] wy fun e w' => e = .returned (.int .i64 U) ∧ Below wy.heap.size wy w') := by
      intro wy
      have := geomUnits_any ⟨c, l, b, p, s⟩ wy HW.out
      unfold Geo.unitsI at this
      rw [if_pos hok, hU] at this
      exact this
    have hU8 : U ≤ 8 := by
      obtain ⟨m1, m2, m3, m4, m5, m6, m7, m8, m9, m10⟩ := geo_mul hg.c.1 hg.c.2 hg.l.1 hg.l.2 hg.b.1 hg.b.2 hg.p.1 hg.p.2 hg.s.1 hg.s.2
      rw [← hU]
      exact m2
    by_cases hin : 0 ≤ u ∧ u < U
    · have hN : Geo.chanN ⟨c, l, b, p, s⟩ u = u % c := if_pos ⟨hok, by rw [hU]; exact hin⟩
      have hE : Geo.chanE ⟨c, l, b, p, s⟩ u = 0 := by unfold Geo.chanE; rw [if_pos hok, hU, if_pos hin]
      have ham : amongB u U = true := decide_eq_true hin
      have htm : u.tmod c = u % c := Int.tmod_eq_emod_of_nonneg hin.1
      have hwr : IntKind.i64.wrap (u % c) = u % c := by
        have := Int.emod_nonneg u hc1
        have := Int.emod_lt_of_pos u (show 0 < c by omega)
        have := hg.c.2
        simp only at this
        exact wrap_in _ ⟨by omega, by omega⟩
      have HNE := Lib.hid (And.intro hN hE)
      rw [hok]
      clear hok hU hg hN hE hin
      go_wp2_with (first | (go_at_call 19; refine (HU.out _).mono ?_; rintro e w2 ⟨rfl, hb⟩; have hk := HG1.out.below hb; have k0 : w2.cell? ⟨w.heap.size, 0, none⟩ = some (.int .i64 c) := hk.cell 0; have k1 : w2.cell? ⟨w.heap.size, 1, none⟩ = some (.int .i64 l) := hk.cell 1; have k2 : w2.cell? ⟨w.heap.size, 2, none⟩ = some (.int .i64 b) := hk.cell 2; have k3 : w2.cell? ⟨w.heap.size, 3, none⟩ = some (.int .i64 p) := hk.cell 3; have k4 : w2.cell? ⟨w.heap.size, 4, none⟩ = some (.int .i64 s) := hk.cell 4; have hltk := hk.lt; have HB2 := Lib.hid (HB1.out.trans (hb.mono HB1.out.size)); clear hb hk) | (go_at_call 53; refine (among_any _ _ _).mono ?_; rintro e w' ⟨rfl, rfl⟩; rw [ham]))
      go_ret2
      exact ⟨by rw [HNE.out.1, HNE.out.2]; rfl, HB2.out⟩
    · have hN : Geo.chanN ⟨c, l, b, p, s⟩ u = 0 := if_neg (fun h => hin (by rw [← hU]; exact h.2))
      have hE : Geo.chanE ⟨c, l, b, p, s⟩ u = 2 := by unfold Geo.chanE; rw [if_pos hok, hU, if_neg hin]
      have ham : amongB u U = false := decide_eq_false hin
      have HNE := Lib.hid (And.intro hN hE)
      rw [hok]
      clear hok hU hg hN hE hin
      go_wp2_with (first | (go_at_call 19; refine (HU.out _).mono ?_; rintro e w2 ⟨rfl, hb⟩; have hk := HG1.out.below hb; have k0 : w2.cell? ⟨w.heap.size, 0, none⟩ = some (.int .i64 c) := hk.cell 0; have k1 : w2.cell? ⟨w.heap.size, 1, none⟩ = some (.int .i64 l) := hk.cell 1; have k2 : w2.cell? ⟨w.heap.size, 2, none⟩ = some (.int .i64 b) := hk.cell 2; have k3 : w2.cell? ⟨w.heap.size, 3, none⟩ = some (.int .i64 p) := hk.cell 3; have k4 : w2.cell? ⟨w.heap.size, 4, none⟩ = some (.int .i64 s) := hk.cell 4; have hltk := hk.lt; have HB2 := Lib.hid (HB1.out.trans (hb.mono HB1.out.size)); clear hb hk) | (go_at_call 53; refine (among_any _ _ _).mono ?_; rintro e w' ⟨rfl, rfl⟩; rw [ham]))
      go_ret2
      exact ⟨by rw [HNE.out.1, HNE.out.2]; rfl, HB2.out⟩
  · have hN : Geo.chanN ⟨c, l, b, p, s⟩ u = 0 := if_neg (fun h => hok h.1)
    have hE : Geo.chanE ⟨c, l, b, p, s⟩ u = 1 := if_neg hok
    have hk1 : Geo.okB ⟨c, l, b, p, s⟩ = false := by simpa using hok
    have HNE := Lib.hid (And.intro hN hE)
    rw [hk1]
    clear hok hk1 hN hE
    go_wp2
    go_ret2
    exact ⟨by rw [HNE.out.1, HNE.out.2]; rfl, HB1.out⟩

end Go.Proofs.Ytbfpnpoafepjjaa
