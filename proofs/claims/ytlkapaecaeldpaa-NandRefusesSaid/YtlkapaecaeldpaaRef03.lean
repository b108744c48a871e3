/-
  The walks of package strakeref03.
-/
import Derived.Test.YtlkapaecaeldpaaGeom2
set_option linter.unusedVariables false
set_option linter.unusedSimpArgs false
set_option maxRecDepth 16384
namespace Go.Proofs.Ytlkapaecaeldpaa
open Go.RowKit

set_option maxHeartbeats 400000 in
theorem ref03Right_any (g : Geo) (w : World) :
    Calls Try.prog 45 #[g.v] w fun e w' => e = .returned (.bool g.okB) ∧ Below w.heap.size w w' := by
  obtain ⟨c, l, b, p, s⟩ := g
  unfold Geo.v
  go_enter Try.func45, Try.ntmps45
  go_wp2
  all_goals
    go_ret
    refine ⟨ret_bool ?_, (Below.refl _ _).alloc (Nat.le_refl _) _⟩
    simp only [Geo.okB]
    first | (rw [decide_eq_decide]; omega) | (symm; rw [decide_eq_false_iff_not]; omega)

set_option maxHeartbeats 400000 in
theorem ref03Units_any (g : Geo) (w : World) :
    Calls Try.prog 63 #[g.v] w fun e w' => e = .returned (.int .i64 g.unitsI) ∧ Below w.heap.size w w' := by
  by_cases hok : g.okB = true
  · rw [show g.unitsI = g.units from if_pos hok]
    have HOK := Lib.hid hok
    have hg := Geo.ok_of hok
    clear hok
    have HG := Lib.hid hg
    obtain ⟨c, l, b, p, s⟩ := g
    obtain ⟨⟨c1, c2⟩, ⟨l1, l2⟩, ⟨b1, b2⟩, ⟨p1, p2⟩, ⟨s1, s2⟩⟩ := hg
    simp only at *
    obtain ⟨m1, m2, m3, m4, m5, m6, m7, m8, m9, m10⟩ := geo_mul c1 c2 l1 l2 b1 b2 p1 p2 s1 s2
    have HK := Lib.hid (Blk.new w 23 [.int .i64 c, .int .i64 l, .int .i64 b, .int .i64 p, .int .i64 s])
    unfold Geo.v Geo.units
    simp only
    go_enter Try.func63, Try.ntmps63
    (go_wp2_with fail); refine (ref03Right_any ⟨c, l, b, p, s⟩ _).mono ?_
    rintro e w1 ⟨rfl, hb⟩
    rw [HOK.out]
    have hk := HK.out.below hb
    have k0 : w1.cell? ⟨w.heap.size, 0, none⟩ = some (.int .i64 c) := hk.cell 0; have k1 : w1.cell? ⟨w.heap.size, 1, none⟩ = some (.int .i64 l) := hk.cell 1; have k2 : w1.cell? ⟨w.heap.size, 2, none⟩ = some (.int .i64 b) := hk.cell 2; have k3 : w1.cell? ⟨w.heap.size, 3, none⟩ = some (.int .i64 p) := hk.cell 3; have k4 : w1.cell? ⟨w.heap.size, 4, none⟩ = some (.int .i64 s) := hk.cell 4
    have HB := Lib.hid (((Below.refl w.heap.size w).alloc (Nat.le_refl _) _).trans (hb.mono (by simp)))
    clear hk hb
    go_wp2
    go_ret
    exact ⟨rfl, HB.out⟩
  · rw [show g.unitsI = 0 from if_neg hok]
    have HOK : Hid (g.okB = false) := Bool.eq_false_iff.2 hok
    clear hok
    obtain ⟨c, l, b, p, s⟩ := g
    unfold Geo.v
    go_enter Try.func63, Try.ntmps63
    (go_wp2_with fail); refine (ref03Right_any ⟨c, l, b, p, s⟩ _).mono ?_
    rintro e w1 ⟨rfl, hb⟩
    rw [HOK.out]
    have HB := Lib.hid (((Below.refl w.heap.size w).alloc (Nat.le_refl _) _).trans (hb.mono (by simp)))
    clear hb
    go_wp2
    go_ret
    exact ⟨rfl, HB.out⟩

def Geo.oneI (g : Geo) : Int := if g.okB then 1 else 0

set_option maxHeartbeats 400000 in
theorem ref03One_any (g : Geo) (w : World) :
    Calls Try.prog 123 #[g.v] w fun e w' => e = .returned (.int .i64 g.oneI) ∧ Below w.heap.size w w' := by
  by_cases hok : g.okB = true
  · rw [show g.oneI = 1 from if_pos hok]
    have HOK := Lib.hid hok
    clear hok
    obtain ⟨c, l, b, p, s⟩ := g
    unfold Geo.v
    go_enter Try.func123, Try.ntmps123
    (go_wp2_with fail); refine (ref03Right_any ⟨c, l, b, p, s⟩ _).mono ?_
    rintro e w1 ⟨rfl, hb⟩
    rw [HOK.out]
    have HB := Lib.hid (((Below.refl w.heap.size w).alloc (Nat.le_refl _) _).trans (hb.mono (by simp)))
    clear hb
    go_wp2
    go_ret
    exact ⟨rfl, HB.out⟩
  · rw [show g.oneI = 0 from if_neg hok]
    have HOK : Hid (g.okB = false) := Bool.eq_false_iff.2 hok
    clear hok
    obtain ⟨c, l, b, p, s⟩ := g
    unfold Geo.v
    go_enter Try.func123, Try.ntmps123
    (go_wp2_with fail); refine (ref03Right_any ⟨c, l, b, p, s⟩ _).mono ?_
    rintro e w1 ⟨rfl, hb⟩
    rw [HOK.out]
    have HB := Lib.hid (((Below.refl w.heap.size w).alloc (Nat.le_refl _) _).trans (hb.mono (by simp)))
    clear hb
    go_wp2
    go_ret
    exact ⟨rfl, HB.out⟩

set_option maxHeartbeats 1000000 in
theorem ref03Line_any (g : Geo) (w : World) :
    Calls Try.prog 115 #[g.v] w fun e w' => e = .returned (.int .i64 g.lineI) ∧ Below w.heap.size w w' := by
  have HK : Hid (Blk (w.alloc (.cells #[.int .i64 g.chans, .int .i64 g.luns, .int .i64 g.blocks, .int .i64 g.pages, .int .i64 g.sectors] 23)).drew w.heap.size 23 [.int .i64 g.chans, .int .i64 g.luns, .int .i64 g.blocks, .int .i64 g.pages, .int .i64 g.sectors]) := (Blk.new w _ _).drew
  have HB := Lib.hid ((Below.refl w.heap.size w).alloc (Nat.le_refl _) (.cells #[.int .i64 g.chans, .int .i64 g.luns, .int .i64 g.blocks, .int .i64 g.pages, .int .i64 g.sectors] 23)).drew
  by_cases hok : g.okB = true
  · have hu : g.unitsI = g.units := if_pos hok
    have ho : g.oneI = 1 := if_pos hok
    have HU := Lib.hid hu
    have HO1 := Lib.hid ho
    rw [show g.lineI = g.line from if_pos hok]
    have hg := Geo.ok_of hok
    clear hok hu ho
    have HG := Lib.hid hg
    obtain ⟨c, l, b, p, s⟩ := g
    obtain ⟨⟨c1, c2⟩, ⟨l1, l2⟩, ⟨b1, b2⟩, ⟨p1, p2⟩, ⟨s1, s2⟩⟩ := hg
    simp only at *
    obtain ⟨m1, m2, m3, m4, m5, m6, m7, m8, m9, m10⟩ := geo_mul c1 c2 l1 l2 b1 b2 p1 p2 s1 s2
    unfold Geo.v Geo.line
    simp only
    have hw1 : IntKind.i64.wrap (c * l * p) = c * l * p := wrap_in _ ⟨by omega, by omega⟩
    have hw2 : IntKind.i64.wrap (c * l * p * s) = c * l * p * s := wrap_in _ ⟨by omega, by omega⟩
    go_enter Try.func115, Try.ntmps115
    go_wp2
    go_region_held3 (fun w' => w'.cell? ⟨w.heap.size, 0, none⟩ = some (.int .i64 c) ∧ w'.cell? ⟨w.heap.size, 1, none⟩ = some (.int .i64 l) ∧ w'.cell? ⟨w.heap.size, 2, none⟩ = some (.int .i64 b) ∧ w'.cell? ⟨w.heap.size, 3, none⟩ = some (.int .i64 p) ∧ w'.cell? ⟨w.heap.size, 4, none⟩ = some (.int .i64 s)) (go_keep) (first | (go_at_call 63; refine (ref03Units_any ⟨c, l, b, p, s⟩ _).mono ?_; rintro e w1 ⟨rfl, hb⟩; have hk := HK.out.below hb; have k0 : w1.cell? ⟨w.heap.size, 0, none⟩ = some (.int .i64 c) := hk.cell 0; have k1 : w1.cell? ⟨w.heap.size, 1, none⟩ = some (.int .i64 l) := hk.cell 1; have k2 : w1.cell? ⟨w.heap.size, 2, none⟩ = some (.int .i64 b) := hk.cell 2; have k3 : w1.cell? ⟨w.heap.size, 3, none⟩ = some (.int .i64 p) := hk.cell 3; have k4 : w1.cell? ⟨w.heap.size, 4, none⟩ = some (.int .i64 s) := hk.cell 4; have HB1 := Lib.hid (HB.out.trans (hb.mono HB.out.size)); have HK1 := Lib.hid hk; clear HB HK hb hk; have HB := HB1; have HK := HK1; clear HB1 HK1; rw [HU.out]; simp only [Geo.units]) | (go_at_call 123; refine (ref03One_any ⟨c, l, b, p, s⟩ _).mono ?_; rintro e w1 ⟨rfl, hb⟩; have hk := HK.out.below hb; have k0 : w1.cell? ⟨w.heap.size, 0, none⟩ = some (.int .i64 c) := hk.cell 0; have k1 : w1.cell? ⟨w.heap.size, 1, none⟩ = some (.int .i64 l) := hk.cell 1; have k2 : w1.cell? ⟨w.heap.size, 2, none⟩ = some (.int .i64 b) := hk.cell 2; have k3 : w1.cell? ⟨w.heap.size, 3, none⟩ = some (.int .i64 p) := hk.cell 3; have k4 : w1.cell? ⟨w.heap.size, 4, none⟩ = some (.int .i64 s) := hk.cell 4; have HB1 := Lib.hid (HB.out.trans (hb.mono HB.out.size)); have HK1 := Lib.hid hk; clear HB HK hb hk; have HB := HB1; have HK := HK1; clear HB1 HK1; rw [HO1.out]))
    go_wp2
    go_ret
    exact ⟨ret_int (by simp [hw2]), HB.out⟩
  · have hu : g.unitsI = 0 := if_neg hok
    have ho : g.oneI = 0 := if_neg hok
    have HU := Lib.hid hu
    have HO1 := Lib.hid ho
    rw [show g.lineI = 0 from if_neg hok]
    clear hok hu ho
    obtain ⟨c, l, b, p, s⟩ := g
    unfold Geo.v
    have hw0 : IntKind.i64.wrap 0 = 0 := by decide
    go_enter Try.func115, Try.ntmps115
    go_wp2
    go_region_held3 (fun w' => w'.cell? ⟨w.heap.size, 0, none⟩ = some (.int .i64 c) ∧ w'.cell? ⟨w.heap.size, 1, none⟩ = some (.int .i64 l) ∧ w'.cell? ⟨w.heap.size, 2, none⟩ = some (.int .i64 b) ∧ w'.cell? ⟨w.heap.size, 3, none⟩ = some (.int .i64 p) ∧ w'.cell? ⟨w.heap.size, 4, none⟩ = some (.int .i64 s)) (go_keep) (first | (go_at_call 63; refine (ref03Units_any ⟨c, l, b, p, s⟩ _).mono ?_; rintro e w1 ⟨rfl, hb⟩; have hk := HK.out.below hb; have k0 : w1.cell? ⟨w.heap.size, 0, none⟩ = some (.int .i64 c) := hk.cell 0; have k1 : w1.cell? ⟨w.heap.size, 1, none⟩ = some (.int .i64 l) := hk.cell 1; have k2 : w1.cell? ⟨w.heap.size, 2, none⟩ = some (.int .i64 b) := hk.cell 2; have k3 : w1.cell? ⟨w.heap.size, 3, none⟩ = some (.int .i64 p) := hk.cell 3; have k4 : w1.cell? ⟨w.heap.size, 4, none⟩ = some (.int .i64 s) := hk.cell 4; have HB1 := Lib.hid (HB.out.trans (hb.mono HB.out.size)); have HK1 := Lib.hid hk; clear HB HK hb hk; have HB := HB1; have HK := HK1; clear HB1 HK1; rw [HU.out]) | (go_at_call 123; refine (ref03One_any ⟨c, l, b, p, s⟩ _).mono ?_; rintro e w1 ⟨rfl, hb⟩; have hk := HK.out.below hb; have k0 : w1.cell? ⟨w.heap.size, 0, none⟩ = some (.int .i64 c) := hk.cell 0; have k1 : w1.cell? ⟨w.heap.size, 1, none⟩ = some (.int .i64 l) := hk.cell 1; have k2 : w1.cell? ⟨w.heap.size, 2, none⟩ = some (.int .i64 b) := hk.cell 2; have k3 : w1.cell? ⟨w.heap.size, 3, none⟩ = some (.int .i64 p) := hk.cell 3; have k4 : w1.cell? ⟨w.heap.size, 4, none⟩ = some (.int .i64 s) := hk.cell 4; have HB1 := Lib.hid (HB.out.trans (hb.mono HB.out.size)); have HK1 := Lib.hid hk; clear HB HK hb hk; have HB := HB1; have HK := HK1; clear HB1 HK1; rw [HO1.out]))
    go_wp2
    go_ret
    exact ⟨ret_int (by simp [hw0]), HB.out⟩

set_option maxHeartbeats 1000000 in
theorem ref03All_any (g : Geo) (w : World) :
    Calls Try.prog 108 #[g.v] w fun e w' => e = .returned (.int .i64 g.allI) ∧ Below w.heap.size w w' := by
  have HK : Hid (Blk (w.alloc (.cells #[.int .i64 g.chans, .int .i64 g.luns, .int .i64 g.blocks, .int .i64 g.pages, .int .i64 g.sectors] 23)).drew w.heap.size 23 [.int .i64 g.chans, .int .i64 g.luns, .int .i64 g.blocks, .int .i64 g.pages, .int .i64 g.sectors]) := (Blk.new w _ _).drew
  have HB := Lib.hid ((Below.refl w.heap.size w).alloc (Nat.le_refl _) (.cells #[.int .i64 g.chans, .int .i64 g.luns, .int .i64 g.blocks, .int .i64 g.pages, .int .i64 g.sectors] 23)).drew
  by_cases hok : g.okB = true
  · have hu : g.lineI = g.line := if_pos hok
    have ho : g.oneI = 1 := if_pos hok
    have HU := Lib.hid hu
    have HO1 := Lib.hid ho
    rw [show g.allI = g.all from if_pos hok]
    have hg := Geo.ok_of hok
    clear hok hu ho
    have HG := Lib.hid hg
    obtain ⟨c, l, b, p, s⟩ := g
    obtain ⟨⟨c1, c2⟩, ⟨l1, l2⟩, ⟨b1, b2⟩, ⟨p1, p2⟩, ⟨s1, s2⟩⟩ := hg
    simp only at *
    obtain ⟨m1, m2, m3, m4, m5, m6, m7, m8, m9, m10⟩ := geo_mul c1 c2 l1 l2 b1 b2 p1 p2 s1 s2
    unfold Geo.v Geo.all
    simp only
    have hw2 : IntKind.i64.wrap (c * l * p * s * b) = c * l * p * s * b := wrap_in _ ⟨by omega, by omega⟩
    go_enter Try.func108, Try.ntmps108
    go_wp2
    go_region_held3 (fun w' => w'.cell? ⟨w.heap.size, 0, none⟩ = some (.int .i64 c) ∧ w'.cell? ⟨w.heap.size, 1, none⟩ = some (.int .i64 l) ∧ w'.cell? ⟨w.heap.size, 2, none⟩ = some (.int .i64 b) ∧ w'.cell? ⟨w.heap.size, 3, none⟩ = some (.int .i64 p) ∧ w'.cell? ⟨w.heap.size, 4, none⟩ = some (.int .i64 s)) (go_keep) (first | (go_at_call 115; refine (ref03Line_any ⟨c, l, b, p, s⟩ _).mono ?_; rintro e w1 ⟨rfl, hb⟩; have hk := HK.out.below hb; have k0 : w1.cell? ⟨w.heap.size, 0, none⟩ = some (.int .i64 c) := hk.cell 0; have k1 : w1.cell? ⟨w.heap.size, 1, none⟩ = some (.int .i64 l) := hk.cell 1; have k2 : w1.cell? ⟨w.heap.size, 2, none⟩ = some (.int .i64 b) := hk.cell 2; have k3 : w1.cell? ⟨w.heap.size, 3, none⟩ = some (.int .i64 p) := hk.cell 3; have k4 : w1.cell? ⟨w.heap.size, 4, none⟩ = some (.int .i64 s) := hk.cell 4; have HB1 := Lib.hid (HB.out.trans (hb.mono HB.out.size)); have HK1 := Lib.hid hk; clear HB HK hb hk; have HB := HB1; have HK := HK1; clear HB1 HK1; rw [HU.out]; simp only [Geo.line]) | (go_at_call 123; refine (ref03One_any ⟨c, l, b, p, s⟩ _).mono ?_; rintro e w1 ⟨rfl, hb⟩; have hk := HK.out.below hb; have k0 : w1.cell? ⟨w.heap.size, 0, none⟩ = some (.int .i64 c) := hk.cell 0; have k1 : w1.cell? ⟨w.heap.size, 1, none⟩ = some (.int .i64 l) := hk.cell 1; have k2 : w1.cell? ⟨w.heap.size, 2, none⟩ = some (.int .i64 b) := hk.cell 2; have k3 : w1.cell? ⟨w.heap.size, 3, none⟩ = some (.int .i64 p) := hk.cell 3; have k4 : w1.cell? ⟨w.heap.size, 4, none⟩ = some (.int .i64 s) := hk.cell 4; have HB1 := Lib.hid (HB.out.trans (hb.mono HB.out.size)); have HK1 := Lib.hid hk; clear HB HK hb hk; have HB := HB1; have HK := HK1; clear HB1 HK1; rw [HO1.out]))
    go_wp2
    go_ret
    exact ⟨ret_int (by simp [hw2]), HB.out⟩
  · have hu : g.lineI = 0 := if_neg hok
    have ho : g.oneI = 0 := if_neg hok
    have HU := Lib.hid hu
    have HO1 := Lib.hid ho
    rw [show g.allI = 0 from if_neg hok]
    clear hok hu ho
    obtain ⟨c, l, b, p, s⟩ := g
    unfold Geo.v
    have hw0 : IntKind.i64.wrap 0 = 0 := by decide
    go_enter Try.func108, Try.ntmps108
    go_wp2
    go_region_held3 (fun w' => w'.cell? ⟨w.heap.size, 0, none⟩ = some (.int .i64 c) ∧ w'.cell? ⟨w.heap.size, 1, none⟩ = some (.int .i64 l) ∧ w'.cell? ⟨w.heap.size, 2, none⟩ = some (.int .i64 b) ∧ w'.cell? ⟨w.heap.size, 3, none⟩ = some (.int .i64 p) ∧ w'.cell? ⟨w.heap.size, 4, none⟩ = some (.int .i64 s)) (go_keep) (first | (go_at_call 115; refine (ref03Line_any ⟨c, l, b, p, s⟩ _).mono ?_; rintro e w1 ⟨rfl, hb⟩; have hk := HK.out.below hb; have k0 : w1.cell? ⟨w.heap.size, 0, none⟩ = some (.int .i64 c) := hk.cell 0; have k1 : w1.cell? ⟨w.heap.size, 1, none⟩ = some (.int .i64 l) := hk.cell 1; have k2 : w1.cell? ⟨w.heap.size, 2, none⟩ = some (.int .i64 b) := hk.cell 2; have k3 : w1.cell? ⟨w.heap.size, 3, none⟩ = some (.int .i64 p) := hk.cell 3; have k4 : w1.cell? ⟨w.heap.size, 4, none⟩ = some (.int .i64 s) := hk.cell 4; have HB1 := Lib.hid (HB.out.trans (hb.mono HB.out.size)); have HK1 := Lib.hid hk; clear HB HK hb hk; have HB := HB1; have HK := HK1; clear HB1 HK1; rw [HU.out]) | (go_at_call 123; refine (ref03One_any ⟨c, l, b, p, s⟩ _).mono ?_; rintro e w1 ⟨rfl, hb⟩; have hk := HK.out.below hb; have k0 : w1.cell? ⟨w.heap.size, 0, none⟩ = some (.int .i64 c) := hk.cell 0; have k1 : w1.cell? ⟨w.heap.size, 1, none⟩ = some (.int .i64 l) := hk.cell 1; have k2 : w1.cell? ⟨w.heap.size, 2, none⟩ = some (.int .i64 b) := hk.cell 2; have k3 : w1.cell? ⟨w.heap.size, 3, none⟩ = some (.int .i64 p) := hk.cell 3; have k4 : w1.cell? ⟨w.heap.size, 4, none⟩ = some (.int .i64 s) := hk.cell 4; have HB1 := Lib.hid (HB.out.trans (hb.mono HB.out.size)); have HK1 := Lib.hid hk; clear HB HK hb hk; have HB := HB1; have HK := HK1; clear HB1 HK1; rw [HO1.out]))
    go_wp2
    go_ret
    exact ⟨ret_int (by simp [hw0]), HB.out⟩

end Go.Proofs.Ytlkapaecaeldpaa
