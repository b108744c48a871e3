/-
  The walks of package geom.
-/
import Derived.Test.YtlkapaecaeldpaaKit
set_option linter.unusedVariables false
set_option linter.unusedSimpArgs false
set_option maxRecDepth 16384
namespace Go.Proofs.Ytlkapaecaeldpaa
open Go.RowKit

structure Geo.Ok (g : Geo) : Prop where
  c : 1 ≤ g.chans ∧ g.chans ≤ 4
  l : 1 ≤ g.luns ∧ g.luns ≤ 2
  b : 1 ≤ g.blocks ∧ g.blocks ≤ 64
  p : 1 ≤ g.pages ∧ g.pages ≤ 32
  s : 1 ≤ g.sectors ∧ g.sectors ≤ 4

def Geo.okB (g : Geo) : Bool := decide (1 ≤ g.chans ∧ g.chans ≤ 4 ∧ 1 ≤ g.luns ∧ g.luns ≤ 2 ∧ 1 ≤ g.blocks ∧ g.blocks ≤ 64 ∧ 1 ≤ g.pages ∧ g.pages ≤ 32 ∧ 1 ≤ g.sectors ∧ g.sectors ≤ 4)
theorem Geo.ok_of {g : Geo} (h : g.okB = true) : g.Ok := by
  unfold Geo.okB at h
  rw [decide_eq_true_eq] at h
  exact ⟨⟨h.1, h.2.1⟩, ⟨h.2.2.1, h.2.2.2.1⟩, ⟨h.2.2.2.2.1, h.2.2.2.2.2.1⟩, ⟨h.2.2.2.2.2.2.1, h.2.2.2.2.2.2.2.1⟩, ⟨h.2.2.2.2.2.2.2.2.1, h.2.2.2.2.2.2.2.2.2⟩⟩
theorem Geo.ok_to {g : Geo} (h : g.Ok) : g.okB = true := by
  unfold Geo.okB
  rw [decide_eq_true_eq]
  exact ⟨h.c.1, h.c.2, h.l.1, h.l.2, h.b.1, h.b.2, h.p.1, h.p.2, h.s.1, h.s.2⟩
theorem Geo.Ok.wf {g : Geo} (h : g.Ok) : g.Wf := by
  obtain ⟨⟨c1, c2⟩, ⟨l1, l2⟩, ⟨b1, b2⟩, ⟨p1, p2⟩, ⟨s1, s2⟩⟩ := h
  exact ⟨⟨by omega, by omega⟩, ⟨by omega, by omega⟩, ⟨by omega, by omega⟩, ⟨by omega, by omega⟩, ⟨by omega, by omega⟩⟩

def Geo.units (g : Geo) : Int := g.chans * g.luns
def Geo.line (g : Geo) : Int := g.chans * g.luns * g.pages * g.sectors
def Geo.all (g : Geo) : Int := g.chans * g.luns * g.pages * g.sectors * g.blocks
def Geo.stripe (g : Geo) : Int := g.chans * g.luns * g.sectors

theorem geo_mul {c l b p s : Int} (c1 : 1 ≤ c) (c2 : c ≤ 4) (l1 : 1 ≤ l) (l2 : l ≤ 2) (b1 : 1 ≤ b) (b2 : b ≤ 64) (p1 : 1 ≤ p) (p2 : p ≤ 32) (s1 : 1 ≤ s) (s2 : s ≤ 4) :
    1 ≤ c * l ∧ c * l ≤ 8 ∧ 1 ≤ c * l * p ∧ c * l * p ≤ 256 ∧ 1 ≤ c * l * p * s ∧ c * l * p * s ≤ 1024 ∧ 1 ≤ c * l * p * s * b ∧ c * l * p * s * b ≤ 65536 ∧ 1 ≤ c * l * s ∧ c * l * s ≤ 32 := by
  have h1 : 1 ≤ c * l := Int.mul_pos (by omega) (by omega)
  have h2 : c * l ≤ 4 * 2 := Int.mul_le_mul c2 l2 (by omega) (by omega)
  have h3 : 1 ≤ c * l * p := Int.mul_pos (by omega) (by omega)
  have h4 : c * l * p ≤ 8 * 32 := Int.mul_le_mul h2 p2 (by omega) (by omega)
  have h5 : 1 ≤ c * l * p * s := Int.mul_pos (by omega) (by omega)
  have h6 : c * l * p * s ≤ 256 * 4 := Int.mul_le_mul h4 s2 (by omega) (by omega)
  have h7 : 1 ≤ c * l * p * s * b := Int.mul_pos (by omega) (by omega)
  have h8 : c * l * p * s * b ≤ 1024 * 64 := Int.mul_le_mul h6 b2 (by omega) (by omega)
  have h9 : 1 ≤ c * l * s := Int.mul_pos (by omega) (by omega)
  have h10 : c * l * s ≤ 8 * 4 := Int.mul_le_mul h2 s2 (by omega) (by omega)
  omega

def amongB (n m : Int) : Bool := decide (0 ≤ n ∧ n < m)

set_option maxHeartbeats 400000 in
theorem among_any (n m : Int) (w : World) :
    Calls Try.prog 100 #[.int .i64 n, .int .i64 m] w fun e w' => e = .returned (.bool (amongB n m)) ∧ w = w' := by
  go_enter Try.func100, Try.ntmps100
  go_wp2
  all_goals
    go_ret
    exact ⟨ret_bool (by unfold amongB; simp; try omega), rfl⟩

set_option maxHeartbeats 400000 in
theorem geomRight_any (g : Geo) (w : World) (hg : g.Wf) :
    Calls Try.prog 72 #[g.v] w fun e w' => e = .returned (.bool g.okB) ∧ Below w.heap.size w w' := by
  have HG := Lib.hid hg
  clear hg
  obtain ⟨c, l, b, p, s⟩ := g
  unfold Geo.v
  go_enter Try.func72, Try.ntmps72
  go_wp2_with (first | (go_at_call 100; refine (among_any _ _ _).mono ?_; rintro e w' ⟨rfl, rfl⟩))
  all_goals
    go_ret
    refine ⟨ret_bool ?_, (Below.refl _ _).alloc (Nat.le_refl _) _⟩
    obtain ⟨⟨c1, c2⟩, ⟨l1, l2⟩, ⟨b1, b2⟩, ⟨p1, p2⟩, ⟨s1, s2⟩⟩ := HG.out
    simp only [amongB, wrap64, Geo.okB, decide_eq_true_eq, decide_eq_false_iff_not] at *
    first | (rw [decide_eq_decide]; omega) | (symm; rw [decide_eq_false_iff_not]; omega) | (symm; rw [decide_eq_true_eq]; omega)

set_option maxHeartbeats 400000 in
theorem shapeUnits_any (g : Geo) (w : World) (hg : g.Ok) :
    Calls Try.prog 101 #[g.v] w fun e w' => e = .returned (.int .i64 g.units) ∧ Below w.heap.size w w' := by
  have HG := Lib.hid hg
  obtain ⟨c, l, b, p, s⟩ := g
  obtain ⟨⟨c1, c2⟩, ⟨l1, l2⟩, ⟨b1, b2⟩, ⟨p1, p2⟩, ⟨s1, s2⟩⟩ := hg
  simp only at *
  obtain ⟨m1, m2, m3, m4, m5, m6, m7, m8, m9, m10⟩ := geo_mul c1 c2 l1 l2 b1 b2 p1 p2 s1 s2
  unfold Geo.v Geo.units
  simp only
  go_enter Try.func101, Try.ntmps101
  go_wp2
  go_ret
  exact ⟨rfl, (Below.refl _ _).alloc (Nat.le_refl _) _⟩

set_option maxHeartbeats 400000 in
theorem shapeLine_any (g : Geo) (w : World) (hg : g.Ok) :
    Calls Try.prog 96 #[g.v] w fun e w' => e = .returned (.int .i64 g.line) ∧ Below w.heap.size w w' := by
  have HG := Lib.hid hg
  obtain ⟨c, l, b, p, s⟩ := g
  obtain ⟨⟨c1, c2⟩, ⟨l1, l2⟩, ⟨b1, b2⟩, ⟨p1, p2⟩, ⟨s1, s2⟩⟩ := hg
  simp only at *
  obtain ⟨m1, m2, m3, m4, m5, m6, m7, m8, m9, m10⟩ := geo_mul c1 c2 l1 l2 b1 b2 p1 p2 s1 s2
  unfold Geo.v Geo.line
  simp only
  have hw1 : IntKind.i64.wrap (c * l * p) = c * l * p := wrap_in _ ⟨by omega, by omega⟩
  have hw2 : IntKind.i64.wrap (c * l * p * s) = c * l * p * s := wrap_in _ ⟨by omega, by omega⟩
  have HK := Lib.hid ((Blk.new w 151 [.int .i64 c, .int .i64 l, .int .i64 b, .int .i64 p, .int .i64 s]).drew)
  go_enter Try.func96, Try.ntmps96
  go_wp2
  go_region_held3 (fun w' => w'.cell? ⟨w.heap.size, 0, none⟩ = some (.int .i64 c) ∧ w'.cell? ⟨w.heap.size, 1, none⟩ = some (.int .i64 l) ∧ w'.cell? ⟨w.heap.size, 2, none⟩ = some (.int .i64 b) ∧ w'.cell? ⟨w.heap.size, 3, none⟩ = some (.int .i64 p) ∧ w'.cell? ⟨w.heap.size, 4, none⟩ = some (.int .i64 s)) (go_keep) ((go_at_call 101; refine (shapeUnits_any ⟨c, l, b, p, s⟩ _ HG.out).mono ?_; rintro e w1 ⟨rfl, hb⟩; have hk := HK.out.below hb; have k0 : w1.cell? ⟨w.heap.size, 0, none⟩ = some (.int .i64 c) := hk.cell 0; have k1 : w1.cell? ⟨w.heap.size, 1, none⟩ = some (.int .i64 l) := hk.cell 1; have k2 : w1.cell? ⟨w.heap.size, 2, none⟩ = some (.int .i64 b) := hk.cell 2; have k3 : w1.cell? ⟨w.heap.size, 3, none⟩ = some (.int .i64 p) := hk.cell 3; have k4 : w1.cell? ⟨w.heap.size, 4, none⟩ = some (.int .i64 s) := hk.cell 4; have HB := Lib.hid hb; clear hk hb; simp only [Geo.units]))
  go_wp2
  go_ret
  exact ⟨rfl, ((Below.refl _ _).alloc (Nat.le_refl _) _).drew.trans (HB.out.mono (by simp))⟩

set_option maxHeartbeats 400000 in
theorem shapeAll_any (g : Geo) (w : World) (hg : g.Ok) :
    Calls Try.prog 119 #[g.v] w fun e w' => e = .returned (.int .i64 g.all) ∧ Below w.heap.size w w' := by
  have HG := Lib.hid hg
  obtain ⟨c, l, b, p, s⟩ := g
  obtain ⟨⟨c1, c2⟩, ⟨l1, l2⟩, ⟨b1, b2⟩, ⟨p1, p2⟩, ⟨s1, s2⟩⟩ := hg
  simp only at *
  obtain ⟨m1, m2, m3, m4, m5, m6, m7, m8, m9, m10⟩ := geo_mul c1 c2 l1 l2 b1 b2 p1 p2 s1 s2
  unfold Geo.v Geo.all
  simp only
  have hw1 : IntKind.i64.wrap (c * l * p * s * b) = c * l * p * s * b := wrap_in _ ⟨by omega, by omega⟩
  have HK := Lib.hid ((Blk.new w 151 [.int .i64 c, .int .i64 l, .int .i64 b, .int .i64 p, .int .i64 s]).drew)
  go_enter Try.func119, Try.ntmps119
  go_wp2
  go_region_held3 (fun w' => w'.cell? ⟨w.heap.size, 0, none⟩ = some (.int .i64 c) ∧ w'.cell? ⟨w.heap.size, 1, none⟩ = some (.int .i64 l) ∧ w'.cell? ⟨w.heap.size, 2, none⟩ = some (.int .i64 b) ∧ w'.cell? ⟨w.heap.size, 3, none⟩ = some (.int .i64 p) ∧ w'.cell? ⟨w.heap.size, 4, none⟩ = some (.int .i64 s)) (go_keep) ((go_at_call 96; refine (shapeLine_any ⟨c, l, b, p, s⟩ _ HG.out).mono ?_; rintro e w1 ⟨rfl, hb⟩; have hk := HK.out.below hb; have k0 : w1.cell? ⟨w.heap.size, 0, none⟩ = some (.int .i64 c) := hk.cell 0; have k1 : w1.cell? ⟨w.heap.size, 1, none⟩ = some (.int .i64 l) := hk.cell 1; have k2 : w1.cell? ⟨w.heap.size, 2, none⟩ = some (.int .i64 b) := hk.cell 2; have k3 : w1.cell? ⟨w.heap.size, 3, none⟩ = some (.int .i64 p) := hk.cell 3; have k4 : w1.cell? ⟨w.heap.size, 4, none⟩ = some (.int .i64 s) := hk.cell 4; have HB := Lib.hid hb; clear hk hb; simp only [Geo.line]))
  go_wp2
  go_ret
  exact ⟨rfl, ((Below.refl _ _).alloc (Nat.le_refl _) _).drew.trans (HB.out.mono (by simp))⟩

set_option maxHeartbeats 400000 in
theorem shapeStripe_any (g : Geo) (w : World) (hg : g.Ok) :
    Calls Try.prog 102 #[g.v] w fun e w' => e = .returned (.int .i64 g.stripe) ∧ Below w.heap.size w w' := by
  have HG := Lib.hid hg
  obtain ⟨c, l, b, p, s⟩ := g
  obtain ⟨⟨c1, c2⟩, ⟨l1, l2⟩, ⟨b1, b2⟩, ⟨p1, p2⟩, ⟨s1, s2⟩⟩ := hg
  simp only at *
  obtain ⟨m1, m2, m3, m4, m5, m6, m7, m8, m9, m10⟩ := geo_mul c1 c2 l1 l2 b1 b2 p1 p2 s1 s2
  unfold Geo.v Geo.stripe
  simp only
  have hw1 : IntKind.i64.wrap (c * l * s) = c * l * s := wrap_in _ ⟨by omega, by omega⟩
  have HK := Lib.hid ((Blk.new w 151 [.int .i64 c, .int .i64 l, .int .i64 b, .int .i64 p, .int .i64 s]).drew)
  go_enter Try.func102, Try.ntmps102
  go_wp2
  go_region_held3 (fun w' => w'.cell? ⟨w.heap.size, 0, none⟩ = some (.int .i64 c) ∧ w'.cell? ⟨w.heap.size, 1, none⟩ = some (.int .i64 l) ∧ w'.cell? ⟨w.heap.size, 2, none⟩ = some (.int .i64 b) ∧ w'.cell? ⟨w.heap.size, 3, none⟩ = some (.int .i64 p) ∧ w'.cell? ⟨w.heap.size, 4, none⟩ = some (.int .i64 s)) (go_keep) ((go_at_call 101; refine (shapeUnits_any ⟨c, l, b, p, s⟩ _ HG.out).mono ?_; rintro e w1 ⟨rfl, hb⟩; have hk := HK.out.below hb; have k0 : w1.cell? ⟨w.heap.size, 0, none⟩ = some (.int .i64 c) := hk.cell 0; have k1 : w1.cell? ⟨w.heap.size, 1, none⟩ = some (.int .i64 l) := hk.cell 1; have k2 : w1.cell? ⟨w.heap.size, 2, none⟩ = some (.int .i64 b) := hk.cell 2; have k3 : w1.cell? ⟨w.heap.size, 3, none⟩ = some (.int .i64 p) := hk.cell 3; have k4 : w1.cell? ⟨w.heap.size, 4, none⟩ = some (.int .i64 s) := hk.cell 4; have HB := Lib.hid hb; clear hk hb; simp only [Geo.units]))
  go_wp2
  go_ret
  exact ⟨rfl, ((Below.refl _ _).alloc (Nat.le_refl _) _).drew.trans (HB.out.mono (by simp))⟩

def Geo.unitsI (g : Geo) : Int := if g.okB then g.units else 0
def Geo.lineI (g : Geo) : Int := if g.okB then g.line else 0
def Geo.allI (g : Geo) : Int := if g.okB then g.all else 0

set_option maxHeartbeats 400000 in
theorem askedUnits_any (g : Geo) (w : World) (hg : g.Wf) :
    Calls Try.prog 95 #[g.v, .func (Fn.func 101) #[g.v] #[]] w fun e w' => e = .returned (.int .i64 g.unitsI) ∧ Below w.heap.size w w' := by
  have HW := Lib.hid hg
  clear hg
  have HA := Lib.hid ((Below.refl w.heap.size w).alloc (Nat.le_refl _) (.cells #[.int .i64 g.chans, .int .i64 g.luns, .int .i64 g.blocks, .int .i64 g.pages, .int .i64 g.sectors] 23))
  by_cases hok : g.okB = true
  · have HO := Lib.hid (Geo.ok_of hok)
    rw [show g.unitsI = g.units from if_pos hok]
    have HOK := Lib.hid hok
    clear hok
    obtain ⟨c, l, b, p, s⟩ := g
    unfold Geo.v
    go_enter Try.func95, Try.ntmps95
    (go_wp2_with fail); refine (geomRight_any ⟨c, l, b, p, s⟩ _ HW.out).mono ?_
    rintro e w1 ⟨rfl, hb⟩
    rw [HOK.out]
    have HB := Lib.hid (HA.out.trans (hb.mono HA.out.size))
    clear hb
    (go_wp2_with fail); refine (shapeUnits_any ⟨c, l, b, p, s⟩ _ HO.out).mono ?_
    rintro e w2 ⟨rfl, hb⟩
    have HB2 := Lib.hid (HB.out.trans (hb.mono HB.out.size))
    clear hb
    go_wp2
    go_ret
    exact ⟨rfl, HB2.out⟩
  · have HOK : Hid (g.okB = false) := Bool.eq_false_iff.2 hok
    rw [show g.unitsI = 0 from if_neg hok]
    clear hok
    obtain ⟨c, l, b, p, s⟩ := g
    unfold Geo.v
    go_enter Try.func95, Try.ntmps95
    (go_wp2_with fail); refine (geomRight_any ⟨c, l, b, p, s⟩ _ HW.out).mono ?_
    rintro e w1 ⟨rfl, hb⟩
    rw [HOK.out]
    have HB := Lib.hid (HA.out.trans (hb.mono HA.out.size))
    clear hb
    go_wp2
    go_ret
    exact ⟨rfl, HB.out⟩

set_option maxHeartbeats 400000 in
theorem askedLine_any (g : Geo) (w : World) (hg : g.Wf) :
    Calls Try.prog 95 #[g.v, .func (Fn.func 96) #[g.v] #[]] w fun e w' => e = .returned (.int .i64 g.lineI) ∧ Below w.heap.size w w' := by
  have HW := Lib.hid hg
  clear hg
  have HA := Lib.hid ((Below.refl w.heap.size w).alloc (Nat.le_refl _) (.cells #[.int .i64 g.chans, .int .i64 g.luns, .int .i64 g.blocks, .int .i64 g.pages, .int .i64 g.sectors] 23))
  by_cases hok : g.okB = true
  · have HO := Lib.hid (Geo.ok_of hok)
    rw [show g.lineI = g.line from if_pos hok]
    have HOK := Lib.hid hok
    clear hok
    obtain ⟨c, l, b, p, s⟩ := g
    unfold Geo.v
    go_enter Try.func95, Try.ntmps95
    (go_wp2_with fail); refine (geomRight_any ⟨c, l, b, p, s⟩ _ HW.out).mono ?_
    rintro e w1 ⟨rfl, hb⟩
    rw [HOK.out]
    have HB := Lib.hid (HA.out.trans (hb.mono HA.out.size))
    clear hb
    (go_wp2_with fail); refine (shapeLine_any ⟨c, l, b, p, s⟩ _ HO.out).mono ?_
    rintro e w2 ⟨rfl, hb⟩
    have HB2 := Lib.hid (HB.out.trans (hb.mono HB.out.size))
    clear hb
    go_wp2
    go_ret
    exact ⟨rfl, HB2.out⟩
  · have HOK : Hid (g.okB = false) := Bool.eq_false_iff.2 hok
    rw [show g.lineI = 0 from if_neg hok]
    clear hok
    obtain ⟨c, l, b, p, s⟩ := g
    unfold Geo.v
    go_enter Try.func95, Try.ntmps95
    (go_wp2_with fail); refine (geomRight_any ⟨c, l, b, p, s⟩ _ HW.out).mono ?_
    rintro e w1 ⟨rfl, hb⟩
    rw [HOK.out]
    have HB := Lib.hid (HA.out.trans (hb.mono HA.out.size))
    clear hb
    go_wp2
    go_ret
    exact ⟨rfl, HB.out⟩

set_option maxHeartbeats 400000 in
theorem askedAll_any (g : Geo) (w : World) (hg : g.Wf) :
    Calls Try.prog 95 #[g.v, .func (Fn.func 119) #[g.v] #[]] w fun e w' => e = .returned (.int .i64 g.allI) ∧ Below w.heap.size w w' := by
  have HW := Lib.hid hg
  clear hg
  have HA := Lib.hid ((Below.refl w.heap.size w).alloc (Nat.le_refl _) (.cells #[.int .i64 g.chans, .int .i64 g.luns, .int .i64 g.blocks, .int .i64 g.pages, .int .i64 g.sectors] 23))
  by_cases hok : g.okB = true
  · have HO := Lib.hid (Geo.ok_of hok)
    rw [show g.allI = g.all from if_pos hok]
    have HOK := Lib.hid hok
    clear hok
    obtain ⟨c, l, b, p, s⟩ := g
    unfold Geo.v
    go_enter Try.func95, Try.ntmps95
    (go_wp2_with fail); refine (geomRight_any ⟨c, l, b, p, s⟩ _ HW.out).mono ?_
    rintro e w1 ⟨rfl, hb⟩
    rw [HOK.out]
    have HB := Lib.hid (HA.out.trans (hb.mono HA.out.size))
    clear hb
    (go_wp2_with fail); refine (shapeAll_any ⟨c, l, b, p, s⟩ _ HO.out).mono ?_
    rintro e w2 ⟨rfl, hb⟩
    have HB2 := Lib.hid (HB.out.trans (hb.mono HB.out.size))
    clear hb
    go_wp2
    go_ret
    exact ⟨rfl, HB2.out⟩
  · have HOK : Hid (g.okB = false) := Bool.eq_false_iff.2 hok
    rw [show g.allI = 0 from if_neg hok]
    clear hok
    obtain ⟨c, l, b, p, s⟩ := g
    unfold Geo.v
    go_enter Try.func95, Try.ntmps95
    (go_wp2_with fail); refine (geomRight_any ⟨c, l, b, p, s⟩ _ HW.out).mono ?_
    rintro e w1 ⟨rfl, hb⟩
    rw [HOK.out]
    have HB := Lib.hid (HA.out.trans (hb.mono HA.out.size))
    clear hb
    go_wp2
    go_ret
    exact ⟨rfl, HB.out⟩

set_option maxHeartbeats 400000 in
theorem geomUnits_any (g : Geo) (w : World) (hg : g.Wf) :
    Calls Try.prog 74 #[g.v] w fun e w' => e = .returned (.int .i64 g.unitsI) ∧ Below w.heap.size w w' := by
  have hmf : ∀ (fn : Fn) (first cap : Array Value) (w : World), (Instr.makeFunc fn first cap).run Try.prog w = .ok (.func fn first cap) w := fun _ _ _ _ => rfl
  have HW := Lib.hid hg
  clear hg
  obtain ⟨c, l, b, p, s⟩ := g
  unfold Geo.v
  go_enter Try.func74, Try.ntmps74
  (go_wp2_with fail); refine (askedUnits_any ⟨c, l, b, p, s⟩ _ HW.out).mono ?_
  rintro e w2 ⟨rfl, hb⟩
  have HB := Lib.hid (((Below.refl w.heap.size w).alloc (Nat.le_refl _) _).trans (hb.mono (by simp)))
  clear hb
  go_wp2
  go_ret
  exact ⟨rfl, HB.out⟩

set_option maxHeartbeats 400000 in
theorem geomLine_any (g : Geo) (w : World) (hg : g.Wf) :
    Calls Try.prog 40 #[g.v] w fun e w' => e = .returned (.int .i64 g.lineI) ∧ Below w.heap.size w w' := by
  have hmf : ∀ (fn : Fn) (first cap : Array Value) (w : World), (Instr.makeFunc fn first cap).run Try.prog w = .ok (.func fn first cap) w := fun _ _ _ _ => rfl
  have HW := Lib.hid hg
  clear hg
  obtain ⟨c, l, b, p, s⟩ := g
  unfold Geo.v
  go_enter Try.func40, Try.ntmps40
  (go_wp2_with fail); refine (askedLine_any ⟨c, l, b, p, s⟩ _ HW.out).mono ?_
  rintro e w2 ⟨rfl, hb⟩
  have HB := Lib.hid (((Below.refl w.heap.size w).alloc (Nat.le_refl _) _).trans (hb.mono (by simp)))
  clear hb
  go_wp2
  go_ret
  exact ⟨rfl, HB.out⟩

set_option maxHeartbeats 400000 in
theorem geomAll_any (g : Geo) (w : World) (hg : g.Wf) :
    Calls Try.prog 80 #[g.v] w fun e w' => e = .returned (.int .i64 g.allI) ∧ Below w.heap.size w w' := by
  have hmf : ∀ (fn : Fn) (first cap : Array Value) (w : World), (Instr.makeFunc fn first cap).run Try.prog w = .ok (.func fn first cap) w := fun _ _ _ _ => rfl
  have HW := Lib.hid hg
  clear hg
  obtain ⟨c, l, b, p, s⟩ := g
  unfold Geo.v
  go_enter Try.func80, Try.ntmps80
  (go_wp2_with fail); refine (askedAll_any ⟨c, l, b, p, s⟩ _ HW.out).mono ?_
  rintro e w2 ⟨rfl, hb⟩
  have HB := Lib.hid (((Below.refl w.heap.size w).alloc (Nat.le_refl _) _).trans (hb.mono (by simp)))
  clear hb
  go_wp2
  go_ret
  exact ⟨rfl, HB.out⟩

end Go.Proofs.Ytlkapaecaeldpaa
