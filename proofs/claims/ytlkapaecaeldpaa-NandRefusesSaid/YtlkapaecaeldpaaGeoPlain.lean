/-
  The plain laws of addresses: what the functions of package geom compute, and that places and addresses undo one another.
-/
import Derived.Test.YtlkapaecaeldpaaGeom
set_option linter.unusedVariables false
set_option linter.unusedSimpArgs false
set_option maxRecDepth 16384
namespace Go.Proofs.Ytlkapaecaeldpaa

theorem div_of {q m r : Int} (h0 : 0 ≤ r) (h1 : r < m) : (q * m + r) / m = q ∧ (q * m + r) % m = r := by
  have hm : 0 < m := by omega
  constructor
  · rw [Int.add_comm, Int.add_mul_ediv_right _ _ (by omega), Int.ediv_eq_zero_of_lt h0 h1, Int.zero_add]
  · rw [Int.add_comm, Int.add_mul_emod_self_right, Int.emod_eq_of_lt h0 h1]

/-- the place of an address, and the error -/
def Geo.ofP (g : Geo) (addr : Int) : Place := if g.okB = true ∧ 0 ≤ addr ∧ addr < g.all then ⟨addr % g.line / g.sectors % g.units, addr / g.line, addr % g.line / g.stripe, addr % g.line % g.sectors⟩ else ⟨0, 0, 0, 0⟩
def Geo.ofE (g : Geo) (addr : Int) : Int := if g.okB = true then (if 0 ≤ addr ∧ addr < g.all then 0 else 2) else 1
/-- is it a place? -/
def Geo.inB (g : Geo) (p : Place) : Bool := decide ((0 ≤ p.unit ∧ p.unit < g.units) ∧ (0 ≤ p.block ∧ p.block < g.blocks) ∧ (0 ≤ p.page ∧ p.page < g.pages) ∧ 0 ≤ p.sector ∧ p.sector < g.sectors)
def Geo.ix (g : Geo) (p : Place) : Int := p.block * g.line + p.page * g.stripe + p.unit * g.sectors + p.sector
def Geo.numN (g : Geo) (p : Place) : Int := if g.okB = true ∧ g.inB p = true then g.ix p else 0
def Geo.numE (g : Geo) (p : Place) : Int := if g.okB = true then (if g.inB p = true then 0 else 2) else 1

theorem Geo.line_eq (g : Geo) : g.line = g.pages * g.stripe := by
  unfold Geo.line Geo.stripe
  rw [Int.mul_comm (g.chans * g.luns) g.pages, Int.mul_assoc]
theorem Geo.stripe_eq (g : Geo) : g.stripe = g.units * g.sectors := rfl
theorem Geo.all_eq (g : Geo) : g.all = g.line * g.blocks := rfl

structure Geo.In (g : Geo) (p : Place) : Prop where
  u : 0 ≤ p.unit ∧ p.unit < g.units
  b : 0 ≤ p.block ∧ p.block < g.blocks
  pg : 0 ≤ p.page ∧ p.page < g.pages
  s : 0 ≤ p.sector ∧ p.sector < g.sectors
theorem Geo.in_of {g : Geo} {p : Place} (h : g.inB p = true) : g.In p := by
  unfold Geo.inB at h
  rw [decide_eq_true_eq] at h
  exact ⟨h.1, h.2.1, h.2.2.1, h.2.2.2⟩
theorem Geo.in_to {g : Geo} {p : Place} (h : g.In p) : g.inB p = true := by
  unfold Geo.inB
  rw [decide_eq_true_eq]
  exact ⟨h.u, h.b, h.pg, h.s⟩

/-- a sum of a place's parts, taken apart -/
theorem Geo.parts {g : Geo} {p : Place} (h : g.In p) :
    0 ≤ p.unit * g.sectors + p.sector ∧ p.unit * g.sectors + p.sector < g.stripe ∧
    0 ≤ p.page * g.stripe + (p.unit * g.sectors + p.sector) ∧ p.page * g.stripe + (p.unit * g.sectors + p.sector) < g.line ∧
    0 ≤ p.block * g.line + (p.page * g.stripe + (p.unit * g.sectors + p.sector)) ∧ p.block * g.line + (p.page * g.stripe + (p.unit * g.sectors + p.sector)) < g.all := by
  obtain ⟨⟨u1, u2⟩, ⟨b1, b2⟩, ⟨p1, p2⟩, ⟨s1, s2⟩⟩ := h
  have a1 : 0 ≤ p.unit * g.sectors := Int.mul_nonneg u1 (by omega)
  have a2 : (p.unit + 1) * g.sectors ≤ g.units * g.sectors := Int.mul_le_mul_of_nonneg_right (by omega) (by omega)
  rw [Int.add_mul, Int.one_mul] at a2
  have c1 : p.unit * g.sectors + p.sector < g.stripe := by rw [Geo.stripe_eq]; omega
  have st : 0 < g.stripe := by omega
  have d1 : 0 ≤ p.page * g.stripe := Int.mul_nonneg p1 (by omega)
  have d2 : (p.page + 1) * g.stripe ≤ g.pages * g.stripe := Int.mul_le_mul_of_nonneg_right (by omega) (by omega)
  rw [Int.add_mul, Int.one_mul, ← Geo.line_eq] at d2
  have ln : 0 < g.line := by omega
  have e1 : 0 ≤ p.block * g.line := Int.mul_nonneg b1 (by omega)
  have e2 : (p.block + 1) * g.line ≤ g.blocks * g.line := Int.mul_le_mul_of_nonneg_right (by omega) (by omega)
  rw [Int.add_mul, Int.one_mul, Int.mul_comm g.blocks, ← Geo.all_eq] at e2
  omega

theorem Geo.ix_eq (g : Geo) (p : Place) : g.ix p = p.block * g.line + (p.page * g.stripe + (p.unit * g.sectors + p.sector)) := by unfold Geo.ix; omega

theorem Geo.ix_in {g : Geo} {p : Place} (h : g.In p) : 0 ≤ g.ix p ∧ g.ix p < g.all := by
  have := g.parts h
  rw [Geo.ix_eq]
  omega

theorem Geo.of_ix {g : Geo} (hg : g.Ok) {p : Place} (h : g.In p) : g.ofP (g.ix p) = p ∧ g.ofE (g.ix p) = 0 := by
  have hi := g.ix_in h
  have hp := g.parts h
  have hok := Geo.ok_to hg
  constructor
  · unfold Geo.ofP
    rw [if_pos ⟨hok, hi⟩, Geo.ix_eq]
    have q1 := div_of (q := p.block) hp.2.2.1 hp.2.2.2.1
    rw [q1.1, q1.2]
    have q2 := div_of (q := p.page) hp.1 hp.2.1
    rw [q2.1]
    have e : p.page * g.stripe + (p.unit * g.sectors + p.sector) = (p.page * g.units + p.unit) * g.sectors + p.sector := by
      rw [Geo.stripe_eq, Int.add_mul, Int.mul_assoc]; omega
    rw [e]
    have q3 := div_of (q := p.page * g.units + p.unit) h.s.1 h.s.2
    rw [q3.1, q3.2, (div_of (q := p.page) h.u.1 h.u.2).2]
  · unfold Geo.ofE
    rw [if_pos hok, if_pos hi]

theorem Geo.of_in {g : Geo} (hg : g.Ok) {addr : Int} (h0 : 0 ≤ addr) (h1 : addr < g.all) : g.In (g.ofP addr) ∧ g.ix (g.ofP addr) = addr := by
  have hok := Geo.ok_to hg
  obtain ⟨m1, m2, m3, m4, m5, m6, m7, m8, m9, m10⟩ := geo_mul hg.c.1 hg.c.2 hg.l.1 hg.l.2 hg.b.1 hg.b.2 hg.p.1 hg.p.2 hg.s.1 hg.s.2
  have ln : 0 < g.line := by unfold Geo.line; omega
  have st : 0 < g.stripe := by unfold Geo.stripe; omega
  have un : 0 < g.units := by unfold Geo.units; omega
  have sc : 0 < g.sectors := by have := hg.s.1; omega
  have r0 := Int.emod_nonneg addr (show g.line ≠ 0 by omega)
  have r1 := Int.emod_lt_of_pos addr ln
  have e1 := Int.mul_ediv_add_emod addr g.line
  have e2 := Int.mul_ediv_add_emod (addr % g.line) g.stripe
  have e3 := Int.mul_ediv_add_emod (addr % g.line) g.sectors
  have e4 := Int.mul_ediv_add_emod (addr % g.line / g.sectors) g.units
  have hq : addr % g.line / g.sectors / g.units = addr % g.line / g.stripe := by
    rw [Int.ediv_ediv_of_nonneg (by omega), Int.mul_comm, ← Geo.stripe_eq]
  unfold Geo.ofP
  rw [if_pos ⟨hok, h0, h1⟩]
  constructor
  · refine ⟨⟨Int.emod_nonneg _ (by omega), Int.emod_lt_of_pos _ un⟩, ⟨Int.ediv_nonneg h0 (by omega), ?_⟩, ⟨Int.ediv_nonneg r0 (by omega), ?_⟩, ⟨Int.emod_nonneg _ (by omega), Int.emod_lt_of_pos _ sc⟩⟩
    · exact Int.ediv_lt_of_lt_mul ln (by rw [Int.mul_comm, ← Geo.all_eq]; exact h1)
    · exact Int.ediv_lt_of_lt_mul st (by rw [← Geo.line_eq]; exact r1)
  · rw [Geo.ix_eq]
    dsimp only
    have k1 : addr / g.line * g.line = g.line * (addr / g.line) := Int.mul_comm _ _
    have k2 : addr % g.line / g.sectors % g.units * g.sectors = g.sectors * (addr % g.line / g.sectors) - g.sectors * (g.units * (addr % g.line / g.stripe)) := by
      rw [← hq, ← Int.mul_sub]
      rw [Int.mul_comm]
      congr 1
      omega
    have k3 : g.sectors * (g.units * (addr % g.line / g.stripe)) = addr % g.line / g.stripe * g.stripe := by
      rw [← Int.mul_assoc, Int.mul_comm g.sectors, ← Geo.stripe_eq, Int.mul_comm]
    omega

theorem Geo.num_of {g : Geo} {addr : Int} (h : g.ofE addr = 0) : g.numN (g.ofP addr) = addr ∧ g.numE (g.ofP addr) = 0 := by
  unfold Geo.ofE at h
  split at h
  · rename_i hok
    split at h
    · rename_i hi
      have hg := Geo.ok_of hok
      have hin := g.of_in hg hi.1 hi.2
      unfold Geo.numN Geo.numE
      rw [if_pos ⟨hok, Geo.in_to hin.1⟩, if_pos hok, if_pos (Geo.in_to hin.1)]
      exact ⟨hin.2, rfl⟩
    · cases h
  · cases h

theorem Geo.of_num {g : Geo} {p : Place} (h : g.numE p = 0) : g.ofP (g.numN p) = p ∧ g.ofE (g.numN p) = 0 := by
  unfold Geo.numE at h
  split at h
  · rename_i hok
    split at h
    · rename_i hi
      unfold Geo.numN
      rw [if_pos ⟨hok, hi⟩]
      exact g.of_ix (Geo.ok_of hok) (Geo.in_of hi)
    · cases h
  · cases h

theorem Geo.of_ok (g : Geo) (h : g.okB = true) (addr : Int) :
    (0 ≤ addr ∧ addr < g.all → g.ofP addr = ⟨addr % g.line / g.sectors % g.units, addr / g.line, addr % g.line / g.stripe, addr % g.line % g.sectors⟩ ∧ g.ofE addr = 0) ∧
    (¬ (0 ≤ addr ∧ addr < g.all) → g.ofP addr = ⟨0, 0, 0, 0⟩ ∧ g.ofE addr = 2) := by
  unfold Geo.ofP Geo.ofE
  rw [if_pos h]
  exact ⟨fun k => ⟨if_pos ⟨h, k⟩, if_pos k⟩, fun k => ⟨if_neg (fun q => k q.2), if_neg k⟩⟩

theorem Geo.ofP_wf (g : Geo) (addr : Int) : (g.ofP addr).Wf := by
  by_cases h : g.okB = true ∧ 0 ≤ addr ∧ addr < g.all
  · have hin := (g.of_in (Geo.ok_of h.1) h.2.1 h.2.2).1
    have hg := Geo.ok_of h.1
    obtain ⟨m1, m2, m3, m4, m5, m6, m7, m8, m9, m10⟩ := geo_mul hg.c.1 hg.c.2 hg.l.1 hg.l.2 hg.b.1 hg.b.2 hg.p.1 hg.p.2 hg.s.1 hg.s.2
    have hu : g.units ≤ 8 := m2
    have := hin.u; have := hin.b; have := hin.pg; have := hin.s
    have := hg.b; have := hg.p; have := hg.s
    exact ⟨⟨by omega, by omega⟩, ⟨by omega, by omega⟩, ⟨by omega, by omega⟩, ⟨by omega, by omega⟩⟩
  · unfold Geo.ofP
    rw [if_neg h]
    exact ⟨⟨by decide, by decide⟩, ⟨by decide, by decide⟩, ⟨by decide, by decide⟩, ⟨by decide, by decide⟩⟩
theorem Geo.numN_int (g : Geo) (p : Place) : IsInt (g.numN p) := by
  unfold Geo.numN
  split
  · rename_i h
    have hi := g.ix_in (Geo.in_of h.2)
    have hg := Geo.ok_of h.1
    obtain ⟨m1, m2, m3, m4, m5, m6, m7, m8, m9, m10⟩ := geo_mul hg.c.1 hg.c.2 hg.l.1 hg.l.2 hg.b.1 hg.b.2 hg.p.1 hg.p.2 hg.s.1 hg.s.2
    have ha : g.all ≤ 65536 := m8
    exact ⟨by omega, by omega⟩
  · exact ⟨by decide, by decide⟩

end Go.Proofs.Ytlkapaecaeldpaa
