/-
  The walks of package geom, second part: Of, Number, Chan.
-/
import Derived.Test.YtlkapaecaeldpaaGeoPlain
set_option linter.unusedVariables false
set_option linter.unusedSimpArgs false
set_option maxRecDepth 16384
namespace Go.Proofs.Ytlkapaecaeldpaa
open Go.RowKit

theorem Blk.new1 (w : World) (o : Obj) (t : TypeId) (xs : List Value) : Blk ((w.alloc o).alloc (.cells xs.toArray t)) (w.heap.size + 1) t xs := by
  have h := Blk.new (w.alloc o) t xs
  rwa [show (w.alloc o).heap.size = w.heap.size + 1 from by simp] at h
theorem Blk.set4 {w : World} {g : Nat} {t : TypeId} {a b c d : Value} (h : Blk w g t [a, b, c, d]) (x y z u : Value) :
    Blk ((((w.setCell ⟨g, 0, none⟩ x).setCell ⟨g, 1, none⟩ y).setCell ⟨g, 2, none⟩ z).setCell ⟨g, 3, none⟩ u) g t [x, y, z, u] :=
  (((h.set 0 x).set 1 y).set 2 z).set 3 u
theorem below_set4 {B g : Nat} {w0 w : World} (h : Below B w0 w) (hB : B ≤ g) (x y z u : Value) :
    Below B w0 ((((w.setCell ⟨g, 0, none⟩ x).setCell ⟨g, 1, none⟩ y).setCell ⟨g, 2, none⟩ z).setCell ⟨g, 3, none⟩ u) :=
  (((h.setCell hB x).setCell hB y).setCell hB z).setCell hB u
/-- a struct stored whole -/
theorem ret_place {p q : Place} {a b : Int} (h : p = q) (h2 : a = b) : Ending.returned (.tuple #[p.v, .int .i64 a]) = .returned (.tuple #[q.v, .int .i64 b]) := by rw [h, h2]

set_option maxHeartbeats 1000000 in
theorem geomOf_any (g : Geo) (addr : Int) (w : World) (hg : g.Wf) (ha : IsInt addr) :
    Calls Try.prog 103 #[g.v, .int .i64 addr] w fun e w' => e = .returned (.tuple #[(g.ofP addr).v, .int .i64 (g.ofE addr)]) ∧ Below w.heap.size w w' := by
  obtain ⟨a1, a2⟩ := ha
  have HA := Lib.hid (((Below.refl w.heap.size w).alloc (Nat.le_refl _) (.cells #[.int .i64 g.chans, .int .i64 g.luns, .int .i64 g.blocks, .int .i64 g.pages, .int .i64 g.sectors] 23)).alloc (by simp) (.cells #[.int .i64 0, .int .i64 0, .int .i64 0, .int .i64 0] 84))
  have HZ := Lib.hid (Blk.new1 w (.cells #[.int .i64 g.chans, .int .i64 g.luns, .int .i64 g.blocks, .int .i64 g.pages, .int .i64 g.sectors] 23) 84 [.int .i64 0, .int .i64 0, .int .i64 0, .int .i64 0])
  have HG := Lib.hid ((Blk.new w 23 [.int .i64 g.chans, .int .i64 g.luns, .int .i64 g.blocks, .int .i64 g.pages, .int .i64 g.sectors]).alloc (.cells #[.int .i64 0, .int .i64 0, .int .i64 0, .int .i64 0] 84))
  by_cases hok : g.okB = true
  · have HO := Lib.hid (Geo.ok_of hok)
    have HOK := Lib.hid hok
    have HW := Lib.hid hg
    have HGE := Lib.hid (g.of_ok hok addr)
    have HM := Lib.hid HO.out
    clear hok hg
    obtain ⟨c, l, b, p, s⟩ := g
    obtain ⟨⟨c1, c2⟩, ⟨l1, l2⟩, ⟨b1, b2⟩, ⟨p1, p2⟩, ⟨s1, s2⟩⟩ := HM.out
    simp only at c1 c2 l1 l2 b1 b2 p1 p2 s1 s2
    obtain ⟨m1, m2, m3, m4, m5, m6, m7, m8, m9, m10⟩ := geo_mul c1 c2 l1 l2 b1 b2 p1 p2 s1 s2
    clear HM
    unfold Geo.v
    go_enter Try.func103, Try.ntmps103
    (go_wp2_with fail); refine (geomRight_any ⟨c, l, b, p, s⟩ _ HW.out).mono ?_
    rintro e w1 ⟨rfl, hb⟩
    rw [HOK.out]
    have hz := HZ.out.below hb
    have hgk := HG.out.below hb
    have k0 : w1.cell? ⟨w.heap.size, 0, none⟩ = some (.int .i64 c) := hgk.cell 0; have k1 : w1.cell? ⟨w.heap.size, 1, none⟩ = some (.int .i64 l) := hgk.cell 1; have k2 : w1.cell? ⟨w.heap.size, 2, none⟩ = some (.int .i64 b) := hgk.cell 2; have k3 : w1.cell? ⟨w.heap.size, 3, none⟩ = some (.int .i64 p) := hgk.cell 3; have k4 : w1.cell? ⟨w.heap.size, 4, none⟩ = some (.int .i64 s) := hgk.cell 4
    have HB := Lib.hid (HA.out.trans (hb.mono HA.out.size))
    have hlt := hz.lt
    have HZ1 := Lib.hid (hz.alloc (.cells #[.int .i64 c, .int .i64 l, .int .i64 b, .int .i64 p, .int .i64 s] 151))
    clear hb hz hgk
    have HS := Lib.hid (Blk.new w1 151 [.int .i64 c, .int .i64 l, .int .i64 b, .int .i64 p, .int .i64 s])
    (go_wp2_with fail); refine (shapeAll_any ⟨c, l, b, p, s⟩ _ HO.out).mono ?_
    rintro e w2 ⟨rfl, hb⟩
    have hs2 := HS.out.below hb
    have hz2 := HZ1.out.below hb
    have k0 : w2.cell? ⟨w1.heap.size, 0, none⟩ = some (.int .i64 c) := hs2.cell 0; have k1 : w2.cell? ⟨w1.heap.size, 1, none⟩ = some (.int .i64 l) := hs2.cell 1; have k2 : w2.cell? ⟨w1.heap.size, 2, none⟩ = some (.int .i64 b) := hs2.cell 2; have k3 : w2.cell? ⟨w1.heap.size, 3, none⟩ = some (.int .i64 p) := hs2.cell 3; have k4 : w2.cell? ⟨w1.heap.size, 4, none⟩ = some (.int .i64 s) := hs2.cell 4
    have z0 : w2.cell? ⟨w.heap.size + 1, 0, none⟩ = some (.int .i64 0) := hz2.cell 0; have z1 : w2.cell? ⟨w.heap.size + 1, 1, none⟩ = some (.int .i64 0) := hz2.cell 1; have z2 : w2.cell? ⟨w.heap.size + 1, 2, none⟩ = some (.int .i64 0) := hz2.cell 2; have z3 : w2.cell? ⟨w.heap.size + 1, 3, none⟩ = some (.int .i64 0) := hz2.cell 3; have y0 := hz2.free 0; have y1 := hz2.free 1; have y2 := hz2.free 2; have y3 := hz2.free 3
    have HS2 := Lib.hid hs2
    have HZ2 := Lib.hid hz2
    have HB2 := Lib.hid ((HB.out.alloc (HB.out.size) (.cells #[.int .i64 c, .int .i64 l, .int .i64 b, .int .i64 p, .int .i64 s] 151)).trans (hb.mono (by have := HB.out.size; simp; omega)))
    clear hs2 hz2 hb
    (go_wp2_with fail); refine (among_any _ _ _).mono ?_
    rintro e w2' ⟨rfl, rfl⟩
    by_cases hin : 0 ≤ addr ∧ addr < Geo.all ⟨c, l, b, p, s⟩
    · obtain ⟨q1, q2⟩ := HGE.out.1 hin
      have HQ1 := Lib.hid q1
      have HQ2 := Lib.hid q2
      clear q1 q2
      have ham : Hid (amongB addr (Geo.all ⟨c, l, b, p, s⟩) = true) := decide_eq_true hin
      rw [ham.out]
      obtain ⟨i1, i2⟩ := hin
      (go_wp2_with fail); refine (shapeLine_any ⟨c, l, b, p, s⟩ _ HO.out).mono ?_
      rintro e w3 ⟨rfl, hb⟩
      have hs3 := HS2.out.below hb
      have hz3 := HZ2.out.below hb
      have k0 : w3.cell? ⟨w1.heap.size, 0, none⟩ = some (.int .i64 c) := hs3.cell 0; have k1 : w3.cell? ⟨w1.heap.size, 1, none⟩ = some (.int .i64 l) := hs3.cell 1; have k2 : w3.cell? ⟨w1.heap.size, 2, none⟩ = some (.int .i64 b) := hs3.cell 2; have k3 : w3.cell? ⟨w1.heap.size, 3, none⟩ = some (.int .i64 p) := hs3.cell 3; have k4 : w3.cell? ⟨w1.heap.size, 4, none⟩ = some (.int .i64 s) := hs3.cell 4
      have z0 : w3.cell? ⟨w.heap.size + 1, 0, none⟩ = some (.int .i64 0) := hz3.cell 0; have z1 : w3.cell? ⟨w.heap.size + 1, 1, none⟩ = some (.int .i64 0) := hz3.cell 1; have z2 : w3.cell? ⟨w.heap.size + 1, 2, none⟩ = some (.int .i64 0) := hz3.cell 2; have z3 : w3.cell? ⟨w.heap.size + 1, 3, none⟩ = some (.int .i64 0) := hz3.cell 3; have y0 := hz3.free 0; have y1 := hz3.free 1; have y2 := hz3.free 2; have y3 := hz3.free 3
      have HS3 := Lib.hid hs3.drew
      have HZ3 := Lib.hid hz3.drew
      have HB3 := Lib.hid ((HB2.out.trans (hb.mono HB2.out.size)).drew)
      clear hs3 hz3 hb
      have hl0 : 0 < Geo.line ⟨c, l, b, p, s⟩ := by show 0 < c * l * p * s; omega
      have hu0 : 0 < Geo.units ⟨c, l, b, p, s⟩ := by show 0 < c * l; omega
      have ht0 : 0 < Geo.stripe ⟨c, l, b, p, s⟩ := by show 0 < c * l * s; omega
      have d1 : (s == 0) = false := by rw [beq_eq_false_iff_ne]; omega
      have d2 : (Geo.line ⟨c, l, b, p, s⟩ == 0) = false := by rw [beq_eq_false_iff_ne]; omega
      have d3 : (Geo.units ⟨c, l, b, p, s⟩ == 0) = false := by rw [beq_eq_false_iff_ne]; omega
      have d4 : (Geo.stripe ⟨c, l, b, p, s⟩ == 0) = false := by rw [beq_eq_false_iff_ne]; omega
      have d5 : ¬ s = 0 := by omega
      have d6 : ¬ Geo.line ⟨c, l, b, p, s⟩ = 0 := by omega
      have d7 : ¬ Geo.units ⟨c, l, b, p, s⟩ = 0 := by omega
      have d8 : ¬ Geo.stripe ⟨c, l, b, p, s⟩ = 0 := by omega
      have r0 : 0 ≤ addr % Geo.line ⟨c, l, b, p, s⟩ := Int.emod_nonneg _ d6
      have r1 := Int.emod_lt_of_pos addr hl0
      have hl9 : Geo.line ⟨c, l, b, p, s⟩ ≤ 1024 := m6
      have x0 : 0 ≤ addr % Geo.line ⟨c, l, b, p, s⟩ / s := Int.ediv_nonneg r0 (by omega)
      have x1 : addr % Geo.line ⟨c, l, b, p, s⟩ / s ≤ addr % Geo.line ⟨c, l, b, p, s⟩ := Int.ediv_le_self _ r0
      have y0' : 0 ≤ addr / Geo.line ⟨c, l, b, p, s⟩ := Int.ediv_nonneg i1 (by omega)
      have y1' : addr / Geo.line ⟨c, l, b, p, s⟩ ≤ addr := Int.ediv_le_self _ i1
      have z0' : 0 ≤ addr % Geo.line ⟨c, l, b, p, s⟩ / Geo.stripe ⟨c, l, b, p, s⟩ := Int.ediv_nonneg r0 (by omega)
      have z1' : addr % Geo.line ⟨c, l, b, p, s⟩ / Geo.stripe ⟨c, l, b, p, s⟩ ≤ addr % Geo.line ⟨c, l, b, p, s⟩ := Int.ediv_le_self _ r0
      have e1 : (addr % Geo.line ⟨c, l, b, p, s⟩).tdiv s = addr % Geo.line ⟨c, l, b, p, s⟩ / s := Int.tdiv_eq_ediv_of_nonneg r0
      have e2 : IntKind.i64.wrap (addr % Geo.line ⟨c, l, b, p, s⟩ / s) = addr % Geo.line ⟨c, l, b, p, s⟩ / s := wrap_in _ ⟨by omega, by omega⟩
      have e3 : (addr % Geo.line ⟨c, l, b, p, s⟩ / s).tmod (Geo.units ⟨c, l, b, p, s⟩) = addr % Geo.line ⟨c, l, b, p, s⟩ / s % Geo.units ⟨c, l, b, p, s⟩ := Int.tmod_eq_emod_of_nonneg x0
      have e4 : addr.tdiv (Geo.line ⟨c, l, b, p, s⟩) = addr / Geo.line ⟨c, l, b, p, s⟩ := Int.tdiv_eq_ediv_of_nonneg i1
      have e5 : IntKind.i64.wrap (addr / Geo.line ⟨c, l, b, p, s⟩) = addr / Geo.line ⟨c, l, b, p, s⟩ := wrap_in _ ⟨by omega, by omega⟩
      have e6 : (addr % Geo.line ⟨c, l, b, p, s⟩).tdiv (Geo.stripe ⟨c, l, b, p, s⟩) = addr % Geo.line ⟨c, l, b, p, s⟩ / Geo.stripe ⟨c, l, b, p, s⟩ := Int.tdiv_eq_ediv_of_nonneg r0
      have e7 : IntKind.i64.wrap (addr % Geo.line ⟨c, l, b, p, s⟩ / Geo.stripe ⟨c, l, b, p, s⟩) = addr % Geo.line ⟨c, l, b, p, s⟩ / Geo.stripe ⟨c, l, b, p, s⟩ := wrap_in _ ⟨by omega, by omega⟩
      have e8 : (addr % Geo.line ⟨c, l, b, p, s⟩).tmod s = addr % Geo.line ⟨c, l, b, p, s⟩ % s := Int.tmod_eq_emod_of_nonneg r0
      have hne : w.heap.size + 1 ≠ w1.heap.size := by omega
      have hne2 : w1.heap.size ≠ w.heap.size + 1 := by omega
      go_wp2
      go_region_held3 (fun w' => w'.cell? ⟨w1.heap.size, 0, none⟩ = some (.int .i64 c) ∧ w'.cell? ⟨w1.heap.size, 1, none⟩ = some (.int .i64 l) ∧ w'.cell? ⟨w1.heap.size, 2, none⟩ = some (.int .i64 b) ∧ w'.cell? ⟨w1.heap.size, 3, none⟩ = some (.int .i64 p) ∧ w'.cell? ⟨w1.heap.size, 4, none⟩ = some (.int .i64 s)) (go_keep) (first | ((go_at_call 101; refine (shapeUnits_any ⟨c, l, b, p, s⟩ _ HO.out).mono ?_; rintro e w4 ⟨rfl, hb⟩; have hs4 := HS3.out.below hb; have hz4 := HZ3.out.below hb; have k0 : w4.cell? ⟨w1.heap.size, 0, none⟩ = some (.int .i64 c) := hs4.cell 0; have k1 : w4.cell? ⟨w1.heap.size, 1, none⟩ = some (.int .i64 l) := hs4.cell 1; have k2 : w4.cell? ⟨w1.heap.size, 2, none⟩ = some (.int .i64 b) := hs4.cell 2; have k3 : w4.cell? ⟨w1.heap.size, 3, none⟩ = some (.int .i64 p) := hs4.cell 3; have k4 : w4.cell? ⟨w1.heap.size, 4, none⟩ = some (.int .i64 s) := hs4.cell 4; have z0 : w4.cell? ⟨w.heap.size + 1, 0, none⟩ = some (.int .i64 0) := hz4.cell 0; have z1 : w4.cell? ⟨w.heap.size + 1, 1, none⟩ = some (.int .i64 0) := hz4.cell 1; have z2 : w4.cell? ⟨w.heap.size + 1, 2, none⟩ = some (.int .i64 0) := hz4.cell 2; have z3 : w4.cell? ⟨w.heap.size + 1, 3, none⟩ = some (.int .i64 0) := hz4.cell 3; have y0 := hz4.free 0; have y1 := hz4.free 1; have y2 := hz4.free 2; have y3 := hz4.free 3; have HB4 := Lib.hid (HB3.out.trans (hb.mono HB3.out.size)); clear HB3 HS3 HZ3; have HS3 := Lib.hid hs4; have HZ3 := Lib.hid hz4; have HB3 := HB4; clear HB4 hs4 hz4 hb)) | ((go_at_call 96; refine (shapeLine_any ⟨c, l, b, p, s⟩ _ HO.out).mono ?_; rintro e w4 ⟨rfl, hb⟩; have hs4 := HS3.out.below hb; have hz4 := HZ3.out.below hb; have k0 : w4.cell? ⟨w1.heap.size, 0, none⟩ = some (.int .i64 c) := hs4.cell 0; have k1 : w4.cell? ⟨w1.heap.size, 1, none⟩ = some (.int .i64 l) := hs4.cell 1; have k2 : w4.cell? ⟨w1.heap.size, 2, none⟩ = some (.int .i64 b) := hs4.cell 2; have k3 : w4.cell? ⟨w1.heap.size, 3, none⟩ = some (.int .i64 p) := hs4.cell 3; have k4 : w4.cell? ⟨w1.heap.size, 4, none⟩ = some (.int .i64 s) := hs4.cell 4; have z0 : w4.cell? ⟨w.heap.size + 1, 0, none⟩ = some (.int .i64 0) := hz4.cell 0; have z1 : w4.cell? ⟨w.heap.size + 1, 1, none⟩ = some (.int .i64 0) := hz4.cell 1; have z2 : w4.cell? ⟨w.heap.size + 1, 2, none⟩ = some (.int .i64 0) := hz4.cell 2; have z3 : w4.cell? ⟨w.heap.size + 1, 3, none⟩ = some (.int .i64 0) := hz4.cell 3; have y0 := hz4.free 0; have y1 := hz4.free 1; have y2 := hz4.free 2; have y3 := hz4.free 3; have HB4 := Lib.hid (HB3.out.trans (hb.mono HB3.out.size)); clear HB3 HS3 HZ3; have HS3 := Lib.hid hs4; have HZ3 := Lib.hid hz4; have HB3 := HB4; clear HB4 hs4 hz4 hb)) | ((go_at_call 102; refine (shapeStripe_any ⟨c, l, b, p, s⟩ _ HO.out).mono ?_; rintro e w4 ⟨rfl, hb⟩; have hs4 := HS3.out.below hb; have hz4 := HZ3.out.below hb; have k0 : w4.cell? ⟨w1.heap.size, 0, none⟩ = some (.int .i64 c) := hs4.cell 0; have k1 : w4.cell? ⟨w1.heap.size, 1, none⟩ = some (.int .i64 l) := hs4.cell 1; have k2 : w4.cell? ⟨w1.heap.size, 2, none⟩ = some (.int .i64 b) := hs4.cell 2; have k3 : w4.cell? ⟨w1.heap.size, 3, none⟩ = some (.int .i64 p) := hs4.cell 3; have k4 : w4.cell? ⟨w1.heap.size, 4, none⟩ = some (.int .i64 s) := hs4.cell 4; have z0 : w4.cell? ⟨w.heap.size + 1, 0, none⟩ = some (.int .i64 0) := hz4.cell 0; have z1 : w4.cell? ⟨w.heap.size + 1, 1, none⟩ = some (.int .i64 0) := hz4.cell 1; have z2 : w4.cell? ⟨w.heap.size + 1, 2, none⟩ = some (.int .i64 0) := hz4.cell 2; have z3 : w4.cell? ⟨w.heap.size + 1, 3, none⟩ = some (.int .i64 0) := hz4.cell 3; have y0 := hz4.free 0; have y1 := hz4.free 1; have y2 := hz4.free 2; have y3 := hz4.free 3; have HB4 := Lib.hid (HB3.out.trans (hb.mono HB3.out.size)); clear HB3 HS3 HZ3; have HS3 := Lib.hid hs4; have HZ3 := Lib.hid hz4; have HB3 := HB4; clear HB4 hs4 hz4 hb)))
      clear e1 e2 e3 e4 e5 e6 e7 e8 r0 r1 x0 x1 y0' y1' z0' z1' d1 d2 d3 d4 d5 d6 d7 d8
      go_wp2
      have hfin := HZ3.out.set4 (.int .i64 (addr % Geo.line ⟨c, l, b, p, s⟩ / s % Geo.units ⟨c, l, b, p, s⟩)) (.int .i64 (addr / Geo.line ⟨c, l, b, p, s⟩)) (.int .i64 (addr % Geo.line ⟨c, l, b, p, s⟩ / Geo.stripe ⟨c, l, b, p, s⟩)) (.int .i64 (addr % Geo.line ⟨c, l, b, p, s⟩ % s)); have f0 := hfin.cell 0; have f1 := hfin.cell 1; have f2 := hfin.cell 2; have f3 := hfin.cell 3; simp only [List.getElem?_cons_zero, List.getElem?_cons_succ] at f0 f1 f2 f3; refine bodyPost_ret (v := .tuple #[.agg #[.int .i64 (addr % Geo.line ⟨c, l, b, p, s⟩ / s % Geo.units ⟨c, l, b, p, s⟩), .int .i64 (addr / Geo.line ⟨c, l, b, p, s⟩), .int .i64 (addr % Geo.line ⟨c, l, b, p, s⟩ / Geo.stripe ⟨c, l, b, p, s⟩), .int .i64 (addr % Geo.line ⟨c, l, b, p, s⟩ % s)], .int .i64 0]) (by simp [results, Try.results103, go_sem, f0, f1, f2, f3]) rfl ⟨?_, ?_⟩
      · rw [HQ1.out, HQ2.out]; rfl
      · exact below_set4 HB3.out (by omega) _ _ _ _
    · obtain ⟨q1, q2⟩ := HGE.out.2 hin
      have HQ1 := Lib.hid q1
      have HQ2 := Lib.hid q2
      clear q1 q2
      have ham : Hid (amongB addr (Geo.all ⟨c, l, b, p, s⟩) = false) := decide_eq_false hin
      rw [ham.out]
      clear hin
      go_wp2
      have hfin := HZ2.out.set4 (.int .i64 0) (.int .i64 0) (.int .i64 0) (.int .i64 0); have f0 := hfin.cell 0; have f1 := hfin.cell 1; have f2 := hfin.cell 2; have f3 := hfin.cell 3; simp only [List.getElem?_cons_zero, List.getElem?_cons_succ] at f0 f1 f2 f3; refine bodyPost_ret (v := .tuple #[.agg #[.int .i64 0, .int .i64 0, .int .i64 0, .int .i64 0], .int .i64 2]) (by simp [results, Try.results103, go_sem, f0, f1, f2, f3]) rfl ⟨?_, ?_⟩
      · rw [HQ1.out, HQ2.out]; rfl
      · exact below_set4 HB2.out (by omega) _ _ _ _
  · have HE : Hid (g.ofE addr = 1) := if_neg hok
    have HP : Hid (g.ofP addr = ⟨0, 0, 0, 0⟩) := if_neg (fun h => hok h.1)
    have HOK : Hid (g.okB = false) := Bool.eq_false_iff.2 hok
    have HW := Lib.hid hg
    clear hok hg
    obtain ⟨c, l, b, p, s⟩ := g
    unfold Geo.v
    go_enter Try.func103, Try.ntmps103
    (go_wp2_with fail); refine (geomRight_any ⟨c, l, b, p, s⟩ _ HW.out).mono ?_
    rintro e w1 ⟨rfl, hb⟩
    rw [HOK.out]
    have hz := HZ.out.below hb
    have z0 : w1.cell? ⟨w.heap.size + 1, 0, none⟩ = some (.int .i64 0) := hz.cell 0; have z1 : w1.cell? ⟨w.heap.size + 1, 1, none⟩ = some (.int .i64 0) := hz.cell 1; have z2 : w1.cell? ⟨w.heap.size + 1, 2, none⟩ = some (.int .i64 0) := hz.cell 2; have z3 : w1.cell? ⟨w.heap.size + 1, 3, none⟩ = some (.int .i64 0) := hz.cell 3; have y0 := hz.free 0; have y1 := hz.free 1; have y2 := hz.free 2; have y3 := hz.free 3
    have HB := Lib.hid (HA.out.trans (hb.mono HA.out.size))
    have hz := Lib.hid hz
    clear hb
    go_wp2
    have hfin := hz.out.set4 (.int .i64 0) (.int .i64 0) (.int .i64 0) (.int .i64 0); have f0 := hfin.cell 0; have f1 := hfin.cell 1; have f2 := hfin.cell 2; have f3 := hfin.cell 3; simp only [List.getElem?_cons_zero, List.getElem?_cons_succ] at f0 f1 f2 f3; refine bodyPost_ret (v := .tuple #[.agg #[.int .i64 0, .int .i64 0, .int .i64 0, .int .i64 0], .int .i64 1]) (by simp [results, Try.results103, go_sem, f0, f1, f2, f3]) rfl ⟨?_, ?_⟩
    · rw [HP.out, HE.out]; rfl
    · exact below_set4 HB.out (by omega) _ _ _ _

end Go.Proofs.Ytlkapaecaeldpaa
