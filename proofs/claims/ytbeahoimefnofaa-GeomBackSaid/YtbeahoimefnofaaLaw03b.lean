/-
  The walks of the laws over package geom, second part.
-/
import Derived.Test.YtbeahoimefnofaaLaw03
set_option linter.unusedVariables false
set_option linter.unusedSimpArgs false
namespace Go.Proofs.Ytbeahoimefnofaa
open Go.RowKit

theorem Geo.wf_of_okB {g : Geo} (h : g.okB = true) : g.Wf := (Geo.ok_of h).wf

set_option maxHeartbeats 1000000 in
theorem geomRightsWalk (g : Geo) (w : World) (hg : g.Wf) :
    Calls Try.prog 9 #[g.v] w fun e w' => e = .returned (.bool true) ∧ Below w.heap.size w w' := by
  have HW := Lib.hid hg
  clear hg
  obtain ⟨c, l, b, p, s⟩ := g
  have HG := Lib.hid (Blk.new w 30 [.int .i64 c, .int .i64 l, .int .i64 b, .int .i64 p, .int .i64 s])
  unfold Geo.v
  go_enter Try.func9, Try.ntmps9
  (go_wp2_with fail); refine (awake03_any _).mono ?_
  rintro e w1 ⟨rfl, hb⟩
  have hk := HG.out.below hb; have k0 : w1.cell? ⟨w.heap.size, 0, none⟩ = some (.int .i64 c) := hk.cell 0; have k1 : w1.cell? ⟨w.heap.size, 1, none⟩ = some (.int .i64 l) := hk.cell 1; have k2 : w1.cell? ⟨w.heap.size, 2, none⟩ = some (.int .i64 b) := hk.cell 2; have k3 : w1.cell? ⟨w.heap.size, 3, none⟩ = some (.int .i64 p) := hk.cell 3; have k4 : w1.cell? ⟨w.heap.size, 4, none⟩ = some (.int .i64 s) := hk.cell 4; have hltk := hk.lt
  have HB1 := Lib.hid (((Below.refl w.heap.size w).alloc (Nat.le_refl _) _).trans (hb.mono (by simp)))
  clear hb hk
  go_wp2
  refine wp_region_b 29 (by kernel_rfl) (by kernel_rfl) ?_
  simp only [List.take_succ_cons, List.take_zero, List.drop_succ_cons, List.drop_zero]
  repeat (first
    | (refine SeqC.run (v := ?_) ?_ (fun wz hz => ?_) ?_; rotate_left; (· rfl); (· have hzc := hz.cell; have hzf := hz.frozen; go_simp; first | exact UponS.value hz | exact UponS.skip hz | (refine UponS.call ?_; first | (go_at_call 26; refine (geomRight_any ⟨c, l, b, p, s⟩ _ HW.out).mono ?_; rintro e wy ⟨rfl, hb⟩; refine ⟨?_, hz.step hb⟩; rfl) | (go_at_call 27; refine (ref03Right_any ⟨c, l, b, p, s⟩ _).mono ?_; rintro e wy ⟨rfl, hb⟩; refine ⟨?_, hz.step hb⟩; rfl) | (go_at_call 28; refine (geomUnits_any ⟨c, l, b, p, s⟩ _ HW.out).mono ?_; rintro e wy ⟨rfl, hb⟩; refine ⟨?_, hz.step hb⟩; rfl) | (go_at_call 29; refine (ref03Units_any ⟨c, l, b, p, s⟩ _).mono ?_; rintro e wy ⟨rfl, hb⟩; refine ⟨?_, hz.step hb⟩; rfl) | (go_at_call 23; refine (geomLine_any ⟨c, l, b, p, s⟩ _ HW.out).mono ?_; rintro e wy ⟨rfl, hb⟩; refine ⟨?_, hz.step hb⟩; rfl) | (go_at_call 30; refine (ref03Line_any ⟨c, l, b, p, s⟩ _).mono ?_; rintro e wy ⟨rfl, hb⟩; refine ⟨?_, hz.step hb⟩; rfl) | (go_at_call 31; refine (geomAll_any ⟨c, l, b, p, s⟩ _ HW.out).mono ?_; rintro e wy ⟨rfl, hb⟩; refine ⟨?_, hz.step hb⟩; rfl) | (go_at_call 32; refine (ref03All_any ⟨c, l, b, p, s⟩ _).mono ?_; rintro e wy ⟨rfl, hb⟩; refine ⟨?_, hz.step hb⟩; rfl))); (try simp only [Act.put, List.setIfInBounds_toArray, List.set_cons_zero, List.set_cons_succ]))
    | (refine SeqC.skip ?_ ?_; (· rfl); (try simp only [Act.put, List.setIfInBounds_toArray, List.set_cons_zero, List.set_cons_succ])))
  refine fun wz hz => ?_
  go_wp2
  go_ret
  exact ⟨ret_bool (by simp), HB1.out.drew.trans (hz.below.mono HB1.out.size)⟩

set_option maxHeartbeats 2000000 in
theorem geomBackWalk (g : Geo) (addr : Int) (q : Place) (w : World) (hg : g.Wf) (ha : (Lit.int .i64 addr).wf = true) (hq : q.Wf) :
    Calls Try.prog 13 #[g.v, .int .i64 addr, q.v] w fun e w' => e = .returned (.bool true) ∧ Below w.heap.size w w' := by
  have HW := Lib.hid hg
  have HQW := Lib.hid hq
  have HI := Lib.hid (wf_i64 ha)
  have HOF := Lib.hid (fun h => Geo.num_of (g := g) (addr := addr) h)
  have HON := Lib.hid (fun h => Geo.of_num (g := g) (p := q) h)
  have HPW := Lib.hid (Geo.ofP_wf g addr)
  have HNI := Lib.hid (Geo.numN_int g q)
  clear ha hg hq
  obtain ⟨pl, hpl⟩ : ∃ r, g.ofP addr = r := ⟨_, rfl⟩
  obtain ⟨E1, hE1⟩ : ∃ r, g.ofE addr = r := ⟨_, rfl⟩
  obtain ⟨N2, hN2⟩ : ∃ r, g.numN q = r := ⟨_, rfl⟩
  obtain ⟨E2, hE2⟩ : ∃ r, g.numE q = r := ⟨_, rfl⟩
  have HPL := Lib.hid hpl
  have HE1 := Lib.hid hE1
  have HN2 := Lib.hid hN2
  have HE2 := Lib.hid hE2
  have HPW2 : Hid (pl.Wf) := by rw [← HPL.out]; exact HPW.out
  have HNI2 : Hid (IsInt N2) := by rw [← HN2.out]; exact HNI.out
  have HOF2 : Hid (E1 = 0 → g.numN pl = addr ∧ g.numE pl = 0) := by rw [← HPL.out, ← HE1.out]; exact HOF.out
  have HON2 : Hid (E2 = 0 → g.ofP N2 = q ∧ g.ofE N2 = 0) := by rw [← HN2.out, ← HE2.out]; exact HON.out
  clear hpl hE1 hN2 hE2 HPW HNI HOF HON
  obtain ⟨c, l, b, p, s⟩ := g
  obtain ⟨x0, x1, x2, x3⟩ := q
  obtain ⟨q0, q1, q2, q3⟩ := pl
  have HG := Lib.hid ((Blk.new w 30 [.int .i64 c, .int .i64 l, .int .i64 b, .int .i64 p, .int .i64 s]).alloc (.cells #[.int .i64 x0, .int .i64 x1, .int .i64 x2, .int .i64 x3] 32))
  have HP := Lib.hid (Blk.new1 w (.cells #[.int .i64 c, .int .i64 l, .int .i64 b, .int .i64 p, .int .i64 s] 30) 32 [.int .i64 x0, .int .i64 x1, .int .i64 x2, .int .i64 x3])
  unfold Geo.v Place.v
  go_enter Try.func13, Try.ntmps13
  (go_wp2_with fail); refine (awake03_any _).mono ?_
  rintro e w1 ⟨rfl, hb⟩
  have hp := HP.out.below hb
  have hk := HG.out.below hb; have k0 : w1.cell? ⟨w.heap.size, 0, none⟩ = some (.int .i64 c) := hk.cell 0; have k1 : w1.cell? ⟨w.heap.size, 1, none⟩ = some (.int .i64 l) := hk.cell 1; have k2 : w1.cell? ⟨w.heap.size, 2, none⟩ = some (.int .i64 b) := hk.cell 2; have k3 : w1.cell? ⟨w.heap.size, 3, none⟩ = some (.int .i64 p) := hk.cell 3; have k4 : w1.cell? ⟨w.heap.size, 4, none⟩ = some (.int .i64 s) := hk.cell 4; have hltk := hk.lt
  have j0 : w1.cell? ⟨w.heap.size + 1, 0, none⟩ = some (.int .i64 x0) := hp.cell 0; have j1 : w1.cell? ⟨w.heap.size + 1, 1, none⟩ = some (.int .i64 x1) := hp.cell 1; have j2 : w1.cell? ⟨w.heap.size + 1, 2, none⟩ = some (.int .i64 x2) := hp.cell 2; have j3 : w1.cell? ⟨w.heap.size + 1, 3, none⟩ = some (.int .i64 x3) := hp.cell 3
  have HG1 := Lib.hid hk
  have HP1 := Lib.hid hp
  have HB1 := Lib.hid ((((Below.refl w.heap.size w).alloc (Nat.le_refl _) (.cells #[.int .i64 c, .int .i64 l, .int .i64 b, .int .i64 p, .int .i64 s] 30)).alloc (by simp) (.cells #[.int .i64 x0, .int .i64 x1, .int .i64 x2, .int .i64 x3] 32)).trans (hb.mono (by simp; omega)))
  clear hb hk hp
  (go_wp2_with fail); refine (geomOf_any ⟨c, l, b, p, s⟩ addr _ HW.out HI.out).mono ?_
  rintro e w2 ⟨rfl, hb⟩
  rw [HPL.out, HE1.out]
  simp only [Place.v]
  have hp := HP1.out.below hb
  have hk := HG1.out.below hb; have k0 : w2.cell? ⟨w.heap.size, 0, none⟩ = some (.int .i64 c) := hk.cell 0; have k1 : w2.cell? ⟨w.heap.size, 1, none⟩ = some (.int .i64 l) := hk.cell 1; have k2 : w2.cell? ⟨w.heap.size, 2, none⟩ = some (.int .i64 b) := hk.cell 2; have k3 : w2.cell? ⟨w.heap.size, 3, none⟩ = some (.int .i64 p) := hk.cell 3; have k4 : w2.cell? ⟨w.heap.size, 4, none⟩ = some (.int .i64 s) := hk.cell 4; have hltk := hk.lt
  have j0 : w2.cell? ⟨w.heap.size + 1, 0, none⟩ = some (.int .i64 x0) := hp.cell 0; have j1 : w2.cell? ⟨w.heap.size + 1, 1, none⟩ = some (.int .i64 x1) := hp.cell 1; have j2 : w2.cell? ⟨w.heap.size + 1, 2, none⟩ = some (.int .i64 x2) := hp.cell 2; have j3 : w2.cell? ⟨w.heap.size + 1, 3, none⟩ = some (.int .i64 x3) := hp.cell 3
  have hltp := hp.lt
  have HG2 := Lib.hid (hk.alloc (.cells #[.int .i64 q0, .int .i64 q1, .int .i64 q2, .int .i64 q3] 32))
  have HP2 := Lib.hid (hp.alloc (.cells #[.int .i64 q0, .int .i64 q1, .int .i64 q2, .int .i64 q3] 32))
  have HR2 := Lib.hid (Blk.new w2 32 [.int .i64 q0, .int .i64 q1, .int .i64 q2, .int .i64 q3])
  have HB2 := Lib.hid ((HB1.out.trans (hb.mono HB1.out.size)).alloc (Nat.le_trans HB1.out.size hb.size) (.cells #[.int .i64 q0, .int .i64 q1, .int .i64 q2, .int .i64 q3] 32))
  have hlt2 : w.heap.size + 1 < w2.heap.size := hltp
  clear hb hk hp
  by_cases h1 : E1 = 0
  · have HV := Lib.hid (HOF2.out h1)
    have hb1 : (E1 == 0) = true := beq_iff_eq.2 h1
    clear h1
    (go_wp2_with fail); refine (geomNumber_any ⟨c, l, b, p, s⟩ ⟨q0, q1, q2, q3⟩ _ HW.out HPW2.out).mono ?_
    rintro e w3 ⟨rfl, hb⟩
    rw [HV.out.1, HV.out.2]
    have hp := HP2.out.below hb
    have hr := HR2.out.below hb
    have hk := HG2.out.below hb; have k0 : w3.cell? ⟨w.heap.size, 0, none⟩ = some (.int .i64 c) := hk.cell 0; have k1 : w3.cell? ⟨w.heap.size, 1, none⟩ = some (.int .i64 l) := hk.cell 1; have k2 : w3.cell? ⟨w.heap.size, 2, none⟩ = some (.int .i64 b) := hk.cell 2; have k3 : w3.cell? ⟨w.heap.size, 3, none⟩ = some (.int .i64 p) := hk.cell 3; have k4 : w3.cell? ⟨w.heap.size, 4, none⟩ = some (.int .i64 s) := hk.cell 4; have hltk := hk.lt
    have j0 : w3.cell? ⟨w.heap.size + 1, 0, none⟩ = some (.int .i64 x0) := hp.cell 0; have j1 : w3.cell? ⟨w.heap.size + 1, 1, none⟩ = some (.int .i64 x1) := hp.cell 1; have j2 : w3.cell? ⟨w.heap.size + 1, 2, none⟩ = some (.int .i64 x2) := hp.cell 2; have j3 : w3.cell? ⟨w.heap.size + 1, 3, none⟩ = some (.int .i64 x3) := hp.cell 3
    have HG3 := Lib.hid hk
    have HP3 := Lib.hid hp
    have HR3 := Lib.hid hr
    have HB3 := Lib.hid (HB2.out.trans (hb.mono HB2.out.size))
    clear hb hk hp hr
    (go_wp2_with fail); refine (geomNumber_any ⟨c, l, b, p, s⟩ ⟨x0, x1, x2, x3⟩ _ HW.out HQW.out).mono ?_
    rintro e w4 ⟨rfl, hb⟩
    rw [HN2.out, HE2.out]
    have hp := HP3.out.below hb
    have hr := HR3.out.below hb
    have hk := HG3.out.below hb; have k0 : w4.cell? ⟨w.heap.size, 0, none⟩ = some (.int .i64 c) := hk.cell 0; have k1 : w4.cell? ⟨w.heap.size, 1, none⟩ = some (.int .i64 l) := hk.cell 1; have k2 : w4.cell? ⟨w.heap.size, 2, none⟩ = some (.int .i64 b) := hk.cell 2; have k3 : w4.cell? ⟨w.heap.size, 3, none⟩ = some (.int .i64 p) := hk.cell 3; have k4 : w4.cell? ⟨w.heap.size, 4, none⟩ = some (.int .i64 s) := hk.cell 4; have hltk := hk.lt
    have j0 : w4.cell? ⟨w.heap.size + 1, 0, none⟩ = some (.int .i64 x0) := hp.cell 0; have j1 : w4.cell? ⟨w.heap.size + 1, 1, none⟩ = some (.int .i64 x1) := hp.cell 1; have j2 : w4.cell? ⟨w.heap.size + 1, 2, none⟩ = some (.int .i64 x2) := hp.cell 2; have j3 : w4.cell? ⟨w.heap.size + 1, 3, none⟩ = some (.int .i64 x3) := hp.cell 3
    have z0 : w4.cell? ⟨w2.heap.size, 0, none⟩ = some (.int .i64 q0) := hr.cell 0; have z1 : w4.cell? ⟨w2.heap.size, 1, none⟩ = some (.int .i64 q1) := hr.cell 1; have z2 : w4.cell? ⟨w2.heap.size, 2, none⟩ = some (.int .i64 q2) := hr.cell 2; have z3 : w4.cell? ⟨w2.heap.size, 3, none⟩ = some (.int .i64 q3) := hr.cell 3
    have y0 := hr.free 0
    have y1 := hr.free 1
    have y2 := hr.free 2
    have y3 := hr.free 3
    have HG4 := Lib.hid hk
    have HP4 := Lib.hid hp
    have HR4 := Lib.hid hr
    have HB4 := Lib.hid (HB3.out.trans (hb.mono HB3.out.size))
    clear hb hk hp hr
    by_cases h2 : E2 = 0
    · have HV2 := Lib.hid (HON2.out h2)
      have hb2 : (E2 == 0) = true := beq_iff_eq.2 h2
      clear h2
      (go_wp2_with fail); refine (geomOf_any ⟨c, l, b, p, s⟩ N2 _ HW.out HNI2.out).mono ?_
      rintro e w5 ⟨rfl, hb⟩
      rw [HV2.out.1, HV2.out.2]
      simp only [Place.v]
      have hp := HP4.out.below hb
      have hr := HR4.out.below hb
      have j0 : w5.cell? ⟨w.heap.size + 1, 0, none⟩ = some (.int .i64 x0) := hp.cell 0; have j1 : w5.cell? ⟨w.heap.size + 1, 1, none⟩ = some (.int .i64 x1) := hp.cell 1; have j2 : w5.cell? ⟨w.heap.size + 1, 2, none⟩ = some (.int .i64 x2) := hp.cell 2; have j3 : w5.cell? ⟨w.heap.size + 1, 3, none⟩ = some (.int .i64 x3) := hp.cell 3
      have z0 : w5.cell? ⟨w2.heap.size, 0, none⟩ = some (.int .i64 q0) := hr.cell 0; have z1 : w5.cell? ⟨w2.heap.size, 1, none⟩ = some (.int .i64 q1) := hr.cell 1; have z2 : w5.cell? ⟨w2.heap.size, 2, none⟩ = some (.int .i64 q2) := hr.cell 2; have z3 : w5.cell? ⟨w2.heap.size, 3, none⟩ = some (.int .i64 q3) := hr.cell 3
      have y0 := hr.free 0
      have y1 := hr.free 1
      have y2 := hr.free 2
      have y3 := hr.free 3
      have HB5 := Lib.hid (HB4.out.trans (hb.mono HB4.out.size))
      have hne : w2.heap.size ≠ w.heap.size + 1 := by omega
      clear hb hp hr
      go_wp2
      go_ret
      exact ⟨rfl, below_set4 HB5.out (by omega) _ _ _ _⟩
    · have hb2 : (E2 == 0) = false := beq_eq_false_iff_ne.2 h2
      clear h2
      go_wp2
      go_ret
      exact ⟨rfl, HB4.out⟩
  · have hb1 : (E1 == 0) = false := beq_eq_false_iff_ne.2 h1
    clear h1
    have HG3 := HG2
    have HP3 := HP2
    have HR3 := HR2
    have HB3 := HB2
    (go_wp2_with fail); refine (geomNumber_any ⟨c, l, b, p, s⟩ ⟨x0, x1, x2, x3⟩ _ HW.out HQW.out).mono ?_
    rintro e w4 ⟨rfl, hb⟩
    rw [HN2.out, HE2.out]
    have hp := HP3.out.below hb
    have hr := HR3.out.below hb
    have hk := HG3.out.below hb; have k0 : w4.cell? ⟨w.heap.size, 0, none⟩ = some (.int .i64 c) := hk.cell 0; have k1 : w4.cell? ⟨w.heap.size, 1, none⟩ = some (.int .i64 l) := hk.cell 1; have k2 : w4.cell? ⟨w.heap.size, 2, none⟩ = some (.int .i64 b) := hk.cell 2; have k3 : w4.cell? ⟨w.heap.size, 3, none⟩ = some (.int .i64 p) := hk.cell 3; have k4 : w4.cell? ⟨w.heap.size, 4, none⟩ = some (.int .i64 s) := hk.cell 4; have hltk := hk.lt
    have j0 : w4.cell? ⟨w.heap.size + 1, 0, none⟩ = some (.int .i64 x0) := hp.cell 0; have j1 : w4.cell? ⟨w.heap.size + 1, 1, none⟩ = some (.int .i64 x1) := hp.cell 1; have j2 : w4.cell? ⟨w.heap.size + 1, 2, none⟩ = some (.int .i64 x2) := hp.cell 2; have j3 : w4.cell? ⟨w.heap.size + 1, 3, none⟩ = some (.int .i64 x3) := hp.cell 3
    have z0 : w4.cell? ⟨w2.heap.size, 0, none⟩ = some (.int .i64 q0) := hr.cell 0; have z1 : w4.cell? ⟨w2.heap.size, 1, none⟩ = some (.int .i64 q1) := hr.cell 1; have z2 : w4.cell? ⟨w2.heap.size, 2, none⟩ = some (.int .i64 q2) := hr.cell 2; have z3 : w4.cell? ⟨w2.heap.size, 3, none⟩ = some (.int .i64 q3) := hr.cell 3
    have y0 := hr.free 0
    have y1 := hr.free 1
    have y2 := hr.free 2
    have y3 := hr.free 3
    have HG4 := Lib.hid hk
    have HP4 := Lib.hid hp
    have HR4 := Lib.hid hr
    have HB4 := Lib.hid (HB3.out.trans (hb.mono HB3.out.size))
    clear hb hk hp hr
    by_cases h2 : E2 = 0
    · have HV2 := Lib.hid (HON2.out h2)
      have hb2 : (E2 == 0) = true := beq_iff_eq.2 h2
      clear h2
      (go_wp2_with fail); refine (geomOf_any ⟨c, l, b, p, s⟩ N2 _ HW.out HNI2.out).mono ?_
      rintro e w5 ⟨rfl, hb⟩
      rw [HV2.out.1, HV2.out.2]
      simp only [Place.v]
      have hp := HP4.out.below hb
      have hr := HR4.out.below hb
      have j0 : w5.cell? ⟨w.heap.size + 1, 0, none⟩ = some (.int .i64 x0) := hp.cell 0; have j1 : w5.cell? ⟨w.heap.size + 1, 1, none⟩ = some (.int .i64 x1) := hp.cell 1; have j2 : w5.cell? ⟨w.heap.size + 1, 2, none⟩ = some (.int .i64 x2) := hp.cell 2; have j3 : w5.cell? ⟨w.heap.size + 1, 3, none⟩ = some (.int .i64 x3) := hp.cell 3
      have z0 : w5.cell? ⟨w2.heap.size, 0, none⟩ = some (.int .i64 q0) := hr.cell 0; have z1 : w5.cell? ⟨w2.heap.size, 1, none⟩ = some (.int .i64 q1) := hr.cell 1; have z2 : w5.cell? ⟨w2.heap.size, 2, none⟩ = some (.int .i64 q2) := hr.cell 2; have z3 : w5.cell? ⟨w2.heap.size, 3, none⟩ = some (.int .i64 q3) := hr.cell 3
      have y0 := hr.free 0
      have y1 := hr.free 1
      have y2 := hr.free 2
      have y3 := hr.free 3
      have HB5 := Lib.hid (HB4.out.trans (hb.mono HB4.out.size))
      have hne : w2.heap.size ≠ w.heap.size + 1 := by omega
      clear hb hp hr
      go_wp2
      go_ret
      exact ⟨rfl, below_set4 HB5.out (by omega) _ _ _ _⟩
    · have hb2 : (E2 == 0) = false := beq_eq_false_iff_ne.2 h2
      clear h2
      go_wp2
      go_ret
      exact ⟨rfl, HB4.out⟩

end Go.Proofs.Ytbeahoimefnofaa
