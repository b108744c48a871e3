/-
  The walks of the laws over package geom, fourth part.
-/
import Derived.Test.YtbeahoimefnofaaLaw03
import Derived.Test.YtbeahoimefnofaaRegV
set_option linter.unusedVariables false
set_option linter.unusedSimpArgs false
namespace Go.Proofs.Ytbeahoimefnofaa
open Go.RowKit

set_option maxHeartbeats 4000000 in
theorem geomPartsWalk (g : Geo) (w : World) (hg : g.Wf) :
    Calls Try.prog 10 #[g.v] w fun e w' => e = .returned (.bool true) ∧ Below w.heap.size w w' := by
  have HW := Lib.hid hg
  clear hg
  obtain ⟨c, l, b, p, s⟩ := g
  have HG := Lib.hid (Blk.new w 30 [.int .i64 c, .int .i64 l, .int .i64 b, .int .i64 p, .int .i64 s])
  unfold Geo.v
  go_enter Try.func10, Try.ntmps10
  (go_wp2_with fail); refine (awake03_any _).mono ?_
  rintro e w1 ⟨rfl, hb⟩
  have hk := HG.out.below hb; have k0 : w1.cell? ⟨w.heap.size, 0, none⟩ = some (.int .i64 c) := hk.cell 0; have k1 : w1.cell? ⟨w.heap.size, 1, none⟩ = some (.int .i64 l) := hk.cell 1; have k2 : w1.cell? ⟨w.heap.size, 2, none⟩ = some (.int .i64 b) := hk.cell 2; have k3 : w1.cell? ⟨w.heap.size, 3, none⟩ = some (.int .i64 p) := hk.cell 3; have k4 : w1.cell? ⟨w.heap.size, 4, none⟩ = some (.int .i64 s) := hk.cell 4; have hltk := hk.lt
  have HG1 := Lib.hid hk
  have HB1 := Lib.hid (((Below.refl w.heap.size w).alloc (Nat.le_refl _) _).trans (hb.mono (by simp)))
  clear hb hk
  (go_wp2_with fail); refine (geomRight_any ⟨c, l, b, p, s⟩ _ HW.out).mono ?_
  rintro e w2 ⟨rfl, hb⟩
  have hk := HG1.out.below hb; have k0 : w2.cell? ⟨w.heap.size, 0, none⟩ = some (.int .i64 c) := hk.cell 0; have k1 : w2.cell? ⟨w.heap.size, 1, none⟩ = some (.int .i64 l) := hk.cell 1; have k2 : w2.cell? ⟨w.heap.size, 2, none⟩ = some (.int .i64 b) := hk.cell 2; have k3 : w2.cell? ⟨w.heap.size, 3, none⟩ = some (.int .i64 p) := hk.cell 3; have k4 : w2.cell? ⟨w.heap.size, 4, none⟩ = some (.int .i64 s) := hk.cell 4; have hltk := hk.lt
  have HG2 := Lib.hid hk
  have HB2 := Lib.hid (HB1.out.trans (hb.mono HB1.out.size))
  clear hb hk
  by_cases hok : Geo.okB ⟨c, l, b, p, s⟩ = true
  · obtain ⟨A, hA⟩ : ∃ r, Geo.all ⟨c, l, b, p, s⟩ = r := ⟨_, rfl⟩
    obtain ⟨L, hL⟩ : ∃ r, Geo.line ⟨c, l, b, p, s⟩ = r := ⟨_, rfl⟩
    obtain ⟨U, hU⟩ : ∃ r, Geo.units ⟨c, l, b, p, s⟩ = r := ⟨_, rfl⟩
    obtain ⟨⟨q0, q1, q2, q3⟩, hP1⟩ : ∃ r, Geo.ofP ⟨c, l, b, p, s⟩ A = r := ⟨_, rfl⟩
    obtain ⟨⟨r0, r1, r2, r3⟩, hP2⟩ : ∃ r, Geo.ofP ⟨c, l, b, p, s⟩ (A - 1) = r := ⟨_, rfl⟩
    have hg := Geo.ok_of hok
    obtain ⟨m1, m2, m3, m4, m5, m6, m7, m8, m9, m10⟩ := geo_mul hg.c.1 hg.c.2 hg.l.1 hg.l.2 hg.b.1 hg.b.2 hg.p.1 hg.p.2 hg.s.1 hg.s.2
    simp only at m1 m2 m3 m4 m5 m6 m7 m8 m9 m10
    have eA : c * l * p * s * b = A := hA
    have eL : c * l * p * s = L := hL
    have eU : c * l = U := hU
    have hA0 : 0 < A ∧ A ≤ 65536 := by rw [← eA]; omega
    have hL0 : 0 < L := by rw [← eL]; omega
    have hw1 : IntKind.i64.wrap (U * p) = U * p := by rw [← eU]; exact wrap_in _ ⟨by omega, by omega⟩
    have hw2 : IntKind.i64.wrap (U * p * s) = L := by rw [← eU, ← eL]; exact wrap_in _ ⟨by omega, by omega⟩
    have hw3 : IntKind.i64.wrap (L * b) = A := by rw [← eL, ← eA]; exact wrap_in _ ⟨by omega, by omega⟩
    have hw4 : IntKind.i64.wrap (A - 1) = A - 1 := wrap_in _ ⟨by omega, by omega⟩
    have HA : Hid (∀ wy, Calls Try.prog 31 #[.agg #[.int .i64 c, .int .i64 l, .int .i64 b, .int .i64 p, .int .i64 s]] wy fun e w' => e = .returned (.int .i64 A) ∧ Below wy.heap.size wy w') := by
      intro wy
      have := geomAll_any ⟨c, l, b, p, s⟩ wy HW.out
      unfold Geo.allI at this
      rw [if_pos hok, hA] at this
      exact this
    have HU : Hid (∀ wy, Calls Try.prog 28 #[.agg #[.int .i64 c, .int .i64 l, .int .i64 b, .int .i64 p, .int .i64 s]] wy fun e w' => e = .returned (.int .i64 U) ∧ Below wy.heap.size wy w') := by
      intro wy
      have := geomUnits_any ⟨c, l, b, p, s⟩ wy HW.out
      unfold Geo.unitsI at this
      rw [if_pos hok, hU] at this
      exact this
    have HL : Hid (∀ wy, Calls Try.prog 23 #[.agg #[.int .i64 c, .int .i64 l, .int .i64 b, .int .i64 p, .int .i64 s]] wy fun e w' => e = .returned (.int .i64 L) ∧ Below wy.heap.size wy w') := by
      intro wy
      have := geomLine_any ⟨c, l, b, p, s⟩ wy HW.out
      unfold Geo.lineI at this
      rw [if_pos hok, hL] at this
      exact this
    have HO1 : Hid (∀ wy, Calls Try.prog 21 #[.agg #[.int .i64 c, .int .i64 l, .int .i64 b, .int .i64 p, .int .i64 s], .int .i64 A] wy fun e w' => e = .returned (.tuple #[.agg #[.int .i64 q0, .int .i64 q1, .int .i64 q2, .int .i64 q3], .int .i64 2]) ∧ Below wy.heap.size wy w') := by
      intro wy
      have := geomOf_any ⟨c, l, b, p, s⟩ A wy HW.out ⟨by omega, by omega⟩
      rw [hP1] at this
      unfold Geo.ofE at this
      rw [if_pos hok, hA, if_neg (by omega)] at this
      exact this
    have HO2 : Hid (∀ wy, Calls Try.prog 21 #[.agg #[.int .i64 c, .int .i64 l, .int .i64 b, .int .i64 p, .int .i64 s], .int .i64 (A - 1)] wy fun e w' => e = .returned (.tuple #[.agg #[.int .i64 r0, .int .i64 r1, .int .i64 r2, .int .i64 r3], .int .i64 0]) ∧ Below wy.heap.size wy w') := by
      intro wy
      have := geomOf_any ⟨c, l, b, p, s⟩ (A - 1) wy HW.out ⟨by omega, by omega⟩
      rw [hP2] at this
      unfold Geo.ofE at this
      rw [if_pos hok, hA, if_pos (by omega)] at this
      exact this
    rw [hok]
    clear hok hA hL hU hP1 hP2 hg eA eL eU m1 m2 m3 m4 m5 m6 m7 m8 m9 m10
    (go_wp2_with fail); refine (HL.out _).mono ?_
    rintro e w3 ⟨rfl, hb⟩
    have hk := HG2.out.below hb; have k0 : w3.cell? ⟨w.heap.size, 0, none⟩ = some (.int .i64 c) := hk.cell 0; have k1 : w3.cell? ⟨w.heap.size, 1, none⟩ = some (.int .i64 l) := hk.cell 1; have k2 : w3.cell? ⟨w.heap.size, 2, none⟩ = some (.int .i64 b) := hk.cell 2; have k3 : w3.cell? ⟨w.heap.size, 3, none⟩ = some (.int .i64 p) := hk.cell 3; have k4 : w3.cell? ⟨w.heap.size, 4, none⟩ = some (.int .i64 s) := hk.cell 4; have hltk := hk.lt
    have HG3 := Lib.hid hk.drew
    have HB3 := Lib.hid (HB2.out.trans (hb.mono HB2.out.size))
    clear hb hk
    go_wp2_with fail
    refine wp_region_made 7 32 [.int .i64 0, .int .i64 0, .int .i64 0, .int .i64 0] [.int .i64 q0, .int .i64 q1, .int .i64 q2, .int .i64 q3] (by kernel_rfl) (by kernel_rfl) (by kernel_rfl) ?_
    simp only [List.take_succ_cons, List.take_zero, List.drop_succ_cons, List.drop_zero]
    repeat (first
      | (refine SeqB.run (v := ?_) ?_ (fun wz hz => ?_) ?_; rotate_left; (· rfl); (· have hzc := hz.cell; have hzf := hz.frozen; go_simp; first | exact UponS.value (Since.refl _) | exact UponS.skip (Since.refl _) | (refine UponS.call ?_; first | (go_at_call 31; refine (HA.out _).mono ?_; rintro e wy ⟨rfl, hbb⟩; refine ⟨?_, hbb⟩; rfl) | (go_at_call 21; refine (HO1.out _).mono ?_; rintro e wy ⟨rfl, hbb⟩; refine ⟨?_, hbb⟩; rfl))); (try simp only [Act.put, List.setIfInBounds_toArray, List.set_cons_zero, List.set_cons_succ]))
      | (refine SeqB.skip ?_ ?_; (· rfl); (try simp only [Act.put, List.setIfInBounds_toArray, List.set_cons_zero, List.set_cons_succ])))
    refine SeqB.make (by rfl) (fun _ => by rfl) (fun _ => by rfl) (fun wz gb hz hb hk => ?_) ?_
    · have z0 : wz.cell? ⟨gb, 0, none⟩ = some (.int .i64 0) := hk.cell 0; have z1 : wz.cell? ⟨gb, 1, none⟩ = some (.int .i64 0) := hk.cell 1; have z2 : wz.cell? ⟨gb, 2, none⟩ = some (.int .i64 0) := hk.cell 2; have z3 : wz.cell? ⟨gb, 3, none⟩ = some (.int .i64 0) := hk.cell 3; have y0 := hk.free 0; have y1 := hk.free 1; have y2 := hk.free 2; have y3 := hk.free 3; go_simp; exact ⟨hk.set4 _ _ _ _, below_set4 hz hb _ _ _ _⟩
    intro v w4 hz hm
    obtain ⟨g4, rfl, hg4, hk4⟩ := hm
    have hb := hz.below
    have hk := HG3.out.below hb; have k0 : w4.cell? ⟨w.heap.size, 0, none⟩ = some (.int .i64 c) := hk.cell 0; have k1 : w4.cell? ⟨w.heap.size, 1, none⟩ = some (.int .i64 l) := hk.cell 1; have k2 : w4.cell? ⟨w.heap.size, 2, none⟩ = some (.int .i64 b) := hk.cell 2; have k3 : w4.cell? ⟨w.heap.size, 3, none⟩ = some (.int .i64 p) := hk.cell 3; have k4 : w4.cell? ⟨w.heap.size, 4, none⟩ = some (.int .i64 s) := hk.cell 4; have hltk := hk.lt
    have HB4 := Lib.hid (HB3.out.drew.trans (hb.mono HB3.out.size))
    have HG4 := Lib.hid hk.drew
    clear hb hk hk4 hz hg4
    go_wp2_with fail
    refine wp_region_made 8 32 [.int .i64 0, .int .i64 0, .int .i64 0, .int .i64 0] [.int .i64 r0, .int .i64 r1, .int .i64 r2, .int .i64 r3] (by kernel_rfl) (by kernel_rfl) (by kernel_rfl) ?_
    simp only [List.take_succ_cons, List.take_zero, List.drop_succ_cons, List.drop_zero]
    repeat (first
      | (refine SeqB.run (v := ?_) ?_ (fun wz hz => ?_) ?_; rotate_left; (· rfl); (· have hzc := hz.cell; have hzf := hz.frozen; go_simp; first | exact UponS.value (Since.refl _) | exact UponS.skip (Since.refl _) | (refine UponS.call ?_; first | (go_at_call 31; refine (HA.out _).mono ?_; rintro e wy ⟨rfl, hbb⟩; refine ⟨?_, hbb⟩; rfl) | (go_at_call 21; refine (HO2.out _).mono ?_; rintro e wy ⟨rfl, hbb⟩; refine ⟨?_, hbb⟩; rfl))); (try simp only [Act.put, List.setIfInBounds_toArray, List.set_cons_zero, List.set_cons_succ]))
      | (refine SeqB.skip ?_ ?_; (· rfl); (try simp only [Act.put, List.setIfInBounds_toArray, List.set_cons_zero, List.set_cons_succ])))
    refine SeqB.make (by rfl) (fun _ => by rfl) (fun _ => by rfl) (fun wz gb hz hb hk => ?_) ?_
    · have z0 : wz.cell? ⟨gb, 0, none⟩ = some (.int .i64 0) := hk.cell 0; have z1 : wz.cell? ⟨gb, 1, none⟩ = some (.int .i64 0) := hk.cell 1; have z2 : wz.cell? ⟨gb, 2, none⟩ = some (.int .i64 0) := hk.cell 2; have z3 : wz.cell? ⟨gb, 3, none⟩ = some (.int .i64 0) := hk.cell 3; have y0 := hk.free 0; have y1 := hk.free 1; have y2 := hk.free 2; have y3 := hk.free 3; go_simp; exact ⟨hk.set4 _ _ _ _, below_set4 hz hb _ _ _ _⟩
    intro v w5 hz hm
    obtain ⟨g5, rfl, hg5, hk5⟩ := hm
    have hb := hz.below
    have hk := HG4.out.below hb; have k0 : w5.cell? ⟨w.heap.size, 0, none⟩ = some (.int .i64 c) := hk.cell 0; have k1 : w5.cell? ⟨w.heap.size, 1, none⟩ = some (.int .i64 l) := hk.cell 1; have k2 : w5.cell? ⟨w.heap.size, 2, none⟩ = some (.int .i64 b) := hk.cell 2; have k3 : w5.cell? ⟨w.heap.size, 3, none⟩ = some (.int .i64 p) := hk.cell 3; have k4 : w5.cell? ⟨w.heap.size, 4, none⟩ = some (.int .i64 s) := hk.cell 4; have hltk := hk.lt
    have HB5 := Lib.hid (HB4.out.drew.trans (hb.mono HB4.out.size))
    clear hb hk hk5 hz hg5
    go_wp2_with fail
    refine wp_region_b 34 (by kernel_rfl) (by kernel_rfl) ?_
    simp only [List.take_succ_cons, List.take_zero, List.drop_succ_cons, List.drop_zero]
    repeat (first
      | (refine SeqC.run (v := ?_) ?_ (fun wz hz => ?_) ?_; rotate_left; (· rfl); (· have hzc := hz.cell; have hzf := hz.frozen; go_simp; first | exact UponS.value hz | exact UponS.skip hz | (refine UponS.call ?_; first | (go_at_call 28; refine (HU.out _).mono ?_; rintro e wy ⟨rfl, hb⟩; refine ⟨?_, hz.step hb⟩; rfl) | (go_at_call 31; refine (HA.out _).mono ?_; rintro e wy ⟨rfl, hb⟩; refine ⟨?_, hz.step hb⟩; rfl))); (try simp only [Act.put, List.setIfInBounds_toArray, List.set_cons_zero, List.set_cons_succ]))
      | (refine SeqC.skip ?_ ?_; (· rfl); (try simp only [Act.put, List.setIfInBounds_toArray, List.set_cons_zero, List.set_cons_succ])))
    refine fun wz hz => ?_
    go_wp2
    go_ret
    exact ⟨ret_bool (by simp), HB5.out.drew.trans (hz.below.mono HB5.out.size)⟩
  · have hk1 : Geo.okB ⟨c, l, b, p, s⟩ = false := by simpa using hok
    have HA : Hid (∀ wy, Calls Try.prog 31 #[.agg #[.int .i64 c, .int .i64 l, .int .i64 b, .int .i64 p, .int .i64 s]] wy fun e w' => e = .returned (.int .i64 0) ∧ Below wy.heap.size wy w') := by
      intro wy
      have := geomAll_any ⟨c, l, b, p, s⟩ wy HW.out
      unfold Geo.allI at this
      rw [if_neg hok] at this
      exact this
    have HU : Hid (∀ wy, Calls Try.prog 28 #[.agg #[.int .i64 c, .int .i64 l, .int .i64 b, .int .i64 p, .int .i64 s]] wy fun e w' => e = .returned (.int .i64 0) ∧ Below wy.heap.size wy w') := by
      intro wy
      have := geomUnits_any ⟨c, l, b, p, s⟩ wy HW.out
      unfold Geo.unitsI at this
      rw [if_neg hok] at this
      exact this
    have HL : Hid (∀ wy, Calls Try.prog 23 #[.agg #[.int .i64 c, .int .i64 l, .int .i64 b, .int .i64 p, .int .i64 s]] wy fun e w' => e = .returned (.int .i64 0) ∧ Below wy.heap.size wy w') := by
      intro wy
      have := geomLine_any ⟨c, l, b, p, s⟩ wy HW.out
      unfold Geo.lineI at this
      rw [if_neg hok] at this
      exact this
    rw [hk1]
    clear hok hk1
    (go_wp2_with fail); refine (HU.out _).mono ?_
    rintro e w3 ⟨rfl, hb⟩
    have hk := HG2.out.below hb; have k0 : w3.cell? ⟨w.heap.size, 0, none⟩ = some (.int .i64 c) := hk.cell 0; have k1 : w3.cell? ⟨w.heap.size, 1, none⟩ = some (.int .i64 l) := hk.cell 1; have k2 : w3.cell? ⟨w.heap.size, 2, none⟩ = some (.int .i64 b) := hk.cell 2; have k3 : w3.cell? ⟨w.heap.size, 3, none⟩ = some (.int .i64 p) := hk.cell 3; have k4 : w3.cell? ⟨w.heap.size, 4, none⟩ = some (.int .i64 s) := hk.cell 4; have hltk := hk.lt
    have HG3 := Lib.hid hk
    have HB3 := Lib.hid (HB2.out.trans (hb.mono HB2.out.size))
    clear hb hk
    (go_wp2_with fail); refine (HL.out _).mono ?_
    rintro e w4 ⟨rfl, hb⟩
    have hk := HG3.out.below hb; have k0 : w4.cell? ⟨w.heap.size, 0, none⟩ = some (.int .i64 c) := hk.cell 0; have k1 : w4.cell? ⟨w.heap.size, 1, none⟩ = some (.int .i64 l) := hk.cell 1; have k2 : w4.cell? ⟨w.heap.size, 2, none⟩ = some (.int .i64 b) := hk.cell 2; have k3 : w4.cell? ⟨w.heap.size, 3, none⟩ = some (.int .i64 p) := hk.cell 3; have k4 : w4.cell? ⟨w.heap.size, 4, none⟩ = some (.int .i64 s) := hk.cell 4; have hltk := hk.lt
    have HG4 := Lib.hid hk
    have HB4 := Lib.hid (HB3.out.trans (hb.mono HB3.out.size))
    clear hb hk
    (go_wp2_with fail); refine (HA.out _).mono ?_
    rintro e w5 ⟨rfl, hb⟩
    have HB5 := Lib.hid (HB4.out.trans (hb.mono HB4.out.size))
    clear hb
    go_wp2
    go_ret
    exact ⟨ret_bool (by simp), HB5.out⟩

end Go.Proofs.Ytbeahoimefnofaa
