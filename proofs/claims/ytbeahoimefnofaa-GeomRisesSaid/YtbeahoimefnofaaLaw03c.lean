/-
  The walks of the laws over package geom, third part.
-/
import Derived.Test.YtbeahoimefnofaaLaw03
set_option linter.unusedVariables false
set_option linter.unusedSimpArgs false
namespace Go.Proofs.Ytbeahoimefnofaa
open Go.RowKit

theorem Geo.rises {g : Geo} (h : g.okB = true) {a b : Int} (ha : 0 ≤ a) (hab : a < b) (hb : b < g.all) :
    g.ofP a ≠ g.ofP b ∧ (g.ofP a).block = a / g.line ∧ (g.ofP b).block = b / g.line ∧ (g.ofP a).block ≤ (g.ofP b).block ∧ ((g.ofP a).block = (g.ofP b).block → (g.ofP a).page ≤ (g.ofP b).page) := by
  have hg := Geo.ok_of h
  obtain ⟨m1, m2, m3, m4, m5, m6, m7, m8, m9, m10⟩ := geo_mul hg.c.1 hg.c.2 hg.l.1 hg.l.2 hg.b.1 hg.b.2 hg.p.1 hg.p.2 hg.s.1 hg.s.2
  have ln : 0 < g.line := by unfold Geo.line; omega
  have st : 0 < g.stripe := by unfold Geo.stripe; omega
  have i1 := (g.of_in hg ha (by omega)).2
  have i2 := (g.of_in hg (show 0 ≤ b by omega) hb).2
  have e1 := ((g.of_ok h a).1 ⟨ha, by omega⟩).1
  have e2 := ((g.of_ok h b).1 ⟨by omega, hb⟩).1
  have hle : a / g.line ≤ b / g.line := Int.ediv_le_ediv ln (by omega)
  refine ⟨fun e => by rw [e] at i1; omega, by rw [e1], by rw [e2], by rw [e1, e2]; exact hle, fun e => ?_⟩
  rw [e1, e2] at e ⊢
  simp only at e ⊢
  refine Int.ediv_le_ediv st ?_
  have d1 := Int.mul_ediv_add_emod a g.line
  have d2 := Int.mul_ediv_add_emod b g.line
  rw [e] at d1
  omega

set_option maxHeartbeats 4000000 in
theorem geomRisesWalk (g : Geo) (a a' : Int) (w : World) (hg : g.Wf) (ha : (Lit.int .i64 a).wf = true) (ha' : (Lit.int .i64 a').wf = true) :
    Calls Try.prog 7 #[g.v, .int .i64 a, .int .i64 a'] w fun e w' => e = .returned (.bool true) ∧ Below w.heap.size w w' := by
  have HW := Lib.hid hg
  have HI := Lib.hid (wf_i64 ha)
  have HI' := Lib.hid (wf_i64 ha')
  clear ha hg ha'
  obtain ⟨P, hP⟩ : ∃ r, g.ofP a = r := ⟨_, rfl⟩
  obtain ⟨Q, hQ⟩ : ∃ r, g.ofP a' = r := ⟨_, rfl⟩
  obtain ⟨E1, hE1⟩ : ∃ r, g.ofE a = r := ⟨_, rfl⟩
  obtain ⟨E2, hE2⟩ : ∃ r, g.ofE a' = r := ⟨_, rfl⟩
  obtain ⟨L, hL⟩ : ∃ r, g.lineI = r := ⟨_, rfl⟩
  have HF : Hid (E1 = 0 → E2 = 0 → a < a' → 0 ≤ a ∧ 0 < L ∧ L ≤ 1024 ∧ P ≠ Q ∧ P.block = a / L ∧ Q.block = a' / L ∧ P.block ≤ Q.block ∧ (P.block = Q.block → P.page ≤ Q.page)) := by
    show _ → _ → _ → _
    intro h1 h2 h3
    rw [← hE1] at h1
    rw [← hE2] at h2
    unfold Geo.ofE at h1 h2
    split at h1
    · rename_i hok
      rw [if_pos hok] at h2
      split at h1
      · rename_i hi
        split at h2
        · rename_i hi2
          have hr := Geo.rises hok hi.1 h3 hi2.2
          rw [hP, hQ] at hr
          have hl : g.lineI = g.line := if_pos hok
          have hg := Geo.ok_of hok
          obtain ⟨m1, m2, m3, m4, m5, m6, m7, m8, m9, m10⟩ := geo_mul hg.c.1 hg.c.2 hg.l.1 hg.l.2 hg.b.1 hg.b.2 hg.p.1 hg.p.2 hg.s.1 hg.s.2
          rw [← hL, hl]
          exact ⟨hi.1, by unfold Geo.line; omega, m6, hr⟩
        · cases h2
      · cases h1
    · cases h1
  have HP := Lib.hid hP
  have HQ := Lib.hid hQ
  have HE1 := Lib.hid hE1
  have HE2 := Lib.hid hE2
  have HL := Lib.hid hL
  clear hP hQ hE1 hE2 hL
  obtain ⟨c, l, b, p, s⟩ := g
  have HG := Lib.hid (Blk.new w 30 [.int .i64 c, .int .i64 l, .int .i64 b, .int .i64 p, .int .i64 s])
  obtain ⟨q0, q1, q2, q3⟩ := P
  obtain ⟨r0, r1, r2, r3⟩ := Q
  unfold Geo.v
  go_enter Try.func7, Try.ntmps7
  (go_wp2_with fail); refine (awake03_any _).mono ?_
  rintro e w1 ⟨rfl, hb⟩
  have hk := HG.out.below hb; have k0 : w1.cell? ⟨w.heap.size, 0, none⟩ = some (.int .i64 c) := hk.cell 0; have k1 : w1.cell? ⟨w.heap.size, 1, none⟩ = some (.int .i64 l) := hk.cell 1; have k2 : w1.cell? ⟨w.heap.size, 2, none⟩ = some (.int .i64 b) := hk.cell 2; have k3 : w1.cell? ⟨w.heap.size, 3, none⟩ = some (.int .i64 p) := hk.cell 3; have k4 : w1.cell? ⟨w.heap.size, 4, none⟩ = some (.int .i64 s) := hk.cell 4; have hltk := hk.lt
  have HG1 := Lib.hid hk
  have HB1 := Lib.hid (((Below.refl w.heap.size w).alloc (Nat.le_refl _) _).trans (hb.mono (by simp)))
  clear hb hk
  (go_wp2_with fail); refine (geomOf_any ⟨c, l, b, p, s⟩ a _ HW.out HI.out).mono ?_
  rintro e w2 ⟨rfl, hb⟩
  rw [HP.out, HE1.out]
  simp only [Place.v]
  have hk := HG1.out.below hb; have k0 : w2.cell? ⟨w.heap.size, 0, none⟩ = some (.int .i64 c) := hk.cell 0; have k1 : w2.cell? ⟨w.heap.size, 1, none⟩ = some (.int .i64 l) := hk.cell 1; have k2 : w2.cell? ⟨w.heap.size, 2, none⟩ = some (.int .i64 b) := hk.cell 2; have k3 : w2.cell? ⟨w.heap.size, 3, none⟩ = some (.int .i64 p) := hk.cell 3; have k4 : w2.cell? ⟨w.heap.size, 4, none⟩ = some (.int .i64 s) := hk.cell 4; have hltk := hk.lt
  have HG2 := Lib.hid (hk.alloc (.cells #[.int .i64 q0, .int .i64 q1, .int .i64 q2, .int .i64 q3] 32))
  have HQ2 := Lib.hid (Blk.new w2 32 [.int .i64 q0, .int .i64 q1, .int .i64 q2, .int .i64 q3])
  have HB2 := Lib.hid ((HB1.out.trans (hb.mono HB1.out.size)).alloc (Nat.le_trans HB1.out.size hb.size) (.cells #[.int .i64 q0, .int .i64 q1, .int .i64 q2, .int .i64 q3] 32))
  clear hb hk
  (go_wp2_with fail); refine (geomOf_any ⟨c, l, b, p, s⟩ a' _ HW.out HI'.out).mono ?_
  rintro e w3 ⟨rfl, hb⟩
  rw [HQ.out, HE2.out]
  simp only [Place.v]
  have hq := HQ2.out.below hb
  have hk := HG2.out.below hb; have k0 : w3.cell? ⟨w.heap.size, 0, none⟩ = some (.int .i64 c) := hk.cell 0; have k1 : w3.cell? ⟨w.heap.size, 1, none⟩ = some (.int .i64 l) := hk.cell 1; have k2 : w3.cell? ⟨w.heap.size, 2, none⟩ = some (.int .i64 b) := hk.cell 2; have k3 : w3.cell? ⟨w.heap.size, 3, none⟩ = some (.int .i64 p) := hk.cell 3; have k4 : w3.cell? ⟨w.heap.size, 4, none⟩ = some (.int .i64 s) := hk.cell 4; have hltk := hk.lt
  have z0 : w3.cell? ⟨w2.heap.size, 0, none⟩ = some (.int .i64 q0) := hq.cell 0; have z1 : w3.cell? ⟨w2.heap.size, 1, none⟩ = some (.int .i64 q1) := hq.cell 1; have z2 : w3.cell? ⟨w2.heap.size, 2, none⟩ = some (.int .i64 q2) := hq.cell 2; have z3 : w3.cell? ⟨w2.heap.size, 3, none⟩ = some (.int .i64 q3) := hq.cell 3
  have hltq := hq.lt
  have HG3 := Lib.hid (hk.alloc (.cells #[.int .i64 r0, .int .i64 r1, .int .i64 r2, .int .i64 r3] 32))
  have HB3 := Lib.hid ((HB2.out.trans (hb.mono HB2.out.size)).alloc (Nat.le_trans HB2.out.size hb.size) (.cells #[.int .i64 r0, .int .i64 r1, .int .i64 r2, .int .i64 r3] 32))
  clear hb hq hk
  by_cases h1 : E1 = 0
  · by_cases h2 : E2 = 0
    · by_cases h3 : a < a'
      · obtain ⟨f0, f1, f2, f3, f4, f5, f6, f7⟩ := HF.out h1 h2 h3
        have hn1 : (E1 != 0) = false := by simp [h1]
        have hn2 : (E2 != 0) = false := by simp [h2]
        have hL0 : (L == 0) = false := by simp; omega
        have hL1 : ¬ L = 0 := by omega
        have ht1 : a.tdiv L = q1 := by rw [Int.tdiv_eq_ediv_of_nonneg f0]; exact f4.symm
        have ht2 : a'.tdiv L = r1 := by rw [Int.tdiv_eq_ediv_of_nonneg (by omega)]; exact f5.symm
        have hq1 : 0 ≤ q1 := by have := HF.out; rw [f4]; exact Int.ediv_nonneg f0 (by omega)
        have hw1 : IntKind.i64.wrap q1 = q1 := by
          refine wrap_in _ ?_
          have := Int.ediv_le_self L f0
          have := HI.out
          rw [f4]
          unfold IsInt at this ⊢
          constructor <;> omega
        have hw2 : IntKind.i64.wrap r1 = r1 := by
          refine wrap_in _ ?_
          have := Int.ediv_le_self L (show 0 ≤ a' by omega)
          have := HI'.out
          rw [f5]
          unfold IsInt at this ⊢
          constructor <;> omega
        have HLn : Hid (∀ wy, Calls Try.prog 23 #[.agg #[.int .i64 c, .int .i64 l, .int .i64 b, .int .i64 p, .int .i64 s]] wy fun e w' => e = .returned (.int .i64 L) ∧ Below wy.heap.size wy w') := by
          intro wy
          rw [← HL.out]
          exact geomLine_any ⟨c, l, b, p, s⟩ wy HW.out
        have HF3 := Lib.hid f3
        have HF4 := Lib.hid f4
        have HF5 := Lib.hid f5
        have HF7 := Lib.hid f7
        clear f3 f4 f5 f7 h1 h2
        by_cases e1 : q1 = r1
        · have b1 : (q1 == r1) = true := by simp [e1]
          have f7 := HF7.out e1
          by_cases e2 : q2 = r2
          · have b2 : (q2 == r2) = true := by simp [e2]
            by_cases e3 : q3 = r3
            · have b3 : (q3 == r3) = true := by simp [e3]
              have b0 : (q0 == r0) = false := by
                rw [beq_eq_false_iff_ne]
                intro e0
                apply HF3.out
                rw [e0, e1, e2, e3]
              clear e1 e2 e3
              go_wp2_with fail
              refine wp_region_b 18 (by kernel_rfl) (by kernel_rfl) ?_
              simp only [List.take_succ_cons, List.take_zero, List.drop_succ_cons, List.drop_zero]
              repeat (first
                | (refine SeqC.run (v := ?_) ?_ (fun wz hz => ?_) ?_; rotate_left; (· rfl); (· have hzc := hz.cell; have hzf := hz.frozen; go_simp; first | exact UponS.value hz | exact UponS.skip hz | (refine UponS.call ?_; (go_at_call 23; refine (HLn.out _).mono ?_; rintro e wy ⟨rfl, hb⟩; refine ⟨?_, hz.step hb⟩; rfl))); (try simp only [Act.put, List.setIfInBounds_toArray, List.set_cons_zero, List.set_cons_succ]))
                | (refine SeqC.skip ?_ ?_; (· rfl); (try simp only [Act.put, List.setIfInBounds_toArray, List.set_cons_zero, List.set_cons_succ])))
              refine fun wz hz => ?_
              go_wp2
              go_ret
              exact ⟨ret_bool (by simp), HB3.out.drew.trans (hz.below.mono HB3.out.size)⟩
            · have b3 : (q3 == r3) = false := by simp [e3]
              clear e1 e2 e3
              go_wp2_with fail
              refine wp_region_b 18 (by kernel_rfl) (by kernel_rfl) ?_
              simp only [List.take_succ_cons, List.take_zero, List.drop_succ_cons, List.drop_zero]
              repeat (first
                | (refine SeqC.run (v := ?_) ?_ (fun wz hz => ?_) ?_; rotate_left; (· rfl); (· have hzc := hz.cell; have hzf := hz.frozen; go_simp; first | exact UponS.value hz | exact UponS.skip hz | (refine UponS.call ?_; (go_at_call 23; refine (HLn.out _).mono ?_; rintro e wy ⟨rfl, hb⟩; refine ⟨?_, hz.step hb⟩; rfl))); (try simp only [Act.put, List.setIfInBounds_toArray, List.set_cons_zero, List.set_cons_succ]))
                | (refine SeqC.skip ?_ ?_; (· rfl); (try simp only [Act.put, List.setIfInBounds_toArray, List.set_cons_zero, List.set_cons_succ])))
              refine fun wz hz => ?_
              go_wp2
              go_ret
              exact ⟨ret_bool (by simp), HB3.out.drew.trans (hz.below.mono HB3.out.size)⟩
          · have b2 : (q2 == r2) = false := by simp [e2]
            clear e1 e2
            go_wp2_with fail
            refine wp_region_b 18 (by kernel_rfl) (by kernel_rfl) ?_
            simp only [List.take_succ_cons, List.take_zero, List.drop_succ_cons, List.drop_zero]
            repeat (first
              | (refine SeqC.run (v := ?_) ?_ (fun wz hz => ?_) ?_; rotate_left; (· rfl); (· have hzc := hz.cell; have hzf := hz.frozen; go_simp; first | exact UponS.value hz | exact UponS.skip hz | (refine UponS.call ?_; (go_at_call 23; refine (HLn.out _).mono ?_; rintro e wy ⟨rfl, hb⟩; refine ⟨?_, hz.step hb⟩; rfl))); (try simp only [Act.put, List.setIfInBounds_toArray, List.set_cons_zero, List.set_cons_succ]))
              | (refine SeqC.skip ?_ ?_; (· rfl); (try simp only [Act.put, List.setIfInBounds_toArray, List.set_cons_zero, List.set_cons_succ])))
            refine fun wz hz => ?_
            go_wp2
            go_ret
            exact ⟨ret_bool (by simp), HB3.out.drew.trans (hz.below.mono HB3.out.size)⟩
        · have b1 : (q1 == r1) = false := by simp [e1]
          clear e1
          go_wp2_with fail
          refine wp_region_b 18 (by kernel_rfl) (by kernel_rfl) ?_
          simp only [List.take_succ_cons, List.take_zero, List.drop_succ_cons, List.drop_zero]
          repeat (first
            | (refine SeqC.run (v := ?_) ?_ (fun wz hz => ?_) ?_; rotate_left; (· rfl); (· have hzc := hz.cell; have hzf := hz.frozen; go_simp; first | exact UponS.value hz | exact UponS.skip hz | (refine UponS.call ?_; (go_at_call 23; refine (HLn.out _).mono ?_; rintro e wy ⟨rfl, hb⟩; refine ⟨?_, hz.step hb⟩; rfl))); (try simp only [Act.put, List.setIfInBounds_toArray, List.set_cons_zero, List.set_cons_succ]))
            | (refine SeqC.skip ?_ ?_; (· rfl); (try simp only [Act.put, List.setIfInBounds_toArray, List.set_cons_zero, List.set_cons_succ])))
          refine fun wz hz => ?_
          go_wp2
          go_ret
          exact ⟨ret_bool (by simp), HB3.out.drew.trans (hz.below.mono HB3.out.size)⟩
      · have hn1 : (E1 != 0) = false := by simp [h1]
        have hn2 : (E2 != 0) = false := by simp [h2]
        have hn3 : a' ≤ a := by omega
        clear h1 h2 h3
        go_wp2_with fail
        go_ret
        exact ⟨ret_bool (by simp), HB3.out⟩
    · have hn1 : (E1 != 0) = false := by simp [h1]
      have hn2 : (E2 != 0) = true := by simp [h2]
      clear h1 h2
      go_wp2_with fail
      go_ret
      exact ⟨ret_bool (by simp), HB3.out⟩
  · have hn1 : (E1 != 0) = true := by simp [h1]
    clear h1
    go_wp2_with fail
    go_ret
    exact ⟨ret_bool (by simp), HB3.out⟩

end Go.Proofs.Ytbeahoimefnofaa
