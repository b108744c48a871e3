/-
  strakeref03.Chan and strakeref03.Number.
-/
import Derived.Test.YtbfpnpoafepjjaaRef03
import Derived.Test.YtbfpnpoafepjjaaChan
import Derived.Test.YtbfpnpoafepjjaaGeom3
set_option linter.unusedVariables false
set_option linter.unusedSimpArgs false
set_option maxRecDepth 16384
namespace Go.Proofs.Ytbfpnpoafepjjaa
open Go.RowKit

theorem within_any (n m : Int) (w : World) :
    Calls Try.prog 65 #[.int .i64 n, .int .i64 m] w fun e w' => e = .returned (.bool (amongB n m)) ∧ w = w' := by
  go_enter Try.func65, Try.ntmps65
  by_cases h : 0 ≤ n
  · go_wp2
    go_ret
    exact ⟨ret_bool (by unfold amongB; simp [h]), rfl⟩
  · go_wp2
    go_ret
    exact ⟨ret_bool (by unfold amongB; simp; omega), rfl⟩

set_option maxHeartbeats 1000000 in
theorem ref03Chan_any (g : Geo) (u : Int) (w : World) (hu : IsInt u) :
    Calls Try.prog 31 #[g.v, .int .i64 u] w fun e w' => e = .returned (.tuple #[.int .i64 (g.chanN u), .int .i64 (g.chanE u)]) ∧ Below w.heap.size w w' := by
  obtain ⟨c, l, b, p, s⟩ := g
  have HG := Lib.hid (Blk.new w 23 [.int .i64 c, .int .i64 l, .int .i64 b, .int .i64 p, .int .i64 s])
  unfold Geo.v
  go_enter Try.func31, Try.ntmps31
  (go_wp2_with fail); refine (ref03Right_any ⟨c, l, b, p, s⟩ _).mono ?_
  rintro e w1 ⟨rfl, hb⟩
  have hk := HG.out.below hb; have k0 : w1.cell? ⟨w.heap.size, 0, none⟩ = some (.int .i64 c) := hk.cell 0; have k1 : w1.cell? ⟨w.heap.size, 1, none⟩ = some (.int .i64 l) := hk.cell 1; have k2 : w1.cell? ⟨w.heap.size, 2, none⟩ = some (.int .i64 b) := hk.cell 2; have k3 : w1.cell? ⟨w.heap.size, 3, none⟩ = some (.int .i64 p) := hk.cell 3; have k4 : w1.cell? ⟨w.heap.size, 4, none⟩ = some (.int .i64 s) := hk.cell 4; have hltk := hk.lt
  have HG1 := Lib.hid hk
  have HB1 := Lib.hid (((Below.refl w.heap.size w).alloc (Nat.le_refl _) _).trans (hb.mono (by simp)))
  clear hb hk
  by_cases hok : Geo.okB ⟨c, l, b, p, s⟩ = true
  · obtain ⟨U, hU⟩ : ∃ r, Geo.units ⟨c, l, b, p, s⟩ = r := ⟨_, rfl⟩
    have hg := Geo.ok_of hok
    have hc := hg.c.1
    simp only at hc
    have HU : Hid (∀ wy, Calls Try.prog 66 #[.agg #[.int .i64 c, .int .i64 l, .int .i64 b, .int .i64 p, .int .i64 s]] wy fun e w' => e = .returned (.int .i64 U) ∧ Below wy.heap.size wy w') := by
      intro wy
      have := ref03Units_any ⟨c, l, b, p, s⟩ wy
      unfold Geo.unitsI at this
      rw [if_pos hok, hU] at this
      exact this
    have hU8 : U ≤ 8 := by
      obtain ⟨m1, m2, m3, m4, m5, m6, m7, m8, m9, m10⟩ := geo_mul hg.c.1 hg.c.2 hg.l.1 hg.l.2 hg.b.1 hg.b.2 hg.p.1 hg.p.2 hg.s.1 hg.s.2
      rw [← hU]
      exact m2
    by_cases hin : 0 ≤ u ∧ u < U
    · have hN : Geo.chanN ⟨c, l, b, p, s⟩ u = u % c := if_pos ⟨hok, by rw [hU]; exact hin⟩
      have hE : Geo.chanE ⟨c, l, b, p, s⟩ u = 0 := by unfold Geo.chanE; rw [if_pos hok, hU, if_pos hin]
      have ham : amongB u U = true := decide_eq_true hin
      have HNE := Lib.hid (And.intro hN hE)
      obtain ⟨u1, u2⟩ := hin
      rw [hok]
      clear hok hU hg hN hE
      (go_wp2_with fail); refine (HU.out _).mono ?_
      rintro e w2 ⟨rfl, hb⟩
      have hk := HG1.out.below hb; have k0 : w2.cell? ⟨w.heap.size, 0, none⟩ = some (.int .i64 c) := hk.cell 0; have k1 : w2.cell? ⟨w.heap.size, 1, none⟩ = some (.int .i64 l) := hk.cell 1; have k2 : w2.cell? ⟨w.heap.size, 2, none⟩ = some (.int .i64 b) := hk.cell 2; have k3 : w2.cell? ⟨w.heap.size, 3, none⟩ = some (.int .i64 p) := hk.cell 3; have k4 : w2.cell? ⟨w.heap.size, 4, none⟩ = some (.int .i64 s) := hk.cell 4; have hltk := hk.lt
      have HG2 := Lib.hid hk
      have HB2 := Lib.hid (HB1.out.trans (hb.mono HB1.out.size))
      clear hb hk
      (go_wp2_with fail); refine (within_any _ _ _).mono ?_
      rintro e w3 ⟨rfl, rfl⟩
      rw [ham]
      go_wp2_with fail
      go_loop [1] (fun t => ∃ v : Int, 0 ≤ v ∧ v ≤ u ∧ t = .int .i64 v ∧ Hid (v % c = u % c)) (fun t => (intOf t).toNat)
      case atStart => exact ⟨u, u1, Int.le_refl _, rfl, rfl⟩
      case round =>
        obtain ⟨v, v0, v1, rfl, HV⟩ := hrel
        by_cases hlt : c ≤ v
        · have hw1 : IntKind.i64.wrap (v - c) = v - c := wrap_in _ ⟨by omega, by omega⟩
          go_wp2_with fail
          go_round
          case rel => exact ⟨v - c, by omega, by omega, rfl, by show (v - c) % c = u % c; rw [Int.sub_emod_right]; exact HV.out⟩
          case measure => simp [intOf]; omega
        · have hv : v = u % c := by rw [← HV.out, Int.emod_eq_of_lt v0 (by omega)]
          have HV2 := Lib.hid hv
          clear hv
          go_wp2_with fail
          go_ret2
          exact ⟨by rw [HNE.out.1, HNE.out.2, ← HV2.out]; rfl, HB2.out⟩
    · have hN : Geo.chanN ⟨c, l, b, p, s⟩ u = 0 := if_neg (fun h => hin (by rw [← hU]; exact h.2))
      have hE : Geo.chanE ⟨c, l, b, p, s⟩ u = 2 := by unfold Geo.chanE; rw [if_pos hok, hU, if_neg hin]
      have ham : amongB u U = false := decide_eq_false hin
      have HNE := Lib.hid (And.intro hN hE)
      rw [hok]
      clear hok hU hg hN hE hin
      go_wp2_with (first | (go_at_call 66; refine (HU.out _).mono ?_; rintro e w2 ⟨rfl, hb⟩; have hk := HG1.out.below hb; have k0 : w2.cell? ⟨w.heap.size, 0, none⟩ = some (.int .i64 c) := hk.cell 0; have k1 : w2.cell? ⟨w.heap.size, 1, none⟩ = some (.int .i64 l) := hk.cell 1; have k2 : w2.cell? ⟨w.heap.size, 2, none⟩ = some (.int .i64 b) := hk.cell 2; have k3 : w2.cell? ⟨w.heap.size, 3, none⟩ = some (.int .i64 p) := hk.cell 3; have k4 : w2.cell? ⟨w.heap.size, 4, none⟩ = some (.int .i64 s) := hk.cell 4; have hltk := hk.lt; have HB2 := Lib.hid (HB1.out.trans (hb.mono HB1.out.size)); clear hb hk) | (go_at_call 65; refine (within_any _ _ _).mono ?_; rintro e w' ⟨rfl, rfl⟩; rw [ham]))
      go_ret2
      exact ⟨by rw [HNE.out.1, HNE.out.2]; rfl, HB2.out⟩
  · have hN : Geo.chanN ⟨c, l, b, p, s⟩ u = 0 := if_neg (fun h => hok h.1)
    have hE : Geo.chanE ⟨c, l, b, p, s⟩ u = 1 := if_neg hok
    have hk1 : Geo.okB ⟨c, l, b, p, s⟩ = false := by simpa using hok
    have HNE := Lib.hid (And.intro hN hE)
    rw [hk1]
    clear hok hk1 hN hE
    go_wp2
    go_ret2
    exact ⟨by rw [HNE.out.1, HNE.out.2]; rfl, HB1.out⟩


theorem mul_add_in {x y X Y : Int} (hx : 0 ≤ x ∧ x < X) (hy : 0 ≤ y ∧ y < Y) : 0 ≤ x * Y ∧ x * Y ≤ X * Y ∧ 0 ≤ x * Y + y ∧ x * Y + y < X * Y := by
  have h0 : 0 ≤ x * Y := Int.mul_nonneg hx.1 (by omega)
  have h1 : x * Y ≤ (X - 1) * Y := Int.mul_le_mul_of_nonneg_right (by omega) (by omega)
  rw [Int.sub_mul, Int.one_mul] at h1
  omega

theorem Geo.ix_ref (g : Geo) (q : Place) : ((q.block * g.pages + q.page) * g.units + q.unit) * g.sectors + q.sector = g.ix q := by
  unfold Geo.ix Geo.line Geo.stripe Geo.units
  rw [Int.add_mul, Int.add_mul, Int.add_mul]
  congr 3 <;> ac_rfl

set_option maxHeartbeats 2000000 in
theorem ref03Number_any (g : Geo) (q : Place) (w : World) (hq : q.Wf) :
    Calls Try.prog 29 #[g.v, q.v] w fun e w' => e = .returned (.tuple #[.int .i64 (g.numN q), .int .i64 (g.numE q)]) ∧ Below w.heap.size w w' := by
  have HQW := Lib.hid hq
  clear hq
  have HA : Hid (Below w.heap.size w ((w.alloc (.cells #[.int .i64 g.chans, .int .i64 g.luns, .int .i64 g.blocks, .int .i64 g.pages, .int .i64 g.sectors] 23)).alloc (.cells #[.int .i64 q.unit, .int .i64 q.block, .int .i64 q.page, .int .i64 q.sector] 42))) :=
    ((Below.refl w.heap.size w).alloc (Nat.le_refl _) _).alloc (by simp) _
  have HG := Lib.hid ((Blk.new w 23 [.int .i64 g.chans, .int .i64 g.luns, .int .i64 g.blocks, .int .i64 g.pages, .int .i64 g.sectors]).alloc (.cells #[.int .i64 q.unit, .int .i64 q.block, .int .i64 q.page, .int .i64 q.sector] 42))
  have HP := Lib.hid (Blk.new1 w (.cells #[.int .i64 g.chans, .int .i64 g.luns, .int .i64 g.blocks, .int .i64 g.pages, .int .i64 g.sectors] 23) 42 [.int .i64 q.unit, .int .i64 q.block, .int .i64 q.page, .int .i64 q.sector])
  by_cases hok : g.okB = true
  · have HOK := Lib.hid hok
    have HN := Lib.hid (g.num_ok hok q)
    have HO := Lib.hid (Geo.ok_of hok)
    obtain ⟨U, hU⟩ : ∃ r, g.units = r := ⟨_, rfl⟩
    have HU : Hid (∀ wy, Calls Try.prog 66 #[g.v] wy fun e w' => e = .returned (.int .i64 U) ∧ Below wy.heap.size wy w') := by
      intro wy
      have := ref03Units_any g wy
      unfold Geo.unitsI at this
      rw [if_pos hok, hU] at this
      exact this
    clear hok
    obtain ⟨c, l, b, p, s⟩ := g
    obtain ⟨x0, x1, x2, x3⟩ := q
    have HUU := Lib.hid hU
    unfold Geo.v at HU ⊢
    unfold Place.v
    go_enter Try.func29, Try.ntmps29
    (go_wp2_with fail); refine (ref03Right_any ⟨c, l, b, p, s⟩ _).mono ?_
    rintro e w1 ⟨rfl, hb⟩
    rw [HOK.out]
    have hp := HP.out.below hb
    have hk := HG.out.below hb; have k0 : w1.cell? ⟨w.heap.size, 0, none⟩ = some (.int .i64 c) := hk.cell 0; have k1 : w1.cell? ⟨w.heap.size, 1, none⟩ = some (.int .i64 l) := hk.cell 1; have k2 : w1.cell? ⟨w.heap.size, 2, none⟩ = some (.int .i64 b) := hk.cell 2; have k3 : w1.cell? ⟨w.heap.size, 3, none⟩ = some (.int .i64 p) := hk.cell 3; have k4 : w1.cell? ⟨w.heap.size, 4, none⟩ = some (.int .i64 s) := hk.cell 4; have hltk := hk.lt
    have j0 : w1.cell? ⟨w.heap.size + 1, 0, none⟩ = some (.int .i64 x0) := hp.cell 0; have j1 : w1.cell? ⟨w.heap.size + 1, 1, none⟩ = some (.int .i64 x1) := hp.cell 1; have j2 : w1.cell? ⟨w.heap.size + 1, 2, none⟩ = some (.int .i64 x2) := hp.cell 2; have j3 : w1.cell? ⟨w.heap.size + 1, 3, none⟩ = some (.int .i64 x3) := hp.cell 3
    have HG1 := Lib.hid hk
    have HP1 := Lib.hid hp
    have HB1 := Lib.hid (HA.out.trans (hb.mono HA.out.size))
    clear hb hk hp
    obtain ⟨a0, am0⟩ : ∃ a, amongB x0 U = a := ⟨_, rfl⟩
    obtain ⟨a1, am1⟩ : ∃ a, amongB x1 b = a := ⟨_, rfl⟩
    obtain ⟨a2, am2⟩ : ∃ a, amongB x2 p = a := ⟨_, rfl⟩
    obtain ⟨a3, am3⟩ : ∃ a, amongB x3 s = a := ⟨_, rfl⟩
    have HIN : Hid (Geo.inB ⟨c, l, b, p, s⟩ ⟨x0, x1, x2, x3⟩ = (a0 && a1 && a2 && a3)) := by
      show Geo.inB _ _ = _
      rw [← am0, ← am1, ← am2, ← am3, ← hU]
      unfold Geo.inB amongB
      simp only [← Bool.decide_and, and_assoc]
    go_wp2_with fail
    cases a0 with
    | false =>
      refine wp_region_b 29 (by kernel_rfl) (by kernel_rfl) ?_
      simp only [List.take_succ_cons, List.take_zero, List.drop_succ_cons, List.drop_zero]
      repeat (first
        | (refine SeqC.run (v := ?_) ?_ (fun wz hz => ?_) ?_; rotate_left; (· rfl); (· have hzc := hz.cell; have hzf := hz.frozen; go_simp; first | exact UponS.value hz | exact UponS.skip hz | (refine UponS.call ?_; first | (go_at_call 66; refine (HU.out _).mono ?_; rintro e wy ⟨rfl, hb⟩; refine ⟨?_, hz.step hb⟩; rfl) | (go_at_call 65; refine (within_any _ _ _).mono ?_; rintro e wy ⟨rfl, rfl⟩; simp only [am0, am1, am2, am3]; refine ⟨?_, hz⟩; rfl))); (try simp only [Act.put, List.setIfInBounds_toArray, List.set_cons_zero, List.set_cons_succ]))
        | (refine SeqC.skip ?_ ?_; (· rfl); (try simp only [Act.put, List.setIfInBounds_toArray, List.set_cons_zero, List.set_cons_succ])))
      refine fun wz hz => ?_
      have HZ := Lib.hid hz
      clear hz
      go_wp2
      go_ret2
      refine ⟨?_, HB1.out.drew.trans (HZ.out.below.mono HB1.out.size)⟩
      rw [(HN.out.2 (by rw [HIN.out]; rfl)).1, (HN.out.2 (by rw [HIN.out]; rfl)).2]
      rfl
    | true =>
      cases a1 with
      | false =>
        refine wp_region_b 29 (by kernel_rfl) (by kernel_rfl) ?_
        simp only [List.take_succ_cons, List.take_zero, List.drop_succ_cons, List.drop_zero]
        repeat (first
          | (refine SeqC.run (v := ?_) ?_ (fun wz hz => ?_) ?_; rotate_left; (· rfl); (· have hzc := hz.cell; have hzf := hz.frozen; go_simp; first | exact UponS.value hz | exact UponS.skip hz | (refine UponS.call ?_; first | (go_at_call 66; refine (HU.out _).mono ?_; rintro e wy ⟨rfl, hb⟩; refine ⟨?_, hz.step hb⟩; rfl) | (go_at_call 65; refine (within_any _ _ _).mono ?_; rintro e wy ⟨rfl, rfl⟩; simp only [am0, am1, am2, am3]; refine ⟨?_, hz⟩; rfl))); (try simp only [Act.put, List.setIfInBounds_toArray, List.set_cons_zero, List.set_cons_succ]))
          | (refine SeqC.skip ?_ ?_; (· rfl); (try simp only [Act.put, List.setIfInBounds_toArray, List.set_cons_zero, List.set_cons_succ])))
        refine fun wz hz => ?_
        have HZ := Lib.hid hz
        clear hz
        go_wp2
        go_ret2
        refine ⟨?_, HB1.out.drew.trans (HZ.out.below.mono HB1.out.size)⟩
        rw [(HN.out.2 (by rw [HIN.out]; rfl)).1, (HN.out.2 (by rw [HIN.out]; rfl)).2]
        rfl
      | true =>
        cases a2 with
        | false =>
          refine wp_region_b 29 (by kernel_rfl) (by kernel_rfl) ?_
          simp only [List.take_succ_cons, List.take_zero, List.drop_succ_cons, List.drop_zero]
          repeat (first
            | (refine SeqC.run (v := ?_) ?_ (fun wz hz => ?_) ?_; rotate_left; (· rfl); (· have hzc := hz.cell; have hzf := hz.frozen; go_simp; first | exact UponS.value hz | exact UponS.skip hz | (refine UponS.call ?_; first | (go_at_call 66; refine (HU.out _).mono ?_; rintro e wy ⟨rfl, hb⟩; refine ⟨?_, hz.step hb⟩; rfl) | (go_at_call 65; refine (within_any _ _ _).mono ?_; rintro e wy ⟨rfl, rfl⟩; simp only [am0, am1, am2, am3]; refine ⟨?_, hz⟩; rfl))); (try simp only [Act.put, List.setIfInBounds_toArray, List.set_cons_zero, List.set_cons_succ]))
            | (refine SeqC.skip ?_ ?_; (· rfl); (try simp only [Act.put, List.setIfInBounds_toArray, List.set_cons_zero, List.set_cons_succ])))
          refine fun wz hz => ?_
          have HZ := Lib.hid hz
          clear hz
          go_wp2
          go_ret2
          refine ⟨?_, HB1.out.drew.trans (HZ.out.below.mono HB1.out.size)⟩
          rw [(HN.out.2 (by rw [HIN.out]; rfl)).1, (HN.out.2 (by rw [HIN.out]; rfl)).2]
          rfl
        | true =>
          cases a3 with
          | false =>
            refine wp_region_b 29 (by kernel_rfl) (by kernel_rfl) ?_
            simp only [List.take_succ_cons, List.take_zero, List.drop_succ_cons, List.drop_zero]
            repeat (first
              | (refine SeqC.run (v := ?_) ?_ (fun wz hz => ?_) ?_; rotate_left; (· rfl); (· have hzc := hz.cell; have hzf := hz.frozen; go_simp; first | exact UponS.value hz | exact UponS.skip hz | (refine UponS.call ?_; first | (go_at_call 66; refine (HU.out _).mono ?_; rintro e wy ⟨rfl, hb⟩; refine ⟨?_, hz.step hb⟩; rfl) | (go_at_call 65; refine (within_any _ _ _).mono ?_; rintro e wy ⟨rfl, rfl⟩; simp only [am0, am1, am2, am3]; refine ⟨?_, hz⟩; rfl))); (try simp only [Act.put, List.setIfInBounds_toArray, List.set_cons_zero, List.set_cons_succ]))
              | (refine SeqC.skip ?_ ?_; (· rfl); (try simp only [Act.put, List.setIfInBounds_toArray, List.set_cons_zero, List.set_cons_succ])))
            refine fun wz hz => ?_
            have HZ := Lib.hid hz
            clear hz
            go_wp2
            go_ret2
            refine ⟨?_, HB1.out.drew.trans (HZ.out.below.mono HB1.out.size)⟩
            rw [(HN.out.2 (by rw [HIN.out]; rfl)).1, (HN.out.2 (by rw [HIN.out]; rfl)).2]
            rfl
          | true =>
            refine wp_region_b 29 (by kernel_rfl) (by kernel_rfl) ?_
            simp only [List.take_succ_cons, List.take_zero, List.drop_succ_cons, List.drop_zero]
            repeat (first
              | (refine SeqC.run (v := ?_) ?_ (fun wz hz => ?_) ?_; rotate_left; (· rfl); (· have hzc := hz.cell; have hzf := hz.frozen; go_simp; first | exact UponS.value hz | exact UponS.skip hz | (refine UponS.call ?_; first | (go_at_call 66; refine (HU.out _).mono ?_; rintro e wy ⟨rfl, hb⟩; refine ⟨?_, hz.step hb⟩; rfl) | (go_at_call 65; refine (within_any _ _ _).mono ?_; rintro e wy ⟨rfl, rfl⟩; simp only [am0, am1, am2, am3]; refine ⟨?_, hz⟩; rfl))); (try simp only [Act.put, List.setIfInBounds_toArray, List.set_cons_zero, List.set_cons_succ]))
              | (refine SeqC.skip ?_ ?_; (· rfl); (try simp only [Act.put, List.setIfInBounds_toArray, List.set_cons_zero, List.set_cons_succ])))
            refine fun wz hz => ?_
            have hin : Geo.In ⟨c, l, b, p, s⟩ ⟨x0, x1, x2, x3⟩ := Geo.in_of (by rw [HIN.out]; rfl)
            have hix := Geo.ix_ref ⟨c, l, b, p, s⟩ ⟨x0, x1, x2, x3⟩
            have hii := Geo.ix_in hin
            have hle := HO.out
            obtain ⟨⟨c1, c2⟩, ⟨l1, l2⟩, ⟨b1, b2⟩, ⟨p1, p2⟩, ⟨s1, s2⟩⟩ := hle
            simp only at c1 c2 l1 l2 b1 b2 p1 p2 s1 s2
            have hU8 : 1 ≤ U ∧ U ≤ 8 := by
              have hm := geo_mul c1 c2 l1 l2 b1 b2 p1 p2 s1 s2
              rw [← HUU.out]
              exact ⟨hm.1, hm.2.1⟩
            have i1 := mul_add_in hin.b hin.pg
            have hu := hin.u
            rw [HUU.out] at hix hu
            simp only at hix i1 hu
            have i2 := mul_add_in ⟨i1.2.2.1, i1.2.2.2⟩ hu
            have i3 := mul_add_in ⟨i2.2.2.1, i2.2.2.2⟩ hin.s
            simp only at i2 i3
            have m1 : b * p ≤ 64 * 32 := Int.mul_le_mul b2 p2 (by omega) (by omega)
            have m2 : b * p * U ≤ 64 * 32 * 8 := Int.mul_le_mul m1 hU8.2 (by omega) (by omega)
            have m3 : b * p * U * s ≤ 64 * 32 * 8 * 4 := Int.mul_le_mul m2 s2 (by omega) (by omega)
            have e1 : IntKind.i64.wrap (x1 * p) = x1 * p := wrap_in _ ⟨by omega, by omega⟩
            have e2 : IntKind.i64.wrap (x1 * p + x2) = x1 * p + x2 := wrap_in _ ⟨by omega, by omega⟩
            have e3 : IntKind.i64.wrap ((x1 * p + x2) * U) = (x1 * p + x2) * U := wrap_in _ ⟨by omega, by omega⟩
            have e4 : IntKind.i64.wrap ((x1 * p + x2) * U + x0) = (x1 * p + x2) * U + x0 := wrap_in _ ⟨by omega, by omega⟩
            have e5 : IntKind.i64.wrap (((x1 * p + x2) * U + x0) * s) = ((x1 * p + x2) * U + x0) * s := wrap_in _ ⟨by omega, by omega⟩
            have e6 : IntKind.i64.wrap (((x1 * p + x2) * U + x0) * s + x3) = ((x1 * p + x2) * U + x0) * s + x3 := wrap_in _ ⟨by omega, by omega⟩
            have HIX := Lib.hid hix
            clear hin hix hii i1 i2 i3 m1 m2 m3 hu hU8
            have hzc := hz.cell
            have hp := HP1.out.drew.below hz.below
            have hb := hz.below
            have hk := HG1.out.drew.below hz.below
            have k0 : wz.cell? ⟨w.heap.size, 0, none⟩ = some (.int .i64 c) := hk.cell 0; have k1 : wz.cell? ⟨w.heap.size, 1, none⟩ = some (.int .i64 l) := hk.cell 1; have k2 : wz.cell? ⟨w.heap.size, 2, none⟩ = some (.int .i64 b) := hk.cell 2; have k3 : wz.cell? ⟨w.heap.size, 3, none⟩ = some (.int .i64 p) := hk.cell 3; have k4 : wz.cell? ⟨w.heap.size, 4, none⟩ = some (.int .i64 s) := hk.cell 4
            have j0 : wz.cell? ⟨w.heap.size + 1, 0, none⟩ = some (.int .i64 x0) := hp.cell 0; have j1 : wz.cell? ⟨w.heap.size + 1, 1, none⟩ = some (.int .i64 x1) := hp.cell 1; have j2 : wz.cell? ⟨w.heap.size + 1, 2, none⟩ = some (.int .i64 x2) := hp.cell 2; have j3 : wz.cell? ⟨w.heap.size + 1, 3, none⟩ = some (.int .i64 x3) := hp.cell 3
            have HBz := Lib.hid (HB1.out.drew.trans (hb.mono HB1.out.size))
            clear hb hk hp hzc hz
            go_wp2_with fail
            refine wp_region_b 21 (by kernel_rfl) (by kernel_rfl) ?_
            simp only [List.take_succ_cons, List.take_zero, List.drop_succ_cons, List.drop_zero]
            repeat (first
              | (refine SeqC.run (v := ?_) ?_ (fun wz hz => ?_) ?_; rotate_left; (· rfl); (· have hzc := hz.cell; have hzf := hz.frozen; go_simp; first | exact UponS.value hz | exact UponS.skip hz | (refine UponS.call ?_; (go_at_call 66; refine (HU.out _).mono ?_; rintro e wy ⟨rfl, hb⟩; refine ⟨?_, hz.step hb⟩; rfl))); (try simp only [Act.put, List.setIfInBounds_toArray, List.set_cons_zero, List.set_cons_succ]))
              | (refine SeqC.skip ?_ ?_; (· rfl); (try simp only [Act.put, List.setIfInBounds_toArray, List.set_cons_zero, List.set_cons_succ])))
            refine fun wz2 hz => ?_
            go_wp2
            go_ret2
            refine ⟨?_, HBz.out.drew.trans (hz.below.mono HBz.out.size)⟩
            rw [(HN.out.1 (by rw [HIN.out]; rfl)).1, (HN.out.1 (by rw [HIN.out]; rfl)).2, ← HIX.out]
            rfl
  · have hN : g.numN q = 0 := if_neg (fun h => hok h.1)
    have hE : g.numE q = 1 := if_neg hok
    have hk1 : g.okB = false := by simpa using hok
    have HNE := Lib.hid (And.intro hN hE)
    have HK1 := Lib.hid hk1
    clear hok hk1 hN hE
    obtain ⟨c, l, b, p, s⟩ := g
    obtain ⟨x0, x1, x2, x3⟩ := q
    unfold Geo.v Place.v
    go_enter Try.func29, Try.ntmps29
    (go_wp2_with fail); refine (ref03Right_any ⟨c, l, b, p, s⟩ _).mono ?_
    rintro e w1 ⟨rfl, hb⟩
    rw [HK1.out]
    have HB1 := Lib.hid (HA.out.trans (hb.mono HA.out.size))
    clear hb
    go_wp2
    go_ret2
    exact ⟨by rw [HNE.out.1, HNE.out.2]; rfl, HB1.out⟩

end Go.Proofs.Ytbfpnpoafepjjaa
