/-
  The walks of package geom, third part: Number, Chan.
-/
import Derived.Test.YtlkapaecaeldpaaGeom2
import Derived.Test.YtlkapaecaeldpaaReg
set_option linter.unusedVariables false
set_option linter.unusedSimpArgs false
set_option maxRecDepth 16384
namespace Go.Proofs.Ytlkapaecaeldpaa
open Go.RowKit

theorem Geo.num_ok (g : Geo) (h : g.okB = true) (q : Place) :
    (g.inB q = true → g.numN q = g.ix q ∧ g.numE q = 0) ∧ (g.inB q = false → g.numN q = 0 ∧ g.numE q = 2) := by
  unfold Geo.numN Geo.numE
  rw [if_pos h]
  refine ⟨fun k => ⟨if_pos ⟨h, k⟩, if_pos k⟩, fun k => ⟨if_neg (fun q => ?_), if_neg (fun q => ?_)⟩⟩
  · rw [k] at q; exact absurd q.2 (by decide)
  · rw [k] at q; exact absurd q (by decide)

set_option maxHeartbeats 4000000 in
theorem geomNumber_any (g : Geo) (q : Place) (w : World) (hg : g.Wf) (hq : q.Wf) :
    Calls Try.prog 46 #[g.v, q.v] w fun e w' => e = .returned (.tuple #[.int .i64 (g.numN q), .int .i64 (g.numE q)]) ∧ Below w.heap.size w w' := by
  have HW := Lib.hid hg
  have HQW := Lib.hid hq
  clear hg hq
  have HA : Hid (Below w.heap.size w ((w.alloc (.cells #[.int .i64 g.chans, .int .i64 g.luns, .int .i64 g.blocks, .int .i64 g.pages, .int .i64 g.sectors] 23)).alloc (.cells #[.int .i64 q.unit, .int .i64 q.block, .int .i64 q.page, .int .i64 q.sector] 84))) :=
    ((Below.refl w.heap.size w).alloc (Nat.le_refl _) _).alloc (by simp) _
  have HG := Lib.hid ((Blk.new w 23 [.int .i64 g.chans, .int .i64 g.luns, .int .i64 g.blocks, .int .i64 g.pages, .int .i64 g.sectors]).alloc (.cells #[.int .i64 q.unit, .int .i64 q.block, .int .i64 q.page, .int .i64 q.sector] 84))
  have HP := Lib.hid (Blk.new1 w (.cells #[.int .i64 g.chans, .int .i64 g.luns, .int .i64 g.blocks, .int .i64 g.pages, .int .i64 g.sectors] 23) 84 [.int .i64 q.unit, .int .i64 q.block, .int .i64 q.page, .int .i64 q.sector])
  by_cases hok : g.okB = true
  · have HOK := Lib.hid hok
    have HO := Lib.hid (Geo.ok_of hok)
    have HN := Lib.hid (g.num_ok hok q)
    have HM := Lib.hid HO.out
    clear hok
    obtain ⟨c, l, b, p, s⟩ := g
    obtain ⟨x0, x1, x2, x3⟩ := q
    obtain ⟨⟨c1, c2⟩, ⟨l1, l2⟩, ⟨b1, b2⟩, ⟨p1, p2⟩, ⟨s1, s2⟩⟩ := HM.out
    simp only at c1 c2 l1 l2 b1 b2 p1 p2 s1 s2
    have HMUL := Lib.hid (geo_mul c1 c2 l1 l2 b1 b2 p1 p2 s1 s2)
    clear HM
    unfold Geo.v Place.v
    go_enter Try.func46, Try.ntmps46
    (go_wp2_with fail); refine (geomRight_any ⟨c, l, b, p, s⟩ _ HW.out).mono ?_
    rintro e w1 ⟨rfl, hb⟩
    rw [HOK.out]
    have hp1 := HP.out.below hb
    have hgk := HG.out.below hb
    have k0 : w1.cell? ⟨w.heap.size, 0, none⟩ = some (.int .i64 c) := hgk.cell 0; have k1 : w1.cell? ⟨w.heap.size, 1, none⟩ = some (.int .i64 l) := hgk.cell 1; have k2 : w1.cell? ⟨w.heap.size, 2, none⟩ = some (.int .i64 b) := hgk.cell 2; have k3 : w1.cell? ⟨w.heap.size, 3, none⟩ = some (.int .i64 p) := hgk.cell 3; have k4 : w1.cell? ⟨w.heap.size, 4, none⟩ = some (.int .i64 s) := hgk.cell 4
    have hlt := hp1.lt
    have hne : w.heap.size + 1 ≠ w1.heap.size := by omega
    have hne2 : w1.heap.size ≠ w.heap.size + 1 := by omega
    have HB3 := Lib.hid ((((HA.out.trans (hb.mono HA.out.size))).alloc (Nat.le_trans HA.out.size hb.size) (.cells #[.int .i64 c, .int .i64 l, .int .i64 b, .int .i64 p, .int .i64 s] 151)).drew)
    have HP3 := Lib.hid (hp1.alloc (.cells #[.int .i64 c, .int .i64 l, .int .i64 b, .int .i64 p, .int .i64 s] 151)).drew
    have HG3 := Lib.hid (hgk.alloc (.cells #[.int .i64 c, .int .i64 l, .int .i64 b, .int .i64 p, .int .i64 s] 151)).drew
    have HS3 := Lib.hid (Blk.new w1 151 [.int .i64 c, .int .i64 l, .int .i64 b, .int .i64 p, .int .i64 s]).drew
    have j0 : w1.cell? ⟨w.heap.size + 1, 0, none⟩ = some (.int .i64 x0) := hp1.cell 0
    have j1 : w1.cell? ⟨w.heap.size + 1, 1, none⟩ = some (.int .i64 x1) := hp1.cell 1
    have j2 : w1.cell? ⟨w.heap.size + 1, 2, none⟩ = some (.int .i64 x2) := hp1.cell 2
    have j3 : w1.cell? ⟨w.heap.size + 1, 3, none⟩ = some (.int .i64 x3) := hp1.cell 3
    clear hb hgk hp1
    obtain ⟨a0, am0⟩ : ∃ a, amongB x0 (Geo.units ⟨c, l, b, p, s⟩) = a := ⟨_, rfl⟩
    obtain ⟨a1, am1⟩ : ∃ a, amongB x1 b = a := ⟨_, rfl⟩
    obtain ⟨a2, am2⟩ : ∃ a, amongB x2 p = a := ⟨_, rfl⟩
    obtain ⟨a3, am3⟩ : ∃ a, amongB x3 s = a := ⟨_, rfl⟩
    have HIN : Hid (Geo.inB ⟨c, l, b, p, s⟩ ⟨x0, x1, x2, x3⟩ = (a0 && a1 && a2 && a3)) := by
      show Geo.inB _ _ = _
      rw [← am0, ← am1, ← am2, ← am3]
      unfold Geo.inB amongB
      simp only [← Bool.decide_and, and_assoc]
    go_wp2
    cases a0 with
    | false => 
      refine wp_region_b 29 (by kernel_rfl) (by kernel_rfl) ?_
      simp only [List.take_succ_cons, List.take_zero, List.drop_succ_cons, List.drop_zero]
      repeat (first
        | (refine SeqC.run (v := ?_) ?_ (fun wz hz => ?_) ?_; rotate_left; (· rfl); (· have hzc := hz.cell; have hzf := hz.frozen; go_simp; first | exact UponS.value hz | exact UponS.skip hz | (refine UponS.call ?_; first | (go_at_call 101; refine (shapeUnits_any ⟨c, l, b, p, s⟩ _ HO.out).mono ?_; rintro e wy ⟨rfl, hb⟩; refine ⟨?_, hz.step hb⟩; rfl) | (go_at_call 100; refine (among_any _ _ _).mono ?_; rintro e wy ⟨rfl, rfl⟩; simp only [am0, am1, am2, am3]; refine ⟨?_, hz⟩; rfl))); (try simp only [Act.put, List.setIfInBounds_toArray, List.set_cons_zero, List.set_cons_succ]))
        | (refine SeqC.skip ?_ ?_; (· rfl); (try simp only [Act.put, List.setIfInBounds_toArray, List.set_cons_zero, List.set_cons_succ])))
      refine fun wz hz => ?_
      have hzc := hz.cell
      have HZ := Lib.hid hz
      clear hz
      go_wp2
      go_ret2
      refine ⟨?_, HB3.out.trans (HZ.out.below.mono HB3.out.size)⟩
      rw [(HN.out.2 (by rw [HIN.out]; rfl)).1, (HN.out.2 (by rw [HIN.out]; rfl)).2]
      rfl
    | true =>
      cases a1 with
      | false =>
        refine wp_region_b 29 (by kernel_rfl) (by kernel_rfl) ?_
        simp only [List.take_succ_cons, List.take_zero, List.drop_succ_cons, List.drop_zero]
        repeat (first
          | (refine SeqC.run (v := ?_) ?_ (fun wz hz => ?_) ?_; rotate_left; (· rfl); (· have hzc := hz.cell; have hzf := hz.frozen; go_simp; first | exact UponS.value hz | exact UponS.skip hz | (refine UponS.call ?_; first | (go_at_call 101; refine (shapeUnits_any ⟨c, l, b, p, s⟩ _ HO.out).mono ?_; rintro e wy ⟨rfl, hb⟩; refine ⟨?_, hz.step hb⟩; rfl) | (go_at_call 100; refine (among_any _ _ _).mono ?_; rintro e wy ⟨rfl, rfl⟩; simp only [am0, am1, am2, am3]; refine ⟨?_, hz⟩; rfl))); (try simp only [Act.put, List.setIfInBounds_toArray, List.set_cons_zero, List.set_cons_succ]))
          | (refine SeqC.skip ?_ ?_; (· rfl); (try simp only [Act.put, List.setIfInBounds_toArray, List.set_cons_zero, List.set_cons_succ])))
        refine fun wz hz => ?_
        have hzc := hz.cell
        have HZ := Lib.hid hz
        clear hz
        go_wp2
        go_ret2
        refine ⟨?_, HB3.out.trans (HZ.out.below.mono HB3.out.size)⟩
        rw [(HN.out.2 (by rw [HIN.out]; rfl)).1, (HN.out.2 (by rw [HIN.out]; rfl)).2]
        rfl
      | true =>
        cases a2 with
        | false =>
          refine wp_region_b 29 (by kernel_rfl) (by kernel_rfl) ?_
          simp only [List.take_succ_cons, List.take_zero, List.drop_succ_cons, List.drop_zero]
          repeat (first
            | (refine SeqC.run (v := ?_) ?_ (fun wz hz => ?_) ?_; rotate_left; (· rfl); (· have hzc := hz.cell; have hzf := hz.frozen; go_simp; first | exact UponS.value hz | exact UponS.skip hz | (refine UponS.call ?_; first | (go_at_call 101; refine (shapeUnits_any ⟨c, l, b, p, s⟩ _ HO.out).mono ?_; rintro e wy ⟨rfl, hb⟩; refine ⟨?_, hz.step hb⟩; rfl) | (go_at_call 100; refine (among_any _ _ _).mono ?_; rintro e wy ⟨rfl, rfl⟩; simp only [am0, am1, am2, am3]; refine ⟨?_, hz⟩; rfl))); (try simp only [Act.put, List.setIfInBounds_toArray, List.set_cons_zero, List.set_cons_succ]))
            | (refine SeqC.skip ?_ ?_; (· rfl); (try simp only [Act.put, List.setIfInBounds_toArray, List.set_cons_zero, List.set_cons_succ])))
          refine fun wz hz => ?_
          have hzc := hz.cell
          have HZ := Lib.hid hz
          clear hz
          go_wp2
          go_ret2
          refine ⟨?_, HB3.out.trans (HZ.out.below.mono HB3.out.size)⟩
          rw [(HN.out.2 (by rw [HIN.out]; rfl)).1, (HN.out.2 (by rw [HIN.out]; rfl)).2]
          rfl
        | true =>
          cases a3 with
          | false =>
            refine wp_region_b 29 (by kernel_rfl) (by kernel_rfl) ?_
            simp only [List.take_succ_cons, List.take_zero, List.drop_succ_cons, List.drop_zero]
            repeat (first
              | (refine SeqC.run (v := ?_) ?_ (fun wz hz => ?_) ?_; rotate_left; (· rfl); (· have hzc := hz.cell; have hzf := hz.frozen; go_simp; first | exact UponS.value hz | exact UponS.skip hz | (refine UponS.call ?_; first | (go_at_call 101; refine (shapeUnits_any ⟨c, l, b, p, s⟩ _ HO.out).mono ?_; rintro e wy ⟨rfl, hb⟩; refine ⟨?_, hz.step hb⟩; rfl) | (go_at_call 100; refine (among_any _ _ _).mono ?_; rintro e wy ⟨rfl, rfl⟩; simp only [am0, am1, am2, am3]; refine ⟨?_, hz⟩; rfl))); (try simp only [Act.put, List.setIfInBounds_toArray, List.set_cons_zero, List.set_cons_succ]))
              | (refine SeqC.skip ?_ ?_; (· rfl); (try simp only [Act.put, List.setIfInBounds_toArray, List.set_cons_zero, List.set_cons_succ])))
            refine fun wz hz => ?_
            have hzc := hz.cell
            have HZ := Lib.hid hz
            clear hz
            go_wp2
            go_ret2
            refine ⟨?_, HB3.out.trans (HZ.out.below.mono HB3.out.size)⟩
            rw [(HN.out.2 (by rw [HIN.out]; rfl)).1, (HN.out.2 (by rw [HIN.out]; rfl)).2]
            rfl
          | true =>
            refine wp_region_b 29 (by kernel_rfl) (by kernel_rfl) ?_
            simp only [List.take_succ_cons, List.take_zero, List.drop_succ_cons, List.drop_zero]
            repeat (first
              | (refine SeqC.run (v := ?_) ?_ (fun wz hz => ?_) ?_; rotate_left; (· rfl); (· have hzc := hz.cell; have hzf := hz.frozen; go_simp; first | exact UponS.value hz | exact UponS.skip hz | (refine UponS.call ?_; first | (go_at_call 101; refine (shapeUnits_any ⟨c, l, b, p, s⟩ _ HO.out).mono ?_; rintro e wy ⟨rfl, hb⟩; refine ⟨?_, hz.step hb⟩; rfl) | (go_at_call 100; refine (among_any _ _ _).mono ?_; rintro e wy ⟨rfl, rfl⟩; simp only [am0, am1, am2, am3]; refine ⟨?_, hz⟩; rfl))); (try simp only [Act.put, List.setIfInBounds_toArray, List.set_cons_zero, List.set_cons_succ]))
              | (refine SeqC.skip ?_ ?_; (· rfl); (try simp only [Act.put, List.setIfInBounds_toArray, List.set_cons_zero, List.set_cons_succ])))
            refine fun wz hz => ?_
            have hin : Geo.In ⟨c, l, b, p, s⟩ ⟨x0, x1, x2, x3⟩ := Geo.in_of (by rw [HIN.out]; rfl)
            have hpt := Geo.parts hin
            have hix := Geo.of_ix HO.out hin
            have hixi := Geo.ix_in hin
            rw [Geo.ix_eq] at hix hixi
            simp only at hpt hix hixi
            obtain ⟨u1, u2⟩ := hin.u
            obtain ⟨b1', b2'⟩ := hin.b
            obtain ⟨g1, g2⟩ := hin.pg
            obtain ⟨t1, t2⟩ := hin.s
            simp only at u1 b1' g1 t1
            have hall : Geo.all ⟨c, l, b, p, s⟩ ≤ 65536 := HMUL.out.2.2.2.2.2.2.2.1
            have hline : Geo.line ⟨c, l, b, p, s⟩ ≤ 1024 := HMUL.out.2.2.2.2.2.1
            have hline0 : 0 < Geo.line ⟨c, l, b, p, s⟩ := HMUL.out.2.2.2.2.1
            have hstr : Geo.stripe ⟨c, l, b, p, s⟩ ≤ 32 := HMUL.out.2.2.2.2.2.2.2.2.2
            have hstr0 : 0 < Geo.stripe ⟨c, l, b, p, s⟩ := HMUL.out.2.2.2.2.2.2.2.2.1
            have n1 : 0 ≤ x1 * Geo.line ⟨c, l, b, p, s⟩ := Int.mul_nonneg b1' (by omega)
            have n2 : 0 ≤ x2 * Geo.stripe ⟨c, l, b, p, s⟩ := Int.mul_nonneg g1 (by omega)
            have n3 : 0 ≤ x0 * s := Int.mul_nonneg u1 (by omega)
            have e1 : IntKind.i64.wrap (x1 * Geo.line ⟨c, l, b, p, s⟩) = x1 * Geo.line ⟨c, l, b, p, s⟩ := wrap_in _ ⟨by omega, by omega⟩
            have e2 : IntKind.i64.wrap (x2 * Geo.stripe ⟨c, l, b, p, s⟩) = x2 * Geo.stripe ⟨c, l, b, p, s⟩ := wrap_in _ ⟨by omega, by omega⟩
            have e3 : IntKind.i64.wrap (x0 * s) = x0 * s := wrap_in _ ⟨by omega, by omega⟩
            have e4 : IntKind.i64.wrap (x1 * Geo.line ⟨c, l, b, p, s⟩ + x2 * Geo.stripe ⟨c, l, b, p, s⟩) = x1 * Geo.line ⟨c, l, b, p, s⟩ + x2 * Geo.stripe ⟨c, l, b, p, s⟩ := wrap_in _ ⟨by omega, by omega⟩
            have e5 : IntKind.i64.wrap (x1 * Geo.line ⟨c, l, b, p, s⟩ + x2 * Geo.stripe ⟨c, l, b, p, s⟩ + x0 * s) = x1 * Geo.line ⟨c, l, b, p, s⟩ + x2 * Geo.stripe ⟨c, l, b, p, s⟩ + x0 * s := wrap_in _ ⟨by omega, by omega⟩
            have e6 : IntKind.i64.wrap (x1 * Geo.line ⟨c, l, b, p, s⟩ + x2 * Geo.stripe ⟨c, l, b, p, s⟩ + x0 * s + x3) = x1 * Geo.line ⟨c, l, b, p, s⟩ + x2 * Geo.stripe ⟨c, l, b, p, s⟩ + x0 * s + x3 := wrap_in _ ⟨by omega, by omega⟩
            have hint : Hid (IsInt (x1 * Geo.line ⟨c, l, b, p, s⟩ + x2 * Geo.stripe ⟨c, l, b, p, s⟩ + x0 * s + x3)) := ⟨by omega, by omega⟩
            rw [show x1 * Geo.line ⟨c, l, b, p, s⟩ + (x2 * Geo.stripe ⟨c, l, b, p, s⟩ + (x0 * s + x3)) = x1 * Geo.line ⟨c, l, b, p, s⟩ + x2 * Geo.stripe ⟨c, l, b, p, s⟩ + x0 * s + x3 from by omega] at hix
            have HIX := Lib.hid hix
            have hs4 := HS3.out.below hz.below
            have hp4 := HP3.out.below hz.below
            have hg4 := HG3.out.below hz.below
            have k0 : wz.cell? ⟨w1.heap.size, 0, none⟩ = some (.int .i64 c) := hs4.cell 0; have k1 : wz.cell? ⟨w1.heap.size, 1, none⟩ = some (.int .i64 l) := hs4.cell 1; have k2 : wz.cell? ⟨w1.heap.size, 2, none⟩ = some (.int .i64 b) := hs4.cell 2; have k3 : wz.cell? ⟨w1.heap.size, 3, none⟩ = some (.int .i64 p) := hs4.cell 3; have k4 : wz.cell? ⟨w1.heap.size, 4, none⟩ = some (.int .i64 s) := hs4.cell 4
            have j0 : wz.cell? ⟨w.heap.size + 1, 0, none⟩ = some (.int .i64 x0) := hp4.cell 0; have j1 : wz.cell? ⟨w.heap.size + 1, 1, none⟩ = some (.int .i64 x1) := hp4.cell 1; have j2 : wz.cell? ⟨w.heap.size + 1, 2, none⟩ = some (.int .i64 x2) := hp4.cell 2; have j3 : wz.cell? ⟨w.heap.size + 1, 3, none⟩ = some (.int .i64 x3) := hp4.cell 3
            have HB4 := Lib.hid (HB3.out.trans (hz.below.mono HB3.out.size)).drew
            have HP4 := Lib.hid hp4.drew
            have HG4 := Lib.hid hg4.drew
            clear hix hixi hpt hz hin hs4 hp4 hg4
            go_wp2
            refine wp_region_b 20 (by kernel_rfl) (by kernel_rfl) ?_
            simp only [List.take_succ_cons, List.take_zero, List.drop_succ_cons, List.drop_zero]
            repeat (first
              | (refine SeqC.run (v := ?_) ?_ (fun wz hz => ?_) ?_; rotate_left; (· rfl); (· have hzc := hz.cell; have hzf := hz.frozen; go_simp; first | exact UponS.value hz | exact UponS.skip hz | (refine UponS.call ?_; first | (go_at_call 96; refine (shapeLine_any ⟨c, l, b, p, s⟩ _ HO.out).mono ?_; rintro e wy ⟨rfl, hb⟩; refine ⟨?_, hz.step hb⟩; rfl) | (go_at_call 102; refine (shapeStripe_any ⟨c, l, b, p, s⟩ _ HO.out).mono ?_; rintro e wy ⟨rfl, hb⟩; refine ⟨?_, hz.step hb⟩; rfl))); (try simp only [Act.put, List.setIfInBounds_toArray, List.set_cons_zero, List.set_cons_succ]))
              | (refine SeqC.skip ?_ ?_; (· rfl); (try simp only [Act.put, List.setIfInBounds_toArray, List.set_cons_zero, List.set_cons_succ])))
            clear e1 e2 e3 e4 e5 e6 n1 n2 n3
            refine fun wy hy => ?_
            have hp5 := HP4.out.below hy.below
            have hg5 := HG4.out.below hy.below
            have j0 : wy.cell? ⟨w.heap.size + 1, 0, none⟩ = some (.int .i64 x0) := hp5.cell 0; have j1 : wy.cell? ⟨w.heap.size + 1, 1, none⟩ = some (.int .i64 x1) := hp5.cell 1; have j2 : wy.cell? ⟨w.heap.size + 1, 2, none⟩ = some (.int .i64 x2) := hp5.cell 2; have j3 : wy.cell? ⟨w.heap.size + 1, 3, none⟩ = some (.int .i64 x3) := hp5.cell 3
            have k0 : wy.cell? ⟨w.heap.size, 0, none⟩ = some (.int .i64 c) := hg5.cell 0; have k1 : wy.cell? ⟨w.heap.size, 1, none⟩ = some (.int .i64 l) := hg5.cell 1; have k2 : wy.cell? ⟨w.heap.size, 2, none⟩ = some (.int .i64 b) := hg5.cell 2; have k3 : wy.cell? ⟨w.heap.size, 3, none⟩ = some (.int .i64 p) := hg5.cell 3; have k4 : wy.cell? ⟨w.heap.size, 4, none⟩ = some (.int .i64 s) := hg5.cell 4
            have HB5 := Lib.hid (HB4.out.trans (hy.below.mono HB4.out.size))
            have HP5 := Lib.hid hp5
            clear hy hp5 hg5
            generalize hN : x1 * Geo.line ⟨c, l, b, p, s⟩ + x2 * Geo.stripe ⟨c, l, b, p, s⟩ + x0 * s + x3 = N at *
            (go_wp2_with fail); refine (geomOf_any ⟨c, l, b, p, s⟩ N _ HW.out hint.out).mono ?_
            rintro e w6 ⟨rfl, hb⟩
            rw [HIX.out.1, HIX.out.2]
            simp only [Place.v]
            have hp6 := HP5.out.below hb
            have j0 : w6.cell? ⟨w.heap.size + 1, 0, none⟩ = some (.int .i64 x0) := hp6.cell 0; have j1 : w6.cell? ⟨w.heap.size + 1, 1, none⟩ = some (.int .i64 x1) := hp6.cell 1; have j2 : w6.cell? ⟨w.heap.size + 1, 2, none⟩ = some (.int .i64 x2) := hp6.cell 2; have j3 : w6.cell? ⟨w.heap.size + 1, 3, none⟩ = some (.int .i64 x3) := hp6.cell 3
            have hlt6 := hp6.lt
            have HB6 := Lib.hid (HB5.out.trans (hb.mono HB5.out.size))
            have HNN := Lib.hid hN
            clear hb hp6 hN
            go_wp2
            go_ret2
            refine ⟨?_, HB6.out.alloc HB6.out.size _⟩
            have hq := HN.out.1 (by rw [HIN.out]; rfl)
            rw [hq.1, hq.2, ← HNN.out]
            rfl

  · have HE : Hid (g.numE q = 1) := if_neg hok
    have HN : Hid (g.numN q = 0) := if_neg (fun h => hok h.1)
    have HOK : Hid (g.okB = false) := Bool.eq_false_iff.2 hok
    clear hok
    obtain ⟨c, l, b, p, s⟩ := g
    obtain ⟨x0, x1, x2, x3⟩ := q
    unfold Geo.v Place.v
    go_enter Try.func46, Try.ntmps46
    (go_wp2_with fail); refine (geomRight_any ⟨c, l, b, p, s⟩ _ HW.out).mono ?_
    rintro e w1 ⟨rfl, hb⟩
    rw [HOK.out]
    have HB := Lib.hid (HA.out.trans (hb.mono HA.out.size))
    clear hb
    go_wp2
    go_ret2
    refine ⟨?_, HB.out⟩
    rw [HN.out, HE.out]
    rfl

end Go.Proofs.Ytlkapaecaeldpaa
