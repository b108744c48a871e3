/-
  stripe.First, strakeref09.First and Spot.
-/
import Derived.Test.YtbfpnpoafepjjaaStripe
import Derived.Test.YtbfpnpoafepjjaaRef03b
set_option linter.unusedVariables false
set_option linter.unusedSimpArgs false
set_option maxRecDepth 16384
namespace Go.Proofs.Ytbfpnpoafepjjaa
open Go.RowKit

def Geo.firstN (g : Geo) (ln k : Int) : Int := if g.okB = true ∧ (0 ≤ ln ∧ ln < g.blocks) ∧ 0 ≤ k ∧ k < g.units * g.pages then ln * g.line + k * g.sectors else 0
def Geo.firstE (g : Geo) (ln k : Int) : Int := if g.okB = true then (if (0 ≤ ln ∧ ln < g.blocks) ∧ 0 ≤ k ∧ k < g.units * g.pages then 0 else 2) else 1

/-- the place of a line's page -/
def Geo.pageP (g : Geo) (ln k : Int) : Place := ⟨k % g.units, ln, k / g.units, 0⟩

theorem Geo.page_in {g : Geo} (h : g.okB = true) {ln k : Int} (hk : 0 ≤ k ∧ k < g.units * g.pages) : g.In (g.pageP ln k) ↔ 0 ≤ ln ∧ ln < g.blocks := by
  have hu := Geo.pgs_le h
  have hg := Geo.ok_of h
  refine ⟨fun hi => hi.b, fun hl => ⟨⟨Int.emod_nonneg _ (by omega), Int.emod_lt_of_pos _ (by omega)⟩, hl, ⟨Int.ediv_nonneg hk.1 (by omega), ?_⟩, ⟨Int.le_refl _, by have := hg.s.1; show 0 < g.sectors; omega⟩⟩⟩
  show k / g.units < g.pages
  exact Int.ediv_lt_of_lt_mul (by omega) (by rw [Int.mul_comm]; exact hk.2)

theorem Geo.page_ix (g : Geo) (ln k : Int) : g.ix (g.pageP ln k) = ln * g.line + k * g.sectors := by
  unfold Geo.ix Geo.pageP
  rw [Geo.stripe_eq]
  simp only [Int.add_zero]
  have h := Int.mul_ediv_add_emod k g.units
  rw [show k / g.units * (g.units * g.sectors) = (g.units * (k / g.units)) * g.sectors from by ac_rfl, Int.add_assoc, ← Int.add_mul, h]

theorem Geo.first_num {g : Geo} (h : g.okB = true) {ln k : Int} (hk : 0 ≤ k ∧ k < g.units * g.pages) : g.numN (g.pageP ln k) = g.firstN ln k ∧ g.numE (g.pageP ln k) = g.firstE ln k := by
  unfold Geo.numN Geo.numE Geo.firstN Geo.firstE
  by_cases hl : 0 ≤ ln ∧ ln < g.blocks
  · have hin := Geo.in_to ((Geo.page_in h hk).2 hl)
    rw [if_pos ⟨h, hin⟩, if_pos h, if_pos hin, if_pos ⟨h, hl, hk⟩, if_pos h, if_pos ⟨hl, hk⟩, Geo.page_ix]
    exact ⟨rfl, rfl⟩
  · have hin : ¬ g.inB (g.pageP ln k) = true := fun hi => hl ((Geo.page_in h hk).1 (Geo.in_of hi))
    rw [if_neg (fun q => hin q.2), if_pos h, if_neg hin, if_neg (fun q => hl q.2.1), if_pos h, if_neg (fun q => hl q.1)]
    exact ⟨rfl, rfl⟩

set_option maxHeartbeats 2000000 in
theorem stripeFirst_any (g : Geo) (ln k : Int) (w : World) (hg : g.Wf) (hl : IsInt ln) (hk : IsInt k) :
    Calls Try.prog 35 #[g.v, .int .i64 ln, .int .i64 k] w fun e w' => e = .returned (.tuple #[.int .i64 (g.firstN ln k), .int .i64 (g.firstE ln k)]) ∧ Below w.heap.size w w' := by
  have HW := Lib.hid hg
  have HI := Lib.hid hk
  have HL := Lib.hid hl
  clear hg hl hk
  by_cases hs : g.okB = true ∧ 0 ≤ k ∧ k < g.units * g.pages
  · have hS : g.spotU k = k % g.units ∧ g.spotP k = k / g.units ∧ g.spotE k = 0 := ⟨if_pos hs, if_pos hs, by unfold Geo.spotE; rw [if_pos hs.1, if_pos hs.2]⟩
    have hp := Geo.pgs_le hs.1
    obtain ⟨A, hA⟩ : ∃ A, k % g.units = A := ⟨_, rfl⟩
    obtain ⟨B, hB⟩ : ∃ B, k / g.units = B := ⟨_, rfl⟩
    have h1 := Int.emod_nonneg k (show g.units ≠ 0 by omega)
    have h2 := Int.emod_lt_of_pos k (show 0 < g.units by omega)
    have h3 := Int.ediv_nonneg hs.2.1 (show 0 ≤ g.units by omega)
    have h4 := Int.ediv_le_self g.units hs.2.1
    have HN := Lib.hid (Geo.first_num (ln := ln) hs.1 hs.2)
    have hpl : g.pageP ln k = ⟨A, ln, B, 0⟩ := by unfold Geo.pageP; rw [hA, hB]
    rw [hpl] at HN
    rw [hA, hB] at hS
    rw [hA] at h1 h2
    rw [hB] at h3 h4
    have hki := HI.out
    have HPW : Hid (Place.Wf ⟨A, ln, B, 0⟩) := ⟨(⟨by omega, by omega⟩ : IsInt A), HL.out, (⟨by omega, by have := hki.2; omega⟩ : IsInt B), (⟨by decide, by decide⟩ : IsInt 0)⟩
    have HS := Lib.hid hS
    clear hs hS hA hB h1 h2 h3 h4 hpl hki hp
    obtain ⟨c, l, b, p, s⟩ := g
    unfold Geo.v
    have HG := Lib.hid (Blk.new w 23 [.int .i64 c, .int .i64 l, .int .i64 b, .int .i64 p, .int .i64 s])
    go_enter Try.func35, Try.ntmps35
    (go_wp2_with fail); refine (stripeSpot_any ⟨c, l, b, p, s⟩ k _ HW.out HI.out).mono ?_
    rintro e w1 ⟨rfl, hb⟩
    rw [HS.out.1, HS.out.2.1, HS.out.2.2]
    have hk := HG.out.below hb; have k0 : w1.cell? ⟨w.heap.size, 0, none⟩ = some (.int .i64 c) := hk.cell 0; have k1 : w1.cell? ⟨w.heap.size, 1, none⟩ = some (.int .i64 l) := hk.cell 1; have k2 : w1.cell? ⟨w.heap.size, 2, none⟩ = some (.int .i64 b) := hk.cell 2; have k3 : w1.cell? ⟨w.heap.size, 3, none⟩ = some (.int .i64 p) := hk.cell 3; have k4 : w1.cell? ⟨w.heap.size, 4, none⟩ = some (.int .i64 s) := hk.cell 4; have hltk := hk.lt
    have HB1 := Lib.hid (((Below.refl w.heap.size w).alloc (Nat.le_refl _) _).trans (hb.mono (by simp)))
    clear hb hk
    (go_wp2_with fail); refine (geomNumber_any ⟨c, l, b, p, s⟩ ⟨A, ln, B, 0⟩ _ HW.out HPW.out).mono ?_
    rintro e w2 ⟨rfl, hb⟩
    rw [HN.out.1, HN.out.2]
    have HB2 := Lib.hid (HB1.out.trans (hb.mono HB1.out.size))
    clear hb
    go_wp2
    go_ret2
    exact ⟨rfl, HB2.out⟩
  · obtain ⟨E, hE⟩ : ∃ E, g.spotE k = E := ⟨_, rfl⟩
    have hS : g.spotU k = 0 ∧ g.spotP k = 0 := ⟨if_neg hs, if_neg hs⟩
    have hE0 : ¬ E = 0 := by
      rw [← hE]
      unfold Geo.spotE
      by_cases hok : g.okB = true
      · rw [if_pos hok, if_neg (fun q => hs ⟨hok, q⟩)]; decide
      · rw [if_neg hok]; decide
    have hF : g.firstN ln k = 0 ∧ g.firstE ln k = E := by
      rw [← hE]
      unfold Geo.firstN Geo.firstE Geo.spotE
      refine ⟨if_neg (fun q => hs ⟨q.1, q.2.2⟩), ?_⟩
      by_cases hok : g.okB = true
      · rw [if_pos hok, if_pos hok, if_neg (fun q => hs ⟨hok, q.2⟩), if_neg (fun q => hs ⟨hok, q⟩)]
      · rw [if_neg hok, if_neg hok]
    have hEb : (E != 0) = true := by rw [bne_iff_ne]; exact hE0
    have HS := Lib.hid hS
    have HE := Lib.hid hE
    have HF := Lib.hid hF
    clear hs hS hE hE0 hF
    obtain ⟨c, l, b, p, s⟩ := g
    unfold Geo.v
    have HG := Lib.hid (Blk.new w 23 [.int .i64 c, .int .i64 l, .int .i64 b, .int .i64 p, .int .i64 s])
    go_enter Try.func35, Try.ntmps35
    (go_wp2_with fail); refine (stripeSpot_any ⟨c, l, b, p, s⟩ k _ HW.out HI.out).mono ?_
    rintro e w1 ⟨rfl, hb⟩
    rw [HS.out.1, HS.out.2, HE.out]
    have HB1 := Lib.hid (((Below.refl w.heap.size w).alloc (Nat.le_refl _) _).trans (hb.mono (by simp)))
    clear hb
    go_wp2
    go_ret2
    exact ⟨by rw [HF.out.1, HF.out.2]; rfl, HB1.out⟩

set_option maxHeartbeats 2000000 in
theorem ref09First_any (g : Geo) (ln k : Int) (w : World) (hg : g.Wf) :
    Calls Try.prog 36 #[g.v, .int .i64 ln, .int .i64 k] w fun e w' => e = .returned (.tuple #[.int .i64 (g.firstN ln k), .int .i64 (g.firstE ln k)]) ∧ Below w.heap.size w w' := by
  by_cases hok : g.okB = true
  · have HOK := Lib.hid hok
    obtain ⟨p1, p2, p3, p4⟩ := Geo.pgs_le hok
    have hgo := Geo.ok_of hok
    obtain ⟨U, hU⟩ : ∃ r, g.units = r := ⟨_, rfl⟩
    obtain ⟨L, hL⟩ : ∃ r, g.line = r := ⟨_, rfl⟩
    have HU : Hid (∀ wy, Calls Try.prog 66 #[g.v] wy fun e w' => e = .returned (.int .i64 U) ∧ Below wy.heap.size wy w') := by
      intro wy
      have := ref03Units_any g wy
      unfold Geo.unitsI at this
      rwa [if_pos hok, hU] at this
    have HL : Hid (∀ wy, Calls Try.prog 68 #[g.v] wy fun e w' => e = .returned (.int .i64 L) ∧ Below wy.heap.size wy w') := by
      intro wy
      have := ref03Line_any g wy
      unfold Geo.lineI at this
      rwa [if_pos hok, hL] at this
    have hL2 : 1 ≤ L ∧ L ≤ 1024 := by
      obtain ⟨m1, m2, m3, m4, m5, m6, m7, m8, m9, m10⟩ := geo_mul hgo.c.1 hgo.c.2 hgo.l.1 hgo.l.2 hgo.b.1 hgo.b.2 hgo.p.1 hgo.p.2 hgo.s.1 hgo.s.2
      rw [← hL]
      exact ⟨m5, m6⟩
    have hF : Hid (g.firstN ln k = (if (0 ≤ ln ∧ ln < g.blocks) ∧ 0 ≤ k ∧ k < U * g.pages then ln * L + k * g.sectors else 0) ∧ g.firstE ln k = (if (0 ≤ ln ∧ ln < g.blocks) ∧ 0 ≤ k ∧ k < U * g.pages then 0 else 2)) := by
      show _ ∧ _
      unfold Geo.firstN Geo.firstE
      rw [hU, hL, if_pos hok]
      simp only [hok, true_and, and_self]
    have hb2 := hgo.b
    have hs2 := hgo.s
    rw [hU] at p1 p2 p3 p4
    clear hok hU hL hgo
    obtain ⟨c, l, b, p, s⟩ := g
    simp only at hb2 hs2 p3 p4
    unfold Geo.v at HU HL ⊢
    have HG := Lib.hid (Blk.new w 23 [.int .i64 c, .int .i64 l, .int .i64 b, .int .i64 p, .int .i64 s])
    go_enter Try.func36, Try.ntmps36
    (go_wp2_with fail); refine (ref03Right_any ⟨c, l, b, p, s⟩ _).mono ?_
    rintro e w1 ⟨rfl, hb⟩
    rw [HOK.out]
    have hk := HG.out.below hb; have k0 : w1.cell? ⟨w.heap.size, 0, none⟩ = some (.int .i64 c) := hk.cell 0; have k1 : w1.cell? ⟨w.heap.size, 1, none⟩ = some (.int .i64 l) := hk.cell 1; have k2 : w1.cell? ⟨w.heap.size, 2, none⟩ = some (.int .i64 b) := hk.cell 2; have k3 : w1.cell? ⟨w.heap.size, 3, none⟩ = some (.int .i64 p) := hk.cell 3; have k4 : w1.cell? ⟨w.heap.size, 4, none⟩ = some (.int .i64 s) := hk.cell 4; have hltk := hk.lt
    have HG1 := Lib.hid hk
    have HB1 := Lib.hid (((Below.refl w.heap.size w).alloc (Nat.le_refl _) _).trans (hb.mono (by simp)))
    clear hb hk
    have hUp : IntKind.i64.wrap (U * p) = U * p := wrap_in _ ⟨by omega, by omega⟩
    by_cases hA : ln < 0
    · have dA : decide (ln < 0) = true := decide_eq_true hA
      have hF2 : Hid (Geo.firstN ⟨c, l, b, p, s⟩ ln k = 0 ∧ Geo.firstE ⟨c, l, b, p, s⟩ ln k = 2) := by
        have := hF.out
        rwa [if_neg (fun q => by have q1 := q.1; have q2 := q.2; (try simp only at q1 q2); omega), if_neg (fun q => by have q1 := q.1; have q2 := q.2; (try simp only at q1 q2); omega)] at this
      go_wp2_with fail
      refine wp_region_b 20 (by kernel_rfl) (by kernel_rfl) ?_
      simp only [List.take_succ_cons, List.take_zero, List.drop_succ_cons, List.drop_zero]
      repeat (first
        | (refine SeqC.run (v := ?_) ?_ (fun wz hz => ?_) ?_; rotate_left; (· rfl); (· have hzc := hz.cell; have hzf := hz.frozen; go_simp; first | exact UponS.value hz | exact UponS.skip hz | (refine UponS.call ?_; (go_at_call 66; refine (HU.out _).mono ?_; rintro e wy ⟨rfl, hb⟩; refine ⟨?_, hz.step hb⟩; rfl))); (try simp only [Act.put, List.setIfInBounds_toArray, List.set_cons_zero, List.set_cons_succ]))
        | (refine SeqC.skip ?_ ?_; (· rfl); (try simp only [Act.put, List.setIfInBounds_toArray, List.set_cons_zero, List.set_cons_succ])))
      refine fun wz hz => ?_
      go_wp2
      go_ret2
      exact ⟨by rw [hF2.out.1, hF2.out.2]; rfl, HB1.out.drew.trans (hz.below.mono HB1.out.size)⟩
    · have dA : decide (ln < 0) = false := decide_eq_false hA
      by_cases hB : b ≤ ln
      · have dB : decide (b ≤ ln) = true := decide_eq_true hB
        have hF2 : Hid (Geo.firstN ⟨c, l, b, p, s⟩ ln k = 0 ∧ Geo.firstE ⟨c, l, b, p, s⟩ ln k = 2) := by
          have := hF.out
          rwa [if_neg (fun q => by have q1 := q.1; have q2 := q.2; (try simp only at q1 q2); omega), if_neg (fun q => by have q1 := q.1; have q2 := q.2; (try simp only at q1 q2); omega)] at this
        go_wp2_with fail
        refine wp_region_b 20 (by kernel_rfl) (by kernel_rfl) ?_
        simp only [List.take_succ_cons, List.take_zero, List.drop_succ_cons, List.drop_zero]
        repeat (first
          | (refine SeqC.run (v := ?_) ?_ (fun wz hz => ?_) ?_; rotate_left; (· rfl); (· have hzc := hz.cell; have hzf := hz.frozen; go_simp; first | exact UponS.value hz | exact UponS.skip hz | (refine UponS.call ?_; (go_at_call 66; refine (HU.out _).mono ?_; rintro e wy ⟨rfl, hb⟩; refine ⟨?_, hz.step hb⟩; rfl))); (try simp only [Act.put, List.setIfInBounds_toArray, List.set_cons_zero, List.set_cons_succ]))
          | (refine SeqC.skip ?_ ?_; (· rfl); (try simp only [Act.put, List.setIfInBounds_toArray, List.set_cons_zero, List.set_cons_succ])))
        refine fun wz hz => ?_
        go_wp2
        go_ret2
        exact ⟨by rw [hF2.out.1, hF2.out.2]; rfl, HB1.out.drew.trans (hz.below.mono HB1.out.size)⟩
      · have dB : decide (b ≤ ln) = false := decide_eq_false hB
        by_cases hC : k < 0
        · have dC : decide (k < 0) = true := decide_eq_true hC
          have hF2 : Hid (Geo.firstN ⟨c, l, b, p, s⟩ ln k = 0 ∧ Geo.firstE ⟨c, l, b, p, s⟩ ln k = 2) := by
            have := hF.out
            rwa [if_neg (fun q => by have q1 := q.1; have q2 := q.2; (try simp only at q1 q2); omega), if_neg (fun q => by have q1 := q.1; have q2 := q.2; (try simp only at q1 q2); omega)] at this
          go_wp2_with fail
          refine wp_region_b 20 (by kernel_rfl) (by kernel_rfl) ?_
          simp only [List.take_succ_cons, List.take_zero, List.drop_succ_cons, List.drop_zero]
          repeat (first
            | (refine SeqC.run (v := ?_) ?_ (fun wz hz => ?_) ?_; rotate_left; (· rfl); (· have hzc := hz.cell; have hzf := hz.frozen; go_simp; first | exact UponS.value hz | exact UponS.skip hz | (refine UponS.call ?_; (go_at_call 66; refine (HU.out _).mono ?_; rintro e wy ⟨rfl, hb⟩; refine ⟨?_, hz.step hb⟩; rfl))); (try simp only [Act.put, List.setIfInBounds_toArray, List.set_cons_zero, List.set_cons_succ]))
            | (refine SeqC.skip ?_ ?_; (· rfl); (try simp only [Act.put, List.setIfInBounds_toArray, List.set_cons_zero, List.set_cons_succ])))
          refine fun wz hz => ?_
          go_wp2
          go_ret2
          exact ⟨by rw [hF2.out.1, hF2.out.2]; rfl, HB1.out.drew.trans (hz.below.mono HB1.out.size)⟩
        · have dC : decide (k < 0) = false := decide_eq_false hC
          by_cases hD : U * p ≤ k
          · have dD : decide (U * p ≤ k) = true := decide_eq_true hD
            have hF2 : Hid (Geo.firstN ⟨c, l, b, p, s⟩ ln k = 0 ∧ Geo.firstE ⟨c, l, b, p, s⟩ ln k = 2) := by
              have := hF.out
              rwa [if_neg (fun q => by have q1 := q.1; have q2 := q.2; (try simp only at q1 q2); omega), if_neg (fun q => by have q1 := q.1; have q2 := q.2; (try simp only at q1 q2); omega)] at this
            go_wp2_with fail
            refine wp_region_b 20 (by kernel_rfl) (by kernel_rfl) ?_
            simp only [List.take_succ_cons, List.take_zero, List.drop_succ_cons, List.drop_zero]
            repeat (first
              | (refine SeqC.run (v := ?_) ?_ (fun wz hz => ?_) ?_; rotate_left; (· rfl); (· have hzc := hz.cell; have hzf := hz.frozen; go_simp; first | exact UponS.value hz | exact UponS.skip hz | (refine UponS.call ?_; (go_at_call 66; refine (HU.out _).mono ?_; rintro e wy ⟨rfl, hb⟩; refine ⟨?_, hz.step hb⟩; rfl))); (try simp only [Act.put, List.setIfInBounds_toArray, List.set_cons_zero, List.set_cons_succ]))
              | (refine SeqC.skip ?_ ?_; (· rfl); (try simp only [Act.put, List.setIfInBounds_toArray, List.set_cons_zero, List.set_cons_succ])))
            refine fun wz hz => ?_
            go_wp2
            go_ret2
            exact ⟨by rw [hF2.out.1, hF2.out.2]; rfl, HB1.out.drew.trans (hz.below.mono HB1.out.size)⟩
          · have dD : decide (U * p ≤ k) = false := decide_eq_false hD
            have hF2 : Hid (Geo.firstN ⟨c, l, b, p, s⟩ ln k = ln * L + k * s ∧ Geo.firstE ⟨c, l, b, p, s⟩ ln k = 0) := by
              have := hF.out
              rwa [if_pos ⟨⟨by omega, by (try simp only); omega⟩, by omega, by (try simp only); omega⟩, if_pos ⟨⟨by omega, by (try simp only); omega⟩, by omega, by (try simp only); omega⟩] at this
            have m1 : ln * L ≤ 64 * 1024 := Int.mul_le_mul (by omega) hL2.2 (by omega) (by omega)
            have m2 : 0 ≤ ln * L := Int.mul_nonneg (by omega) (by omega)
            have m3 : k * s ≤ 256 * 4 := Int.mul_le_mul (by omega) hs2.2 (by omega) (by omega)
            have m4 : 0 ≤ k * s := Int.mul_nonneg (by omega) (by omega)
            have e1 : IntKind.i64.wrap (ln * L) = ln * L := wrap_in _ ⟨by omega, by omega⟩
            have e2 : IntKind.i64.wrap (k * s) = k * s := wrap_in _ ⟨by omega, by omega⟩
            have e3 : IntKind.i64.wrap (ln * L + k * s) = ln * L + k * s := wrap_in _ ⟨by omega, by omega⟩
            clear m1 m2 m3 m4
            go_wp2_with fail
            refine wp_region_b 20 (by kernel_rfl) (by kernel_rfl) ?_
            simp only [List.take_succ_cons, List.take_zero, List.drop_succ_cons, List.drop_zero]
            repeat (first
              | (refine SeqC.run (v := ?_) ?_ (fun wz hz => ?_) ?_; rotate_left; (· rfl); (· have hzc := hz.cell; have hzf := hz.frozen; go_simp; first | exact UponS.value hz | exact UponS.skip hz | (refine UponS.call ?_; (go_at_call 66; refine (HU.out _).mono ?_; rintro e wy ⟨rfl, hb⟩; refine ⟨?_, hz.step hb⟩; rfl))); (try simp only [Act.put, List.setIfInBounds_toArray, List.set_cons_zero, List.set_cons_succ]))
              | (refine SeqC.skip ?_ ?_; (· rfl); (try simp only [Act.put, List.setIfInBounds_toArray, List.set_cons_zero, List.set_cons_succ])))
            refine fun wz hz => ?_
            have hb := hz.below
            have hk := HG1.out.drew.below hb
            have k0 : wz.cell? ⟨w.heap.size, 0, none⟩ = some (.int .i64 c) := hk.cell 0; have k1 : wz.cell? ⟨w.heap.size, 1, none⟩ = some (.int .i64 l) := hk.cell 1; have k2 : wz.cell? ⟨w.heap.size, 2, none⟩ = some (.int .i64 b) := hk.cell 2; have k3 : wz.cell? ⟨w.heap.size, 3, none⟩ = some (.int .i64 p) := hk.cell 3; have k4 : wz.cell? ⟨w.heap.size, 4, none⟩ = some (.int .i64 s) := hk.cell 4
            have HB2 := Lib.hid (HB1.out.drew.trans (hb.mono HB1.out.size))
            clear hb hk hz
            go_wp2_with fail
            refine wp_region_b 10 (by kernel_rfl) (by kernel_rfl) ?_
            simp only [List.take_succ_cons, List.take_zero, List.drop_succ_cons, List.drop_zero]
            repeat (first
              | (refine SeqC.run (v := ?_) ?_ (fun wz hz => ?_) ?_; rotate_left; (· rfl); (· have hzc := hz.cell; have hzf := hz.frozen; go_simp; first | exact UponS.value hz | exact UponS.skip hz | (refine UponS.call ?_; (go_at_call 68; refine (HL.out _).mono ?_; rintro e wy ⟨rfl, hb⟩; refine ⟨?_, hz.step hb⟩; rfl))); (try simp only [Act.put, List.setIfInBounds_toArray, List.set_cons_zero, List.set_cons_succ]))
              | (refine SeqC.skip ?_ ?_; (· rfl); (try simp only [Act.put, List.setIfInBounds_toArray, List.set_cons_zero, List.set_cons_succ])))
            refine fun wz2 hz => ?_
            go_wp2
            go_ret2
            exact ⟨by rw [hF2.out.1, hF2.out.2]; rfl, HB2.out.drew.trans (hz.below.mono HB2.out.size)⟩
  · have hk1 : g.okB = false := by simpa using hok
    have HF : Hid (g.firstN ln k = 0 ∧ g.firstE ln k = 1) := by
      show _ ∧ _
      unfold Geo.firstN Geo.firstE
      exact ⟨if_neg (fun q => hok q.1), if_neg hok⟩
    have HK1 := Lib.hid hk1
    clear hk1 hok
    obtain ⟨c, l, b, p, s⟩ := g
    unfold Geo.v
    go_enter Try.func36, Try.ntmps36
    (go_wp2_with fail); refine (ref03Right_any ⟨c, l, b, p, s⟩ _).mono ?_
    rintro e w1 ⟨rfl, hb⟩
    rw [HK1.out]
    have HB1 := Lib.hid (((Below.refl w.heap.size w).alloc (Nat.le_refl _) _).trans (hb.mono (by simp)))
    clear hb
    go_wp2
    go_ret2
    exact ⟨by rw [HF.out.1, HF.out.2]; rfl, HB1.out⟩


theorem Geo.spot_of {g : Geo} (h : g.okB = true) {k : Int} (hk : 0 ≤ k ∧ k < g.units * g.pages) : g.firstN 0 k = 0 * g.line + k * g.sectors ∧ g.ofP (0 * g.line + k * g.sectors) = ⟨k % g.units, 0, k / g.units, 0⟩ ∧ IsInt (0 * g.line + k * g.sectors) := by
  have hg := Geo.ok_of h
  have hb := hg.b.1
  have hin := (Geo.page_in (ln := 0) h hk).2 ⟨Int.le_refl _, by omega⟩
  have hi := Geo.of_ix hg hin
  have hx := Geo.ix_in hin
  have hm := (Geo.ok_of h)
  obtain ⟨m1, m2, m3, m4, m5, m6, m7, m8, m9, m10⟩ := geo_mul hg.c.1 hg.c.2 hg.l.1 hg.l.2 hg.b.1 hg.b.2 hg.p.1 hg.p.2 hg.s.1 hg.s.2
  have ha : g.all ≤ 65536 := m8
  rw [Geo.page_ix] at hi hx
  exact ⟨if_pos ⟨h, ⟨Int.le_refl _, by omega⟩, hk⟩, hi.1, ⟨by omega, by omega⟩⟩

set_option maxHeartbeats 2000000 in
theorem ref09Spot_any (g : Geo) (k : Int) (w : World) (hg : g.Wf) :
    Calls Try.prog 34 #[g.v, .int .i64 k] w fun e w' => e = .returned (.tuple #[.int .i64 (g.spotU k), .int .i64 (g.spotP k), .int .i64 (g.spotE k)]) ∧ Below w.heap.size w w' := by
  have HW := Lib.hid hg
  by_cases hs : g.okB = true ∧ 0 ≤ k ∧ k < g.units * g.pages
  · have hS : g.spotU k = k % g.units ∧ g.spotP k = k / g.units ∧ g.spotE k = 0 := ⟨if_pos hs, if_pos hs, by unfold Geo.spotE; rw [if_pos hs.1, if_pos hs.2]⟩
    have hb := (Geo.ok_of hs.1).b.1
    have hE : g.firstE 0 k = 0 := by unfold Geo.firstE; rw [if_pos hs.1, if_pos ⟨⟨Int.le_refl _, by omega⟩, hs.2⟩]
    obtain ⟨hN, hP, hIA⟩ := Geo.spot_of hs.1 hs.2
    obtain ⟨A, hA⟩ : ∃ A, 0 * g.line + k * g.sectors = A := ⟨_, rfl⟩
    obtain ⟨x, hx⟩ : ∃ x, k % g.units = x := ⟨_, rfl⟩
    obtain ⟨y, hy⟩ : ∃ y, k / g.units = y := ⟨_, rfl⟩
    rw [hA] at hN hP hIA
    rw [hx, hy] at hP hS
    have HS := Lib.hid hS
    have HN := Lib.hid (And.intro hN hE)
    have HP := Lib.hid hP
    have HIA := Lib.hid hIA
    clear hs hS hb hE hN hP hIA hA hx hy hg
    obtain ⟨c, l, b, p, s⟩ := g
    unfold Geo.v
    have HG := Lib.hid (Blk.new w 23 [.int .i64 c, .int .i64 l, .int .i64 b, .int .i64 p, .int .i64 s])
    go_enter Try.func34, Try.ntmps34
    (go_wp2_with fail); refine (ref09First_any ⟨c, l, b, p, s⟩ 0 k _ HW.out).mono ?_
    rintro e w1 ⟨rfl, hb⟩
    rw [HN.out.1, HN.out.2]
    have hk := HG.out.below hb; have k0 : w1.cell? ⟨w.heap.size, 0, none⟩ = some (.int .i64 c) := hk.cell 0; have k1 : w1.cell? ⟨w.heap.size, 1, none⟩ = some (.int .i64 l) := hk.cell 1; have k2 : w1.cell? ⟨w.heap.size, 2, none⟩ = some (.int .i64 b) := hk.cell 2; have k3 : w1.cell? ⟨w.heap.size, 3, none⟩ = some (.int .i64 p) := hk.cell 3; have k4 : w1.cell? ⟨w.heap.size, 4, none⟩ = some (.int .i64 s) := hk.cell 4; have hltk := hk.lt
    have HG1 := Lib.hid hk
    have HB1 := Lib.hid (((Below.refl w.heap.size w).alloc (Nat.le_refl _) _).trans (hb.mono (by simp)))
    clear hb hk
    (go_wp2_with fail); refine (ref03Of_any ⟨c, l, b, p, s⟩ A _ HIA.out).mono ?_
    rintro e w2 ⟨rfl, hb⟩
    rw [HP.out]
    simp only [Place.v]
    have HB2 := Lib.hid (HB1.out.trans (hb.mono HB1.out.size))
    clear hb
    go_wp2_with fail
    go_region
    go_wp2
    refine bodyPost_ret (v := .tuple #[.int .i64 (x), .int .i64 (y), .int .i64 (0)]) (by simp [results, Try.results34, go_sem]) rfl ⟨?_, ?_⟩
    · rw [HS.out.1, HS.out.2.1, HS.out.2.2]
    · exact (HB2.out.alloc HB2.out.size _).drew
  · obtain ⟨E, hE⟩ : ∃ E, g.spotE k = E := ⟨_, rfl⟩
    have hS : g.spotU k = 0 ∧ g.spotP k = 0 := ⟨if_neg hs, if_neg hs⟩
    have hE0 : ¬ E = 0 := by
      rw [← hE]
      unfold Geo.spotE
      by_cases hok : g.okB = true
      · rw [if_pos hok, if_neg (fun q => hs ⟨hok, q⟩)]; decide
      · rw [if_neg hok]; decide
    have hF : g.firstN 0 k = 0 ∧ g.firstE 0 k = E := by
      rw [← hE]
      unfold Geo.firstN Geo.firstE Geo.spotE
      refine ⟨if_neg (fun q => hs ⟨q.1, q.2.2⟩), ?_⟩
      by_cases hok : g.okB = true
      · rw [if_pos hok, if_pos hok, if_neg (fun q => hs ⟨hok, q.2⟩), if_neg (fun q => hs ⟨hok, q⟩)]
      · rw [if_neg hok, if_neg hok]
    have hEb : (E != 0) = true := by rw [bne_iff_ne]; exact hE0
    have HS := Lib.hid hS
    have HE := Lib.hid hE
    have HF := Lib.hid hF
    clear hs hS hE hE0 hF hg
    obtain ⟨c, l, b, p, s⟩ := g
    unfold Geo.v
    have HG := Lib.hid (Blk.new w 23 [.int .i64 c, .int .i64 l, .int .i64 b, .int .i64 p, .int .i64 s])
    go_enter Try.func34, Try.ntmps34
    (go_wp2_with fail); refine (ref09First_any ⟨c, l, b, p, s⟩ 0 k _ HW.out).mono ?_
    rintro e w1 ⟨rfl, hb⟩
    rw [HF.out.1, HF.out.2]
    have HB1 := Lib.hid (((Below.refl w.heap.size w).alloc (Nat.le_refl _) _).trans (hb.mono (by simp)))
    clear hb
    go_wp2
    refine bodyPost_ret (v := .tuple #[.int .i64 (0), .int .i64 (0), .int .i64 (E)]) (by simp [results, Try.results34, go_sem]) rfl ⟨?_, ?_⟩
    · rw [HS.out.1, HS.out.2, HE.out]
    · exact HB1.out

end Go.Proofs.Ytbfpnpoafepjjaa
