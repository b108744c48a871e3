/-
  The walks of the laws over package stripe, third part.
-/
import Derived.Test.YtbfpnpoafepjjaaLaw09b
import Derived.Test.YtbfpnpoafepjjaaRegV
set_option linter.unusedVariables false
set_option linter.unusedSimpArgs false
set_option maxRecDepth 16384
namespace Go.Proofs.Ytbfpnpoafepjjaa
open Go.RowKit

/-- without a dead unit each page is its own next -/
theorem Geo.nxt_nil {g : Geo} (h : g.okB = true) {k : Int} (hk : 0 ≤ k ∧ k < g.units * g.pages) : g.nxt [] k = k := by
  unfold Geo.nxt Geo.alv
  rw [if_pos h, alv_step (by omega), if_neg (by simp [hasL])]
  simp only [List.headD_cons]
  omega

/-- what the law of pages that stand one behind the other asks -/
theorem Geo.stands {g : Geo} {ln k : Int} (hk : 0 ≤ k) (h1 : g.firstE ln k = 0) (h2 : g.firstE ln (k + 1) = 0) :
    g.firstN ln (k + 1) = g.firstN ln k + g.sectors ∧ (IsInt (g.firstN ln k) ∧ IsInt (g.firstN ln k + g.sectors)) ∧ g.ofP (g.firstN ln k) = ⟨g.spotU k, ln, g.spotP k, 0⟩ ∧ g.ofE (g.firstN ln k) = 0 ∧ g.spotE k = 0 ∧ g.nxt [] k = k := by
  by_cases hok : g.okB = true
  · unfold Geo.firstE at h1 h2
    rw [if_pos hok] at h1 h2
    by_cases hb1 : (0 ≤ ln ∧ ln < g.blocks) ∧ 0 ≤ k ∧ k < g.units * g.pages
    · by_cases hb2 : (0 ≤ ln ∧ ln < g.blocks) ∧ 0 ≤ k + 1 ∧ k + 1 < g.units * g.pages
      · have hin := (Geo.page_in hok hb1.2).2 hb1.1
        have hi := Geo.of_ix (Geo.ok_of hok) hin
        have hx := Geo.ix_in hin
        have hg := Geo.ok_of hok
        obtain ⟨m1, m2, m3, m4, m5, m6, m7, m8, m9, m10⟩ := geo_mul hg.c.1 hg.c.2 hg.l.1 hg.l.2 hg.b.1 hg.b.2 hg.p.1 hg.p.2 hg.s.1 hg.s.2
        have ha : g.all ≤ 65536 := m8
        rw [Geo.page_ix] at hi hx
        have e1 : g.firstN ln k = ln * g.line + k * g.sectors := if_pos ⟨hok, hb1⟩
        have e2 : g.firstN ln (k + 1) = ln * g.line + (k + 1) * g.sectors := if_pos ⟨hok, hb2⟩
        have e3 : g.spotU k = k % g.units := if_pos ⟨hok, hb1.2⟩
        have e4 : g.spotP k = k / g.units := if_pos ⟨hok, hb1.2⟩
        rw [e1, e2, e3, e4]
        have hs1 := hg.s
        refine ⟨by rw [Int.add_mul]; omega, ⟨⟨by omega, by omega⟩, ⟨by omega, by omega⟩⟩, hi.1, hi.2, ?_, Geo.nxt_nil hok hb1.2⟩
        unfold Geo.spotE
        rw [if_pos hok, if_pos hb1.2]
      · rw [if_neg hb2] at h2; exact absurd h2 (by decide)
    · rw [if_neg hb1] at h1; exact absurd h1 (by decide)
  · unfold Geo.firstE at h1
    rw [if_neg hok] at h1
    exact absurd h1 (by decide)

/-- the next page's error is this one's, or there is none here -/
theorem Geo.stands_no {g : Geo} {ln k : Int} (hk : 0 ≤ k) (h1 : ¬ g.firstE ln k = 0) : ¬ g.firstE ln (k + 1) = 0 := by
  unfold Geo.firstE at *
  by_cases hok : g.okB = true
  · rw [if_pos hok] at *
    by_cases hb2 : (0 ≤ ln ∧ ln < g.blocks) ∧ 0 ≤ k + 1 ∧ k + 1 < g.units * g.pages
    · rw [if_pos ⟨hb2.1, hk, by omega⟩] at h1
      exact absurd rfl h1
    · rw [if_neg hb2]; decide
  · rw [if_neg hok]; decide


set_option maxHeartbeats 4000000 in
theorem stripeStandsWalk (g : Geo) (ln k : Int) (w : World) (hg : g.Wf) (hl : (Lit.int .i64 ln).wf = true) (hk : (Lit.int .i64 k).wf = true) :
    Calls Try.prog 10 #[g.v, .int .i64 ln, .int .i64 k] w fun e w' => e = .returned (.bool true) ∧ Below w.heap.size w w' := by
  have HW := Lib.hid hg
  have HI := Lib.hid (wf_i64 hk)
  have HL := Lib.hid (wf_i64 hl)
  clear hg hk hl
  obtain ⟨A, hA⟩ : ∃ A, g.firstN ln k = A := ⟨_, rfl⟩
  obtain ⟨E1, hE1⟩ : ∃ A, g.firstE ln k = A := ⟨_, rfl⟩
  obtain ⟨B, hB⟩ : ∃ A, g.firstN ln (k + 1) = A := ⟨_, rfl⟩
  obtain ⟨E2, hE2⟩ : ∃ A, g.firstE ln (k + 1) = A := ⟨_, rfl⟩
  obtain ⟨x, hx⟩ : ∃ A, g.spotU k = A := ⟨_, rfl⟩
  obtain ⟨y, hy⟩ : ∃ A, g.spotP k = A := ⟨_, rfl⟩
  have HST : Hid (0 ≤ k → E1 = 0 → E2 = 0 → B = A + g.sectors ∧ (IsInt A ∧ IsInt (A + g.sectors)) ∧ g.ofP A = ⟨x, ln, y, 0⟩ ∧ g.ofE A = 0 ∧ g.spotE k = 0 ∧ g.nxt [] k = k) := by
    show _ → _ → _ → _
    intro h0 h1 h2
    have := Geo.stands h0 (hE1.trans h1) (hE2.trans h2)
    rwa [hA, hB, hx, hy] at this
  have HNO : Hid (0 ≤ k → ¬ E1 = 0 → ¬ E2 = 0) := by
    show _ → _ → _
    intro h0 h1
    rw [← hE1] at h1
    rw [← hE2]
    exact Geo.stands_no h0 h1
  have HF1 := Lib.hid (And.intro hA hE1)
  have HF2 := Lib.hid (And.intro hB hE2)
  have HXY := Lib.hid (And.intro hx hy)
  clear hA hE1 hB hE2 hx hy
  obtain ⟨c, l, b, p, s⟩ := g
  have HG := Lib.hid (Blk.new w 23 [.int .i64 c, .int .i64 l, .int .i64 b, .int .i64 p, .int .i64 s])
  unfold Geo.v
  go_enter Try.func10, Try.ntmps10
  (go_wp2_with fail); refine (awake09_any _).mono ?_
  rintro e w1 ⟨rfl, hb⟩
  have hk := HG.out.below hb; have k0 : w1.cell? ⟨w.heap.size, 0, none⟩ = some (.int .i64 c) := hk.cell 0; have k1 : w1.cell? ⟨w.heap.size, 1, none⟩ = some (.int .i64 l) := hk.cell 1; have k2 : w1.cell? ⟨w.heap.size, 2, none⟩ = some (.int .i64 b) := hk.cell 2; have k3 : w1.cell? ⟨w.heap.size, 3, none⟩ = some (.int .i64 p) := hk.cell 3; have k4 : w1.cell? ⟨w.heap.size, 4, none⟩ = some (.int .i64 s) := hk.cell 4; have hltk := hk.lt
  have HG1 := Lib.hid hk
  have HB1 := Lib.hid (((Below.refl w.heap.size w).alloc (Nat.le_refl _) _).trans (hb.mono (by simp)))
  clear hb hk
  by_cases hk0 : k < 0
  · go_wp2_with fail
    go_ret
    exact ⟨rfl, HB1.out⟩
  by_cases hk9 : 100000 < k
  · go_wp2_with fail
    go_ret
    exact ⟨rfl, HB1.out⟩
  have hw1 : IntKind.i64.wrap (k + 1) = k + 1 := wrap_in _ ⟨by omega, by omega⟩
  (go_wp2_with fail); refine (stripeFirst_any ⟨c, l, b, p, s⟩ ln k _ HW.out HL.out HI.out).mono ?_
  rintro e w2 ⟨rfl, hb⟩
  rw [HF1.out.1, HF1.out.2]
  have hk := HG1.out.below hb; have k0 : w2.cell? ⟨w.heap.size, 0, none⟩ = some (.int .i64 c) := hk.cell 0; have k1 : w2.cell? ⟨w.heap.size, 1, none⟩ = some (.int .i64 l) := hk.cell 1; have k2 : w2.cell? ⟨w.heap.size, 2, none⟩ = some (.int .i64 b) := hk.cell 2; have k3 : w2.cell? ⟨w.heap.size, 3, none⟩ = some (.int .i64 p) := hk.cell 3; have k4 : w2.cell? ⟨w.heap.size, 4, none⟩ = some (.int .i64 s) := hk.cell 4; have hltk := hk.lt
  have HG2 := Lib.hid hk
  have HB2 := Lib.hid (HB1.out.trans (hb.mono HB1.out.size))
  clear hb hk
  (go_wp2_with fail); refine (stripeFirst_any ⟨c, l, b, p, s⟩ ln (k + 1) _ HW.out HL.out ⟨by omega, by omega⟩).mono ?_
  rintro e w3 ⟨rfl, hb⟩
  rw [HF2.out.1, HF2.out.2]
  have hk := HG2.out.below hb; have k0 : w3.cell? ⟨w.heap.size, 0, none⟩ = some (.int .i64 c) := hk.cell 0; have k1 : w3.cell? ⟨w.heap.size, 1, none⟩ = some (.int .i64 l) := hk.cell 1; have k2 : w3.cell? ⟨w.heap.size, 2, none⟩ = some (.int .i64 b) := hk.cell 2; have k3 : w3.cell? ⟨w.heap.size, 3, none⟩ = some (.int .i64 p) := hk.cell 3; have k4 : w3.cell? ⟨w.heap.size, 4, none⟩ = some (.int .i64 s) := hk.cell 4; have hltk := hk.lt
  have HG3 := Lib.hid hk
  have HB3 := Lib.hid (HB2.out.trans (hb.mono HB2.out.size))
  clear hb hk
  by_cases h1 : E1 = 0
  · have b1 : (E1 != 0) = false := by simp [h1]
    have b1' : (E1 == 0) = true := by simp [h1]
    by_cases h2 : E2 = 0
    · have b2 : (E2 != 0) = false := by simp [h2]
      obtain ⟨f1, f2, f3, f4, f5, f6⟩ := HST.out (by omega) h1 h2
      have HF := Lib.hid (And.intro f1 (And.intro f3 (And.intro f4 (And.intro f5 f6))))
      have HA := Lib.hid f2.1
      have hws : IntKind.i64.wrap (A + s) = B := by rw [f1]; exact wrap_in _ f2.2
      clear f1 f2 f3 f4 f5 f6 h1 h2
      (go_wp2_with fail); refine (geomOf_any ⟨c, l, b, p, s⟩ A _ HW.out HA.out).mono ?_
      rintro e w4 ⟨rfl, hb⟩
      rw [HF.out.2.1, HF.out.2.2.1]
      simp only [Place.v]
      have hk := HG3.out.below hb; have k0 : w4.cell? ⟨w.heap.size, 0, none⟩ = some (.int .i64 c) := hk.cell 0; have k1 : w4.cell? ⟨w.heap.size, 1, none⟩ = some (.int .i64 l) := hk.cell 1; have k2 : w4.cell? ⟨w.heap.size, 2, none⟩ = some (.int .i64 b) := hk.cell 2; have k3 : w4.cell? ⟨w.heap.size, 3, none⟩ = some (.int .i64 p) := hk.cell 3; have k4 : w4.cell? ⟨w.heap.size, 4, none⟩ = some (.int .i64 s) := hk.cell 4; have hltk := hk.lt
      have HG4 := Lib.hid (hk.alloc (.cells #[.int .i64 x, .int .i64 ln, .int .i64 y, .int .i64 0] 42))
      have HQ4 := Lib.hid (Blk.new w4 42 [.int .i64 x, .int .i64 ln, .int .i64 y, .int .i64 0])
      have HB4 := Lib.hid ((HB3.out.trans (hb.mono HB3.out.size)).alloc (Nat.le_trans HB3.out.size hb.size) (.cells #[.int .i64 x, .int .i64 ln, .int .i64 y, .int .i64 0] 42))
      clear hb hk
      (go_wp2_with fail); refine (stripeSpot_any ⟨c, l, b, p, s⟩ k _ HW.out HI.out).mono ?_
      rintro e w5 ⟨rfl, hb⟩
      rw [HXY.out.1, HXY.out.2, HF.out.2.2.2.1]
      have hq := HQ4.out.below hb
      have hk := HG4.out.below hb; have k0 : w5.cell? ⟨w.heap.size, 0, none⟩ = some (.int .i64 c) := hk.cell 0; have k1 : w5.cell? ⟨w.heap.size, 1, none⟩ = some (.int .i64 l) := hk.cell 1; have k2 : w5.cell? ⟨w.heap.size, 2, none⟩ = some (.int .i64 b) := hk.cell 2; have k3 : w5.cell? ⟨w.heap.size, 3, none⟩ = some (.int .i64 p) := hk.cell 3; have k4 : w5.cell? ⟨w.heap.size, 4, none⟩ = some (.int .i64 s) := hk.cell 4; have hltk := hk.lt
      have z0 : w5.cell? ⟨w4.heap.size, 0, none⟩ = some (.int .i64 x) := hq.cell 0; have z1 : w5.cell? ⟨w4.heap.size, 1, none⟩ = some (.int .i64 ln) := hq.cell 1; have z2 : w5.cell? ⟨w4.heap.size, 2, none⟩ = some (.int .i64 y) := hq.cell 2; have z3 : w5.cell? ⟨w4.heap.size, 3, none⟩ = some (.int .i64 0) := hq.cell 3
      have HB5 := Lib.hid (HB4.out.trans (hb.mono HB4.out.size))
      have HG5 := Lib.hid hk
      clear hb hk hq
      (go_wp2_with fail); refine (stripeNext_any ⟨c, l, b, p, s⟩ _ [] k _ HW.out ⟨none, 0, rfl, Nat.le_refl _, by decide, fun _ => rfl, .inl rfl⟩ HI.out).mono ?_
      rintro e w6 ⟨rfl, hb⟩
      rw [HF.out.2.2.2.2]
      have HB6 := Lib.hid (HB5.out.trans (hb.mono HB5.out.size))
      clear hb
      go_wp2
      go_ret
      exact ⟨ret_bool (by simp), HB6.out⟩
    · have b2 : (E2 != 0) = true := by simp [h2]
      go_wp2_with fail
      go_ret
      exact ⟨ret_bool (by simp), HB3.out⟩
  · have b1 : (E1 != 0) = true := by simp [h1]
    have b1' : (E1 == 0) = false := by simp [h1]
    have h2 := HNO.out (by omega) h1
    have b2 : (E2 != 0) = true := by simp [h2]
    go_wp2_with fail
    go_ret
    exact ⟨ret_bool (by simp), HB3.out⟩

end Go.Proofs.Ytbfpnpoafepjjaa
