/-
  Package l2p: Live, Many; the law's package's awake.
-/
import Derived.Test.YtlkapaecaeldpaaL2pY
set_option linter.unusedVariables false
set_option linter.unusedSimpArgs false
set_option maxRecDepth 16384
namespace Go.Proofs.Ytlkapaecaeldpaa
open Go.RowKit

/-- what Live tells -/
def liveN (g : Geo) (to : List Ent) (a : Int) : Int := if (0 ≤ a ∧ a < g.all) ∧ whoIx to a ≠ 0 then (whoIx to a : Int) - 1 else 0
def liveB (g : Geo) (to : List Ent) (a : Int) : Bool := decide ((0 ≤ a ∧ a < g.all) ∧ whoIx to a ≠ 0)

/-- how many sectors are somewhere -/
def manyN (to : List Ent) : Nat := to.countP fun e => decide (0 ≤ e.a)
def sumV (line : Int) (to : List Ent) (l : Nat) : Nat := to.countP fun e => decide (0 ≤ e.a ∧ e.a / line < l)

theorem sumV_zero (line : Int) (hl : 1 ≤ line) (to : List Ent) : sumV line to 0 = 0 := by
  unfold sumV
  rw [List.countP_eq_zero]
  intro e he
  simp only [decide_eq_true_eq, not_and]
  intro h0
  have := Int.ediv_nonneg h0 (show 0 ≤ line by omega)
  omega
theorem sumV_succ (line : Int) (to : List Ent) (l : Nat) : sumV line to (l + 1) = sumV line to l + validN line to l := by
  unfold sumV validN
  induction to with
  | nil => rfl
  | cons e to ih =>
    simp only [List.countP_cons, ih]
    by_cases h1 : 0 ≤ e.a ∧ e.a / line < (l : Int)
    · have h2 : 0 ≤ e.a ∧ e.a / line < ((l + 1 : Nat) : Int) := by omega
      have h3 : ¬ (0 ≤ e.a ∧ e.a / line = (l : Int)) := by omega
      rw [decide_eq_true h1, decide_eq_true h2, decide_eq_false h3]
      simp only [if_true, Bool.false_eq_true, if_false]
      omega
    · by_cases h3 : 0 ≤ e.a ∧ e.a / line = (l : Int)
      · have h2 : 0 ≤ e.a ∧ e.a / line < ((l + 1 : Nat) : Int) := by omega
        rw [decide_eq_false h1, decide_eq_true h2, decide_eq_true h3]
        simp only [if_true, Bool.false_eq_true, if_false]
        omega
      · have h2 : ¬ (0 ≤ e.a ∧ e.a / line < ((l + 1 : Nat) : Int)) := by omega
        rw [decide_eq_false h1, decide_eq_false h2, decide_eq_false h3]
        simp only [Bool.false_eq_true, if_false]
        omega
theorem sumV_le (line : Int) (to : List Ent) (l : Nat) : sumV line to l ≤ to.length := List.countP_le_length
theorem sumV_all {g : Geo} {to : List Ent} (hok : g.okB = true) (hf : Fine g to) : sumV g.line to g.blocks.toNat = manyN to := by
  unfold sumV manyN
  refine List.countP_congr fun e he => ?_
  simp only [decide_eq_true_eq, and_iff_left_iff_imp]
  intro h0
  have h1 : e.a < g.all := by have := hf.in_ e he; omega
  have := Geo.addr_line hok h0 h1
  omega

set_option maxHeartbeats 1000000 in
theorem mapLive_any {w : World} {B C m : Nat} {g : Geo} {to : List Ent} {kt kw vb : Nat} {st sw : Shards} (HM : MapAt w B C m g to kt kw vb st sw) (a : Int) :
    Calls Try.prog 37 #[.pointer (some ⟨m, 0, none⟩), .int .i64 a] w fun r w' => r = .returned (.tuple #[.int .i64 (liveN g to a), .bool (liveB g to a)]) ∧ Below w.heap.size w w' := by
  have HM0 := Lib.hid HM
  have HN : Hid (liveN g to a = if (0 ≤ a ∧ a < g.all) ∧ whoIx to a ≠ 0 then (whoIx to a : Int) - 1 else 0) := Lib.hid rfl
  have HBB : Hid (liveB g to a = decide ((0 ≤ a ∧ a < g.all) ∧ whoIx to a ≠ 0)) := Lib.hid rfl
  have hA : g.all ≤ 65536 := by
    have hg := Geo.ok_of HM.ok
    obtain ⟨m1, m2, m3, m4, m5, m6, m7, m8, m9, m10⟩ := geo_mul hg.c.1 hg.c.2 hg.l.1 hg.l.2 hg.b.1 hg.b.2 hg.p.1 hg.p.2 hg.s.1 hg.s.2
    exact m8
  have hwl := Nat.le_trans (whoIx_le to a) HM.len
  clear HM
  go_enter Try.func37, Try.ntmps37
  (go_wp2_with fail); refine (mapAddr_any HM0.out.raw HM0.out.ok a).mono ?_
  rintro r w1 ⟨rfl, hb⟩
  have HB1 := Lib.hid hb
  have HM1 := Lib.hid (HM0.out.below hb)
  clear hb
  by_cases ha : 0 ≤ a ∧ a < g.all
  · rw [decide_eq_true ha]
    obtain ⟨an, rfl⟩ : ∃ k : Nat, a = k := ⟨a.toNat, by omega⟩
    have haA : an < g.all.toNat := by omega
    have hR := HM1.out.raw
    have hc := hR.whos.at_ an 0 haA (by decide)
    rw [Nat.mul_one, Nat.add_zero] at hc
    have hcell := hc.1
    have HAT := Lib.hid (atInt_any kw sw g.all.toNat _ an _ hR.whos haA (by omega))
    obtain ⟨n, hnn⟩ : ∃ n, whoIx to an = n := ⟨_, rfl⟩
    rw [hnn] at hcell hwl HN HBB
    have HA := Lib.hid ha
    have hok := HM1.out.ok
    obtain ⟨c, l, b, p, s⟩ := g
    obtain ⟨bl, rfl⟩ : ∃ bl : Nat, b = bl := ⟨b.toNat, by have := (Geo.ok_of hok).b.1; simp only at this; omega⟩
    obtain ⟨N, hN⟩ : ∃ N, to.length = N := ⟨_, rfl⟩
    rw [hN] at hR
    have hmb := hR.blk; have n0 : w1.cell? ⟨m, 0, none⟩ = some (.int .i64 c) := hmb.cell 0; have n1 : w1.cell? ⟨m, 1, none⟩ = some (.int .i64 l) := hmb.cell 1; have n2 : w1.cell? ⟨m, 2, none⟩ = some (.int .i64 bl) := hmb.cell 2; have n3 : w1.cell? ⟨m, 3, none⟩ = some (.int .i64 p) := hmb.cell 3; have n4 : w1.cell? ⟨m, 4, none⟩ = some (.int .i64 s) := hmb.cell 4; have n5 : w1.cell? ⟨m, 5, none⟩ = some (.int .i64 N) := hmb.cell 5; have n6 : w1.cell? ⟨m, 6, none⟩ = some (.pointer (some ⟨kt, 0, none⟩)) := hmb.cell 6; have n7 : w1.cell? ⟨m, 7, none⟩ = some (.pointer (some ⟨kw, 0, none⟩)) := hmb.cell 7; have n8 : w1.cell? ⟨m, 8, none⟩ = some (.slice (some ⟨vb, 0, none⟩) bl bl) := hmb.cell 8; have nlt := hmb.lt; clear hmb
    generalize sw.b (an % 4) = bq at *
    generalize an / 4 = oq at *
    clear hR hc hN hnn ha hok hA haA
    (go_wp2_with fail); refine (HAT.out).mono ?_
    rintro r w2 ⟨rfl, rfl⟩
    by_cases h0 : n = 0
    · subst h0
      go_wp2_with fail
      go_ret2
      exact ⟨by rw [HN.out, HBB.out, if_neg (by simp)]; simp, HB1.out⟩
    · have hb0 : ((n : Int) == 0) = false := by simp [h0]
      have hw1 : IntKind.i64.wrap ((n : Int) - 1) = (n : Int) - 1 := wrap_in _ ⟨by omega, by omega⟩
      (go_wp2_with fail); refine (HAT.out).mono ?_
      rintro r w3 ⟨rfl, rfl⟩
      go_wp2_with fail
      go_ret2
      exact ⟨by rw [HN.out, HBB.out, if_pos ⟨HA.out, h0⟩, decide_eq_true ⟨HA.out, h0⟩]; rfl, HB1.out⟩
  · rw [decide_eq_false ha]
    go_wp2_with fail
    go_ret2
    exact ⟨by rw [HN.out, HBB.out, if_neg (fun h => ha h.1), decide_eq_false (fun h => ha h.1)]; rfl, HB1.out⟩

set_option maxHeartbeats 1000000 in
theorem mapMany_any {w : World} {B C m : Nat} {g : Geo} {to : List Ent} {kt kw vb : Nat} {st sw : Shards} (HM : MapAt w B C m g to kt kw vb st sw) :
    Calls Try.prog 18 #[.pointer (some ⟨m, 0, none⟩)] w fun r w' => r = .returned (.int .i64 (manyN to : Nat)) ∧ w = w' := by
  have HS : Hid (sumV g.line to g.blocks.toNat = manyN to) := sumV_all HM.ok HM.fine
  have HZ : Hid (sumV g.line to 0 = 0) := sumV_zero _ (by have hg := Geo.ok_of HM.ok; obtain ⟨m1, m2, m3, m4, m5, m6, m7, m8, m9, m10⟩ := geo_mul hg.c.1 hg.c.2 hg.l.1 hg.l.2 hg.b.1 hg.b.2 hg.p.1 hg.p.2 hg.s.1 hg.s.2; exact m5) _
  have HN : Hid (∀ l, sumV g.line to (l + 1) = sumV g.line to l + validN g.line to l) := sumV_succ _ _
  have HLE : Hid (∀ l, sumV g.line to l ≤ 4096) := fun l => Nat.le_trans (sumV_le _ _ _) HM.len
  have HV := Lib.hid HM.raw.vals
  have hb64 := (Geo.ok_of HM.ok).b
  have hR := HM.raw
  obtain ⟨c, l, b, p, s⟩ := g
  simp only at hb64
  obtain ⟨bl, rfl⟩ : ∃ bl : Nat, b = bl := ⟨b.toNat, by omega⟩
  obtain ⟨N, hN⟩ : ∃ N, to.length = N := ⟨_, rfl⟩
  rw [hN] at hR
  have hmb := hR.blk; have n0 : w.cell? ⟨m, 0, none⟩ = some (.int .i64 c) := hmb.cell 0; have n1 : w.cell? ⟨m, 1, none⟩ = some (.int .i64 l) := hmb.cell 1; have n2 : w.cell? ⟨m, 2, none⟩ = some (.int .i64 bl) := hmb.cell 2; have n3 : w.cell? ⟨m, 3, none⟩ = some (.int .i64 p) := hmb.cell 3; have n4 : w.cell? ⟨m, 4, none⟩ = some (.int .i64 s) := hmb.cell 4; have n5 : w.cell? ⟨m, 5, none⟩ = some (.int .i64 N) := hmb.cell 5; have n6 : w.cell? ⟨m, 6, none⟩ = some (.pointer (some ⟨kt, 0, none⟩)) := hmb.cell 6; have n7 : w.cell? ⟨m, 7, none⟩ = some (.pointer (some ⟨kw, 0, none⟩)) := hmb.cell 7; have n8 : w.cell? ⟨m, 8, none⟩ = some (.slice (some ⟨vb, 0, none⟩) bl bl) := hmb.cell 8; have nlt := hmb.lt; clear hmb
  generalize Geo.line ⟨c, l, bl, p, s⟩ = L at *
  have HS : Hid (sumV L to bl = manyN to) := HS
  clear HM hR hN
  go_enter Try.func18, Try.ntmps18
  go_wp2_with fail
  go_loop [3, 11] (fun n t => ∃ k : Nat, k ≤ bl ∧ t = .int .i64 k ∧ n = .int .i64 (sumV L to k : Nat)) (fun _ t => ((bl : Int) - intOf t).toNat)
  case atStart => exact ⟨0, Nat.zero_le _, rfl, by rw [HZ.out]; rfl⟩
  case round =>
    obtain ⟨k, hk, rfl, rfl⟩ := hrel
    by_cases hlt : k < bl
    · have hc := (HV.out k hlt).1
      have h1 := HLE.out (k + 1)
      have h2 := HN.out k
      obtain ⟨S, hS⟩ : ∃ S, sumV L to k = S := ⟨_, rfl⟩
      obtain ⟨V, hV⟩ : ∃ V, validN L to k = V := ⟨_, rfl⟩
      rw [hS, hV] at h2
      rw [hV] at hc
      rw [hS]
      have h3 : S + V ≤ 4096 := by omega
      have hw1 : IntKind.i64.wrap ((S : Int) + (V : Int)) = ((S + V : Nat) : Int) := by rw [wrap_in _ ⟨by omega, by omega⟩]; simp
      have H2 := Lib.hid h2
      clear h1 h2 hS hV
      go_wp2_with fail
      go_round
      case rel => exact ⟨k + 1, by omega, by go_num, by rw [H2.out]; simp⟩
      case measure => simp [intOf]; omega
    · obtain rfl : k = bl := by omega
      rw [HS.out]
      go_wp2_with fail
      go_ret
      exact ⟨rfl, rfl⟩

end Go.Proofs.Ytlkapaecaeldpaa
