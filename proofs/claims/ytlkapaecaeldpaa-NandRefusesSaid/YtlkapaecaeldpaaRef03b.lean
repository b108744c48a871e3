/-
  The walk of strakeref03.Of: four loops, one in another.
-/
import Derived.Test.YtlkapaecaeldpaaRef03
set_option linter.unusedVariables false
set_option linter.unusedSimpArgs false
set_option maxRecDepth 16384
namespace Go.Proofs.Ytlkapaecaeldpaa
open Go.RowKit

/-- what the loops keep of the memory: the geometry's box, the place that is to be answered, all that was there -/
structure OfKeep (w wr : World) (g : Geo) (tg tp : TypeId) : Prop where
  g : Blk wr w.heap.size tg [.int .i64 g.chans, .int .i64 g.luns, .int .i64 g.blocks, .int .i64 g.pages, .int .i64 g.sectors]
  p : Blk wr (w.heap.size + 1) tp [.int .i64 0, .int .i64 0, .int .i64 0, .int .i64 0]
  b : Below w.heap.size w wr
theorem OfKeep.step {w wr w2 : World} {g : Geo} {tg tp : TypeId} (h : OfKeep w wr g tg tp) (hb : Below wr.heap.size wr w2) : OfKeep w w2 g tg tp :=
  ⟨h.g.below hb, h.p.below hb, h.b.trans (hb.mono h.b.size)⟩

set_option maxHeartbeats 2000000 in
theorem ref03Of_any (g : Geo) (addr : Int) (w : World) (ha : IsInt addr) :
    Calls Try.prog 64 #[g.v, .int .i64 addr] w fun e w' => e = .returned (.tuple #[(g.ofP addr).v, .int .i64 (g.ofE addr)]) ∧ Below w.heap.size w w' := by
  have HADDR := Lib.hid ha
  clear ha
  have HK0 : Hid (OfKeep w ((w.alloc (.cells #[.int .i64 g.chans, .int .i64 g.luns, .int .i64 g.blocks, .int .i64 g.pages, .int .i64 g.sectors] 23)).alloc (.cells #[.int .i64 0, .int .i64 0, .int .i64 0, .int .i64 0] 84)) g 23 84) :=
    ⟨(Blk.new w 23 [.int .i64 g.chans, .int .i64 g.luns, .int .i64 g.blocks, .int .i64 g.pages, .int .i64 g.sectors]).alloc _, Blk.new1 w _ _ [.int .i64 0, .int .i64 0, .int .i64 0, .int .i64 0],
      ((Below.refl w.heap.size w).alloc (Nat.le_refl _) _).alloc (by simp) _⟩
  by_cases hok : g.okB = true
  · have HO := Lib.hid (Geo.ok_of hok)
    have HOK := Lib.hid hok
    have HGE := Lib.hid (g.of_ok hok addr)
    have HUI := Lib.hid (show g.unitsI = g.units from if_pos hok)
    have HM := Lib.hid HO.out
    clear hok
    obtain ⟨c, l, b, p, s⟩ := g
    obtain ⟨⟨c1, c2⟩, ⟨l1, l2⟩, ⟨b1, b2⟩, ⟨p1, p2⟩, ⟨s1, s2⟩⟩ := HM.out
    simp only at c1 c2 l1 l2 b1 b2 p1 p2 s1 s2
    have HMUL := Lib.hid (geo_mul c1 c2 l1 l2 b1 b2 p1 p2 s1 s2)
    clear HM
    have HL := Lib.hid (Geo.line_eq ⟨c, l, b, p, s⟩)
    have HT := Lib.hid (Geo.stripe_eq ⟨c, l, b, p, s⟩)
    have HA := Lib.hid (Geo.all_eq ⟨c, l, b, p, s⟩)
    unfold Geo.v
    go_enter Try.func64, Try.ntmps64
    (go_wp2_with fail); refine (ref03Right_any ⟨c, l, b, p, s⟩ _).mono ?_
    rintro e w1 ⟨rfl, hb⟩
    rw [HOK.out]
    have HK1 := Lib.hid (HK0.out.step hb)
    clear hb HK0
    go_wp2
    go_loopw [6, 7, 8, 9, 10] (fun at_ bl _ _ _ wr => ∃ B : Int, 0 ≤ B ∧ B ≤ b ∧ bl = .int .i64 B ∧ at_ = .int .i64 (B * Geo.line ⟨c, l, b, p, s⟩) ∧ Hid (addr < 0 ∨ B * Geo.line ⟨c, l, b, p, s⟩ ≤ addr) ∧ Hid (OfKeep w wr ⟨c, l, b, p, s⟩ 23 84)) (fun _ bl _ _ _ _ => (b - intOf bl).toNat)
    case atStart => exact ⟨0, by omega, by omega, rfl, by rw [Int.zero_mul], by rw [Int.zero_mul]; show _ ∨ _; omega, HK1.out⟩
    case round =>
      obtain ⟨B, hB0, hB1, rfl, rfl, HX, HK2⟩ := hrel
      have hk := HK2.out.g
      have k0 : wr.cell? ⟨w.heap.size, 0, none⟩ = some (.int .i64 c) := hk.cell 0; have k1 : wr.cell? ⟨w.heap.size, 1, none⟩ = some (.int .i64 l) := hk.cell 1; have k2 : wr.cell? ⟨w.heap.size, 2, none⟩ = some (.int .i64 b) := hk.cell 2; have k3 : wr.cell? ⟨w.heap.size, 3, none⟩ = some (.int .i64 p) := hk.cell 3; have k4 : wr.cell? ⟨w.heap.size, 4, none⟩ = some (.int .i64 s) := hk.cell 4
      clear hk
      by_cases hlt : B < b
      · obtain ⟨wo, rfl⟩ : ∃ wo : World, wo = wr := ⟨_, rfl⟩
        go_wp2
        go_loopw [6, 8, 9, 10] (fun at_ pg _ _ wr => ∃ P : Int, 0 ≤ P ∧ P ≤ p ∧ pg = .int .i64 P ∧ at_ = .int .i64 (B * Geo.line (⟨c, l, b, p, s⟩ : Geo) + P * Geo.stripe (⟨c, l, b, p, s⟩ : Geo)) ∧ Hid (addr < 0 ∨ B * Geo.line (⟨c, l, b, p, s⟩ : Geo) + P * Geo.stripe (⟨c, l, b, p, s⟩ : Geo) ≤ addr) ∧ Hid (OfKeep w wr ⟨c, l, b, p, s⟩ 23 84)) (fun _ pg _ _ _ => (p - intOf pg).toNat)
        case atStart => exact ⟨0, by omega, by omega, rfl, by rw [Int.zero_mul, Int.add_zero], by rw [Int.zero_mul, Int.add_zero]; exact HX.out, HK2.out⟩
        case round =>
          clear HK2 HX k0 k1 k2 k3 k4
          obtain ⟨P, hP0, hP1, rfl, rfl, HX, HK2⟩ := hrel
          have hk := HK2.out.g
          have k0 : wr.cell? ⟨w.heap.size, 0, none⟩ = some (.int .i64 c) := hk.cell 0; have k1 : wr.cell? ⟨w.heap.size, 1, none⟩ = some (.int .i64 l) := hk.cell 1; have k2 : wr.cell? ⟨w.heap.size, 2, none⟩ = some (.int .i64 b) := hk.cell 2; have k3 : wr.cell? ⟨w.heap.size, 3, none⟩ = some (.int .i64 p) := hk.cell 3; have k4 : wr.cell? ⟨w.heap.size, 4, none⟩ = some (.int .i64 s) := hk.cell 4
          clear hk
          by_cases hltP : P < p
          · obtain ⟨wo2, rfl⟩ : ∃ wo : World, wo = wr := ⟨_, rfl⟩
            go_wp2
            go_loopw [6, 9, 10] (fun at_ un _ wr => ∃ U : Int, 0 ≤ U ∧ U ≤ Geo.units (⟨c, l, b, p, s⟩ : Geo) ∧ un = .int .i64 U ∧ at_ = .int .i64 (B * Geo.line (⟨c, l, b, p, s⟩ : Geo) + P * Geo.stripe (⟨c, l, b, p, s⟩ : Geo) + U * s) ∧ Hid (addr < 0 ∨ B * Geo.line (⟨c, l, b, p, s⟩ : Geo) + P * Geo.stripe (⟨c, l, b, p, s⟩ : Geo) + U * s ≤ addr) ∧ Hid (OfKeep w wr ⟨c, l, b, p, s⟩ 23 84)) (fun _ un _ _ => (Geo.units (⟨c, l, b, p, s⟩ : Geo) - intOf un).toNat)
            case atStart => exact ⟨0, by omega, by have := HMUL.out.1; show 0 ≤ c * l; omega, rfl, by rw [Int.zero_mul, Int.add_zero], by rw [Int.zero_mul, Int.add_zero]; exact HX.out, HK2.out⟩
            case round =>
              clear HK2 HX k0 k1 k2 k3 k4
              obtain ⟨U, hU0, hU1, rfl, rfl, HX, HK2⟩ := hrel
              have hk := HK2.out.g
              have k0 : wr.cell? ⟨w.heap.size, 0, none⟩ = some (.int .i64 c) := hk.cell 0; have k1 : wr.cell? ⟨w.heap.size, 1, none⟩ = some (.int .i64 l) := hk.cell 1; have k2 : wr.cell? ⟨w.heap.size, 2, none⟩ = some (.int .i64 b) := hk.cell 2; have k3 : wr.cell? ⟨w.heap.size, 3, none⟩ = some (.int .i64 p) := hk.cell 3; have k4 : wr.cell? ⟨w.heap.size, 4, none⟩ = some (.int .i64 s) := hk.cell 4
              clear hk
              obtain ⟨wo3, rfl⟩ : ∃ wo : World, wo = wr := ⟨_, rfl⟩
              (go_wp2_with fail); refine (ref03Units_any ⟨c, l, b, p, s⟩ _).mono ?_
              rintro e w3 ⟨rfl, hb⟩
              rw [HUI.out]
              have HK3 := Lib.hid (HK2.out.step hb)
              clear hb HK2
              have hk := HK3.out.g
              have k0 : w3.cell? ⟨w.heap.size, 0, none⟩ = some (.int .i64 c) := hk.cell 0; have k1 : w3.cell? ⟨w.heap.size, 1, none⟩ = some (.int .i64 l) := hk.cell 1; have k2 : w3.cell? ⟨w.heap.size, 2, none⟩ = some (.int .i64 b) := hk.cell 2; have k3 : w3.cell? ⟨w.heap.size, 3, none⟩ = some (.int .i64 p) := hk.cell 3; have k4 : w3.cell? ⟨w.heap.size, 4, none⟩ = some (.int .i64 s) := hk.cell 4
              clear hk
              have hu8 : Geo.units (⟨c, l, b, p, s⟩ : Geo) ≤ 8 := HMUL.out.2.1
              by_cases hltU : U < Geo.units (⟨c, l, b, p, s⟩ : Geo)
              · go_wp2
                go_loopw [6, 10] (fun at_ se wr => ∃ S : Int, 0 ≤ S ∧ S ≤ s ∧ se = .int .i64 S ∧ at_ = .int .i64 (B * Geo.line (⟨c, l, b, p, s⟩ : Geo) + P * Geo.stripe (⟨c, l, b, p, s⟩ : Geo) + U * s + S) ∧ Hid (addr < 0 ∨ B * Geo.line (⟨c, l, b, p, s⟩ : Geo) + P * Geo.stripe (⟨c, l, b, p, s⟩ : Geo) + U * s + S ≤ addr) ∧ Hid (OfKeep w wr ⟨c, l, b, p, s⟩ 23 84)) (fun _ se _ => (s - intOf se).toNat)
                case atStart => exact ⟨0, by omega, by omega, rfl, by rw [Int.add_zero], by rw [Int.add_zero]; exact HX.out, HK3.out⟩
                case round =>
                  clear HK3 HX k0 k1 k2 k3 k4
                  obtain ⟨S, hS0, hS1, rfl, rfl, HX, HK2⟩ := hrel
                  have hk := HK2.out.g
                  have k0 : wr.cell? ⟨w.heap.size, 0, none⟩ = some (.int .i64 c) := hk.cell 0; have k1 : wr.cell? ⟨w.heap.size, 1, none⟩ = some (.int .i64 l) := hk.cell 1; have k2 : wr.cell? ⟨w.heap.size, 2, none⟩ = some (.int .i64 b) := hk.cell 2; have k3 : wr.cell? ⟨w.heap.size, 3, none⟩ = some (.int .i64 p) := hk.cell 3; have k4 : wr.cell? ⟨w.heap.size, 4, none⟩ = some (.int .i64 s) := hk.cell 4
                  clear hk
                  by_cases hltS : S < s
                  · have hin : Geo.In (⟨c, l, b, p, s⟩ : Geo) ⟨U, B, P, S⟩ := ⟨⟨hU0, hltU⟩, ⟨hB0, hlt⟩, ⟨hP0, hltP⟩, ⟨hS0, hltS⟩⟩
                    have hix := Geo.ix_in hin
                    have hof := Geo.of_ix HO.out hin
                    have e : Geo.ix (⟨c, l, b, p, s⟩ : Geo) ⟨U, B, P, S⟩ = B * Geo.line (⟨c, l, b, p, s⟩ : Geo) + P * Geo.stripe (⟨c, l, b, p, s⟩ : Geo) + U * s + S := rfl
                    rw [e] at hix hof
                    have hall : Geo.all (⟨c, l, b, p, s⟩ : Geo) ≤ 65536 := HMUL.out.2.2.2.2.2.2.2.1
                    obtain ⟨hx1, hx2⟩ := hix
                    clear hin e
                    have HOF := Lib.hid hof
                    clear hof
                    generalize hat : B * Geo.line (⟨c, l, b, p, s⟩ : Geo) + P * Geo.stripe (⟨c, l, b, p, s⟩ : Geo) + U * s + S = A at *
                    have HAT := Lib.hid hat
                    clear hat
                    by_cases heq : A = addr
                    · have hbq : (A == addr) = true := beq_iff_eq.2 heq
                      have hz := HK2.out.p
                      have z0 : wr.cell? ⟨w.heap.size + 1, 0, none⟩ = some (.int .i64 0) := hz.cell 0; have z1 : wr.cell? ⟨w.heap.size + 1, 1, none⟩ = some (.int .i64 0) := hz.cell 1; have z2 : wr.cell? ⟨w.heap.size + 1, 2, none⟩ = some (.int .i64 0) := hz.cell 2; have z3 : wr.cell? ⟨w.heap.size + 1, 3, none⟩ = some (.int .i64 0) := hz.cell 3; have y0 := hz.free 0; have y1 := hz.free 1; have y2 := hz.free 2; have y3 := hz.free 3
                      have HEQ := Lib.hid heq
                      clear heq hz
                      go_wp2
                      have hfin := HK2.out.p.set4 (.int .i64 U) (.int .i64 B) (.int .i64 P) (.int .i64 S); have f0 := hfin.cell 0; have f1 := hfin.cell 1; have f2 := hfin.cell 2; have f3 := hfin.cell 3; simp only [List.getElem?_cons_zero, List.getElem?_cons_succ] at f0 f1 f2 f3; refine bodyPost_ret (v := .tuple #[.agg #[.int .i64 U, .int .i64 B, .int .i64 P, .int .i64 S], .int .i64 0]) (by simp [results, Try.results64, go_sem, f0, f1, f2, f3]) rfl ⟨?_, ?_⟩
                      · rw [← HEQ.out, HOF.out.1, HOF.out.2]; rfl
                      · exact below_set4 HK2.out.b (by omega) _ _ _ _
                    · have hbq : (A == addr) = false := beq_eq_false_iff_ne.2 heq
                      have HNE := Lib.hid heq
                      clear heq
                      go_wp2
                      go_roundw
                      case rel =>
                        refine ⟨S + 1, by omega, by omega, rfl, ?_, ?_, HK2.out⟩
                        · rw [← HAT.out]; congr 1; omega
                        · have := HX.out; have := HNE.out; have := HAT.out; show _ ∨ _; omega
                      case measure => simp [intOf]; omega
                  · obtain rfl : s = S := by omega
                    go_wp2
                    go_roundw
                    case rel =>
                      have e : (U + 1) * s = U * s + s := by rw [Int.add_mul, Int.one_mul]
                      refine ⟨U + 1, by omega, by omega, rfl, ?_, ?_, HK2.out⟩
                      · congr 1; rw [e]; omega
                      · have := HX.out; show _ ∨ _; rw [e]; omega
                    case measure => simp [intOf]; omega
              · obtain hUe : U = Geo.units (⟨c, l, b, p, s⟩ : Geo) := by omega
                go_wp2
                go_roundw
                case rel =>
                  have e : (P + 1) * Geo.stripe (⟨c, l, b, p, s⟩ : Geo) = P * Geo.stripe (⟨c, l, b, p, s⟩ : Geo) + U * s := by rw [Int.add_mul, Int.one_mul, hUe]; exact congrArg _ HT.out
                  have e2 : U * s = Geo.units (⟨c, l, b, p, s⟩ : Geo) * s := by rw [hUe]
                  refine ⟨P + 1, by omega, by omega, rfl, ?_, ?_, HK3.out⟩
                  · congr 1; rw [e]; omega
                  · have := HX.out; show _ ∨ _; rw [e]; omega
                case measure => simp [intOf]; omega
          · obtain hPe : P = p := by omega
            go_wp2
            go_roundw
            case rel =>
              have e : (B + 1) * Geo.line (⟨c, l, b, p, s⟩ : Geo) = B * Geo.line (⟨c, l, b, p, s⟩ : Geo) + P * Geo.stripe (⟨c, l, b, p, s⟩ : Geo) := by rw [Int.add_mul, Int.one_mul, hPe, HL.out]
              have e2 : P * Geo.stripe (⟨c, l, b, p, s⟩ : Geo) = p * Geo.stripe (⟨c, l, b, p, s⟩ : Geo) := by rw [hPe]
              refine ⟨B + 1, by omega, by omega, rfl, ?_, ?_, HK2.out⟩
              · congr 1; rw [e]
              · have := HX.out; show _ ∨ _; rw [e]; omega
            case measure => simp [intOf]; omega
      · obtain hBe : B = b := by omega
        have hout : ¬ (0 ≤ addr ∧ addr < Geo.all (⟨c, l, b, p, s⟩ : Geo)) := by
          have h := HX.out
          rw [hBe, Int.mul_comm, ← HA.out] at h
          omega
        obtain ⟨q1, q2⟩ := HGE.out.2 hout
        have HQ1 := Lib.hid q1
        have HQ2 := Lib.hid q2
        have hz := HK2.out.p
        have z0 : wr.cell? ⟨w.heap.size + 1, 0, none⟩ = some (.int .i64 0) := hz.cell 0; have z1 : wr.cell? ⟨w.heap.size + 1, 1, none⟩ = some (.int .i64 0) := hz.cell 1; have z2 : wr.cell? ⟨w.heap.size + 1, 2, none⟩ = some (.int .i64 0) := hz.cell 2; have z3 : wr.cell? ⟨w.heap.size + 1, 3, none⟩ = some (.int .i64 0) := hz.cell 3; have y0 := hz.free 0; have y1 := hz.free 1; have y2 := hz.free 2; have y3 := hz.free 3
        clear q1 q2 hout hz
        have HBE := Lib.hid hBe
        clear hBe
        have hge : b ≤ B := by omega
        go_wp2
        have hfin := HK2.out.p.set4 (.int .i64 0) (.int .i64 0) (.int .i64 0) (.int .i64 0); have f0 := hfin.cell 0; have f1 := hfin.cell 1; have f2 := hfin.cell 2; have f3 := hfin.cell 3; simp only [List.getElem?_cons_zero, List.getElem?_cons_succ] at f0 f1 f2 f3; refine bodyPost_ret (v := .tuple #[.agg #[.int .i64 0, .int .i64 0, .int .i64 0, .int .i64 0], .int .i64 2]) (by simp [results, Try.results64, go_sem, f0, f1, f2, f3]) rfl ⟨?_, ?_⟩
        · rw [HQ1.out, HQ2.out]; rfl
        · exact below_set4 HK2.out.b (by omega) _ _ _ _
  · have HE : Hid (g.ofE addr = 1) := if_neg hok
    have HP : Hid (g.ofP addr = ⟨0, 0, 0, 0⟩) := if_neg (fun h => hok h.1)
    have HOK : Hid (g.okB = false) := Bool.eq_false_iff.2 hok
    clear hok
    obtain ⟨c, l, b, p, s⟩ := g
    unfold Geo.v
    go_enter Try.func64, Try.ntmps64
    (go_wp2_with fail); refine (ref03Right_any ⟨c, l, b, p, s⟩ _).mono ?_
    rintro e w1 ⟨rfl, hb⟩
    rw [HOK.out]
    have HK1 := Lib.hid (HK0.out.step hb)
    have hz := HK1.out.p
    have z0 : w1.cell? ⟨w.heap.size + 1, 0, none⟩ = some (.int .i64 0) := hz.cell 0; have z1 : w1.cell? ⟨w.heap.size + 1, 1, none⟩ = some (.int .i64 0) := hz.cell 1; have z2 : w1.cell? ⟨w.heap.size + 1, 2, none⟩ = some (.int .i64 0) := hz.cell 2; have z3 : w1.cell? ⟨w.heap.size + 1, 3, none⟩ = some (.int .i64 0) := hz.cell 3; have y0 := hz.free 0; have y1 := hz.free 1; have y2 := hz.free 2; have y3 := hz.free 3
    clear hb hz
    go_wp2
    have hfin := HK1.out.p.set4 (.int .i64 0) (.int .i64 0) (.int .i64 0) (.int .i64 0); have f0 := hfin.cell 0; have f1 := hfin.cell 1; have f2 := hfin.cell 2; have f3 := hfin.cell 3; simp only [List.getElem?_cons_zero, List.getElem?_cons_succ] at f0 f1 f2 f3; refine bodyPost_ret (v := .tuple #[.agg #[.int .i64 0, .int .i64 0, .int .i64 0, .int .i64 0], .int .i64 1]) (by simp [results, Try.results64, go_sem, f0, f1, f2, f3]) rfl ⟨?_, ?_⟩
    · rw [HP.out, HE.out]; rfl
    · exact below_set4 HK1.out.b (by omega) _ _ _ _

end Go.Proofs.Ytlkapaecaeldpaa
