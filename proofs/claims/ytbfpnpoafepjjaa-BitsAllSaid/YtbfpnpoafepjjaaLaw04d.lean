/-
  The walk of the law BitsAll.
-/
import Derived.Test.YtbfpnpoafepjjaaLaw04
set_option linter.unusedVariables false
set_option linter.unusedSimpArgs false
set_option maxRecDepth 16384
namespace Go.Proofs.Ytbfpnpoafepjjaa
open Go.RowKit

theorem nextL (xs : List Int) : ∀ (d k : Nat), k + d = 8 * xs.length → (nextI xs (8 * xs.length) k true = -1 ∧ lstB xs (8 * xs.length) = lstB xs k) ∨
    ∃ j : Nat, nextI xs (8 * xs.length) k true = j ∧ k ≤ j ∧ j < 8 * xs.length ∧ lstB xs (j + 1) = lstB xs k ++ [(j : Int)]
  | 0, k, h => .inl ⟨by
      unfold nextI
      rw [show max 0 (k : Int) = k from by omega]
      exact nextB_end (by omega), by rw [← h, Nat.add_zero]⟩
  | d + 1, k, h => by
    have ih := nextL xs d (k + 1) (by omega)
    unfold nextI at ih ⊢
    rw [show max 0 (k : Int) = k from by omega, nextB_step (by omega), if_pos (by omega)]
    rw [show max 0 (((k + 1 : Nat)) : Int) = k + 1 from by omega] at ih
    by_cases hg : getB xs k = true
    · rw [if_pos hg]
      exact .inr ⟨k, rfl, Nat.le_refl _, by omega, by simp [lstB, hg]⟩
    · rw [if_neg hg]
      have hl : lstB xs (k + 1) = lstB xs k := by simp [lstB, hg]
      rw [hl] at ih
      rcases ih with ih | ⟨j, h1, h2, h3, h4⟩
      · exact .inl ih
      · exact .inr ⟨j, h1, by omega, h3, h4⟩

set_option maxHeartbeats 1000000 in
theorem bitsAllWalk (a0 : Option Addr) (len0 cap0 : Nat) (z0 : List Int) (w : World) (w0 : IsRow .u8 w a0 len0 cap0 z0) :
    Calls Try.prog 5 #[.slice a0 len0 cap0] w fun e w' => e = .returned (.bool true) ∧ Below w.heap.size w w' := by
  by_cases hl : 500 < len0
  · have hl2 := w0.len_le
    clear w0
    go_enter Try.func5, Try.ntmps5
    (go_wp2_with fail); refine (awake04_any _).mono ?_; rintro e w' ⟨rfl, hb1⟩
    have HB1 := Lib.hid hb1
    clear hb1
    go_wp2
    go_ret
    exact ⟨rfl, HB1.out⟩
  obtain ⟨hs, hlen, hwf⟩ := w0.sl (by omega)
  have hb : ∀ x ∈ z0.take len0, IsB x := fun x hx => wf_u8 (hwf x hx)
  generalize z0.take len0 = xs at *
  subst hlen
  clear w0 hwf
  have HS : Hid (Sl w 0 (.slice a0 xs.length cap0) (bv xs)) := hs
  have HB := Lib.hid hb
  clear hs hb
  obtain ⟨i0, hif, hz0, hz1, hz2⟩ := info_parts info_int
  go_enter Try.func5, Try.ntmps5
  (go_wp2_with fail); refine (awake04_any _).mono ?_; rintro e w' ⟨rfl, hb1⟩
  obtain ⟨wo, rfl⟩ : ∃ wo : World, wo = w' := ⟨_, rfl⟩
  have HB1 := Lib.hid hb1
  clear hb1
  go_wp2_with fail
  go_loopw [4, 5] (fun u t wr => ∃ k : Nat, k ≤ 8 * xs.length ∧ t = .int .i64 k ∧ Hid (wr.ownsRow wo.heap.size 3 1 u (lstB xs k).length (iv (lstB xs k))) ∧ Hid (Below wo.heap.size wo wr)) (fun _ t _ => (8 * (xs.length : Int) + 1 - intOf t).toNat)
  case atStart => exact ⟨0, Nat.zero_le _, rfl, World.ownsRow_nil _ _ _ _, Below.refl _ _⟩
  case round =>
    obtain ⟨k, hk, rfl, HO, HW⟩ := hrel
    have hc := lstB_le xs k
    have HWW := Lib.hid (HB1.out.trans (HW.out.mono HB1.out.size))
    have HN := Lib.hid (nextL xs (8 * xs.length - k) k (by omega))
    obtain ⟨ua, ucap, rfl⟩ := own_slice HO.out
    (go_wp2_with fail); refine (bitsNext_any _ xs _ _ _ _ (HS.out.below HWW.out) HB.out ⟨by omega, by omega⟩ ⟨by omega, by omega⟩).mono ?_
    rintro e w2 ⟨rfl, rfl⟩
    rcases HN.out with ⟨h1, h2⟩ | ⟨j, h1, h2, h3, h4⟩
    · rw [h1]
      have HL := Lib.hid h2
      clear h1 h2 HN
      (go_wp2_with fail); refine (bitsList_any _ xs _ (HS.out.below HWW.out) HB.out (by omega)).mono ?_
      rintro e w3 ⟨v, rfl, ho, hb⟩
      obtain ⟨va, vcap, rfl⟩ := own_slice ho
      have HV := Lib.hid ((Sl.of_own ho (by rw [iv_length]; have := lstB_le xs (8 * xs.length); omega)).mono (Nat.zero_le _))
      have HU := Lib.hid ((Sl.of_own (own_below HO.out hb) (by rw [iv_length]; omega)).mono (Nat.zero_le _))
      have HB3 := Lib.hid (HWW.out.trans (hb.mono HWW.out.size))
      clear hb ho
      (go_wp2_with fail); refine (refSame_any _ _ _ _ _ HU.out HV.out).mono ?_
      rintro e w4 ⟨rfl, hb⟩
      have HB4 := Lib.hid (HB3.out.trans (hb.mono HB3.out.size))
      clear hb
      have hsame : sameB (lstB xs k) (lstB xs (8 * xs.length)) = true := by simp [sameB, HL.out]
      (go_wp2_with fail); refine (bitsCount_any _ xs _ (HS.out.below HB4.out) HB.out (by omega)).mono ?_
      rintro e w5 ⟨rfl, hb⟩
      have HB5 := Lib.hid (HB4.out.trans (hb.mono HB4.out.size))
      clear hb
      have hcnt : cntB xs (8 * xs.length) = ((lstB xs k).length : Int) := by rw [← HL.out, lstB_length]
      go_wp2
      go_ret
      exact ⟨ret_bool (by simp [hsame, hcnt]), HB5.out⟩
    · rw [h1]
      have HL := Lib.hid h4
      clear h1 h4 HN
      go_wp2_with (first | (at_builtin; refine wpList_append_own_at _ rfl (.tmp 26) (.tmp 28) 24 rfl wo.heap.size 3 i0 (.int .i64 0) 1 8 Try.underlying24 hif hz0 hz1 hz2 rfl (by decide) _ _ _ rfl (HO.out.alloc _) ⟨wr.heap.size, 0, none⟩ 1 1 [.int .i64 j] rfl rfl (cell_one_new _ _ _) (oneCell_one _ _) ?c3 ?c4 ?c5 ?K))
      case c3 => unfold maxLen; omega
      case c4 => omega
      case c5 => have := HW.out.size; simp; omega
      case K =>
        intro v1 w1 hown hgrow hnil hat
        clear hat hnil
        have hb1 := below_grown (B := wo.heap.size) ((HW.out).alloc HW.out.size (.cells #[Value.int .i64 j] 3)) (HO.out.alloc _) hgrow (by have := HW.out.size; simp; omega) (Nat.le_refl _)
        have HO1 := Lib.hid hown
        have HB2 := Lib.hid hb1
        clear hown hgrow hb1
        go_wp2
        go_roundw
        case rel =>
          refine ⟨j + 1, by omega, by go_num, ?_, HB2.out⟩
          have h := HO1.out
          rw [HL.out]
          show Go.World.ownsRow _ _ _ _ _ _ _
          simpa [iv] using h
        case measure => simp [intOf]; omega

end Go.Proofs.Ytbfpnpoafepjjaa
