/-
  The walks of the laws over package bits.
-/
import Derived.Test.YtbeahoimefnofaaRef04b
set_option linter.unusedVariables false
set_option linter.unusedSimpArgs false
namespace Go.Proofs.Ytbeahoimefnofaa
open Go.RowKit

theorem isB00 : ∀ x ∈ [(0 : Int), 0], IsB x := by
  intro x hx
  simp at hx
  subst hx
  exact ⟨by decide, by decide⟩
theorem makeN9 : makeN 9 = 2 := by decide
theorem setL9 : setL [0, 0] 8 true = [0, 1] := by decide

set_option maxHeartbeats 400000 in
theorem awake04_any (w : World) :
    Calls Try.prog 15 #[] w fun e w' => e = .returned (.bool true) ∧ Below w.heap.size w w' := by
  have HN := Lib.hid makeN9
  have HS9 := Lib.hid setL9
  have HZ := Lib.hid (Blk.sl (B := 0) (Blk.new w 5 (bv [0, 0])) (Nat.zero_le _) (by decide))
  go_enter Try.func15, Try.ntmps15
  go_wp2_with (first | (go_at_call 33; refine (bitsMake_any _ _ ⟨by decide, by decide⟩).mono ?_; rintro e w1 ⟨v, rfl, hv⟩; rw [HN.out] at hv; rcases hv with ⟨_, hv, _⟩ | ⟨rfl, rfl⟩; (cases hv)))
  refine (bitsSet_yes _ [0, 0] 8 true _ HZ.out isB00 ⟨by decide, by decide⟩ ⟨by decide, by decide⟩).mono ?_
  rintro e w1 ⟨g, rfl, hg, hbk, hb1⟩
  rw [HS9.out] at hbk
  have hcv : (convert 22 9 (.slice (some ⟨g, 0, none⟩) 2 2)).run Try.prog w1 = .ok (.string (strOfNums [0, 1])) w1 := run_str_sl (P := Try.prog) 22 9 5 Try.underlying22 Try.underlying5 Try.underlying9 (xs := [0, 1]) (hbk.sl (B := 0) (Nat.zero_le _) (by decide))
  have HB1 := Lib.hid hb1
  clear hbk hb1
  go_wp2
  go_ret
  exact ⟨ret_bool (by decide +kernel), ((Below.refl _ _).alloc (Nat.le_refl _) _).trans (HB1.out.mono (by simp))⟩

theorem setL_length (xs : List Int) (i : Int) (on : Bool) : (setL xs i on).length = xs.length := by simp [setL]
/-- strings of the same bytes -/
theorem str_beq (xs : List Int) : ((strOfNums xs).toList == (strOfNums xs).toList) = true := beq_self_eq_true _

set_option maxHeartbeats 1000000 in
theorem bitsSetsWalk (a0 : Option Addr) (len0 cap0 : Nat) (z0 : List Int) (i : Int) (on : Bool) (w : World) (w0 : IsRow .u8 w a0 len0 cap0 z0) (w1 : (Lit.int .i64 i).wf = true) :
    Calls Try.prog 4 #[.slice a0 len0 cap0, .int .i64 i, .bool on] w fun e w' => e = .returned (.bool true) ∧ Below w.heap.size w w' := by
  have HI := Lib.hid (wf_i64 w1)
  clear w1
  by_cases hl : 3000 < len0
  · go_enter Try.func4, Try.ntmps4
    have hl2 : len0 ≤ maxLen := by
      rcases w0 with ⟨_, rfl, _⟩ | ⟨_, _, h, h', _⟩
      · omega
      · omega
    unfold maxLen at hl2
    clear w0
    go_wp2_with (first | (go_at_call 15; refine (awake04_any _).mono ?_; rintro e w1 ⟨rfl, hb1⟩; have HB1 := Lib.hid hb1; clear hb1))
    go_ret
    exact ⟨rfl, HB1.out⟩
  · obtain ⟨hs, hlen, hwf⟩ := w0.sl (by omega)
    have hb : ∀ x ∈ z0.take len0, IsB x := fun x hx => wf_u8 (hwf x hx)
    generalize z0.take len0 = xs at *
    subst hlen
    clear w0 hwf
    have HS : Hid (Sl w 0 (.slice a0 xs.length cap0) (bv xs)) := hs
    have HB := Lib.hid hb
    clear hs hb
    by_cases hh : 0 ≤ i ∧ i / 8 < xs.length
    · have HH := Lib.hid hh
      clear hh
      go_enter Try.func4, Try.ntmps4
      go_wp2_with (first
        | (go_at_call 15; refine (awake04_any _).mono ?_; rintro e w1 ⟨rfl, hb1⟩; have HB1 := Lib.hid hb1; clear hb1)
        | (go_at_call 16; refine (bitsSet_yes _ xs i on _ (HS.out.below HB1.out) HB.out HI.out HH.out).mono ?_; rintro e w2 ⟨g, rfl, hg, hbk, hb2⟩; have HK := Lib.hid hbk; have HB2 := Lib.hid (HB1.out.trans (hb2.mono HB1.out.size)); clear hbk hb2 hg)
        | (go_at_call 17; refine (refSet_yes _ xs i on _ (HS.out.below HB2.out) HB.out HI.out HH.out).mono ?_; rintro e w3 ⟨u, rfl, ho, hb3⟩; obtain ⟨ua, ucap, rfl⟩ := own_slice ho; have HO := Lib.hid ho; have HK3 := Lib.hid (HK.out.below hb3); have HB3 := Lib.hid (HB2.out.trans (hb3.mono HB2.out.size)); clear ho hb3)
        | (go_at_call 18; refine (bitsGet_any _ xs i _ (HS.out.below HB3.out) HB.out HI.out).mono ?_; rintro e w4 ⟨rfl, rfl⟩)
        | (go_at_call 19; refine (refGet_any _ xs i _ (HS.out.below HB3.out) HB.out HI.out).mono ?_; rintro e w4 ⟨rfl, hb4⟩; have HB4 := Lib.hid (HB3.out.trans (hb4.mono HB3.out.size)); have HK4 := Lib.hid (HK3.out.below hb4); have hc1 := HK4.out.str (P := Try.prog) Try.underlying22 Try.underlying5 Try.underlying9 (setL_length xs i on) (by omega); have hc2 := own_str (P := Try.prog) Try.underlying22 Try.underlying5 Try.underlying9 (own_below HO.out hb4) (by omega); clear hb4))
      go_ret
      exact ⟨ret_bool (by simp), HB4.out⟩
    · have HH := Lib.hid hh
      clear hh
      have hcn := conv_nil (P := Try.prog) 22 9 5 Try.underlying22 Try.underlying5 Try.underlying9
      go_enter Try.func4, Try.ntmps4
      go_wp2_with (first
        | (go_at_call 15; refine (awake04_any _).mono ?_; rintro e w1 ⟨rfl, hb1⟩; have HB1 := Lib.hid hb1; clear hb1)
        | (go_at_call 16; refine (bitsSet_no _ _ _ _ _ _ (by omega) HI.out HH.out).mono ?_; rintro e w2 ⟨rfl, rfl⟩)
        | (go_at_call 17; refine (refSet_no _ _ _ _ _ _ (by omega) HI.out HH.out).mono ?_; rintro e w2 ⟨rfl, rfl⟩)
        | (go_at_call 18; refine (bitsGet_any _ xs i _ (HS.out.below HB1.out) HB.out HI.out).mono ?_; rintro e w4 ⟨rfl, rfl⟩)
        | (go_at_call 19; refine (refGet_any _ xs i _ (HS.out.below HB1.out) HB.out HI.out).mono ?_; rintro e w4 ⟨rfl, hb4⟩; have HB4 := Lib.hid (HB1.out.trans (hb4.mono HB1.out.size)); clear hb4))
      go_ret
      exact ⟨ret_bool (by simp), HB4.out⟩

/-! BitsBack -/
theorem getD_set_same (xs : List Int) (k : Nat) (y : Int) (h : k < xs.length) : (xs.set k y).getD k 0 = y := by simp [h]
theorem getD_set_other (xs : List Int) (k j : Nat) (y : Int) (h : k ≠ j) : (xs.set k y).getD j 0 = xs.getD j 0 := by simp [List.getElem?_set, h]

theorem setBit_lt {x : Int} (hx : IsB x) {k : Nat} (hk : k < 8) (on : Bool) : IsB (setBit x k on) := by
  have h := refStep hx hk
  have hp := pow_cases (m := k) (by omega)
  obtain ⟨h0, h1⟩ := hx
  unfold setBit IsB
  by_cases hc : x / 2 ^ k % 2 = 1
  · have := h.1 hc
    rw [if_pos hc]
    cases on <;> simp <;> omega
  · have := h.2 hc
    rw [if_neg hc]
    cases on <;> simp <;> omega

theorem setL_isB {xs : List Int} (hb : ∀ x ∈ xs, IsB x) (i : Int) (on : Bool) : ∀ x ∈ setL xs i on, IsB x := by
  intro x hx
  unfold setL at hx
  rcases List.mem_or_eq_of_mem_set hx with h | h
  · exact hb x h
  · subst h; exact setBit_lt (getD_isB hb _) (by omega) on

theorem bit_nat : ∀ x : Fin 256, ∀ k : Fin 8, ∀ on : Bool, (setBit x.val k.val on / 2 ^ k.val % 2 = 1 ↔ on = true) ∧ (∀ j : Fin 8, j ≠ k → (setBit x.val k.val on / 2 ^ j.val % 2 = 1 ↔ (x.val : Int) / 2 ^ j.val % 2 = 1)) ∧
    setBit (setBit x.val k.val on) k.val (decide ((x.val : Int) / 2 ^ k.val % 2 = 1)) = x.val := by decide +kernel

theorem getB_setL_same {xs : List Int} (hb : ∀ x ∈ xs, IsB x) {i : Int} (hh : 0 ≤ i ∧ i / 8 < xs.length) (on : Bool) : getB (setL xs i on) i = on := by
  rw [getB_in hh.1 (by rw [setL_length]; exact hh.2)]
  unfold setL
  rw [getD_set_same _ _ _ (by omega)]
  have hx := getD_isB hb (i / 8).toNat
  generalize xs.getD (i / 8).toNat 0 = x at *
  obtain ⟨n, rfl⟩ := Int.eq_ofNat_of_zero_le hx.1
  have h := (bit_nat ⟨n, by have := hx.2; omega⟩ ⟨(i % 8).toNat, by omega⟩ on).1
  cases on
  · exact decide_eq_false_iff_not.2 (fun k => by simpa using h.1 k)
  · exact decide_eq_true (h.2 rfl)

theorem getB_setL_other {xs : List Int} (hb : ∀ x ∈ xs, IsB x) {i : Int} (hh : 0 ≤ i ∧ i / 8 < xs.length) (on : Bool) {j : Int} (hj : j ≠ i) : getB (setL xs i on) j = getB xs j := by
  by_cases hin : 0 ≤ j ∧ j / 8 < xs.length
  · rw [getB_in hin.1 hin.2, getB_in hin.1 (by rw [setL_length]; exact hin.2)]
    unfold setL
    by_cases hs : (j / 8).toNat = (i / 8).toNat
    · rw [hs, getD_set_same _ _ _ (by omega)]
      have hx := getD_isB hb (i / 8).toNat
      generalize xs.getD (i / 8).toNat 0 = x at *
      obtain ⟨n, rfl⟩ := Int.eq_ofNat_of_zero_le hx.1
      rw [decide_eq_decide]
      exact (bit_nat ⟨n, by have := hx.2; omega⟩ ⟨(i % 8).toNat, by omega⟩ on).2.1 ⟨(j % 8).toNat, by omega⟩ (fun e => by simp only [Fin.mk.injEq] at e; omega)
    · rw [getD_set_other _ _ _ _ (fun e => hs e.symm)]
  · rw [getB_not hin, getB_not (by rw [setL_length]; exact hin)]

theorem setL_back {xs : List Int} (hb : ∀ x ∈ xs, IsB x) {i : Int} (hh : 0 ≤ i ∧ i / 8 < xs.length) (on : Bool) : setL (setL xs i on) i (getB xs i) = xs := by
  rw [getB_in hh.1 hh.2]
  unfold setL
  rw [getD_set_same _ _ _ (by omega), List.set_set]
  have hx := getD_isB hb (i / 8).toNat
  have e : setBit (setBit (xs.getD (i / 8).toNat 0) (i % 8).toNat on) (i % 8).toNat (decide (xs.getD (i / 8).toNat 0 / 2 ^ (i % 8).toNat % 2 = 1)) = xs.getD (i / 8).toNat 0 := by
    generalize xs.getD (i / 8).toNat 0 = x at *
    obtain ⟨n, rfl⟩ := Int.eq_ofNat_of_zero_le hx.1
    exact (bit_nat ⟨n, by have := hx.2; omega⟩ ⟨(i % 8).toNat, by omega⟩ on).2.2
  rw [e]
  exact set_self _

set_option maxHeartbeats 1000000 in
theorem bitsBackWalk (a0 : Option Addr) (len0 cap0 : Nat) (z0 : List Int) (i other : Int) (w : World) (w0 : IsRow .u8 w a0 len0 cap0 z0) (w1 : (Lit.int .i64 i).wf = true) (w2 : (Lit.int .i64 other).wf = true) :
    Calls Try.prog 5 #[.slice a0 len0 cap0, .int .i64 i, .int .i64 other] w fun e w' => e = .returned (.bool true) ∧ Below w.heap.size w w' := by
  have HI := Lib.hid (wf_i64 w1)
  have HI2 := Lib.hid (wf_i64 w2)
  clear w1 w2
  by_cases hl : 3000 < len0
  · have hl2 := w0.len_le
    clear w0
    go_enter Try.func5, Try.ntmps5
    go_wp2_with (first | (go_at_call 15; refine (awake04_any _).mono ?_; rintro e w1 ⟨rfl, hb1⟩; have HB1 := Lib.hid hb1; clear hb1))
    go_ret
    exact ⟨rfl, HB1.out⟩
  · obtain ⟨hs, hlen, hwf⟩ := w0.sl (by omega)
    have hb : ∀ x ∈ z0.take len0, IsB x := fun x hx => wf_u8 (hwf x hx)
    generalize z0.take len0 = xs at *
    subst hlen
    clear w0 hwf
    have HS : Hid (Sl w 0 (.slice a0 xs.length cap0) (bv xs)) := hs
    have HB := Lib.hid hb
    clear hs hb
    by_cases hh : 0 ≤ i ∧ i / 8 < xs.length
    · have HH := Lib.hid hh
      clear hh
      have HG1 := Lib.hid (getB_setL_same HB.out HH.out (!getB xs i))
      have HG2 := Lib.hid (fun j => getB_setL_other HB.out HH.out (!getB xs i) (j := j))
      have HG3 := Lib.hid (setL_back HB.out HH.out (!getB xs i))
      have HYB := Lib.hid (setL_isB HB.out i (!getB xs i))
      have HYL := Lib.hid (setL_length xs i (!getB xs i))
      obtain ⟨was, hwas⟩ : ∃ b, getB xs i = b := ⟨_, rfl⟩
      rw [hwas] at HG1 HG2 HG3 HYB HYL
      have HWAS := Lib.hid hwas
      clear hwas
      generalize hys : setL xs i (!was) = ys at *
      have HYS := Lib.hid hys
      clear hys
      go_enter Try.func5, Try.ntmps5
      (go_wp2_with fail); refine (awake04_any _).mono ?_; rintro e w' ⟨rfl, hb1⟩
      have HB1 := Lib.hid hb1
      clear hb1
      (go_wp2_with fail); refine (bitsGet_any _ xs i _ (HS.out.below HB1.out) HB.out HI.out).mono ?_; rintro e w' ⟨rfl, rfl⟩
      rw [HWAS.out]
      (go_wp2_with fail); refine (bitsSet_yes _ xs i (!was) _ (HS.out.below HB1.out) HB.out HI.out HH.out).mono ?_
      rintro e w2 ⟨g, rfl, hg, hbk, hb2⟩
      rw [HYS.out] at hbk
      have HK := Lib.hid (hbk.sl (B := 0) (Nat.zero_le _) (by rw [bv_length, HYL.out]; omega))
      rw [bv_length, HYL.out] at HK
      have HB2 := Lib.hid (HB1.out.trans (hb2.mono HB1.out.size))
      clear hbk hb2 hg
      (go_wp2_with fail); refine (bitsGet_any _ ys i _ HK.out HYB.out HI.out).mono ?_
      rintro e w3 ⟨rfl, rfl⟩
      rw [HG1.out]
      have hne : ((!was) == was) = false := by cases was <;> rfl
      have hcs := run_str_sl (P := Try.prog) 22 9 5 Try.underlying22 Try.underlying5 Try.underlying9 (HS.out.below HB2.out)
      by_cases ho : other = i
      · have ho1 : (other != i) = false := by simp [ho]
        have HO := Lib.hid ho
        clear ho
        (go_wp2_with fail); refine (bitsSet_yes _ ys i was _ HK.out HYB.out HI.out ⟨HH.out.1, by rw [HYL.out]; exact HH.out.2⟩).mono ?_
        rintro e w4 ⟨g2, rfl, hg, hbk, hb2⟩
        rw [HG3.out] at hbk
        rw [HYL.out]
        have hc4 := hbk.str (P := Try.prog) Try.underlying22 Try.underlying5 Try.underlying9 rfl (by omega)
        have hcs := run_str_sl (P := Try.prog) 22 9 5 Try.underlying22 Try.underlying5 Try.underlying9 (HS.out.below (HB2.out.trans (hb2.mono HB2.out.size)))
        have HB4 := Lib.hid (HB2.out.trans (hb2.mono HB2.out.size))
        clear hbk hb2 hg
        go_wp2
        go_ret
        exact ⟨ret_bool (by simp), HB4.out⟩
      · have ho1 : (other != i) = true := by simpa using ho
        have HO := Lib.hid ho
        clear ho
        (go_wp2_with fail); refine (bitsGet_any _ ys other _ HK.out HYB.out HI2.out).mono ?_
        rintro e w3 ⟨rfl, rfl⟩
        rw [HG2.out other HO.out]
        (go_wp2_with fail); refine (bitsGet_any _ xs other _ (HS.out.below HB2.out) HB.out HI2.out).mono ?_
        rintro e w3 ⟨rfl, rfl⟩
        have hne2 : (getB xs other != getB xs other) = false := by simp
        (go_wp2_with fail); refine (bitsSet_yes _ ys i was _ HK.out HYB.out HI.out ⟨HH.out.1, by rw [HYL.out]; exact HH.out.2⟩).mono ?_
        rintro e w4 ⟨g2, rfl, hg, hbk, hb2⟩
        rw [HG3.out] at hbk
        rw [HYL.out]
        have hc4 := hbk.str (P := Try.prog) Try.underlying22 Try.underlying5 Try.underlying9 rfl (by omega)
        have hcs := run_str_sl (P := Try.prog) 22 9 5 Try.underlying22 Try.underlying5 Try.underlying9 (HS.out.below (HB2.out.trans (hb2.mono HB2.out.size)))
        have HB4 := Lib.hid (HB2.out.trans (hb2.mono HB2.out.size))
        clear hbk hb2 hg
        go_wp2
        go_ret
        exact ⟨ret_bool (by simp), HB4.out⟩
    · have HH := Lib.hid hh
      have hg : getB xs i = false := getB_not hh
      have HG := Lib.hid hg
      clear hh hg
      go_enter Try.func5, Try.ntmps5
      (go_wp2_with fail); refine (awake04_any _).mono ?_; rintro e w' ⟨rfl, hb1⟩
      have HB1 := Lib.hid hb1
      clear hb1
      (go_wp2_with fail); refine (bitsGet_any _ xs i _ (HS.out.below HB1.out) HB.out HI.out).mono ?_; rintro e w' ⟨rfl, rfl⟩
      rw [HG.out]
      (go_wp2_with fail); refine (bitsSet_no _ _ _ _ _ _ (by omega) HI.out HH.out).mono ?_
      rintro e w2 ⟨rfl, rfl⟩
      by_cases h0 : i < 0
      · go_wp2
        go_ret
        exact ⟨rfl, HB1.out⟩
      · have h9 := HI.out.2
        have hge : (xs.length : Int) ≤ i / 8 := by have := HH.out; omega
        go_wp2
        go_ret
        exact ⟨rfl, HB1.out⟩

end Go.Proofs.Ytbeahoimefnofaa
