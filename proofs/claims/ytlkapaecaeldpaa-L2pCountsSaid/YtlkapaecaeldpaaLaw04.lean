/-
  The walks of the laws over package bits.
-/
import Derived.Test.YtlkapaecaeldpaaRef04b
set_option linter.unusedVariables false
set_option linter.unusedSimpArgs false
set_option maxRecDepth 16384
namespace Go.Proofs.Ytlkapaecaeldpaa
open Go.RowKit

theorem isB00 : ∀ x ∈ [(0 : Int), 0], IsB x := by
  intro x hx
  simp at hx
  subst hx
  exact ⟨by decide, by decide⟩
theorem makeN9 : makeN 9 = 2 := by decide
theorem setL9 : setL [0, 0] 8 true = [0, 1] := by decide


theorem setL_length (xs : List Int) (i : Int) (on : Bool) : (setL xs i on).length = xs.length := by simp [setL]
/-- strings of the same bytes -/
theorem str_beq (xs : List Int) : ((strOfNums xs).toList == (strOfNums xs).toList) = true := beq_self_eq_true _


theorem getD_set_same (xs : List Int) (k : Nat) (y : Int) (h : k < xs.length) : (xs.set k y).getD k 0 = y := by simp [h]
theorem getD_set_other (xs : List Int) (k j : Nat) (y : Int) (h : k ≠ j) : (xs.set k y).getD j 0 = xs.getD j 0 := by simp [List.getElem?_set, h]

theorem setBit_lt {x : Int} (hx : IsB x) {k : Nat} (hk : k < 8) (on : Bool) : IsB (setBit x k on) := by
  have h := refStep hx hk
  have hp := pow_cases (m := k) (by omega)
  obtain ⟨h0, h1⟩ := hx
  unfold setBit IsB
  by_cases hc : x / 2 ^ k % 2 = 1
  · have := h.1 hc
    rw [if_pos hc]
    cases on <;> simp <;> omega
  · have := h.2 hc
    rw [if_neg hc]
    cases on <;> simp <;> omega

theorem setL_isB {xs : List Int} (hb : ∀ x ∈ xs, IsB x) (i : Int) (on : Bool) : ∀ x ∈ setL xs i on, IsB x := by
  intro x hx
  unfold setL at hx
  rcases List.mem_or_eq_of_mem_set hx with h | h
  · exact hb x h
  · subst h; exact setBit_lt (getD_isB hb _) (by omega) on

theorem bit_nat : ∀ x : Fin 256, ∀ k : Fin 8, ∀ on : Bool, (setBit x.val k.val on / 2 ^ k.val % 2 = 1 ↔ on = true) ∧ (∀ j : Fin 8, j ≠ k → (setBit x.val k.val on / 2 ^ j.val % 2 = 1 ↔ (x.val : Int) / 2 ^ j.val % 2 = 1)) ∧
    setBit (setBit x.val k.val on) k.val (decide ((x.val : Int) / 2 ^ k.val % 2 = 1)) = x.val := by decide +kernel

theorem getB_setL_same {xs : List Int} (hb : ∀ x ∈ xs, IsB x) {i : Int} (hh : 0 ≤ i ∧ i / 8 < xs.length) (on : Bool) : getB (setL xs i on) i = on := by
  rw [getB_in hh.1 (by rw [setL_length]; exact hh.2)]
  unfold setL
  rw [getD_set_same _ _ _ (by omega)]
  have hx := getD_isB hb (i / 8).toNat
  generalize xs.getD (i / 8).toNat 0 = x at *
  obtain ⟨n, rfl⟩ := Int.eq_ofNat_of_zero_le hx.1
  have h := (bit_nat ⟨n, by have := hx.2; omega⟩ ⟨(i % 8).toNat, by omega⟩ on).1
  cases on
  · exact decide_eq_false_iff_not.2 (fun k => by simpa using h.1 k)
  · exact decide_eq_true (h.2 rfl)

theorem getB_setL_other {xs : List Int} (hb : ∀ x ∈ xs, IsB x) {i : Int} (hh : 0 ≤ i ∧ i / 8 < xs.length) (on : Bool) {j : Int} (hj : j ≠ i) : getB (setL xs i on) j = getB xs j := by
  by_cases hin : 0 ≤ j ∧ j / 8 < xs.length
  · rw [getB_in hin.1 hin.2, getB_in hin.1 (by rw [setL_length]; exact hin.2)]
    unfold setL
    by_cases hs : (j / 8).toNat = (i / 8).toNat
    · rw [hs, getD_set_same _ _ _ (by omega)]
      have hx := getD_isB hb (i / 8).toNat
      generalize xs.getD (i / 8).toNat 0 = x at *
      obtain ⟨n, rfl⟩ := Int.eq_ofNat_of_zero_le hx.1
      rw [decide_eq_decide]
      exact (bit_nat ⟨n, by have := hx.2; omega⟩ ⟨(i % 8).toNat, by omega⟩ on).2.1 ⟨(j % 8).toNat, by omega⟩ (fun e => by simp only [Fin.mk.injEq] at e; omega)
    · rw [getD_set_other _ _ _ _ (fun e => hs e.symm)]
  · rw [getB_not hin, getB_not (by rw [setL_length]; exact hin)]

theorem setL_back {xs : List Int} (hb : ∀ x ∈ xs, IsB x) {i : Int} (hh : 0 ≤ i ∧ i / 8 < xs.length) (on : Bool) : setL (setL xs i on) i (getB xs i) = xs := by
  rw [getB_in hh.1 hh.2]
  unfold setL
  rw [getD_set_same _ _ _ (by omega), List.set_set]
  have hx := getD_isB hb (i / 8).toNat
  have e : setBit (setBit (xs.getD (i / 8).toNat 0) (i % 8).toNat on) (i % 8).toNat (decide (xs.getD (i / 8).toNat 0 / 2 ^ (i % 8).toNat % 2 = 1)) = xs.getD (i / 8).toNat 0 := by
    generalize xs.getD (i / 8).toNat 0 = x at *
    obtain ⟨n, rfl⟩ := Int.eq_ofNat_of_zero_le hx.1
    exact (bit_nat ⟨n, by have := hx.2; omega⟩ ⟨(i % 8).toNat, by omega⟩ on).2.2
  rw [e]
  exact set_self _


end Go.Proofs.Ytlkapaecaeldpaa
