/-
  Package l2p: a line's bitmap, made in either order, is the same; and it has as many bits as the line has sectors. The plain laws.
-/
import Derived.Test.YtlkapaecaeldpaaRef11b
set_option linter.unusedVariables false
set_option linter.unusedSimpArgs false
set_option maxRecDepth 16384
namespace Go.Proofs.Ytlkapaecaeldpaa
open Go.RowKit

theorem byte_sum : ∀ x : Fin 256, (x.val : Int) = (x.val : Int) / 2 ^ 0 % 2 + 2 * ((x.val : Int) / 2 ^ 1 % 2) + 4 * ((x.val : Int) / 2 ^ 2 % 2) + 8 * ((x.val : Int) / 2 ^ 3 % 2) + 16 * ((x.val : Int) / 2 ^ 4 % 2) + 32 * ((x.val : Int) / 2 ^ 5 % 2) + 64 * ((x.val : Int) / 2 ^ 6 % 2) + 128 * ((x.val : Int) / 2 ^ 7 % 2) := by decide +kernel

theorem byte_ext {x y : Int} (hx : IsB x) (hy : IsB y) (h : ∀ k : Nat, k < 8 → (x / 2 ^ k % 2 = 1 ↔ y / 2 ^ k % 2 = 1)) : x = y := by
  obtain ⟨a, rfl⟩ := Int.eq_ofNat_of_zero_le hx.1
  obtain ⟨b, rfl⟩ := Int.eq_ofNat_of_zero_le hy.1
  have h1 := byte_sum ⟨a, by have := hx.2; omega⟩
  have h2 := byte_sum ⟨b, by have := hy.2; omega⟩
  simp only at h1 h2
  have e : ∀ k : Nat, k < 8 → (a : Int) / 2 ^ k % 2 = (b : Int) / 2 ^ k % 2 := fun k hk => by
    have := h k hk
    generalize (a : Int) / 2 ^ k = m1 at this ⊢
    generalize (b : Int) / 2 ^ k = m2 at this ⊢
    omega
  rw [h1, h2, e 0 (by decide), e 1 (by decide), e 2 (by decide), e 3 (by decide), e 4 (by decide), e 5 (by decide), e 6 (by decide), e 7 (by decide)]

theorem bytes_ext {xs ys : List Int} (hx : ∀ x ∈ xs, IsB x) (hy : ∀ y ∈ ys, IsB y) (hl : xs.length = ys.length) (h : ∀ i : Nat, i < 8 * xs.length → getB xs i = getB ys i) : xs = ys := by
  refine List.ext_getElem? fun j => ?_
  by_cases hj : j < xs.length
  · rw [List.getElem?_eq_getElem hj, List.getElem?_eq_getElem (by omega)]
    congr 1
    refine byte_ext (hx _ (List.getElem_mem hj)) (hy _ (List.getElem_mem (by omega))) fun k hk => ?_
    have h1 := h (8 * j + k) (by omega)
    have e1 : (((8 * j + k : Nat) : Int) / 8).toNat = j := by omega
    have e2 : (((8 * j + k : Nat) : Int) % 8).toNat = k := by omega
    rw [getB_in (by omega) (by omega), getB_in (by omega) (by omega), e1, e2, decide_eq_decide] at h1
    rw [List.getD_eq_getElem?_getD, List.getD_eq_getElem?_getD, List.getElem?_eq_getElem hj, List.getElem?_eq_getElem (by omega : j < ys.length)] at h1
    exact h1
  · rw [List.getElem?_eq_none (by omega), List.getElem?_eq_none (by omega)]

theorem getB_zero (M : Nat) (i : Int) : getB (List.replicate M 0) i = false := by
  unfold getB
  rw [decide_eq_false_iff_not]
  rintro ⟨_, _, h⟩
  rw [List.getD_eq_getElem?_getD, List.getElem?_replicate] at h
  split at h <;> simp at h

theorem whoIx_ne {to : List Ent} {a : Int} : whoIx to a ≠ 0 ↔ ∃ e ∈ to, e.a = a := by
  refine ⟨fun h => ?_, fun ⟨e, he, ha⟩ h => whoIx_zero h e he ha⟩
  cases hw : whoIx to a with
  | zero => exact absurd hw h
  | succ i =>
    obtain ⟨e, he, ha⟩ := whoIx_inv hw
    exact ⟨e, List.mem_of_getElem? he, ha⟩

theorem makeN_fits {L : Nat} (h1 : L ≤ 1024) {i : Nat} (hi : i < L) : (i : Int) / 8 < (makeN (L : Int) : Nat) := by
  unfold makeN
  rw [if_pos (by omega)]
  omega

theorem getB_bitsF {L : Nat} (hL : L ≤ 1024) (to : List Ent) (l : Int) : ∀ (j : Nat), j ≤ L → ∀ i : Nat, (getB (bitsF (L : Int) to l j) i = true ↔ (i < j ∧ ∃ e ∈ to, e.a = l * L + i))
  | 0, _, i => by rw [bitsF, getB_zero]; simp
  | j + 1, hj, i => by
    have ih := getB_bitsF hL to l j (by omega) i
    have hfit : 0 ≤ (j : Int) ∧ (j : Int) / 8 < (bitsF (L : Int) to l j).length := ⟨by omega, by rw [bitsF_length]; exact makeN_fits hL (by omega)⟩
    rw [bitsF]
    by_cases hw : whoIx to (l * L + j) ≠ 0
    · rw [if_pos hw]
      by_cases hij : i = j
      · subst hij
        rw [getB_setL_same (bitsF_isB _ _ _ _) hfit]
        exact ⟨fun _ => ⟨by omega, whoIx_ne.1 hw⟩, fun _ => rfl⟩
      · rw [getB_setL_other (bitsF_isB _ _ _ _) hfit true (show (i : Int) ≠ j by omega), ih]
        exact ⟨fun h => ⟨by omega, h.2⟩, fun h => ⟨by omega, h.2⟩⟩
    · rw [if_neg hw, ih]
      refine ⟨fun h => ⟨by omega, h.2⟩, fun h => ⟨?_, h.2⟩⟩
      by_cases hij : i = j
      · subst hij; exact absurd (whoIx_ne.2 h.2) hw
      · omega

theorem div_line {L : Nat} (h1 : 1 ≤ L) {a l : Int} (h : a / (L : Int) = l) : a = l * L + a % L ∧ 0 ≤ a % (L : Int) ∧ a % (L : Int) < L := by
  have h2 := Int.emod_add_mul_ediv a (L : Int)
  rw [h] at h2
  refine ⟨by rw [Int.mul_comm l]; omega, Int.emod_nonneg _ (by omega), Int.emod_lt_of_pos _ (by omega)⟩

theorem getB_bitsR {L : Nat} (h1 : 1 ≤ L) (hL : L ≤ 1024) (to : List Ent) (l : Int) : ∀ (n : Nat), n ≤ to.length → ∀ i : Nat, i < L → (getB (bitsR (L : Int) to l n) i = true ↔ (∃ (k : Nat) (e : Ent), k < n ∧ to[k]? = some e ∧ 0 ≤ e.a ∧ e.a = l * L + i))
  | 0, _, i, _ => by rw [bitsR, getB_zero]; simp
  | n + 1, hn, i, hi => by
    have ih := getB_bitsR h1 hL to l n (by omega) i hi
    obtain ⟨e, he⟩ : ∃ e, to[n]? = some e := ⟨_, List.getElem?_eq_getElem (by omega)⟩
    rw [bitsR, List.getD_eq_getElem?_getD, he]
    simp only [Option.getD_some]
    by_cases hc : 0 ≤ e.a ∧ e.a / (L : Int) = l
    · rw [if_pos hc]
      obtain ⟨d1, d2, d3⟩ := div_line h1 hc.2
      obtain ⟨Z, hZ⟩ : ∃ Z : Nat, e.a % (L : Int) = Z := ⟨(e.a % (L : Int)).toNat, by omega⟩
      rw [hZ] at d1 d3 ⊢
      have hfit : 0 ≤ (Z : Int) ∧ (Z : Int) / 8 < (bitsR (L : Int) to l n).length := ⟨by omega, by rw [bitsR_length]; exact makeN_fits hL (by omega)⟩
      by_cases hij : i = Z
      · subst hij
        rw [getB_setL_same (bitsR_isB _ _ _ _) hfit]
        exact ⟨fun _ => ⟨n, e, by omega, he, hc.1, d1⟩, fun _ => rfl⟩
      · rw [getB_setL_other (bitsR_isB _ _ _ _) hfit true (show (i : Int) ≠ Z by omega), ih]
        refine ⟨fun ⟨k, f, q1, q2, q3, q4⟩ => ⟨k, f, by omega, q2, q3, q4⟩, fun ⟨k, f, q1, q2, q3, q4⟩ => ⟨k, f, ?_, q2, q3, q4⟩⟩
        by_cases hk : k = n
        · subst hk; rw [he] at q2; cases q2; omega
        · omega
    · rw [if_neg hc, ih]
      refine ⟨fun ⟨k, f, q1, q2, q3, q4⟩ => ⟨k, f, by omega, q2, q3, q4⟩, fun ⟨k, f, q1, q2, q3, q4⟩ => ⟨k, f, ?_, q2, q3, q4⟩⟩
      by_cases hk : k = n
      · subst hk
        rw [he] at q2
        cases q2
        refine absurd ⟨q3, ?_⟩ hc
        rw [q4, Int.add_comm, Int.mul_comm, Int.add_mul_ediv_left _ _ (by omega), Int.ediv_eq_zero_of_lt (by omega) (by omega)]
        omega
      · omega

/-- the bits behind the line are off -/
theorem getB_bitsR_out {L : Nat} (h1 : 1 ≤ L) (hL : L ≤ 1024) (to : List Ent) (l : Int) (i : Nat) (hi : ¬ i < L) : ∀ (n : Nat), n ≤ to.length → getB (bitsR (L : Int) to l n) i = false
  | 0, _ => by rw [bitsR, getB_zero]
  | n + 1, hn => by
    have ih := getB_bitsR_out h1 hL to l i hi n (by omega)
    rw [bitsR]
    split
    · rename_i hc
      obtain ⟨d1, d2, d3⟩ := div_line h1 hc.2
      obtain ⟨Z, hZ⟩ : ∃ Z : Nat, (to.getD n Ent.none).a % (L : Int) = Z := ⟨((to.getD n Ent.none).a % (L : Int)).toNat, by omega⟩
      rw [hZ] at d3 ⊢
      rw [getB_setL_other (bitsR_isB _ _ _ _) ⟨by omega, by rw [bitsR_length]; exact makeN_fits hL (by omega)⟩ true (show (i : Int) ≠ Z by omega)]
      exact ih
    · exact ih

/-- in whatever order the bits were turned on -/
theorem bits_same {L : Nat} (h1 : 1 ≤ L) (hL : L ≤ 1024) (to : List Ent) (l : Int) (hl : 0 ≤ l) : bitsF (L : Int) to l L = bitsR (L : Int) to l to.length := by
  refine bytes_ext (bitsF_isB _ _ _ _) (bitsR_isB _ _ _ _) (by rw [bitsF_length, bitsR_length]) fun i _ => ?_
  have h2 : 0 ≤ l * (L : Int) := Int.mul_nonneg hl (by omega)
  have h3 := getB_bitsF hL to l L (Nat.le_refl _) i
  by_cases hi : i < L
  · rw [Bool.eq_iff_iff, h3, getB_bitsR h1 hL to l _ (Nat.le_refl _) i hi]
    refine ⟨fun ⟨_, e, he, ha⟩ => ?_, fun ⟨k, e, _, he, _, ha⟩ => ⟨hi, e, List.mem_of_getElem? he, ha⟩⟩
    obtain ⟨k, hk⟩ := List.getElem?_of_mem he
    exact ⟨k, e, (List.getElem?_eq_some_iff.1 hk).1, hk, by omega, ha⟩
  · rw [getB_bitsR_out h1 hL to l i hi _ (Nat.le_refl _)]
    rw [Bool.eq_false_iff]
    exact fun h => hi (h3.1 h).1

/-- one bit more -/
theorem cntB_setL {xs : List Int} (hb : ∀ x ∈ xs, IsB x) {z : Nat} (hz : (z : Int) / 8 < xs.length) (hg : getB xs z = false) : ∀ K : Nat, cntB (setL xs z true) K = cntB xs K + (if z < K then 1 else 0)
  | 0 => by simp [cntB]
  | K + 1 => by
    have ih := cntB_setL hb hz hg K
    simp only [cntB]
    rw [ih]
    by_cases hk : K = z
    · subst hk
      rw [getB_setL_same hb ⟨by omega, hz⟩ true, hg, if_neg (show ¬ K < K by omega), if_pos (show K < K + 1 by omega)]
      simp
    · rw [getB_setL_other hb ⟨by omega, hz⟩ true (show (K : Int) ≠ z by omega)]
      by_cases h2 : z < K
      · rw [if_pos h2, if_pos (show z < K + 1 by omega)]; omega
      · rw [if_neg h2, if_neg (show ¬ z < K + 1 by omega)]; omega
theorem cntB_zero (M : Nat) : ∀ K : Nat, cntB (List.replicate M 0) K = 0
  | 0 => rfl
  | K + 1 => by simp only [cntB]; rw [cntB_zero M K, getB_zero]; simp

theorem cntB_bitsR {g : Geo} {L : Nat} (h1 : 1 ≤ L) (hL : L ≤ 1024) (to : List Ent) (hf : Fine g to) (l : Int) (hl : 0 ≤ l) : ∀ (n : Nat), n ≤ to.length → cntB (bitsR (L : Int) to l n) (8 * makeN (L : Int)) = (((to.take n).countP fun e => decide (0 ≤ e.a ∧ e.a / (L : Int) = l) : Nat) : Int)
  | 0, _ => by rw [bitsR, cntB_zero]; simp
  | n + 1, hn => by
    have ih := cntB_bitsR h1 hL to hf l hl n (by omega)
    obtain ⟨e, he⟩ : ∃ e, to[n]? = some e := ⟨_, List.getElem?_eq_getElem (by omega)⟩
    rw [bitsR, List.getD_eq_getElem?_getD, he, List.take_add_one, he, List.countP_append]
    simp only [Option.getD_some, Option.toList_some, List.countP_singleton]
    by_cases hc : 0 ≤ e.a ∧ e.a / (L : Int) = l
    · rw [if_pos hc, decide_eq_true hc]
      obtain ⟨d1, d2, d3⟩ := div_line h1 hc.2
      obtain ⟨Z, hZ⟩ : ∃ Z : Nat, e.a % (L : Int) = Z := ⟨(e.a % (L : Int)).toNat, by omega⟩
      rw [hZ] at d1 d3 ⊢
      have hfit := makeN_fits hL (i := Z) (by omega)
      have hoff : getB (bitsR (L : Int) to l n) Z = false := by
        rw [Bool.eq_false_iff]
        intro hq
        obtain ⟨k, f, q1, q2, q3, q4⟩ := (getB_bitsR h1 hL to l n (by omega) Z (by omega)).1 hq
        have := hf.one k n f e q2 he q3 (by omega)
        omega
      rw [cntB_setL (bitsR_isB _ _ _ _) (by rw [bitsR_length]; exact hfit) hoff, ih, if_pos (by omega)]
      simp
    · rw [if_neg hc, decide_eq_false hc, ih]
      simp

/-- how many bits of a line's bitmap are on -/
theorem count_bits {g : Geo} {L : Nat} (h1 : 1 ≤ L) (hL : L ≤ 1024) (to : List Ent) (hf : Fine g to) (l : Nat) : cntB (bitsR (L : Int) to l to.length) (8 * makeN (L : Int)) = (validN (L : Int) to l : Nat) := by
  rw [cntB_bitsR h1 hL to hf l (by omega) _ (Nat.le_refl _), List.take_length]
  rfl

end Go.Proofs.Ytlkapaecaeldpaa
