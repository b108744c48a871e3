/-
  Package strakeref11: what a store into the list of entries leaves; addr.
-/
import Derived.Test.YtlkapaecaeldpaaRef11c
set_option linter.unusedVariables false
set_option linter.unusedSimpArgs false
set_option maxRecDepth 16384
namespace Go.Proofs.Ytlkapaecaeldpaa
open Go.RowKit

theorem entC_set {to : List Ent} {i : Nat} (hi : i < to.length) (e : Ent) : entC (to.set i e) = (((entC to).set (i * 3) (.int .i64 e.a)).set (i * 3 + 1) (.int .i64 e.s)).set (i * 3 + 2) (.int .i64 e.k) := by
  refine List.ext_getElem? fun x => ?_
  by_cases hx : x < to.length * 3
  · obtain ⟨i', j, hj, rfl⟩ : ∃ i' j, j < 3 ∧ x = i' * 3 + j := ⟨x / 3, x % 3, by omega, by omega⟩
    obtain ⟨f, hf⟩ : ∃ f, to[i']? = some f := ⟨_, List.getElem?_eq_getElem (by omega)⟩
    have h1 := entC_get hf j hj
    by_cases hii : i' = i
    · subst hii
      have h2 : (to.set i' e)[i']? = some e := by rw [List.getElem?_set, if_pos rfl, if_pos hi]
      rw [entC_get h2 j hj]
      have hl := entC_length to
      rcases (show j = 0 ∨ j = 1 ∨ j = 2 by omega) with rfl | rfl | rfl
      · rw [List.getElem?_set, if_neg (by omega), List.getElem?_set, if_neg (by omega), List.getElem?_set, if_pos (by omega), if_pos (by omega)]; rfl
      · rw [List.getElem?_set, if_neg (by omega), List.getElem?_set, if_pos (by omega), if_pos (by rw [List.length_set]; omega)]; rfl
      · rw [List.getElem?_set, if_pos (by omega), if_pos (by rw [List.length_set, List.length_set]; omega)]; rfl
    · have h2 : (to.set i e)[i']? = some f := by rw [List.getElem?_set, if_neg (fun h => hii h.symm)]; exact hf
      rw [entC_get h2 j hj, List.getElem?_set, if_neg (by omega), List.getElem?_set, if_neg (by omega), List.getElem?_set, if_neg (by omega), h1]
  · have hl := entC_length to
    have hl2 := entC_length (to.set i e)
    rw [List.length_set] at hl2
    rw [List.getElem?_eq_none (by omega), List.getElem?_eq_none (by rw [List.length_set, List.length_set, List.length_set]; omega)]

theorem RefAt.set {w : World} {B r : Nat} {g : Geo} {to : List Ent} {b cap : Nat} (h : RefAt w B r g to (.slice (some ⟨b, 0, none⟩) to.length cap)) {i : Nat} (hi : i < to.length) (e : Ent) :
    RefAt (((w.setCell ⟨b, i * 3, none⟩ (.int .i64 e.a)).setCell ⟨b, i * 3 + 1, none⟩ (.int .i64 e.s)).setCell ⟨b, i * 3 + 2, none⟩ (.int .i64 e.k)) B r g (to.set i e) (.slice (some ⟨b, 0, none⟩) to.length cap) := by
  obtain ⟨hl, hrow⟩ := h.row
  rcases hrow with ⟨_, h0⟩ | ⟨b', cap', cur, h1, h2, h3, h4, h5, h6, h7⟩
  · omega
  · injection h1 with q1 q2 q3
    injection q1 with q1
    injection q1 with q4
    subst q4 q3
    have hk : Blk w b 32 cur.toList := by unfold Blk; rw [Array.toArray_toList]; exact h3
    have hk2 := ((hk.set (i * 3) (.int .i64 e.a)).set (i * 3 + 1) (.int .i64 e.s)).set (i * 3 + 2) (.int .i64 e.k)
    have hne : r ≠ b := by omega
    refine ⟨((h.blk.set_other (a := ⟨b, i * 3, none⟩) hne _).set_other (a := ⟨b, i * 3 + 1, none⟩) hne _).set_other (a := ⟨b, i * 3 + 2, none⟩) hne _, ?_, h.base⟩
    rw [List.length_set]
    refine ⟨by rw [entC_length, List.length_set], .inr ⟨b, cap, _, rfl, h2, hk2, h4, h5, ?_, ?_⟩⟩
    · simp only [List.size_toArray, List.length_set, Array.length_toList]; exact h6
    · rw [entC_set hi e, ← h7]
      simp only [List.take_set]

/-- what the document says of an address -/
def raddr (g : Geo) (to : List Ent) (lba a : Int) : Int := if 0 ≤ a ∧ a < g.all then (if whoIx to a ≠ 0 ∧ (whoIx to a : Int) ≠ lba + 1 then 13 else 0) else 1

set_option maxHeartbeats 1000000 in
theorem ref11Addr_any {w : World} {B r : Nat} {g : Geo} {to : List Ent} {v : Value} (HM : RefAt w B r g to v) (hok : g.okB = true) (hf : Fine g to) (hlen : to.length ≤ 4096) (lba a : Int) :
    Calls Try.prog 113 #[.pointer (some ⟨r, 0, none⟩), .int .i64 lba, .int .i64 a] w fun e w' => e = .returned (.int .i64 (raddr g to lba a)) ∧ Below w.heap.size w w' := by
  have HRD : Hid (raddr g to lba a = if 0 ≤ a ∧ a < g.all then (if whoIx to a ≠ 0 ∧ (whoIx to a : Int) ≠ lba + 1 then 13 else 0) else 1) := Lib.hid rfl
  have HA : Hid (∀ wy, Calls Try.prog 108 #[g.v] wy fun e w' => e = .returned (.int .i64 g.all) ∧ Below wy.heap.size wy w') := by
    intro wy
    have := ref03All_any g wy
    unfold Geo.allI at this
    rwa [if_pos hok] at this
  have HLN : Hid (rliveN to a = if 0 ≤ a ∧ whoIx to a ≠ 0 then (whoIx to a : Int) - 1 else 0) := Lib.hid rfl
  have HLB : Hid (rliveB to a = decide (0 ≤ a ∧ whoIx to a ≠ 0)) := Lib.hid rfl
  have HRM := Lib.hid HM
  have HF := Lib.hid hf
  have hR := HM.blk
  obtain ⟨A, hAA⟩ : ∃ A, g.all = A := ⟨_, rfl⟩
  rw [hAA] at HA HRD
  clear HM hf hAA hok
  have hrl := hR.lt
  obtain ⟨c, l, b, p, s⟩ := g
  have k0 : w.cell? ⟨r, 0, none⟩ = some (.int .i64 c) := hR.cell 0
  have k1 : w.cell? ⟨r, 1, none⟩ = some (.int .i64 l) := hR.cell 1
  have k2 : w.cell? ⟨r, 2, none⟩ = some (.int .i64 b) := hR.cell 2
  have k3 : w.cell? ⟨r, 3, none⟩ = some (.int .i64 p) := hR.cell 3
  have k4 : w.cell? ⟨r, 4, none⟩ = some (.int .i64 s) := hR.cell 4
  unfold Geo.v at HA
  clear hR
  go_enter Try.func113, Try.ntmps113
  by_cases h0 : a < 0
  · go_wp2_with fail
    go_ret
    exact ⟨ret_int (by rw [HRD.out, if_neg (by omega)]), Below.refl _ _⟩
  (go_wp2_with fail); refine (HA.out _).mono ?_
  rintro e w1 ⟨rfl, hb⟩
  have HR1 := Lib.hid (HRM.out.below hb)
  have HB1 := Lib.hid hb
  clear hb
  by_cases h9 : A ≤ a
  · go_wp2_with fail
    go_ret
    exact ⟨ret_int (by rw [HRD.out, if_neg (by omega)]), HB1.out⟩
  (go_wp2_with fail); refine (ref11Live_any HR1.out HF.out hlen a).mono ?_
  rintro e w2 ⟨rfl, rfl⟩
  rw [HLN.out, HLB.out]
  by_cases hw : whoIx to a = 0
  · rw [if_neg (fun h => h.2 hw), decide_eq_false (fun h => h.2 hw)]
    go_wp2_with fail
    go_ret
    exact ⟨ret_int (by rw [HRD.out, if_pos ⟨by omega, by omega⟩, if_neg (fun h => h.1 hw)]), HB1.out⟩
  · rw [if_pos ⟨by omega, hw⟩, decide_eq_true ⟨by omega, hw⟩]
    obtain ⟨W, hW⟩ : ∃ W : Int, (whoIx to a : Int) - 1 = W := ⟨_, rfl⟩
    rw [hW]
    by_cases hl : W = lba
    · have hb : (W != lba) = false := by simp [hl]
      have HE : Hid (¬ (whoIx to a ≠ 0 ∧ (whoIx to a : Int) ≠ lba + 1)) := fun h => h.2 (by omega)
      clear hW hl
      go_wp2_with fail
      go_ret
      exact ⟨ret_int (by rw [HRD.out, if_pos ⟨by omega, by omega⟩, if_neg HE.out]), HB1.out⟩
    · have hb : (W != lba) = true := by simp [hl]
      have HE : Hid (whoIx to a ≠ 0 ∧ (whoIx to a : Int) ≠ lba + 1) := ⟨hw, by omega⟩
      clear hW hl
      go_wp2_with fail
      go_ret
      exact ⟨ret_int (by rw [HRD.out, if_pos ⟨by omega, by omega⟩, if_pos HE.out]), HB1.out⟩

end Go.Proofs.Ytlkapaecaeldpaa
