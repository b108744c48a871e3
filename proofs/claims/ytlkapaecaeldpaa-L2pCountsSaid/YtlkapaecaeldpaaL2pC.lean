/-
  Package l2p: what grown makes is shards.
-/
import Derived.Test.YtlkapaecaeldpaaL2pB
set_option linter.unusedVariables false
set_option linter.unusedSimpArgs false
set_option maxRecDepth 16384
namespace Go.Proofs.Ytlkapaecaeldpaa
open Go.RowKit

theorem flat_get {one : List Value} {sz : Nat} (hl : one.length = sz) {j : Nat} (hj : j < sz) : ∀ (m p : Nat), p < m → (List.replicate m one).flatten[p * sz + j]? = one[j]?
  | 0, p, h => by omega
  | m + 1, p, h => by
    rw [List.replicate_succ, List.flatten_cons]
    cases p with
    | zero => rw [Nat.zero_mul, Nat.zero_add, List.getElem?_append_left (by omega)]
    | succ p =>
      rw [List.getElem?_append_right (by rw [hl, Nat.add_mul]; omega), hl, show (p + 1) * sz + j - sz = p * sz + j by rw [Nat.add_mul]; omega]
      exact flat_get hl hj m p (by omega)

theorem Grows.kept {w : World} {k : Nat} {tk te : TypeId} {sz base n : Nat} {one : List Value} {v : Nat → Value} (h : Grows w k tk te sz base n one v) (hl : one.length = sz) (hb : k < base) :
    ∃ s : Shards, KeptAt w k tk sz s n (fun _ j => one.getD j undef) ∧ ∀ i, i < n → base ≤ s.b (i % 4) ∧ s.b (i % 4) < w.heap.size := by
  have hv : ∀ q, q < 4 → 0 < cnt4 n q → ∃ g cap cur, v q = .slice (some ⟨g, 0, none⟩) (cnt4 n q) cap ∧ base ≤ g ∧ w.heap[g]? = some (.cells cur te (0, 0)) ∧ cur.toList.take (cnt4 n q * sz) = (List.replicate (cnt4 n q) one).flatten := by
    intro q hq hc
    rcases (h.own q hq).2 with ⟨_, h0⟩ | ⟨g, cap, cur, h1, h2, h3, h4, h5, h6, h7⟩
    · omega
    · exact ⟨g, cap, cur, h1, h2, h3, h7⟩
  refine ⟨⟨fun q => ((v q).ownBlock).getD 0, fun q => match v q with | .slice _ _ c => c | _ => 0⟩, ⟨?_, ?_, ?_, ?_⟩, ?_⟩
  · have : ∀ q, q < 4 → Shards.v ⟨fun q => ((v q).ownBlock).getD 0, fun q => match v q with | .slice _ _ c => c | _ => 0⟩ n q = v q := by
      intro q hq
      unfold Shards.v
      by_cases h0 : cnt4 n q = 0
      · rw [if_pos h0, h.nil q hq h0]
      · obtain ⟨g, cap, cur, h1, _⟩ := hv q hq (by omega)
        rw [if_neg h0]
        simp only [h1, Value.ownBlock, Option.getD_some]
    rw [this 0 (by decide), this 1 (by decide), this 2 (by decide), this 3 (by decide)]
    exact h.blk
  · intro i j hi hj
    obtain ⟨g, cap, cur, h1, h2, h3, h7⟩ := hv (i % 4) (by omega) (by have := cnt4_pos hi; omega)
    simp only [h1, Value.ownBlock, Option.getD_some]
    have hx := flat_get hl hj (cnt4 n (i % 4)) (i / 4) (cnt4_pos hi)
    rw [← h7, List.getElem?_take] at hx
    have hlt : i / 4 * sz + j < cnt4 n (i % 4) * sz := by
      have := Nat.mul_le_mul_right sz (Nat.succ_le_of_lt (cnt4_pos hi))
      rw [Nat.succ_mul] at this
      omega
    rw [if_pos hlt] at hx
    refine ⟨?_, ?_⟩
    · simp only [World.cell?, h3]
      rw [List.getD_eq_getElem?_getD, List.getElem?_eq_getElem (by omega : j < one.length)] at *
      simpa using hx
    · simp [World.frozen?, h3]
  · intro i i' hi hi' hne
    obtain ⟨g, cap, cur, h1, h2, h3, h7⟩ := hv (i % 4) (by omega) (by have := cnt4_pos hi; omega)
    obtain ⟨g', cap', cur', h1', h2', h3', h7'⟩ := hv (i' % 4) (by omega) (by have := cnt4_pos hi'; omega)
    have := h.apart (i % 4) (i' % 4) (by omega) (by omega) hne
    simp only [h1, h1', Value.ownBlock, Option.getD_some] at this ⊢
    rcases this with h | h
    · cases h
    · exact fun e => h (by rw [e])
  · intro i hi
    obtain ⟨g, cap, cur, h1, h2, h3, h7⟩ := hv (i % 4) (by omega) (by have := cnt4_pos hi; omega)
    simp only [h1, Value.ownBlock, Option.getD_some]
    omega
  · intro i hi
    obtain ⟨g, cap, cur, h1, h2, h3, h7⟩ := hv (i % 4) (by omega) (by have := cnt4_pos hi; omega)
    simp only [h1, Value.ownBlock, Option.getD_some]
    exact ⟨h2, (Array.getElem?_eq_some_iff.1 h3).1⟩

end Go.Proofs.Ytlkapaecaeldpaa
