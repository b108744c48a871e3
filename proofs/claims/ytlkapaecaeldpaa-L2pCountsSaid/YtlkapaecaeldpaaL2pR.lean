/-
  Package l2p: the plain laws of L2pCounts.
-/
import Derived.Test.YtlkapaecaeldpaaLaw11g
set_option linter.unusedVariables false
set_option linter.unusedSimpArgs false
set_option maxRecDepth 16384
namespace Go.Proofs.Ytlkapaecaeldpaa
open Go.RowKit

/-- who is nowhere has the first entry -/
def Unset (to : List Ent) : Prop := ∀ e ∈ to, e.a < 0 → e = Ent.none

theorem Unset.new (n : Nat) : Unset (List.replicate n Ent.none) := fun e he _ => (List.mem_replicate.1 he).2
theorem Unset.set {to : List Ent} (h : Unset to) (i : Nat) {e : Ent} (he : 0 ≤ e.a) : Unset (to.set i e) := fun f hf h0 => by
  rcases List.mem_or_eq_of_mem_set hf with h1 | rfl
  · exact h f h1 h0
  · omega
theorem Unset.setTo {g : Geo} {to : List Ent} (h : Unset to) (lba : Int) (e : Ent) : Unset (setTo g to lba e).2.2 := by
  unfold Go.Proofs.Ytlkapaecaeldpaa.setTo
  split
  · split
    · rename_i h1
      split
      · exact h
      · split
        · exact h
        · exact h.set _ h1.1.1
    · exact h
  · exact h
theorem Unset.moveTo {g : Geo} {to : List Ent} (h : Unset to) (lba f t : Int) : Unset (moveTo g to lba f t).2.2 := by
  unfold Go.Proofs.Ytlkapaecaeldpaa.moveTo
  split
  · split
    · rename_i h1
      split
      · exact h
      · split
        · exact h
        · exact h.set _ h1.1
    · exact h
  · exact h
theorem Unset.doesTo {g : Geo} {to : List Ent} (h : Unset to) (o : OpV) : Unset (doesTo g to o) := by
  unfold Go.Proofs.Ytlkapaecaeldpaa.doesTo
  split
  · exact h.setTo _ _
  · split
    · exact h.moveTo _ _ _
    · exact h

theorem lineBits_right {g : Geo} {to : List Ent} (hok : g.okB = true) {l : Int} (hl : 0 ≤ l ∧ l < g.blocks) : rightB (lineBits g to l) g.line = true := by
  obtain ⟨L, hL, h1, h2⟩ := Geo.line_nat hok
  unfold lineBits rightB
  rw [if_pos hl, hL, decide_eq_true_eq, bitsR_length]
  refine ⟨by omega, by omega, ?_, ?_⟩
  · unfold makeN; rw [if_pos (by omega)]; omega
  · rw [nextI_none (by omega) (by rw [bitsR_length])]
    intro j hj _
    obtain ⟨k, rfl⟩ : ∃ k : Nat, j = k := ⟨j.toNat, by omega⟩
    exact getB_bitsR_out h1 h2 to l k (by omega) _ (Nat.le_refl _)

theorem lineBits_count {g : Geo} {to : List Ent} (hok : g.okB = true) (hf : Fine g to) (l : Int) : cntB (lineBits g to l) (8 * (lineBits g to l).length) = lineValid g to l := by
  unfold lineBits lineValid
  by_cases hl : 0 ≤ l ∧ l < g.blocks
  · rw [if_pos hl, if_pos hl, bitsR_length]
    obtain ⟨L, hL, hL1, hL2⟩ := Geo.line_nat hok
    obtain ⟨ln, rfl⟩ : ∃ ln : Nat, l = ln := ⟨l.toNat, by omega⟩
    rw [hL]
    exact count_bits hL1 hL2 to hf ln
  · rw [if_neg hl, if_neg hl]; rfl

/-- a sector's bit is on -/
theorem lineBits_on {g : Geo} {to : List Ent} (hok : g.okB = true) (hf : Fine g to) {i : Nat} {e : Ent} (he : to[i]? = some e) (h0 : 0 ≤ e.a) : getB (lineBits g to (e.a / g.line)) (e.a % g.line) = true := by
  obtain ⟨L, hL, h1, h2⟩ := Geo.line_nat hok
  have hA : e.a < g.all := by have := hf.in_ e (List.mem_of_getElem? he); omega
  have hal := Geo.addr_line hok h0 hA
  unfold lineBits
  rw [if_pos ⟨hal.2.2.1, hal.2.2.2⟩, hL]
  obtain ⟨d1, d2, d3⟩ := div_line h1 (rfl : e.a / (L : Int) = e.a / L)
  obtain ⟨Z, hZ⟩ : ∃ Z : Nat, e.a % (L : Int) = Z := ⟨(e.a % (L : Int)).toNat, by omega⟩
  rw [hZ]
  refine (getB_bitsR h1 h2 to _ _ (Nat.le_refl _) Z (by omega)).2 ⟨i, e, (List.getElem?_eq_some_iff.1 he).1, he, h0, by omega⟩

theorem live_of {g : Geo} {to : List Ent} (hf : Fine g to) {i : Nat} {e : Ent} (he : to[i]? = some e) (h0 : 0 ≤ e.a) : liveN g to e.a = i ∧ liveB g to e.a = true := by
  have hA : e.a < g.all := by have := hf.in_ e (List.mem_of_getElem? he); omega
  have hw := whoIx_some hf he h0
  unfold liveN liveB
  rw [hw, if_pos ⟨⟨h0, hA⟩, by omega⟩, decide_eq_true ⟨⟨h0, hA⟩, by omega⟩]
  exact ⟨by omega, rfl⟩

end Go.Proofs.Ytlkapaecaeldpaa
