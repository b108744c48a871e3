/-
  Package l2p: what a store into a map's cells leaves.
-/
import Derived.Test.YtlkapaecaeldpaaL2pD
set_option linter.unusedVariables false
set_option linter.unusedSimpArgs false
set_option maxRecDepth 16384
namespace Go.Proofs.Ytlkapaecaeldpaa
open Go.RowKit

theorem KeptAt.set {w : World} {k : Nat} {tk : TypeId} {sz : Nat} {s : Shards} {n : Nat} {f : Nat → Nat → Value} (h : KeptAt w k tk sz s n f) {i j : Nat} (hi : i < n) (hj : j < sz) (u : Value) :
    KeptAt (w.setCell ⟨s.b (i % 4), i / 4 * sz + j, none⟩ u) k tk sz s n (fun i' j' => if i' = i ∧ j' = j then u else f i' j') := by
  refine ⟨h.blk.set_other (fun e => h.other i hi e.symm) u, fun i' j' hi' hj' => ?_, h.apart, h.other⟩
  have := (h.at_ i' j' hi' hj').set (b2 := s.b (i % 4)) (o2 := i / 4 * sz + j) u
  have hiff : (s.b (i' % 4) = s.b (i % 4) ∧ i' / 4 * sz + j' = i / 4 * sz + j) ↔ (i' = i ∧ j' = j) := by
    refine ⟨fun ⟨h1, h2⟩ => ?_, fun ⟨h1, h2⟩ => by rw [h1, h2]; exact ⟨rfl, rfl⟩⟩
    have hm : i' % 4 = i % 4 := by
      by_cases e : i' % 4 = i % 4
      · exact e
      · exact absurd h1 (h.apart i' i hi' hi e)
    have hd : i' / 4 = i / 4 := by
      have e1 : (i' / 4 * sz + j') / sz = i' / 4 := by rw [Nat.mul_comm, Nat.mul_add_div (by omega), Nat.div_eq_of_lt hj']; rfl
      have e2 : (i / 4 * sz + j) / sz = i / 4 := by rw [Nat.mul_comm, Nat.mul_add_div (by omega), Nat.div_eq_of_lt hj]; rfl
      rw [← e1, ← e2, h2]
    exact ⟨by omega, by rw [hd] at h2; omega⟩
  simp only [hiff] at this
  exact this

theorem KeptAt.set_other {w : World} {k : Nat} {tk : TypeId} {sz : Nat} {s : Shards} {n : Nat} {f : Nat → Nat → Value} (h : KeptAt w k tk sz s n f) {b o : Nat} (hk : k ≠ b) (hs : ∀ i, i < n → s.b (i % 4) ≠ b) (u : Value) :
    KeptAt (w.setCell ⟨b, o, none⟩ u) k tk sz s n f := by
  refine ⟨h.blk.set_other hk u, fun i j hi hj => ?_, h.apart, h.other⟩
  have := (h.at_ i j hi hj).set (b2 := b) (o2 := o) u
  rwa [if_neg (fun e => hs i hi e.1)] at this

theorem KeptAt.only {w w' : World} {k : Nat} {tk : TypeId} {sz : Nat} {s : Shards} {n B C B' C' : Nat} {f : Nat → Nat → Value} (h : KeptAt w k tk sz s n f) (ho : Only B' C' w w') (hk : B ≤ k ∧ k < C) (hs : ∀ i, i < n → B ≤ s.b (i % 4) ∧ s.b (i % 4) < C) (hd : C ≤ B' ∨ C' ≤ B) :
    KeptAt w' k tk sz s n f :=
  ⟨h.blk.only ho (by omega), fun i j hi hj => (h.at_ i j hi hj).only ho (by have := hs i hi; omega), h.apart, h.other⟩

section
variable {w w' : World} {B C m : Nat} {g : Geo} {N A kt kw vb : Nat} {st sw : Shards} {fT : Nat → Nat → Value} {fW fV : Nat → Value}

theorem MapRaw.below (h : MapRaw w B C m g N A kt kw vb st sw fT fW fV) (hb : Below w.heap.size w w') : MapRaw w' B C m g N A kt kw vb st sw fT fW fV :=
  ⟨h.blk.below hb, h.tos.below hb, h.whos.below hb, fun l hl => (h.vals l hl).below hb, h.inM, h.inT, h.inW, h.inV, h.inSt, h.inSw, Nat.le_trans h.top hb.size, h.stO, h.swO, h.stw, h.vbO⟩

theorem MapRaw.only {B' C' : Nat} (h : MapRaw w B C m g N A kt kw vb st sw fT fW fV) (ho : Only B' C' w w') (hd : C ≤ B' ∨ C' ≤ B) : MapRaw w' B C m g N A kt kw vb st sw fT fW fV :=
  ⟨h.blk.only ho (by have := h.inM; omega), h.tos.only ho h.inT h.inSt hd, h.whos.only ho h.inW h.inSw hd, fun l hl => (h.vals l hl).only ho (by have := h.inV; omega), h.inM, h.inT, h.inW, h.inV, h.inSt, h.inSw, Nat.le_trans h.top ho.size, h.stO, h.swO, h.stw, h.vbO⟩

theorem MapRaw.setT (h : MapRaw w B C m g N A kt kw vb st sw fT fW fV) {i j : Nat} (hi : i < N) (hj : j < 3) (u : Value) :
    MapRaw (w.setCell ⟨st.b (i % 4), i / 4 * 3 + j, none⟩ u) B C m g N A kt kw vb st sw (fun i' j' => if i' = i ∧ j' = j then u else fT i' j') fW fV := by
  have ho := h.stO i hi
  refine ⟨h.blk.set_other (fun e => ho.1 e.symm) u, h.tos.set hi hj u, h.whos.set_other (fun e => ho.2.1 e.symm) (fun a ha e => h.stw i a hi ha e.symm) u, fun l hl => ?_, h.inM, h.inT, h.inW, h.inV, h.inSt, h.inSw, by simpa using h.top, h.stO, h.swO, h.stw, h.vbO⟩
  have := (h.vals l hl).set (b2 := st.b (i % 4)) (o2 := i / 4 * 3 + j) u
  rwa [if_neg (fun e => ho.2.2 e.1.symm)] at this

theorem MapRaw.setW (h : MapRaw w B C m g N A kt kw vb st sw fT fW fV) {a : Nat} (ha : a < A) (u : Value) :
    MapRaw (w.setCell ⟨sw.b (a % 4), a / 4, none⟩ u) B C m g N A kt kw vb st sw fT (fun a' => if a' = a then u else fW a') fV := by
  have ho := h.swO a ha
  have h2 := h.whos.set (i := a) (j := 0) ha (by decide) u
  rw [Nat.mul_one, Nat.add_zero] at h2
  refine ⟨h.blk.set_other (fun e => ho.1 e.symm) u, h.tos.set_other (fun e => ho.2.1 e.symm) (fun i hi => h.stw i a hi ha) u, ⟨h2.blk, fun i j hi hj => ?_, h2.apart, h2.other⟩, fun l hl => ?_, h.inM, h.inT, h.inW, h.inV, h.inSt, h.inSw, by simpa using h.top, h.stO, h.swO, h.stw, h.vbO⟩
  · have := h2.at_ i j hi hj
    obtain rfl : j = 0 := by omega
    simpa using this
  · have := (h.vals l hl).set (b2 := sw.b (a % 4)) (o2 := a / 4) u
    rwa [if_neg (fun e => ho.2.2 e.1.symm)] at this

theorem MapRaw.setV (h : MapRaw w B C m g N A kt kw vb st sw fT fW fV) {l : Nat} (hl : l < g.blocks.toNat) (u : Value) :
    MapRaw (w.setCell ⟨vb, l, none⟩ u) B C m g N A kt kw vb st sw fT fW (fun l' => if l' = l then u else fV l') := by
  have ho := h.vbO
  refine ⟨h.blk.set_other (fun e => ho.1 e.symm) u, h.tos.set_other (fun e => ho.2.1 e.symm) (fun i hi => (h.stO i hi).2.2) u, h.whos.set_other (fun e => ho.2.2 e.symm) (fun i hi => (h.swO i hi).2.2) u, fun l' hl' => ?_, h.inM, h.inT, h.inW, h.inV, h.inSt, h.inSw, by simpa using h.top, h.stO, h.swO, h.stw, h.vbO⟩
  have := (h.vals l' hl').set (b2 := vb) (o2 := l) u
  simpa using this

theorem MapRaw.funs {fT' : Nat → Nat → Value} {fW' fV' : Nat → Value} (h : MapRaw w B C m g N A kt kw vb st sw fT fW fV) (h1 : ∀ i j, i < N → j < 3 → fT' i j = fT i j) (h2 : ∀ a, a < A → fW' a = fW a) (h3 : ∀ l, l < g.blocks.toNat → fV' l = fV l) : MapRaw w B C m g N A kt kw vb st sw fT' fW' fV' :=
  ⟨h.blk, ⟨h.tos.blk, fun i j hi hj => by rw [h1 i j hi hj]; exact h.tos.at_ i j hi hj, h.tos.apart, h.tos.other⟩, ⟨h.whos.blk, fun i j hi hj => by rw [h2 i hi]; exact h.whos.at_ i j hi hj, h.whos.apart, h.whos.other⟩,
    fun l hl => by rw [h3 l hl]; exact h.vals l hl, h.inM, h.inT, h.inW, h.inV, h.inSt, h.inSw, h.top, h.stO, h.swO, h.stw, h.vbO⟩

/-- what a store into the map may change -/
theorem MapRaw.onlyT {w0 : World} (h : MapRaw w B C m g N A kt kw vb st sw fT fW fV) (ho : Only B C w0 w) {i : Nat} (hi : i < N) (o : Nat) (u : Value) : Only B C w0 (w.setCell ⟨st.b (i % 4), o, none⟩ u) := ho.setCell (h.inSt i hi) u
theorem MapRaw.onlyW {w0 : World} (h : MapRaw w B C m g N A kt kw vb st sw fT fW fV) (ho : Only B C w0 w) {a : Nat} (ha : a < A) (o : Nat) (u : Value) : Only B C w0 (w.setCell ⟨sw.b (a % 4), o, none⟩ u) := ho.setCell (h.inSw a ha) u
theorem MapRaw.onlyV {w0 : World} (h : MapRaw w B C m g N A kt kw vb st sw fT fW fV) (ho : Only B C w0 w) (l : Nat) (u : Value) : Only B C w0 (w.setCell ⟨vb, l, none⟩ u) := ho.setCell h.inV u
end

theorem MapAt.below {w w' : World} {B C m : Nat} {g : Geo} {to : List Ent} {kt kw vb : Nat} {st sw : Shards} (h : MapAt w B C m g to kt kw vb st sw) (hb : Below w.heap.size w w') : MapAt w' B C m g to kt kw vb st sw := ⟨h.raw.below hb, h.len, h.ok, h.fine⟩
theorem MapAt.only {w w' : World} {B C B' C' m : Nat} {g : Geo} {to : List Ent} {kt kw vb : Nat} {st sw : Shards} (h : MapAt w B C m g to kt kw vb st sw) (ho : Only B' C' w w') (hd : C ≤ B' ∨ C' ≤ B) : MapAt w' B C m g to kt kw vb st sw := ⟨h.raw.only ho hd, h.len, h.ok, h.fine⟩

end Go.Proofs.Ytlkapaecaeldpaa
