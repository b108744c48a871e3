/-
  Package l2p: shards (kept), and at.
-/
import Derived.Test.YtlkapaecaeldpaaRegT
import Derived.Test.YtlkapaecaeldpaaGeom
set_option linter.unusedVariables false
set_option linter.unusedSimpArgs false
set_option maxRecDepth 16384
namespace Go.Proofs.Ytlkapaecaeldpaa
open Go.RowKit

/-- a cell that may be written -/
def At (w : World) (b o : Nat) (v : Value) : Prop := w.cell? ⟨b, o, none⟩ = some v ∧ w.frozen? ⟨b, o, none⟩ = false

/-- only blocks from B to C have changed -/
structure Only (B C : Nat) (w w' : World) : Prop where
  os : w'.os = w.os
  tape : w'.tape = w.tape
  output : w'.output = w.output
  size : w.heap.size ≤ w'.heap.size
  block : ∀ k, k < w.heap.size → (k < B ∨ C ≤ k) → w'.heap[k]? = w.heap[k]?

theorem Only.refl (B C : Nat) (w : World) : Only B C w w := ⟨rfl, rfl, rfl, Nat.le_refl _, fun _ _ _ => rfl⟩
theorem Only.trans {B C : Nat} {a b c : World} (h : Only B C a b) (k : Only B C b c) : Only B C a c :=
  ⟨k.os.trans h.os, k.tape.trans h.tape, k.output.trans h.output, Nat.le_trans h.size k.size, fun i hi hc => (k.block i (Nat.lt_of_lt_of_le hi h.size) hc).trans (h.block i hi hc)⟩
theorem Only.of_below {B C : Nat} {w w' : World} (h : Below w.heap.size w w') : Only B C w w' := ⟨h.os, h.tape, h.output, h.size, fun k hk _ => h.block k hk⟩
theorem Only.below {B C D : Nat} {w w' : World} (h : Only B C w w') (hD : D ≤ B) (hs : D ≤ w.heap.size) : Below D w w' :=
  ⟨h.os, h.tape, h.output, h.size, fun k hk => h.block k (by omega) (.inl (by omega))⟩
theorem Only.setCell {B C : Nat} {a w : World} (h : Only B C a w) {p : Addr} (hp : B ≤ p.block ∧ p.block < C) (u : Value) : Only B C a (w.setCell p u) := by
  refine h.trans ⟨rfl, rfl, rfl, by simp, fun k hk hc => Below.heap_setCell _ _ _ _ (by omega)⟩
theorem Only.drew {B C : Nat} {a w : World} (h : Only B C a w) : Only B C a w.drew := ⟨h.os, h.tape, h.output, h.size, h.block⟩
theorem Only.step {B C : Nat} {a w w' : World} (h : Only B C a w) (hb : Below w.heap.size w w') : Only B C a w' := h.trans (.of_below hb)
theorem Blk.only {w w' : World} {g B C : Nat} {t : TypeId} {xs : List Value} (h : Blk w g t xs) (ho : Only B C w w') (hg : g < B ∨ C ≤ g) : Blk w' g t xs := (ho.block g h.lt hg).trans h

theorem At.lt {w : World} {b o : Nat} {v : Value} (h : At w b o v) : b < w.heap.size := World.block_lt_of_cell? w ⟨b, o, none⟩ h.1
theorem At.only {w w' : World} {b o B C : Nat} {v : Value} (h : At w b o v) (ho : Only B C w w') (hg : b < B ∨ C ≤ b) : At w' b o v :=
  ⟨(World.cell?_of_block (a := ⟨b, o, none⟩) (ho.block b h.lt hg)).trans h.1, (World.frozen?_of_block (a := ⟨b, o, none⟩) (ho.block b h.lt hg)).trans h.2⟩
theorem At.below {w w' : World} {b o : Nat} {v : Value} (h : At w b o v) (hb : Below w.heap.size w w') : At w' b o v :=
  ⟨(World.cell?_of_block (a := ⟨b, o, none⟩) (hb.block b h.lt)).trans h.1, (World.frozen?_of_block (a := ⟨b, o, none⟩) (hb.block b h.lt)).trans h.2⟩
theorem At.set {w : World} {b o b2 o2 : Nat} {v : Value} (h : At w b o v) (u : Value) : At (w.setCell ⟨b2, o2, none⟩ u) b o (if b = b2 ∧ o = o2 then u else v) := by
  refine ⟨?_, by rw [World.frozen?_setCell]; exact h.2⟩
  by_cases he : b = b2 ∧ o = o2
  · obtain ⟨rfl, rfl⟩ := he
    rw [if_pos ⟨rfl, rfl⟩]
    exact World.cell?_setCell_same w _ _ h.1
  · rw [if_neg he, World.cell?_setCell_other w _ _ _ (fun e => he (by injection e with e1 e2; exact ⟨e1.symm, e2.symm⟩))]
    exact h.1

/-- how many of the first n numbers are q by 4 -/
def cnt4 (n q : Nat) : Nat := (n + 3 - q) / 4
theorem cnt4_pos {n i : Nat} (h : i < n) : i / 4 < cnt4 n (i % 4) := by unfold cnt4; omega
theorem cnt4_zero (q : Nat) (h : q < 4) : cnt4 0 q = 0 := by unfold cnt4; omega
theorem cnt4_step {n q : Nat} (h : q < 4) : cnt4 (n + 1) q = if q = n % 4 then cnt4 n q + 1 else cnt4 n q := by unfold cnt4; split <;> omega
theorem cnt4_self (n : Nat) : cnt4 n (n % 4) = n / 4 := by unfold cnt4; omega
theorem cnt4_le (n q : Nat) (h : q < 4) : cnt4 n q ≤ n := by unfold cnt4; omega

/-- the shards' blocks, and how much room each has -/
structure Shards where
  b : Nat → Nat
  c : Nat → Nat
def Shards.v (s : Shards) (n q : Nat) : Value := if cnt4 n q = 0 then .slice none 0 0 else .slice (some ⟨s.b q, 0, none⟩) (cnt4 n q) (s.c q)
theorem Shards.v_at (s : Shards) {n i : Nat} (h : i < n) : s.v n (i % 4) = .slice (some ⟨s.b (i % 4), 0, none⟩) (cnt4 n (i % 4)) (s.c (i % 4)) := by
  have := cnt4_pos h
  unfold Shards.v
  rw [if_neg (by omega)]

/-- n things of sz cells each, in four shards behind the block k -/
structure KeptAt (w : World) (k : Nat) (tk : TypeId) (sz : Nat) (s : Shards) (n : Nat) (f : Nat → Nat → Value) : Prop where
  blk : Blk w k tk [s.v n 0, s.v n 1, s.v n 2, s.v n 3]
  at_ : ∀ i j, i < n → j < sz → At w (s.b (i % 4)) (i / 4 * sz + j) (f i j)
  apart : ∀ i i', i < n → i' < n → i % 4 ≠ i' % 4 → s.b (i % 4) ≠ s.b (i' % 4)
  other : ∀ i, i < n → s.b (i % 4) ≠ k

theorem KeptAt.slice {w : World} {k : Nat} {tk : TypeId} {sz : Nat} {s : Shards} {n : Nat} {f : Nat → Nat → Value} (h : KeptAt w k tk sz s n f) {i : Nat} (hi : i < n) :
    w.cell? ⟨k, i % 4, none⟩ = some (.slice (some ⟨s.b (i % 4), 0, none⟩) (cnt4 n (i % 4)) (s.c (i % 4))) := by
  rw [h.blk.cell, ← s.v_at hi]
  have : i % 4 = 0 ∨ i % 4 = 1 ∨ i % 4 = 2 ∨ i % 4 = 3 := by omega
  rcases this with e | e | e | e <;> rw [e] <;> rfl

theorem KeptAt.below {w w' : World} {k : Nat} {tk : TypeId} {sz : Nat} {s : Shards} {n : Nat} {f : Nat → Nat → Value} (h : KeptAt w k tk sz s n f) (hb : Below w.heap.size w w') : KeptAt w' k tk sz s n f :=
  ⟨h.blk.below hb, fun i j hi hj => (h.at_ i j hi hj).below hb, h.apart, h.other⟩

set_option maxHeartbeats 1000000 in
theorem atInt_any (k : Nat) (s : Shards) (n : Nat) (f : Nat → Nat → Value) (i : Nat) (w : World) (hk : KeptAt w k 176 1 s n f) (hi : i < n) (hn : n ≤ 1000000) :
    Calls Try.prog 89 #[.pointer (some ⟨k, 0, none⟩), .int .i64 i] w fun e w' => e = .returned (.pointer (some ⟨s.b (i % 4), i / 4, none⟩)) ∧ w = w' := by
  have hc := hk.slice hi
  have h1 := cnt4_pos hi
  have h2 := cnt4_le n (i % 4) (by omega)
  obtain ⟨q, hq⟩ : ∃ q, i % 4 = q := ⟨_, rfl⟩
  obtain ⟨p, hp⟩ : ∃ p, i / 4 = p := ⟨_, rfl⟩
  have hq4 : q < 4 := by omega
  have htm : (i : Int).tmod 4 = (q : Int) := by rw [Int.tmod_eq_emod_of_nonneg (by omega)]; omega
  have htd : (i : Int).tdiv 4 = (p : Int) := by rw [Int.tdiv_eq_ediv_of_nonneg (by omega)]; omega
  have hw1 : IntKind.i64.wrap (q : Int) = q := wrap_in _ ⟨by omega, by omega⟩
  have hw2 : IntKind.i64.wrap (p : Int) = p := wrap_in _ ⟨by omega, by omega⟩
  rw [hq] at hc h1 h2 ⊢
  rw [hp] at h1 ⊢
  generalize cnt4 n q = m at *
  generalize s.b q = g at *
  generalize s.c q = cp at *
  clear hq hp hk
  go_enter Try.func89, Try.ntmps89
  go_wp2_with fail
  go_ret
  exact ⟨rfl, rfl⟩

set_option maxHeartbeats 1000000 in
theorem atEntry_any (k : Nat) (s : Shards) (n : Nat) (f : Nat → Nat → Value) (i : Nat) (w : World) (hk : KeptAt w k 171 3 s n f) (hi : i < n) (hn : n ≤ 1000000) :
    Calls Try.prog 88 #[.pointer (some ⟨k, 0, none⟩), .int .i64 i] w fun e w' => e = .returned (.pointer (some ⟨s.b (i % 4), i / 4 * 3, none⟩)) ∧ w = w' := by
  have hc := hk.slice hi
  have h1 := cnt4_pos hi
  have h2 := cnt4_le n (i % 4) (by omega)
  obtain ⟨q, hq⟩ : ∃ q, i % 4 = q := ⟨_, rfl⟩
  obtain ⟨p, hp⟩ : ∃ p, i / 4 = p := ⟨_, rfl⟩
  have hq4 : q < 4 := by omega
  have htm : (i : Int).tmod 4 = (q : Int) := by rw [Int.tmod_eq_emod_of_nonneg (by omega)]; omega
  have htd : (i : Int).tdiv 4 = (p : Int) := by rw [Int.tdiv_eq_ediv_of_nonneg (by omega)]; omega
  have hw1 : IntKind.i64.wrap (q : Int) = q := wrap_in _ ⟨by omega, by omega⟩
  have hw2 : IntKind.i64.wrap (p : Int) = p := wrap_in _ ⟨by omega, by omega⟩
  rw [hq] at hc h1 h2 ⊢
  rw [hp] at h1 ⊢
  generalize cnt4 n q = m at *
  generalize s.b q = g at *
  generalize s.c q = cp at *
  clear hq hp hk
  go_enter Try.func88, Try.ntmps88
  go_wp2_with fail
  go_ret
  exact ⟨by rfl, rfl⟩

end Go.Proofs.Ytlkapaecaeldpaa
