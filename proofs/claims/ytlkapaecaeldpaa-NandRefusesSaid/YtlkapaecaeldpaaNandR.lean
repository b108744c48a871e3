/-
  Plain laws of the device: what can be seen of it, and what changes nothing of it.
-/
import Derived.Test.YtlkapaecaeldpaaNandQ2
set_option linter.unusedVariables false
set_option linter.unusedSimpArgs false
set_option maxRecDepth 16384
namespace Go.Proofs.Ytlkapaecaeldpaa
open Go.RowKit

/-- what 'others' tells of an address -/
def othersOf (g : Geo) (S : NSt) (i : Nat) : List Int :=
  if (g.ofP i).unit = 0 ∧ (g.ofP i).block = 0 then [] else
  [IntKind.u8.wrap (readOf g S i).2.2, IntKind.u8.wrap (nextO S (findIx g (g.ofP i).unit (g.ofP i).block)), IntKind.u8.wrap (wearO S (findIx g (g.ofP i).unit (g.ofP i).block))] ++ (readOf g S i).1 ++ (readOf g S i).2.1
def othersL (g : Geo) (S : NSt) (n : Nat) : List Int := (List.range n).flatMap (othersOf g S)
theorem othersL_step (g : Geo) (S : NSt) (n : Nat) : othersL g S (n + 1) = othersL g S n ++ othersOf g S n := by
  unfold othersL
  rw [List.range_succ, List.flatMap_append]
  simp
theorem othersOf_len {g : Geo} {S : NSt} (h : SInv g S) (i : Nat) : (othersOf g S i).length ≤ 203 := by
  unfold othersOf
  have := h.read (i : Int)
  split
  · simp
  · simp only [List.length_append, List.length_cons, List.length_nil]
    omega
theorem othersL_len {g : Geo} {S : NSt} (h : SInv g S) (n : Nat) : (othersL g S n).length ≤ 203 * n := by
  induction n with
  | zero => simp [othersL]
  | succ n ih =>
    rw [othersL_step, List.length_append]
    have := othersOf_len h n
    omega

/-- nothing but the first block has changed -/
structure Beyond (g : Geo) (S T : NSt) : Prop where
  inv : SInv g T
  off : T.off = false
  plan : T.plan = []
  nx : ∀ i, i ≠ 0 → T.next i = S.next i ∧ T.wear i = S.wear i
  sec : ∀ a : Nat, (a : Int) < g.all → ¬ ((g.ofP a).unit = 0 ∧ (g.ofP a).block = 0) → T.sec a = S.sec a

theorem Beyond.refl {g : Geo} {S : NSt} (hI : SInv g S) (h1 : S.off = false) (h2 : S.plan = []) : Beyond g S S := ⟨hI, h1, h2, fun _ _ => ⟨rfl, rfl⟩, fun _ _ _ => rfl⟩
theorem Beyond.bad {g : Geo} {S T : NSt} (h : Beyond g S T) : Beyond g S T.bad := ⟨h.inv.bad, h.off, h.plan, h.nx, h.sec⟩
theorem Beyond.prog {g : Geo} (hok : g.okB = true) {S T : NSt} (h : Beyond g S T) (page : Int) (data oob : List (List Int)) : Beyond g S (progTo g T 0 0 page data oob).2 := by
  have hI := h.inv.prog hok 0 0 page data oob
  have hpl := h.plan
  have e1 : nextP T.plan g.sectors = (0, 0) := by rw [hpl]; rfl
  unfold progTo at hI ⊢
  rw [if_neg (by rw [h.off]; decide), findIx_00 hok] at hI ⊢
  simp only [e1] at hI ⊢
  by_cases hc : 0 ≤ page ∧ page < g.pages ∧ sizedB data g.sectors 16 = true ∧ sizedB oob g.sectors 17 = true
  · rw [if_pos hc] at hI ⊢
    by_cases hr : T.ret 0 = true
    · rw [if_pos hr]; exact h.bad
    · rw [if_neg hr] at hI ⊢
      by_cases hn : T.next 0 ≠ page
      · rw [if_pos hn]; exact h.bad
      · rw [if_neg hn] at hI ⊢
        refine ⟨hI, h.off, by show T.plan.tail = []; rw [hpl]; rfl, fun i hi => ?_, fun a ha hne => ?_⟩
        · simp only [NSt.cut]
          rw [if_neg hi]
          exact h.nx i hi
        · simp only [NSt.cut, setPage]
          rw [if_neg (fun q => hne ⟨q.2.1, q.2.2.1⟩)]
          exact h.sec a ha hne
  · rw [if_neg hc]; exact h.bad
theorem Beyond.erase {g : Geo} (hok : g.okB = true) {S T : NSt} (h : Beyond g S T) : Beyond g S (eraseTo g T 0 0).2 := by
  have hI := h.inv.erase hok 0 0
  have hpl := h.plan
  have e1 : nextP T.plan 0 = (0, 0) := by rw [hpl]; rfl
  unfold eraseTo at hI ⊢
  rw [if_neg (by rw [h.off]; decide), findIx_00 hok] at hI ⊢
  simp only [e1] at hI ⊢
  by_cases hr : T.ret 0 = true
  · rw [if_pos hr]; exact h.bad
  · rw [if_neg hr] at hI ⊢
    refine ⟨hI, h.off, by show T.plan.tail = []; rw [hpl]; rfl, fun i hi => ?_, fun a ha hne => ?_⟩
    · simp only [NSt.cut]
      rw [if_neg hi, if_neg hi]
      exact h.nx i hi
    · simp only [NSt.cut, clrBlock]
      rw [if_neg (fun q => hne ⟨q.2.1, q.2.2⟩)]
      exact h.sec a ha hne
theorem Beyond.retire {g : Geo} (hok : g.okB = true) {S T : NSt} (h : Beyond g S T) : Beyond g S (retireTo g T 0 0).2 := by
  unfold retireTo
  rw [if_neg (by rw [h.off]; decide), findIx_00 hok]
  exact ⟨h.inv.same rfl rfl h.inv.pl, h.off, h.plan, h.nx, h.sec⟩
theorem Beyond.of {g : Geo} (hok : g.okB = true) {S T : NSt} (h : Beyond g S T) (h0 : S.off = false) (i : Nat) (hi : (i : Int) < g.all) : othersOf g T i = othersOf g S i := by
  unfold othersOf
  by_cases hc : (g.ofP i).unit = 0 ∧ (g.ofP i).block = 0
  · rw [if_pos hc, if_pos hc]
  · rw [if_neg hc, if_neg hc]
    have e1 : readOf g T i = readOf g S i := by rw [readOf_in h.off hi, readOf_in h0 hi, h.sec i hi hc]
    have e2 : nextO T (findIx g (g.ofP i).unit (g.ofP i).block) = nextO S (findIx g (g.ofP i).unit (g.ofP i).block) ∧ wearO T (findIx g (g.ofP i).unit (g.ofP i).block) = wearO S (findIx g (g.ofP i).unit (g.ofP i).block) := by
      cases hf : findIx g (g.ofP i).unit (g.ofP i).block with
      | none => exact ⟨rfl, rfl⟩
      | some j =>
        have hj : j ≠ 0 := fun e => by
          subst e
          exact hc (findIx_inj hf (findIx_00 hok))
        exact h.nx j hj
    rw [e1, e2.1, e2.2]
theorem Beyond.all {g : Geo} (hok : g.okB = true) {S T : NSt} (h : Beyond g S T) (h0 : S.off = false) (n : Nat) (hn : (n : Int) ≤ g.all) : othersL g T n = othersL g S n := by
  induction n with
  | zero => rfl
  | succ n ih => rw [othersL_step, othersL_step, ih (by omega), h.of hok h0 n (by omega)]

/-- what 'look' tells of a block, and of an address -/
def lookB (S : NSt) (o : Option Nat) : List Int := [if retO S o = true then 1 else 0, IntKind.u8.wrap (nextO S o), IntKind.u8.wrap (wearO S o)]
def lookBs (g : Geo) (S : NSt) (u : Int) (n : Nat) : List Int := (List.range n).flatMap fun b : Nat => lookB S (findIx g u b)
def lookUs (g : Geo) (S : NSt) (n : Nat) : List Int := (List.range n).flatMap fun u : Nat => lookBs g S u g.blocks.toNat
def lookOf (g : Geo) (S : NSt) (i : Nat) : List Int := [IntKind.u8.wrap (readOf g S i).2.2] ++ (readOf g S i).1 ++ (readOf g S i).2.1
def lookAs (g : Geo) (S : NSt) (n : Nat) : List Int := (List.range n).flatMap (lookOf g S)
def lookL (g : Geo) (S : NSt) : List Int := lookUs g S (g.chans * g.luns).toNat ++ lookAs g S g.all.toNat
theorem lookBs_step (g : Geo) (S : NSt) (u : Int) (n : Nat) : lookBs g S u (n + 1) = lookBs g S u n ++ lookB S (findIx g u n) := by
  unfold lookBs
  rw [List.range_succ, List.flatMap_append]
  simp
theorem lookUs_step (g : Geo) (S : NSt) (n : Nat) : lookUs g S (n + 1) = lookUs g S n ++ lookBs g S n g.blocks.toNat := by
  unfold lookUs
  rw [List.range_succ, List.flatMap_append]
  simp
theorem lookAs_step (g : Geo) (S : NSt) (n : Nat) : lookAs g S (n + 1) = lookAs g S n ++ lookOf g S n := by
  unfold lookAs
  rw [List.range_succ, List.flatMap_append]
  simp
theorem lookBs_len (g : Geo) (S : NSt) (u : Int) (n : Nat) : (lookBs g S u n).length = 3 * n := by
  induction n with
  | zero => simp [lookBs]
  | succ n ih => rw [lookBs_step, List.length_append, ih]; simp [lookB]; omega
theorem lookUs_len (g : Geo) (S : NSt) (n : Nat) : (lookUs g S n).length = 3 * g.blocks.toNat * n := by
  induction n with
  | zero => simp [lookUs]
  | succ n ih => rw [lookUs_step, List.length_append, ih, lookBs_len, Nat.mul_succ]
theorem lookAs_len {g : Geo} {S : NSt} (h : SInv g S) (n : Nat) : (lookAs g S n).length ≤ 201 * n := by
  induction n with
  | zero => simp [lookAs]
  | succ n ih =>
    rw [lookAs_step, List.length_append]
    have : (lookOf g S n).length ≤ 201 := by
      unfold lookOf
      have := h.read (n : Int)
      simp only [List.length_append, List.length_cons, List.length_nil]
      omega
    omega
theorem look_bad (g : Geo) (S : NSt) : lookL g S.bad = lookL g S := rfl

/-- what a call tells of a device that does not fail: done, or refused -/
theorem prog_ends {g : Geo} {S : NSt} (hoff : S.off = false) (hpl : S.plan = []) (u n page : Int) (data oob : List (List Int)) :
    ((progTo g S u n page data oob).1 = 0 ∧ (progTo g S u n page data oob).2.wrong = S.wrong) ∨ (((progTo g S u n page data oob).1 = 1 ∨ (progTo g S u n page data oob).1 = 10 ∨ (progTo g S u n page data oob).1 = 7) ∧ (progTo g S u n page data oob).2 = S.bad) := by
  have e1 : nextP S.plan g.sectors = (0, 0) := by rw [hpl]; rfl
  unfold progTo
  rw [if_neg (by rw [hoff]; decide)]
  split
  · exact .inr ⟨.inl rfl, rfl⟩
  split
  · split
    · exact .inr ⟨.inr (.inl rfl), rfl⟩
    split
    · exact .inr ⟨.inr (.inr rfl), rfl⟩
    · rw [e1]; exact .inl ⟨rfl, rfl⟩
  · exact .inr ⟨.inl rfl, rfl⟩
theorem erase_ends {g : Geo} {S : NSt} (hoff : S.off = false) (hpl : S.plan = []) (u n : Int) :
    ((eraseTo g S u n).1 = 0 ∧ (eraseTo g S u n).2.wrong = S.wrong) ∨ (((eraseTo g S u n).1 = 1 ∨ (eraseTo g S u n).1 = 10 ∨ (eraseTo g S u n).1 = 7) ∧ (eraseTo g S u n).2 = S.bad) := by
  have e1 : nextP S.plan 0 = (0, 0) := by rw [hpl]; rfl
  unfold eraseTo
  rw [if_neg (by rw [hoff]; decide)]
  split
  · exact .inr ⟨.inl rfl, rfl⟩
  split
  · exact .inr ⟨.inr (.inl rfl), rfl⟩
  · rw [e1]; exact .inl ⟨rfl, rfl⟩
theorem retire_ends {g : Geo} {S : NSt} (hoff : S.off = false) (u n : Int) :
    ((retireTo g S u n).1 = 0 ∧ (retireTo g S u n).2.wrong = S.wrong) ∨ (((retireTo g S u n).1 = 1 ∨ (retireTo g S u n).1 = 10 ∨ (retireTo g S u n).1 = 7) ∧ (retireTo g S u n).2 = S.bad) := by
  unfold retireTo
  rw [if_neg (by rw [hoff]; decide)]
  split
  · exact .inr ⟨.inl rfl, rfl⟩
  · exact .inl ⟨rfl, rfl⟩

end Go.Proofs.Ytlkapaecaeldpaa
