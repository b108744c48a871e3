/-
  The device's transitions: what they keep (plain), and both devices side by side.
-/
import Derived.Test.YtlkapaecaeldpaaRef08d
import Derived.Test.YtlkapaecaeldpaaNandG
import Derived.Test.YtlkapaecaeldpaaLaw08
set_option linter.unusedVariables false
set_option linter.unusedSimpArgs false
set_option maxRecDepth 16384
namespace Go.Proofs.Ytlkapaecaeldpaa
open Go.RowKit

/-- one call, plainly -/
structure Op8P where
  d : Int
  u : Int
  b : Int
  p : Int
  n : Int
  odd : Bool
  zs : List Int

/-- what a call makes of a device -/
def stepTo (g : Geo) (S : NSt) (o : Op8P) : NSt :=
  if o.d = 0 ∨ o.d = 1 then (progTo g S o.u o.b o.p (secsD (min g.sectors 4).toNat o.n) (secsO (min g.sectors 4).toNat o.n o.odd)).2
  else if o.d = 2 then (eraseTo g S o.u o.b).2
  else if o.d = 4 then (retireTo g S o.u o.b).2
  else if o.d = 5 then (if o.zs.length ≤ 100 then { S with plan := o.zs, many := 0 } else S)
  else if o.d = 6 then { S with off := false } else S

/-- what holds of any device -/
structure SInv (g : Geo) (S : NSt) : Prop where
  ni : NInv g S
  nx : ∀ i, 0 ≤ S.next i ∧ S.next i ≤ g.pages
  pl : ∀ x ∈ S.plan, IsB x
  sz : ∀ a x, S.sec a = some x → x.1.length = 16 ∧ x.2.length = 17

theorem SInv.same {g : Geo} {S T : NSt} (h : SInv g S) (h1 : T.next = S.next) (h2 : T.sec = S.sec) (h3 : ∀ x ∈ T.plan, IsB x) : SInv g T :=
  ⟨fun a i ha hf hn => by rw [h2]; exact h.ni a i ha hf (by rw [← h1]; exact hn), fun i => by rw [h1]; exact h.nx i, h3, fun a x hx => h.sz a x (by rw [← h2]; exact hx)⟩
theorem SInv.bad {g : Geo} {S : NSt} (h : SInv g S) : SInv g S.bad := h.same rfl rfl h.pl

theorem SInv.prog {g : Geo} (hok : g.okB = true) {S : NSt} (h : SInv g S) (u n page : Int) (data oob : List (List Int)) : SInv g (progTo g S u n page data oob).2 := by
  unfold progTo
  split
  · exact h
  split
  · exact h.bad
  rename_i i hi
  split
  · rename_i hc
    split
    · exact h.bad
    split
    · exact h.bad
    rename_i hnx
    have hnx : S.next i = page := Classical.byContradiction hnx
    refine ⟨fun a j ha hf hn => ?_, fun j => ?_, fun x hx => h.pl x (List.mem_of_mem_tail hx), fun a x hx => ?_⟩
    · simp only [NSt.cut] at hn ⊢
      unfold setPage
      by_cases hji : j = i
      · rw [if_pos hji] at hn
        rw [if_neg (fun q => by have := q.2.2.2.1; omega)]
        subst hji
        exact h.ni a j ha hf (by omega)
      · rw [if_neg hji] at hn
        rw [if_neg]
        · exact h.ni a j ha hf hn
        · rintro ⟨_, q1, q2, _⟩
          rw [q1, q2, hi] at hf
          exact hji (Option.some.inj hf).symm
    · simp only [NSt.cut]
      split
      · omega
      · exact h.nx j
    · simp only [NSt.cut] at hx
      generalize (if (nextP S.plan g.sectors).1 = 0 then g.sectors else (nextP S.plan g.sectors).2) = kp at hx
      unfold setPage at hx
      split at hx
      · rename_i hq
        have hin := (Geo.of_in (Geo.ok_of hok) (show (0 : Int) ≤ a by omega) hq.1).1
        have hs0 := hin.s
        have h2 := hc.2.2.1
        have h3 := hc.2.2.2
        unfold sizedB at h2 h3
        rw [decide_eq_true_eq] at h2 h3
        have h4 := Option.some.inj hx
        subst h4
        have k1 : (g.ofP a).sector.toNat < data.length := by omega
        have k2 : (g.ofP a).sector.toNat < oob.length := by omega
        simp only [List.getD_eq_getElem?_getD, List.getElem?_eq_getElem k1, List.getElem?_eq_getElem k2, Option.getD_some]
        have e1 := h2.1 _ (List.getElem_mem k1)
        have e2 := h3.1 _ (List.getElem_mem k2)
        omega
      · exact h.sz a x hx
  · exact h.bad

/-- a block's number tells the block -/
theorem findIx_inj {g : Geo} {u n u' n' : Int} {i : Nat} (h : findIx g u n = some i) (h' : findIx g u' n' = some i) : u = u' ∧ n = n' := by
  unfold findIx at h h'
  split at h
  · rename_i hc
    split at h'
    · rename_i hc'
      have h := Option.some.inj h
      have h' := Option.some.inj h'
      have e1 : 0 ≤ u * g.blocks := Int.mul_nonneg hc.1 (by omega)
      have e2 : 0 ≤ u' * g.blocks := Int.mul_nonneg hc'.1 (by omega)
      have e : u * g.blocks + n = u' * g.blocks + n' := by omega
      have hu : u = u' := by
        rcases Int.lt_trichotomy u u' with hl | hl | hl
        · exfalso
          have := Int.mul_le_mul_of_nonneg_right (show u + 1 ≤ u' by omega) (show 0 ≤ g.blocks by omega)
          rw [Int.add_mul] at this
          omega
        · exact hl
        · exfalso
          have := Int.mul_le_mul_of_nonneg_right (show u' + 1 ≤ u by omega) (show 0 ≤ g.blocks by omega)
          rw [Int.add_mul] at this
          omega
      subst hu
      exact ⟨rfl, by omega⟩
    · cases h'
  · cases h

theorem SInv.erase {g : Geo} (hok : g.okB = true) {S : NSt} (h : SInv g S) (u n : Int) : SInv g (eraseTo g S u n).2 := by
  have hp := (Geo.ok_of hok).p
  unfold eraseTo
  split
  · exact h
  split
  · exact h.bad
  rename_i i hi
  split
  · exact h.bad
  refine ⟨fun a j ha hf hn => ?_, fun j => ?_, fun x hx => h.pl x (List.mem_of_mem_tail hx), fun a x hx => ?_⟩
  · simp only [NSt.cut] at hn ⊢
    unfold clrBlock
    split
    · rfl
    · rename_i hc
      by_cases hji : j = i
      · exfalso
        subst hji
        have hin := (Geo.of_in (Geo.ok_of hok) (show (0 : Int) ≤ a by omega) ha).1
        have e := findIx_inj hi hf
        exact hc ⟨ha, e.1.symm, e.2.symm⟩
      · rw [if_neg hji] at hn
        exact h.ni a j ha hf hn
  · simp only [NSt.cut]
    split
    · split <;> omega
    · exact h.nx j
  · simp only [NSt.cut] at hx
    unfold clrBlock at hx
    split at hx
    · cases hx
    · exact h.sz a x hx

theorem SInv.read {g : Geo} {S : NSt} (h : SInv g S) (a : Int) : (readOf g S a).1.length ≤ 100 ∧ (readOf g S a).2.1.length ≤ 100 := by
  unfold readOf
  split
  · exact ⟨by simp, by simp⟩
  split
  · split
    · rename_i p hp
      have := h.sz _ _ hp
      exact ⟨by simp only; omega, by simp only; omega⟩
    · exact ⟨by simp, by simp⟩
  · exact ⟨by simp, by simp⟩

theorem SInv.retire {g : Geo} {S : NSt} (h : SInv g S) (u n : Int) : SInv g (retireTo g S u n).2 := by
  unfold retireTo
  split
  · exact h
  split
  · exact h.bad
  · exact h.same rfl rfl h.pl

theorem SInv.new (g : Geo) (hp : 0 ≤ g.pages) (bad : List Int) : SInv g (newS bad) := ⟨fun a i _ _ _ => rfl, fun i => ⟨Int.le_refl _, hp⟩, fun x hx => (by cases hx), fun a x hx => (by cases hx)⟩

theorem SInv.step {g : Geo} (hok : g.okB = true) {S : NSt} (h : SInv g S) (o : Op8P) (hz : ∀ x ∈ o.zs, IsB x) : SInv g (stepTo g S o) := by
  unfold stepTo
  split
  · exact h.prog hok _ _ _ _ _
  split
  · exact h.erase hok _ _
  split
  · exact h.retire _ _
  split
  · split
    · exact h.same rfl rfl hz
    · exact h
  split
  · exact h.same rfl rfl h.pl
  · exact h

/-- what many calls make of a device -/
def playTo (g : Geo) : NSt → List Op8P → NSt
  | S, [] => S
  | S, o :: l => playTo g (stepTo g S o) l
theorem playTo_snoc (g : Geo) (S : NSt) (l : List Op8P) (o : Op8P) : playTo g S (l ++ [o]) = stepTo g (playTo g S l) o := by
  induction l generalizing S with
  | nil => rfl
  | cons a l ih => exact ih _

end Go.Proofs.Ytlkapaecaeldpaa
