/-
  Plain laws of the device: of a page that is torn, and of what is kept.
-/
import Derived.Test.YtlkapaecaeldpaaNandQ
set_option linter.unusedVariables false
set_option linter.unusedSimpArgs false
set_option maxRecDepth 16384
namespace Go.Proofs.Ytlkapaecaeldpaa
open Go.RowKit

theorem off_prog {g : Geo} {S : NSt} (h : S.off = true) (u n page : Int) (data oob : List (List Int)) : progTo g S u n page data oob = (5, S) := by
  unfold progTo; rw [if_pos h]
theorem off_erase {g : Geo} {S : NSt} (h : S.off = true) (u n : Int) : eraseTo g S u n = (5, S) := by
  unfold eraseTo; rw [if_pos h]
theorem off_retire {g : Geo} {S : NSt} (h : S.off = true) (u n : Int) : retireTo g S u n = (5, S) := by
  unfold retireTo; rw [if_pos h]
theorem off_read {g : Geo} {S : NSt} (h : S.off = true) (a : Int) : readOf g S a = ([], [], 5) := by
  unfold readOf; rw [if_pos h]

/-- what NandTears looks at -/
theorem tears_law {g : Geo} (hok : g.okB = true) {S : NSt} (hI : SInv g S) (hoff : S.off = false) (hr : S.ret 0 = false) {b : Int} (hb : b % 4 = 2) {n : Int} (hn : S.next 0 = n) (hn0 : 0 ≤ n) (hn1 : n < g.pages) (m : Int) :
    ∃ S2 : NSt, progTo g { S with plan := [b], many := 0 } 0 0 n (secsD (min g.sectors 4).toNat m) (secsO (min g.sectors 4).toNat m false) = (5, S2) ∧ S2.off = true ∧ S2.next 0 = n + 1 ∧
      ∀ k : Nat, (k : Int) < g.sectors → readOf g { S2 with off := false } (g.numN ⟨0, 0, n, 0⟩ + k) = if (k : Int) < b / 4 % (g.sectors + 1) then (secD m k, secO m k, 0) else ([], [], 6) := by
  have h := Geo.ok_of hok
  have hs := h.s
  have hsb : saysB b = 2 := by unfold saysB; rw [if_neg (by omega)]; exact hb
  obtain ⟨h1, h2⟩ := nextP_one b g.sectors ⟨by omega, by omega⟩
  have h2 := h2 hsb
  rw [hsb] at h1
  have e := progTo_ok (g := g) (S := { S with plan := [b], many := 0 }) hoff (findIx_00 hok) ⟨hn0, hn1⟩ (sized_D g.sectors m ⟨by omega, by omega⟩) (sized_O g.sectors m ⟨by omega, by omega⟩) hr hn
  simp only [h1, h2, show ¬ ((2 : Int) = 0) by decide, if_false] at e
  refine ⟨_, e, rfl, rfl, fun k hk => ?_⟩
  obtain ⟨_, a, k1, k2, k3⟩ := adr_k hok ⟨hn0, hn1⟩ hk
  rw [k1, readOf_in rfl k2]
  simp only [NSt.cut, setPage]
  by_cases hkk : (k : Int) < b / 4 % (g.sectors + 1)
  · rw [if_pos hkk, if_pos ⟨k2, by rw [k3], by rw [k3], by rw [k3], by rw [k3]; exact hkk⟩]
    simp only [k3, Int.toNat_natCast]
    obtain ⟨q1, q2⟩ := secs_getD (m := (min g.sectors 4).toNat) (n := m) (k := k) (by omega)
    rw [q1, q2]
  · rw [if_neg hkk, if_neg (fun q => hkk (by have := q.2.2.2.2; rw [k3] at this; exact this))]
    rw [hI.ni a 0 k2 (by rw [k3]; exact findIx_00 hok) (by rw [k3, hn]; exact Int.le_refl _)]

/-- the sectors of the first block's page n are there, and it is written -/
structure Kept (g : Geo) (n m : Int) (S : NSt) : Prop where
  nx : n < S.next 0
  at_ : ∀ (a k : Nat), (a : Int) < g.all → g.ofP a = ⟨0, 0, n, k⟩ → S.sec a = some (secD m k, secO m k)

theorem Kept.same {g : Geo} {n m : Int} {S T : NSt} (h : Kept g n m S) (h1 : T.next = S.next) (h2 : T.sec = S.sec) : Kept g n m T :=
  ⟨by rw [h1]; exact h.nx, fun a k ha hk => by rw [h2]; exact h.at_ a k ha hk⟩
theorem Kept.prog {g : Geo} (hok : g.okB = true) {n m : Int} {S : NSt} (h : Kept g n m S) (u b page : Int) (data oob : List (List Int)) : Kept g n m (progTo g S u b page data oob).2 := by
  unfold progTo
  split
  · exact h
  split
  · exact h.same rfl rfl
  rename_i i hi
  split
  · rename_i hc
    split
    · exact h.same rfl rfl
    split
    · exact h.same rfl rfl
    rename_i hnx
    have hnx : S.next i = page := Classical.byContradiction hnx
    refine ⟨?_, fun a k ha hk => ?_⟩
    · simp only [NSt.cut]
      have := h.nx
      split
      · rename_i h0
        subst h0
        omega
      · exact this
    · simp only [NSt.cut, setPage]
      rw [if_neg]
      · exact h.at_ a k ha hk
      · rintro ⟨_, q1, q2, q3, _⟩
        rw [hk] at q1 q2 q3
        simp only at q1 q2 q3
        subst q1 q2
        rw [findIx_00 hok] at hi
        have := Option.some.inj hi
        subst this
        have := h.nx
        omega
  · exact h.same rfl rfl
theorem Kept.erase {g : Geo} (hok : g.okB = true) {n m : Int} {S : NSt} (h : Kept g n m S) (u b : Int) (hne : ¬ (u = 0 ∧ b = 0)) : Kept g n m (eraseTo g S u b).2 := by
  unfold eraseTo
  split
  · exact h
  split
  · exact h.same rfl rfl
  rename_i i hi
  split
  · exact h.same rfl rfl
  refine ⟨?_, fun a k ha hk => ?_⟩
  · simp only [NSt.cut]
    rw [if_neg]
    · exact h.nx
    · intro h0
      subst h0
      have e := findIx_inj hi (findIx_00 hok)
      exact hne e
  · simp only [NSt.cut, clrBlock]
    rw [if_neg]
    · exact h.at_ a k ha hk
    · rintro ⟨_, q1, q2⟩
      rw [hk] at q1 q2
      exact hne ⟨q1.symm, q2.symm⟩
theorem Kept.retire {g : Geo} {n m : Int} {S : NSt} (h : Kept g n m S) (u b : Int) : Kept g n m (retireTo g S u b).2 := by
  unfold retireTo
  split
  · exact h
  split
  · exact h.same rfl rfl
  · exact h.same rfl rfl
theorem Kept.read {g : Geo} (hok : g.okB = true) {n m : Int} {S : NSt} (h : Kept g n m S) (hoff : S.off = false) (hn : 0 ≤ n ∧ n < g.pages) {k : Nat} (hk : (k : Int) < g.sectors) : readOf g S (g.numN ⟨0, 0, n, 0⟩ + k) = (secD m k, secO m k, 0) := by
  obtain ⟨_, a, k1, k2, k3⟩ := adr_k hok hn hk
  rw [k1, readOf_in hoff k2, h.at_ a k k2 k3]

/-- a page is written -/
theorem keeps_law {g : Geo} (hok : g.okB = true) {S : NSt} (hI : SInv g S) (hoff : S.off = false) (hpl : S.plan = []) (hr : S.ret 0 = false) {n : Int} (hn : S.next 0 = n) (hn0 : 0 ≤ n) (hn1 : n < g.pages) (m : Int) :
    ∃ S2 : NSt, progTo g S 0 0 n (secsD (min g.sectors 4).toNat m) (secsO (min g.sectors 4).toNat m false) = (0, S2) ∧ S2.off = false ∧ S2.plan = [] ∧ Kept g n m S2 := by
  have h := Geo.ok_of hok
  have hs := h.s
  have e := progTo_ok (g := g) (S := S) hoff (findIx_00 hok) ⟨hn0, hn1⟩ (sized_D g.sectors m ⟨by omega, by omega⟩) (sized_O g.sectors m ⟨by omega, by omega⟩) hr hn
  have e1 : nextP S.plan g.sectors = (0, 0) := by rw [hpl]; rfl
  simp only [e1] at e
  refine ⟨_, e, hoff, by show S.plan.tail = []; rw [hpl]; rfl, ?_, fun a k ha hk => ?_⟩
  · show n < if (0 : Nat) = 0 then n + 1 else S.next 0
    rw [if_pos rfl]; omega
  · simp only [NSt.cut, setPage]
    have hin := (Geo.of_in h (show (0 : Int) ≤ a by omega) ha).1
    have hks := hin.s
    rw [hk] at hks
    simp only at hks
    rw [if_pos ⟨ha, by rw [hk], by rw [hk], by rw [hk], by rw [hk]; exact hks.2⟩, hk]
    simp only [Int.toNat_natCast]
    obtain ⟨q1, q2⟩ := secs_getD (m := (min g.sectors 4).toNat) (n := m) (k := k) (by omega)
    rw [q1, q2]

end Go.Proofs.Ytlkapaecaeldpaa
