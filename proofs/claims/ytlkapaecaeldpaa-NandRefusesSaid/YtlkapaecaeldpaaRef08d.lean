/-
  Package strakeref08: what is logged; the plain laws of the log; Erase.
-/
import Derived.Test.YtlkapaecaeldpaaRef08c
set_option linter.unusedVariables false
set_option linter.unusedSimpArgs false
set_option maxRecDepth 16384
namespace Go.Proofs.Ytlkapaecaeldpaa
open Go.RowKit

/-- no page from the next one on can be read -/
def NInv (g : Geo) (S : NSt) : Prop := ∀ (a i : Nat), (a : Int) < g.all → findIx g (g.ofP a).unit (g.ofP a).block = some i → S.next i ≤ (g.ofP a).page → S.sec a = none

theorem evSec_erase {g : Geo} (hok : g.okB = true) {sec : Nat → Option (List Int × List Int)} {evs : List Ev} (h : ∀ a : Nat, sec a = if (a : Int) < g.all then evSec g evs.reverse a else none) (u n : Int) (a : Nat) :
    clrBlock g sec u n a = if (a : Int) < g.all then evSec g (evs ++ [(⟨u, n, -1, [], []⟩ : Ev)]).reverse a else none := by
  unfold clrBlock
  by_cases ha : (a : Int) < g.all
  · have hin := (Geo.of_in (Geo.ok_of hok) (show (0 : Int) ≤ a by omega) ha).1
    rw [if_pos ha, List.reverse_append, List.reverse_singleton, List.singleton_append, evSec]
    by_cases hc : u = (g.ofP a).unit ∧ n = (g.ofP a).block
    · rw [if_pos ⟨ha, hc.1.symm, hc.2.symm⟩, if_pos ⟨hc.1, hc.2, .inl rfl⟩, if_neg]
      have := hin.s.1
      simp only [List.length_nil]
      omega
    · rw [if_neg (fun q => hc ⟨q.2.1.symm, q.2.2.symm⟩), if_neg (fun q => hc ⟨q.1, q.2.1⟩), h a, if_pos ha]
  · rw [if_neg (fun q => ha q.1), if_neg ha, h a, if_neg ha]

theorem evSec_prog {g : Geo} (hok : g.okB = true) {S : NSt} {evs : List Ev} (h : ∀ a : Nat, S.sec a = if (a : Int) < g.all then evSec g evs.reverse a else none) (hI : NInv g S) {u n page : Int} {i : Nat} (hi : findIx g u n = some i) (hp : S.next i = page) (hp0 : 0 ≤ page) (K : Nat) {data oob : List (List Int)} (hK : K ≤ data.length) (hD : data.length = oob.length) (a : Nat) :
    setPage g S.sec u n page K data oob a = if (a : Int) < g.all then evSec g (evs ++ [(⟨u, n, page, data.take K, oob.take K⟩ : Ev)]).reverse a else none := by
  unfold setPage
  by_cases ha : (a : Int) < g.all
  · have hin := (Geo.of_in (Geo.ok_of hok) (show (0 : Int) ≤ a by omega) ha).1
    have hs0 := hin.s.1
    rw [if_pos ha, List.reverse_append, List.reverse_singleton, List.singleton_append, evSec]
    have hlen : (data.take K).length = K := by rw [List.length_take]; omega
    by_cases hc : u = (g.ofP a).unit ∧ n = (g.ofP a).block ∧ page = (g.ofP a).page
    · rw [if_pos (show u = (g.ofP a).unit ∧ n = (g.ofP a).block ∧ (page = -1 ∨ page = (g.ofP a).page) from ⟨hc.1, hc.2.1, .inr hc.2.2⟩)]
      simp only [hlen]
      by_cases hk : (g.ofP a).sector < K
      · have hsk : (g.ofP a).sector.toNat < K := by omega
        rw [if_pos ⟨ha, hc.1.symm, hc.2.1.symm, hc.2.2.symm, hk⟩, if_pos hk]
        rw [List.getD_eq_getElem?_getD, List.getD_eq_getElem?_getD, List.getD_eq_getElem?_getD, List.getD_eq_getElem?_getD, List.getElem?_take, List.getElem?_take, if_pos hsk, if_pos hsk]
      · rw [if_neg (fun q => hk q.2.2.2.2), if_neg hk]
        refine hI a i ha ?_ ?_
        · rw [← hc.1, ← hc.2.1]; exact hi
        · rw [hp, hc.2.2]; exact Int.le_refl _
    · rw [if_neg (fun q => hc ⟨q.2.1.symm, q.2.2.1.symm, q.2.2.2.1.symm⟩), if_neg, h a, if_pos ha]
      rintro ⟨q1, q2, q3 | q3⟩
      · have q4 : page = -1 := q3
        omega
      · exact hc ⟨q1, q2, q3⟩
  · rw [if_neg (fun q => ha q.1), if_neg ha, h a, if_neg ha]

theorem saysB_cases (b : Int) (hb : IsB b) : saysB b = 0 ∨ saysB b = 1 ∨ saysB b = 2 := by
  unfold saysB
  obtain ⟨h0, h1⟩ := hb
  split <;> omega
theorem nextP_says {p : List Int} (hb : ∀ x ∈ p, IsB x) (s : Int) : (nextP p s).1 = 0 ∨ (nextP p s).1 = 1 ∨ (nextP p s).1 = 2 := by
  unfold nextP
  split
  · exact .inl rfl
  · rename_i b t
    split
    · exact .inr (.inr rfl)
    · exact saysB_cases b (hb b (List.mem_cons_self ..))

section
variable {w w' : World} {F : Nat → Prop} {r : Nat} {g : Geo} {S : NSt} {m : Nat} {L : List Int} {n : Nat} {evs : List Ev} {pb nx wr rt : Nat} {lv lg : Value}

theorem RNRaw.setNext (h : RNRaw w F r g S m L n evs pb nx wr rt lv lg) {i : Nat} (hi : i < g.nb) (x : Int) : RNRaw (w.setCell ⟨nx, i, none⟩ (.int .i64 x)) F r g { S with next := fun j => if j = i then x else S.next j } m L n evs pb nx wr rt lv lg := by
  refine h.setRow (by simp) (.inl rfl) (fun k _ hk => Below.heap_setCell _ _ _ _ hk) fun j hj => ?_
  obtain ⟨a1, a2, a3, a4, a5, a6, a7, a8, a9, a10⟩ := h.apart
  obtain ⟨h1, h2, h3⟩ := h.nxs j hj
  have e1 := h1.set (b2 := nx) (o2 := i) (.int .i64 x)
  have e2 := h2.set (b2 := nx) (o2 := i) (.int .i64 x)
  have e3 := h3.set (b2 := nx) (o2 := i) (.int .i64 x)
  rw [if_neg (by omega)] at e2 e3
  refine ⟨?_, e2, e3⟩
  by_cases hji : j = i
  · rw [if_pos ⟨rfl, hji⟩] at e1
    rw [if_pos hji]
    exact e1
  · rw [if_neg (by omega)] at e1
    rw [if_neg hji]
    exact e1
theorem RNRaw.setWear (h : RNRaw w F r g S m L n evs pb nx wr rt lv lg) {i : Nat} (hi : i < g.nb) (x : Int) : RNRaw (w.setCell ⟨wr, i, none⟩ (.int .i64 x)) F r g { S with wear := fun j => if j = i then x else S.wear j } m L n evs pb nx wr rt lv lg := by
  refine h.setRow (by simp) (.inr (.inl rfl)) (fun k _ hk => Below.heap_setCell _ _ _ _ hk) fun j hj => ?_
  obtain ⟨a1, a2, a3, a4, a5, a6, a7, a8, a9, a10⟩ := h.apart
  obtain ⟨h1, h2, h3⟩ := h.nxs j hj
  have e1 := h1.set (b2 := wr) (o2 := i) (.int .i64 x)
  have e2 := h2.set (b2 := wr) (o2 := i) (.int .i64 x)
  have e3 := h3.set (b2 := wr) (o2 := i) (.int .i64 x)
  rw [if_neg (by omega)] at e1 e3
  refine ⟨e1, ?_, e3⟩
  by_cases hji : j = i
  · rw [if_pos ⟨rfl, hji⟩] at e2
    rw [if_pos hji]
    exact e2
  · rw [if_neg (by omega)] at e2
    rw [if_neg hji]
    exact e2

/-- the plan's block is written -/
theorem RNRaw.blockP (h : RNRaw w F r g S m L n evs pb nx wr rt lv lg) (hs : w.heap.size ≤ w'.heap.size) (hk : ∀ k, k < w.heap.size → k ≠ pb → w'.heap[k]? = w.heap[k]?) {n' : Nat} {pl : List Int} {mny : Int} (hn : n' ≤ m) (hpl : pl = L.drop n')
    (hp : Blk w' pb 166 [lv, .int .i64 (n' : Nat)]) : RNRaw w' F r g { S with plan := pl, many := mny } m L n' evs pb nx wr rt lv lg := by
  obtain ⟨m1, m2, m3, m4, m5, m6⟩ := h.mem
  obtain ⟨a1, a2, a3, a4, a5, a6, a7, a8, a9, a10⟩ := h.apart
  exact ⟨(hk r (h.inF _ m1) a1).trans h.blk, hp, h.left.keep hs fun k hl hq => hk k hl hq.2.2.1, h.leftB, hpl,
    fun i hi => by
      obtain ⟨h1, h2, h3⟩ := h.nxs i hi
      exact ⟨at_keep h1 (hk nx (h.inF _ m3) a5.symm), at_keep h2 (hk wr (h.inF _ m4) a6.symm), at_keep h3 (hk rt (h.inF _ m5) a7.symm)⟩,
    h.log.keep hs (fun k hl hq => hk k hl (hq.elim (fun hq => hq.2.2.1) (fun hq => (h.logA k hq).2.1))) (fun _ hq => hq), h.sec, h.mem, h.apart, h.logA, fun k hf => Nat.lt_of_lt_of_le (h.inF k hf) hs, h.ok, ⟨hn, h.few.2⟩⟩

/-- one event more -/
theorem RNRaw.logged (h : RNRaw w F r g S m L n evs pb nx wr rt lv lg) (hs : w.heap.size ≤ w'.heap.size) (hk : ∀ k, k < w.heap.size → k ≠ r → lg.ownBlock ≠ some k → w'.heap[k]? = w.heap[k]?) {lg' : Value} {e : Ev} {sc : Nat → Option (List Int × List Int)}
    (hr : Blk w' r 97 (refL g S pb nx wr rt lg')) (hlg : lg'.ownBlock = lg.ownBlock ∨ ∃ k, lg'.ownBlock = some k ∧ w.heap.size ≤ k ∧ k < w'.heap.size)
    (hev : EvsAt 178 w' (RRows (fun k => F k ∨ w.heap.size ≤ k ∧ k < w'.heap.size) r pb nx wr rt lg') lg' (evs ++ [e])) (hsc : ∀ a : Nat, sc a = if (a : Int) < g.all then evSec g (evs ++ [e]).reverse a else none) :
    RNRaw w' (fun k => F k ∨ w.heap.size ≤ k ∧ k < w'.heap.size) r g { S with sec := sc } (m + 1) L n (evs ++ [e]) pb nx wr rt lv lg' := by
  obtain ⟨m1, m2, m3, m4, m5, m6⟩ := h.mem
  obtain ⟨a1, a2, a3, a4, a5, a6, a7, a8, a9, a10⟩ := h.apart
  have hla := h.logA
  have i1 := h.inF _ m1
  have i2 := h.inF _ m2
  have i3 := h.inF _ m3
  have i4 := h.inF _ m4
  have i5 := h.inF _ m5
  have nb : ∀ k, k = pb ∨ k = nx ∨ k = wr ∨ k = rt → lg.ownBlock ≠ some k := fun k hc e => by
    obtain ⟨_, q1, q2, q3, q4⟩ := hla k e
    rcases hc with hc | hc | hc | hc
    · exact q1 hc
    · exact q2 hc
    · exact q3 hc
    · exact q4 hc
  refine ⟨hr, (hk pb i2 a1.symm (nb _ (.inl rfl))).trans h.pl, (h.left.keep hs fun k hl hq => hk k hl hq.2.1 hq.2.2.2.2.2.2).mono fun k _ hq => ?_, h.leftB, h.plan,
    fun i hi => ?_, hev, hsc, ⟨.inl m1, .inl m2, .inl m3, .inl m4, .inl m5, fun k hlk => ?_⟩, h.apart, fun k hlk => ?_, fun k hf => ?_, h.ok, ?_⟩
  · obtain ⟨q1, q2, q3, q4, q5, q6, q7⟩ := hq
    refine ⟨.inl q1, q2, q3, q4, q5, q6, ?_⟩
    rcases hlg with hl | ⟨k', hl, hk1, _⟩
    · rw [hl]; exact q7
    · rw [hl]
      intro e
      have := h.inF k q1
      have e2 := Option.some.inj e
      omega
  · obtain ⟨h1, h2, h3⟩ := h.nxs i hi
    exact ⟨at_keep h1 (hk nx i3 a2.symm (nb _ (.inr (.inl rfl)))), at_keep h2 (hk wr i4 a3.symm (nb _ (.inr (.inr (.inl rfl))))), at_keep h3 (hk rt i5 a4.symm (nb _ (.inr (.inr (.inr rfl)))))⟩
  · rcases hlg with hl | ⟨k', hl, hk1, hk2⟩
    · rw [hl] at hlk; exact .inl (m6 k hlk)
    · rw [hl] at hlk
      have e2 := Option.some.inj hlk
      exact .inr ⟨by omega, by omega⟩
  · rcases hlg with hl | ⟨k', hl, hk1, hk2⟩
    · rw [hl] at hlk; exact hla k hlk
    · rw [hl] at hlk
      have e2 := Option.some.inj hlk
      exact ⟨by omega, by omega, by omega, by omega, by omega⟩
  · rcases hf with hf | hf
    · exact Nat.lt_of_lt_of_le (h.inF k hf) hs
    · exact hf.2
  · rw [List.length_append]
    have := h.few
    exact ⟨by omega, by simp; omega⟩
end

end Go.Proofs.Ytlkapaecaeldpaa
