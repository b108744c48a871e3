/-
  Package l2p: the plain laws of put.
-/
import Derived.Test.YtlkapaecaeldpaaL2pE
import Derived.Test.YtlkapaecaeldpaaGeoPlain
set_option linter.unusedVariables false
set_option linter.unusedSimpArgs false
set_option maxRecDepth 16384
namespace Go.Proofs.Ytlkapaecaeldpaa
open Go.RowKit

theorem whoIx_some {g : Geo} {to : List Ent} (hf : Fine g to) {i : Nat} {e : Ent} (hi : to[i]? = some e) (h0 : 0 ≤ e.a) : whoIx to e.a = i + 1 := by
  unfold whoIx
  cases h : to.findIdx? fun x => decide (x.a = e.a) with
  | none =>
    rw [List.findIdx?_eq_none_iff] at h
    have := h e (List.mem_of_getElem? hi)
    simp at this
  | some j =>
    rw [List.findIdx?_eq_some_iff_getElem] at h
    obtain ⟨hj, h1, _⟩ := h
    simp only [decide_eq_true_eq] at h1
    have := hf.one i j e to[j] hi (List.getElem?_eq_getElem hj) h0 h1.symm
    simp only [this]
theorem whoIx_none {to : List Ent} {a : Int} (h : ∀ e ∈ to, e.a ≠ a) : whoIx to a = 0 := by
  unfold whoIx
  have : (to.findIdx? fun x => decide (x.a = a)) = none := by
    rw [List.findIdx?_eq_none_iff]
    intro x hx
    simpa using h x hx
  rw [this]
theorem whoIx_inv {to : List Ent} {a : Int} {i : Nat} (h : whoIx to a = i + 1) : ∃ e, to[i]? = some e ∧ e.a = a := by
  unfold whoIx at h
  cases hf : to.findIdx? fun x => decide (x.a = a) with
  | none => rw [hf] at h; simp at h
  | some j =>
    rw [hf] at h
    simp only [Nat.add_right_cancel_iff] at h
    subst h
    rw [List.findIdx?_eq_some_iff_getElem] at hf
    obtain ⟨hj, h1, _⟩ := hf
    simp only [decide_eq_true_eq] at h1
    exact ⟨to[j], List.getElem?_eq_getElem hj, h1⟩
theorem whoIx_zero {to : List Ent} {a : Int} (h : whoIx to a = 0) : ∀ e ∈ to, e.a ≠ a := by
  unfold whoIx at h
  cases hf : to.findIdx? fun x => decide (x.a = a) with
  | none =>
    rw [List.findIdx?_eq_none_iff] at hf
    intro e he
    simpa using hf e he
  | some j => rw [hf] at h; simp at h
theorem whoIx_le (to : List Ent) (a : Int) : whoIx to a ≤ to.length := by
  cases h : whoIx to a with
  | zero => omega
  | succ i =>
    obtain ⟨e, he, _⟩ := whoIx_inv h
    have := (List.getElem?_eq_some_iff.1 he).1
    omega

theorem fine_set {g : Geo} {to : List Ent} (hf : Fine g to) {i : Nat} {e : Ent} (hi : i < to.length) (he : e.a = -1 ∨ 0 ≤ e.a ∧ e.a < g.all) (ho : 0 ≤ e.a → whoIx to e.a = 0 ∨ whoIx to e.a = i + 1) : Fine g (to.set i e) := by
  have key : ∀ j f, j ≠ i → to[j]? = some f → 0 ≤ e.a → f.a ≠ e.a := by
    intro j f hj hfj h0 hfa
    rcases ho h0 with h | h
    · exact whoIx_zero h f (List.mem_of_getElem? hfj) hfa
    · have := whoIx_some hf hfj (by omega)
      rw [hfa, h] at this
      omega
  refine ⟨fun f hfm => ?_, fun j k f f' hj hk h0 ha => ?_⟩
  · rcases List.mem_or_eq_of_mem_set hfm with h | h
    · exact hf.in_ f h
    · rw [h]; exact he
  · rw [List.getElem?_set] at hj hk
    by_cases h1 : i = j
    · by_cases h2 : i = k
      · omega
      · rw [if_pos h1] at hj
        rw [if_neg h2] at hk
        rw [if_pos (by omega)] at hj
        cases hj
        exact absurd ha.symm (key k f' (fun e => h2 e.symm) hk h0)
    · rw [if_neg h1] at hj
      by_cases h2 : i = k
      · rw [if_pos h2, if_pos (by omega)] at hk
        cases hk
        exact absurd ha (key j f (fun e => h1 e.symm) hj (by omega))
      · rw [if_neg h2] at hk
        exact hf.one j k f f' hj hk h0 ha

theorem whoIx_set {g : Geo} {to : List Ent} (hf : Fine g to) {i : Nat} {e old : Ent} (hi : to[i]? = some old) (he : 0 ≤ e.a ∧ e.a < g.all) (ho : whoIx to e.a = 0 ∨ whoIx to e.a = i + 1) (a : Int) (h0 : 0 ≤ a) :
    whoIx (to.set i e) a = if a = e.a then i + 1 else if a = old.a then 0 else whoIx to a := by
  have hlt := (List.getElem?_eq_some_iff.1 hi).1
  have hf2 := fine_set hf hlt (.inr he) (fun _ => ho)
  by_cases h1 : a = e.a
  · rw [if_pos h1, h1]
    exact whoIx_some hf2 (by rw [List.getElem?_set, if_pos rfl, if_pos hlt]) he.1
  · rw [if_neg h1]
    by_cases h2 : a = old.a
    · rw [if_pos h2]
      refine whoIx_none fun f hfm hfa => ?_
      obtain ⟨j, hj⟩ := List.getElem?_of_mem hfm
      rw [List.getElem?_set] at hj
      by_cases hij : i = j
      · rw [if_pos hij, if_pos hlt] at hj; cases hj; exact h1 hfa.symm
      · rw [if_neg hij] at hj
        exact hij (hf.one i j old f hi hj (by omega) (by omega))
    · rw [if_neg h2]
      cases hw : whoIx to a with
      | zero =>
        refine whoIx_none fun f hfm hfa => ?_
        rcases List.mem_or_eq_of_mem_set hfm with h | h
        · exact whoIx_zero hw f h hfa
        · rw [h] at hfa; exact h1 hfa.symm
      | succ j =>
        obtain ⟨f, hj, hfa⟩ := whoIx_inv hw
        have hij : ¬ i = j := fun h => by rw [← h, hi] at hj; cases hj; exact h2 hfa.symm
        have := whoIx_some hf2 (i := j) (e := f) (by rw [List.getElem?_set, if_neg hij]; exact hj) (by omega)
        rwa [hfa] at this

theorem countP_set {p : Ent → Bool} : ∀ {to : List Ent} {i : Nat} {e old : Ent}, to[i]? = some old → (to.set i e).countP p + (if p old then 1 else 0) = to.countP p + (if p e then 1 else 0)
  | [], i, e, old, h => by simp at h
  | x :: to, 0, e, old, h => by
    simp only [List.getElem?_cons_zero, Option.some.injEq] at h
    subst h
    simp only [List.set_cons_zero, List.countP_cons]
    omega
  | x :: to, i + 1, e, old, h => by
    simp only [List.getElem?_cons_succ] at h
    have := countP_set (p := p) (e := e) h
    simp only [List.set_cons_succ, List.countP_cons]
    omega

theorem validN_set {line : Int} {to : List Ent} {i : Nat} {e old : Ent} (hi : to[i]? = some old) (l : Nat) :
    validN line (to.set i e) l + (if 0 ≤ old.a ∧ old.a / line = l then 1 else 0) = validN line to l + (if 0 ≤ e.a ∧ e.a / line = l then 1 else 0) := by
  have := countP_set (p := fun e => decide (0 ≤ e.a ∧ e.a / line = l)) (e := e) hi
  simpa [validN] using this
theorem validN_le (line : Int) (to : List Ent) (l : Nat) : validN line to l ≤ to.length := List.countP_le_length
theorem validN_pos {line : Int} {to : List Ent} {i : Nat} {e : Ent} (hi : to[i]? = some e) {l : Nat} (h : 0 ≤ e.a ∧ e.a / line = l) : 0 < validN line to l :=
  List.countP_pos_iff.2 ⟨e, List.mem_of_getElem? hi, by simpa using h⟩

/-- an address's line -/
theorem Geo.addr_line {g : Geo} (h : g.okB = true) {a : Int} (h0 : 0 ≤ a) (h1 : a < g.all) : 1 ≤ g.line ∧ g.line ≤ 1024 ∧ 0 ≤ a / g.line ∧ a / g.line < g.blocks := by
  have hg := Geo.ok_of h
  obtain ⟨m1, m2, m3, m4, m5, m6, m7, m8, m9, m10⟩ := geo_mul hg.c.1 hg.c.2 hg.l.1 hg.l.2 hg.b.1 hg.b.2 hg.p.1 hg.p.2 hg.s.1 hg.s.2
  have hl : 1 ≤ g.line := by unfold Geo.line; omega
  have hl2 : g.line ≤ 1024 := by unfold Geo.line; omega
  rw [Geo.all_eq] at h1
  refine ⟨hl, hl2, Int.ediv_nonneg h0 (by omega), Int.ediv_lt_of_lt_mul (by omega) (by rw [Int.mul_comm]; exact h1)⟩

end Go.Proofs.Ytlkapaecaeldpaa
