/-
  Maps keyed by int: what a block that is a map holds, as a function of the key.
-/
import Derived.Test.YtlkapaecaeldpaaKit
import Derived.Maps.OwnSet
import Derived.Maps.OwnOps
set_option linter.unusedVariables false
set_option linter.unusedSimpArgs false
set_option maxRecDepth 16384
namespace Go.Proofs.Ytlkapaecaeldpaa
open Go.RowKit Go.Maps

/-- a reader that holds the value itself -/
def heldR (v : Value) : Option (DataW Value × List MemPlace) := some (.held v, [])

theorem pigeon : ∀ (N : Nat) (l : List Nat), l.Nodup → (∀ x ∈ l, x < N) → l.length ≤ N
  | 0, l, _, h => by
    cases l with
    | nil => exact Nat.le_refl _
    | cons x l => exact absurd (h x (List.mem_cons_self ..)) (Nat.not_lt_zero _)
  | N + 1, l, hn, h => by
    have ih := pigeon N (l.erase N) (hn.erase N) fun x hx => by
      have h1 := h x (List.mem_of_mem_erase hx)
      have h2 : x ≠ N := (List.Nodup.mem_erase_iff hn).1 hx |>.1
      omega
    by_cases hm : N ∈ l
    · rw [List.length_erase_of_mem hm] at ih; omega
    · rw [List.erase_of_not_mem hm] at ih; omega

/-- block b is a map from the numbers below N -/
structure MapIs (P : Program) (w : World) (K : TypeId) (b N : Nat) (f : Nat → Option Value) : Prop where
  ex : ∃ es : List (Lit × DataW Value), w.ownsMap P K heldR b N (.map es) ∧ (∀ p ∈ es, ∃ (a : Nat) (v : Value), a < N ∧ p = (.int .i64 a, .held v) ∧ f a = some v) ∧ (∀ (a : Nat) v, f a = some v → (Lit.int .i64 a, DataW.held v) ∈ es)

section
variable {P : Program} {w : World} {K : TypeId} {b N : Nat} {f : Nat → Option Value}

theorem MapIs.lt (h : MapIs P w K b N f) : b < w.heap.size := by
  obtain ⟨es, ho, _⟩ := h
  exact ho.lt
theorem MapIs.in_ (h : MapIs P w K b N f) {a : Nat} {v : Value} (ha : f a = some v) : a < N := by
  obtain ⟨es, ho, h1, h2⟩ := h
  obtain ⟨a', v', h3, h4, _⟩ := h1 _ (h2 a v ha)
  injection h4 with h5 _
  injection h5 with _ h6
  omega
theorem MapIs.block {w' : World} (h : MapIs P w K b N f) (hb : w'.heap[b]? = w.heap[b]?) : MapIs P w' K b N f := by
  obtain ⟨D, ⟨es, cl, h1, h2⟩, h3⟩ := h
  exact ⟨D, ⟨es, cl, hb.trans h1, h2⟩, h3⟩
theorem MapIs.made (P : Program) (w : World) (K : TypeId) (N : Nat) : MapIs P (w.alloc (.map #[] 0)) K w.heap.size N (fun _ => none) :=
  ⟨[], (World.ownsMap_made w P K heldR).mono (Nat.zero_le _), fun p hp => by simp at hp, fun a v hv => by cases hv⟩

theorem owns_size {n m : Nat} {es : List (Lit × DataW Value)} (h : w.ownsMap P K heldR b n (.map es)) (hm : es.length ≤ m) : w.ownsMap P K heldR b m (.map es) := by
  obtain ⟨es', cl, h1, h2, h3, h4⟩ := h
  refine ⟨es', cl, h1, h2, ?_, h4⟩
  have e1 := length_read (P := P) (k := K) (R0 := heldR) es'
  injection h4 with h4
  rw [← h4] at e1
  omega

theorem es_size {es : List (Lit × DataW Value)} (hp : es.Pairwise (fun p q => p.1 ≠ q.1)) (h : ∀ p ∈ es, ∃ (a : Nat) (v : Value), a < N ∧ p = (.int .i64 a, .held v) ∧ f a = some v) : es.length ≤ N := by
  have h2 : (es.map fun p => match p.1 with | .int _ a => a.toNat | _ => 0).length ≤ N := by
    refine pigeon N _ ?_ ?_
    · unfold List.Nodup
      rw [List.pairwise_map]
      refine hp.imp_of_mem fun {p q} hpm hqm hne => ?_
      obtain ⟨a, v, _, rfl, _⟩ := h p hpm
      obtain ⟨a', v', _, rfl, _⟩ := h q hqm
      simp only at hne ⊢
      intro e
      apply hne
      rw [show a = a' by omega]
    · intro x hx
      obtain ⟨p, hpm, rfl⟩ := List.mem_map.1 hx
      obtain ⟨a, v, ha, rfl, _⟩ := h p hpm
      simpa using ha
  rwa [List.length_map] at h2

/-- read -/
theorem MapIs.look (h : MapIs P w K b N f) (L : Keyed P K) : ∃ D : DataW Value, w.ownsMap P K heldR b N D ∧ ∀ a : Nat, match f a with | some v => Maps.has D (.int .i64 a) = true ∧ ∀ z, D.atKey (.int .i64 a) z = .held v | none => Maps.has D (.int .i64 a) = false := by
  obtain ⟨es, ho, h1, h2⟩ := h
  refine ⟨_, ho, fun a => ?_⟩
  obtain ⟨es', he, hp⟩ := ho.tidy L
  injection he with he
  subst he
  cases hf : f a with
  | some v =>
    have hm := h2 a v hf
    exact ⟨by rw [Maps.has_eq, List.any_eq_true]; exact ⟨_, hm, WideAt.sameKey_self (by trivial)⟩, fun z => WideAt.atKey_mem z (by trivial) hp hm⟩
  | none =>
    show Maps.has _ _ = false
    rw [Maps.has_eq, List.any_eq_false]
    intro p hpm hs
    obtain ⟨a', v', _, rfl, hv⟩ := h1 p hpm
    have := WideAt.sameKey_eq hs
    injection this with _ this
    have e : a' = a := by omega
    subst e
    rw [hf] at hv
    cases hv

/-- written -/
theorem MapIs.stored {w' : World} {m : Nat} (h : MapIs P w K b N f) (L : Keyed P K) {es : List (Lit × DataW Value)} (ho : w.ownsMap P K heldR b N (.map es)) (h1 : ∀ p ∈ es, ∃ (a : Nat) (v : Value), a < N ∧ p = (.int .i64 a, .held v) ∧ f a = some v) (h2 : ∀ (a : Nat) v, f a = some v → (Lit.int .i64 a, DataW.held v) ∈ es)
    {a : Nat} (ha : a < N) (v : Value) (hw : w'.ownsMap P K heldR b m ((DataW.map es).put (.int .i64 a) (.held v))) : MapIs P w' K b N (fun x => if x = a then some v else f x) := by
  have hk : WideAt.IsKeyLit (.int .i64 (a : Int)) := by trivial
  have ht := hw.tidy L
  obtain ⟨es', he, hp⟩ := ht
  have hmem : ∀ p, p ∈ es' ↔ p = (Lit.int .i64 a, DataW.held v) ∨ (p ∈ es ∧ p.1.sameKey (.int .i64 a) = false) := fun p => by
    have e : es' = DataW.insert (Lit.int .i64 a, DataW.held v) (es.filter fun p => !p.1.sameKey (.int .i64 a)) := by
      injection he with he; exact he.symm
    rw [e, (WideShapes.insert_perm _ _).mem_iff, List.mem_cons, List.mem_filter]
    simp
  have h1' : ∀ p ∈ es', ∃ (x : Nat) (u : Value), x < N ∧ p = (.int .i64 x, .held u) ∧ (if x = a then some v else f x) = some u := fun p hpm => by
    rcases (hmem p).1 hpm with rfl | ⟨h3, h4⟩
    · exact ⟨a, v, ha, rfl, if_pos rfl⟩
    · obtain ⟨x, u, h5, rfl, h6⟩ := h1 p h3
      refine ⟨x, u, h5, rfl, ?_⟩
      rw [if_neg]
      · exact h6
      · rintro rfl
        rw [WideAt.sameKey_self hk] at h4
        cases h4
  rw [he] at hw
  refine ⟨es', owns_size hw (es_size hp h1'), h1', fun x u hu => ?_⟩
  by_cases hx : x = a
  · subst hx
    rw [if_pos rfl] at hu
    cases hu
    exact (hmem _).2 (.inl rfl)
  · rw [if_neg hx] at hu
    refine (hmem _).2 (.inr ⟨h2 x u hu, ?_⟩)
    exact Maps.sameKey_ne fun e => by
      injection e with _ e
      omega

/-- struck -/
theorem MapIs.dropped {w' : World} {m : Nat} (L : Keyed P K) {es : List (Lit × DataW Value)} (h1 : ∀ p ∈ es, ∃ (a : Nat) (v : Value), a < N ∧ p = (.int .i64 a, .held v) ∧ f a = some v) (h2 : ∀ (a : Nat) v, f a = some v → (Lit.int .i64 a, DataW.held v) ∈ es)
    (a : Nat) (hw : w'.ownsMap P K heldR b m ((DataW.map es).del (.int .i64 a))) : MapIs P w' K b N (fun x => if x = a then none else f x) := by
  have hk : WideAt.IsKeyLit (.int .i64 (a : Int)) := by trivial
  have ht := hw.tidy L
  obtain ⟨es', he, hp⟩ := ht
  have hmem : ∀ p, p ∈ es' ↔ (p ∈ es ∧ p.1.sameKey (.int .i64 a) = false) := fun p => by
    have e : es' = es.filter fun p => !p.1.sameKey (.int .i64 a) := by
      injection he with he; exact he.symm
    rw [e, List.mem_filter]
    simp
  have h1' : ∀ p ∈ es', ∃ (x : Nat) (u : Value), x < N ∧ p = (.int .i64 x, .held u) ∧ (if x = a then none else f x) = some u := fun p hpm => by
    obtain ⟨h3, h4⟩ := (hmem p).1 hpm
    obtain ⟨x, u, h5, rfl, h6⟩ := h1 p h3
    refine ⟨x, u, h5, rfl, ?_⟩
    rw [if_neg]
    · exact h6
    · rintro rfl
      rw [WideAt.sameKey_self hk] at h4
      cases h4
  rw [he] at hw
  refine ⟨es', owns_size hw (es_size hp h1'), h1', fun x u hu => ?_⟩
  by_cases hx : x = a
  · rw [if_pos hx] at hu; cases hu
  · rw [if_neg hx] at hu
    refine (hmem _).2 ⟨h2 x u hu, ?_⟩
    exact Maps.sameKey_ne fun e => by
      injection e with _ e
      omega
end

section
variable {P : Program} (w : World) {ops : Array Oper} {rest : List Oper} {o : Oper} {a : Act} {Q : Exit → Act → World → Prop}

/-- 'v, ok := m[k]' -/
theorem wpList_look_is (hg : o.guard = none) (m x : Operand) (t : TypeId) (hop : o.op = Op.lookup t m x true)
    (k e : TypeId) (K : Keyed P k) (hk : P.underlying k = some (.int .i64)) (ht : P.underlying t = some (.map k e)) {z : Value} (hz : (zeroValue e).run P w = .ok z w) (b N : Nat) (f : Nat → Option Value)
    (hm : a.eval m = .map (some b)) (hmap : MapIs P w k b N f) (i : Nat) (hi : i ≤ 9223372036854775807) (hx : a.eval x = .int .i64 (i : Int))
    (hK1 : ∀ v, f i = some v → wpList P ops Q rest (a.put o.dst (.tuple #[v, .bool true])) w)
    (hK2 : ∀ v, f i = none → wpList P ops Q rest (a.put o.dst (.tuple #[v, .bool false])) w) :
    wpList P ops Q (o :: rest) a w := by
  obtain ⟨D, ho, hl⟩ := hmap.look K
  have hwf : (Lit.int .i64 (i : Int)).wf = true := by
    have hmin : IntKind.i64.min = -9223372036854775808 := rfl
    have hmax : IntKind.i64.max = 9223372036854775807 := rfl
    simp only [Lit.wf, Bool.and_eq_true, decide_eq_true_eq]
    omega
  refine wpList_lookup_own_ok w hg m x t hop k e K ht heldR hz (.held z) [] rfl b N D hm ho _ (.int .i64 i) hx (keyOf_int_mk hk hwf) fun v ps hv => ?_
  have h2 := hl i
  have h3 : D.atKey (.int .i64 i) (.held z) = .held v := by
    unfold heldR at hv
    injection hv with hv
    injection hv with hv _
    exact hv.symm
  cases hf : f i with
  | some u =>
    rw [hf] at h2
    obtain ⟨h4, h5⟩ := h2
    rw [h5 (.held z)] at h3
    injection h3 with h3
    rw [h4]
    exact hK1 v (by rw [hf, h3])
  | none =>
    rw [hf] at h2
    rw [show Maps.has D (.int .i64 i) = false from h2]
    exact hK2 v hf

/-- 'm[k] = v' -/
theorem wpList_store_is (hg : o.guard = none) (m x v : Operand) (t : TypeId) (hop : o.op = Op.mapUpdate t m x v)
    (k e : TypeId) (K : Keyed P k) (hk : P.underlying k = some (.int .i64)) (ht : P.underlying t = some (.map k e)) (b N : Nat) (f : Nat → Option Value)
    (hm : a.eval m = .map (some b)) (hmap : MapIs P w k b N f) (hN : N ≤ 9223372036854775806) (i : Nat) (hi : i < N) (u : Value) (hx : a.eval x = .int .i64 (i : Int)) (hv : a.eval v = u)
    (hK : ∀ w', MapIs P w' k b N (fun j => if j = i then some u else f j) → w.grownBy w' (some b) → wpList P ops Q rest (a.put o.dst undef) w') :
    wpList P ops Q (o :: rest) a w := by
  have hmap2 := hmap
  obtain ⟨es, ho, h1, h2⟩ := hmap
  have hwf : (Lit.int .i64 (i : Int)).wf = true := by
    have hmin : IntKind.i64.min = -9223372036854775808 := rfl
    have hmax : IntKind.i64.max = 9223372036854775807 := rfl
    simp only [Lit.wf, Bool.and_eq_true, decide_eq_true_eq]
    omega
  exact wpList_mapUpdate_own w hg m x v t hop k e K ht heldR b N _ hm ho (by unfold maxLen; omega) _ _ (.int .i64 i) hx hv (keyOf_int_mk hk hwf) (.held u) [] rfl
    fun w' hw hgr => hK w' (hmap2.stored K ho h1 h2 hi u hw) hgr

/-- 'delete(m, k)' -/
theorem wpList_delete_is (hg : o.guard = none) (m x : Operand) (t k : TypeId) (hop : o.op = Op.call { callee := Callee.builtin Builtin.delete, args := #[m, x], argTypes := #[t, k] })
    (e : TypeId) (K : Keyed P k) (hk : P.underlying k = some (.int .i64)) (ht : P.underlying t = some (.map k e)) (b N : Nat) (f : Nat → Option Value)
    (hm : a.eval m = .map (some b)) (hmap : MapIs P w k b N f) (i : Nat) (hi : i ≤ 9223372036854775807) (hx : a.eval x = .int .i64 (i : Int))
    (hK : ∀ w', MapIs P w' k b N (fun j => if j = i then none else f j) → w.grownBy w' (some b) → wpList P ops Q rest (a.put o.dst (.tuple #[])) w') :
    wpList P ops Q (o :: rest) a w := by
  obtain ⟨es, ho, h1, h2⟩ := hmap
  have hwf : (Lit.int .i64 (i : Int)).wf = true := by
    have hmin : IntKind.i64.min = -9223372036854775808 := rfl
    have hmax : IntKind.i64.max = 9223372036854775807 := rfl
    simp only [Lit.wf, Bool.and_eq_true, decide_eq_true_eq]
    omega
  exact wpList_delete_own w hg m x t k hop e K ht heldR b N _ hm ho _ (.int .i64 i) hx (keyOf_int_mk hk hwf)
    fun w' hw htu => hK w' (MapIs.dropped K h1 h2 i hw) htu.grown
end

end Go.Proofs.Ytlkapaecaeldpaa
