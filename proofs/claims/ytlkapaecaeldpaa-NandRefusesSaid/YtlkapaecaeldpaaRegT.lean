/-
  A region that draws its order, several of whose operations make objects (their addresses hang on the order): it is walked in the order of its text; a tied operation's value is any of which its own fact holds.
-/
import Derived.Test.YtlkapaecaeldpaaRegV
set_option linter.unusedVariables false
set_option linter.unusedSimpArgs false
set_option maxRecDepth 16384
namespace Go.Proofs.Ytlkapaecaeldpaa
open Go.RowKit

section
variable {P : Program} {ops : Array Oper} {md : Region.Mode} {S : Bool → World → Prop}

/-- an operation that yields the value v, at whatever world meets S -/
def YieldsA (P : Program) (ops : Array Oper) (S : Bool → World → Prop) (o : Oper) (v : Value) (a : Act) : Prop :=
  (Region.wanted o (yielded ops a.tmps) = true ∧ ∀ b w, S b w → UponS P v (Since w) ((execOp a.eval o).run P w)) ∨
  (Region.wanted o (yielded ops a.tmps) = false ∧ v = undef)

theorem YieldsA.wpOp {S' : World → Prop} {b : Bool} (hA : ∀ w, S' w → S b w) (hB : ∀ w w', S' w → Since w w' → S' w') {i : Nat} {o : Oper} {v : Value} {a : Act} {Q : Exit → Act → World → Prop} (hi : ops[i]? = some o) (hy : YieldsA P ops S o v a)
    {K : Act → World → Prop} {w : World} (hS : S' w) (h : ∀ w', S' w' → K (a.put o.dst v) w') : wpOp P ops Q i K a w := by
  refine YieldsC.wpOp (S := S') hi ?_ hS h
  rcases hy with ⟨hw, hv⟩ | h2
  · refine .inl ⟨hw, fun w1 h1 => ?_⟩
    exact UponS.mono (fun w2 h2 => hB _ _ h1 h2) (hv b w1 (hA _ h1))
  · exact .inr h2

/-- what a tied operation's run must come to -/
def UponT (P : Program) (R : Value → World → Prop) : Result Next → Prop
  | .ok (.value u) w' => R u w'
  | .ok .skip w' => R undef w'
  | .ok (.enter f args) w' => Calls P f args w' fun e w'' => ∃ v, e = .returned v ∧ R v w''
  | _ => False

theorem UponT.value {R : Value → World → Prop} {u : Value} {w : World} (h : R u w) : UponT P R (.ok (.value u) w) := h
theorem UponT.call {R : Value → World → Prop} {w : World} {f : FuncId} {args : Array Value} (h : Calls P f args w fun e w'' => ∃ v, e = .returned v ∧ R v w'') : UponT P R (.ok (.enter f args) w) := h

/-- the tied operations, each with those whose values it takes -/
abbrev Ties := List (Nat × List Nat)
def Ties.has (T : Ties) (i : Nat) : Bool := T.any fun x => x.1 == i
def Ties.deps (T : Ties) (i : Nat) : List Nat := ((T.find? fun x => x.1 == i).map (·.2)).getD []

theorem Ties.deps_mem {T : Ties} {i d : Nat} (h : d ∈ T.deps i) : ∃ ds, (i, ds) ∈ T ∧ d ∈ ds := by
  unfold Ties.deps at h
  cases hf : T.find? fun x => x.1 == i with
  | none => rw [hf] at h; simp at h
  | some x =>
    rw [hf] at h
    simp only [Option.map_some, Option.getD_some] at h
    have h1 := List.mem_of_find?_eq_some hf
    have h2 := List.find?_some hf
    simp only [beq_iff_eq] at h2
    exact ⟨x.2, by rw [← h2]; exact h1, h⟩
theorem Ties.has_mem {T : Ties} {i : Nat} (h : T.has i = true) : ∃ ds, (i, ds) ∈ T := by
  unfold Ties.has at h
  rw [List.any_eq_true] at h
  obtain ⟨x, hx, he⟩ := h
  simp only [beq_iff_eq] at he
  exact ⟨x.2, by rw [← he]; exact hx⟩

/-- what is known of the tied ones that were run -/
abbrev Known := Nat → Option (Value × Nat × Nat)

variable {J : Nat → Value → Nat → Nat → World → Prop} {T : Ties} {s n : Nat} {val : Nat → Value}

/-- what is known of those whose values an operation takes -/
structure Knows (J : Nat → Value → Nat → Nat → World → Prop) (ds : List Nat) (p : Known) (w : World) : Prop where
  all : ∀ d ∈ ds, ∀ v lo hi, p d = some (v, lo, hi) → J d v lo hi w
  le : ∀ d ∈ ds, ∀ v lo hi, p d = some (v, lo, hi) → hi ≤ w.heap.size
  apart : ∀ d ∈ ds, ∀ d' ∈ ds, ∀ v lo hi v' lo' hi', d ≠ d' → p d = some (v, lo, hi) → p d' = some (v', lo', hi') → hi ≤ lo' ∨ hi' ≤ lo
theorem Knows.less {J : Nat → Value → Nat → Nat → World → Prop} {ds : List Nat} {p p' : Known} {w : World} (hd : Knows J ds p w) (h : ∀ d ∈ ds, ∀ v, p' d = some v → p d = some v) : Knows J ds p' w :=
  ⟨fun d hm v lo hi hv => hd.all d hm v lo hi (h d hm _ hv), fun d hm v lo hi hv => hd.le d hm v lo hi (h d hm _ hv),
    fun d hm d' hm' v lo hi v' lo' hi' hne hv hv' => hd.apart d hm d' hm' v lo hi v' lo' hi' hne (h d hm _ hv) (h d' hm' _ hv')⟩

def TX (P : Program) (ops : Array Oper) (S : Bool → World → Prop) (J : Nat → Value → Nat → Nat → World → Prop) (T : Ties) (s i : Nat) (o : Oper) (a : Act) (p : Known) : Prop :=
  Region.wanted o (yielded ops a.tmps) = true ∧ ∀ w, S (p s).isSome w → Knows J (T.deps i) p w → UponT P (fun v w' => J i v w.heap.size w'.heap.size w' ∧ if i = s then S true w' else Since w w') ((execOp a.eval o).run P w)

def YT (P : Program) (ops : Array Oper) (S : Bool → World → Prop) (J : Nat → Value → Nat → Nat → World → Prop) (T : Ties) (s : Nat) (val : Nat → Value) (i : Nat) (o : Oper) (a : Act) (p : Known) : Prop :=
  if T.has i = true then TX P ops S J T s i o a p else YieldsA P ops S o (val i) a

def nxtT (T : Ties) (s i : Nat) (p : Known) (v : Value) (lo hi : Nat) : Known := if T.has i = true then (if i = s then fun d => if d = s then some (v, lo, hi) else none else fun d => if d = i then some (v, lo, hi) else p d) else p

def VT (T : Ties) (val : Nat → Value) (i : Nat) (v : Value) : Prop := T.has i = true ∨ v = val i

theorem YT.of_same {i : Nat} {o : Oper} {a a' : Act} {p : Known} (hy : YT P ops S J T s val i o a p) (he : execOp a'.eval o = execOp a.eval o)
    (hw : Region.wanted o (yielded ops a'.tmps) = Region.wanted o (yielded ops a.tmps)) : YT P ops S J T s val i o a' p := by
  unfold YT TX YieldsA at *
  rw [he, hw]
  exact hy

theorem YT.of_known {i : Nat} {o : Oper} {a : Act} {p p' : Known} (hq : T.has i = true → (p' s).isSome = (p s).isSome) (h : ∀ d ∈ T.deps i, ∀ v, p' d = some v → p d = some v) (hy : YT P ops S J T s val i o a p') : YT P ops S J T s val i o a p := by
  unfold YT at *
  split
  · rename_i ht
    rw [if_pos ht] at hy
    exact ⟨hy.1, fun w hw hd => hy.2 w (by rw [hq ht]; exact hw) (hd.less h)⟩
  · rename_i ht
    rwa [if_neg ht] at hy

def gT (P : Program) (md : Region.Mode) (ops : Array Oper) (S : Bool → World → Prop) (J : Nat → Value → Nat → Nat → World → Prop) (T : Ties) (s n : Nat) (val : Nat → Value) (L : Known → Array Bool → Act → Prop) : Nat → Known → Array Bool → Act → Prop
  | 0, p, listed, a => L p listed a
  | f + 1, p, listed, a => Region.ready md ops listed ≠ [] ∧ ∀ i ∈ Region.ready md ops listed, i < n ∧ ∃ o, ops[i]? = some o ∧ YT P ops S J T s val i o a p ∧
      ∀ v lo hi, VT T val i v → gT P md ops S J T s n val L f (nxtT T s i p v lo hi) (listed.setIfInBounds i true) (a.put o.dst v)

structure InvT (J : Nat → Value → Nat → Nat → World → Prop) (p : Known) (w : World) : Prop where
  all : ∀ d v lo hi, p d = some (v, lo, hi) → J d v lo hi w
  le : ∀ d v lo hi, p d = some (v, lo, hi) → hi ≤ w.heap.size
  apart : ∀ d v lo hi d' v' lo' hi', d ≠ d' → p d = some (v, lo, hi) → p d' = some (v', lo', hi') → hi ≤ lo' ∨ hi' ≤ lo

theorem InvT.keep {p : Known} {w w' : World} (hJ : ∀ i v lo hi w w', J i v lo hi w → Since w w' → J i v lo hi w') (hp : InvT J p w) (hs : Since w w') : InvT J p w' :=
  ⟨fun d v lo hi h => hJ _ _ _ _ _ _ (hp.all d v lo hi h) hs, fun d v lo hi h => Nat.le_trans (hp.le d v lo hi h) hs.below.size, hp.apart⟩

theorem InvT.next {p : Known} {i : Nat} {v : Value} {w w' : World} (hJ : ∀ i v lo hi w w', J i v lo hi w → Since w w' → J i v lo hi w') (hp : InvT J p w) (ht : T.has i = true) (h1 : J i v w.heap.size w'.heap.size w') (h2 : if i = s then S true w' else Since w w') : InvT J (nxtT T s i p v w.heap.size w'.heap.size) w' := by
  by_cases his : i = s
  · have hn : ∀ d u lo hi, nxtT T s i p v w.heap.size w'.heap.size d = some (u, lo, hi) → d = i ∧ u = v ∧ lo = w.heap.size ∧ hi = w'.heap.size := by
      intro d u lo hi hu
      unfold nxtT at hu
      rw [if_pos ht, if_pos his] at hu
      split at hu
      · rename_i hd
        simp only [Option.some.injEq, Prod.mk.injEq] at hu
        exact ⟨hd.trans his.symm, hu.1.symm, hu.2.1.symm, hu.2.2.symm⟩
      · cases hu
    refine ⟨fun d u lo hi hu => ?_, fun d u lo hi hu => ?_, fun d u lo hi d' u' lo' hi' hne hu hu' => ?_⟩
    · obtain ⟨rfl, rfl, rfl, rfl⟩ := hn d u lo hi hu; exact h1
    · obtain ⟨rfl, rfl, rfl, rfl⟩ := hn d u lo hi hu; exact Nat.le_refl _
    · exact absurd ((hn d u lo hi hu).1.trans (hn d' u' lo' hi' hu').1.symm) hne
  · rw [if_neg his] at h2
    have hk := hp.keep hJ h2
    have hn : ∀ d u lo hi, nxtT T s i p v w.heap.size w'.heap.size d = some (u, lo, hi) → (d = i ∧ u = v ∧ lo = w.heap.size ∧ hi = w'.heap.size) ∨ (d ≠ i ∧ p d = some (u, lo, hi)) := by
      intro d u lo hi hu
      unfold nxtT at hu
      rw [if_pos ht, if_neg his] at hu
      split at hu
      · rename_i hd
        simp only [Option.some.injEq, Prod.mk.injEq] at hu
        exact .inl ⟨hd, hu.1.symm, hu.2.1.symm, hu.2.2.symm⟩
      · rename_i hd
        exact .inr ⟨hd, hu⟩
    refine ⟨fun d u lo hi hu => ?_, fun d u lo hi hu => ?_, fun d u lo hi d' u' lo' hi' hne hu hu' => ?_⟩
    · rcases hn d u lo hi hu with ⟨rfl, rfl, rfl, rfl⟩ | ⟨_, h⟩
      · exact h1
      · exact hk.all d u lo hi h
    · rcases hn d u lo hi hu with ⟨rfl, rfl, rfl, rfl⟩ | ⟨_, h⟩
      · exact Nat.le_refl _
      · exact hk.le d u lo hi h
    · rcases hn d u lo hi hu with ⟨h3, _, h4, h5⟩ | ⟨h3, h⟩
      · rcases hn d' u' lo' hi' hu' with ⟨h3', _, h4', h5'⟩ | ⟨h3', h'⟩
        · exact absurd (h3.trans h3'.symm) hne
        · exact .inr (h4 ▸ hp.le d' u' lo' hi' h')
      · rcases hn d' u' lo' hi' hu' with ⟨h3', _, h4', h5'⟩ | ⟨h3', h'⟩
        · exact .inl (h4' ▸ hp.le d u lo hi h)
        · exact hp.apart d u lo hi d' u' lo' hi' hne h h'

theorem nxtT_phase {i : Nat} {p : Known} {v : Value} {lo hi' : Nat} (hi : T.has i = true) : ((nxtT T s i p v lo hi') s).isSome = if i = s then true else (p s).isSome := by
  unfold nxtT
  rw [if_pos hi]
  by_cases h : i = s
  · rw [if_pos h, if_pos h]; simp
  · rw [if_neg h, if_neg h, if_neg (fun e => h e.symm)]

theorem wpAny_of_gT (hSt : ∀ b w w', S b w → Since w w' → S b w') (hJ : ∀ i v lo hi w w', J i v lo hi w → Since w w' → J i v lo hi w') {g : Nat} {L : Known → Array Bool → Act → Prop} {Q : Exit → Act → World → Prop}
    (hL : ∀ p listed a, L p listed a → ∀ w, S (p s).isSome w → InvT J p w → wpAny P md ops Q g listed a w) :
    ∀ (f : Nat) (p : Known) (listed : Array Bool) (a : Act), gT P md ops S J T s n val L f p listed a → ∀ w, S (p s).isSome w → InvT J p w → wpAny P md ops Q (f + g) listed a w
  | 0, p, listed, a, h => by intro w hS hp; rw [Nat.zero_add]; exact hL _ _ _ h w hS hp
  | f + 1, p, listed, a, h => by
    intro w hS hp
    rw [show f + 1 + g = (f + g) + 1 by omega]
    refine ⟨fun h0 => absurd h0 h.1, fun i hi => ?_⟩
    obtain ⟨_, o, ho, hy, hr⟩ := h.2 i hi
    by_cases ht : T.has i = true
    · unfold YT at hy
      rw [if_pos ht] at hy
      obtain ⟨hw, hx⟩ := hy
      have hx := hx w hS ⟨fun d _ => hp.all d, fun d _ => hp.le d, fun d _ d' _ v lo hi v' lo' hi' => hp.apart d v lo hi d' v' lo' hi'⟩
      have key : ∀ v w', (J i v w.heap.size w'.heap.size w' ∧ if i = s then S true w' else Since w w') → wpAny P md ops Q (f + g) (listed.setIfInBounds i true) (a.put o.dst v) w' := fun v w' hv => by
        refine wpAny_of_gT hSt hJ hL f _ _ _ (hr v w.heap.size w'.heap.size (.inl ht)) w' ?_ (hp.next (S := S) hJ ht hv.1 hv.2)
        rw [nxtT_phase ht]
        have := hv.2
        split at this
        · rename_i h; rw [if_pos h]; exact this
        · rename_i h; rw [if_neg h]; exact hSt _ _ _ hS this
      unfold Go.wpOp
      simp only [ho, hw, if_true]
      refine .inl ?_
      unfold Oper.wp
      generalize (execOp a.eval o).run P w = r at *
      cases r with
      | ok nx w' =>
        cases nx <;> simp only [UponT, Oper.upon] at hx ⊢
        case value u => exact key u w' hx
        case skip => exact key undef w' hx
        case enter f args =>
          refine Calls.mono hx fun e w'' he => ?_
          obtain ⟨v, rfl, h2⟩ := he
          exact key v w'' h2
      | halt x w' => exact hx.elim
    · unfold YT at hy
      rw [if_neg ht] at hy
      have hr' := hr (val i) 0 0 (.inr rfl)
      unfold nxtT at hr'
      rw [if_neg ht] at hr'
      exact hy.wpOp (S' := fun w1 => S (p s).isSome w1 ∧ InvT J p w1) (fun w1 h1 => h1.1) (fun w1 w2 h1 h2 => ⟨hSt _ _ _ h1.1 h2, h1.2.keep hJ h2⟩) ho ⟨hS, hp⟩ (fun w' hS' => wpAny_of_gT hSt hJ hL f _ _ _ hr' w' hS'.1 hS'.2)

/-- operation i waits for operation j, at once or through others -/
def waitsF (md : Region.Mode) (ops : Array Oper) : Nat → Nat → Nat → Bool
  | 0, _, _ => false
  | f + 1, i, j => match ops[i]? with | some o => o.after.any fun e => Region.binds md e && (e.on == j || waitsF md ops f e.on j) | none => false
def waitsT (md : Region.Mode) (ops : Array Oper) (i j : Nat) : Bool := waitsF md ops 3 i j
/-- each tied one waits for those whose values it takes; and none stands free beside the one that writes -/
def tiesB (md : Region.Mode) (ops : Array Oper) (T : Ties) (s : Nat) : Bool := T.all fun x => x.2.all (fun d => waitsT md ops x.1 d) && (decide (ops.size ≤ s) || x.1 == s || waitsT md ops s x.1 || waitsT md ops x.1 s)

theorem waitsF_listed {listed : Array Bool} (inv : HeadInv md ops n listed) {j : Nat} : ∀ (f i : Nat) (o : Oper), ops[i]? = some o → (∀ e ∈ o.after, Region.binds md e = true → listed.getD e.on false = true) → waitsF md ops f i j = true → listed.getD j false = true
  | 0, i, o, _, _, h => by cases h
  | f + 1, i, o, ho, hall, h => by
    unfold waitsF at h
    rw [ho] at h
    simp only [Array.any_eq_true', Bool.and_eq_true, Bool.or_eq_true, beq_iff_eq] at h
    obtain ⟨e, he, hb, hm⟩ := h
    have h1 := hall e he hb
    rcases hm with hm | hm
    · rw [← hm]; exact h1
    · have hsz : e.on < ops.size := by
        have : e.on < listed.size := by
          rcases Nat.lt_or_ge e.on listed.size with h2 | h2
          · exact h2
          · simp [Array.getElem?_eq_none h2] at h1
        rw [← inv.size]; exact this
      have ho2 : ops[e.on]? = some ops[e.on] := Array.getElem?_eq_getElem hsz
      exact waitsF_listed inv f e.on _ ho2 (fun e2 he2 hb2 => inv.closed _ _ ho2 h1 e2 he2 hb2) hm

theorem waitsT_not {listed : Array Bool} (inv : HeadInv md ops n listed) {i j : Nat} (hi : i ∈ Region.ready md ops listed) (hj : j ∈ Region.ready md ops listed) : waitsT md ops i j = true → False := by
  intro hw
  obtain ⟨_, o, ho, hall⟩ := mem_ready.1 hi
  have hun := (mem_ready.1 hj).1
  have h1 := waitsF_listed inv 3 i o ho hall hw
  rw [getD_both hun] at h1
  cases h1

theorem tiesB_deps (hT : tiesB md ops T s = true) {i d : Nat} (h : d ∈ T.deps i) : waitsT md ops i d = true := by
  obtain ⟨ds, h1, h2⟩ := Ties.deps_mem h
  unfold tiesB at hT
  rw [List.all_eq_true] at hT
  have := hT _ h1
  simp only [Bool.and_eq_true, List.all_eq_true] at this
  exact this.1 d h2
theorem tiesB_writer (hT : tiesB md ops T s = true) {i : Nat} (h : T.has i = true) : ops.size ≤ s ∨ i = s ∨ waitsT md ops s i = true ∨ waitsT md ops i s = true := by
  obtain ⟨ds, h1⟩ := Ties.has_mem h
  unfold tiesB at hT
  rw [List.all_eq_true] at hT
  have := hT _ h1
  simp only [Bool.and_eq_true, Bool.or_eq_true, decide_eq_true_eq, beq_iff_eq] at this
  rcases this.2 with ((h | h) | h) | h
  · exact .inl h
  · exact .inr (.inl h)
  · exact .inr (.inr (.inl h))
  · exact .inr (.inr (.inr h))

/-- of two that are ready at once the one that writes is none, or the other is not tied -/
theorem tiesB_apart (hT : tiesB md ops T s = true) {listed : Array Bool} (inv : HeadInv md ops n listed) {i j : Nat} (hij : j ≠ i) (hi : i ∈ Region.ready md ops listed) (hj : j ∈ Region.ready md ops listed) : T.has i = true → j ≠ s := by
  intro h hjs
  rcases tiesB_writer hT h with h1 | h1 | h1 | h1
  · obtain ⟨_, o, ho, _⟩ := mem_ready.1 hj
    have := (Array.getElem?_eq_some_iff.1 ho).1
    omega
  · exact hij (hjs.trans h1.symm)
  · exact waitsT_not inv hj hi (hjs ▸ h1)
  · exact waitsT_not inv hi hj (hjs ▸ h1)

theorem nxtT_comm {i j : Nat} (h : j ≠ i) (h1 : T.has i = true → j ≠ s) (h2 : T.has j = true → i ≠ s) (p : Known) (u v : Value) (lo hi lo' hi' : Nat) : nxtT T s i (nxtT T s j p u lo hi) v lo' hi' = nxtT T s j (nxtT T s i p v lo' hi') u lo hi := by
  unfold nxtT
  by_cases ti : T.has i = true <;> by_cases tj : T.has j = true
  · simp only [ti, tj, if_true, h1 ti, h2 tj, if_false]
    funext d
    by_cases e1 : d = i <;> by_cases e2 : d = j <;> simp [e1, e2] <;> omega
  · simp only [ti, tj, if_true, if_false, Bool.false_eq_true]
  · simp only [ti, tj, if_true, if_false, Bool.false_eq_true]
  · simp only [ti, tj, if_false, Bool.false_eq_true]

theorem gT_first (hT : tiesB md ops T s = true) {i : Nat} {oi : Oper} {L : Known → Array Bool → Act → Prop} (hi : ops[i]? = some oi) (hsel : ∀ (j : Nat) (o : Oper) cs b, ops[j]? = some o → o.op ≠ .select cs b)
    (hs : Region.sinkB md ops n = true) (hc : Region.chainB md ops n = true) (hn : n < ops.size) (hin : i < n)
    (hdone : ∀ p listed a, L p listed a → ∀ j ∈ Region.ready md ops listed, n ≤ j) :
    ∀ (f : Nat) (p : Known) (listed : Array Bool) (a : Act), HeadInv md ops n listed →
      (∀ j oj, ops[j]? = some oj → j ≠ i → listed.getD j true = false → (∀ e ∈ oj.after, Region.binds md e = true → e.on ≠ i) → oi.apart ops oj = true) →
      i ∈ Region.ready md ops listed → YT P ops S J T s val i oi a p →
      (∀ v lo hi, VT T val i v → gT P md ops S J T s n val L f (nxtT T s i p v lo hi) (listed.setIfInBounds i true) (a.put oi.dst v)) → gT P md ops S J T s n val L (f + 1) p listed a := by
  intro f
  induction f with
  | zero =>
    intro p listed a inv _ hr hy H
    have hun := (mem_ready.1 hr).1
    refine ⟨fun h => (by rw [h] at hr; cases hr), fun j hj => ?_⟩
    have hjn : j < n := by
      rcases Nat.lt_or_ge j n with h | h
      · exact h
      · exact absurd hj (tail_waits hs hc hn inv _ i rfl hin hun j h)
    refine ⟨hjn, ?_⟩
    by_cases hji : j = i
    · subst hji; exact ⟨oi, hi, hy, H⟩
    · have := hdone _ _ _ (H (val i) 0 0 (.inr rfl)) j (ready_mono hj hji)
      omega
  | succ f ih =>
    intro p listed a inv hfree hr hy H
    have hun := (mem_ready.1 hr).1
    refine ⟨fun h => (by rw [h] at hr; cases hr), fun j hj => ?_⟩
    have hjn : j < n := by
      rcases Nat.lt_or_ge j n with h | h
      · exact h
      · exact absurd hj (tail_waits hs hc hn inv _ i rfl hin hun j h)
    refine ⟨hjn, ?_⟩
    by_cases hji : j = i
    · subst hji; exact ⟨oi, hi, hy, H⟩
    · have hp1 : T.has i = true → j ≠ s := tiesB_apart hT inv hji hr hj
      have hp2 : T.has j = true → i ≠ s := tiesB_apart hT inv (Ne.symm hji) hj hr
      have hdj : ∀ d ∈ T.deps j, d ≠ i := fun d hd e => waitsT_not inv hj hr (e ▸ tiesB_deps hT hd)
      have hdi : ∀ d ∈ T.deps i, d ≠ j := fun d hd e => waitsT_not inv hr hj (e ▸ tiesB_deps hT hd)
      obtain ⟨_, oj, hoj, hyj, _⟩ := (H (val i) 0 0 (.inr rfl)).2 j (ready_mono hj hji)
      obtain ⟨hjun, oj', hoj', hall⟩ := mem_ready.1 hj
      obtain rfl : oj' = oj := Option.some.inj (hoj'.symm.trans hoj)
      have hnot : ∀ e ∈ oj'.after, Region.binds md e = true → e.on ≠ i := fun e he hb heq => by
        have h1 := hall e he hb
        rw [heq, getD_both hun] at h1
        cases h1
      obtain ⟨h1, h2, h3⟩ := Oper.apart_spec (hfree j oj' hoj hji hjun hnot)
      have hyj' : YT P ops S J T s val j oj' a p := (hyj.of_same (execOp_put oj' (fun cs b => hsel j oj' cs b hoj) a oi.dst (val i) h1).symm (wanted_put oj' a oi.dst (val i) h1).symm).of_known (fun htj => by
        by_cases hti : T.has i = true
        · rw [nxtT_phase hti, if_neg (hp2 htj)]
        · unfold nxtT; rw [if_neg hti]) fun d hd v hv => by
        have hne := hdj d hd
        unfold nxtT at hv
        split at hv
        · split at hv
          · rename_i his
            simp only at hv
            rw [if_neg (fun e => hne (e.trans his.symm))] at hv
            cases hv
          · simp only at hv
            rwa [if_neg hne] at hv
        · exact hv
      refine ⟨oj', hoj, hyj', fun u lo hi' hu => ?_⟩
      have hyi' : YT P ops S J T s val i oi (a.put oj'.dst u) (nxtT T s j p u lo hi') := (hy.of_same (execOp_put oi (fun cs b => hsel i oi cs b hi) a oj'.dst u h3) (wanted_put oi a oj'.dst u h3)).of_known (fun hti => by
        by_cases htj : T.has j = true
        · rw [nxtT_phase htj, if_neg (hp1 hti)]
        · unfold nxtT; rw [if_neg htj]) fun d hd v hv => by
        have hne := hdi d hd
        have hti : T.has i = true := by
          obtain ⟨ds, h1, _⟩ := Ties.deps_mem hd
          unfold Ties.has
          rw [List.any_eq_true]
          exact ⟨_, h1, by simp⟩
        unfold nxtT
        split
        · rw [if_neg (hp1 hti), if_neg hne]
          exact hv
        · exact hv
      have hfree' : ∀ k ok, ops[k]? = some ok → k ≠ i → (listed.setIfInBounds j true).getD k true = false →
          (∀ e ∈ ok.after, Region.binds md e = true → e.on ≠ i) → oi.apart ops ok = true := fun k ok hk hki hun hno => by
        refine hfree k ok hk hki ?_ hno
        by_cases hjk : j = k
        · subst hjk; exact hjun
        · rw [getD_set_ne true hjk] at hun; exact hun
      refine ih _ (listed.setIfInBounds j true) (a.put oj'.dst u) (inv.set hj hjn) hfree' (ready_mono hr (Ne.symm hji)) hyi' fun v lo2 hi2 hv => ?_
      obtain ⟨_, oj2, hoj2, _, hg⟩ := (H v lo2 hi2 hv).2 j (ready_mono hj hji)
      obtain rfl : oj2 = oj' := Option.some.inj (hoj2.symm.trans hoj)
      have hg' := hg u lo hi' hu
      rw [Array.setIfInBounds_comm _ _ hji, nxtT_comm hji hp1 hp2, ← Act.put_comm a v u h2]
      exact hg'

/-- along the text -/
def SeqT (P : Program) (ops : Array Oper) (S : Bool → World → Prop) (J : Nat → Value → Nat → Nat → World → Prop) (T : Ties) (s : Nat) (vs : List Value) (L : Known → Act → Prop) : Nat → Known → List Oper → Act → Prop
  | _, p, [], a => L p a
  | k, p, o :: l, a => YT P ops S J T s (fun i => vs.getD i undef) k o a p ∧ ∀ v lo hi, VT T (fun i => vs.getD i undef) k v → SeqT P ops S J T s vs L (k + 1) (nxtT T s k p v lo hi) l (a.put o.dst v)

theorem gT_lex {vs : List Value} (hT : tiesB md ops T s = true) {g : Nat} {Lq : Known → Act → Prop} (hsel : Region.noSelect ops = true) (hs : Region.sinkB md ops n = true) (hc : Region.chainB md ops n = true) (hn : n < ops.size) :
    ∀ (l : List Oper) (k : Nat) (p : Known) (listed : Array Bool) (a : Act), (∀ j, j < l.length → l[j]? = ops[k + j]?) → k + l.length = n → HeadInv md ops n listed →
    Region.lexHead md ops g l.length k listed = true → SeqT P ops S J T s vs Lq k p l a →
    gT P md ops S J T s n (fun i => vs.getD i undef) (fun p' listed' a' => Region.seqB md ops g n listed' = true ∧ Lq p' a') l.length p listed a
  | [], k, p, listed, a, _, hk, _, hB, h => by
    have : k = n := by simpa using hk
    subst this
    exact ⟨by simpa [Region.lexHead] using hB, h⟩
  | o :: l, k, p, listed, a, hl, hk, inv, hB, h => by
    have h0 : ops[k]? = some o := by simpa using (hl 0 (by simp)).symm
    simp only [List.length_cons, Region.lexHead, Bool.and_eq_true] at hB
    obtain ⟨⟨hr, hf⟩, hB'⟩ := hB
    have hkn : k < n := by simp only [List.length_cons] at hk; omega
    have hr' : k ∈ Region.ready md ops listed := by simpa using hr
    obtain ⟨hy, hK⟩ := h
    exact gT_first hT h0 (Region.noSelect_spec hsel) hs hc hn hkn (fun p' listed' a' hL => seqB_ready hL.1) l.length p listed a inv (Region.free_spec h0 hf) hr' hy
      (fun v lo hi hv => gT_lex hT hsel hs hc hn l (k + 1) _ _ _ (fun j hj => by have := hl (j + 1) (by simp; omega); simpa [Nat.add_assoc, Nat.add_comm 1 j] using this) (by simp only [List.length_cons] at hk; omega) (inv.set hr' hkn) hB' (hK v lo hi hv))

/-- A region that draws its order, with tied operations; S holds all the while. -/
theorem wp_region_g {id : Nat} {Q : Exit → Act → World → Prop} {a : Act} {w : World} {l : List Oper} (n : Nat) (T : Ties) (s : Nat) (S : Bool → World → Prop) (J : Nat → Value → Nat → Nat → World → Prop) (vs : List Value) (hm : P.follows .mixedOrders = true) (hB : Region.lexTailB .any l.toArray n = true)
    (hW : tiesB .any l.toArray T s = true) (hS0 : S false w.drew) (hSt : ∀ b w w', S b w → Since w w' → S b w') (hJ : ∀ i v lo hi w w', J i v lo hi w → Since w w' → J i v lo hi w')
    (h : SeqT P l.toArray S J T s vs (fun p a' => ∀ w', S (p s).isSome w' → InvT J p w' → wpList P l.toArray Q (l.drop n) a' w') 0 (fun _ => none) (l.take n) a) : (Code.region id l.toArray true).wp P Q a w := by
  simp only [Region.lexTailB, Bool.and_eq_true, decide_eq_true_eq] at hB
  obtain ⟨⟨⟨⟨hsel, hn⟩, hs⟩, hc⟩, hlex⟩ := hB
  have hn' : n < l.length := by simpa using hn
  have htl : (l.take n).length = n := by simp; omega
  have hdl : (l.drop n).length = l.toArray.size - n := by simp
  have inv0 : HeadInv .any l.toArray n (Array.replicate l.toArray.size false) :=
    ⟨by simp, fun j oj _ hl => (by rw [getD_replicate_false] at hl; cases hl), fun t _ ht => getD_in (by simpa using ht) (getD_replicate_false _ _)⟩
  have H := gT_lex (md := .any) hW (g := l.toArray.size - n) hsel hs hc hn (l.take n) 0 (fun _ => none) _ a (fun j hj => by
    have hj' : j < n := by rw [htl] at hj; exact hj
    simp [hj']) (by simpa using htl) inv0 (by rw [htl]; exact hlex) h
  refine wp_region_any hm ?_
  have := wpAny_of_gT (Q := Q) (g := l.toArray.size - n) hSt hJ (fun p listed' a' hL w' hS' hp => by
    have := wpAny_of_seq (md := .any) (Q' := Q) (l.drop n) n listed' a' w' (fun j => by simp [List.getElem?_drop]) (by rw [hdl]; exact hL.1) (hL.2 w' hS' hp)
    rwa [hdl] at this) _ _ _ _ H w.drew hS0 ⟨nofun, nofun, nofun⟩
  rw [htl, show n + (l.toArray.size - n) = l.toArray.size by omega] at this
  exact this

/-- the same, and all that was there when the region began stays as it was -/
theorem wp_region_t {id : Nat} {Q : Exit → Act → World → Prop} {a : Act} {w : World} {l : List Oper} (n : Nat) (T : Ties) (s : Nat) (J : Nat → Value → Nat → Nat → World → Prop) (vs : List Value) (hm : P.follows .mixedOrders = true) (hB : Region.lexTailB .any l.toArray n = true)
    (hW : tiesB .any l.toArray T s = true) (hJ : ∀ i v lo hi w w', J i v lo hi w → Since w w' → J i v lo hi w')
    (h : SeqT P l.toArray (fun _ => Since w.drew) J T s vs (fun p a' => ∀ w', Since w.drew w' → InvT J p w' → wpList P l.toArray Q (l.drop n) a' w') 0 (fun _ => none) (l.take n) a) : (Code.region id l.toArray true).wp P Q a w :=
  wp_region_g n T s _ J vs hm hB hW (Since.refl _) (fun _ _ _ h1 h2 => h1.trans h2) hJ h

theorem SeqT.skip {vs : List Value} {L : Known → Act → Prop} {k : Nat} {p : Known} {o : Oper} {l : List Oper} {a : Act} (hT : T.has k = false) (hv : vs.getD k undef = undef) (hw : Region.wanted o (yielded ops a.tmps) = false) (h : SeqT P ops S J T s vs L (k + 1) p l (a.put o.dst undef)) : SeqT P ops S J T s vs L k p (o :: l) a := by
  refine ⟨?_, fun v lo hi hv' => ?_⟩
  · unfold YT; rw [if_neg (by rw [hT]; decide)]; exact .inr ⟨hw, hv⟩
  · unfold VT at hv'
    rw [hT] at hv'
    simp only [Bool.false_eq_true, false_or] at hv'
    rw [hv', hv]
    unfold nxtT
    rw [if_neg (by rw [hT]; decide)]
    exact h
theorem SeqT.run {vs : List Value} {L : Known → Act → Prop} {k : Nat} {p : Known} {o : Oper} {l : List Oper} {a : Act} {v : Value} (hT : T.has k = false) (hw : Region.wanted o (yielded ops a.tmps) = true) (hr : ∀ b w, S b w → UponS P v (Since w) ((execOp a.eval o).run P w)) (hv : vs.getD k undef = v) (h : SeqT P ops S J T s vs L (k + 1) p l (a.put o.dst v)) : SeqT P ops S J T s vs L k p (o :: l) a := by
  refine ⟨?_, fun u lo hi hu => ?_⟩
  · unfold YT; rw [if_neg (by rw [hT]; decide)]; exact .inl ⟨hw, by simp only [hv]; exact hr⟩
  · unfold VT at hu
    rw [hT] at hu
    simp only [Bool.false_eq_true, false_or] at hu
    rw [hu, hv]
    unfold nxtT
    rw [if_neg (by rw [hT]; decide)]
    exact h
/-- a tied operation that makes, or only reads -/
theorem SeqT.tie {vs : List Value} {L : Known → Act → Prop} {k : Nat} {p : Known} {o : Oper} {l : List Oper} {a : Act} (hT : T.has k = true) (hs : k ≠ s) (hw : Region.wanted o (yielded ops a.tmps) = true) (hr : ∀ w, S (p s).isSome w → Knows J (T.deps k) p w → UponT P (fun v w' => J k v w.heap.size w'.heap.size w' ∧ Since w w') ((execOp a.eval o).run P w)) (h : ∀ v lo hi, SeqT P ops S J T s vs L (k + 1) (fun d => if d = k then some (v, lo, hi) else p d) l (a.put o.dst v)) : SeqT P ops S J T s vs L k p (o :: l) a := by
  refine ⟨?_, fun u lo hi hu => ?_⟩
  · unfold YT; rw [if_pos hT]; unfold TX; simp only [if_neg hs]; exact ⟨hw, hr⟩
  · unfold nxtT
    rw [if_pos hT, if_neg hs]
    exact h u lo hi
/-- the tied operation that writes into what the region made -/
theorem SeqT.write {vs : List Value} {L : Known → Act → Prop} {k : Nat} {p : Known} {o : Oper} {l : List Oper} {a : Act} (hT : T.has k = true) (hs : k = s) (hw : Region.wanted o (yielded ops a.tmps) = true) (hr : ∀ w, S (p s).isSome w → Knows J (T.deps k) p w → UponT P (fun v w' => J k v w.heap.size w'.heap.size w' ∧ S true w') ((execOp a.eval o).run P w)) (h : ∀ v lo hi, SeqT P ops S J T s vs L (k + 1) (fun d => if d = k then some (v, lo, hi) else none) l (a.put o.dst v)) : SeqT P ops S J T s vs L k p (o :: l) a := by
  subst hs
  refine ⟨?_, fun u lo hi hu => ?_⟩
  · unfold YT; rw [if_pos hT]; unfold TX; simp only [if_true]; exact ⟨hw, hr⟩
  · unfold nxtT
    rw [if_pos hT, if_pos rfl]
    exact h u lo hi

theorem UponT.append {R : Value → World → Prop} {w w' : World} {o : Oper} {a : Act} (s x : Operand) (t : TypeId) (v xv v' : Value)
    (ho : o.op = .call { callee := .builtin .append, args := #[s, x], argTypes := #[t, t] }) (hs : a.eval s = v) (hx : a.eval x = xv)
    (hr : (Builtin.append_ #[t, t] o.type #[v, xv]).run P w = .ok v' w') (h : R v' w') : UponT P R ((execOp a.eval o).run P w) := by
  unfold execOp
  simp only [ho, resolve, invoke, builtin, Sem.run_bind, Sem.run_pure, Result.andThen_ok, List.map_toArray, List.map_cons, List.map_nil, hs, hx, hr]
  exact h

end
end Go.Proofs.Ytlkapaecaeldpaa
