/-
  A region that draws its order, two of whose operations write into what was there before (each into its own): every operation yields the same value wherever it is run; what holds of the world hangs on which of the two were run.
-/
import Derived.Test.YtlkapaecaeldpaaRegV
set_option linter.unusedVariables false
set_option linter.unusedSimpArgs false
set_option maxRecDepth 16384
namespace Go.Proofs.Ytlkapaecaeldpaa
open Go.RowKit

section
variable {P : Program} {ops : Array Oper} {md : Region.Mode} {S : Array Bool → World → Prop}

def YieldsW (P : Program) (ops : Array Oper) (S : Array Bool → World → Prop) (i : Nat) (o : Oper) (v : Value) (a : Act) : Prop :=
  (Region.wanted o (yielded ops a.tmps) = true ∧ ∀ listed w, listed.size = ops.size → listed.getD i true = false → S listed w → UponS P v (S (listed.setIfInBounds i true)) ((execOp a.eval o).run P w)) ∨
  (Region.wanted o (yielded ops a.tmps) = false ∧ v = undef ∧ ∀ listed w, listed.size = ops.size → listed.getD i true = false → S listed w → S (listed.setIfInBounds i true) w)

theorem YieldsW.of_same {i : Nat} {o : Oper} {v : Value} {a a' : Act} (hy : YieldsW P ops S i o v a) (he : execOp a'.eval o = execOp a.eval o)
    (hw : Region.wanted o (yielded ops a'.tmps) = Region.wanted o (yielded ops a.tmps)) : YieldsW P ops S i o v a' := by
  unfold YieldsW at *
  rw [he, hw]
  exact hy

theorem YieldsW.wpOp {i : Nat} {o : Oper} {v : Value} {a : Act} {Q : Exit → Act → World → Prop} (hi : ops[i]? = some o) (hy : YieldsW P ops S i o v a) {listed : Array Bool} (hz : listed.size = ops.size) (hl : listed.getD i true = false)
    {K : Act → World → Prop} {w : World} (hS : S listed w) (h : ∀ w', S (listed.setIfInBounds i true) w' → K (a.put o.dst v) w') : wpOp P ops Q i K a w := by
  unfold Go.wpOp
  simp only [hi]
  rcases hy with ⟨hw, hv⟩ | ⟨hw, rfl, hv⟩
  · simp only [hw, if_true]
    refine .inl ?_
    have h1 := hv listed w hz hl hS
    unfold Oper.wp
    generalize (execOp a.eval o).run P w = r at *
    cases r with
    | ok n w' =>
      cases n <;> simp only [UponS, Oper.upon] at h1 ⊢
      case value u => obtain ⟨rfl, h2⟩ := h1; exact h _ h2
      case skip => obtain ⟨rfl, h2⟩ := h1; exact h _ h2
      case enter f args =>
        refine Calls.mono h1 fun e w'' he => ?_
        obtain ⟨rfl, h2⟩ := he
        exact h _ h2
    | halt x w' => exact h1.elim
  · simp only [hw, Bool.false_eq_true, if_false]
    exact h _ (hv listed w hz hl hS)

def gWny (P : Program) (md : Region.Mode) (ops : Array Oper) (S : Array Bool → World → Prop) (n : Nat) (L : Array Bool → Act → Prop) : Nat → Array Bool → Act → Prop
  | 0, listed, a => L listed a
  | f + 1, listed, a => Region.ready md ops listed ≠ [] ∧ ∀ i ∈ Region.ready md ops listed, i < n ∧ ∃ o v, ops[i]? = some o ∧ YieldsW P ops S i o v a ∧ gWny P md ops S n L f (listed.setIfInBounds i true) (a.put o.dst v)

theorem wpAny_of_gW {n g : Nat} {L : Array Bool → Act → Prop} {Q : Exit → Act → World → Prop} (hL : ∀ listed a, L listed a → ∀ w, S listed w → wpAny P md ops Q g listed a w) :
    ∀ (f : Nat) (listed : Array Bool) (a : Act), listed.size = ops.size → gWny P md ops S n L f listed a → ∀ w, S listed w → wpAny P md ops Q (f + g) listed a w
  | 0, listed, a, _, h => by intro w hS; rw [Nat.zero_add]; exact hL _ _ h w hS
  | f + 1, listed, a, hz, h => by
    intro w hS
    rw [show f + 1 + g = (f + g) + 1 by omega]
    refine ⟨fun h0 => absurd h0 h.1, fun i hi => ?_⟩
    obtain ⟨_, o, v, ho, hy, hr⟩ := h.2 i hi
    have hun := (mem_ready.1 hi).1
    exact hy.wpOp ho hz hun hS (fun w' hS' => wpAny_of_gW hL f _ _ (by simpa using hz) hr w' hS')

theorem gWny_first {n i : Nat} {oi : Oper} {v : Value} {L : Array Bool → Act → Prop} (hi : ops[i]? = some oi) (hsel : ∀ (j : Nat) (o : Oper) cs b, ops[j]? = some o → o.op ≠ .select cs b)
    (hs : Region.sinkB md ops n = true) (hc : Region.chainB md ops n = true) (hn : n < ops.size) (hin : i < n)
    (hdone : ∀ listed a, L listed a → ∀ j ∈ Region.ready md ops listed, n ≤ j) :
    ∀ (f : Nat) (listed : Array Bool) (a : Act), HeadInv md ops n listed →
      (∀ j oj, ops[j]? = some oj → j ≠ i → listed.getD j true = false → (∀ e ∈ oj.after, Region.binds md e = true → e.on ≠ i) → oi.apart ops oj = true) →
      i ∈ Region.ready md ops listed → YieldsW P ops S i oi v a →
      gWny P md ops S n L f (listed.setIfInBounds i true) (a.put oi.dst v) → gWny P md ops S n L (f + 1) listed a := by
  intro f
  induction f with
  | zero =>
    intro listed a inv _ hr hy H
    have hun := (mem_ready.1 hr).1
    refine ⟨fun h => (by rw [h] at hr; cases hr), fun j hj => ?_⟩
    have hjn : j < n := by
      rcases Nat.lt_or_ge j n with h | h
      · exact h
      · exact absurd hj (tail_waits hs hc hn inv _ i rfl hin hun j h)
    refine ⟨hjn, ?_⟩
    by_cases hji : j = i
    · subst hji; exact ⟨oi, v, hi, hy, H⟩
    · have := hdone _ _ H j (ready_mono hj hji)
      omega
  | succ f ih =>
    intro listed a inv hfree hr hy H
    have hun := (mem_ready.1 hr).1
    refine ⟨fun h => (by rw [h] at hr; cases hr), fun j hj => ?_⟩
    have hjn : j < n := by
      rcases Nat.lt_or_ge j n with h | h
      · exact h
      · exact absurd hj (tail_waits hs hc hn inv _ i rfl hin hun j h)
    refine ⟨hjn, ?_⟩
    by_cases hji : j = i
    · subst hji; exact ⟨oi, v, hi, hy, H⟩
    · obtain ⟨_, oj, u, hoj, hyj, hg⟩ := H.2 j (ready_mono hj hji)
      obtain ⟨hjun, oj', hoj', hall⟩ := mem_ready.1 hj
      obtain rfl : oj' = oj := Option.some.inj (hoj'.symm.trans hoj)
      have hnot : ∀ e ∈ oj'.after, Region.binds md e = true → e.on ≠ i := fun e he hb heq => by
        have h1 := hall e he hb
        rw [heq, getD_both hun] at h1
        cases h1
      obtain ⟨h1, h2, h3⟩ := Oper.apart_spec (hfree j oj' hoj hji hjun hnot)
      have hyj' : YieldsW P ops S j oj' u a := hyj.of_same (execOp_put oj' (fun cs b => hsel j oj' cs b hoj) a oi.dst v h1).symm (wanted_put oj' a oi.dst v h1).symm
      have hyi' : YieldsW P ops S i oi v (a.put oj'.dst u) := hy.of_same (execOp_put oi (fun cs b => hsel i oi cs b hi) a oj'.dst u h3) (wanted_put oi a oj'.dst u h3)
      have hfree' : ∀ k ok, ops[k]? = some ok → k ≠ i → (listed.setIfInBounds j true).getD k true = false →
          (∀ e ∈ ok.after, Region.binds md e = true → e.on ≠ i) → oi.apart ops ok = true := fun k ok hk hki hun hno => by
        refine hfree k ok hk hki ?_ hno
        by_cases hjk : j = k
        · subst hjk; exact hjun
        · rw [getD_set_ne true hjk] at hun; exact hun
      refine ⟨oj', u, hoj, hyj', ih (listed.setIfInBounds j true) (a.put oj'.dst u) (inv.set hj hjn) hfree' (ready_mono hr (Ne.symm hji)) hyi' ?_⟩
      rw [Array.setIfInBounds_comm _ _ hji, ← Act.put_comm a v u h2]
      exact hg

/-- the same, along the text -/
def SeqW (P : Program) (ops : Array Oper) (S : Array Bool → World → Prop) (L : Array Bool → Act → Prop) : Nat → Array Bool → List Oper → Act → Prop
  | _, listed, [], a => L listed a
  | k, listed, o :: l, a => ∃ v, YieldsW P ops S k o v a ∧ SeqW P ops S L (k + 1) (listed.setIfInBounds k true) l (a.put o.dst v)

theorem gWny_lex {n g : Nat} {Lq : Array Bool → Act → Prop} (hsel : Region.noSelect ops = true) (hs : Region.sinkB md ops n = true) (hc : Region.chainB md ops n = true) (hn : n < ops.size) :
    ∀ (l : List Oper) (k : Nat) (listed : Array Bool) (a : Act), (∀ j, j < l.length → l[j]? = ops[k + j]?) → k + l.length = n → HeadInv md ops n listed →
    Region.lexHead md ops g l.length k listed = true → SeqW P ops S Lq k listed l a →
    gWny P md ops S n (fun listed' a' => Region.seqB md ops g n listed' = true ∧ Lq listed' a') l.length listed a
  | [], k, listed, a, _, hk, _, hB, h => by
    have : k = n := by simpa using hk
    subst this
    exact ⟨by simpa [Region.lexHead] using hB, h⟩
  | o :: l, k, listed, a, hl, hk, inv, hB, h => by
    have h0 : ops[k]? = some o := by simpa using (hl 0 (by simp)).symm
    simp only [List.length_cons, Region.lexHead, Bool.and_eq_true] at hB
    obtain ⟨⟨hr, hf⟩, hB'⟩ := hB
    have hkn : k < n := by simp only [List.length_cons] at hk; omega
    have hr' : k ∈ Region.ready md ops listed := by simpa using hr
    obtain ⟨v, hy, hK⟩ := h
    exact gWny_first h0 (Region.noSelect_spec hsel) hs hc hn hkn (fun listed' a' hL => seqB_ready hL.1) l.length listed a inv (Region.free_spec h0 hf) hr' hy
      (gWny_lex hsel hs hc hn l (k + 1) _ _ (fun j hj => by have := hl (j + 1) (by simp; omega); simpa [Nat.add_assoc, Nat.add_comm 1 j] using this) (by simp only [List.length_cons] at hk; omega) (inv.set hr' hkn) hB' hK)

theorem wp_region_w {id : Nat} {Q : Exit → Act → World → Prop} {a : Act} {w : World} {l : List Oper} (n : Nat) (S : Array Bool → World → Prop) (hm : P.follows .mixedOrders = true) (hB : Region.lexTailB .any l.toArray n = true)
    (hS : S (Array.replicate l.toArray.size false) w.drew) (h : SeqW P l.toArray S (fun listed a' => ∀ w', S listed w' → wpList P l.toArray Q (l.drop n) a' w') 0 (Array.replicate l.toArray.size false) (l.take n) a) : (Code.region id l.toArray true).wp P Q a w := by
  simp only [Region.lexTailB, Bool.and_eq_true, decide_eq_true_eq] at hB
  obtain ⟨⟨⟨⟨hsel, hn⟩, hs⟩, hc⟩, hlex⟩ := hB
  have hn' : n < l.length := by simpa using hn
  have htl : (l.take n).length = n := by simp; omega
  have hdl : (l.drop n).length = l.toArray.size - n := by simp
  have inv0 : HeadInv .any l.toArray n (Array.replicate l.toArray.size false) :=
    ⟨by simp, fun j oj _ hl => (by rw [getD_replicate_false] at hl; cases hl), fun t _ ht => getD_in (by simpa using ht) (getD_replicate_false _ _)⟩
  have H := gWny_lex (md := .any) (g := l.toArray.size - n) hsel hs hc hn (l.take n) 0 _ a (fun j hj => by
    have hj' : j < n := by rw [htl] at hj; exact hj
    simp [hj']) (by simpa using htl) inv0 (by rw [htl]; exact hlex) h
  refine wp_region_any hm ?_
  have := wpAny_of_gW (Q := Q) (g := l.toArray.size - n) (fun listed a' hL w' hS' => by
    have := wpAny_of_seq (md := .any) (Q' := Q) (l.drop n) n listed a' w' (fun j => by simp [List.getElem?_drop]) (by rw [hdl]; exact hL.1) (hL.2 w' hS')
    rwa [hdl] at this) _ _ _ (by simp) H w.drew hS
  rw [htl, show n + (l.toArray.size - n) = l.toArray.size by omega] at this
  exact this

/-- what hangs on two operations -/
def On2 (s1 s2 : Nat) (S2 : Bool → Bool → World → Prop) (listed : Array Bool) (w : World) : Prop := S2 (listed.getD s1 false) (listed.getD s2 false) w

theorem getD_set_eq {l : Array Bool} {i : Nat} (h : i < l.size) (d : Bool) : (l.setIfInBounds i true).getD i d = true := by
  simp [Array.getD, h]
theorem getD_set_neq {l : Array Bool} {i j : Nat} (h : i ≠ j) (d : Bool) : (l.setIfInBounds i true).getD j d = l.getD j d := by
  simp only [Array.getD_eq_getD_getElem?, Array.getElem?_setIfInBounds, if_neg h]
theorem getD_false {l : Array Bool} {i : Nat} (h : l.getD i true = false) : l.getD i false = false := by
  simp only [Array.getD_eq_getD_getElem?] at h ⊢
  cases hi : l[i]? with
  | none => rfl
  | some b => rw [hi] at h; simpa using h

variable {s1 s2 : Nat} {S2 : Bool → Bool → World → Prop}

/-- an operation that writes nothing of it -/
theorem SeqW.pure {L : Array Bool → Act → Prop} {k : Nat} {listed : Array Bool} {o : Oper} {l : List Oper} {a : Act} {v : Value} (hSt : ∀ b c w w', S2 b c w → Since w w' → S2 b c w') (h1 : k ≠ s1) (h2 : k ≠ s2) (hw : Region.wanted o (yielded ops a.tmps) = true) (hr : ∀ b c w, S2 b c w → UponS P v (Since w) ((execOp a.eval o).run P w))
    (h : SeqW P ops (On2 s1 s2 S2) L (k + 1) (listed.setIfInBounds k true) l (a.put o.dst v)) : SeqW P ops (On2 s1 s2 S2) L k listed (o :: l) a := by
  refine ⟨v, .inl ⟨hw, fun ls w hz hl hS => ?_⟩, h⟩
  unfold On2 at hS ⊢
  refine UponS.mono (fun w' hs => ?_) (hr _ _ _ hS)
  rw [getD_set_neq h1, getD_set_neq h2]
  exact hSt _ _ _ _ hS hs
theorem SeqW.skip {L : Array Bool → Act → Prop} {k : Nat} {listed : Array Bool} {o : Oper} {l : List Oper} {a : Act} (h1 : k ≠ s1) (h2 : k ≠ s2) (hw : Region.wanted o (yielded ops a.tmps) = false)
    (h : SeqW P ops (On2 s1 s2 S2) L (k + 1) (listed.setIfInBounds k true) l (a.put o.dst undef)) : SeqW P ops (On2 s1 s2 S2) L k listed (o :: l) a := by
  refine ⟨undef, .inr ⟨hw, rfl, fun ls w hz hl hS => ?_⟩, h⟩
  unfold On2 at hS ⊢
  rw [getD_set_neq h1, getD_set_neq h2]
  exact hS
/-- the first of the two -/
theorem SeqW.one {L : Array Bool → Act → Prop} {k : Nat} {listed : Array Bool} {o : Oper} {l : List Oper} {a : Act} {v : Value} (h1 : k = s1) (h2 : k ≠ s2) (hk : k < ops.size) (hw : Region.wanted o (yielded ops a.tmps) = true) (hr : ∀ c w, S2 false c w → UponS P v (S2 true c) ((execOp a.eval o).run P w))
    (h : SeqW P ops (On2 s1 s2 S2) L (k + 1) (listed.setIfInBounds k true) l (a.put o.dst v)) : SeqW P ops (On2 s1 s2 S2) L k listed (o :: l) a := by
  subst h1
  refine ⟨v, .inl ⟨hw, fun ls w hz hl hS => ?_⟩, h⟩
  unfold On2 at hS
  rw [getD_false hl] at hS
  refine UponS.mono (fun w' hs => ?_) (hr _ _ hS)
  unfold On2
  rw [getD_set_eq (by omega), getD_set_neq h2]
  exact hs
/-- the second -/
theorem SeqW.two {L : Array Bool → Act → Prop} {k : Nat} {listed : Array Bool} {o : Oper} {l : List Oper} {a : Act} {v : Value} (h1 : k ≠ s1) (h2 : k = s2) (hk : k < ops.size) (hw : Region.wanted o (yielded ops a.tmps) = true) (hr : ∀ b w, S2 b false w → UponS P v (S2 b true) ((execOp a.eval o).run P w))
    (h : SeqW P ops (On2 s1 s2 S2) L (k + 1) (listed.setIfInBounds k true) l (a.put o.dst v)) : SeqW P ops (On2 s1 s2 S2) L k listed (o :: l) a := by
  subst h2
  refine ⟨v, .inl ⟨hw, fun ls w hz hl hS => ?_⟩, h⟩
  unfold On2 at hS
  rw [getD_false hl] at hS
  refine UponS.mono (fun w' hs => ?_) (hr _ _ hS)
  unfold On2
  rw [getD_set_eq (by omega), getD_set_neq h1]
  exact hs

/-- A region that draws its order, two of whose operations write. -/
theorem wp_region_2 {id : Nat} {Q : Exit → Act → World → Prop} {a : Act} {w : World} {l : List Oper} (n s1 s2 : Nat) (S2 : Bool → Bool → World → Prop) (hm : P.follows .mixedOrders = true) (hB : Region.lexTailB .any l.toArray n = true)
    (hS : S2 false false w.drew) (h : SeqW P l.toArray (On2 s1 s2 S2) (fun listed a' => ∀ w', On2 s1 s2 S2 listed w' → wpList P l.toArray Q (l.drop n) a' w') 0 (Array.replicate l.toArray.size false) (l.take n) a) : (Code.region id l.toArray true).wp P Q a w := by
  refine wp_region_w n (On2 s1 s2 S2) hm hB ?_ h
  unfold On2
  have e : ∀ i, (Array.replicate l.toArray.size false).getD i false = false := fun i => by
    simp only [Array.getD_eq_getD_getElem?, Array.getElem?_replicate]
    split <;> rfl
  rw [e, e]
  exact hS
end

end Go.Proofs.Ytlkapaecaeldpaa
