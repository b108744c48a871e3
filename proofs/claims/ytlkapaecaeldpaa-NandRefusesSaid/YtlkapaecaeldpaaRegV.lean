/-
  A region that draws its order and whose last operation ahead of the tail makes an object (its address hangs on the order): it is walked in the order of its text.
-/
import Derived.Test.YtlkapaecaeldpaaReg
set_option linter.unusedVariables false
set_option linter.unusedSimpArgs false
set_option maxRecDepth 16384
namespace Go.Proofs.Ytlkapaecaeldpaa
open Go.RowKit

section
variable {P : Program} {ops : Array Oper} {md : Region.Mode} {w0 : World}

theorem Since.refl (w : World) : Since w w := Below.refl _ _
theorem Since.trans {w0 w w' : World} (h : Since w0 w) (hb : Since w w') : Since w0 w' := h.step hb

def YieldsB (P : Program) (ops : Array Oper) (w0 : World) (o : Oper) (v : Value) (a : Act) : Prop :=
  (Region.wanted o (yielded ops a.tmps) = true ∧ ∀ w, Since w0 w → UponS P v (Since w) ((execOp a.eval o).run P w)) ∨
  (Region.wanted o (yielded ops a.tmps) = false ∧ v = undef)

theorem UponS.mono {v : Value} {S S' : World → Prop} (hs : ∀ w, S w → S' w) : ∀ {r : Result Next}, UponS P v S r → UponS P v S' r := by
  intro r h
  cases r with
  | halt x w' => exact h
  | ok n w' =>
    cases n <;> simp only [UponS] at h ⊢
    case value u => exact ⟨h.1, hs _ h.2⟩
    case skip => exact ⟨h.1, hs _ h.2⟩
    case enter f args => exact Calls.mono h fun e w'' he => ⟨he.1, hs _ he.2⟩

/-- S is kept by all that only adds -/
structure Adds (w0 : World) (S : World → Prop) : Prop where
  base : ∀ w, S w → Since w0 w
  step : ∀ w w', S w → Since w w' → S w'

theorem YieldsB.wpOp {S : World → Prop} (hA : Adds w0 S) {i : Nat} {o : Oper} {v : Value} {a : Act} {Q : Exit → Act → World → Prop} (hi : ops[i]? = some o) (hy : YieldsB P ops w0 o v a)
    {K : Act → World → Prop} {w : World} (hS : S w) (h : ∀ w', S w' → K (a.put o.dst v) w') : wpOp P ops Q i K a w := by
  refine YieldsC.wpOp (S := fun w' => Since w w') hi ?_ (Since.refl w) (fun w' hw' => h w' (hA.step _ _ hS hw'))
  rcases hy with ⟨hw, hv⟩ | h2
  · refine .inl ⟨hw, fun w1 h1 => ?_⟩
    exact UponS.mono (fun w2 h2 => h1.trans h2) (hv w1 ((hA.base _ hS).trans h1))
  · exact .inr h2

/-- the operation m makes an object of which J tells -/
def Makes (P : Program) (ops : Array Oper) (w0 : World) (J : Value → World → Prop) (o : Oper) (a : Act) : Prop :=
  Region.wanted o (yielded ops a.tmps) = true ∧ ∀ w, Since w0 w → ∃ v w', (execOp a.eval o).run P w = .ok (.value v) w' ∧ J v w' ∧ Since w w'

/-- the operation st stores into it, and then J2 tells of it -/
def Stores (P : Program) (ops : Array Oper) (w0 : World) (J J2 : Value → World → Prop) (v : Value) (o : Oper) (a : Act) : Prop :=
  Region.wanted o (yielded ops a.tmps) = true ∧ ∀ w, Since w0 w → J v w → ∃ w', ((execOp a.eval o).run P w = .ok .skip w' ∨ (execOp a.eval o).run P w = .ok (.value undef) w') ∧ J2 v w' ∧ Since w0 w'

def YX (P : Program) (ops : Array Oper) (w0 : World) (J J2 : Value → World → Prop) (m st : Nat) (val : Nat → Value) (i : Nat) (o : Oper) (a : Act) (p : Option Value × Bool) : Prop :=
  if i = m then p.2 = false ∧ Makes P ops w0 J o a else if i = st then ∃ v, p = (some v, false) ∧ val i = undef ∧ Stores P ops w0 J J2 v o a else YieldsB P ops w0 o (val i) a

def nxt (m st i : Nat) (p : Option Value × Bool) (v : Value) : Option Value × Bool := (if i = m then some v else p.1, if i = st then true else p.2)

def Vs (m : Nat) (val : Nat → Value) (i : Nat) (v : Value) : Prop := i = m ∨ v = val i

variable {J J2 : Value → World → Prop} {m st n : Nat} {val : Nat → Value}

theorem YX.of_same {i : Nat} {o : Oper} {a a' : Act} {p : Option Value × Bool} (hy : YX P ops w0 J J2 m st val i o a p) (he : execOp a'.eval o = execOp a.eval o)
    (hw : Region.wanted o (yielded ops a'.tmps) = Region.wanted o (yielded ops a.tmps)) : YX P ops w0 J J2 m st val i o a' p := by
  unfold YX Makes YieldsB Stores at *
  rw [he, hw]
  exact hy

theorem YX.of_nxt {i j : Nat} {o : Oper} {a : Act} {p : Option Value × Bool} {v : Value} (hij : i ≠ j) (h1 : ¬ (i = m ∧ j = st)) (h2 : ¬ (i = st ∧ j = m)) :
    YX P ops w0 J J2 m st val j o a (nxt m st i p v) ↔ YX P ops w0 J J2 m st val j o a p := by
  unfold YX nxt
  by_cases hj : j = m
  · rw [if_pos hj, if_pos hj]
    simp only
    rw [if_neg (fun e => h2 ⟨e, hj⟩)]
  · by_cases hj2 : j = st
    · rw [if_neg hj, if_neg hj, if_pos hj2, if_pos hj2, if_neg (fun e => h1 ⟨e, hj2⟩), if_neg (fun e => hij (e.trans hj2.symm))]
    · rw [if_neg hj, if_neg hj, if_neg hj2, if_neg hj2]

def gV (P : Program) (md : Region.Mode) (ops : Array Oper) (w0 : World) (J J2 : Value → World → Prop) (m st n : Nat) (val : Nat → Value) (L : Option Value × Bool → Array Bool → Act → Prop) : Nat → Option Value × Bool → Array Bool → Act → Prop
  | 0, p, listed, a => L p listed a
  | f + 1, p, listed, a => Region.ready md ops listed ≠ [] ∧ ∀ i ∈ Region.ready md ops listed, i < n ∧ ∃ o, ops[i]? = some o ∧ YX P ops w0 J J2 m st val i o a p ∧
      ∀ v, Vs m val i v → gV P md ops w0 J J2 m st n val L f (nxt m st i p v) (listed.setIfInBounds i true) (a.put o.dst v)

def Inv (J J2 : Value → World → Prop) (p : Option Value × Bool) (w : World) : Prop := ∀ v, p.1 = some v → (p.2 = false → J v w) ∧ (p.2 = true → J2 v w)

theorem wpAny_of_gV (hms : m ≠ st) (hJ : ∀ v w w', J v w → Since w w' → J v w') (hJ2 : ∀ v w w', J2 v w → Since w w' → J2 v w') {g : Nat} {L : Option Value × Bool → Array Bool → Act → Prop} {Q : Exit → Act → World → Prop}
    (hL : ∀ p listed a, L p listed a → ∀ w, Since w0 w → Inv J J2 p w → wpAny P md ops Q g listed a w) :
    ∀ (f : Nat) (p : Option Value × Bool) (listed : Array Bool) (a : Act), gV P md ops w0 J J2 m st n val L f p listed a → ∀ w, Since w0 w → Inv J J2 p w → wpAny P md ops Q (f + g) listed a w
  | 0, p, listed, a, h => by intro w hS hp; rw [Nat.zero_add]; exact hL _ _ _ h w hS hp
  | f + 1, p, listed, a, h => by
    intro w hS hp
    rw [show f + 1 + g = (f + g) + 1 by omega]
    refine ⟨fun h0 => absurd h0 h.1, fun i hi => ?_⟩
    obtain ⟨_, o, ho, hy, hr⟩ := h.2 i hi
    by_cases him : i = m
    · have his : ¬ i = st := fun e => hms (him ▸ e)
      unfold YX at hy
      rw [if_pos him] at hy
      obtain ⟨hp2, hw, hm⟩ := hy
      obtain ⟨v, w', he, hj, hs⟩ := hm w hS
      unfold Go.wpOp
      simp only [ho, hw, if_true]
      refine .inl ?_
      unfold Oper.wp
      rw [he]
      have hr' := hr v (.inl him)
      unfold nxt at hr'
      rw [if_pos him, if_neg his] at hr'
      refine wpAny_of_gV hms hJ hJ2 hL f _ _ _ hr' w' (hS.trans hs) (fun u hu => ?_)
      cases hu
      exact ⟨fun _ => hj, fun h => by simp only at h; rw [hp2] at h; cases h⟩
    · by_cases his : i = st
      · unfold YX at hy
        rw [if_neg him, if_pos his] at hy
        obtain ⟨v, rfl, hvu, hw, hst⟩ := hy
        have hr' := hr (val i) (.inr rfl)
        unfold nxt at hr'
        rw [if_neg him, if_pos his, hvu] at hr'
        unfold Go.wpOp
        simp only [ho, hw, if_true]
        refine .inl ?_
        unfold Oper.wp
        obtain ⟨w', he, hj, hs⟩ := hst w hS ((hp v rfl).1 rfl)
        have hI : Inv J J2 (some v, true) w' := fun u hu => by
          cases hu
          exact ⟨fun h => (by cases h), fun _ => hj⟩
        have := wpAny_of_gV hms hJ hJ2 hL f _ _ _ hr' w' hs hI
        rcases he with he | he
        · rw [he]; exact this
        · rw [he]; exact this
      · unfold YX at hy
        rw [if_neg him, if_neg his] at hy
        have hr' := hr (val i) (.inr rfl)
        unfold nxt at hr'
        rw [if_neg him, if_neg his] at hr'
        exact hy.wpOp (S := fun w1 => Since w0 w1 ∧ Inv J J2 p w1) ⟨fun w1 h1 => h1.1, fun w1 w2 h1 h2 => ⟨h1.1.trans h2, fun v hv => ⟨fun hf => hJ _ _ _ ((h1.2 v hv).1 hf) h2, fun hf => hJ2 _ _ _ ((h1.2 v hv).2 hf) h2⟩⟩⟩ ho ⟨hS, hp⟩ (fun w' hS' => wpAny_of_gV hms hJ hJ2 hL f _ _ _ hr' w' hS'.1 hS'.2)

theorem nxt_comm {i j : Nat} (h : j ≠ i) (p : Option Value × Bool) (u v : Value) : nxt m st i (nxt m st j p u) v = nxt m st j (nxt m st i p v) u := by
  unfold nxt
  by_cases h1 : i = m <;> by_cases h2 : j = m <;> by_cases h3 : i = st <;> by_cases h4 : j = st <;> simp [h1, h2, h3, h4] <;> omega

/-- the store waits for what it stores into -/
def waitsB (md : Region.Mode) (ops : Array Oper) (st m : Nat) : Bool := match ops[st]? with | some o => o.after.any fun e => Region.binds md e && e.on == m | none => false

theorem gV_first (hw : waitsB md ops st m = true) {i : Nat} {oi : Oper} {L : Option Value × Bool → Array Bool → Act → Prop} (hi : ops[i]? = some oi) (hsel : ∀ (j : Nat) (o : Oper) cs b, ops[j]? = some o → o.op ≠ .select cs b)
    (hs : Region.sinkB md ops n = true) (hc : Region.chainB md ops n = true) (hn : n < ops.size) (hin : i < n)
    (hdone : ∀ p listed a, L p listed a → ∀ j ∈ Region.ready md ops listed, n ≤ j) :
    ∀ (f : Nat) (p : Option Value × Bool) (listed : Array Bool) (a : Act), HeadInv md ops n listed →
      (∀ j oj, ops[j]? = some oj → j ≠ i → listed.getD j true = false → (∀ e ∈ oj.after, Region.binds md e = true → e.on ≠ i) → oi.apart ops oj = true) →
      i ∈ Region.ready md ops listed → YX P ops w0 J J2 m st val i oi a p →
      (∀ v, Vs m val i v → gV P md ops w0 J J2 m st n val L f (nxt m st i p v) (listed.setIfInBounds i true) (a.put oi.dst v)) → gV P md ops w0 J J2 m st n val L (f + 1) p listed a := by
  have hwait : ∀ listed : Array Bool, m ∈ Region.ready md ops listed → st ∈ Region.ready md ops listed → False := fun listed h1 h2 => by
    obtain ⟨_, o, ho, hall⟩ := mem_ready.1 h2
    have hun := (mem_ready.1 h1).1
    unfold waitsB at hw
    rw [ho] at hw
    simp only [Array.any_eq_true', Bool.and_eq_true, beq_iff_eq] at hw
    obtain ⟨e, he, hb, hm⟩ := hw
    have h1 := hall e he hb
    rw [hm, getD_both hun] at h1
    cases h1
  intro f
  induction f with
  | zero =>
    intro p listed a inv _ hr hy H
    have hun := (mem_ready.1 hr).1
    refine ⟨fun h => (by rw [h] at hr; cases hr), fun j hj => ?_⟩
    have hjn : j < n := by
      rcases Nat.lt_or_ge j n with h | h
      · exact h
      · exact absurd hj (tail_waits hs hc hn inv _ i rfl hin hun j h)
    refine ⟨hjn, ?_⟩
    by_cases hji : j = i
    · subst hji; exact ⟨oi, hi, hy, H⟩
    · have := hdone _ _ _ (H (val i) (.inr rfl)) j (ready_mono hj hji)
      omega
  | succ f ih =>
    intro p listed a inv hfree hr hy H
    have hun := (mem_ready.1 hr).1
    refine ⟨fun h => (by rw [h] at hr; cases hr), fun j hj => ?_⟩
    have hjn : j < n := by
      rcases Nat.lt_or_ge j n with h | h
      · exact h
      · exact absurd hj (tail_waits hs hc hn inv _ i rfl hin hun j h)
    refine ⟨hjn, ?_⟩
    by_cases hji : j = i
    · subst hji; exact ⟨oi, hi, hy, H⟩
    · have hp1 : ¬ (i = m ∧ j = st) := fun ⟨h1, h2⟩ => hwait listed (h1 ▸ hr) (h2 ▸ hj)
      have hp2 : ¬ (i = st ∧ j = m) := fun ⟨h1, h2⟩ => hwait listed (h2 ▸ hj) (h1 ▸ hr)
      obtain ⟨_, oj, hoj, hyj, _⟩ := (H (val i) (.inr rfl)).2 j (ready_mono hj hji)
      obtain ⟨hjun, oj', hoj', hall⟩ := mem_ready.1 hj
      obtain rfl : oj' = oj := Option.some.inj (hoj'.symm.trans hoj)
      have hnot : ∀ e ∈ oj'.after, Region.binds md e = true → e.on ≠ i := fun e he hb heq => by
        have h1 := hall e he hb
        rw [heq, getD_both hun] at h1
        cases h1
      obtain ⟨h1, h2, h3⟩ := Oper.apart_spec (hfree j oj' hoj hji hjun hnot)
      have hyj' : YX P ops w0 J J2 m st val j oj' a p := (YX.of_nxt (fun e => hji e.symm) hp1 hp2).1 (hyj.of_same (execOp_put oj' (fun cs b => hsel j oj' cs b hoj) a oi.dst (val i) h1).symm (wanted_put oj' a oi.dst (val i) h1).symm)
      refine ⟨oj', hoj, hyj', fun u hu => ?_⟩
      have hyi' : YX P ops w0 J J2 m st val i oi (a.put oj'.dst u) (nxt m st j p u) := (YX.of_nxt hji (fun ⟨h1, h2⟩ => hp2 ⟨h2, h1⟩) (fun ⟨h1, h2⟩ => hp1 ⟨h2, h1⟩)).2 (hy.of_same (execOp_put oi (fun cs b => hsel i oi cs b hi) a oj'.dst u h3) (wanted_put oi a oj'.dst u h3))
      have hfree' : ∀ k ok, ops[k]? = some ok → k ≠ i → (listed.setIfInBounds j true).getD k true = false →
          (∀ e ∈ ok.after, Region.binds md e = true → e.on ≠ i) → oi.apart ops ok = true := fun k ok hk hki hun hno => by
        refine hfree k ok hk hki ?_ hno
        by_cases hjk : j = k
        · subst hjk; exact hjun
        · rw [getD_set_ne true hjk] at hun; exact hun
      refine ih _ (listed.setIfInBounds j true) (a.put oj'.dst u) (inv.set hj hjn) hfree' (ready_mono hr (Ne.symm hji)) hyi' fun v hv => ?_
      obtain ⟨_, oj2, hoj2, _, hg⟩ := (H v hv).2 j (ready_mono hj hji)
      obtain rfl : oj2 = oj' := Option.some.inj (hoj2.symm.trans hoj)
      have hg' := hg u hu
      rw [Array.setIfInBounds_comm _ _ hji, nxt_comm hji, ← Act.put_comm a v u h2]
      exact hg'

def SeqX (P : Program) (ops : Array Oper) (w0 : World) (J J2 : Value → World → Prop) (m st : Nat) (val : Nat → Value) (L : Option Value × Bool → Act → Prop) : Nat → Option Value × Bool → List Oper → Act → Prop
  | _, p, [], a => L p a
  | k, p, o :: l, a => YX P ops w0 J J2 m st val k o a p ∧ ∀ v, Vs m val k v → SeqX P ops w0 J J2 m st val L (k + 1) (nxt m st k p v) l (a.put o.dst v)

theorem gV_lex (hw : waitsB md ops st m = true) {g : Nat} {Lq : Option Value × Bool → Act → Prop} (hsel : Region.noSelect ops = true) (hs : Region.sinkB md ops n = true) (hc : Region.chainB md ops n = true) (hn : n < ops.size) :
    ∀ (l : List Oper) (k : Nat) (p : Option Value × Bool) (listed : Array Bool) (a : Act), (∀ j, j < l.length → l[j]? = ops[k + j]?) → k + l.length = n → HeadInv md ops n listed →
    Region.lexHead md ops g l.length k listed = true → SeqX P ops w0 J J2 m st val Lq k p l a →
    gV P md ops w0 J J2 m st n val (fun p' listed' a' => Region.seqB md ops g n listed' = true ∧ Lq p' a') l.length p listed a
  | [], k, p, listed, a, _, hk, _, hB, h => by
    have : k = n := by simpa using hk
    subst this
    exact ⟨by simpa [Region.lexHead] using hB, h⟩
  | o :: l, k, p, listed, a, hl, hk, inv, hB, h => by
    have h0 : ops[k]? = some o := by simpa using (hl 0 (by simp)).symm
    simp only [List.length_cons, Region.lexHead, Bool.and_eq_true] at hB
    obtain ⟨⟨hr, hf⟩, hB'⟩ := hB
    have hkn : k < n := by simp only [List.length_cons] at hk; omega
    have hr' : k ∈ Region.ready md ops listed := by simpa using hr
    obtain ⟨hy, hK⟩ := h
    exact gV_first hw h0 (Region.noSelect_spec hsel) hs hc hn hkn (fun p' listed' a' hL => seqB_ready hL.1) l.length p listed a inv (Region.free_spec h0 hf) hr' hy
      (fun v hv => gV_lex hw hsel hs hc hn l (k + 1) _ _ _ (fun j hj => by have := hl (j + 1) (by simp; omega); simpa [Nat.add_assoc, Nat.add_comm 1 j] using this) (by simp only [List.length_cons] at hk; omega) (inv.set hr' hkn) hB' (hK v hv))

/-- along the text; the last but one makes, the last stores -/
def SeqB (P : Program) (ops : Array Oper) (w0 : World) (J J2 : Value → World → Prop) (L : Value → Act → Prop) : List Oper → Act → Prop
  | [], _ => False
  | [_], _ => False
  | [o, o2], a => Makes P ops w0 J o a ∧ ∀ v, Stores P ops w0 J J2 v o2 (a.put o.dst v) ∧ L v ((a.put o.dst v).put o2.dst undef)
  | o :: l, a => ∃ v, YieldsB P ops w0 o v a ∧ SeqB P ops w0 J J2 L l (a.put o.dst v)

theorem SeqX.congr {m st : Nat} : ∀ (l : List Oper) (j : Nat) (p : Option Value × Bool) (a : Act) (val val' : Nat → Value) (L : Option Value × Bool → Act → Prop), (∀ i, j ≤ i → val i = val' i) → SeqX P ops w0 J J2 m st val L j p l a → SeqX P ops w0 J J2 m st val' L j p l a
  | [], _, _, _, _, _, _, _, h => h
  | o :: l, j, p, a, val, val', L, he, h => by
    refine ⟨?_, fun v hv => ?_⟩
    · have := h.1
      unfold YX at this ⊢
      rw [he j (Nat.le_refl _)] at this
      exact this
    · refine SeqX.congr l _ _ _ _ _ _ (fun i hi => he i (by omega)) (h.2 v ?_)
      unfold Vs at hv ⊢
      rw [he j (Nat.le_refl _)]
      exact hv

theorem SeqX.of {L : Value → Act → Prop} {m : Nat} : ∀ (l : List Oper) (k : Nat) (a : Act), k + l.length = m + 2 → SeqB P ops w0 J J2 L l a →
    ∃ val : Nat → Value, SeqX P ops w0 J J2 m (m + 1) val (fun p' a' => ∃ v, p' = (some v, true) ∧ L v a') k (none, false) l a
  | [], _, _, _, h => h.elim
  | [_], _, _, _, h => h.elim
  | [o, o2], k, a, hk, h => ⟨fun _ => undef, by
      have hkm : k = m := by simpa using hk
      subst hkm
      refine ⟨?_, fun v _ => ⟨?_, fun u hu => ⟨v, ?_, ?_⟩⟩⟩
      · unfold YX; rw [if_pos rfl]; exact ⟨rfl, h.1⟩
      · unfold YX nxt; rw [if_neg (by omega), if_pos rfl, if_pos rfl, if_neg (by omega)]; exact ⟨v, rfl, rfl, (h.2 v).1⟩
      · unfold nxt; rw [if_neg (by omega), if_pos rfl, if_pos rfl]
      · have : u = undef := by
          rcases hu with h1 | h1
          · omega
          · exact h1
        subst this
        exact (h.2 v).2⟩
  | o :: o2 :: o3 :: l, k, a, hk, ⟨v, hy, h⟩ => by
    obtain ⟨val, hval⟩ := SeqX.of (m := m) (o2 :: o3 :: l) (k + 1) _ (by simp only [List.length_cons] at hk ⊢; omega) h
    have hne : ¬ k = m := by simp only [List.length_cons] at hk; omega
    have hne2 : ¬ k = m + 1 := by simp only [List.length_cons] at hk; omega
    refine ⟨fun j => if j = k then v else val j, ?_, fun u hu => ?_⟩
    · unfold YX; rw [if_neg hne, if_neg hne2]; simpa using hy
    · have : u = v := by
        rcases hu with h1 | h1
        · exact absurd h1 hne
        · simpa using h1
      subst this
      have hn : nxt m (m + 1) k (none, false) u = (none, false) := by unfold nxt; rw [if_neg hne, if_neg hne2]
      rw [hn]
      exact SeqX.congr _ _ _ _ _ _ _ (fun i hi => (if_neg (by omega)).symm) hval

/-- A region that draws its order; the m'th operation makes an object, the next one stores into it. -/
theorem wp_region_v {id : Nat} {Q : Exit → Act → World → Prop} {a : Act} {w : World} {l : List Oper} (m : Nat) (J J2 : Value → World → Prop) (hm : P.follows .mixedOrders = true) (hB : Region.lexTailB .any l.toArray (m + 2) = true)
    (hW : waitsB .any l.toArray (m + 1) m = true) (hJ : ∀ v w w', J v w → Since w w' → J v w') (hJ2 : ∀ v w w', J2 v w → Since w w' → J2 v w')
    (h : SeqB P l.toArray w.drew J J2 (fun v a' => ∀ w', Since w.drew w' → J2 v w' → wpList P l.toArray Q (l.drop (m + 2)) a' w') (l.take (m + 2)) a) : (Code.region id l.toArray true).wp P Q a w := by
  simp only [Region.lexTailB, Bool.and_eq_true, decide_eq_true_eq] at hB
  obtain ⟨⟨⟨⟨hsel, hn⟩, hs⟩, hc⟩, hlex⟩ := hB
  have hn' : m + 2 < l.length := by simpa using hn
  have htl : (l.take (m + 2)).length = m + 2 := by simp; omega
  have hdl : (l.drop (m + 2)).length = l.toArray.size - (m + 2) := by simp
  have inv0 : HeadInv .any l.toArray (m + 2) (Array.replicate l.toArray.size false) :=
    ⟨by simp, fun j oj _ hl => (by rw [getD_replicate_false] at hl; cases hl), fun t _ ht => getD_in (by simpa using ht) (getD_replicate_false _ _)⟩
  obtain ⟨val, hval⟩ := SeqX.of (m := m) (l.take (m + 2)) 0 a (by rw [htl]; omega) h
  have H := gV_lex (md := .any) hW (g := l.toArray.size - (m + 2)) hsel hs hc hn (l.take (m + 2)) 0 (none, false) _ a (fun j hj => by
    have hj' : j < m + 2 := by rw [htl] at hj; exact hj
    simp [hj']) (by simpa using htl) inv0 (by rw [htl]; exact hlex) hval
  refine wp_region_any hm ?_
  have := wpAny_of_gV (Q := Q) (g := l.toArray.size - (m + 2)) (by omega) hJ hJ2 (fun p listed' a' hL w' hS' hp => by
    obtain ⟨hq, v, rfl, hl⟩ := hL
    have := wpAny_of_seq (md := .any) (Q' := Q) (l.drop (m + 2)) (m + 2) listed' a' w' (fun j => by simp [List.getElem?_drop]) (by rw [hdl]; exact hq) (hl w' hS' ((hp v rfl).2 rfl))
    rwa [hdl] at this) _ _ _ _ H w.drew (Since.refl _) (fun v hv => by cases hv)
  rw [htl, show m + 2 + (l.toArray.size - (m + 2)) = l.toArray.size by omega] at this
  exact this

theorem SeqB.skip {L : Value → Act → Prop} {o o2 o3 : Oper} {l : List Oper} {a : Act} (hw : Region.wanted o (yielded ops a.tmps) = false) (h : SeqB P ops w0 J J2 L (o2 :: o3 :: l) (a.put o.dst undef)) : SeqB P ops w0 J J2 L (o :: o2 :: o3 :: l) a :=
  ⟨undef, .inr ⟨hw, rfl⟩, h⟩
theorem SeqB.run {L : Value → Act → Prop} {o o2 o3 : Oper} {l : List Oper} {a : Act} {v : Value} (hw : Region.wanted o (yielded ops a.tmps) = true) (hr : ∀ w, Since w0 w → UponS P v (Since w) ((execOp a.eval o).run P w)) (h : SeqB P ops w0 J J2 L (o2 :: o3 :: l) (a.put o.dst v)) : SeqB P ops w0 J J2 L (o :: o2 :: o3 :: l) a :=
  ⟨v, .inl ⟨hw, hr⟩, h⟩

/-- the object made: a block of these cells, the region's own -/
def Made (w0 : World) (t : TypeId) (xs : List Value) (v : Value) (w : World) : Prop := ∃ b, v = .pointer (some ⟨b, 0, none⟩) ∧ w0.heap.size ≤ b ∧ Blk w b t xs
theorem Made.mono {t : TypeId} {xs : List Value} (v : Value) (w w' : World) (h : Made w0 t xs v w) (hs : Since w w') : Made w0 t xs v w' := by
  obtain ⟨b, rfl, hb, hk⟩ := h
  exact ⟨b, rfl, hb, hk.below hs⟩

theorem SeqB.make {L : Value → Act → Prop} {o o2 : Oper} {a : Act} {t : TypeId} {xs ys : List Value} (hw : Region.wanted o (yielded ops a.tmps) = true)
    (hr : ∀ w, (execOp a.eval o).run P w = .ok (.value (.pointer (some ⟨w.heap.size, 0, none⟩))) (w.alloc (.cells xs.toArray t)))
    (hw2 : ∀ v, Region.wanted o2 (yielded ops (a.put o.dst v).tmps) = true)
    (hr2 : ∀ w b, Since w0 w → w0.heap.size ≤ b → Blk w b t xs → ∃ w', ((execOp (a.put o.dst (.pointer (some ⟨b, 0, none⟩))).eval o2).run P w = .ok .skip w' ∨ (execOp (a.put o.dst (.pointer (some ⟨b, 0, none⟩))).eval o2).run P w = .ok (.value undef) w') ∧ Blk w' b t ys ∧ Since w0 w')
    (h : ∀ v, L v ((a.put o.dst v).put o2.dst undef)) : SeqB P ops w0 (Made w0 t xs) (Made w0 t ys) L [o, o2] a :=
  ⟨⟨hw, fun w hs => ⟨_, _, hr w, ⟨w.heap.size, rfl, hs.size, Blk.new w t xs⟩, (Below.refl _ _).alloc (Nat.le_refl _) _⟩⟩, fun v => ⟨⟨hw2 v, fun w hs hj => by
    obtain ⟨b, rfl, hb, hk⟩ := hj
    obtain ⟨w', he, hk', hs'⟩ := hr2 w b hs hb hk
    exact ⟨w', he, ⟨b, rfl, hb, hk'⟩, hs'⟩⟩, h v⟩⟩

theorem wp_region_made {id : Nat} {Q : Exit → Act → World → Prop} {a : Act} {w : World} {l : List Oper} (m : Nat) (t : TypeId) (xs ys : List Value) (hm : P.follows .mixedOrders = true) (hB : Region.lexTailB .any l.toArray (m + 2) = true)
    (hW : waitsB .any l.toArray (m + 1) m = true)
    (h : SeqB P l.toArray w.drew (Made w.drew t xs) (Made w.drew t ys) (fun v a' => ∀ w', Since w.drew w' → Made w.drew t ys v w' → wpList P l.toArray Q (l.drop (m + 2)) a' w') (l.take (m + 2)) a) : (Code.region id l.toArray true).wp P Q a w :=
  wp_region_v m _ _ hm hB hW Made.mono Made.mono h

end
end Go.Proofs.Ytlkapaecaeldpaa
