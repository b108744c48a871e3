/-
  The walks of the laws over package l2p: L2pRefuses.
-/
import Derived.Test.YtlkapaecaeldpaaLaw11b
import Derived.Test.YtlkapaecaeldpaaOps
set_option linter.unusedVariables false
set_option linter.unusedSimpArgs false
set_option maxRecDepth 16384
namespace Go.Proofs.Ytlkapaecaeldpaa
open Go.RowKit

def OpV.e (o : OpV) : Ent := ⟨o.ea, o.es, o.ek⟩
/-- a call of Set or of Move -/
def opTo (g : Geo) (to : List Ent) (o : OpV) : Bool × Int × List Ent := if o.d < 4 then setTo g to o.lba o.e else moveTo g to o.lba o.f o.t

theorem setTo_cases (g : Geo) (to : List Ent) (lba : Int) (e : Ent) : ((setTo g to lba e).1 = false ∧ (setTo g to lba e).2.2 = to) ∨ ((setTo g to lba e).1 = true ∧ (0 ≤ lba ∧ lba < to.length) ∧ (setTo g to lba e).2.2 = to.set lba.toNat e) := by
  unfold setTo
  split
  · rename_i h
    split
    · split
      · exact .inl ⟨rfl, rfl⟩
      · split
        · exact .inl ⟨rfl, rfl⟩
        · exact .inr ⟨rfl, h, rfl⟩
    · exact .inl ⟨rfl, rfl⟩
  · exact .inl ⟨rfl, rfl⟩
theorem moveTo_cases (g : Geo) (to : List Ent) (lba f t : Int) : ((moveTo g to lba f t).1 = false ∧ (moveTo g to lba f t).2.2 = to) ∨ ((moveTo g to lba f t).1 = true ∧ (0 ≤ lba ∧ lba < to.length) ∧ (moveTo g to lba f t).2.2 = to.set lba.toNat { to.getD lba.toNat Ent.none with a := t }) := by
  unfold moveTo
  split
  · rename_i h
    split
    · split
      · exact .inl ⟨rfl, rfl⟩
      · split
        · exact .inl ⟨rfl, rfl⟩
        · exact .inr ⟨rfl, h, rfl⟩
    · exact .inl ⟨rfl, rfl⟩
  · exact .inl ⟨rfl, rfl⟩
theorem setTo_len (g : Geo) (to : List Ent) (lba : Int) (e : Ent) : (setTo g to lba e).2.2.length = to.length := by
  rcases setTo_cases g to lba e with ⟨_, h⟩ | ⟨_, _, h⟩ <;> rw [h]
  rw [List.length_set]
theorem moveTo_len (g : Geo) (to : List Ent) (lba f t : Int) : (moveTo g to lba f t).2.2.length = to.length := by
  rcases moveTo_cases g to lba f t with ⟨_, h⟩ | ⟨_, _, h⟩ <;> rw [h]
  rw [List.length_set]

/-- the entries that were kept, so far -/
def Was (w : World) (b i : Nat) (to : List Ent) : Prop := ∀ i' j, i' < 6 → j < 3 → At w b (i' * 3 + j) (if i' < i then (to.getD i' Ent.none).cell j else .int .i64 0)

theorem Was.below {w w' : World} {b i : Nat} {to : List Ent} (h : Was w b i to) (hb : Below w.heap.size w w') : Was w' b i to := fun i' j h1 h2 => (h i' j h1 h2).below hb
theorem Was.only {w w' : World} {b i B C : Nat} {to : List Ent} (h : Was w b i to) (ho : Only B C w w') (hb : b < B ∨ C ≤ b) : Was w' b i to := fun i' j h1 h2 => (h i' j h1 h2).only ho hb
theorem was_new {w : World} {b : Nat} {t : TypeId} {to : List Ent} (h : Blk w b t (List.replicate 18 (.int .i64 0))) : Was w b 0 to := by
  intro i' j h1 h2
  rw [if_neg (by omega)]
  refine ⟨?_, h.free _⟩
  rw [h.cell, List.getElem?_replicate, if_pos (by omega)]
theorem Was.step {w : World} {b i : Nat} {to : List Ent} {x : Ent} (h : Was w b i to) (hx : to[i]? = some x) :
    Was (((w.setCell ⟨b, i * 3, none⟩ (.int .i64 x.a)).setCell ⟨b, i * 3 + 1, none⟩ (.int .i64 x.s)).setCell ⟨b, i * 3 + 2, none⟩ (.int .i64 x.k)) b (i + 1) to := by
  intro i' j h1 h2
  have h3 := (((h i' j h1 h2).set (b2 := b) (o2 := i * 3) (.int .i64 x.a)).set (b2 := b) (o2 := i * 3 + 1) (.int .i64 x.s)).set (b2 := b) (o2 := i * 3 + 2) (.int .i64 x.k)
  refine Eq.mp ?_ h3
  congr 1
  by_cases hi : i' = i
  · subst hi
    have hg : to.getD i' Ent.none = x := by rw [List.getD_eq_getElem?_getD, hx]; rfl
    rw [if_pos (show i' < i' + 1 by omega), hg]
    rcases (show j = 0 ∨ j = 1 ∨ j = 2 by omega) with rfl | rfl | rfl <;> simp [Ent.cell]
  · rw [if_neg (show ¬ (b = b ∧ i' * 3 + j = i * 3 + 2) by omega), if_neg (show ¬ (b = b ∧ i' * 3 + j = i * 3 + 1) by omega), if_neg (show ¬ (b = b ∧ i' * 3 + j = i * 3) by omega)]
    by_cases hl : i' < i
    · rw [if_pos hl, if_pos (by omega)]
    · rw [if_neg hl, if_neg (by omega)]
theorem Was.get {w : World} {b : Nat} {to : List Ent} (h : Was w b 6 to) {i : Nat} (hi : i < 6) {x : Ent} (hx : to[i]? = some x) :
    w.cell? ⟨b, i * 3, none⟩ = some (.int .i64 x.a) ∧ w.cell? ⟨b, i * 3 + 1, none⟩ = some (.int .i64 x.s) ∧ w.cell? ⟨b, i * 3 + 2, none⟩ = some (.int .i64 x.k) := by
  have hg : to.getD i Ent.none = x := by rw [List.getD_eq_getElem?_getD, hx]; rfl
  have h0 := (h i 0 hi (by decide)).1
  have h1 := (h i 1 hi (by decide)).1
  have h2 := (h i 2 hi (by decide)).1
  rw [if_pos hi, hg] at h0 h1 h2
  exact ⟨h0, h1, h2⟩


end Go.Proofs.Ytlkapaecaeldpaa
