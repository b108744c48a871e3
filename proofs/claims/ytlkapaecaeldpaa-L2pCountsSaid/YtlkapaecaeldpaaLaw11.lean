/-
  The walks of the laws over package l2p: awake; L2pThere.
-/
import Derived.Test.YtlkapaecaeldpaaL2pZ
set_option linter.unusedVariables false
set_option linter.unusedSimpArgs false
set_option maxRecDepth 16384
namespace Go.Proofs.Ytlkapaecaeldpaa
open Go.RowKit

def awE0 : List Ent := List.replicate 5 Ent.none
def awE1 : List Ent := [⟨-1, 0, 0⟩, ⟨-1, 0, 0⟩, ⟨-1, 0, 0⟩, ⟨9, 5, 1⟩, ⟨-1, 0, 0⟩]
def awE2 : List Ent := [⟨-1, 0, 0⟩, ⟨-1, 0, 0⟩, ⟨-1, 0, 0⟩, ⟨7, 5, 1⟩, ⟨-1, 0, 0⟩]
theorem aw11_new : newOk ⟨1, 1, 2, 4, 2⟩ 5 = true := by decide +kernel
theorem aw11_set : setTo ⟨1, 1, 2, 4, 2⟩ awE0 3 ⟨9, 5, 1⟩ = (true, 0, awE1) := by decide +kernel
theorem aw11_move : moveTo ⟨1, 1, 2, 4, 2⟩ awE1 3 9 7 = (true, 0, awE2) := by decide +kernel
theorem aw11_live : liveN ⟨1, 1, 2, 4, 2⟩ awE2 7 = 3 ∧ liveB ⟨1, 1, 2, 4, 2⟩ awE2 7 = true := by decide +kernel

theorem newPost_ok {g : Geo} {n : Int} {w w' : World} {e : Ending} (h : NewPost g n w e w') (hk : newOk g n = true) :
    Below w.heap.size w w' ∧ ∃ m kt kw vb st sw, e = .returned (.tuple #[.pointer (some ⟨m, 0, none⟩), .int .i64 0]) ∧ MapAt w' w.heap.size w'.heap.size m g (List.replicate n.toNat Ent.none) kt kw vb st sw := by
  obtain ⟨h1, h2⟩ := h
  rw [if_pos hk] at h2
  exact ⟨h1, h2⟩
theorem newPost_no {g : Geo} {n : Int} {w w' : World} {e : Ending} (h : NewPost g n w e w') (hk : newOk g n = false) : Below w.heap.size w w' ∧ e = .returned (.tuple #[.pointer none, .int .i64 1]) := by
  obtain ⟨h1, h2⟩ := h
  rw [if_neg (by rw [hk]; decide)] at h2
  exact ⟨h1, h2⟩
theorem opPost_is {w : World} {B C m : Nat} {g : Geo} {kt kw vb : Nat} {st sw : Shards} {r r' : Bool × Int × List Ent} {e : Ending} {w' : World} (h : OpPost w B C m g kt kw vb st sw r e w') (hr : r = r') :
    e = .returned (.tuple #[.bool r'.1, .int .i64 r'.2.1]) ∧ MapAt w' B C m g r'.2.2 kt kw vb st sw ∧ Only B C w w' := by rw [← hr]; exact h

set_option maxHeartbeats 2000000 in
theorem awake11_any (w : World) :
    Calls Try.prog 15 #[] w fun e w' => e = .returned (.bool true) ∧ Below w.heap.size w w' := by
  go_enter Try.func15, Try.ntmps15
  (go_wp2_with fail); refine (l2pNew_any ⟨1, 1, 2, 4, 2⟩ 5 _ ⟨⟨by decide, by decide⟩, ⟨by decide, by decide⟩, ⟨by decide, by decide⟩, ⟨by decide, by decide⟩, ⟨by decide, by decide⟩⟩ ⟨by decide, by decide⟩).mono ?_
  intro e w1 hp
  obtain ⟨hb, m, kt, kw, vb, st, sw, rfl, hm⟩ := newPost_ok hp aw11_new
  have HM1 := Lib.hid hm
  have HB1 := Lib.hid hb
  clear hp hm hb
  (go_wp2_with fail); refine (mapSet_any HM1.out 3 ⟨9, 5, 1⟩).mono ?_
  intro e w2 hp
  obtain ⟨rfl, hm, ho⟩ := opPost_is hp aw11_set
  have HM2 := Lib.hid hm
  have HB2 := Lib.hid (HB1.out.trans (ho.below (Nat.le_refl _) HB1.out.size))
  clear hp hm ho
  simp only []
  (go_wp2_with fail); refine (mapMove_any HM2.out 3 9 7).mono ?_
  intro e w3 hp
  obtain ⟨rfl, hm, ho⟩ := opPost_is hp aw11_move
  have HM3 := Lib.hid hm
  have HB3 := Lib.hid (HB2.out.trans (ho.below (Nat.le_refl _) HB2.out.size))
  clear hp hm ho
  simp only []
  (go_wp2_with fail); refine (mapLive_any HM3.out 7).mono ?_
  rintro e w4 ⟨rfl, hb⟩
  rw [aw11_live.1, aw11_live.2]
  have HB4 := Lib.hid (HB3.out.trans (hb.mono HB3.out.size))
  clear hb
  go_wp2_with fail
  go_ret
  exact ⟨rfl, HB4.out⟩

theorem setTo_ok {g : Geo} {to : List Ent} {i : Nat} {e old : Ent} (hi : to[i]? = some old) (ha : 0 ≤ e.a ∧ e.a < g.all) (hk : e.k = 1 ∨ e.k = 2) (hs : 1 ≤ e.s ∧ e.s ≤ 1125899906842624) (hw : whoIx to e.a = 0 ∨ whoIx to e.a = i + 1) (ho : old.s < e.s) :
    setTo g to i e = (true, 0, to.set i e) := by
  have hlt := (List.getElem?_eq_some_iff.1 hi).1
  rw [setTo_def, if_pos ⟨by omega, by omega⟩, if_pos ⟨ha, hk, hs⟩, if_neg (by omega), Int.toNat_natCast, List.getD_eq_getElem?_getD, hi, Option.getD_some, if_neg (by omega)]
theorem setTo_busy {g : Geo} {to : List Ent} {i : Nat} {e : Ent} (hi : i < to.length) (ha : 0 ≤ e.a ∧ e.a < g.all) (hk : e.k = 1 ∨ e.k = 2) (hs : 1 ≤ e.s ∧ e.s ≤ 1125899906842624) (hw : whoIx to e.a ≠ 0 ∧ whoIx to e.a ≠ i + 1) :
    setTo g to i e = (false, 13, to) := by
  rw [setTo_def, if_pos ⟨by omega, by omega⟩, if_pos ⟨ha, hk, hs⟩, if_pos (by omega)]
theorem setTo_old {g : Geo} {to : List Ent} {i : Nat} {e old : Ent} (hi : to[i]? = some old) (ha : 0 ≤ e.a ∧ e.a < g.all) (hk : e.k = 1 ∨ e.k = 2) (hs : 1 ≤ e.s ∧ e.s ≤ 1125899906842624) (hw : whoIx to e.a = 0 ∨ whoIx to e.a = i + 1) (ho : e.s ≤ old.s) :
    setTo g to i e = (false, 0, to) := by
  have hlt := (List.getElem?_eq_some_iff.1 hi).1
  rw [setTo_def, if_pos ⟨by omega, by omega⟩, if_pos ⟨ha, hk, hs⟩, if_neg (by omega), Int.toNat_natCast, List.getD_eq_getElem?_getD, hi, Option.getD_some, if_pos ho]
theorem moveTo_ok {g : Geo} {to : List Ent} {i : Nat} {from_ dst : Int} {old : Ent} (hi : to[i]? = some old) (ha : 0 ≤ dst ∧ dst < g.all) (hw : whoIx to dst = 0 ∨ whoIx to dst = i + 1) (hf : 0 ≤ from_) (ho : old.a = from_) :
    moveTo g to i from_ dst = (true, 0, to.set i { old with a := dst }) := by
  have hlt := (List.getElem?_eq_some_iff.1 hi).1
  rw [moveTo_def, if_pos ⟨by omega, by omega⟩, if_pos ha, if_neg (by omega), Int.toNat_natCast, List.getD_eq_getElem?_getD, hi, Option.getD_some, if_neg (by omega)]
theorem moveTo_busy {g : Geo} {to : List Ent} {i : Nat} {from_ dst : Int} (hi : i < to.length) (ha : 0 ≤ dst ∧ dst < g.all) (hw : whoIx to dst ≠ 0 ∧ whoIx to dst ≠ i + 1) :
    moveTo g to i from_ dst = (false, 13, to) := by
  rw [moveTo_def, if_pos ⟨by omega, by omega⟩, if_pos ha, if_pos (by omega)]
theorem whoIx2 (e0 e1 : Ent) (a : Int) : whoIx [e0, e1] a = if e0.a = a then 1 else if e1.a = a then 2 else 0 := by
  unfold whoIx
  by_cases h0 : e0.a = a <;> by_cases h1 : e1.a = a <;> simp [List.findIdx?_cons, h0, h1]

/-- the law's calls, one by one -/
theorem there_all (g : Geo) (x0 x1 x2 st : Int) (h0 : 0 ≤ x0 ∧ x0 < g.all) (h1 : 0 ≤ x1 ∧ x1 < g.all) (h2 : 0 ≤ x2 ∧ x2 < g.all) (h01 : x0 ≠ x1) (h02 : x0 ≠ x2) (h12 : x1 ≠ x2) (hs : 1 ≤ st ∧ st ≤ 1125899906842624) :
    setTo g [Ent.none, Ent.none] 0 ⟨x0, st, 1⟩ = (true, 0, [⟨x0, st, 1⟩, Ent.none]) ∧
    setTo g [⟨x0, st, 1⟩, Ent.none] 1 ⟨x0, st, 1⟩ = (false, 13, [⟨x0, st, 1⟩, Ent.none]) ∧
    moveTo g [⟨x0, st, 1⟩, Ent.none] 0 x0 x1 = (true, 0, [⟨x1, st, 1⟩, Ent.none]) ∧
    setTo g [⟨x1, st, 1⟩, Ent.none] 1 ⟨x0, st, 1⟩ = (true, 0, [⟨x1, st, 1⟩, ⟨x0, st, 1⟩]) ∧
    moveTo g [⟨x1, st, 1⟩, ⟨x0, st, 1⟩] 0 x1 x0 = (false, 13, [⟨x1, st, 1⟩, ⟨x0, st, 1⟩]) ∧
    moveTo g [⟨x1, st, 1⟩, ⟨x0, st, 1⟩] 1 x0 x2 = (true, 0, [⟨x1, st, 1⟩, ⟨x2, st, 1⟩]) ∧
    moveTo g [⟨x1, st, 1⟩, ⟨x2, st, 1⟩] 0 x1 x0 = (true, 0, [⟨x0, st, 1⟩, ⟨x2, st, 1⟩]) := by
  have n0 : Ent.none.a = -1 := rfl
  have n1 : Ent.none.s = 0 := rfl
  refine ⟨?_, ?_, ?_, ?_, ?_, ?_, ?_⟩
  · exact setTo_ok (i := 0) (old := Ent.none) rfl h0 (.inl rfl) hs (.inl (by rw [whoIx2]; simp only [n0]; rw [if_neg (by omega), if_neg (by omega)])) (by simp only [n1]; omega)
  · exact setTo_busy (i := 1) (by simp) h0 (.inl rfl) hs (by rw [whoIx2]; simp)
  · exact moveTo_ok (i := 0) (old := ⟨x0, st, 1⟩) rfl h1 (.inl (by rw [whoIx2]; simp only [n0]; rw [if_neg (by omega), if_neg (by omega)])) h0.1 rfl
  · exact setTo_ok (i := 1) (old := Ent.none) rfl h0 (.inl rfl) hs (.inl (by rw [whoIx2]; simp only [n0]; rw [if_neg (by omega), if_neg (by omega)])) (by simp only [n1]; omega)
  · exact moveTo_busy (i := 0) (by simp) h0 (by rw [whoIx2]; simp only; rw [if_neg (by omega)]; simp)
  · exact moveTo_ok (i := 1) (old := ⟨x0, st, 1⟩) rfl h2 (.inl (by rw [whoIx2]; simp only; rw [if_neg (by omega), if_neg (by omega)])) h0.1 rfl
  · exact moveTo_ok (i := 0) (old := ⟨x1, st, 1⟩) rfl h0 (.inl (by rw [whoIx2]; simp only; rw [if_neg (by omega), if_neg (by omega)])) h1.1 rfl
theorem there_end (g : Geo) (x0 x1 x2 st : Int) (h0 : 0 ≤ x0) (h2 : 0 ≤ x2) (h01 : x0 ≠ x1) (h12 : x1 ≠ x2) :
    liveB g [⟨x0, st, 1⟩, ⟨x2, st, 1⟩] x1 = false ∧ manyN [⟨x0, st, 1⟩, ⟨x2, st, 1⟩] = 2 := by
  refine ⟨?_, ?_⟩
  · unfold liveB
    rw [whoIx2]
    simp only
    rw [if_neg h01, if_neg (fun e => h12 e.symm)]
    simp
  · unfold manyN
    simp [h0, h2]

end Go.Proofs.Ytlkapaecaeldpaa
