/-
  Package l2p: Set, Move.
-/
import Derived.Test.YtlkapaecaeldpaaL2pX
set_option linter.unusedVariables false
set_option linter.unusedSimpArgs false
set_option maxRecDepth 16384
namespace Go.Proofs.Ytlkapaecaeldpaa
open Go.RowKit

/-- what Set tells, and what is there behind it -/
def setTo (g : Geo) (to : List Ent) (lba : Int) (e : Ent) : Bool × Int × List Ent :=
  if 0 ≤ lba ∧ lba < to.length then
    if (0 ≤ e.a ∧ e.a < g.all) ∧ (e.k = 1 ∨ e.k = 2) ∧ 1 ≤ e.s ∧ e.s ≤ 1125899906842624 then
      if whoIx to e.a ≠ 0 ∧ (whoIx to e.a : Int) ≠ lba + 1 then (false, 13, to)
      else if e.s ≤ (to.getD lba.toNat Ent.none).s then (false, 0, to)
      else (true, 0, to.set lba.toNat e)
    else (false, 1, to)
  else (false, 2, to)

/-- what Move tells, and what is there behind it -/
def moveTo (g : Geo) (to : List Ent) (lba from_ dst : Int) : Bool × Int × List Ent :=
  if 0 ≤ lba ∧ lba < to.length then
    if 0 ≤ dst ∧ dst < g.all then
      if whoIx to dst ≠ 0 ∧ (whoIx to dst : Int) ≠ lba + 1 then (false, 13, to)
      else if from_ < 0 ∨ (to.getD lba.toNat Ent.none).a ≠ from_ then (false, 0, to)
      else (true, 0, to.set lba.toNat { to.getD lba.toNat Ent.none with a := dst })
    else (false, 1, to)
  else (false, 2, to)

theorem setTo_def (g : Geo) (to : List Ent) (lba : Int) (e : Ent) : setTo g to lba e =
  (if 0 ≤ lba ∧ lba < to.length then
    if (0 ≤ e.a ∧ e.a < g.all) ∧ (e.k = 1 ∨ e.k = 2) ∧ 1 ≤ e.s ∧ e.s ≤ 1125899906842624 then
      if whoIx to e.a ≠ 0 ∧ (whoIx to e.a : Int) ≠ lba + 1 then (false, 13, to)
      else if e.s ≤ (to.getD lba.toNat Ent.none).s then (false, 0, to)
      else (true, 0, to.set lba.toNat e)
    else (false, 1, to)
  else (false, 2, to)) := rfl
theorem moveTo_def (g : Geo) (to : List Ent) (lba from_ dst : Int) : moveTo g to lba from_ dst =
  (if 0 ≤ lba ∧ lba < to.length then
    if 0 ≤ dst ∧ dst < g.all then
      if whoIx to dst ≠ 0 ∧ (whoIx to dst : Int) ≠ lba + 1 then (false, 13, to)
      else if from_ < 0 ∨ (to.getD lba.toNat Ent.none).a ≠ from_ then (false, 0, to)
      else (true, 0, to.set lba.toNat { to.getD lba.toNat Ent.none with a := dst })
    else (false, 1, to)
  else (false, 2, to)) := rfl

/-- the post of Set and of Move -/
def OpPost (w : World) (B C m : Nat) (g : Geo) (kt kw vb : Nat) (st sw : Shards) (r : Bool × Int × List Ent) (e : Ending) (w' : World) : Prop :=
  e = .returned (.tuple #[.bool r.1, .int .i64 r.2.1]) ∧ MapAt w' B C m g r.2.2 kt kw vb st sw ∧ Only B C w w'

theorem MapAt.since {w w' : World} {B C m : Nat} {g : Geo} {to : List Ent} {kt kw vb : Nat} {st sw : Shards} (h : MapAt w B C m g to kt kw vb st sw) (hb : Below w.heap.size w w') : MapAt w' B C m g to kt kw vb st sw := h.below hb

set_option maxHeartbeats 2000000 in
theorem mapSet_any {w : World} {B C m : Nat} {g : Geo} {to : List Ent} {kt kw vb : Nat} {st sw : Shards} (HM : MapAt w B C m g to kt kw vb st sw) (lba : Int) (e : Ent) :
    Calls Try.prog 34 #[.pointer (some ⟨m, 0, none⟩), .int .i64 lba, e.v] w fun r w' => OpPost w B C m g kt kw vb st sw (setTo g to lba e) r w' := by
  have hb0 : Below w.heap.size w (w.alloc (.cells #[.int .i64 e.a, .int .i64 e.s, .int .i64 e.k] 32)) := (Below.refl w.heap.size w).alloc (Nat.le_refl _) _
  have HM0 := Lib.hid (HM.below hb0)
  have HO0 := Lib.hid (Only.of_below (B := B) (C := C) hb0)
  have HE0 := Lib.hid (Blk.new w 32 [.int .i64 e.a, .int .i64 e.s, .int .i64 e.k])
  have HMw := Lib.hid HM
  have HR := Lib.hid (setTo_def g to lba e)
  have hC : C ≤ w.heap.size := HM.raw.top
  clear HM hb0
  by_cases hin : 0 ≤ lba ∧ lba < to.length
  · obtain ⟨i, rfl⟩ : ∃ i : Nat, lba = i := ⟨lba.toNat, by omega⟩
    have hlt : i < to.length := by omega
    obtain ⟨old, hold⟩ : ∃ old, to[i]? = some old := ⟨_, List.getElem?_eq_getElem hlt⟩
    have hgd : to.getD (i : Int).toNat Ent.none = old := by rw [List.getD_eq_getElem?_getD, Int.toNat_natCast, hold]; rfl
    rw [if_pos hin] at HR
    rw [hgd] at HR
    have HOLD := Lib.hid hold
    clear hgd hold hin
    obtain ⟨oa, os, ok⟩ := old
    obtain ⟨ea, es, ek⟩ := e
    simp only at *
    unfold Ent.v
    go_enter Try.func34, Try.ntmps34
    (go_wp2_with fail); refine (mapGet_any HM0.out i _ HOLD.out).mono ?_
    rintro r w1 ⟨rfl, hb⟩
    have HM1 := Lib.hid (HM0.out.below hb)
    have HO1 := Lib.hid (HO0.out.step hb)
    have HE1 := Lib.hid (HE0.out.below hb)
    clear hb
    simp only [Ent.v]
    have hb2 : Below w1.heap.size w1 (w1.alloc (.cells #[.int .i64 oa, .int .i64 os, .int .i64 ok] 32)) := (Below.refl w1.heap.size w1).alloc (Nat.le_refl _) _
    have HM2 := Lib.hid (HM1.out.below hb2)
    have HO2 := Lib.hid (HO1.out.step hb2)
    have HE2 := Lib.hid (HE1.out.below hb2)
    have HX2 := Lib.hid (Blk.new w1 32 [.int .i64 oa, .int .i64 os, .int .i64 ok])
    have hew := HE1.out.lt
    have e0 : w1.cell? ⟨w.heap.size, 0, none⟩ = some (.int .i64 ea) := HE1.out.cell 0
    clear hb2
    (go_wp2_with fail); refine (mapAddr_any HM2.out.raw HM2.out.ok ea).mono ?_
    rintro r w3 ⟨rfl, hb⟩
    have HM3 := Lib.hid (HM2.out.below hb)
    have HO3 := Lib.hid (HO2.out.step hb)
    have he3 := HE2.out.below hb
    have hx3 := HX2.out.below hb
    have e0 : w3.cell? ⟨w.heap.size, 0, none⟩ = some (.int .i64 ea) := he3.cell 0
    have e1 : w3.cell? ⟨w.heap.size, 1, none⟩ = some (.int .i64 es) := he3.cell 1
    have e2 : w3.cell? ⟨w.heap.size, 2, none⟩ = some (.int .i64 ek) := he3.cell 2
    have x0 : w3.cell? ⟨w1.heap.size, 0, none⟩ = some (.int .i64 oa) := hx3.cell 0
    have x1 : w3.cell? ⟨w1.heap.size, 1, none⟩ = some (.int .i64 os) := hx3.cell 1
    have x2 : w3.cell? ⟨w1.heap.size, 2, none⟩ = some (.int .i64 ok) := hx3.cell 2
    clear hb he3 hx3
    by_cases ha : 0 ≤ ea ∧ ea < g.all
    · rw [decide_eq_true ha]
      by_cases hk1 : ek = 1
      · subst hk1
        by_cases hs1 : es < 1
        · go_wp2_with fail
          go_ret2
          have hS : setTo g to i ⟨ea, es, 1⟩ = (false, 1, to) := by have := HR.out; rwa [if_neg (by rintro ⟨_, _, h, _⟩; omega)] at this
          rw [hS]
          exact ⟨rfl, HM3.out, HO3.out⟩
        by_cases hs2 : 1125899906842624 < es
        · go_wp2_with fail
          go_ret2
          have hS : setTo g to i ⟨ea, es, 1⟩ = (false, 1, to) := by have := HR.out; rwa [if_neg (by rintro ⟨_, _, _, h⟩; omega)] at this
          rw [hS]
          exact ⟨rfl, HM3.out, HO3.out⟩
        have HR2 := HR.out
        rw [if_pos ⟨ha, by simp, by omega, by omega⟩] at HR2
        clear HR
        have HR := Lib.hid HR2
        clear HR2
        obtain ⟨ean, rfl⟩ : ∃ k : Nat, ea = k := ⟨ea.toNat, by omega⟩
        (go_wp2_with fail); refine (mapOthers_any HM3.out i ean hlt ha.2).mono ?_
        rintro r w4 ⟨rfl, rfl⟩
        by_cases hot : whoIx to ean ≠ 0 ∧ whoIx to ean ≠ i + 1
        · rw [decide_eq_true hot]
          go_wp2_with fail
          go_ret2
          have hS : setTo g to i ⟨ean, es, 1⟩ = (false, 13, to) := by have := HR.out; rwa [if_pos ⟨hot.1, by have := hot.2; omega⟩] at this
          rw [hS]
          exact ⟨rfl, HM3.out, HO3.out⟩
        rw [decide_eq_false hot]
        have HR2 := HR.out
        rw [if_neg (fun h => hot ⟨h.1, fun e => h.2 (by rw [e]; rfl)⟩)] at HR2
        clear HR
        have HR := Lib.hid HR2
        clear HR2
        by_cases hso : es ≤ os
        · go_wp2_with fail
          go_ret2
          have hS : setTo g to i ⟨ean, es, 1⟩ = (false, 0, to) := by have := HR.out; rwa [if_pos hso] at this
          rw [hS]
          exact ⟨rfl, HM3.out, HO3.out⟩
        have hot2 : whoIx to ean = 0 ∨ whoIx to ean = i + 1 := by omega
        clear hot
        (go_wp2_with fail); refine (mapPut_any HM3.out i ⟨ean, es, 1⟩ ⟨oa, os, ok⟩ HOLD.out ha hot2).mono ?_
        rintro r w5 ⟨rfl, hm5, ho5⟩
        have HM5 := Lib.hid hm5
        have HO5 := Lib.hid (HO3.out.trans ho5)
        clear hm5 ho5
        go_wp2_with fail
        go_ret2
        have hS : setTo g to i ⟨ean, es, 1⟩ = (true, 0, to.set i ⟨ean, es, 1⟩) := by have := HR.out; rwa [if_neg (by omega)] at this
        rw [hS]
        exact ⟨rfl, HM5.out, HO5.out⟩
      · by_cases hk2 : ek = 2
        · subst hk2
          by_cases hs1 : es < 1
          · go_wp2_with fail
            go_ret2
            have hS : setTo g to i ⟨ea, es, 2⟩ = (false, 1, to) := by have := HR.out; rwa [if_neg (by rintro ⟨_, _, h, _⟩; omega)] at this
            rw [hS]
            exact ⟨rfl, HM3.out, HO3.out⟩
          by_cases hs2 : 1125899906842624 < es
          · go_wp2_with fail
            go_ret2
            have hS : setTo g to i ⟨ea, es, 2⟩ = (false, 1, to) := by have := HR.out; rwa [if_neg (by rintro ⟨_, _, _, h⟩; omega)] at this
            rw [hS]
            exact ⟨rfl, HM3.out, HO3.out⟩
          have HR2 := HR.out
          rw [if_pos ⟨ha, by simp, by omega, by omega⟩] at HR2
          clear HR
          have HR := Lib.hid HR2
          clear HR2
          obtain ⟨ean, rfl⟩ : ∃ k : Nat, ea = k := ⟨ea.toNat, by omega⟩
          (go_wp2_with fail); refine (mapOthers_any HM3.out i ean hlt ha.2).mono ?_
          rintro r w4 ⟨rfl, rfl⟩
          by_cases hot : whoIx to ean ≠ 0 ∧ whoIx to ean ≠ i + 1
          · rw [decide_eq_true hot]
            go_wp2_with fail
            go_ret2
            have hS : setTo g to i ⟨ean, es, 2⟩ = (false, 13, to) := by have := HR.out; rwa [if_pos ⟨hot.1, by have := hot.2; omega⟩] at this
            rw [hS]
            exact ⟨rfl, HM3.out, HO3.out⟩
          rw [decide_eq_false hot]
          have HR2 := HR.out
          rw [if_neg (fun h => hot ⟨h.1, fun e => h.2 (by rw [e]; rfl)⟩)] at HR2
          clear HR
          have HR := Lib.hid HR2
          clear HR2
          by_cases hso : es ≤ os
          · go_wp2_with fail
            go_ret2
            have hS : setTo g to i ⟨ean, es, 2⟩ = (false, 0, to) := by have := HR.out; rwa [if_pos hso] at this
            rw [hS]
            exact ⟨rfl, HM3.out, HO3.out⟩
          have hot2 : whoIx to ean = 0 ∨ whoIx to ean = i + 1 := by omega
          clear hot
          (go_wp2_with fail); refine (mapPut_any HM3.out i ⟨ean, es, 2⟩ ⟨oa, os, ok⟩ HOLD.out ha hot2).mono ?_
          rintro r w5 ⟨rfl, hm5, ho5⟩
          have HM5 := Lib.hid hm5
          have HO5 := Lib.hid (HO3.out.trans ho5)
          clear hm5 ho5
          go_wp2_with fail
          go_ret2
          have hS : setTo g to i ⟨ean, es, 2⟩ = (true, 0, to.set i ⟨ean, es, 2⟩) := by have := HR.out; rwa [if_neg (by omega)] at this
          rw [hS]
          exact ⟨rfl, HM5.out, HO5.out⟩
        · have hk1b : (ek != 1) = true := by simp [hk1]
          have hk2b : (ek != 2) = true := by simp [hk2]
          go_wp2_with fail
          go_ret2
          have hS : setTo g to i ⟨ea, es, ek⟩ = (false, 1, to) := by have := HR.out; rwa [if_neg (by rintro ⟨_, h, _⟩; omega)] at this
          rw [hS]
          exact ⟨rfl, HM3.out, HO3.out⟩
    · rw [decide_eq_false ha]
      go_wp2_with fail
      go_ret2
      have hS : setTo g to i ⟨ea, es, ek⟩ = (false, 1, to) := by have := HR.out; rwa [if_neg (fun h => ha h.1)] at this
      rw [hS]
      exact ⟨rfl, HM3.out, HO3.out⟩
  · rw [if_neg hin] at HR
    obtain ⟨ea, es, ek⟩ := e
    simp only at *
    unfold Ent.v
    go_enter Try.func34, Try.ntmps34
    (go_wp2_with fail); refine (mapGetNo_any HM0.out lba hin).mono ?_
    rintro r w1 ⟨rfl, hb⟩
    have HM1 := Lib.hid ((HM0.out.below hb).below ((Below.refl w1.heap.size w1).alloc (Nat.le_refl _) (.cells #[.int .i64 0, .int .i64 0, .int .i64 0] 32)))
    have HO1 := Lib.hid ((HO0.out.step hb).step ((Below.refl w1.heap.size w1).alloc (Nat.le_refl _) (.cells #[.int .i64 0, .int .i64 0, .int .i64 0] 32)))
    clear hb
    simp only [Ent.v]
    go_wp2_with fail
    go_ret2
    have hS : setTo g to lba ⟨ea, es, ek⟩ = (false, 2, to) := by have := HR.out; exact this
    rw [hS]
    exact ⟨rfl, HM1.out, HO1.out⟩

set_option maxHeartbeats 2000000 in
theorem mapMove_any {w : World} {B C m : Nat} {g : Geo} {to : List Ent} {kt kw vb : Nat} {st sw : Shards} (HM : MapAt w B C m g to kt kw vb st sw) (lba from_ dst : Int) :
    Calls Try.prog 35 #[.pointer (some ⟨m, 0, none⟩), .int .i64 lba, .int .i64 from_, .int .i64 dst] w fun r w' => OpPost w B C m g kt kw vb st sw (moveTo g to lba from_ dst) r w' := by
  have HM0 := Lib.hid HM
  have HO0 := Lib.hid (Only.refl B C w)
  have HR := Lib.hid (moveTo_def g to lba from_ dst)
  clear HM
  by_cases hin : 0 ≤ lba ∧ lba < to.length
  · obtain ⟨i, rfl⟩ : ∃ i : Nat, lba = i := ⟨lba.toNat, by omega⟩
    have hlt : i < to.length := by omega
    obtain ⟨old, hold⟩ : ∃ old, to[i]? = some old := ⟨_, List.getElem?_eq_getElem hlt⟩
    have hgd : to.getD (i : Int).toNat Ent.none = old := by rw [List.getD_eq_getElem?_getD, Int.toNat_natCast, hold]; rfl
    rw [if_pos hin] at HR
    rw [hgd] at HR
    have HOLD := Lib.hid hold
    clear hgd hold hin
    obtain ⟨oa, os, ok⟩ := old
    simp only at *
    go_enter Try.func35, Try.ntmps35
    (go_wp2_with fail); refine (mapGet_any HM0.out i _ HOLD.out).mono ?_
    rintro r w1 ⟨rfl, hb⟩
    have HM1 := Lib.hid (HM0.out.below hb)
    have HO1 := Lib.hid (HO0.out.step hb)
    clear hb
    simp only [Ent.v]
    have hb2 : Below w1.heap.size w1 (w1.alloc (.cells #[.int .i64 oa, .int .i64 os, .int .i64 ok] 32)) := (Below.refl w1.heap.size w1).alloc (Nat.le_refl _) _
    have HM2 := Lib.hid (HM1.out.below hb2)
    have HO2 := Lib.hid (HO1.out.step hb2)
    have HX2 := Lib.hid (Blk.new w1 32 [.int .i64 oa, .int .i64 os, .int .i64 ok])
    have hC1 := HM1.out.raw.top
    clear hb2
    (go_wp2_with fail); refine (mapAddr_any HM2.out.raw HM2.out.ok dst).mono ?_
    rintro r w3 ⟨rfl, hb⟩
    have HM3 := Lib.hid (HM2.out.below hb)
    have HO3 := Lib.hid (HO2.out.step hb)
    have hx3 := HX2.out.below hb
    have x0 : w3.cell? ⟨w1.heap.size, 0, none⟩ = some (.int .i64 oa) := hx3.cell 0
    have x1 : w3.cell? ⟨w1.heap.size, 1, none⟩ = some (.int .i64 os) := hx3.cell 1
    have x2 : w3.cell? ⟨w1.heap.size, 2, none⟩ = some (.int .i64 ok) := hx3.cell 2
    have y0 := hx3.free 0
    have HX3 := Lib.hid hx3
    clear hb hx3
    by_cases ha : 0 ≤ dst ∧ dst < g.all
    · rw [decide_eq_true ha]
      have HR2 := HR.out
      rw [if_pos ha] at HR2
      clear HR
      have HR := Lib.hid HR2
      clear HR2
      obtain ⟨ean, rfl⟩ : ∃ k : Nat, dst = k := ⟨dst.toNat, by omega⟩
      (go_wp2_with fail); refine (mapOthers_any HM3.out i ean hlt ha.2).mono ?_
      rintro r w4 ⟨rfl, rfl⟩
      by_cases hot : whoIx to ean ≠ 0 ∧ whoIx to ean ≠ i + 1
      · rw [decide_eq_true hot]
        go_wp2_with fail
        go_ret2
        have hS : moveTo g to i from_ ean = (false, 13, to) := by have := HR.out; rwa [if_pos ⟨hot.1, by have := hot.2; omega⟩] at this
        rw [hS]
        exact ⟨rfl, HM3.out, HO3.out⟩
      rw [decide_eq_false hot]
      have HR2 := HR.out
      rw [if_neg (fun h => hot ⟨h.1, fun e => h.2 (by rw [e]; rfl)⟩)] at HR2
      clear HR
      have HR := Lib.hid HR2
      clear HR2
      by_cases hf0 : from_ < 0
      · go_wp2_with fail
        go_ret2
        have hS : moveTo g to i from_ ean = (false, 0, to) := by have := HR.out; rwa [if_pos (.inl hf0)] at this
        rw [hS]
        exact ⟨rfl, HM3.out, HO3.out⟩
      by_cases hfo : oa = from_
      · have hfb : (oa != from_) = false := by simp [hfo]
        have hot2 : whoIx to ean = 0 ∨ whoIx to ean = i + 1 := by omega
        have HM4 := Lib.hid (HM3.out.only (B' := w1.heap.size) (C' := w1.heap.size + 1) (w' := w3.setCell ⟨w1.heap.size, 0, none⟩ (.int .i64 ean)) ((Only.refl w1.heap.size (w1.heap.size + 1) w3).setCell (p := ⟨w1.heap.size, 0, none⟩) ⟨Nat.le_refl _, Nat.lt_succ_self _⟩ (.int .i64 ean)) (.inl hC1))
        have HO4 : Hid (Only B C w (w3.setCell ⟨w1.heap.size, 0, none⟩ (.int .i64 ean))) := by
          refine ⟨HO3.out.os, HO3.out.tape, HO3.out.output, by simpa using HO3.out.size, fun k hk hc => ?_⟩
          rw [Below.heap_setCell _ _ _ _ (by have := HO1.out.size; simp only; omega)]
          exact HO3.out.block k hk hc
        clear hot
        (go_wp2_with fail); refine (mapPut_any HM4.out i ⟨ean, os, ok⟩ ⟨oa, os, ok⟩ HOLD.out ha hot2).mono ?_
        rintro r w5 ⟨rfl, hm5, ho5⟩
        have HM5 := Lib.hid hm5
        have HO5 := Lib.hid (HO4.out.trans ho5)
        clear hm5 ho5
        go_wp2_with fail
        go_ret2
        have hS : moveTo g to i from_ ean = (true, 0, to.set i ⟨ean, os, ok⟩) := by have := HR.out; rwa [if_neg (by omega)] at this
        rw [hS]
        exact ⟨rfl, HM5.out, HO5.out⟩
      · have hfb : (oa != from_) = true := by simp [hfo]
        go_wp2_with fail
        go_ret2
        have hS : moveTo g to i from_ ean = (false, 0, to) := by have := HR.out; rwa [if_pos (.inr hfo)] at this
        rw [hS]
        exact ⟨rfl, HM3.out, HO3.out⟩
    · rw [decide_eq_false ha]
      go_wp2_with fail
      go_ret2
      have hS : moveTo g to i from_ dst = (false, 1, to) := by have := HR.out; rwa [if_neg ha] at this
      rw [hS]
      exact ⟨rfl, HM3.out, HO3.out⟩
  · rw [if_neg hin] at HR
    go_enter Try.func35, Try.ntmps35
    (go_wp2_with fail); refine (mapGetNo_any HM0.out lba hin).mono ?_
    rintro r w1 ⟨rfl, hb⟩
    have HM1 := Lib.hid ((HM0.out.below hb).below ((Below.refl w1.heap.size w1).alloc (Nat.le_refl _) (.cells #[.int .i64 0, .int .i64 0, .int .i64 0] 32)))
    have HO1 := Lib.hid ((HO0.out.step hb).step ((Below.refl w1.heap.size w1).alloc (Nat.le_refl _) (.cells #[.int .i64 0, .int .i64 0, .int .i64 0] 32)))
    clear hb
    simp only [Ent.v]
    go_wp2_with fail
    go_ret2
    have hS : moveTo g to lba from_ dst = (false, 2, to) := by have := HR.out; exact this
    rw [hS]
    exact ⟨rfl, HM1.out, HO1.out⟩

end Go.Proofs.Ytlkapaecaeldpaa
