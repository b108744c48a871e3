/-
  Whatever comes in, L2pCounts answers true, and each argument reads behind the call as it read before. No condition.
-/
import Derived.Test.YtlkapaecaeldpaaLaw11i
import Derived.Test.YtlkapaecaeldpaaRowKit
import Derived.Test.YtlkapaecaeldpaaOps
set_option linter.unusedVariables false
set_option linter.unusedSimpArgs false
namespace Go.Proofs.Ytlkapaecaeldpaa.l2pCounts
open Go.ChangeShapes Go.WideShapes Go.ChangeAt Go.RowKit Go.Joins Go.Deep

theorem own : ownKnob Try.prog.godebug = none := by kernel_rfl
theorem laidOut : laidOutB Try.prog = true := by kernel_rfl
theorem hint {t : TypeId} {fs : Array Field} (h : (fs.all fun f => f.type == t) = true) (ht : Try.prog.underlying t = some (.int .i64)) : ∀ (j : Nat) (f : Field), fs[j]? = some f → Try.prog.underlying f.type = some (.int .i64) := by
  intro j f hf
  rw [Array.all_eq_true] at h
  obtain ⟨hj, rfl⟩ := Array.getElem?_eq_some_iff.1 hf
  have := h j hj
  rw [beq_iff_eq] at this
  rw [this, ht]

section
variable {H : Type} {enc : TypeId × Value → H} {w : World} {base : Nat} {spare : Nat → Bool} {held : Bool}
theorem nums_int3 : Nums enc Try.prog w base spare held 3 1 := nums_int Try.underlying3
theorem cells_int : Try.prog.cellsOf 3 = 1 := by kernel_rfl
theorem cells_entry : Try.prog.cellsOf 32 = 3 := by kernel_rfl
theorem nums_entry : Nums enc Try.prog w base spare held 32 3 := nums_struct Try.underlying32 cells_entry fun j hj => by
  rcases (show j = 0 ∨ j = 1 ∨ j = 2 by omega) with rfl | rfl | rfl
  · exact cover (i := 0) (k := 1) rfl cells_int (Nat.le_refl _) (by decide) nums_int3
  · exact cover (i := 1) (k := 1) rfl cells_int (Nat.le_refl _) (by decide) nums_int3
  · exact cover (i := 2) (k := 1) rfl cells_int (Nat.le_refl _) (by decide) nums_int3
theorem nums_op : Nums enc Try.prog w base spare held 34 7 := nums_struct Try.underlying34 (by kernel_rfl) fun j hj => by
  rcases (show j = 0 ∨ j = 1 ∨ j = 2 ∨ j = 3 ∨ (4 ≤ j ∧ j < 7) by omega) with rfl | rfl | rfl | rfl | ⟨h1, h2⟩
  · exact cover (i := 0) (k := 1) rfl cells_int (Nat.le_refl _) (by decide) nums_int3
  · exact cover (i := 1) (k := 1) rfl cells_int (Nat.le_refl _) (by decide) nums_int3
  · exact cover (i := 2) (k := 1) rfl cells_int (Nat.le_refl _) (by decide) nums_int3
  · exact cover (i := 3) (k := 1) rfl cells_int (Nat.le_refl _) (by decide) nums_int3
  · exact cover (i := 4) (k := 3) rfl cells_entry h1 h2 nums_entry
end

set_option maxRecDepth 100000 in
theorem lifted (os : Os) (started : os.Started) (H : Type) (enc : TypeId × Value → H) :
    ReturnsInHanded {} Try.checked os 6 .any (Rows.l2pCountsSpec.pre6 enc Try.prog Try.f6 Rows.l2pCountsRow.domain false) (Rows.l2pCountsSpec.post enc Try.prog Try.f6 false true false false) := by
  refine returnsInHanded_of_change (C := Try.checked) own started (by kernel_rfl) Try.func6
    (ChangeSpec.witness6 (enc := enc) (C := Try.checked) false ⟨#[], #[.agg #[.int .i64 0, .int .i64 0, .int .i64 0, .int .i64 0, .int .i64 0], .int .i64 0, .slice none 0 0], []⟩ 8 (by kernel_rfl) (by kernel_rfl) (by kernel_rfl) (by kernel_rfl)) ?_
  intro W base args ds gs before hval0 hW hcnd _
  have hval : ∀ (j : Nat) t v, Try.f6.params[j]? = some t → args[j]? = some v → Value.okWide Try.prog W .any base t v := hval0
  have hW' := hW
  obtain ⟨p, q, hA0, hV, rfl, hfz, hnd⟩ := hW
  have hA : DataW.TrodAll enc Try.prog W 0 (fun _ => true) true Try.f6.params.toList args.toList ds p := hA0
  rw [Try.params6] at hA hval
  obtain ⟨v0, vs0, d0, ds0, p0, q0, hargs, rfl, rfl, h0, r0⟩ := trodAll_cons hA
  obtain ⟨v1, vs1, d1, ds1, p1, q1, rfl, rfl, rfl, h1, r1⟩ := trodAll_cons r0
  obtain ⟨v2, vs2, d2, ds2, p2, q2, rfl, rfl, rfl, h2, r2⟩ := trodAll_cons r1
  obtain ⟨rfl, rfl, rfl⟩ := trodAll_nil r2
  obtain rfl : args = #[v0, v1, v2] := by cases args; simp_all
  obtain ⟨rfl, rfl⟩ := trodVars_none hV
  obtain ⟨a0, rfl, w0⟩ := rd_geo Try.underlying23 (by kernel_rfl) rfl (by kernel_rfl) (hint (t := 3) (by kernel_rfl) Try.underlying3) (hval 0 23 v0 rfl rfl) h0
  obtain ⟨a1, rfl, w1⟩ := rd_int Try.underlying3 (hval 1 3 v1 rfl rfl) h1
  obtain ⟨a2, len2, cap2, rfl, w2⟩ := rd_ops Try.underlying24 (by kernel_rfl) nums_op (hval 2 24 v2 rfl rfl) h2
  clear hA0 hval0
  refine (l2pCountsWalk a0 a1 a2 len2 cap2 W w0 w1 w2).mono fun e W' ⟨he, bel⟩ => ?_
  subst he
  exact ⟨_, rfl, _, _, _, [], _, [], hW', trodAll_mk1 (shut_bool Try.underlying4 _), (trodAll_cons_mk (Below.trod laidOut (by kernel_rfl) (of_decide_eq_true (by kernel_rfl)) h0 bel (rd_lt h0)) (trodAll_cons_mk (Below.trod laidOut (by kernel_rfl) (of_decide_eq_true (by kernel_rfl)) h1 bel (rd_lt h1)) (trodAll_cons_mk (Below.trod laidOut (by kernel_rfl) (of_decide_eq_true (by kernel_rfl)) h2 bel (rd_lt h2)) trodAll_mk0))), rfl, bel.frame _, fun h => by cases h⟩

/-- the statement -/
theorem proved : Rows.L2pCountsSaid :=
  OpenClaim.holds_of_wide 6 Try.f6 rfl rfl rfl rfl rfl rfl rfl ⟨rfl, rfl, rfl, rfl, rfl⟩ rfl rfl rfl rfl rfl (by kernel_rfl) Try.func6 (by kernel_rfl)
    (of_decide_eq_true (by kernel_rfl)) (by unfold Func.isWrapper; first | (rw [if_pos (by decide +kernel)]; kernel_rfl) | (rw [if_neg (by decide +kernel)]; exact ⟨rfl, rfl⟩))
    (fun os started H enc _ => lifted os started H enc)
#print axioms proved
end Go.Proofs.Ytlkapaecaeldpaa.l2pCounts
