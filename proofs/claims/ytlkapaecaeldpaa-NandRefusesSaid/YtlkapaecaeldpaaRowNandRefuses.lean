/-
  Whatever comes in, NandRefuses answers true, and each argument reads behind the call as it read before. No condition.
-/
import Derived.Test.YtlkapaecaeldpaaLaw08o
import Derived.Test.YtlkapaecaeldpaaRowKit
import Derived.Test.YtlkapaecaeldpaaOps8
set_option linter.unusedVariables false
set_option linter.unusedSimpArgs false
namespace Go.Proofs.Ytlkapaecaeldpaa.nandRefuses
open Go.ChangeShapes Go.WideShapes Go.ChangeAt Go.RowKit Go.Joins Go.Deep

theorem own : ownKnob Try.prog.godebug = none := by kernel_rfl
theorem laidOut : laidOutB Try.prog = true := by kernel_rfl
theorem hint {t : TypeId} {fs : Array Field} (h : (fs.all fun f => f.type == t) = true) (ht : Try.prog.underlying t = some (.int .i64)) : ∀ (j : Nat) (f : Field), fs[j]? = some f → Try.prog.underlying f.type = some (.int .i64) := by
  intro j f hf
  rw [Array.all_eq_true] at h
  obtain ⟨hj, rfl⟩ := Array.getElem?_eq_some_iff.1 hf
  have := h j hj
  rw [beq_iff_eq] at this
  rw [this, ht]

section
variable {H : Type} {enc : TypeId × Value → H} {w : World} {base : Nat} {held : Bool}
theorem cells_int : Try.prog.cellsOf 3 = 1 := by kernel_rfl
theorem reads_op : Reads8 enc Try.prog w base held 86 := reads8 Try.underlying86 (by kernel_rfl) (fun i hi => by
  rcases (show i = 0 ∨ i = 1 ∨ i = 2 ∨ i = 3 ∨ i = 4 by omega) with rfl | rfl | rfl | rfl | rfl
  all_goals exact ⟨_, rfl, rfl, cells_int, Try.underlying3⟩) ⟨_, rfl, rfl, (by kernel_rfl), Try.underlying4⟩ ⟨_, rfl, rfl, (by kernel_rfl), Try.underlying45⟩ Try.underlying5 (by kernel_rfl)
end

set_option maxRecDepth 100000 in
theorem lifted (os : Os) (started : os.Started) (H : Type) (enc : TypeId × Value → H) :
    ReturnsInHanded {} Try.checked os 12 .any (Rows.nandRefusesSpec.pre6 enc Try.prog Try.f12 Rows.nandRefusesRow.domain false) (Rows.nandRefusesSpec.post enc Try.prog Try.f12 false true false false) := by
  refine returnsInHanded_of_change (C := Try.checked) own started (by kernel_rfl) Try.func12
    (ChangeSpec.witness6 (enc := enc) (C := Try.checked) false ⟨#[], #[.agg #[.int .i64 0, .int .i64 0, .int .i64 0, .int .i64 0, .int .i64 0], .slice none 0 0, .agg #[.int .i64 0, .int .i64 0, .int .i64 0, .int .i64 0, .int .i64 0, .bool false, .slice none 0 0]], []⟩ 8 (by kernel_rfl) (by kernel_rfl) (by kernel_rfl) (by kernel_rfl)) ?_
  intro W base args ds gs before hval0 hW hcnd _
  have hval : ∀ (j : Nat) t v, Try.f12.params[j]? = some t → args[j]? = some v → Value.okWide Try.prog W .any base t v := hval0
  have hW' := hW
  obtain ⟨p, q, hA0, hV, rfl, hfz, hnd⟩ := hW
  have hA : DataW.TrodAll enc Try.prog W 0 (fun _ => true) true Try.f12.params.toList args.toList ds p := hA0
  rw [Try.params12] at hA hval
  obtain ⟨v0, vs0, d0, ds0, p0, q0, hargs, rfl, rfl, h0, r0⟩ := trodAll_cons hA
  obtain ⟨v1, vs1, d1, ds1, p1, q1, rfl, rfl, rfl, h1, r1⟩ := trodAll_cons r0
  obtain ⟨v2, vs2, d2, ds2, p2, q2, rfl, rfl, rfl, h2, r2⟩ := trodAll_cons r1
  obtain ⟨rfl, rfl, rfl⟩ := trodAll_nil r2
  obtain rfl : args = #[v0, v1, v2] := by cases args; simp_all
  obtain ⟨rfl, rfl⟩ := trodVars_none hV
  obtain ⟨a0, rfl, w0⟩ := rd_geo Try.underlying23 (by kernel_rfl) rfl (by kernel_rfl) (hint (t := 3) (by kernel_rfl) Try.underlying3) (hval 0 23 v0 rfl rfl) h0
  obtain ⟨a1, len1, cap1, rfl, w1⟩ := rd_ops8 Try.underlying78 (by kernel_rfl) reads_op (hval 1 78 v1 rfl rfl) h1
  obtain ⟨a2, rfl, w2⟩ := rd_op8 Try.underlying86 reads_op (hval 2 86 v2 rfl rfl) h2
  clear hA0 hval0
  refine (nandRefusesWalk a0 a1 len1 cap1 a2 W w0 w1 w2).mono fun e W' ⟨he, bel⟩ => ?_
  subst he
  exact ⟨_, rfl, _, _, _, [], _, [], hW', trodAll_mk1 (shut_bool Try.underlying4 _), (trodAll_cons_mk (Below.trod laidOut (by kernel_rfl) (of_decide_eq_true (by kernel_rfl)) h0 bel (rd_lt h0)) (trodAll_cons_mk (Below.trod laidOut (by kernel_rfl) (of_decide_eq_true (by kernel_rfl)) h1 bel (rd_lt h1)) (trodAll_cons_mk (Below.trod laidOut (by kernel_rfl) (of_decide_eq_true (by kernel_rfl)) h2 bel (rd_lt h2)) trodAll_mk0))), rfl, bel.frame _, fun h => by cases h⟩

/-- the statement -/
theorem proved : Rows.NandRefusesSaid :=
  OpenClaim.holds_of_wide 12 Try.f12 rfl rfl rfl rfl rfl rfl rfl ⟨rfl, rfl, rfl, rfl, rfl⟩ rfl rfl rfl rfl rfl (by kernel_rfl) Try.func12 (by kernel_rfl)
    (of_decide_eq_true (by kernel_rfl)) (by unfold Func.isWrapper; first | (rw [if_pos (by decide +kernel)]; kernel_rfl) | (rw [if_neg (by decide +kernel)]; exact ⟨rfl, rfl⟩))
    (fun os started H enc _ => lifted os started H enc)
#print axioms proved
end Go.Proofs.Ytlkapaecaeldpaa.nandRefuses
