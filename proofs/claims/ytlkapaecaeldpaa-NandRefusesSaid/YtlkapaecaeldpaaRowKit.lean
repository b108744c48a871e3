/-
  What a law's row tells of each argument that came in: by the argument's type.
-/
import Derived.Test.YtlkapaecaeldpaaKit
import Derived.ProofKit
import Derived.OpenShut
import Derived.ChangeOld
import Derived.Carry
import Derived.Lib.SmallJoins
import Derived.Deep.Fields
set_option linter.unusedVariables false
set_option linter.unusedSimpArgs false
namespace Go.Proofs.Ytlkapaecaeldpaa
open Go.ChangeShapes Go.WideShapes Go.ChangeAt Go.RowKit Go.Joins Go.Deep

theorem len2 {ns : List Int} (h : ns.length = 2) : ∃ x y, ns = [x, y] := by
  match ns, h with
  | [x, y], _ => exact ⟨x, y, rfl⟩
theorem len3 {ns : List Int} (h : ns.length = 3) : ∃ x y z, ns = [x, y, z] := by
  match ns, h with
  | [x, y, z], _ => exact ⟨x, y, z, rfl⟩

section
variable {H : Type} {enc : TypeId × Value → H} {P : Program} {w : World} {base : Nat} {spare : Nat → Bool} {held : Bool} {r : Reach} {b0 : Nat} {t : TypeId} {v : Value} {d : DataW H} {p : List MemPlace}

theorem rd_lt (hd : DataW.Trod enc P w 0 spare held t v d p) : ∀ x ∈ p, x.block < w.heap.size := by obtain ⟨m, hm⟩ := hd; exact DataW.trod_lt m _ _ _ hm

theorem rd_int {k : IntKind} (ht : P.underlying t = some (.int k)) (hv : Value.okWide P w r b0 t v) (hd : DataW.Trod enc P w base spare held t v d p) : ∃ n, v = .int k n ∧ (Lit.int k n).wf = true := by
  obtain ⟨n, h, _, _, hw⟩ := open_int ht hv hd
  exact ⟨n, h, hw⟩
theorem rd_bool (ht : P.underlying t = some .bool) (hv : Value.okWide P w r b0 t v) (hd : DataW.Trod enc P w base spare held t v d p) : ∃ b, v = .bool b := by
  obtain ⟨b, h, _, _⟩ := open_bool ht hv hd
  exact ⟨b, h⟩
theorem rd_slice {e : TypeId} {k : IntKind} (ht : P.underlying t = some (.slice e)) (he : P.underlying e = some (.int k)) (hc : P.cellsOf e = 1) (hv : Value.okWide P w r b0 t v) (hd : DataW.Trod enc P w base (fun _ => true) held t v d p) :
    ∃ a len cap zs, v = .slice a len cap ∧ IsRow k w a len cap zs := by
  obtain ⟨a0, len0, cap0, rfl⟩ := okWide_slice ht hv
  obtain ⟨fuel, hf⟩ := hd
  rcases open_ints ht he hc hf with ⟨hcs, _⟩ | ⟨x, l, c, zs, hcs, _, hl, hm, hz, _, hcell, hwz⟩
  · simp [Value.cells] at hcs
    obtain ⟨rfl, rfl, rfl⟩ := hcs
    exact ⟨_, _, _, [], rfl, .inl ⟨rfl, rfl, rfl, rfl⟩⟩
  · simp [Value.cells] at hcs
    obtain ⟨rfl, rfl, rfl⟩ := hcs
    exact ⟨_, _, _, zs, rfl, .inr ⟨_, rfl, hl, hm, by simpa using hz, hcell, hwz⟩⟩

/-- a struct of one-cell whole numbers -/
theorem rd_ints {fs : Array Field} (hs : P.underlying t = some (.struct fs)) (hone : oneCellFields P fs = true) (hC : P.cellsOf t = fs.size) (hint : ∀ (j : Nat) (f : Field), fs[j]? = some f → P.underlying f.type = some (.int .i64))
    (hv : Value.okWide P w r b0 t v) (hd : DataW.Trod enc P w base spare held t v d p) :
    ∃ ns : List Int, v = .agg (ns.map (Value.int .i64)).toArray ∧ ns.length = fs.size ∧ ∀ n ∈ ns, (Lit.int .i64 n).wf = true := by
  obtain ⟨cs, rfl, hsz⟩ := okWide_struct hs hv
  obtain ⟨fuel, hf⟩ := hd
  obtain ⟨xs, n, _, hx, _, hlen, hg⟩ := DataW.trod_struct hs hf
  have each : ∀ j (hj : j < fs.size), ∃ m, cs[j]? = some (.int .i64 m) ∧ (Lit.int .i64 m).wf = true := by
    intro j hj
    obtain ⟨f, hfj⟩ : ∃ f, fs[j]? = some f := ⟨_, Array.getElem?_eq_getElem hj⟩
    obtain ⟨o, k⟩ := hone_of hone j f hfj
    have h1 := hg j f hfj
    rw [o, k] at h1
    have hjc : j < cs.toList.length := by rw [Array.length_toList]; omega
    have hc1 : ((Value.agg cs).cells.toList.drop j).take 1 = [cs.toList[j]] := by
      show (cs.toList.drop j).take 1 = _
      rw [List.drop_eq_getElem_cons hjc]
      rfl
    rw [hc1] at h1
    obtain ⟨y, hy⟩ : ∃ y, xs[j]? = some y := ⟨_, List.getElem?_eq_getElem (by omega)⟩
    rw [hy] at h1
    obtain ⟨m, hm, _, hw⟩ := DataW.trod_int (hint j f hfj) h1
    refine ⟨m, ?_, hw⟩
    rw [List.cons.injEq] at hm
    rw [← Array.getElem?_toList, List.getElem?_eq_getElem hjc, hm.1]
  have hnum : ∀ j, j < fs.size → cs[j]? = some (.int .i64 (intOf (cs[j]?.getD undef))) ∧ (Lit.int .i64 (intOf (cs[j]?.getD undef))).wf = true := by
    intro j hj
    obtain ⟨m, hm, hw⟩ := each j hj
    rw [hm]
    exact ⟨rfl, hw⟩
  refine ⟨(List.range fs.size).map fun j => intOf (cs[j]?.getD undef), ?_, by simp, ?_⟩
  · congr 1
    apply Array.ext'
    apply List.ext_getElem?
    intro j
    rw [List.map_map]
    by_cases hj : j < fs.size
    · rw [Array.getElem?_toList, (hnum j hj).1]
      simp [hj]
    · rw [Array.getElem?_toList, Array.getElem?_eq_none (by omega)]
      simp [hj]
  · intro n hn
    rw [List.mem_map] at hn
    obtain ⟨j, hj, rfl⟩ := hn
    exact (hnum j (List.mem_range.1 hj)).2

theorem rd_geo {fs : Array Field} (hs : P.underlying t = some (.struct fs)) (hone : oneCellFields P fs = true) (h5 : fs.size = 5) (hC : P.cellsOf t = fs.size) (hint : ∀ (j : Nat) (f : Field), fs[j]? = some f → P.underlying f.type = some (.int .i64))
    (hv : Value.okWide P w r b0 t v) (hd : DataW.Trod enc P w base spare held t v d p) : ∃ g : Geo, v = g.v ∧ g.Wf := by
  obtain ⟨ns, rfl, hl, hw⟩ := rd_ints hs hone hC hint hv hd
  match ns, hl.trans h5 with
  | [a, b, c, d, e], _ => exact ⟨⟨a, b, c, d, e⟩, rfl, wf_i64 (hw a (by simp)), wf_i64 (hw b (by simp)), wf_i64 (hw c (by simp)), wf_i64 (hw d (by simp)), wf_i64 (hw e (by simp))⟩
theorem rd_place {fs : Array Field} (hs : P.underlying t = some (.struct fs)) (hone : oneCellFields P fs = true) (h5 : fs.size = 4) (hC : P.cellsOf t = fs.size) (hint : ∀ (j : Nat) (f : Field), fs[j]? = some f → P.underlying f.type = some (.int .i64))
    (hv : Value.okWide P w r b0 t v) (hd : DataW.Trod enc P w base spare held t v d p) : ∃ g : Place, v = g.v ∧ g.Wf := by
  obtain ⟨ns, rfl, hl, hw⟩ := rd_ints hs hone hC hint hv hd
  match ns, hl.trans h5 with
  | [a, b, c, d], _ => exact ⟨⟨a, b, c, d⟩, rfl, wf_i64 (hw a (by simp)), wf_i64 (hw b (by simp)), wf_i64 (hw c (by simp)), wf_i64 (hw d (by simp))⟩

/-- an array of whole numbers -/
theorem rd_arr {n : Nat} {e : TypeId} (hs : P.underlying t = some (.array n e)) (he : P.underlying e = some (.int .i64)) (hc : P.cellsOf e = 1) (hC : P.cellsOf t = n)
    (hv : Value.okWide P w r b0 t v) (hd : DataW.Trod enc P w base spare held t v d p) :
    ∃ ns : List Int, v = .agg (ns.map (Value.int .i64)).toArray ∧ ns.length = n ∧ ∀ n ∈ ns, (Lit.int .i64 n).wf = true := by
  simp only [Value.okWide, hs] at hv
  obtain ⟨cs, rfl, hsz, _⟩ := hv
  obtain ⟨fuel, hf⟩ := hd
  obtain ⟨xs, m, _, hx, _, hlen, hg⟩ := DataW.trod_array hs hf
  have each : ∀ j (hj : j < n), ∃ m, cs[j]? = some (.int .i64 m) ∧ (Lit.int .i64 m).wf = true := by
    intro j hj
    have h1 := hg j hj
    rw [hc, Nat.mul_one] at h1
    have hjc : j < cs.toList.length := by rw [Array.length_toList]; omega
    have hc1 : ((Value.agg cs).cells.toList.drop j).take 1 = [cs.toList[j]] := by
      show (cs.toList.drop j).take 1 = _
      rw [List.drop_eq_getElem_cons hjc]
      rfl
    rw [hc1] at h1
    obtain ⟨y, hy⟩ : ∃ y, xs[j]? = some y := ⟨_, List.getElem?_eq_getElem (by omega)⟩
    rw [hy] at h1
    obtain ⟨m, hm, _, hw⟩ := DataW.trod_int he h1
    refine ⟨m, ?_, hw⟩
    rw [List.cons.injEq] at hm
    rw [← Array.getElem?_toList, List.getElem?_eq_getElem hjc, hm.1]
  have hnum : ∀ j, j < n → cs[j]? = some (.int .i64 (intOf (cs[j]?.getD undef))) ∧ (Lit.int .i64 (intOf (cs[j]?.getD undef))).wf = true := by
    intro j hj
    obtain ⟨m, hm, hw⟩ := each j hj
    rw [hm]
    exact ⟨rfl, hw⟩
  refine ⟨(List.range n).map fun j => intOf (cs[j]?.getD undef), ?_, by simp, ?_⟩
  · congr 1
    apply Array.ext'
    apply List.ext_getElem?
    intro j
    rw [List.map_map]
    by_cases hj : j < n
    · rw [Array.getElem?_toList, (hnum j hj).1]
      simp [hj]
    · rw [Array.getElem?_toList, Array.getElem?_eq_none (by omega)]
      simp [hj]
  · intro k hk
    rw [List.mem_map] at hk
    obtain ⟨j, hj, rfl⟩ := hk
    exact (hnum j (List.mem_range.1 hj)).2

end
end Go.Proofs.Ytlkapaecaeldpaa
