/-
  The calls that the laws over package l2p take: seven numbers each; what a row tells of one, and of a slice of them.
-/
import Derived.Test.YtlkapaecaeldpaaRowKit
set_option linter.unusedVariables false
set_option linter.unusedSimpArgs false
set_option maxRecDepth 16384
namespace Go.Proofs.Ytlkapaecaeldpaa
open Go.ChangeShapes Go.WideShapes Go.ChangeAt Go.RowKit Go.Joins Go.Deep

/-- one call: what, a sector, from, to, an entry -/
structure OpV where
  d : Int
  lba : Int
  f : Int
  t : Int
  ea : Int
  es : Int
  ek : Int
def OpV.l (o : OpV) : List Value := [.int .i64 o.d, .int .i64 o.lba, .int .i64 o.f, .int .i64 o.t, .int .i64 o.ea, .int .i64 o.es, .int .i64 o.ek]
def OpV.v (o : OpV) : Value := .agg #[.int .i64 o.d, .int .i64 o.lba, .int .i64 o.f, .int .i64 o.t, .int .i64 o.ea, .int .i64 o.es, .int .i64 o.ek]

/-- a slice of calls that came in -/
def IsOps (w : World) (a : Option Addr) (len cap : Nat) : Prop :=
  len ≤ 9223372036854775807 ∧ (0 < len → ∃ b off, a = some ⟨b, off, none⟩ ∧ b < w.heap.size ∧ ∃ F : Nat → OpV, ∀ i, i < len → ∀ j, j < 7 → w.cell? ⟨b, off + i * 7 + j, none⟩ = (F i).l[j]?)

section
variable {H : Type} {enc : TypeId × Value → H} {P : Program} {w : World} {base : Nat} {spare : Nat → Bool} {held : Bool} {r : Reach} {b0 : Nat} {t : TypeId} {v : Value} {d : DataW H} {p : List MemPlace}

/-- whatever is read as a t is so many numbers -/
def Nums (enc : TypeId × Value → H) (P : Program) (w : World) (base : Nat) (spare : Nat → Bool) (held : Bool) (t : TypeId) (m : Nat) : Prop :=
  ∀ fuel cs x, DataW.trod enc P w base spare held fuel t cs = some x → cs.length = m ∧ ∀ j, j < m → ∃ n, cs[j]? = some (.int .i64 n)

theorem nums_int (ht : P.underlying t = some (.int .i64)) : Nums enc P w base spare held t 1 := by
  intro fuel cs x h
  obtain ⟨n, rfl, _⟩ := DataW.trod_int ht h
  refine ⟨rfl, fun j hj => ⟨n, ?_⟩⟩
  obtain rfl : j = 0 := by omega
  rfl
theorem nums_struct {fs : Array Field} {m : Nat} (hs : P.underlying t = some (.struct fs)) (hC : P.cellsOf t = m) (hcov : ∀ j, j < m → ∃ (i : Nat) (f : Field), fs[i]? = some f ∧ f.offset ≤ j ∧ j < f.offset + P.cellsOf f.type ∧ Nums enc P w base spare held f.type (P.cellsOf f.type)) :
    Nums enc P w base spare held t m := by
  intro fuel cs x h
  obtain ⟨xs, n, _, rfl, hlen, hxl, hg⟩ := DataW.trod_struct hs h
  refine ⟨hlen.trans hC, fun j hj => ?_⟩
  obtain ⟨i, f, hf, h1, h2, hn⟩ := hcov j hj
  have h3 := hg i f hf
  have hi : i < xs.length := by rw [hxl]; exact (Array.getElem?_eq_some_iff.1 hf).1
  rw [List.getElem?_eq_getElem hi] at h3
  obtain ⟨_, h4⟩ := hn _ _ _ h3
  obtain ⟨k, h5⟩ := h4 (j - f.offset) (by omega)
  refine ⟨k, ?_⟩
  rw [List.getElem?_take, if_pos (by omega), List.getElem?_drop] at h5
  rwa [show f.offset + (j - f.offset) = j by omega] at h5

theorem cover {fs : Array Field} {j i k : Nat} {f : Field} (hf : fs[i]? = some f) (hc : P.cellsOf f.type = k) (h1 : f.offset ≤ j) (h2 : j < f.offset + k) (hn : Nums enc P w base spare held f.type k) :
    ∃ (i : Nat) (f : Field), fs[i]? = some f ∧ f.offset ≤ j ∧ j < f.offset + P.cellsOf f.type ∧ Nums enc P w base spare held f.type (P.cellsOf f.type) :=
  ⟨i, f, hf, h1, by rw [hc]; exact h2, by rw [hc]; exact hn⟩

theorem opv_of {cs : List Value} (hl : cs.length = 7) (h : ∀ j, j < 7 → ∃ n, cs[j]? = some (.int .i64 n)) : ∃ o : OpV, cs = o.l := by
  match cs, hl with
  | [a, b, c, d, e, f, g], _ =>
    obtain ⟨x0, h0⟩ := h 0 (by decide)
    obtain ⟨x1, h1⟩ := h 1 (by decide)
    obtain ⟨x2, h2⟩ := h 2 (by decide)
    obtain ⟨x3, h3⟩ := h 3 (by decide)
    obtain ⟨x4, h4⟩ := h 4 (by decide)
    obtain ⟨x5, h5⟩ := h 5 (by decide)
    obtain ⟨x6, h6⟩ := h 6 (by decide)
    simp only [List.getElem?_cons_zero, List.getElem?_cons_succ, Option.some.injEq] at h0 h1 h2 h3 h4 h5 h6
    exact ⟨⟨x0, x1, x2, x3, x4, x5, x6⟩, by rw [h0, h1, h2, h3, h4, h5, h6]; rfl⟩

theorem rd_op {fs : Array Field} (hs : P.underlying t = some (.struct fs)) (hn : Nums enc P w base spare held t 7)
    (hv : Value.okWide P w r b0 t v) (hd : DataW.Trod enc P w base spare held t v d p) : ∃ o : OpV, v = o.v := by
  obtain ⟨cs, rfl, hsz⟩ := okWide_struct hs hv
  obtain ⟨fuel, hf⟩ := hd
  obtain ⟨h1, h2⟩ := hn _ _ _ hf
  obtain ⟨o, ho⟩ := opv_of (cs := cs.toList) h1 h2
  exact ⟨o, by congr 1; exact Array.ext' ho⟩

theorem rd_ops {e : TypeId} (ht : P.underlying t = some (.slice e)) (hc : P.cellsOf e = 7) (hn : Nums enc P w base (fun _ => true) held e 7)
    (hv : Value.okWide P w r b0 t v) (hd : DataW.Trod enc P w base (fun _ => true) held t v d p) : ∃ a len cap, v = .slice a len cap ∧ IsOps w a len cap := by
  obtain ⟨a0, len0, cap0, rfl⟩ := okWide_slice ht hv
  obtain ⟨fuel, hf⟩ := hd
  rcases DataW.trod_slice ht hf with ⟨hcs, _⟩ | ⟨x, len, cap, elems, rest, n, _, hcs, _, _, hl, hm, hlen, hel, _⟩
  · simp [Value.cells] at hcs
    obtain ⟨rfl, rfl, rfl⟩ := hcs
    exact ⟨_, _, _, rfl, by omega, fun h => by omega⟩
  · simp [Value.cells] at hcs
    obtain ⟨rfl, rfl, rfl⟩ := hcs
    refine ⟨_, _, _, rfl, by unfold maxLen at hm; omega, fun h0 => ?_⟩
    have each : ∀ i, i < len0 → ∃ o : OpV, ∀ j, j < 7 → w.cell? ((x.add (i * 7)).add j) = o.l[j]? := by
      intro i hi
      have h1 := hel i hi
      rw [List.getElem?_eq_getElem (by omega), hc, Option.bind_eq_some_iff] at h1
      obtain ⟨cs, h2, h3⟩ := h1
      obtain ⟨_, h4, h5⟩ := World.cells?_some h2
      obtain ⟨h6, h7⟩ := hn _ _ _ h3
      obtain ⟨o, rfl⟩ := opv_of h6 h7
      exact ⟨o, h5⟩
    obtain ⟨o0, hc0⟩ := each 0 h0
    have hc0 := hc0 0 (by decide)
    obtain ⟨b, off, sp⟩ := x
    obtain rfl : sp = none := by
      rw [show ((⟨b, off, sp⟩ : Addr).add (0 * 7)).add 0 = ⟨b, off, sp⟩ from by simp [Addr.add]] at hc0
      unfold World.cell? at hc0
      cases sp with
      | none => rfl
      | some _ => simp [OpV.l] at hc0; split at hc0 <;> simp_all
    refine ⟨b, off, rfl, ?_, fun i => if h : i < len0 then (each i h).choose else o0, fun i hi j hj => ?_⟩
    · rw [addr_add, addr_add] at hc0; exact World.block_lt_of_cell? (u := .int .i64 o0.d) w _ hc0
    · have h8 : ∀ (a : Addr), a = (⟨b, off + i * 7 + j, none⟩ : Addr) → w.cell? a = (each i hi).choose.l[j]? → w.cell? ⟨b, off + i * 7 + j, none⟩ = (each i hi).choose.l[j]? := fun a ha h => ha ▸ h
      have := h8 _ (by rw [addr_add, addr_add]) ((each i hi).choose_spec j hj)
      simp only [dif_pos hi]
      exact this
end
end Go.Proofs.Ytlkapaecaeldpaa
