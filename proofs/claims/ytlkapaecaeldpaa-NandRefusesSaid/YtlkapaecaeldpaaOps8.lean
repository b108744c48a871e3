/-
  The calls that the laws over package nand take: five numbers, a bool and a slice of bytes each; what a row tells of one, and of a slice of them.
-/
import Derived.Test.YtlkapaecaeldpaaRowKit
set_option linter.unusedVariables false
set_option linter.unusedSimpArgs false
set_option maxRecDepth 16384
namespace Go.Proofs.Ytlkapaecaeldpaa
open Go.ChangeShapes Go.WideShapes Go.ChangeAt Go.RowKit Go.Joins Go.Deep

/-- one call: what, unit, block, page, a number, odd, a plan -/
structure Op8 where
  d : Int
  u : Int
  b : Int
  p : Int
  n : Int
  odd : Bool
  pa : Option Addr
  pl : Nat
  pc : Nat
  zs : List Int
def Op8.l (o : Op8) : List Value := [.int .i64 o.d, .int .i64 o.u, .int .i64 o.b, .int .i64 o.p, .int .i64 o.n, .bool o.odd, .slice o.pa o.pl o.pc]
def Op8.v (o : Op8) : Value := .agg #[.int .i64 o.d, .int .i64 o.u, .int .i64 o.b, .int .i64 o.p, .int .i64 o.n, .bool o.odd, .slice o.pa o.pl o.pc]
/-- what came in with it -/
def Op8.In (w : World) (o : Op8) : Prop := IsRow .u8 w o.pa o.pl o.pc o.zs ∧ IsInt o.p

/-- a slice of calls that came in -/
def IsOps8 (w : World) (a : Option Addr) (len cap : Nat) : Prop :=
  len ≤ 9223372036854775807 ∧ (0 < len → ∃ b off, a = some ⟨b, off, none⟩ ∧ b < w.heap.size ∧ ∃ F : Nat → Op8, ∀ i, i < len → (F i).In w ∧ ∀ j, j < 7 → w.cell? ⟨b, off + i * 7 + j, none⟩ = (F i).l[j]?)

theorem len7 {cs : List Value} (h : cs.length = 7) : ∃ a b c d e f g, cs = [a, b, c, d, e, f, g] := by
  match cs, h with
  | [a, b, c, d, e, f, g], _ => exact ⟨a, b, c, d, e, f, g, rfl⟩

section
variable {H : Type} {enc : TypeId × Value → H} {P : Program} {w : World} {base : Nat} {held : Bool} {r : Reach} {b0 : Nat} {t : TypeId} {v : Value} {d : DataW H} {p : List MemPlace}

/-- whatever is read as a t is such a call -/
def Reads8 (enc : TypeId × Value → H) (P : Program) (w : World) (base : Nat) (held : Bool) (t : TypeId) : Prop :=
  ∀ fuel cs x, DataW.trod enc P w base (fun _ => true) held fuel t cs = some x → ∃ o : Op8, cs = o.l ∧ o.In w

theorem drop_one {cs : List Value} {k : Nat} {v : Value} (h : (cs.drop k).take 1 = [v]) : cs[k]? = some v := by
  have h1 := congrArg (fun l => l[0]?) h
  simp only [List.getElem?_cons_zero] at h1
  rw [List.getElem?_take, if_pos (by decide), List.getElem?_drop] at h1
  simpa using h1

theorem reads8 {fs : Array Field} {tb : TypeId} (hs : P.underlying t = some (.struct fs)) (hC : P.cellsOf t = 7)
    (hi : ∀ i, i < 5 → ∃ f, fs[i]? = some f ∧ f.offset = i ∧ P.cellsOf f.type = 1 ∧ P.underlying f.type = some (.int .i64))
    (hb : ∃ f, fs[5]? = some f ∧ f.offset = 5 ∧ P.cellsOf f.type = 1 ∧ P.underlying f.type = some .bool)
    (hp : ∃ f, fs[6]? = some f ∧ f.offset = 6 ∧ P.cellsOf f.type = 1 ∧ P.underlying f.type = some (.slice tb)) (hu : P.underlying tb = some (.int .u8)) (hc : P.cellsOf tb = 1) : Reads8 enc P w base held t := by
  intro fuel cs x h
  obtain ⟨xs, n, _, rfl, hlen, hxl, hg⟩ := DataW.trod_struct hs h
  have get : ∀ i f, fs[i]? = some f → f.offset = i → P.cellsOf f.type = 1 → ∃ y, DataW.trod enc P w base (fun _ => true) held n f.type ((cs.drop i).take 1) = some y := by
    intro i f hf ho hk
    have h3 := hg i f hf
    have hix : i < xs.length := by rw [hxl]; exact (Array.getElem?_eq_some_iff.1 hf).1
    rw [List.getElem?_eq_getElem hix, ho, hk] at h3
    exact ⟨_, h3⟩
  have num : ∀ i, i < 5 → ∃ m, cs[i]? = some (.int .i64 m) ∧ IsInt m := by
    intro i hi5
    obtain ⟨f, hf, ho, hk, hun⟩ := hi i hi5
    obtain ⟨y, hy⟩ := get i f hf ho hk
    obtain ⟨m, hm, _, hw⟩ := DataW.trod_int hun hy
    exact ⟨m, drop_one hm, wf_i64 hw⟩
  obtain ⟨x0, h0, _⟩ := num 0 (by decide)
  obtain ⟨x1, h1, _⟩ := num 1 (by decide)
  obtain ⟨x2, h2, _⟩ := num 2 (by decide)
  obtain ⟨x3, h3, w3⟩ := num 3 (by decide)
  obtain ⟨x4, h4, _⟩ := num 4 (by decide)
  obtain ⟨f, hf, ho, hk, hun⟩ := hb
  obtain ⟨y, hy⟩ := get 5 f hf ho hk
  obtain ⟨x5, hm, _⟩ := DataW.trod_bool hun hy
  have h5 := drop_one hm
  obtain ⟨f, hf, ho, hk, hun⟩ := hp
  obtain ⟨y, hy⟩ := get 6 f hf ho hk
  have h6 : ∃ pa pl pc zs, cs[6]? = some (.slice pa pl pc) ∧ IsRow .u8 w pa pl pc zs := by
    rcases open_ints hun hu hc hy with ⟨hcs, _⟩ | ⟨x, l, c, zs, hcs, _, hl, hm, hz, _, hcell, hwz⟩
    · exact ⟨none, 0, 0, [], drop_one hcs, .inl ⟨rfl, rfl, rfl, rfl⟩⟩
    · exact ⟨some x, l, c, zs, drop_one hcs, .inr ⟨_, rfl, hl, hm, by simpa using hz, hcell, hwz⟩⟩
  obtain ⟨pa, pl, pc, zs, h6, hrow⟩ := h6
  rw [hC] at hlen
  obtain ⟨a, b, c, d, e, f, g, rfl⟩ := len7 hlen
  · skip
    obtain rfl := Option.some.inj h0
    obtain rfl := Option.some.inj h1
    obtain rfl := Option.some.inj h2
    obtain rfl := Option.some.inj h3
    obtain rfl := Option.some.inj h4
    obtain rfl := Option.some.inj h5
    obtain rfl := Option.some.inj h6
    exact ⟨⟨x0, x1, x2, x3, x4, x5, pa, pl, pc, zs⟩, rfl, hrow, w3⟩

theorem rd_op8 {fs : Array Field} (hs : P.underlying t = some (.struct fs)) (hn : Reads8 enc P w base held t)
    (hv : Value.okWide P w r b0 t v) (hd : DataW.Trod enc P w base (fun _ => true) held t v d p) : ∃ o : Op8, v = o.v ∧ o.In w := by
  obtain ⟨cs, rfl, hsz⟩ := okWide_struct hs hv
  obtain ⟨fuel, hf⟩ := hd
  obtain ⟨o, ho, h2⟩ := hn _ _ _ hf
  have ho : cs.toList = o.l := ho
  exact ⟨o, by unfold Op8.v; congr 1; exact Array.ext' ho, h2⟩

theorem rd_ops8 {e : TypeId} (ht : P.underlying t = some (.slice e)) (hc : P.cellsOf e = 7) (hn : Reads8 enc P w base held e)
    (hv : Value.okWide P w r b0 t v) (hd : DataW.Trod enc P w base (fun _ => true) held t v d p) : ∃ a len cap, v = .slice a len cap ∧ IsOps8 w a len cap := by
  obtain ⟨a0, len0, cap0, rfl⟩ := okWide_slice ht hv
  obtain ⟨fuel, hf⟩ := hd
  rcases DataW.trod_slice ht hf with ⟨hcs, _⟩ | ⟨x, len, cap, elems, rest, n, _, hcs, _, _, hl, hm, hlen, hel, _⟩
  · simp [Value.cells] at hcs
    obtain ⟨rfl, rfl, rfl⟩ := hcs
    exact ⟨_, _, _, rfl, by omega, fun h => by omega⟩
  · simp [Value.cells] at hcs
    obtain ⟨rfl, rfl, rfl⟩ := hcs
    refine ⟨_, _, _, rfl, by unfold maxLen at hm; omega, fun h0 => ?_⟩
    have each : ∀ i, i < len0 → ∃ o : Op8, o.In w ∧ ∀ j, j < 7 → w.cell? ((x.add (i * 7)).add j) = o.l[j]? := by
      intro i hi
      have h1 := hel i hi
      rw [List.getElem?_eq_getElem (by omega), hc, Option.bind_eq_some_iff] at h1
      obtain ⟨cs, h2, h3⟩ := h1
      obtain ⟨_, h4, h5⟩ := World.cells?_some h2
      obtain ⟨o, rfl, h7⟩ := hn _ _ _ h3
      exact ⟨o, h7, h5⟩
    obtain ⟨o0, _, hc0⟩ := each 0 h0
    have hc0 := hc0 0 (by decide)
    obtain ⟨b, off, sp⟩ := x
    obtain rfl : sp = none := by
      rw [show ((⟨b, off, sp⟩ : Addr).add (0 * 7)).add 0 = ⟨b, off, sp⟩ from by simp [Addr.add]] at hc0
      unfold World.cell? at hc0
      cases sp with
      | none => rfl
      | some _ => simp [Op8.l] at hc0; split at hc0 <;> simp_all
    refine ⟨b, off, rfl, ?_, fun i => if h : i < len0 then (each i h).choose else o0, fun i hi => ⟨?_, fun j hj => ?_⟩⟩
    · rw [addr_add, addr_add] at hc0; exact World.block_lt_of_cell? (u := .int .i64 o0.d) w _ hc0
    · simp only [dif_pos hi]
      exact (each i hi).choose_spec.1
    · have h8 : ∀ (a : Addr), a = (⟨b, off + i * 7 + j, none⟩ : Addr) → w.cell? a = (each i hi).choose.l[j]? → w.cell? ⟨b, off + i * 7 + j, none⟩ = (each i hi).choose.l[j]? := fun a ha h => ha ▸ h
      have := h8 _ (by rw [addr_add, addr_add]) ((each i hi).choose_spec.2 j hj)
      simp only [dif_pos hi]
      exact this
end
end Go.Proofs.Ytlkapaecaeldpaa
