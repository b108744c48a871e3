/-
  Words that all walks of this seat use: bounds of Go's int, returned values, worlds below a block, slices that read as a list.
-/
import Derived.Test.YtlkapaecaeldpaaRows
import Derived.WalkKit
import Derived.WalkSpells
import Derived.WalkLawsBesides
import Derived.BigQuiet
import Derived.Deep.QuietTactic
import Derived.Deep.RegionHeld3
import Derived.Lib.Hide
import Derived.Deep.OwnRows
import Derived.Laws.CopyOwn
import Derived.Laws.BitsAllLaws
import Derived.Maps.AppendAt
import Derived.Laws.OwnMore
import Derived.Laws.BytesArg
set_option linter.unusedVariables false
set_option linter.unusedSimpArgs false
set_option maxRecDepth 16384
namespace Go.Proofs.Ytlkapaecaeldpaa
open Go.RowKit Go.Deep

theorem max_i64 (ats : Array TypeId) (ty : TypeId) (k : IntKind) (x y : Int) : Builtin.max_ ats ty #[.int k x, .int k y] = pure (.int k (max y x)) := by
  simp only [Builtin.max_, List.foldlM_cons, List.foldlM_nil, Builtin.max2]
  rw [show (if y > x then y else x) = max y x from by omega]
  rfl
theorem min_i64 (ats : Array TypeId) (ty : TypeId) (k : IntKind) (x y : Int) : Builtin.min_ ats ty #[.int k x, .int k y] = pure (.int k (min y x)) := by
  simp only [Builtin.min_, List.foldlM_cons, List.foldlM_nil, Builtin.min2]
  rw [show (if y < x then y else x) = min y x from by omega]
  rfl
attribute [go_sem] max_i64 min_i64

/-- a geometry -/
structure Geo where
  chans : Int
  luns : Int
  blocks : Int
  pages : Int
  sectors : Int
def Geo.v (g : Geo) : Value := .agg #[.int .i64 g.chans, .int .i64 g.luns, .int .i64 g.blocks, .int .i64 g.pages, .int .i64 g.sectors]
/-- a place -/
structure Place where
  unit : Int
  block : Int
  page : Int
  sector : Int
def Place.v (p : Place) : Value := .agg #[.int .i64 p.unit, .int .i64 p.block, .int .i64 p.page, .int .i64 p.sector]

def IsInt (x : Int) : Prop := -9223372036854775808 ≤ x ∧ x ≤ 9223372036854775807

structure Geo.Wf (x : Geo) : Prop where
  c : IsInt x.chans
  l : IsInt x.luns
  b : IsInt x.blocks
  p : IsInt x.pages
  s : IsInt x.sectors
structure Place.Wf (x : Place) : Prop where
  u : IsInt x.unit
  b : IsInt x.block
  p : IsInt x.page
  s : IsInt x.sector

/-- a post that the walk does not open -/
def Po (p : Ending → World → Prop) (e : Ending) (w : World) : Prop := p e w
theorem Po.mk {p : Ending → World → Prop} {e : Ending} {w : World} (h : p e w) : Po p e w := h

theorem ret_bool {a b : Bool} (h : a = b) : Ending.returned (.bool a) = .returned (.bool b) := by rw [h]
theorem ret_int {k : IntKind} {a b : Int} (h : a = b) : Ending.returned (.int k a) = .returned (.int k b) := by rw [h]

theorem bcell {W w1 : World} (hb : Below W.heap.size W w1) : (∀ b o, b < W.heap.size → w1.cell? ⟨b, o, none⟩ = W.cell? ⟨b, o, none⟩) ∧ (∀ b o, b < W.heap.size → w1.frozen? ⟨b, o, none⟩ = W.frozen? ⟨b, o, none⟩) :=
  ⟨fun b o h => hb.cell (p := ⟨b, o, none⟩) h, fun b o h => hb.frozen (p := ⟨b, o, none⟩) h⟩

theorem below_drewN {B : Nat} {a w : World} (h : Below B a w) (n : Nat) : Below B a (w.drewN n) := ⟨h.os, h.tape, h.output, h.size, h.block⟩
theorem below_step {B : Nat} {w W w1 : World} (h : Below B w W) (hB : B ≤ W.heap.size) (hb : Below W.heap.size W w1) : Below B w w1 := h.trans (hb.mono hB)

theorem wrap_in (x : Int) (h : IsInt x) : IntKind.i64.wrap x = x := IntWalk.i64_in x h

/-- a slice value reads as a list of one-cell elements; B: its block is no elder than B -/
def Sl (w : World) (B : Nat) (v : Value) (xs : List Value) : Prop :=
  ∃ (a : Option Addr) (cap : Nat), v = .slice a xs.length cap ∧ xs.length ≤ cap ∧ xs.length ≤ 140737488351232 ∧ (a = none → cap = 0) ∧
    (xs = [] ∨ ∃ b off, a = some ⟨b, off, none⟩ ∧ B ≤ b ∧ b < w.heap.size ∧ ∀ j x, xs[j]? = some x → w.cell? ⟨b, off + j, none⟩ = some x)

theorem Sl.below {w w' : World} {B : Nat} {v : Value} {xs : List Value} (h : Sl w B v xs) (hb : Below w.heap.size w w') : Sl w' B v xs := by
  obtain ⟨a, cap, rfl, h1, h2, hz, h3⟩ := h
  refine ⟨a, cap, rfl, h1, h2, hz, ?_⟩
  rcases h3 with h3 | ⟨b, off, rfl, h4, h5, h6⟩
  · exact .inl h3
  · exact .inr ⟨b, off, rfl, h4, Nat.lt_of_lt_of_le h5 hb.size, fun j x hx => (hb.cell (p := ⟨b, off + j, none⟩) h5).trans (h6 j x hx)⟩

theorem Sl.mono {w : World} {B B' : Nat} {v : Value} {xs : List Value} (h : Sl w B v xs) (hB : B' ≤ B) : Sl w B' v xs := by
  obtain ⟨a, cap, rfl, h1, h2, hz, h3⟩ := h
  refine ⟨a, cap, rfl, h1, h2, hz, ?_⟩
  rcases h3 with h3 | ⟨b, off, rfl, h4, h5, h6⟩
  · exact .inl h3
  · exact .inr ⟨b, off, rfl, Nat.le_trans hB h4, h5, h6⟩

def IsB (x : Int) : Prop := 0 ≤ x ∧ x < 256
def bv (xs : List Int) : List Value := xs.map (Value.int .u8)
def iv (xs : List Int) : List Value := xs.map (Value.int .i64)
theorem bv_length (xs : List Int) : (bv xs).length = xs.length := by simp [bv]
theorem iv_length (xs : List Int) : (iv xs).length = xs.length := by simp [iv]

/-- the same, of bytes, opened: the cells one by one -/
theorem Sl.bytes {w : World} {B : Nat} {v : Value} {xs : List Int} (h : Sl w B v (bv xs)) :
    ∃ (a : Option Addr) (cap : Nat), v = .slice a xs.length cap ∧ xs.length ≤ cap ∧ xs.length ≤ 140737488351232 ∧
      (0 < xs.length → ∃ b off, a = some ⟨b, off, none⟩ ∧ B ≤ b ∧ b < w.heap.size ∧ ∀ j, j < xs.length → w.cell? ⟨b, off + j, none⟩ = some (.int .u8 (xs.getD j 0))) := by
  obtain ⟨a, cap, rfl, h1, h2, hz, h3⟩ := h
  clear hz
  rw [bv_length] at *
  refine ⟨a, cap, rfl, h1, h2, fun h0 => ?_⟩
  rcases h3 with h3 | ⟨b, off, rfl, h4, h5, h6⟩
  · have : xs = [] := by simpa [bv] using h3
    subst this; simp at h0
  · refine ⟨b, off, rfl, h4, h5, fun j hj => h6 j _ ?_⟩
    simp [bv, List.getElem?_eq_getElem hj]

theorem Sl.ints {w : World} {B : Nat} {v : Value} {xs : List Int} (h : Sl w B v (iv xs)) :
    ∃ (a : Option Addr) (cap : Nat), v = .slice a xs.length cap ∧ xs.length ≤ cap ∧ xs.length ≤ 140737488351232 ∧
      (0 < xs.length → ∃ b off, a = some ⟨b, off, none⟩ ∧ B ≤ b ∧ b < w.heap.size ∧ ∀ j, j < xs.length → w.cell? ⟨b, off + j, none⟩ = some (.int .i64 (xs.getD j 0))) := by
  obtain ⟨a, cap, rfl, h1, h2, hz, h3⟩ := h
  clear hz
  rw [iv_length] at *
  refine ⟨a, cap, rfl, h1, h2, fun h0 => ?_⟩
  rcases h3 with h3 | ⟨b, off, rfl, h4, h5, h6⟩
  · have : xs = [] := by simpa [iv] using h3
    subst this; simp at h0
  · refine ⟨b, off, rfl, h4, h5, fun j hj => h6 j _ ?_⟩
    simp [iv, List.getElem?_eq_getElem hj]

/-- blocks known whole -/
def Blk (w : World) (g : Nat) (t : TypeId) (xs : List Value) : Prop := w.heap[g]? = some (.cells xs.toArray t (0, 0))

theorem Blk.lt {w : World} {g : Nat} {t : TypeId} {xs : List Value} (h : Blk w g t xs) : g < w.heap.size := by
  unfold Blk at h
  exact (Array.getElem?_eq_some_iff.1 h).1
theorem Blk.cell {w : World} {g : Nat} {t : TypeId} {xs : List Value} (h : Blk w g t xs) (k : Nat) : w.cell? ⟨g, k, none⟩ = xs[k]? := by
  unfold Blk at h
  simp [World.cell?, h]
theorem Blk.free {w : World} {g : Nat} {t : TypeId} {xs : List Value} (h : Blk w g t xs) (k : Nat) : w.frozen? ⟨g, k, none⟩ = false := by
  unfold Blk at h
  simp [World.frozen?, h]
theorem Blk.below {w w' : World} {g : Nat} {t : TypeId} {xs : List Value} (h : Blk w g t xs) (hb : Below w.heap.size w w') : Blk w' g t xs := (hb.block g h.lt).trans h
theorem Blk.drew {w : World} {g : Nat} {t : TypeId} {xs : List Value} (h : Blk w g t xs) : Blk w.drew g t xs := h
theorem Blk.drewN {w : World} {g : Nat} {t : TypeId} {xs : List Value} (h : Blk w g t xs) (n : Nat) : Blk (w.drewN n) g t xs := h
theorem Blk.alloc {w : World} {g : Nat} {t : TypeId} {xs : List Value} (h : Blk w g t xs) (o : Obj) : Blk (w.alloc o) g t xs := (Below.heap_alloc w o g h.lt).trans h
theorem Blk.new (w : World) (t : TypeId) (xs : List Value) : Blk (w.alloc (.cells xs.toArray t)) w.heap.size t xs := heap_alloc_new w _
theorem Blk.set {w : World} {g : Nat} {t : TypeId} {xs : List Value} (h : Blk w g t xs) (k : Nat) (v : Value) : Blk (w.setCell ⟨g, k, none⟩ v) g t (xs.set k v) := by
  unfold Blk at *
  simp only [World.setCell, Array.getElem?_modify, if_true]
  rw [h]
  simp
theorem Blk.set_other {w : World} {g : Nat} {t : TypeId} {xs : List Value} (h : Blk w g t xs) {a : Addr} (ha : g ≠ a.block) (v : Value) : Blk (w.setCell a v) g t xs :=
  (Below.heap_setCell w a v g ha).trans h
theorem Blk.own {w : World} {g B : Nat} {t : TypeId} {xs : List Value} (h : Blk w g t xs) (hB : B ≤ g) (hm : xs.length ≤ maxLen) : w.ownsRow B t 1 (.slice (some ⟨g, 0, none⟩) xs.length xs.length) xs.length xs :=
  ⟨by simp, .inr ⟨g, xs.length, xs.toArray, rfl, hB, h, Nat.le_refl _, hm, by simp, by simp⟩⟩

/-- what the call owns reads as a list -/
theorem Sl.of_own {w : World} {B : Nat} {t : TypeId} {v : Value} {n : Nat} {xs : List Value} (h : w.ownsRow B t 1 v n xs) (hx : xs.length ≤ 140737488351232) : Sl w B v xs := by
  obtain ⟨hl, h⟩ := h
  rw [Nat.mul_one] at hl
  rcases h with ⟨rfl, rfl⟩ | ⟨g, cap, cur, rfl, hg, hh, hn, hm, hs, ht⟩
  · obtain rfl : xs = [] := List.eq_nil_of_length_eq_zero hl
    exact ⟨none, 0, rfl, Nat.le_refl _, by simp, fun _ => rfl, .inl rfl⟩
  · subst hl
    refine ⟨_, cap, rfl, hn, hx, nofun, .inr ⟨g, 0, rfl, hg, (Array.getElem?_eq_some_iff.1 hh).1, fun j x hx => ?_⟩⟩
    have hj : j < xs.length := (List.getElem?_eq_some_iff.1 hx).1
    simp only [World.cell?, hh, Nat.zero_add]
    rw [← ht, List.getElem?_take, if_pos (by omega)] at hx
    simpa using hx

theorem Blk.sl {w : World} {g B : Nat} {t : TypeId} {xs : List Value} (h : Blk w g t xs) (hB : B ≤ g) (hm : xs.length ≤ 140737488351232) : Sl w B (.slice (some ⟨g, 0, none⟩) xs.length xs.length) xs :=
  ⟨_, _, rfl, Nat.le_refl _, hm, nofun, .inr ⟨g, 0, rfl, hB, h.lt, fun j x hx => by rw [Nat.zero_add, h.cell, hx]⟩⟩

theorem Blk.grown {w w' : World} {g : Nat} {t : TypeId} {xs : List Value} {row : Option Nat} (h : Blk w g t xs) (hg : w.grownBy w' row) (hr : row ≠ some g) : Blk w' g t xs := (hg.block g h.lt (fun e => hr e.symm)).trans h
theorem own_ne {w : World} {base g : Nat} {t : TypeId} {sz : Nat} {v : Value} {n : Nat} {xs : List Value} (h : w.ownsRow base t sz v n xs) (hg : g < base) : v.ownBlock ≠ some g := fun e => by have := (h.lt g e).1; omega
theorem below_grown {B base : Nat} {w W w' : World} {t : TypeId} {sz : Nat} {v : Value} {n : Nat} {xs : List Value} (hb : Below B w W) (ho : W.ownsRow base t sz v n xs) (hg : W.grownBy w' v.ownBlock) (hB : B ≤ W.heap.size) (hbase : B ≤ base) : Below B w w' :=
  hb.grown hg hB (fun k e => Nat.le_trans hbase (ho.lt k e).1)
theorem oneCell_one (k : IntKind) (i : Int) : ∀ u ∈ [Value.int k i], u.oneCell' = true := by
  intro u hu
  rw [List.mem_singleton] at hu
  subst hu; rfl

theorem grown_of_below {w w' : World} (h : Below w.heap.size w w') (row : Option Nat) : w.grownBy w' row := ⟨h.os, h.tape, h.output, h.size, fun k hk _ => h.block k hk⟩
theorem own_below {w w' : World} {base : Nat} {t : TypeId} {sz : Nat} {v : Value} {n : Nat} {xs : List Value} (h : w.ownsRow base t sz v n xs) (hb : Below w.heap.size w w') : w'.ownsRow base t sz v n xs := by
  refine h.kept (grown_of_below hb none) ?_
  cases hv : v.ownBlock with
  | none => exact .inl rfl
  | some k => exact .inr (by simp)
theorem own_slice {w : World} {base : Nat} {t : TypeId} {sz : Nat} {v : Value} {n : Nat} {xs : List Value} (h : w.ownsRow base t sz v n xs) : ∃ a cap, v = .slice a n cap := by
  rcases h.2 with ⟨rfl, rfl⟩ | ⟨g, cap, _, hv, _⟩
  · exact ⟨_, _, rfl⟩
  · exact ⟨_, _, hv⟩
theorem own_form {w : World} {base : Nat} {t : TypeId} {sz : Nat} {v : Value} {n : Nat} {xs : List Value} (h : w.ownsRow base t sz v n xs) (hn : 0 < n) : ∃ g cap, v = .slice (some ⟨g, 0, none⟩) n cap := by
  rcases h.2 with ⟨_, h0⟩ | ⟨g, cap, _, hv, _⟩
  · omega
  · exact ⟨g, cap, hv⟩

theorem addr_add (b off j : Nat) : (⟨b, off, none⟩ : Addr).add j = ⟨b, off + j, none⟩ := by unfold Addr.add; split <;> simp_all

/-- append of a whole slice that reads as a list -/
theorem run_append_sl {P : Program} {w : World} (base : Nat) (t ty e : TypeId) (i : TypeInfo) (z : Value) (bytes : Nat) (ht : P.underlying t = some (.slice e)) (hi : P.info? e = some i) (hz : i.zero = some z)
    (hsize : i.size = 1) (hby : i.bytes = bytes) (hzs : z.cells.size = 1)
    (v : Value) (n : Nat) (xs : List Value) (hown : w.ownsRow base e 1 v n xs)
    (B : Nat) (x : Value) (news : List Value) (hx : Sl w B x news) (h1 : ∀ u ∈ news, u.oneCell' = true)
    (h63 : n + news.length ≤ maxLen) (hbytes : (n + news.length) * bytes ≤ 140737488355328) (hbase : base ≤ w.heap.size) :
    ∃ v' w', (Builtin.append_ #[t, t] ty #[v, x]).run P w = .ok v' w' ∧ w'.ownsRow base e 1 v' (n + news.length) (xs ++ news) ∧ w.grownBy w' v.ownBlock ∧ (v'.ownBlock = v.ownBlock ∨ v'.ownBlock = some w.heap.size) := by
  obtain ⟨a, cap, rfl, _, _, hnil, h3⟩ := hx
  cases a with
  | none =>
    obtain rfl := hnil rfl
    rcases h3 with rfl | ⟨b, off, h, _⟩
    · refine ⟨v, w, run_append_owned_none w base t ty e i 1 ht hi v n xs hown, by simpa using hown, ⟨rfl, rfl, rfl, Nat.le_refl _, fun _ _ _ => rfl⟩, .inl rfl⟩
    · cases h
  | some ad =>
    obtain ⟨v', w', hr, h2, h4, _, h5⟩ := run_append_own_at (P := P) w base t ty e i z 1 bytes ht hi hz hsize hby hzs (by decide) v n xs hown ad news.length cap news (by simp) (fun j u hu => by
      rcases h3 with rfl | ⟨b, off, h, _, _, h6⟩
      · simp at hu
      · cases h; rw [addr_add]; exact h6 j u hu) h1 h63 hbytes hbase
    exact ⟨v', w', hr, h2, h4, h5⟩

theorem wpList_append_sl {P : Program} (w : World) {ops : Array Oper} {rest : List Oper} {o : Oper} {a : Act} {Q : Exit → Act → World → Prop} (hgd : o.guard = none) (s x : Operand) (t : TypeId)
    (ho : o.op = .call { callee := .builtin .append, args := #[s, x], argTypes := #[t, t] })
    (base : Nat) (e : TypeId) (i : TypeInfo) (z : Value) (bytes : Nat) (ht : P.underlying t = some (.slice e)) (hi : P.info? e = some i) (hz : i.zero = some z)
    (hsize : i.size = 1) (hby : i.bytes = bytes) (hzs : z.cells.size = 1)
    (v : Value) (n : Nat) (xs : List Value) (hs : a.eval s = v) (hown : w.ownsRow base e 1 v n xs)
    (B : Nat) (xv : Value) (news : List Value) (hx : a.eval x = xv) (hsl : Sl w B xv news) (h1 : ∀ u ∈ news, u.oneCell' = true)
    (h63 : n + news.length ≤ maxLen) (hbytes : (n + news.length) * bytes ≤ 140737488355328) (hbase : base ≤ w.heap.size)
    (h : ∀ v' w', w'.ownsRow base e 1 v' (n + news.length) (xs ++ news) → w.grownBy w' v.ownBlock → wpList P ops Q rest (a.put o.dst v') w') :
    wpList P ops Q (o :: rest) a w := by
  refine wpList_plain hgd fun K hK => ?_
  obtain ⟨v', w', hr, h2, h3, _⟩ := run_append_sl (P := P) (w := w) base t o.type e i z bytes ht hi hz hsize hby hzs v n xs hown B xv news hsl h1 h63 hbytes hbase
  unfold Oper.wp execOp
  simp only [ho, resolve, invoke, builtin, Sem.run_bind, Sem.run_pure, Result.andThen_ok, List.map_toArray, List.map_cons, List.map_nil, hs, hx, hr]
  exact hK _ _ (h v' w' h2 h3)

/-- []byte to string -/
theorem run_str_sl {P : Program} {w : World} (src dst e : TypeId) (hs : P.underlying src = some (.slice e)) (he : P.underlying e = some (.int .u8)) (hd : P.underlying dst = some .string) {B : Nat} {v : Value} {xs : List Int} (h : Sl w B v (bv xs)) :
    (convert src dst v).run P w = .ok (.string (strOfNums xs)) w := by
  obtain ⟨a, cap, rfl, h1, h2, h3⟩ := h.bytes
  by_cases h0 : 0 < xs.length
  · obtain ⟨b, off, rfl, _, _, h6⟩ := h3 h0
    exact run_convert_bytes_arg w src e hs he b off xs.length cap xs rfl h6 dst hd
  · have : xs = [] := List.eq_nil_of_length_eq_zero (by omega)
    subst this
    cases a with
    | none => exact run_convert_bytes_nil w src e hs he _ _ dst hd
    | some ad =>
      rw [run_convert_bytes_string w src dst e (some ad) _ cap hs he hd]
      exact run_bytesToString w ad 0 cap [] (by simp [loadCells, loadCellsFrom])

theorem Blk.str {P : Program} {w : World} {src dst e : TypeId} (hs : P.underlying src = some (.slice e)) (he : P.underlying e = some (.int .u8)) (hd : P.underlying dst = some .string) {g n : Nat} {t : TypeId} {xs : List Int} (h : Blk w g t (bv xs)) (hn : xs.length = n) (hm : n ≤ 140737488351232) :
    (convert src dst (.slice (some ⟨g, 0, none⟩) n n)).run P w = .ok (.string (strOfNums xs)) w := by
  subst hn
  have := run_str_sl (P := P) src dst e hs he hd (h.sl (B := 0) (Nat.zero_le _) (by rw [bv_length]; exact hm))
  rwa [bv_length] at this
theorem own_str {P : Program} {w : World} {src dst e : TypeId} (hs : P.underlying src = some (.slice e)) (he : P.underlying e = some (.int .u8)) (hd : P.underlying dst = some .string) {v : Value} {n base : Nat} {t : TypeId} {xs : List Int} (h : w.ownsRow base t 1 v n (bv xs)) (hm : n ≤ 140737488351232) :
    (convert src dst v).run P w = .ok (.string (strOfNums xs)) w :=
  run_str_sl src dst e hs he hd (Sl.of_own h (by rw [h.1]; omega))

theorem conv_nil {P : Program} (src dst e : TypeId) (hs : P.underlying src = some (.slice e)) (he : P.underlying e = some (.int .u8)) (hd : P.underlying dst = some .string) (w : World) :
    (convert src dst (.slice none 0 0)).run P w = .ok (.string (strOfNums [])) w := run_convert_bytes_nil w src e hs he _ _ dst hd

theorem strOfNums_inj {xs ys : List Int} (hx : ∀ x ∈ xs, IsB x) (hy : ∀ y ∈ ys, IsB y) (h : strOfNums xs = strOfNums ys) : xs = ys := by
  have h2 : (xs.map fun n => UInt8.ofNat n.toNat) = ys.map fun n => UInt8.ofNat n.toNat := by
    rw [← strOfNums_data, ← strOfNums_data, h]
  have inv : ∀ zs : List Int, (∀ z ∈ zs, IsB z) → (zs.map fun n => UInt8.ofNat n.toNat).map (fun b => (b.toNat : Int)) = zs := by
    intro zs hz
    rw [List.map_map]
    conv => rhs; rw [← List.map_id zs]
    refine List.map_congr_left fun z hzm => ?_
    have := hz z hzm
    obtain ⟨h0, h1⟩ := this
    simp only [Function.comp, id]
    rw [UInt8.toNat_ofNat']
    omega
  rw [← inv xs hx, ← inv ys hy, h2]

/-- what a row tells of a slice of integers that came in -/
def IsRow (k : IntKind) (w : World) (a : Option Addr) (len cap : Nat) (zs : List Int) : Prop :=
  (a = none ∧ len = 0 ∧ cap = 0 ∧ zs = []) ∨
  ∃ x, a = some x ∧ len ≤ cap ∧ cap ≤ maxLen ∧ zs.length = cap ∧ (∀ i, i < zs.length → w.cell? (x.add i) = some (.int k (zs.getD i 0))) ∧ ∀ n ∈ zs, (Lit.int k n).wf = true

theorem IsRow.sl {k : IntKind} {w : World} {a : Option Addr} {len cap : Nat} {zs : List Int} (h : IsRow k w a len cap zs) (hl : len ≤ 140737488351232) :
    Sl w 0 (.slice a len cap) ((zs.take len).map (Value.int k)) ∧ (zs.take len).length = len ∧ ∀ x ∈ zs.take len, (Lit.int k x).wf = true := by
  rcases h with ⟨rfl, rfl, rfl, rfl⟩ | ⟨x, rfl, h1, h2, h3, h4, h5⟩
  · exact ⟨⟨none, 0, rfl, by simp, by simp, fun _ => rfl, .inl rfl⟩, rfl, fun x hx => by simp at hx⟩
  · have hlen : (zs.take len).length = len := by rw [List.length_take]; omega
    refine ⟨⟨some x, cap, by rw [List.length_map, hlen], by rw [List.length_map, hlen]; exact h1, by rw [List.length_map, hlen]; exact hl, nofun, ?_⟩, hlen, fun y hy => h5 y (List.mem_of_mem_take hy)⟩
    by_cases h0 : len = 0
    · exact .inl (by subst h0; simp)
    · have hc0 := h4 0 (by omega)
      obtain ⟨b, off, sp⟩ := x
      obtain rfl : sp = none := by
        rw [show (⟨b, off, sp⟩ : Addr).add 0 = ⟨b, off, sp⟩ from by simp [Addr.add]] at hc0
        unfold World.cell? at hc0
        cases sp with
        | none => rfl
        | some _ => simp at hc0; split at hc0 <;> simp_all
      refine .inr ⟨b, off, rfl, Nat.zero_le _, ?_, fun j y hy => ?_⟩
      · rw [addr_add] at hc0; exact World.block_lt_of_cell? w _ hc0
      · rw [List.getElem?_map, Option.map_eq_some_iff] at hy
        obtain ⟨z, hz, rfl⟩ := hy
        have hj : j < len := by have := (List.getElem?_eq_some_iff.1 hz).1; omega
        have hc := h4 j (by omega)
        rw [addr_add] at hc
        rw [hc]
        rw [List.getElem?_take, if_pos hj] at hz
        rw [List.getD_eq_getElem?_getD, hz]
        rfl

theorem IsRow.len_le {k : IntKind} {w : World} {a : Option Addr} {len cap : Nat} {zs : List Int} (h : IsRow k w a len cap zs) : len ≤ 9223372036854775807 := by
  rcases h with ⟨_, rfl, _⟩ | ⟨_, _, h, h', _⟩
  · omega
  · unfold maxLen at h'; omega

theorem wf_u8 {x : Int} (h : (Lit.int .u8 x).wf = true) : IsB x := by
  have hmin : IntKind.u8.min = 0 := rfl
  have hmax : IntKind.u8.max = 255 := rfl
  simp only [Lit.wf, Bool.and_eq_true, decide_eq_true_eq] at h
  exact ⟨by omega, by omega⟩
theorem wf_i64 {x : Int} (h : (Lit.int .i64 x).wf = true) : IsInt x := by
  have hmin : IntKind.i64.min = -9223372036854775808 := rfl
  have hmax : IntKind.i64.max = 9223372036854775807 := rfl
  simp only [Lit.wf, Bool.and_eq_true, decide_eq_true_eq] at h
  exact ⟨by omega, by omega⟩

theorem makeRow {P : Program} (t e : TypeId) (z : Value) (bytes : Nat) (ht : P.underlying t = some (.slice e)) (hinfo : (P.info? e).map (fun i => (i.zero, i.size, i.bytes)) = some (some z, 1, bytes)) (hz1 : z.cells = #[z])
    (n : Nat) (hbytes : bytes * n ≤ 281474976710656) (h63 : n ≤ 9223372036854775807) (w : World) :
    (Instr.makeSlice t (.int .i64 (n : Int)) (.int .i64 (n : Int))).run P w = .ok (.slice (some ⟨w.heap.size, 0, none⟩) n n) (w.alloc (.cells (List.replicate n z).toArray e)) := by
  rw [run_make_row' t e z bytes ht hinfo hz1 .i64 .i64 n hbytes h63 w, ← toList_madeCells_one]

end Go.Proofs.Ytlkapaecaeldpaa
