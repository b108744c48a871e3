/-
  Package strakeref08: a device's blocks; at, Retired, Next, Wear, wrong.
-/
import Derived.Test.YtlkapaecaeldpaaNandD
import Derived.Test.YtlkapaecaeldpaaRef03
set_option linter.unusedVariables false
set_option linter.unusedSimpArgs false
set_option maxRecDepth 16384
namespace Go.Proofs.Ytlkapaecaeldpaa
open Go.RowKit

/-- something that was done -/
structure Ev where
  unit : Int
  block : Int
  page : Int
  data : List (List Int)
  oob : List (List Int)

/-- what the last that was done says of a sector; the latest first -/
def evSec (g : Geo) : List Ev → Nat → Option (List Int × List Int)
  | [], _ => none
  | e :: r, a =>
    if e.unit = (g.ofP a).unit ∧ e.block = (g.ofP a).block ∧ (e.page = -1 ∨ e.page = (g.ofP a).page) then
      (if (g.ofP a).sector < e.data.length then some (e.data.getD (g.ofP a).sector.toNat [], e.oob.getD (g.ofP a).sector.toNat []) else none)
    else evSec g r a

/-- the log's row: five cells each -/
def EvsAt (t : TypeId) (w : World) (Q : Nat → Prop) (lg : Value) (evs : List Ev) : Prop :=
  ∃ xs : List Value, w.ownsRow 0 t 5 lg evs.length xs ∧ ∀ j e, evs[j]? = some e → ∃ vd vo, xs[j * 5]? = some (.int .i64 e.unit) ∧ xs[j * 5 + 1]? = some (.int .i64 e.block) ∧ xs[j * 5 + 2]? = some (.int .i64 e.page) ∧ xs[j * 5 + 3]? = some vd ∧ xs[j * 5 + 4]? = some vo ∧ Sls w Q vd e.data ∧ Sls w Q vo e.oob ∧ e.data.length = e.oob.length

/-- the rows of the document's device -/
def RRows (F : Nat → Prop) (r pb nx wr rt : Nat) (lg : Value) (k : Nat) : Prop := F k ∧ k ≠ r ∧ k ≠ pb ∧ k ≠ nx ∧ k ≠ wr ∧ k ≠ rt ∧ lg.ownBlock ≠ some k

def refL (g : Geo) (S : NSt) (pb nx wr rt : Nat) (lg : Value) : List Value := [.int .i64 g.chans, .int .i64 g.luns, .int .i64 g.blocks, .int .i64 g.pages, .int .i64 g.sectors, .pointer (some ⟨pb, 0, none⟩), lg, .slice (some ⟨nx, 0, none⟩) g.nb g.nb, .slice (some ⟨wr, 0, none⟩) g.nb g.nb, .slice (some ⟨rt, 0, none⟩) g.nb g.nb, .bool S.off, .int .i64 S.wrong]

/-- what stands in the blocks of the document's device -/
structure RNRaw (w : World) (F : Nat → Prop) (r : Nat) (g : Geo) (S : NSt) (m : Nat) (L : List Int) (n : Nat) (evs : List Ev) (pb nx wr rt : Nat) (lv lg : Value) : Prop where
  blk : Blk w r 97 (refL g S pb nx wr rt lg)
  pl : Blk w pb 166 [lv, .int .i64 (n : Nat)]
  left : SlQ w (RRows F r pb nx wr rt lg) lv (bv L)
  leftB : ∀ x ∈ L, IsB x
  plan : S.plan = L.drop n
  nxs : ∀ i, i < g.nb → At w nx i (.int .i64 (S.next i)) ∧ At w wr i (.int .i64 (S.wear i)) ∧ At w rt i (.bool (S.ret i))
  log : EvsAt 178 w (RRows F r pb nx wr rt lg) lg evs
  sec : ∀ a : Nat, S.sec a = if (a : Int) < g.all then evSec g evs.reverse a else none
  mem : F r ∧ F pb ∧ F nx ∧ F wr ∧ F rt ∧ ∀ k, lg.ownBlock = some k → F k
  apart : r ≠ pb ∧ r ≠ nx ∧ r ≠ wr ∧ r ≠ rt ∧ pb ≠ nx ∧ pb ≠ wr ∧ pb ≠ rt ∧ nx ≠ wr ∧ nx ≠ rt ∧ wr ≠ rt
  logA : ∀ k, lg.ownBlock = some k → k ≠ r ∧ k ≠ pb ∧ k ≠ nx ∧ k ≠ wr ∧ k ≠ rt
  inF : ∀ k, F k → k < w.heap.size
  ok : g.okB = true
  few : n ≤ m ∧ evs.length ≤ m

/-- the document's device, of at most m calls -/
def RNAt (w : World) (F : Nat → Prop) (r : Nat) (g : Geo) (S : NSt) (m : Nat) : Prop := ∃ L n evs pb nx wr rt lv lg, RNRaw w F r g S m L n evs pb nx wr rt lv lg

theorem EvsAt.keep {t : TypeId} {w w' : World} {Q Q' : Nat → Prop} {lg : Value} {evs : List Ev} (h : EvsAt t w Q lg evs) (hs : w.heap.size ≤ w'.heap.size) (hk : ∀ k, k < w.heap.size → Q k ∨ lg.ownBlock = some k → w'.heap[k]? = w.heap[k]?) (hQ : ∀ k, Q k → Q' k) : EvsAt t w' Q' lg evs := by
  obtain ⟨xs, h1, h2⟩ := h
  refine ⟨xs, ?_, fun j e hj => ?_⟩
  · obtain ⟨h3, h4⟩ := h1
    refine ⟨h3, ?_⟩
    rcases h4 with h4 | ⟨b, cap, cur, rfl, h5, h6, h7⟩
    · exact .inl h4
    · exact .inr ⟨b, cap, cur, rfl, h5, (hk b (Array.getElem?_eq_some_iff.1 h6).1 (.inr rfl)).trans h6, h7⟩
  · obtain ⟨vd, vo, q1, q2, q3, q4, q5, q6, q7, q8⟩ := h2 j e hj
    exact ⟨vd, vo, q1, q2, q3, q4, q5, (q6.keep hs fun k hl hq => hk k hl (.inl hq)).mono fun k _ hq => hQ k hq, (q7.keep hs fun k hl hq => hk k hl (.inl hq)).mono fun k _ hq => hQ k hq, q8⟩

section
variable {w w' : World} {F : Nat → Prop} {r : Nat} {g : Geo} {S : NSt} {m : Nat} {L : List Int} {n : Nat} {evs : List Ev} {pb nx wr rt : Nat} {lv lg : Value}

theorem RNRaw.keep (h : RNRaw w F r g S m L n evs pb nx wr rt lv lg) (hs : w.heap.size ≤ w'.heap.size) (hk : ∀ k, k < w.heap.size → F k → w'.heap[k]? = w.heap[k]?) : RNRaw w' F r g S m L n evs pb nx wr rt lv lg := by
  obtain ⟨m1, m2, m3, m4, m5, m6⟩ := h.mem
  have e := fun k hf => hk k (h.inF k hf) hf
  exact ⟨(e r m1).trans h.blk, (e pb m2).trans h.pl, h.left.keep hs fun k hl hr => hk k hl hr.1, h.leftB, h.plan,
    fun i hi => by
      obtain ⟨h1, h2, h3⟩ := h.nxs i hi
      exact ⟨at_keep h1 (e nx m3), at_keep h2 (e wr m4), at_keep h3 (e rt m5)⟩,
    h.log.keep hs (fun k hl hq => hk k hl (hq.elim (fun hq => hq.1) (fun hq => m6 k hq))) (fun _ hq => hq), h.sec, h.mem, h.apart, h.logA, fun k hf => Nat.lt_of_lt_of_le (h.inF k hf) hs, h.ok, h.few⟩
theorem RNRaw.below (h : RNRaw w F r g S m L n evs pb nx wr rt lv lg) (hb : Below w.heap.size w w') : RNRaw w' F r g S m L n evs pb nx wr rt lv lg := h.keep hb.size fun k hk _ => hb.block k hk
theorem RNAt.keep (h : RNAt w F r g S m) (hs : w.heap.size ≤ w'.heap.size) (hk : ∀ k, k < w.heap.size → F k → w'.heap[k]? = w.heap[k]?) : RNAt w' F r g S m := by
  obtain ⟨L, n, evs, pb, nx, wr, rt, lv, lg, h⟩ := h
  exact ⟨L, n, evs, pb, nx, wr, rt, lv, lg, h.keep hs hk⟩
theorem RNAt.below (h : RNAt w F r g S m) (hb : Below w.heap.size w w') : RNAt w' F r g S m := h.keep hb.size fun k hk _ => hb.block k hk
end

theorem ref03Units_ok (g : Geo) (h : g.okB = true) (w : World) : Calls Try.prog 63 #[g.v] w fun e w' => e = .returned (.int .i64 (g.chans * g.luns)) ∧ Below w.heap.size w w' := by
  have := ref03Units_any g w
  unfold Geo.unitsI at this
  rwa [if_pos h] at this

/-- a block's number; -1: there is none -/
def atI (o : Option Nat) : Int := match o with | some i => i | none => -1

set_option maxHeartbeats 1000000 in
theorem ref08At_any {w : World} {F : Nat → Prop} {r : Nat} {g : Geo} {S : NSt} {m : Nat} (H : RNAt w F r g S m) (u n : Int) :
    Calls Try.prog 82 #[.pointer (some ⟨r, 0, none⟩), .int .i64 u, .int .i64 n] w fun e w' => e = .returned (.int .i64 (atI (findIx g u n))) ∧ Below w.heap.size w w' := by
  obtain ⟨L, n0, evs, pb, nx, wr, rt, lv, lg, H⟩ := H
  have HH := Lib.hid H
  obtain ⟨hnb1, hnb2, _⟩ := Geo.nb_le H.ok
  have hU : Hid (∀ wy, Calls Try.prog 63 #[g.v] wy fun e w' => e = .returned (.int .i64 (g.chans * g.luns)) ∧ Below wy.heap.size wy w') := fun wy => ref03Units_ok g H.ok wy
  have HF : Hid (findIx g u n = if 0 ≤ u ∧ u < g.chans * g.luns ∧ 0 ≤ n ∧ n < g.blocks then some (u * g.blocks + n).toNat else none) := Lib.hid rfl
  have hb64 := (Geo.ok_of H.ok).b
  have hu8 : g.chans * g.luns ≤ 8 := by
    have hgo := Geo.ok_of H.ok
    exact Int.mul_le_mul hgo.c.2 hgo.l.2 (by have := hgo.l.1; omega) (by omega)
  obtain ⟨c, l, b, p, s⟩ := g
  have hk := H.blk
  have k0 : w.cell? ⟨r, 0, none⟩ = some (.int .i64 c) := hk.cell 0
  have k1 : w.cell? ⟨r, 1, none⟩ = some (.int .i64 l) := hk.cell 1
  have k2 : w.cell? ⟨r, 2, none⟩ = some (.int .i64 b) := hk.cell 2
  have k3 : w.cell? ⟨r, 3, none⟩ = some (.int .i64 p) := hk.cell 3
  have k4 : w.cell? ⟨r, 4, none⟩ = some (.int .i64 s) := hk.cell 4
  have hrl := hk.lt
  simp only at hb64 hu8 hnb2 HF hU
  obtain ⟨U, hU2⟩ : ∃ U, c * l = U := ⟨_, rfl⟩
  rw [hU2] at hU HF hu8
  unfold Geo.v at hU
  obtain ⟨hb1, hb2⟩ := hb64
  clear H hnb1 hnb2 hU2 hk
  by_cases h1 : u < 0
  · have HR : Hid (findIx ⟨c, l, b, p, s⟩ u n = none) := by show _ = _; rw [HF.out, if_neg (by omega)]
    go_enter Try.func82, Try.ntmps82
    go_wp2_with fail
    go_ret
    rw [HR.out]
    exact ⟨rfl, Below.refl _ _⟩
  go_enter Try.func82, Try.ntmps82
  (go_wp2_with fail); refine (hU.out _).mono ?_
  rintro e w1 ⟨rfl, hb⟩
  have HB1 := Lib.hid hb
  have hk := (HH.out.below hb).blk
  have k2 : w1.cell? ⟨r, 2, none⟩ = some (.int .i64 b) := hk.cell 2
  have hrl1 := hk.lt
  clear hb hk
  by_cases h2 : U ≤ u
  · have HR : Hid (findIx ⟨c, l, b, p, s⟩ u n = none) := by show _ = _; rw [HF.out, if_neg (by omega)]
    go_wp2_with fail
    go_ret
    rw [HR.out]
    exact ⟨rfl, HB1.out⟩
  by_cases h3 : n < 0
  · have HR : Hid (findIx ⟨c, l, b, p, s⟩ u n = none) := by show _ = _; rw [HF.out, if_neg (by omega)]
    go_wp2_with fail
    go_ret
    rw [HR.out]
    exact ⟨rfl, HB1.out⟩
  by_cases h4 : b ≤ n
  · have HR : Hid (findIx ⟨c, l, b, p, s⟩ u n = none) := by show _ = _; rw [HF.out, if_neg (by omega)]
    go_wp2_with fail
    go_ret
    rw [HR.out]
    exact ⟨rfl, HB1.out⟩
  have hm1 : 0 ≤ u * b := Int.mul_nonneg (by omega) (by omega)
  have hm2 : u * b ≤ 8 * 64 := Int.mul_le_mul (by omega) hb2 (by omega) (by omega)
  obtain ⟨I, hI⟩ : ∃ I : Nat, u * b + n = I := ⟨(u * b + n).toNat, by omega⟩
  have HR : Hid (findIx ⟨c, l, b, p, s⟩ u n = some I) := by show _ = _; rw [HF.out, if_pos (by omega), hI]; rfl
  have hw1 : IntKind.i64.wrap (u * b) = u * b := wrap_in _ ⟨by omega, by omega⟩
  obtain ⟨X, hX⟩ : ∃ X, u * b = X := ⟨_, rfl⟩
  rw [hX] at hw1 hI hm1 hm2
  have hw0 : IntKind.i64.wrap (u * b) = X := by rw [hX]; exact hw1
  have hw2 : IntKind.i64.wrap (X + n) = (I : Int) := by rw [hI]; exact wrap_in _ ⟨by omega, by omega⟩
  clear hI hX hw1
  go_wp2_with fail
  go_ret
  rw [HR.out]
  exact ⟨rfl, HB1.out⟩

end Go.Proofs.Ytlkapaecaeldpaa
