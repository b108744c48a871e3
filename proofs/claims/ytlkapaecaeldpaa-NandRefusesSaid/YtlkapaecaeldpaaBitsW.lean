/-
  The walks of package bits.
-/
import Derived.Test.YtlkapaecaeldpaaKit
set_option linter.unusedVariables false
set_option linter.unusedSimpArgs false
set_option maxRecDepth 16384
namespace Go.Proofs.Ytlkapaecaeldpaa
open Go.RowKit

def hasB (n : Nat) (i : Int) : Bool := decide (0 ≤ i ∧ i / 8 < n)

set_option maxHeartbeats 400000 in
theorem bitsHas_any (a : Option Addr) (n cap : Nat) (i : Int) (w : World) (hn : n ≤ 140737488351232) (hi : IsInt i) :
    Calls Try.prog 90 #[.slice a n cap, .int .i64 i] w fun e w' => e = .returned (.bool (hasB n i)) ∧ w = w' := by
  obtain ⟨i1, i2⟩ := hi
  go_enter Try.func90, Try.ntmps90
  go_wp2
  all_goals
    go_ret
    exact ⟨ret_bool (by unfold hasB; simp; try omega), rfl⟩

def getB (xs : List Int) (i : Int) : Bool := decide (0 ≤ i ∧ i / 8 < xs.length ∧ (xs.getD (i / 8).toNat 0 / 2 ^ (i % 8).toNat) % 2 = 1)

theorem bitsShl (k : Int) (h : 0 ≤ k) (h2 : k < 8) : IntKind.u8.wrap (1 * 2 ^ k.toNat) = 2 ^ k.toNat := by
  obtain ⟨n, rfl⟩ := Int.eq_ofNat_of_zero_le h
  rw [IntKind.wrap_u8]
  have : n < 8 := by omega
  match n, this with
  | 0, _ | 1, _ | 2, _ | 3, _ | 4, _ | 5, _ | 6, _ | 7, _ => decide

theorem getD_isB {xs : List Int} (hb : ∀ x ∈ xs, IsB x) (j : Nat) : IsB (xs.getD j 0) := by
  by_cases h : j < xs.length
  · rw [List.getD_eq_getElem?_getD, List.getElem?_eq_getElem h]; exact hb _ (List.getElem_mem h)
  · rw [List.getD_eq_getElem?_getD, List.getElem?_eq_none (by omega)]; exact ⟨by decide, by decide⟩

set_option maxHeartbeats 400000 in
theorem bitsGet_any (v : Value) (xs : List Int) (i : Int) (w : World) (hs : Sl w 0 v (bv xs)) (hb : ∀ x ∈ xs, IsB x) (hi : IsInt i) :
    Calls Try.prog 38 #[v, .int .i64 i] w fun e w' => e = .returned (.bool (getB xs i)) ∧ w = w' := by
  obtain ⟨a, cap, rfl, h1, h2, h3⟩ := hs.bytes
  clear hs
  have hn := h2
  have HB := Lib.hid hb
  clear hb
  have HI := Lib.hid hi
  obtain ⟨i1, i2⟩ := hi
  by_cases hi : 0 ≤ i ∧ i / 8 < xs.length
  · obtain ⟨hi1, hi2⟩ := hi
    obtain ⟨b, off, rfl, h4, h5, h6⟩ := h3 (by omega)
    have hc := h6 (i / 8).toNat (by omega)
    clear h6 h3
    go_enter Try.func38, Try.ntmps38
    go_wp2_with (first | (go_at_call 90; refine (bitsHas_any _ _ _ _ _ hn HI.out).mono ?_; rintro e w' ⟨rfl, rfl⟩; have HH : hasB xs.length i = true := (by simp [hasB, hi1, hi2]); simp only [HH]))
    go_ret
    refine ⟨ret_bool ?_, rfl⟩
    have hx := getD_isB HB.out (i / 8).toNat
    rw [List.getD_eq_getElem?_getD] at hx
    have h0 : 0 ≤ xs[(i / 8).toNat]?.getD 0 / 2 ^ (i % 8).toNat := Int.ediv_nonneg hx.1 (Int.le_of_lt (Int.pow_pos (by decide)))
    have h8 : xs[(i / 8).toNat]?.getD 0 / 2 ^ (i % 8).toNat < 256 := Int.lt_of_le_of_lt (Int.ediv_le_self _ hx.1) hx.2
    show (bits BinOp.and IntKind.u8 (xs[(i / 8).toNat]?.getD 0 / 2 ^ (i % 8).toNat) 1 == 1) = _
    rw [u8_and _ _ h0 h8 (by decide) (by decide)]
    unfold getB
    rw [List.getD_eq_getElem?_getD]
    generalize xs[(i / 8).toNat]?.getD 0 / 2 ^ (i % 8).toNat = y at *
    obtain ⟨m, rfl⟩ := Int.eq_ofNat_of_zero_le h0
    rw [Int.toNat_natCast, show (1 : Int).toNat = 1 from rfl, Nat.and_one_is_mod, Bool.eq_iff_iff, beq_iff_eq, decide_eq_true_eq]
    constructor
    · intro h; exact ⟨hi1, hi2, by omega⟩
    · intro h; omega
  · go_enter Try.func38, Try.ntmps38
    go_wp2_with (first | (go_at_call 90; refine (bitsHas_any _ _ _ _ _ hn HI.out).mono ?_; rintro e w' ⟨rfl, rfl⟩; have HH : hasB xs.length i = false := (by unfold hasB; rw [decide_eq_false_iff_not]; exact hi); simp only [HH]))
    go_ret
    refine ⟨ret_bool ?_, rfl⟩
    symm
    unfold getB
    rw [decide_eq_false_iff_not]
    exact fun h => hi ⟨h.1, h.2.1⟩

def setBit (x : Int) (k : Nat) (on : Bool) : Int := if x / 2 ^ k % 2 = 1 then (if on then x else x - 2 ^ k) else (if on then x + 2 ^ k else x)
def setL (xs : List Int) (i : Int) (on : Bool) : List Int := xs.set (i / 8).toNat (setBit (xs.getD (i / 8).toNat 0) (i % 8).toNat on)

theorem off_nat : ∀ x : Fin 256, ∀ k : Fin 8, ((x.val &&& (255 - 2 ^ k.val) : Nat) : Int) = setBit x.val k.val false := by decide +kernel
theorem on_nat : ∀ x : Fin 256, ∀ k : Fin 8, (((x.val &&& (255 - 2 ^ k.val)) ||| 2 ^ k.val : Nat) : Int) = setBit x.val k.val true := by decide +kernel

theorem info_u8 : (Try.prog.info? 5).map (fun i => (i.zero, i.size, i.bytes)) = some (some (.int .u8 0), 1, 1) := by kernel_rfl

theorem info1_u8 : (Try.prog.info? 5).map (·.size) = some 1 := by kernel_rfl

theorem oneCell_bv (xs : List Int) : ∀ v ∈ bv xs, v.oneCell' = true := by
  intro v hv
  obtain ⟨x, _, rfl⟩ := List.mem_map.1 hv
  rfl

theorem pow_lt8 {k : Nat} (hk : k < 8) : (2 : Int) ^ k % 256 = ((2 ^ k : Nat) : Int) ∧ 2 ^ k < 256 := by
  match k, hk with
  | 0, _ | 1, _ | 2, _ | 3, _ | 4, _ | 5, _ | 6, _ | 7, _ => decide
theorem bits_off {x : Int} (hx : IsB x) {k : Nat} (hk : k < 8) : bits BinOp.andNot IntKind.u8 x (2 ^ k % 256) = setBit x k false := by
  obtain ⟨n, rfl⟩ := Int.eq_ofNat_of_zero_le hx.1
  have hn : n < 256 := by have := hx.2; omega
  rw [(pow_lt8 hk).1, u8_andNot_nat n (2 ^ k) hn (pow_lt8 hk).2]
  exact off_nat ⟨n, hn⟩ ⟨k, hk⟩
theorem bits_on {x : Int} (hx : IsB x) {k : Nat} (hk : k < 8) : bits BinOp.or IntKind.u8 (bits BinOp.andNot IntKind.u8 x (2 ^ k % 256)) (2 ^ k % 256) = setBit x k true := by
  obtain ⟨n, rfl⟩ := Int.eq_ofNat_of_zero_le hx.1
  have hn : n < 256 := by have := hx.2; omega
  rw [(pow_lt8 hk).1, u8_andNot_nat n (2 ^ k) hn (pow_lt8 hk).2, u8_or_nat _ _ (Nat.lt_of_le_of_lt Nat.and_le_left hn) (pow_lt8 hk).2]
  exact on_nat ⟨n, hn⟩ ⟨k, hk⟩

theorem Blk.setB {w : World} {g : Nat} {t : TypeId} {xs : List Int} (h : Blk w g t (bv xs)) {k : Nat} {y z : Int} (e : z = y) : Blk (w.setCell ⟨g, k, none⟩ (.int .u8 z)) g t (bv (xs.set k y)) := by
  subst e
  have := h.set k (.int .u8 z)
  rwa [show (bv xs).set k (.int .u8 z) = bv (xs.set k z) from by simp [bv, List.map_set]] at this
theorem Blk.setB2 {w : World} {g : Nat} {t : TypeId} {xs : List Int} {k : Nat} {u : Value} (h : Blk w g t ((bv xs).set k u)) {y z : Int} (e : z = y) : Blk (w.setCell ⟨g, k, none⟩ (.int .u8 z)) g t (bv (xs.set k y)) := by
  subst e
  have := h.set k (.int .u8 z)
  rwa [show ((bv xs).set k u).set k (.int .u8 z) = bv (xs.set k z) from by simp [bv, List.map_set, List.set_set]] at this

set_option maxHeartbeats 1000000 in
theorem bitsSet_yes (v : Value) (xs : List Int) (i : Int) (on : Bool) (w : World) (hs : Sl w 0 v (bv xs)) (hb : ∀ x ∈ xs, IsB x) (hi : IsInt i) (hh : 0 ≤ i ∧ i / 8 < xs.length) :
    Calls Try.prog 94 #[v, .int .i64 i, .bool on] w fun e w' => ∃ g, e = .returned (.tuple #[.slice (some ⟨g, 0, none⟩) xs.length xs.length, .bool true]) ∧ w.heap.size ≤ g ∧ Blk w' g 5 (bv (setL xs i on)) ∧ Below w.heap.size w w' := by
  obtain ⟨a, cap, rfl, h1, h2, h3⟩ := hs.bytes
  clear hs
  have hn := h2
  have HB := Lib.hid hb
  clear hb
  have HI := Lib.hid hi
  obtain ⟨i1, i2⟩ := hi
  obtain ⟨hi1, hi2⟩ := hh
  obtain ⟨b, off, rfl, h4, h5, h6⟩ := h3 (by omega)
  have hmk := makeRow (P := Try.prog) 45 5 (.int .u8 0) 1 Try.underlying45 info_u8 rfl xs.length (by omega) (by omega)
  have HS : Hid (∀ j x, (bv xs)[j]? = some x → w.cell? ⟨b, off + j, none⟩ = some x) := fun j x hx => by
    have hj : j < xs.length := by have := (List.getElem?_eq_some_iff.1 hx).1; simpa [bv] using this
    rw [h6 j hj, ← hx]
    simp [bv, hj]
  clear h3
  go_enter Try.func94, Try.ntmps94
  go_wp2_with (first | (go_at_call 90; refine (bitsHas_any _ _ _ _ _ hn HI.out).mono ?_; rintro e w' ⟨rfl, rfl⟩; have HH : hasB xs.length i = true := (by simp [hasB, hi1, hi2]); simp only [HH]) | (with_reducible refine wpList_copy_splice rfl (.tmp 16) (.tmp 17) _ _ rfl 5 Try.underlying45 info1_u8 (some ⟨w.heap.size, 0, none⟩) (some ⟨b, off, none⟩) xs.length xs.length xs.length cap ?hd ?hs w.heap.size 0 (List.replicate xs.length (.int .u8 0)) 5 ?hg (bv xs) ?hn ?hpos ?hfit ?h1 w.heap.size w ?hb (Nat.le_refl _) ?K))
  case hd => rfl
  case hs => rfl
  case hg => rw [← Array.replicate_eq_toArray_replicate]; exact heap_alloc_new w _
  case hn => simp [bv]
  case hpos => exact fun _ => HS.out
  case hfit => simp [bv]
  case h1 => exact oneCell_bv xs
  case hb => exact (Below.refl _ _).alloc (Nat.le_refl _) _
  case K =>
    intro w1 hg1 hb1
    have hg2 : Blk w1 w.heap.size 5 (bv xs) := by
      have h := hg1.out
      rwa [show splice (List.replicate xs.length (Value.int .u8 0)) 0 (bv xs) = bv xs from by simp [splice, bv]] at h
    clear hg1
    have hlt : (i / 8).toNat < xs.length := by omega
    have hc1 : w1.cell? ⟨w.heap.size, (i / 8).toNat, none⟩ = some (.int .u8 (xs.getD (i / 8).toNat 0)) := by rw [hg2.cell]; simp [bv, hlt]
    have hf1 := hg2.free (i / 8).toNat
    have HG2 := Lib.hid hg2
    clear hg2
    go_wp2
    go_region
    cases on with
    | false =>
      go_wp2
      go_ret2
      refine ⟨w.heap.size, rfl, Nat.le_refl _, Blk.drew (HG2.out.setB ?_), (hb1.setCell (Nat.le_refl _) _).drew⟩
      exact (congrArg (fun z => bits BinOp.andNot IntKind.u8 z (2 ^ (i % 8).toNat % 256)) (by simp [hlt])).trans (bits_off (getD_isB HB.out _) (by omega))
    | true =>
      go_wp2
      go_region
      go_wp2
      go_ret2
      refine ⟨w.heap.size, rfl, Nat.le_refl _, Blk.drew (Blk.setB2 (Blk.drew (HG2.out.set _ _)) ?_), ((hb1.setCell (Nat.le_refl _) _).drew.setCell (Nat.le_refl _) _).drew⟩
      exact (congrArg (fun z => bits BinOp.or IntKind.u8 (bits BinOp.andNot IntKind.u8 z (2 ^ (i % 8).toNat % 256)) (2 ^ (i % 8).toNat % 256)) (by simp [hlt])).trans (bits_on (getD_isB HB.out _) (by omega))

theorem bitsSet_no (a : Option Addr) (n cap : Nat) (i : Int) (on : Bool) (w : World) (hn : n ≤ 140737488351232) (hi : IsInt i) (hh : ¬ (0 ≤ i ∧ i / 8 < n)) :
    Calls Try.prog 94 #[.slice a n cap, .int .i64 i, .bool on] w fun e w' => e = .returned (.tuple #[.slice none 0 0, .bool false]) ∧ w = w' := by
  go_enter Try.func94, Try.ntmps94
  go_wp2_with (first | (go_at_call 90; refine (bitsHas_any _ _ _ _ _ hn hi).mono ?_; rintro e w' ⟨rfl, rfl⟩; have HH : hasB n i = false := (by unfold hasB; rw [decide_eq_false_iff_not]; exact hh); simp only [HH]))
  go_ret2
  exact ⟨rfl, rfl⟩

end Go.Proofs.Ytlkapaecaeldpaa
