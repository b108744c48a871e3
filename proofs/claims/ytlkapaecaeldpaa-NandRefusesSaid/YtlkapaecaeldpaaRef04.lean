/-
  The walks of package strakeref04, in the words of package bits' walks.
-/
import Derived.Test.YtlkapaecaeldpaaBits3
set_option linter.unusedVariables false
set_option linter.unusedSimpArgs false
set_option maxRecDepth 16384
namespace Go.Proofs.Ytlkapaecaeldpaa
open Go.RowKit

theorem pow_cases {m : Nat} (h : m ≤ 7) : (2 : Int) ^ m ≤ 128 ∧ 1 ≤ (2 : Int) ^ m := by
  match m, h with
  | 0, _ | 1, _ | 2, _ | 3, _ | 4, _ | 5, _ | 6, _ | 7, _ => decide

set_option maxHeartbeats 400000 in
theorem refWorth_any (i : Int) (w : World) (h0 : 0 ≤ i) (h9 : i ≤ 9223372036854775807) :
    Calls Try.prog 132 #[.int .i64 i] w fun e w' => e = .returned (.int .u8 (2 ^ (i % 8).toNat)) ∧ w = w' := by
  go_enter Try.func132, Try.ntmps132
  go_wp2
  go_loop [3, 4] (fun t k => ∃ m : Nat, (m : Int) ≤ i % 8 ∧ k = .int .i64 m ∧ t = .int .i64 (2 ^ m)) (fun _ k => (i % 8 - intOf k).toNat)
  case atStart => exact ⟨0, by omega, rfl, rfl⟩
  case round =>
    obtain ⟨m, hm, rfl, rfl⟩ := hrel
    have hp := pow_cases (m := m) (by omega)
    by_cases hlt : (m : Int) < i % 8
    · go_wp2
      go_round
      case rel => exact ⟨m + 1, by omega, by go_num, by rw [Int.pow_succ]⟩
      case measure => simp [intOf]; omega
    · obtain ⟨hp1, hp2⟩ := hp
      go_wp2
      go_ret
      refine ⟨?_, rfl⟩
      rw [show (i % 8).toNat = m from by omega]
      exact ret_int rfl

theorem getB_not {xs : List Int} {i : Int} (h : ¬ (0 ≤ i ∧ i / 8 < xs.length)) : getB xs i = false := by
  unfold getB
  rw [decide_eq_false_iff_not]
  exact fun k => h ⟨k.1, k.2.1⟩
theorem getB_in {xs : List Int} {i : Int} (h0 : 0 ≤ i) (h : i / 8 < xs.length) : getB xs i = decide ((xs.getD (i / 8).toNat 0 / 2 ^ (i % 8).toNat) % 2 = 1) := by
  unfold getB
  rw [decide_eq_decide]
  exact ⟨fun k => k.2.2, fun k => ⟨h0, h, k⟩⟩

set_option maxHeartbeats 400000 in
theorem refGet_any (v : Value) (xs : List Int) (i : Int) (w : World) (hs : Sl w 0 v (bv xs)) (hb : ∀ x ∈ xs, IsB x) (hi : IsInt i) :
    Calls Try.prog 131 #[v, .int .i64 i] w fun e w' => e = .returned (.bool (getB xs i)) ∧ Below w.heap.size w w' := by
  obtain ⟨a, cap, rfl, h1, h2, h3⟩ := hs.bytes
  clear hs
  have HB := Lib.hid hb
  clear hb
  have HI := Lib.hid hi
  obtain ⟨i1, i2⟩ := hi
  by_cases hi : 0 ≤ i ∧ i / 8 < xs.length
  · obtain ⟨hi1, hi2⟩ := hi
    obtain ⟨b, off, rfl, h4, h5, h6⟩ := h3 (by omega)
    have hc := h6 (i / 8).toNat (by omega)
    have hp := pow_cases (m := (i % 8).toNat) (by omega)
    obtain ⟨hp1, hp2⟩ := hp
    have hx := getD_isB HB.out (i / 8).toNat
    obtain ⟨hx1, hx2⟩ := hx
    clear h6 h3
    go_enter Try.func131, Try.ntmps131
    go_wp2
    go_quiet ((go_at_call 132; exact Calls.quiet_of_same ((refWorth_any _ _ (by omega) (by omega)).mono (fun e w' h => ⟨h.1, h.2.symm⟩))))
    go_wp2
    go_ret
    refine ⟨ret_bool ?_, below_drewN (Below.refl _ _) _⟩
    rw [getB_in hi1 hi2, List.getD_eq_getElem?_getD]
    rw [List.getD_eq_getElem?_getD] at hx1
    rw [Int.tdiv_eq_ediv_of_nonneg hx1]
    rfl
  · go_enter Try.func131, Try.ntmps131
    by_cases h0 : i < 0
    · go_wp2
      go_ret
      exact ⟨ret_bool (getB_not hi).symm, Below.refl _ _⟩
    · have hge : (xs.length : Int) ≤ i / 8 := by omega
      go_wp2
      go_ret
      exact ⟨ret_bool (getB_not hi).symm, Below.refl _ _⟩


theorem refStep {x : Int} (hx : IsB x) {k : Nat} (hk : k < 8) : (x / 2 ^ k % 2 = 1 → 0 ≤ x - 2 ^ k) ∧ (¬ x / 2 ^ k % 2 = 1 → x + 2 ^ k < 256) := by
  obtain ⟨h0, h1⟩ := hx
  match k, hk with
  | 0, _ | 1, _ | 2, _ | 3, _ | 4, _ | 5, _ | 6, _ | 7, _ => constructor <;> (intro h; simp only [Int.reducePow] at *; omega)

theorem getB_setBit {xs : List Int} {i : Int} (h0 : 0 ≤ i) (h : i / 8 < xs.length) (on : Bool) :
    setBit (xs.getD (i / 8).toNat 0) (i % 8).toNat on = if getB xs i then (if on then xs.getD (i / 8).toNat 0 else xs.getD (i / 8).toNat 0 - 2 ^ (i % 8).toNat) else (if on then xs.getD (i / 8).toNat 0 + 2 ^ (i % 8).toNat else xs.getD (i / 8).toNat 0) := by
  rw [getB_in h0 h]
  unfold setBit
  simp only [decide_eq_true_eq]

theorem set_self {xs : List Int} (k : Nat) : xs.set k (xs.getD k 0) = xs := by
  apply List.ext_getElem?
  intro j
  rw [List.getElem?_set]
  split
  · rename_i h; subst h
    split
    · rename_i h; rw [List.getD_eq_getElem?_getD, List.getElem?_eq_getElem h]; rfl
    · rename_i h; rw [List.getElem?_eq_none (by omega)]
  · rfl

theorem own_base {w : World} {base : Nat} {t : TypeId} {sz g n cap : Nat} {xs : List Value} (h : w.ownsRow base t sz (.slice (some ⟨g, 0, none⟩) n cap) n xs) : base ≤ g := (h.lt g rfl).1
theorem own_setB {w : World} {base : Nat} {t : TypeId} {g n cap : Nat} {xs : List Int} (h : w.ownsRow base t 1 (.slice (some ⟨g, 0, none⟩) n cap) n (bv xs)) {k : Nat} (hk : k < xs.length) {y z : Int} (e : z = y) :
    ((w.setCell ⟨g, k, none⟩ (.int .u8 z)).drew).ownsRow base t 1 (.slice (some ⟨g, 0, none⟩) n cap) n (bv (xs.set k y)) := by
  subst e
  have := (h.stored k (.int .u8 z)).1
  rwa [show (bv xs).set k (.int .u8 z) = bv (xs.set k z) from by simp [bv, List.map_set]] at this

theorem fin_sub {xs : List Int} {j k : Nat} (hx : IsB (xs.getD j 0)) (hk : k < 8) (hg : xs.getD j 0 / 2 ^ k % 2 = 1) (hj : j < xs.length) : IntKind.u8.wrap (xs[j] - 2 ^ k) = xs.getD j 0 - 2 ^ k := by
  have h := (refStep hx hk).1 hg
  have hp := (pow_cases (m := k) (by omega)).2
  rw [show xs[j] = xs.getD j 0 from by simp [hj], IntKind.wrap_u8]
  have := hx.2
  omega
theorem fin_add {xs : List Int} {j k : Nat} (hx : IsB (xs.getD j 0)) (hk : k < 8) (hg : ¬ xs.getD j 0 / 2 ^ k % 2 = 1) (hj : j < xs.length) : IntKind.u8.wrap (xs[j] + 2 ^ k) = xs.getD j 0 + 2 ^ k := by
  have h := (refStep hx hk).2 hg
  have hp := (pow_cases (m := k) (by omega)).2
  rw [show xs[j] = xs.getD j 0 from by simp [hj], IntKind.wrap_u8]
  have := hx.1
  omega

set_option maxHeartbeats 1000000 in
theorem refSet_yes (v : Value) (xs : List Int) (i : Int) (on : Bool) (w : World) (hs : Sl w 0 v (bv xs)) (hb : ∀ x ∈ xs, IsB x) (hi : IsInt i) (hh : 0 ≤ i ∧ i / 8 < xs.length) :
    Calls Try.prog 117 #[v, .int .i64 i, .bool on] w (Po fun e w' => ∃ u, e = .returned (.tuple #[u, .bool true]) ∧ w'.ownsRow w.heap.size 5 1 u xs.length (bv (setL xs i on)) ∧ Below w.heap.size w w') := by
  have HS := Lib.hid hs
  obtain ⟨a, cap, rfl, h1, h2, h3⟩ := hs.bytes
  clear hs
  have HB := Lib.hid hb
  clear hb
  have HI := Lib.hid hi
  obtain ⟨i1, i2⟩ := hi
  obtain ⟨hi1, hi2⟩ := hh
  clear h3
  obtain ⟨i0, hif, hz0, hz1, hz2⟩ := info_parts info_u8
  have hx := getD_isB HB.out (i / 8).toNat
  obtain ⟨hx1, hx2⟩ := hx
  have HG := Lib.hid (getB_setBit hi1 hi2 on)
  go_enter Try.func117, Try.ntmps117
  go_wp2_with (first | (at_builtin; refine wpList_append_sl _ rfl (.tmp 19) (.tmp 20) 45 rfl w.heap.size 5 i0 (.int .u8 0) 1 Try.underlying45 hif hz0 hz1 hz2 rfl (.slice (some ⟨w.heap.size, 0, none⟩) 0 0) 0 [] rfl (World.ownsRow_made w #[] 0 (Nat.le_refl _) (Nat.zero_le _) rfl) 0 _ (bv xs) rfl ?hsl ?h1 ?h63 ?hby ?hba ?K))
  case hsl => exact HS.out.below ((Below.refl _ _).alloc (Nat.le_refl _) _)
  case h1 => exact oneCell_bv xs
  case h63 => rw [bv_length]; unfold maxLen; omega
  case hby => rw [bv_length]; omega
  case hba => simp
  case K =>
    intro u1 w1 hown hgrow
    rw [bv_length] at hown
    obtain ⟨g, cp, rfl⟩ := own_form hown (by omega)
    have hb1 : Below w.heap.size w w1 := ((Below.refl _ _).alloc (Nat.le_refl _) (.cells #[] 5)).grown hgrow (by simp) (fun k hk => by simp [Value.ownBlock] at hk; omega)
    have hlt : (i / 8).toNat < xs.length := by omega
    have hc1 : w1.cell? ⟨g, (i / 8).toNat, none⟩ = some (.int .u8 (xs.getD (i / 8).toNat 0)) := by rw [hown.cellAt _ (by omega)]; simp [bv, hlt]
    have hf1 := hown.frozenAt (i / 8).toNat
    have HO := Lib.hid hown
    have HB1 := Lib.hid hb1
    clear hown hgrow hb1
    clear hc1 hf1
    by_cases hg : getB xs i = true
    · cases on with
      | false =>
        have he : Hid (setL xs i false = xs.set (i / 8).toNat (xs.getD (i / 8).toNat 0 - 2 ^ (i % 8).toNat)) := show _ = _ by unfold setL; rw [HG.out, if_pos hg, if_neg (by decide)]
        go_wp2_with (first | (go_at_call 131; refine (refGet_any _ xs _ _ (HS.out.below HB1.out) HB.out HI.out).mono ?_; rintro e w2 ⟨rfl, hb2⟩; simp only [hg]))
        have ho2 := own_below HO.out hb2
        have hc2 : w2.cell? ⟨g, (i / 8).toNat, none⟩ = some (.int .u8 (xs.getD (i / 8).toNat 0)) := by rw [ho2.cellAt _ (by omega)]; simp [bv, hlt]
        have hf2 := ho2.frozenAt (i / 8).toNat
        have HO2 := Lib.hid ho2
        have HB2 := Lib.hid (HB1.out.trans (hb2.mono HB1.out.size))
        clear hb2 ho2
        have hq : IntKind.i64.wrap (i.tdiv 8) = i / 8 := by rw [Int.tdiv_eq_ediv_of_nonneg hi1]; exact wrap_in _ ⟨by omega, by omega⟩
        have hq0 : 0 ≤ i / 8 := by omega
        go_region_with (go_at_call 132; refine (refWorth_any _ _ (by omega) (by omega)).mono ?_; rintro e w' ⟨rfl, rfl⟩)
        all_goals
          go_wp2
          go_ret2
          refine Po.mk ⟨_, rfl, ?_, (HB2.out.setCell (own_base HO2.out) _).drew⟩
          rw [he.out]
          exact own_setB HO2.out (hk := hlt) (fin_sub ⟨hx1, hx2⟩ (by omega) (by rw [getB_in hi1 hi2, decide_eq_true_eq] at hg; exact hg) hlt)
      | true =>
        have he : Hid (setL xs i true = xs) := show _ = _ by unfold setL; rw [HG.out, if_pos hg, if_pos rfl]; exact set_self _
        go_wp2_with (first | (go_at_call 131; refine (refGet_any _ xs _ _ (HS.out.below HB1.out) HB.out HI.out).mono ?_; rintro e w2 ⟨rfl, hb2⟩; simp only [hg]))
        go_ret2
        refine Po.mk ⟨_, rfl, ?_, HB1.out.trans (hb2.mono HB1.out.size)⟩
        rw [he.out]
        exact own_below HO.out hb2
    · have hg : getB xs i = false := by simpa using hg
      cases on with
      | true =>
        have he : Hid (setL xs i true = xs.set (i / 8).toNat (xs.getD (i / 8).toNat 0 + 2 ^ (i % 8).toNat)) := show _ = _ by unfold setL; rw [HG.out, if_neg (by rw [hg]; decide), if_pos rfl]
        go_wp2_with (first | (go_at_call 131; refine (refGet_any _ xs _ _ (HS.out.below HB1.out) HB.out HI.out).mono ?_; rintro e w2 ⟨rfl, hb2⟩; simp only [hg]))
        have ho2 := own_below HO.out hb2
        have hc2 : w2.cell? ⟨g, (i / 8).toNat, none⟩ = some (.int .u8 (xs.getD (i / 8).toNat 0)) := by rw [ho2.cellAt _ (by omega)]; simp [bv, hlt]
        have hf2 := ho2.frozenAt (i / 8).toNat
        have HO2 := Lib.hid ho2
        have HB2 := Lib.hid (HB1.out.trans (hb2.mono HB1.out.size))
        clear hb2 ho2
        have hq : IntKind.i64.wrap (i.tdiv 8) = i / 8 := by rw [Int.tdiv_eq_ediv_of_nonneg hi1]; exact wrap_in _ ⟨by omega, by omega⟩
        have hq0 : 0 ≤ i / 8 := by omega
        go_region_with (go_at_call 132; refine (refWorth_any _ _ (by omega) (by omega)).mono ?_; rintro e w' ⟨rfl, rfl⟩)
        all_goals
          go_wp2
          go_ret2
          refine Po.mk ⟨_, rfl, ?_, (HB2.out.setCell (own_base HO2.out) _).drew⟩
          rw [he.out]
          exact own_setB HO2.out (hk := hlt) (fin_add ⟨hx1, hx2⟩ (by omega) (by rw [getB_in hi1 hi2, decide_eq_false_iff_not] at hg; exact hg) hlt)
      | false =>
        have he : Hid (setL xs i false = xs) := show _ = _ by unfold setL; rw [HG.out, if_neg (by rw [hg]; decide), if_neg (by decide)]; exact set_self _
        go_wp2_with (first | (go_at_call 131; refine (refGet_any _ xs _ _ (HS.out.below HB1.out) HB.out HI.out).mono ?_; rintro e w2 ⟨rfl, hb2⟩; simp only [hg]))
        go_ret2
        refine Po.mk ⟨_, rfl, ?_, HB1.out.trans (hb2.mono HB1.out.size)⟩
        rw [he.out]
        exact own_below HO.out hb2

set_option maxHeartbeats 400000 in
theorem refSet_no (a : Option Addr) (n cap : Nat) (i : Int) (on : Bool) (w : World) (hn : n ≤ 140737488351232) (hi : IsInt i) (hh : ¬ (0 ≤ i ∧ i / 8 < n)) :
    Calls Try.prog 117 #[.slice a n cap, .int .i64 i, .bool on] w fun e w' => e = .returned (.tuple #[.slice none 0 0, .bool false]) ∧ w = w' := by
  obtain ⟨i1, i2⟩ := hi
  go_enter Try.func117, Try.ntmps117
  by_cases h0 : i < 0
  · go_wp2
    go_ret2
    exact ⟨rfl, rfl⟩
  · have hge : (n : Int) ≤ i / 8 := by omega
    go_wp2
    go_ret2
    exact ⟨rfl, rfl⟩


end Go.Proofs.Ytlkapaecaeldpaa
