/-
  The walks of package strakeref04, second part: Make, Right, List, Count, Same.
-/
import Derived.Test.YtbeahoimefnofaaRef04
set_option linter.unusedVariables false
set_option linter.unusedSimpArgs false
namespace Go.Proofs.Ytbeahoimefnofaa
open Go.RowKit

set_option maxHeartbeats 400000 in
theorem refMake_any (n : Int) (w : World) (hn : IsInt n) :
    Calls Try.prog 34 #[.int .i64 n] w (Po fun e w' => ∃ u, e = .returned u ∧ w'.ownsRow w.heap.size 5 1 u (makeN n) (bv (List.replicate (makeN n) 0)) ∧ Below w.heap.size w w') := by
  obtain ⟨n1, n2⟩ := hn
  obtain ⟨i0, hif, hz0, hz1, hz2⟩ := info_parts info_u8
  by_cases h8 : n ≤ 8192
  · go_enter Try.func34, Try.ntmps34
    go_wp2
    go_loopw [3, 4] (fun u t wr => ∃ k : Nat, (k : Int) ≤ 1024 ∧ (k = 0 ∨ 8 * (k : Int) < n + 8) ∧ t = .int .i64 (8 * k) ∧ Hid (wr.ownsRow w.heap.size 5 1 u k (bv (List.replicate k 0))) ∧ Hid (Below w.heap.size w wr)) (fun _ t _ => (n - intOf t).toNat)
    case atStart => exact ⟨0, by omega, .inl rfl, rfl, World.ownsRow_nil _ _ _ _, Below.refl _ _⟩
    case round =>
      obtain ⟨k, hk1, hk2, rfl, HO, HW⟩ := hrel
      by_cases hlt : 8 * (k : Int) < n
      · go_wp2_with (first | (at_builtin; refine wpList_append_own_at _ rfl (.tmp 14) (.tmp 15) 22 rfl w.heap.size 5 i0 (.int .u8 0) 1 1 Try.underlying22 hif hz0 hz1 hz2 rfl (by decide) _ k _ rfl (HO.out.alloc _) ⟨wr.heap.size, 0, none⟩ 1 1 [.int .u8 0] rfl rfl (cell_one_new _ _ _) (oneCell_one _ _) ?c3 ?c4 ?c5 ?K))
        case c3 => unfold maxLen; omega
        case c4 => omega
        case c5 => have := HW.out.size; simp; omega
        case K =>
          intro v1 w1 hown hgrow hnil hat
          clear hat hnil
          have hb1 := below_grown (B := w.heap.size) ((HW.out).alloc HW.out.size (.cells #[Value.int .u8 0] 5)) (HO.out.alloc _) hgrow (by have := HW.out.size; simp; omega) (Nat.le_refl _)
          have HO1 := Lib.hid hown
          have HB1 := Lib.hid hb1
          clear hown hgrow hb1
          go_wp2
          go_roundw
          case rel =>
            refine ⟨k + 1, by omega, by omega, by go_num, ?_, HB1.out⟩
            rw [show bv (List.replicate (k + 1) 0) = bv (List.replicate k 0) ++ [.int .u8 0] from by simp [bv, List.replicate_succ']]
            exact HO1.out
          case measure => simp [intOf]; omega
      · go_wp2
        go_ret
        have e : makeN n = k := by unfold makeN; split <;> omega
        refine Po.mk ⟨_, rfl, ?_, HW.out⟩
        rw [e]
        exact HO.out
  · have e : Hid (makeN n = 0) := show makeN n = 0 by unfold makeN; rw [if_neg (by omega)]
    go_enter Try.func34, Try.ntmps34
    go_wp2
    go_loop [3, 4] (fun u t => u = .slice none 0 0 ∧ t = .int .i64 0) (fun _ _ => 0)
    case atStart => exact ⟨rfl, rfl⟩
    case round =>
      obtain ⟨rfl, rfl⟩ := hrel
      have hlt : (0 : Int) < n := by omega
      go_wp2
      go_ret
      refine Po.mk ⟨_, rfl, ?_, Below.refl _ _⟩
      rw [e.out]
      exact World.ownsRow_nil _ _ _ _

/-- no bit from i on, below m -/
theorem nextI_none {xs : List Int} {m i : Int} (h0 : 0 ≤ i) (hm : m = 8 * xs.length) : nextI xs m i true < 0 ↔ ∀ j : Int, i ≤ j → j < m → getB xs j = false := by
  unfold nextI
  rw [show max 0 i = i from by omega]
  obtain ⟨k, hk⟩ : ∃ k, (m - i).toNat = k := ⟨_, rfl⟩
  induction k generalizing i with
  | zero =>
    rw [hk]
    exact ⟨fun _ j h1 h2 => by omega, fun _ => by show (-1 : Int) < 0; decide⟩
  | succ k ih =>
    have hlt : i < m := by omega
    rw [nextB_step hlt, if_pos (by omega)]
    have := ih (i := i + 1) (by omega) (by omega)
    by_cases hg : getB xs i = true
    · rw [if_pos hg]
      exact ⟨fun h => by omega, fun h => absurd hg (by rw [h i (Int.le_refl _) hlt]; decide)⟩
    · rw [if_neg hg, this]
      have hg : getB xs i = false := by simpa using hg
      exact ⟨fun h j h1 h2 => by
        rcases Int.lt_or_eq_of_le h1 with h3 | h3
        · exact h j (by omega) h2
        · rw [← h3]; exact hg, fun h j h1 h2 => h j (by omega) h2⟩

set_option maxHeartbeats 1000000 in
theorem refRight_any (v : Value) (xs : List Int) (n : Int) (w : World) (hs : Sl w 0 v (bv xs)) (hb : ∀ x ∈ xs, IsB x) (hn : IsInt n) :
    Calls Try.prog 36 #[v, .int .i64 n] w fun e w' => e = .returned (.bool (rightB xs n)) ∧ Below w.heap.size w w' := by
  have HS := Lib.hid hs
  obtain ⟨a, cap, rfl, h1, h2, h3⟩ := hs.bytes
  clear hs h3
  have HB := Lib.hid hb
  clear hb
  have HN := Lib.hid hn
  obtain ⟨n1, n2⟩ := hn
  have hmk := makeN_le n
  by_cases hr : n < 0 ∨ 8192 < n
  · have e : Hid (rightB xs n = false) := show rightB xs n = false by unfold rightB; rw [decide_eq_false_iff_not]; omega
    go_enter Try.func36, Try.ntmps36
    rcases hr with hr | hr
    all_goals
      go_wp2
      go_ret
      exact ⟨ret_bool e.out.symm, Below.refl _ _⟩
  · have hr1 : 0 ≤ n := by omega
    have hr2 : n ≤ 8192 := by omega
    have hm : Hid ((makeN n : Int) = (n + 7) / 8) := show _ = _ by unfold makeN; rw [if_pos ⟨hr1, hr2⟩]; omega
    clear hr
    by_cases hl : xs.length = makeN n
    · have hne : ((xs.length : Int) != (makeN n : Int)) = false := by rw [hl]; simp
      have HL := Lib.hid hl
      clear hl
      go_enter Try.func36, Try.ntmps36
      go_wp2_with (first | (go_at_call 34; refine (refMake_any _ _ HN.out).mono ?_; rintro e w1 ⟨u, rfl, ho, hb1⟩; obtain ⟨ua, ucap, rfl⟩ := own_slice ho; have HB1 := Lib.hid hb1; clear ho hb1))
      go_loopw [5] (fun t wr => ∃ i : Int, n ≤ i ∧ i ≤ 2000000000000000 ∧ t = .int .i64 i ∧ Hid (∀ j, n ≤ j → j < i → getB xs j = false) ∧ Hid (Below w.heap.size w wr)) (fun t _ => (8 * (xs.length : Int) - intOf t).toNat)
      case atStart => exact ⟨n, by omega, by omega, rfl, fun j a b => by omega, HB1.out⟩
      case round =>
        obtain ⟨i, hi0, hi9, rfl, HJ, HW⟩ := hrel
        by_cases hlt : i < 8 * (xs.length : Int)
        · by_cases hg : getB xs i = true
          · go_wp2_with (first | (go_at_call 19; refine (refGet_any _ _ _ _ (HS.out.below HW.out) HB.out ⟨by omega, by omega⟩).mono ?_; rintro e w2 ⟨rfl, hb2⟩; simp only [hg]))
            go_ret
            refine ⟨ret_bool ?_, HW.out.trans (hb2.mono HW.out.size)⟩
            symm
            unfold rightB
            rw [decide_eq_false_iff_not, nextI_none hr1 rfl]
            exact fun h => absurd hg (by rw [h.2.2.2 i hi0 hlt]; decide)
          · have hg : getB xs i = false := by simpa using hg
            go_wp2_with (first | (go_at_call 19; refine (refGet_any _ _ _ _ (HS.out.below HW.out) HB.out ⟨by omega, by omega⟩).mono ?_; rintro e w2 ⟨rfl, hb2⟩; simp only [hg]))
            go_roundw
            case rel =>
              refine ⟨i + 1, by omega, by omega, rfl, ?_, HW.out.trans (hb2.mono HW.out.size)⟩
              intro j a b
              rcases Int.lt_or_eq_of_le (show j ≤ i by omega) with h3 | h3
              · exact HJ.out j a h3
              · rw [h3]; exact hg
            case measure => simp [intOf]; omega
        · go_wp2
          go_ret
          refine ⟨ret_bool ?_, HW.out⟩
          symm
          unfold rightB
          rw [decide_eq_true_eq, nextI_none hr1 rfl]
          exact ⟨hr1, hr2, by rw [HL.out, hm.out], fun j a b => HJ.out j a (by omega)⟩
    · have hne : ((xs.length : Int) != (makeN n : Int)) = true := by rw [bne_iff_ne]; omega
      have e : Hid (rightB xs n = false) := show rightB xs n = false by
        unfold rightB
        rw [decide_eq_false_iff_not, ← hm.out]
        exact fun h => hl (by omega)
      go_enter Try.func36, Try.ntmps36
      go_wp2_with (first | (go_at_call 34; refine (refMake_any _ _ HN.out).mono ?_; rintro e w1 ⟨u, rfl, ho, hb1⟩; obtain ⟨ua, ucap, rfl⟩ := own_slice ho; have HB1 := Lib.hid hb1; clear ho hb1))
      go_ret
      exact ⟨ret_bool e.out.symm, HB1.out⟩

set_option maxHeartbeats 1000000 in
theorem refList_any (v : Value) (xs : List Int) (w : World) (hs : Sl w 0 v (bv xs)) (hb : ∀ x ∈ xs, IsB x) (hl : xs.length ≤ 1000000) :
    Calls Try.prog 39 #[v] w (Po fun e w' => ∃ u, e = .returned u ∧ w'.ownsRow w.heap.size 3 1 u (lstB xs (8 * xs.length)).length (iv (lstB xs (8 * xs.length))) ∧ Below w.heap.size w w') := by
  have HS := Lib.hid hs
  obtain ⟨a, cap, rfl, h1, h2, h3⟩ := hs.bytes
  clear hs h3
  have HB := Lib.hid hb
  clear hb
  obtain ⟨i0, hif, hz0, hz1, hz2⟩ := info_parts info_int
  go_enter Try.func39, Try.ntmps39
  go_wp2
  go_loopw [3, 4] (fun u t wr => ∃ k : Nat, k ≤ 8 * xs.length ∧ t = .int .i64 k ∧ Hid (wr.ownsRow w.heap.size 3 1 u (lstB xs k).length (iv (lstB xs k))) ∧ Hid (Below w.heap.size w wr)) (fun _ t _ => (8 * (xs.length : Int) - intOf t).toNat)
  case atStart => exact ⟨0, Nat.zero_le _, rfl, World.ownsRow_nil _ _ _ _, Below.refl _ _⟩
  case round =>
    obtain ⟨k, hk, rfl, HO, HW⟩ := hrel
    by_cases hlt : k < 8 * xs.length
    · have hc := lstB_le xs k
      by_cases hg : getB xs k = true
      · go_wp2_with (first | (go_at_call 19; refine (refGet_any _ _ _ _ (HS.out.below HW.out) HB.out ⟨by omega, by omega⟩).mono ?_; rintro e w2 ⟨rfl, hb2⟩; simp only [hg]; have HO2 := Lib.hid (own_below HO.out hb2); have HW2 := Lib.hid (HW.out.trans (hb2.mono HW.out.size)); clear hb2) | (at_builtin; refine wpList_append_own_at _ rfl (.tmp 15) (.tmp 17) 45 rfl w.heap.size 3 i0 (.int .i64 0) 1 8 Try.underlying45 hif hz0 hz1 hz2 rfl (by decide) _ _ _ rfl (HO2.out.alloc _) ⟨w2.heap.size, 0, none⟩ 1 1 [.int .i64 k] rfl rfl (cell_one_new _ _ _) (oneCell_one _ _) ?c3 ?c4 ?c5 ?K))
        case c3 => unfold maxLen; omega
        case c4 => omega
        case c5 => have := HW2.out.size; simp; omega
        case K =>
          intro v1 w1 hown hgrow hnil hat
          clear hat hnil
          have hb1 := below_grown (B := w.heap.size) ((HW2.out).alloc HW2.out.size (.cells #[Value.int .i64 k] 3)) (HO2.out.alloc _) hgrow (by have := HW2.out.size; simp; omega) (Nat.le_refl _)
          have HO1 := Lib.hid hown
          have HB1 := Lib.hid hb1
          clear hown hgrow hb1
          go_wp2
          go_roundw
          case rel =>
            refine ⟨k + 1, by omega, by go_num, ?_, HB1.out⟩
            have h := HO1.out
            rw [show lstB xs (k + 1) = lstB xs k ++ [(k : Int)] from by simp only [lstB, if_pos hg]]
            show Go.World.ownsRow _ _ _ _ _ _ _
            simpa [iv] using h
          case measure => simp [intOf]; omega
      · have hg : getB xs k = false := by simpa using hg
        go_wp2_with (first | (go_at_call 19; refine (refGet_any _ _ _ _ (HS.out.below HW.out) HB.out ⟨by omega, by omega⟩).mono ?_; rintro e w2 ⟨rfl, hb2⟩; simp only [hg]; have HO2 := Lib.hid (own_below HO.out hb2); have HW2 := Lib.hid (HW.out.trans (hb2.mono HW.out.size)); clear hb2))
        go_roundw
        case rel =>
          refine ⟨k + 1, by omega, by go_num, ?_, HW2.out⟩
          rw [show lstB xs (k + 1) = lstB xs k from by simp [lstB, hg]]
          exact HO2.out
        case measure => simp [intOf]; omega
    · obtain rfl : k = 8 * xs.length := by omega
      go_wp2
      go_ret
      exact Po.mk ⟨_, rfl, HO.out, HW.out⟩

set_option maxHeartbeats 400000 in
theorem refCount_any (v : Value) (xs : List Int) (w : World) (hs : Sl w 0 v (bv xs)) (hb : ∀ x ∈ xs, IsB x) (hl : xs.length ≤ 1000000) :
    Calls Try.prog 41 #[v] w fun e w' => e = .returned (.int .i64 (cntB xs (8 * xs.length))) ∧ Below w.heap.size w w' := by
  go_enter Try.func41, Try.ntmps41
  go_wp2_with (first | (go_at_call 39; refine (refList_any _ xs _ hs hb hl).mono ?_; rintro e w1 ⟨u, rfl, ho, hb1⟩; obtain ⟨ua, ucap, rfl⟩ := own_slice ho; have HB1 := Lib.hid hb1; clear ho hb1))
  go_ret
  exact ⟨ret_int (lstB_length xs _), HB1.out⟩

def sameB (xs ys : List Int) : Bool := decide (xs = ys)

set_option maxHeartbeats 1000000 in
theorem refSame_any (v u : Value) (xs ys : List Int) (w : World) (hs : Sl w 0 v (iv xs)) (ht : Sl w 0 u (iv ys)) :
    Calls Try.prog 37 #[v, u] w fun e w' => e = .returned (.bool (sameB xs ys)) ∧ Below w.heap.size w w' := by
  obtain ⟨a, cap, rfl, h1, h2, h3⟩ := hs.ints
  obtain ⟨a', cap', rfl, h1', h2', h3'⟩ := ht.ints
  clear hs ht
  by_cases hl : xs.length = ys.length
  · have hne : ((xs.length : Int) != (ys.length : Int)) = false := by rw [hl]; simp
    have HL := Lib.hid hl
    clear hl
    go_enter Try.func37, Try.ntmps37
    go_wp2
    go_loopw [5] (fun t wr => ∃ k : Nat, k ≤ xs.length ∧ t = .int .i64 k ∧ Hid (xs.take k = ys.take k) ∧ Hid (Below w.heap.size w wr)) (fun t _ => ((xs.length : Int) - intOf t).toNat)
    case atStart => exact ⟨0, Nat.zero_le _, rfl, rfl, Below.refl _ _⟩
    case round =>
      obtain ⟨k, hk, rfl, HT, HW⟩ := hrel
      by_cases hlt : k < xs.length
      · have hlt' : k < ys.length := by have := HL.out; omega
        obtain ⟨b, off, rfl, h4, h5, h6⟩ := h3 (by omega)
        obtain ⟨b', off', rfl, h4', h5', h6'⟩ := h3' (by omega)
        have hc : wr.cell? ⟨b, off + k, none⟩ = some (.int .i64 (xs.getD k 0)) := (HW.out.cell (p := ⟨b, off + k, none⟩) h5).trans (h6 k hlt)
        have hc' : wr.cell? ⟨b', off' + k, none⟩ = some (.int .i64 (ys.getD k 0)) := (HW.out.cell (p := ⟨b', off' + k, none⟩) h5').trans (h6' k hlt')
        clear h6 h6' h3 h3'
        by_cases hg : xs.getD k 0 = ys.getD k 0
        · have hgb : (xs[k]?.getD 0 != ys[k]?.getD 0) = false := by rw [← List.getD_eq_getElem?_getD, ← List.getD_eq_getElem?_getD, hg]; simp
          have hgb2 : (xs[k] != ys[k]) = false := by simpa [hlt, hlt'] using hgb
          have HG := Lib.hid hg
          clear hg
          go_wp2
          go_quiet (fail)
          go_wp2
          go_roundw
          case rel =>
            refine ⟨k + 1, by omega, by go_num, ?_, below_drewN HW.out _⟩
            show List.take (k + 1) xs = List.take (k + 1) ys
            rw [List.take_succ_eq_append_getElem hlt, List.take_succ_eq_append_getElem hlt', HT.out]
            have h := HG.out
            rw [List.getD_eq_getElem?_getD, List.getD_eq_getElem?_getD, List.getElem?_eq_getElem hlt, List.getElem?_eq_getElem hlt'] at h
            have h2 : xs[k] = ys[k] := by simpa using h
            rw [h2]
          case measure => simp [intOf]; omega
        · have hgb : (xs[k]?.getD 0 != ys[k]?.getD 0) = true := by rw [← List.getD_eq_getElem?_getD, ← List.getD_eq_getElem?_getD, bne_iff_ne]; exact hg
          have hgb2 : (xs[k] != ys[k]) = true := by simpa [hlt, hlt'] using hgb
          have HG := Lib.hid hg
          clear hg
          go_wp2
          go_quiet (fail)
          go_wp2
          go_ret
          refine ⟨ret_bool ?_, below_drewN HW.out _⟩
          symm
          unfold sameB
          rw [decide_eq_false_iff_not]
          exact fun h => HG.out (by rw [h])
      · obtain rfl : k = xs.length := by omega
        go_wp2
        go_ret
        refine ⟨ret_bool ?_, HW.out⟩
        symm
        unfold sameB
        rw [decide_eq_true_eq]
        have h := HT.out
        rw [List.take_length, HL.out, List.take_length] at h
        exact h
  · have hne : ((xs.length : Int) != (ys.length : Int)) = true := by rw [bne_iff_ne]; omega
    go_enter Try.func37, Try.ntmps37
    go_wp2
    go_ret
    refine ⟨ret_bool ?_, Below.refl _ _⟩
    symm
    unfold sameB
    rw [decide_eq_false_iff_not]
    exact fun h => hl (by rw [h])

end Go.Proofs.Ytbeahoimefnofaa
