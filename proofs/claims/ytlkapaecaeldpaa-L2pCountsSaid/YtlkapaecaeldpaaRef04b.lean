/-
  The walks of package strakeref04, second part: Make, Right, List, Count, Same.
-/
import Derived.Test.YtlkapaecaeldpaaRef04
set_option linter.unusedVariables false
set_option linter.unusedSimpArgs false
set_option maxRecDepth 16384
namespace Go.Proofs.Ytlkapaecaeldpaa
open Go.RowKit

set_option maxHeartbeats 400000 in
theorem refMake_any (n : Int) (w : World) (hn : IsInt n) :
    Calls Try.prog 116 #[.int .i64 n] w (Po fun e w' => ∃ u, e = .returned u ∧ w'.ownsRow w.heap.size 5 1 u (makeN n) (bv (List.replicate (makeN n) 0)) ∧ Below w.heap.size w w') := by
  obtain ⟨n1, n2⟩ := hn
  obtain ⟨i0, hif, hz0, hz1, hz2⟩ := info_parts info_u8
  by_cases h8 : n ≤ 8192
  · go_enter Try.func116, Try.ntmps116
    go_wp2
    go_loopw [3, 4] (fun u t wr => ∃ k : Nat, (k : Int) ≤ 1024 ∧ (k = 0 ∨ 8 * (k : Int) < n + 8) ∧ t = .int .i64 (8 * k) ∧ Hid (wr.ownsRow w.heap.size 5 1 u k (bv (List.replicate k 0))) ∧ Hid (Below w.heap.size w wr)) (fun _ t _ => (n - intOf t).toNat)
    case atStart => exact ⟨0, by omega, .inl rfl, rfl, World.ownsRow_nil _ _ _ _, Below.refl _ _⟩
    case round =>
      obtain ⟨k, hk1, hk2, rfl, HO, HW⟩ := hrel
      by_cases hlt : 8 * (k : Int) < n
      · go_wp2_with (first | (at_builtin; refine wpList_append_own_at _ rfl (.tmp 14) (.tmp 15) 45 rfl w.heap.size 5 i0 (.int .u8 0) 1 1 Try.underlying45 hif hz0 hz1 hz2 rfl (by decide) _ k _ rfl (HO.out.alloc _) ⟨wr.heap.size, 0, none⟩ 1 1 [.int .u8 0] rfl rfl (cell_one_new _ _ _) (oneCell_one _ _) ?c3 ?c4 ?c5 ?K))
        case c3 => unfold maxLen; omega
        case c4 => omega
        case c5 => have := HW.out.size; simp; omega
        case K =>
          intro v1 w1 hown hgrow hnil hat
          clear hat hnil
          have hb1 := below_grown (B := w.heap.size) ((HW.out).alloc HW.out.size (.cells #[Value.int .u8 0] 5)) (HO.out.alloc _) hgrow (by have := HW.out.size; simp; omega) (Nat.le_refl _)
          have HO1 := Lib.hid hown
          have HB1 := Lib.hid hb1
          clear hown hgrow hb1
          go_wp2
          go_roundw
          case rel =>
            refine ⟨k + 1, by omega, by omega, by go_num, ?_, HB1.out⟩
            rw [show bv (List.replicate (k + 1) 0) = bv (List.replicate k 0) ++ [.int .u8 0] from by simp [bv, List.replicate_succ']]
            exact HO1.out
          case measure => simp [intOf]; omega
      · go_wp2
        go_ret
        have e : makeN n = k := by unfold makeN; split <;> omega
        refine Po.mk ⟨_, rfl, ?_, HW.out⟩
        rw [e]
        exact HO.out
  · have e : Hid (makeN n = 0) := show makeN n = 0 by unfold makeN; rw [if_neg (by omega)]
    go_enter Try.func116, Try.ntmps116
    go_wp2
    go_loop [3, 4] (fun u t => u = .slice none 0 0 ∧ t = .int .i64 0) (fun _ _ => 0)
    case atStart => exact ⟨rfl, rfl⟩
    case round =>
      obtain ⟨rfl, rfl⟩ := hrel
      have hlt : (0 : Int) < n := by omega
      go_wp2
      go_ret
      refine Po.mk ⟨_, rfl, ?_, Below.refl _ _⟩
      rw [e.out]
      exact World.ownsRow_nil _ _ _ _

/-- no bit from i on, below m -/
theorem nextI_none {xs : List Int} {m i : Int} (h0 : 0 ≤ i) (hm : m = 8 * xs.length) : nextI xs m i true < 0 ↔ ∀ j : Int, i ≤ j → j < m → getB xs j = false := by
  unfold nextI
  rw [show max 0 i = i from by omega]
  obtain ⟨k, hk⟩ : ∃ k, (m - i).toNat = k := ⟨_, rfl⟩
  induction k generalizing i with
  | zero =>
    rw [hk]
    exact ⟨fun _ j h1 h2 => by omega, fun _ => by show (-1 : Int) < 0; decide⟩
  | succ k ih =>
    have hlt : i < m := by omega
    rw [nextB_step hlt, if_pos (by omega)]
    have := ih (i := i + 1) (by omega) (by omega)
    by_cases hg : getB xs i = true
    · rw [if_pos hg]
      exact ⟨fun h => by omega, fun h => absurd hg (by rw [h i (Int.le_refl _) hlt]; decide)⟩
    · rw [if_neg hg, this]
      have hg : getB xs i = false := by simpa using hg
      exact ⟨fun h j h1 h2 => by
        rcases Int.lt_or_eq_of_le h1 with h3 | h3
        · exact h j (by omega) h2
        · rw [← h3]; exact hg, fun h j h1 h2 => h j (by omega) h2⟩


set_option maxHeartbeats 1000000 in
theorem refList_any (v : Value) (xs : List Int) (w : World) (hs : Sl w 0 v (bv xs)) (hb : ∀ x ∈ xs, IsB x) (hl : xs.length ≤ 1000000) :
    Calls Try.prog 130 #[v] w (Po fun e w' => ∃ u, e = .returned u ∧ w'.ownsRow w.heap.size 3 1 u (lstB xs (8 * xs.length)).length (iv (lstB xs (8 * xs.length))) ∧ Below w.heap.size w w') := by
  have HS := Lib.hid hs
  obtain ⟨a, cap, rfl, h1, h2, h3⟩ := hs.bytes
  clear hs h3
  have HB := Lib.hid hb
  clear hb
  obtain ⟨i0, hif, hz0, hz1, hz2⟩ := info_parts info_int
  go_enter Try.func130, Try.ntmps130
  go_wp2
  go_loopw [3, 4] (fun u t wr => ∃ k : Nat, k ≤ 8 * xs.length ∧ t = .int .i64 k ∧ Hid (wr.ownsRow w.heap.size 3 1 u (lstB xs k).length (iv (lstB xs k))) ∧ Hid (Below w.heap.size w wr)) (fun _ t _ => (8 * (xs.length : Int) - intOf t).toNat)
  case atStart => exact ⟨0, Nat.zero_le _, rfl, World.ownsRow_nil _ _ _ _, Below.refl _ _⟩
  case round =>
    obtain ⟨k, hk, rfl, HO, HW⟩ := hrel
    by_cases hlt : k < 8 * xs.length
    · have hc := lstB_le xs k
      by_cases hg : getB xs k = true
      · go_wp2_with (first | (go_at_call 131; refine (refGet_any _ _ _ _ (HS.out.below HW.out) HB.out ⟨by omega, by omega⟩).mono ?_; rintro e w2 ⟨rfl, hb2⟩; simp only [hg]; have HO2 := Lib.hid (own_below HO.out hb2); have HW2 := Lib.hid (HW.out.trans (hb2.mono HW.out.size)); clear hb2) | (at_builtin; refine wpList_append_own_at _ rfl (.tmp 15) (.tmp 17) 49 rfl w.heap.size 3 i0 (.int .i64 0) 1 8 Try.underlying49 hif hz0 hz1 hz2 rfl (by decide) _ _ _ rfl (HO2.out.alloc _) ⟨w2.heap.size, 0, none⟩ 1 1 [.int .i64 k] rfl rfl (cell_one_new _ _ _) (oneCell_one _ _) ?c3 ?c4 ?c5 ?K))
        case c3 => unfold maxLen; omega
        case c4 => omega
        case c5 => have := HW2.out.size; simp; omega
        case K =>
          intro v1 w1 hown hgrow hnil hat
          clear hat hnil
          have hb1 := below_grown (B := w.heap.size) ((HW2.out).alloc HW2.out.size (.cells #[Value.int .i64 k] 3)) (HO2.out.alloc _) hgrow (by have := HW2.out.size; simp; omega) (Nat.le_refl _)
          have HO1 := Lib.hid hown
          have HB1 := Lib.hid hb1
          clear hown hgrow hb1
          go_wp2
          go_roundw
          case rel =>
            refine ⟨k + 1, by omega, by go_num, ?_, HB1.out⟩
            have h := HO1.out
            rw [show lstB xs (k + 1) = lstB xs k ++ [(k : Int)] from by simp only [lstB, if_pos hg]]
            show Go.World.ownsRow _ _ _ _ _ _ _
            simpa [iv] using h
          case measure => simp [intOf]; omega
      · have hg : getB xs k = false := by simpa using hg
        go_wp2_with (first | (go_at_call 131; refine (refGet_any _ _ _ _ (HS.out.below HW.out) HB.out ⟨by omega, by omega⟩).mono ?_; rintro e w2 ⟨rfl, hb2⟩; simp only [hg]; have HO2 := Lib.hid (own_below HO.out hb2); have HW2 := Lib.hid (HW.out.trans (hb2.mono HW.out.size)); clear hb2))
        go_roundw
        case rel =>
          refine ⟨k + 1, by omega, by go_num, ?_, HW2.out⟩
          rw [show lstB xs (k + 1) = lstB xs k from by simp [lstB, hg]]
          exact HO2.out
        case measure => simp [intOf]; omega
    · obtain rfl : k = 8 * xs.length := by omega
      go_wp2
      go_ret
      exact Po.mk ⟨_, rfl, HO.out, HW.out⟩

set_option maxHeartbeats 400000 in
theorem refCount_any (v : Value) (xs : List Int) (w : World) (hs : Sl w 0 v (bv xs)) (hb : ∀ x ∈ xs, IsB x) (hl : xs.length ≤ 1000000) :
    Calls Try.prog 114 #[v] w fun e w' => e = .returned (.int .i64 (cntB xs (8 * xs.length))) ∧ Below w.heap.size w w' := by
  go_enter Try.func114, Try.ntmps114
  go_wp2_with (first | (go_at_call 130; refine (refList_any _ xs _ hs hb hl).mono ?_; rintro e w1 ⟨u, rfl, ho, hb1⟩; obtain ⟨ua, ucap, rfl⟩ := own_slice ho; have HB1 := Lib.hid hb1; clear ho hb1))
  go_ret
  exact ⟨ret_int (lstB_length xs _), HB1.out⟩

def sameB (xs ys : List Int) : Bool := decide (xs = ys)


end Go.Proofs.Ytlkapaecaeldpaa
