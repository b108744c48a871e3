/-
  The walks of package strakeref04, second part: Make, Right, List, Count, Same.
-/
import Derived.Test.YtbfpnpoafepjjaaRef04
set_option linter.unusedVariables false
set_option linter.unusedSimpArgs false
set_option maxRecDepth 16384
namespace Go.Proofs.Ytbfpnpoafepjjaa
open Go.RowKit

set_option maxHeartbeats 400000 in
theorem refMake_any (n : Int) (w : World) (hn : IsInt n) :
    Calls Try.prog 81 #[.int .i64 n] w (Po fun e w' => ∃ u, e = .returned u ∧ w'.ownsRow w.heap.size 5 1 u (makeN n) (bv (List.replicate (makeN n) 0)) ∧ Below w.heap.size w w') := by
  obtain ⟨n1, n2⟩ := hn
  obtain ⟨i0, hif, hz0, hz1, hz2⟩ := info_parts info_u8
  by_cases h8 : n ≤ 8192
  · go_enter Try.func81, Try.ntmps81
    go_wp2
    go_loopw [3, 4] (fun u t wr => ∃ k : Nat, (k : Int) ≤ 1024 ∧ (k = 0 ∨ 8 * (k : Int) < n + 8) ∧ t = .int .i64 (8 * k) ∧ Hid (wr.ownsRow w.heap.size 5 1 u k (bv (List.replicate k 0))) ∧ Hid (Below w.heap.size w wr)) (fun _ t _ => (n - intOf t).toNat)
    case atStart => exact ⟨0, by omega, .inl rfl, rfl, World.ownsRow_nil _ _ _ _, Below.refl _ _⟩
    case round =>
      obtain ⟨k, hk1, hk2, rfl, HO, HW⟩ := hrel
      by_cases hlt : 8 * (k : Int) < n
      · go_wp2_with (first | (at_builtin; refine wpList_append_own_at _ rfl (.tmp 14) (.tmp 15) 35 rfl w.heap.size 5 i0 (.int .u8 0) 1 1 Try.underlying35 hif hz0 hz1 hz2 rfl (by decide) _ k _ rfl (HO.out.alloc _) ⟨wr.heap.size, 0, none⟩ 1 1 [.int .u8 0] rfl rfl (cell_one_new _ _ _) (oneCell_one _ _) ?c3 ?c4 ?c5 ?K))
        case c3 => unfold maxLen; omega
        case c4 => omega
        case c5 => have := HW.out.size; simp; omega
        case K =>
          intro v1 w1 hown hgrow hnil hat
          clear hat hnil
          have hb1 := below_grown (B := w.heap.size) ((HW.out).alloc HW.out.size (.cells #[Value.int .u8 0] 5)) (HO.out.alloc _) hgrow (by have := HW.out.size; simp; omega) (Nat.le_refl _)
          have HO1 := Lib.hid hown
          have HB1 := Lib.hid hb1
          clear hown hgrow hb1
          go_wp2
          go_roundw
          case rel =>
            refine ⟨k + 1, by omega, by omega, by go_num, ?_, HB1.out⟩
            rw [show bv (List.replicate (k + 1) 0) = bv (List.replicate k 0) ++ [.int .u8 0] from by simp [bv, List.replicate_succ']]
            exact HO1.out
          case measure => simp [intOf]; omega
      · go_wp2
        go_ret
        have e : makeN n = k := by unfold makeN; split <;> omega
        refine Po.mk ⟨_, rfl, ?_, HW.out⟩
        rw [e]
        exact HO.out
  · have e : Hid (makeN n = 0) := show makeN n = 0 by unfold makeN; rw [if_neg (by omega)]
    go_enter Try.func81, Try.ntmps81
    go_wp2
    go_loop [3, 4] (fun u t => u = .slice none 0 0 ∧ t = .int .i64 0) (fun _ _ => 0)
    case atStart => exact ⟨rfl, rfl⟩
    case round =>
      obtain ⟨rfl, rfl⟩ := hrel
      have hlt : (0 : Int) < n := by omega
      go_wp2
      go_ret
      refine Po.mk ⟨_, rfl, ?_, Below.refl _ _⟩
      rw [e.out]
      exact World.ownsRow_nil _ _ _ _

/-- no bit from i on, below m -/
theorem nextI_none {xs : List Int} {m i : Int} (h0 : 0 ≤ i) (hm : m = 8 * xs.length) : nextI xs m i true < 0 ↔ ∀ j : Int, i ≤ j → j < m → getB xs j = false := by
  unfold nextI
  rw [show max 0 i = i from by omega]
  obtain ⟨k, hk⟩ : ∃ k, (m - i).toNat = k := ⟨_, rfl⟩
  induction k generalizing i with
  | zero =>
    rw [hk]
    exact ⟨fun _ j h1 h2 => by omega, fun _ => by show (-1 : Int) < 0; decide⟩
  | succ k ih =>
    have hlt : i < m := by omega
    rw [nextB_step hlt, if_pos (by omega)]
    have := ih (i := i + 1) (by omega) (by omega)
    by_cases hg : getB xs i = true
    · rw [if_pos hg]
      exact ⟨fun h => by omega, fun h => absurd hg (by rw [h i (Int.le_refl _) hlt]; decide)⟩
    · rw [if_neg hg, this]
      have hg : getB xs i = false := by simpa using hg
      exact ⟨fun h j h1 h2 => by
        rcases Int.lt_or_eq_of_le h1 with h3 | h3
        · exact h j (by omega) h2
        · rw [← h3]; exact hg, fun h j h1 h2 => h j (by omega) h2⟩




def sameB (xs ys : List Int) : Bool := decide (xs = ys)

set_option maxHeartbeats 1000000 in
theorem refSame_any (v u : Value) (xs ys : List Int) (w : World) (hs : Sl w 0 v (iv xs)) (ht : Sl w 0 u (iv ys)) :
    Calls Try.prog 24 #[v, u] w fun e w' => e = .returned (.bool (sameB xs ys)) ∧ Below w.heap.size w w' := by
  obtain ⟨a, cap, rfl, h1, h2, h3⟩ := hs.ints
  obtain ⟨a', cap', rfl, h1', h2', h3'⟩ := ht.ints
  clear hs ht
  by_cases hl : xs.length = ys.length
  · have hne : ((xs.length : Int) != (ys.length : Int)) = false := by rw [hl]; simp
    have HL := Lib.hid hl
    clear hl
    go_enter Try.func24, Try.ntmps24
    go_wp2
    go_loopw [5] (fun t wr => ∃ k : Nat, k ≤ xs.length ∧ t = .int .i64 k ∧ Hid (xs.take k = ys.take k) ∧ Hid (Below w.heap.size w wr)) (fun t _ => ((xs.length : Int) - intOf t).toNat)
    case atStart => exact ⟨0, Nat.zero_le _, rfl, rfl, Below.refl _ _⟩
    case round =>
      obtain ⟨k, hk, rfl, HT, HW⟩ := hrel
      by_cases hlt : k < xs.length
      · have hlt' : k < ys.length := by have := HL.out; omega
        obtain ⟨b, off, rfl, h4, h5, h6⟩ := h3 (by omega)
        obtain ⟨b', off', rfl, h4', h5', h6'⟩ := h3' (by omega)
        have hc : wr.cell? ⟨b, off + k, none⟩ = some (.int .i64 (xs.getD k 0)) := (HW.out.cell (p := ⟨b, off + k, none⟩) h5).trans (h6 k hlt)
        have hc' : wr.cell? ⟨b', off' + k, none⟩ = some (.int .i64 (ys.getD k 0)) := (HW.out.cell (p := ⟨b', off' + k, none⟩) h5').trans (h6' k hlt')
        clear h6 h6' h3 h3'
        by_cases hg : xs.getD k 0 = ys.getD k 0
        · have hgb : (xs[k]?.getD 0 != ys[k]?.getD 0) = false := by rw [← List.getD_eq_getElem?_getD, ← List.getD_eq_getElem?_getD, hg]; simp
          have hgb2 : (xs[k] != ys[k]) = false := by simpa [hlt, hlt'] using hgb
          have HG := Lib.hid hg
          clear hg
          go_wp2
          go_quiet (fail)
          go_wp2
          go_roundw
          case rel =>
            refine ⟨k + 1, by omega, by go_num, ?_, below_drewN HW.out _⟩
            show List.take (k + 1) xs = List.take (k + 1) ys
            rw [List.take_succ_eq_append_getElem hlt, List.take_succ_eq_append_getElem hlt', HT.out]
            have h := HG.out
            rw [List.getD_eq_getElem?_getD, List.getD_eq_getElem?_getD, List.getElem?_eq_getElem hlt, List.getElem?_eq_getElem hlt'] at h
            have h2 : xs[k] = ys[k] := by simpa using h
            rw [h2]
          case measure => simp [intOf]; omega
        · have hgb : (xs[k]?.getD 0 != ys[k]?.getD 0) = true := by rw [← List.getD_eq_getElem?_getD, ← List.getD_eq_getElem?_getD, bne_iff_ne]; exact hg
          have hgb2 : (xs[k] != ys[k]) = true := by simpa [hlt, hlt'] using hgb
          have HG := Lib.hid hg
          clear hg
          go_wp2
          go_quiet (fail)
          go_wp2
          go_ret
          refine ⟨ret_bool ?_, below_drewN HW.out _⟩
          symm
          unfold sameB
          rw [decide_eq_false_iff_not]
          exact fun h => HG.out (by rw [h])
      · obtain rfl : k = xs.length := by omega
        go_wp2
        go_ret
        refine ⟨ret_bool ?_, HW.out⟩
        symm
        unfold sameB
        rw [decide_eq_true_eq]
        have h := HT.out
        rw [List.take_length, HL.out, List.take_length] at h
        exact h
  · have hne : ((xs.length : Int) != (ys.length : Int)) = true := by rw [bne_iff_ne]; omega
    go_enter Try.func24, Try.ntmps24
    go_wp2
    go_ret
    refine ⟨ret_bool ?_, Below.refl _ _⟩
    symm
    unfold sameB
    rw [decide_eq_false_iff_not]
    exact fun h => hl (by rw [h])

end Go.Proofs.Ytbfpnpoafepjjaa
