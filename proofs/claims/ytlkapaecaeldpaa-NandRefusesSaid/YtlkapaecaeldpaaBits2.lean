/-
  The walks of package bits, second part: Next, Make, Right.
-/
import Derived.Test.YtlkapaecaeldpaaBitsW
set_option linter.unusedVariables false
set_option linter.unusedSimpArgs false
set_option maxRecDepth 16384
namespace Go.Proofs.Ytlkapaecaeldpaa
open Go.RowKit

/-- the first place from i on, below n (at most fuel places), at which the bit is on, or off -/
def nextB (xs : List Int) (n : Int) (on : Bool) : Nat → Int → Int
  | 0, _ => -1
  | k + 1, i => if i < n then (if i < 8 * xs.length then (if getB xs i = on then i else nextB xs n on k (i + 1)) else (if on then -1 else i)) else -1

def nextI (xs : List Int) (n fr : Int) (on : Bool) : Int := nextB xs n on (n - max 0 fr).toNat (max 0 fr)

theorem nextB_step {xs : List Int} {n i : Int} {on : Bool} (h : i < n) : nextB xs n on (n - i).toNat i = (if i < 8 * xs.length then (if getB xs i = on then i else nextB xs n on (n - (i + 1)).toNat (i + 1)) else (if on then -1 else i)) := by
  obtain ⟨k, hk⟩ : ∃ k, (n - i).toNat = k + 1 := ⟨(n - i).toNat - 1, by omega⟩
  rw [hk, nextB, if_pos h, show (n - (i + 1)).toNat = k from by omega]
theorem nextB_end {xs : List Int} {n i : Int} {on : Bool} (h : ¬ i < n) : nextB xs n on (n - i).toNat i = -1 := by
  rw [show (n - i).toNat = 0 from by omega]; rfl

set_option maxHeartbeats 1000000 in
theorem bitsNext_any (v : Value) (xs : List Int) (n fr : Int) (on : Bool) (w : World) (hs : Sl w 0 v (bv xs)) (hb : ∀ x ∈ xs, IsB x) (hn : IsInt n) (hfr : IsInt fr) :
    Calls Try.prog 97 #[v, .int .i64 n, .int .i64 fr, .bool on] w fun e w' => e = .returned (.int .i64 (nextI xs n fr on)) ∧ w = w' := by
  have HS := Lib.hid hs
  obtain ⟨a, cap, rfl, h1, h2, h3⟩ := hs.bytes
  clear hs h3
  have HB := Lib.hid hb
  clear hb
  obtain ⟨n1, n2⟩ := hn
  obtain ⟨f1, f2⟩ := hfr
  go_enter Try.func97, Try.ntmps97
  go_wp2
  go_loop [9] (fun t => ∃ i : Int, 0 ≤ i ∧ i ≤ 9223372036854775807 ∧ t = .int .i64 i ∧ Hid (nextB xs n on (n - i).toNat i = nextI xs n fr on)) (fun t => (n - intOf t).toNat)
  case atStart =>
    exact ⟨max 0 fr, by omega, by omega, rfl, rfl⟩
  case round =>
    obtain ⟨i, hi0, hi9, rfl, hrel⟩ := hrel
    replace hrel := hrel.out
    by_cases hlt : i < n
    · rw [nextB_step hlt] at hrel
      by_cases hl8 : i < 8 * (xs.length : Int)
      · rw [if_pos hl8] at hrel
        by_cases hg : getB xs i = on
        · rw [if_pos hg] at hrel
          have hgb : (getB xs i == on) = true := by rw [beq_iff_eq]; exact hg
          have HR := Lib.hid hrel
          clear hrel hg
          go_wp2_with (first | (go_at_call 38; refine (bitsGet_any _ _ _ _ HS.out HB.out ⟨by omega, by omega⟩).mono ?_; rintro e w' ⟨rfl, rfl⟩))
          go_ret
          exact ⟨ret_int HR.out, rfl⟩
        · rw [if_neg hg] at hrel
          have hgb : (getB xs i == on) = false := by rw [beq_eq_false_iff_ne]; exact hg
          have HR := Lib.hid hrel
          clear hrel hg
          go_wp2_with (first | (go_at_call 38; refine (bitsGet_any _ _ _ _ HS.out HB.out ⟨by omega, by omega⟩).mono ?_; rintro e w' ⟨rfl, rfl⟩))
          go_round
          case rel => exact ⟨i + 1, by omega, by omega, rfl, HR.out⟩
          case measure => simp [intOf]; omega
      · rw [if_neg hl8] at hrel
        have HR := Lib.hid hrel
        clear hrel
        cases on
        all_goals
          go_wp2
          go_ret
          exact ⟨ret_int (by simpa using HR.out), rfl⟩
    · rw [nextB_end hlt] at hrel
      have HR := Lib.hid hrel
      clear hrel
      go_wp2
      go_ret
      exact ⟨ret_int HR.out, rfl⟩

/-- how many bytes a bitmap of n bits has -/
def makeN (n : Int) : Nat := if 0 ≤ n ∧ n ≤ 8192 then ((n + 7) / 8).toNat else 0

theorem makeN_le (n : Int) : makeN n ≤ 1024 := by unfold makeN; split <;> omega

theorem bitsMake_any (n : Int) (w : World) (hn : IsInt n) :
    Calls Try.prog 91 #[.int .i64 n] w (Po fun e w' => ∃ v, e = .returned v ∧ (v = .slice none 0 0 ∧ makeN n = 0 ∧ w = w' ∨ v = .slice (some ⟨w.heap.size, 0, none⟩) (makeN n) (makeN n) ∧ w' = w.alloc (.cells (Array.replicate (makeN n) (.int .u8 0)) 5))) := by
  obtain ⟨n1, n2⟩ := hn
  by_cases h0 : 0 ≤ n
  · by_cases h8 : n ≤ 8192
    · obtain ⟨N, hN⟩ : ∃ N : Nat, (n + 7) / 8 = (N : Int) := ⟨((n + 7) / 8).toNat, by omega⟩
      have hle : N ≤ 1024 := by omega
      have e : Hid (makeN n = N) := show makeN n = N by unfold makeN; rw [if_pos ⟨h0, h8⟩, hN]; rfl
      have hmk := makeRow (P := Try.prog) 45 5 (.int .u8 0) 1 Try.underlying45 info_u8 rfl N (by omega) (by omega)
      go_enter Try.func91, Try.ntmps91
      go_wp2
      go_ret
      exact Po.mk ⟨_, rfl, .inr ⟨by rw [e.out]; rfl, by rw [e.out]⟩⟩
    · have e : Hid (makeN n = 0) := show makeN n = 0 by unfold makeN; rw [if_neg (by omega)]
      go_enter Try.func91, Try.ntmps91
      go_wp2
      go_ret
      exact Po.mk ⟨_, rfl, .inl ⟨rfl, e.out, rfl⟩⟩
  · have e : Hid (makeN n = 0) := show makeN n = 0 by unfold makeN; rw [if_neg (by omega)]
    go_enter Try.func91, Try.ntmps91
    go_wp2
    go_ret
    exact Po.mk ⟨_, rfl, .inl ⟨rfl, e.out, rfl⟩⟩

theorem bitsMake_own (n : Int) (w : World) (hn : IsInt n) :
    Calls Try.prog 91 #[.int .i64 n] w (Po fun e w' => ∃ u, e = .returned u ∧ w'.ownsRow w.heap.size 5 1 u (makeN n) (bv (List.replicate (makeN n) 0)) ∧ Below w.heap.size w w') := by
  refine (bitsMake_any n w hn).mono ?_
  rintro e w' ⟨v, rfl, hv⟩
  refine Po.mk ⟨v, rfl, ?_⟩
  rcases hv with ⟨rfl, h0, rfl⟩ | ⟨rfl, rfl⟩
  · rw [h0]; exact ⟨World.ownsRow_nil _ _ _ _, Below.refl _ _⟩
  · have h := Blk.own (B := w.heap.size) (Blk.new w 5 (bv (List.replicate (makeN n) 0))) (Nat.le_refl _) (by rw [bv_length, List.length_replicate]; have := makeN_le n; unfold maxLen; omega)
    rw [bv_length, List.length_replicate] at h
    have e : (bv (List.replicate (makeN n) 0)).toArray = Array.replicate (makeN n) (Value.int .u8 0) := by simp [bv]
    rw [e] at h
    exact ⟨h, (Below.refl _ _).alloc (Nat.le_refl _) _⟩

def rightB (xs : List Int) (n : Int) : Bool := decide (0 ≤ n ∧ n ≤ 8192 ∧ (xs.length : Int) = (n + 7) / 8 ∧ nextI xs (8 * xs.length) n true < 0)

set_option maxHeartbeats 400000 in
theorem bitsRight_any (v : Value) (xs : List Int) (n : Int) (w : World) (hs : Sl w 0 v (bv xs)) (hb : ∀ x ∈ xs, IsB x) (hn : IsInt n) :
    Calls Try.prog 41 #[v, .int .i64 n] w fun e w' => e = .returned (.bool (rightB xs n)) ∧ w = w' := by
  have HS := Lib.hid hs
  obtain ⟨a, cap, rfl, h1, h2, h3⟩ := hs.bytes
  clear hs h3
  have HB := Lib.hid hb
  clear hb
  have HN := Lib.hid hn
  obtain ⟨n1, n2⟩ := hn
  go_enter Try.func41, Try.ntmps41
  go_wp2_with (first | (go_at_call 97; refine (bitsNext_any _ _ _ _ _ _ HS.out HB.out ⟨by omega, by omega⟩ HN.out).mono ?_; rintro e w' ⟨rfl, rfl⟩))
  all_goals
    go_ret
    refine ⟨ret_bool ?_, rfl⟩
    unfold rightB
    first
      | (symm; rw [decide_eq_false_iff_not]; rintro ⟨a1, a2, a3, a4⟩; omega)
      | (have he : (xs.length : Int) = (n + 7) / 8 := by assumption
         rw [decide_eq_decide, ← he]
         exact ⟨fun h => ⟨by assumption, by assumption, rfl, h⟩, fun h => h.2.2.2⟩)

end Go.Proofs.Ytlkapaecaeldpaa
