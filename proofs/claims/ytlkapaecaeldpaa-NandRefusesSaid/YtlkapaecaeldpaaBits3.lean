/-
  The walks of package bits, third part: each, Count, List.
-/
import Derived.Test.YtlkapaecaeldpaaBits2
set_option linter.unusedVariables false
set_option linter.unusedSimpArgs false
set_option maxRecDepth 16384
namespace Go.Proofs.Ytlkapaecaeldpaa
open Go.RowKit

/-- how many of the first k bits are on -/
def cntB (xs : List Int) : Nat → Int
  | 0 => 0
  | k + 1 => cntB xs k + (if getB xs k then 1 else 0)
theorem cntB_le (xs : List Int) : ∀ k, 0 ≤ cntB xs k ∧ cntB xs k ≤ k
  | 0 => by simp [cntB]
  | k + 1 => by have := cntB_le xs k; simp only [cntB]; split <;> omega
/-- which of the first k bits are on -/
def lstB (xs : List Int) : Nat → List Int
  | 0 => []
  | k + 1 => lstB xs k ++ (if getB xs k then [(k : Int)] else [])
theorem lstB_length (xs : List Int) : ∀ k, ((lstB xs k).length : Int) = cntB xs k
  | 0 => by simp [cntB, lstB]
  | k + 1 => by have := lstB_length xs k; simp only [cntB, lstB, List.length_append]; split <;> simp <;> omega

set_option maxHeartbeats 400000 in
theorem bitsCount1_any (i c : Int) (p : Nat) (w : World) (hp : Blk w p 3 [.int .i64 c]) (hc : 0 ≤ c ∧ c ≤ 1000000000000) :
    Calls Try.prog 99 #[.int .i64 i, .pointer (some ⟨p, 0, none⟩)] w fun e w' => e = .returned (.tuple #[]) ∧ w' = w.setCell ⟨p, 0, none⟩ (.int .i64 (c + 1)) := by
  obtain ⟨hc1, hc2⟩ := hc
  have h1 : w.cell? ⟨p, 0, none⟩ = some (.int .i64 c) := by rw [hp.cell]; rfl
  have h2 := hp.free 0
  clear hp
  go_enter Try.func99, Try.ntmps99
  go_wp2
  go_end0
  exact ⟨rfl, rfl⟩

theorem Blk.get {w : World} {g : Nat} {t : TypeId} {xs ys : List Value} (h : Blk w g t xs) (e : xs = ys) : Blk w g t ys := e ▸ h

set_option maxHeartbeats 1000000 in
theorem bitsEachCount (v : Value) (xs : List Int) (p : Nat) (w0 w : World) (hs : Sl w0 0 v (bv xs)) (hb : ∀ x ∈ xs, IsB x) (hl : xs.length ≤ 1000000) (hp : Blk w p 3 [.int .i64 0])
    (hw : Below w0.heap.size w0 w) (hd : w0.heap.size ≤ p) :
    Calls Try.prog 98 #[v, .func (Fn.func 99) #[] #[.pointer (some ⟨p, 0, none⟩)]] w (Po fun e w' => e = .returned (.tuple #[]) ∧ Blk w' p 3 [.int .i64 (cntB xs (8 * xs.length))] ∧ Below w0.heap.size w0 w') := by
  have HS := Lib.hid hs
  obtain ⟨a, cap, rfl, h1, h2, h3⟩ := hs.bytes
  clear hs h3
  have HB := Lib.hid hb
  clear hb
  have HP := Lib.hid hp
  clear hp
  have HW := Lib.hid hw
  clear hw
  go_enter Try.func98, Try.ntmps98
  go_wp2
  go_loopw [4, 8] (fun _ t wr => ∃ k : Nat, k ≤ 8 * xs.length ∧ t = .int .i64 k ∧ Hid (Blk wr p 3 [.int .i64 (cntB xs k)]) ∧ Hid (Below w0.heap.size w0 wr)) (fun _ t _ => (8 * (xs.length : Int) - intOf t).toNat)
  case atStart => exact ⟨0, Nat.zero_le _, rfl, HP.out, HW.out⟩
  case round =>
    obtain ⟨k, hk, rfl, HP1, HW1⟩ := hrel
    by_cases hlt : k < 8 * xs.length
    · have hc := cntB_le xs k
      by_cases hg : getB xs k = true
      · go_wp2_with (first | (go_at_call 38; refine (bitsGet_any _ _ _ _ (HS.out.below HW1.out) HB.out ⟨by omega, by omega⟩).mono ?_; rintro e w' ⟨rfl, rfl⟩) | (go_at_call 99; refine (bitsCount1_any _ _ _ _ HP1.out ⟨by omega, by omega⟩).mono ?_; rintro e w' ⟨rfl, rfl⟩))
        go_roundw
        case rel =>
          refine ⟨k + 1, by omega, by go_num, (HP1.out.set 0 _).get ?_, HW1.out.setCell hd _⟩
          simp only [List.set_cons_zero, cntB, if_pos hg]
        case measure => simp [intOf]; omega
      · have hg : getB xs k = false := by simpa using hg
        go_wp2_with (first | (go_at_call 38; refine (bitsGet_any _ _ _ _ (HS.out.below HW1.out) HB.out ⟨by omega, by omega⟩).mono ?_; rintro e w' ⟨rfl, rfl⟩))
        go_roundw
        case rel =>
          refine ⟨k + 1, by omega, by go_num, HP1.out.get ?_, HW1.out⟩
          simp [cntB, hg]
        case measure => simp [intOf]; omega
    · obtain rfl : k = 8 * xs.length := by omega
      go_wp2
      go_end0
      exact Po.mk ⟨rfl, HP1.out, HW1.out⟩

set_option maxHeartbeats 400000 in
theorem bitsCount_any (v : Value) (xs : List Int) (w : World) (hs : Sl w 0 v (bv xs)) (hb : ∀ x ∈ xs, IsB x) (hl : xs.length ≤ 1000000) :
    Calls Try.prog 42 #[v] w fun e w' => e = .returned (.int .i64 (cntB xs (8 * xs.length))) ∧ Below w.heap.size w w' := by
  have hn := Blk.new w 3 [.int .i64 0]
  have HN := Lib.hid hn
  clear hn
  have hbl : Below w.heap.size w (w.alloc (.cells #[.int .i64 0] 3)) := (Below.refl _ _).alloc (Nat.le_refl _) _
  have HL := Lib.hid hbl
  clear hbl
  go_enter Try.func42, Try.ntmps42
  go_wp2_with (first | (go_at_call 98; refine (bitsEachCount _ xs w.heap.size w _ hs hb hl HN.out HL.out (Nat.le_refl _)).mono ?_; rintro e w1 ⟨rfl, hp, hw⟩; have hc : w1.cell? ⟨w.heap.size, 0, none⟩ = some (.int .i64 (cntB xs (8 * xs.length))) := (by rw [hp.cell]; rfl); have HP := Lib.hid hp; have HW := Lib.hid hw; clear hp hw))
  go_ret
  exact ⟨rfl, HW.out⟩

theorem info_int : (Try.prog.info? 3).map (fun i => (i.zero, i.size, i.bytes)) = some (some (.int .i64 0), 1, 8) := by kernel_rfl

theorem lstB_le (xs : List Int) (k : Nat) : (lstB xs k).length ≤ k := by have := lstB_length xs k; have := cntB_le xs k; omega


end Go.Proofs.Ytlkapaecaeldpaa
