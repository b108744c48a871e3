/-
  The walks of package bits, third part: each, Count, List.
-/
import Derived.Test.YtbfpnpoafepjjaaBits2
set_option linter.unusedVariables false
set_option linter.unusedSimpArgs false
set_option maxRecDepth 16384
namespace Go.Proofs.Ytbfpnpoafepjjaa
open Go.RowKit

/-- how many of the first k bits are on -/
def cntB (xs : List Int) : Nat → Int
  | 0 => 0
  | k + 1 => cntB xs k + (if getB xs k then 1 else 0)
theorem cntB_le (xs : List Int) : ∀ k, 0 ≤ cntB xs k ∧ cntB xs k ≤ k
  | 0 => by simp [cntB]
  | k + 1 => by have := cntB_le xs k; simp only [cntB]; split <;> omega
/-- which of the first k bits are on -/
def lstB (xs : List Int) : Nat → List Int
  | 0 => []
  | k + 1 => lstB xs k ++ (if getB xs k then [(k : Int)] else [])
theorem lstB_length (xs : List Int) : ∀ k, ((lstB xs k).length : Int) = cntB xs k
  | 0 => by simp [cntB, lstB]
  | k + 1 => by have := lstB_length xs k; simp only [cntB, lstB, List.length_append]; split <;> simp <;> omega

set_option maxHeartbeats 400000 in
theorem bitsCount1_any (i c : Int) (p : Nat) (w : World) (hp : Blk w p 3 [.int .i64 c]) (hc : 0 ≤ c ∧ c ≤ 1000000000000) :
    Calls Try.prog 61 #[.int .i64 i, .pointer (some ⟨p, 0, none⟩)] w fun e w' => e = .returned (.tuple #[]) ∧ w' = w.setCell ⟨p, 0, none⟩ (.int .i64 (c + 1)) := by
  obtain ⟨hc1, hc2⟩ := hc
  have h1 : w.cell? ⟨p, 0, none⟩ = some (.int .i64 c) := by rw [hp.cell]; rfl
  have h2 := hp.free 0
  clear hp
  go_enter Try.func61, Try.ntmps61
  go_wp2
  go_end0
  exact ⟨rfl, rfl⟩

theorem Blk.get {w : World} {g : Nat} {t : TypeId} {xs ys : List Value} (h : Blk w g t xs) (e : xs = ys) : Blk w g t ys := e ▸ h

set_option maxHeartbeats 1000000 in
theorem bitsEachCount (v : Value) (xs : List Int) (p : Nat) (w0 w : World) (hs : Sl w0 0 v (bv xs)) (hb : ∀ x ∈ xs, IsB x) (hl : xs.length ≤ 1000000) (hp : Blk w p 3 [.int .i64 0])
    (hw : Below w0.heap.size w0 w) (hd : w0.heap.size ≤ p) :
    Calls Try.prog 59 #[v, .func (Fn.func 61) #[] #[.pointer (some ⟨p, 0, none⟩)]] w (Po fun e w' => e = .returned (.tuple #[]) ∧ Blk w' p 3 [.int .i64 (cntB xs (8 * xs.length))] ∧ Below w0.heap.size w0 w') := by
  have HS := Lib.hid hs
  obtain ⟨a, cap, rfl, h1, h2, h3⟩ := hs.bytes
  clear hs h3
  have HB := Lib.hid hb
  clear hb
  have HP := Lib.hid hp
  clear hp
  have HW := Lib.hid hw
  clear hw
  go_enter Try.func59, Try.ntmps59
  go_wp2
  go_loopw [4, 8] (fun _ t wr => ∃ k : Nat, k ≤ 8 * xs.length ∧ t = .int .i64 k ∧ Hid (Blk wr p 3 [.int .i64 (cntB xs k)]) ∧ Hid (Below w0.heap.size w0 wr)) (fun _ t _ => (8 * (xs.length : Int) - intOf t).toNat)
  case atStart => exact ⟨0, Nat.zero_le _, rfl, HP.out, HW.out⟩
  case round =>
    obtain ⟨k, hk, rfl, HP1, HW1⟩ := hrel
    by_cases hlt : k < 8 * xs.length
    · have hc := cntB_le xs k
      by_cases hg : getB xs k = true
      · go_wp2_with (first | (go_at_call 58; refine (bitsGet_any _ _ _ _ (HS.out.below HW1.out) HB.out ⟨by omega, by omega⟩).mono ?_; rintro e w' ⟨rfl, rfl⟩) | (go_at_call 61; refine (bitsCount1_any _ _ _ _ HP1.out ⟨by omega, by omega⟩).mono ?_; rintro e w' ⟨rfl, rfl⟩))
        go_roundw
        case rel =>
          refine ⟨k + 1, by omega, by go_num, (HP1.out.set 0 _).get ?_, HW1.out.setCell hd _⟩
          simp only [List.set_cons_zero, cntB, if_pos hg]
        case measure => simp [intOf]; omega
      · have hg : getB xs k = false := by simpa using hg
        go_wp2_with (first | (go_at_call 58; refine (bitsGet_any _ _ _ _ (HS.out.below HW1.out) HB.out ⟨by omega, by omega⟩).mono ?_; rintro e w' ⟨rfl, rfl⟩))
        go_roundw
        case rel =>
          refine ⟨k + 1, by omega, by go_num, HP1.out.get ?_, HW1.out⟩
          simp [cntB, hg]
        case measure => simp [intOf]; omega
    · obtain rfl : k = 8 * xs.length := by omega
      go_wp2
      go_end0
      exact Po.mk ⟨rfl, HP1.out, HW1.out⟩

set_option maxHeartbeats 400000 in
theorem bitsCount_any (v : Value) (xs : List Int) (w : World) (hs : Sl w 0 v (bv xs)) (hb : ∀ x ∈ xs, IsB x) (hl : xs.length ≤ 1000000) :
    Calls Try.prog 26 #[v] w fun e w' => e = .returned (.int .i64 (cntB xs (8 * xs.length))) ∧ Below w.heap.size w w' := by
  have hn := Blk.new w 3 [.int .i64 0]
  have HN := Lib.hid hn
  clear hn
  have hbl : Below w.heap.size w (w.alloc (.cells #[.int .i64 0] 3)) := (Below.refl _ _).alloc (Nat.le_refl _) _
  have HL := Lib.hid hbl
  clear hbl
  go_enter Try.func26, Try.ntmps26
  go_wp2_with (first | (go_at_call 59; refine (bitsEachCount _ xs w.heap.size w _ hs hb hl HN.out HL.out (Nat.le_refl _)).mono ?_; rintro e w1 ⟨rfl, hp, hw⟩; have hc : w1.cell? ⟨w.heap.size, 0, none⟩ = some (.int .i64 (cntB xs (8 * xs.length))) := (by rw [hp.cell]; rfl); have HP := Lib.hid hp; have HW := Lib.hid hw; clear hp hw))
  go_ret
  exact ⟨rfl, HW.out⟩

theorem info_int : (Try.prog.info? 3).map (fun i => (i.zero, i.size, i.bytes)) = some (some (.int .i64 0), 1, 8) := by kernel_rfl

set_option maxHeartbeats 400000 in
theorem bitsList1_any (i : Int) (p n : Nat) (v : Value) (xs : List Value) (w : World) (hp : Blk w p 24 [v]) (ho : w.ownsRow (p + 1) 3 1 v n xs) (hn : n ≤ 1000000000000) :
    Calls Try.prog 60 #[.int .i64 i, .pointer (some ⟨p, 0, none⟩)] w (Po fun e w' => e = .returned (.tuple #[]) ∧ ∃ v', Blk w' p 24 [v'] ∧ w'.ownsRow (p + 1) 3 1 v' (n + 1) (xs ++ [.int .i64 i]) ∧ Below p w w') := by
  have h1 : w.cell? ⟨p, 0, none⟩ = some v := by rw [hp.cell]; rfl
  have hlt := hp.lt
  have HP := Lib.hid hp
  have HO := Lib.hid ho
  clear hp ho
  obtain ⟨i0, hi, hz0, hz1, hz2⟩ := info_parts info_int
  go_enter Try.func60, Try.ntmps60
  go_wp2_with (first | (at_builtin; refine wpList_append_own_at _ rfl (.tmp 3) (.tmp 5) 24 rfl (p + 1) 3 i0 (.int .i64 0) 1 8 Try.underlying24 hi hz0 hz1 hz2 rfl (by decide) v n xs rfl (HO.out.alloc _) ⟨w.heap.size, 0, none⟩ 1 1 [.int .i64 i] rfl rfl ?c1 ?c2 ?c3 ?c4 ?c5 ?K))
  case c1 => exact cell_one_new _ _ _
  case c2 => exact oneCell_one _ _
  case c3 => unfold maxLen; omega
  case c4 => omega
  case c5 => simp; omega
  case K =>
    intro v1 w1 hown hgrow hnil hat
    clear hat hnil
    obtain ⟨g, cp, rfl⟩ := own_form hown (by omega)
    have hp1 := (HP.out.alloc (.cells #[Value.int IntKind.i64 i] 3)).grown hgrow (own_ne HO.out (by omega))
    have h2 : w1.cell? ⟨p, 0, none⟩ = some v := by rw [hp1.cell]; rfl
    have h3 := hp1.free 0
    have hb1 := below_grown (B := p) ((Below.refl p w).alloc (by omega) (.cells #[Value.int IntKind.i64 i] 3)) (HO.out.alloc _) hgrow (by simp; omega) (by omega)
    have HP1 := Lib.hid hp1
    have HB1 := Lib.hid hb1
    have HO1 := Lib.hid hown
    clear hp1 hb1 hown hgrow
    go_wp2
    go_end0
    exact Po.mk ⟨rfl, _, HP1.out.set 0 _, ownsRow_setCell_below HO1.out (by show p < p + 1; omega) _, HB1.out.setCell (Nat.le_refl _) _⟩

theorem lstB_le (xs : List Int) (k : Nat) : (lstB xs k).length ≤ k := by have := lstB_length xs k; have := cntB_le xs k; omega

set_option maxHeartbeats 1000000 in
theorem bitsEachList (v : Value) (xs : List Int) (p : Nat) (w0 w : World) (hs : Sl w0 0 v (bv xs)) (hb : ∀ x ∈ xs, IsB x) (hl : xs.length ≤ 1000000) (hp : Blk w p 24 [.slice none 0 0])
    (hw : Below w0.heap.size w0 w) (hd : w0.heap.size ≤ p) :
    Calls Try.prog 59 #[v, .func (Fn.func 60) #[] #[.pointer (some ⟨p, 0, none⟩)]] w (Po fun e w' => e = .returned (.tuple #[]) ∧ Below w0.heap.size w0 w' ∧ ∃ u, Blk w' p 24 [u] ∧ w'.ownsRow (p + 1) 3 1 u (lstB xs (8 * xs.length)).length (iv (lstB xs (8 * xs.length)))) := by
  have HS := Lib.hid hs
  obtain ⟨a, cap, rfl, h1, h2, h3⟩ := hs.bytes
  clear hs h3
  have HB := Lib.hid hb
  clear hb
  have HP := Lib.hid hp
  clear hp
  have HW := Lib.hid hw
  clear hw
  go_enter Try.func59, Try.ntmps59
  go_wp2
  go_loopw [4, 8] (fun _ t wr => ∃ k : Nat, k ≤ 8 * xs.length ∧ t = .int .i64 k ∧ Hid (∃ u, Blk wr p 24 [u] ∧ wr.ownsRow (p + 1) 3 1 u (lstB xs k).length (iv (lstB xs k))) ∧ Hid (Below w0.heap.size w0 wr)) (fun _ t _ => (8 * (xs.length : Int) - intOf t).toNat)
  case atStart => exact ⟨0, Nat.zero_le _, rfl, ⟨_, HP.out, World.ownsRow_nil _ _ _ _⟩, HW.out⟩
  case round =>
    obtain ⟨k, hk, rfl, hrow, HW1⟩ := hrel
    obtain ⟨u, hp1, ho1⟩ := hrow.out
    have HP1 := Lib.hid hp1
    have HO1 := Lib.hid ho1
    clear hrow hp1 ho1
    by_cases hlt : k < 8 * xs.length
    · have hc := lstB_le xs k
      by_cases hg : getB xs k = true
      · go_wp2_with (first | (go_at_call 58; refine (bitsGet_any _ _ _ _ (HS.out.below HW1.out) HB.out ⟨by omega, by omega⟩).mono ?_; rintro e w' ⟨rfl, rfl⟩) | (go_at_call 60; refine (bitsList1_any _ _ _ _ _ _ HP1.out HO1.out (by omega)).mono ?_; rintro e w2 ⟨rfl, hrow2⟩; have HR2 := Lib.hid hrow2; clear hrow2))
        obtain ⟨u2, hp2, ho2, hb2⟩ := HR2.out
        have HP2 := Lib.hid hp2
        have HO2 := Lib.hid ho2
        have HB2 := Lib.hid hb2
        clear hp2 ho2 hb2
        go_roundw
        case rel =>
          refine ⟨k + 1, by omega, by go_num, ⟨u2, HP2.out, ?_⟩, HW1.out.trans (HB2.out.mono hd)⟩
          have h := HO2.out
          rw [show lstB xs (k + 1) = lstB xs k ++ [(k : Int)] from by simp only [lstB, if_pos hg]]
          simpa [iv] using h
        case measure => simp [intOf]; omega
      · have hg : getB xs k = false := by simpa using hg
        go_wp2_with (first | (go_at_call 58; refine (bitsGet_any _ _ _ _ (HS.out.below HW1.out) HB.out ⟨by omega, by omega⟩).mono ?_; rintro e w' ⟨rfl, rfl⟩))
        go_roundw
        case rel =>
          refine ⟨k + 1, by omega, by go_num, ⟨u, HP1.out, ?_⟩, HW1.out⟩
          rw [show lstB xs (k + 1) = lstB xs k from by simp [lstB, hg]]
          exact HO1.out
        case measure => simp [intOf]; omega
    · obtain rfl : k = 8 * xs.length := by omega
      go_wp2
      go_end0
      exact Po.mk ⟨rfl, HW1.out, u, HP1.out, HO1.out⟩

set_option maxHeartbeats 400000 in
theorem bitsList_any (v : Value) (xs : List Int) (w : World) (hs : Sl w 0 v (bv xs)) (hb : ∀ x ∈ xs, IsB x) (hl : xs.length ≤ 1000000) :
    Calls Try.prog 25 #[v] w (Po fun e w' => ∃ u, e = .returned u ∧ w'.ownsRow (w.heap.size + 1) 3 1 u (lstB xs (8 * xs.length)).length (iv (lstB xs (8 * xs.length))) ∧ Below w.heap.size w w') := by
  have hn := Blk.new w 24 [.slice none 0 0]
  have HN := Lib.hid hn
  clear hn
  have hbl : Below w.heap.size w (w.alloc (.cells #[.slice none 0 0] 24)) := (Below.refl _ _).alloc (Nat.le_refl _) _
  have HL := Lib.hid hbl
  clear hbl
  go_enter Try.func25, Try.ntmps25
  go_wp2_with (first | (go_at_call 59; refine (bitsEachList _ xs w.heap.size w _ hs hb hl HN.out HL.out (Nat.le_refl _)).mono ?_; rintro e w1 ⟨rfl, hw, u, hp, ho⟩; have hc : w1.cell? ⟨w.heap.size, 0, none⟩ = some u := (by rw [hp.cell]; rfl); have HO := Lib.hid ho; have HW := Lib.hid hw; clear hp hw ho))
  go_ret
  exact Po.mk ⟨_, rfl, HO.out, HW.out⟩

end Go.Proofs.Ytbfpnpoafepjjaa
