/-
  The walks of the laws over package bits, second part.
-/
import Derived.Test.YtbeahoimefnofaaLaw04
set_option linter.unusedVariables false
set_option linter.unusedSimpArgs false
namespace Go.Proofs.Ytbeahoimefnofaa
open Go.RowKit

set_option maxHeartbeats 1000000 in
theorem bitsListsWalk (a0 : Option Addr) (len0 cap0 : Nat) (z0 : List Int) (w : World) (w0 : IsRow .u8 w a0 len0 cap0 z0) :
    Calls Try.prog 12 #[.slice a0 len0 cap0] w fun e w' => e = .returned (.bool true) ∧ Below w.heap.size w w' := by
  by_cases hl : 3000 < len0
  · have hl2 := w0.len_le
    clear w0
    go_enter Try.func12, Try.ntmps12
    go_wp2_with (first | (go_at_call 15; refine (awake04_any _).mono ?_; rintro e w1 ⟨rfl, hb1⟩; have HB1 := Lib.hid hb1; clear hb1))
    go_ret
    exact ⟨rfl, HB1.out⟩
  obtain ⟨hs, hlen, hwf⟩ := w0.sl (by omega)
  have hb : ∀ x ∈ z0.take len0, IsB x := fun x hx => wf_u8 (hwf x hx)
  generalize z0.take len0 = xs at *
  subst hlen
  clear w0 hwf
  have HS : Hid (Sl w 0 (.slice a0 xs.length cap0) (bv xs)) := hs
  have HB := Lib.hid hb
  clear hs hb
  have hlb := lstB_le xs (8 * xs.length)
  go_enter Try.func12, Try.ntmps12
  (go_wp2_with fail); refine (awake04_any _).mono ?_; rintro e w' ⟨rfl, hb1⟩
  have HB1 := Lib.hid hb1
  clear hb1
  (go_wp2_with fail); refine (bitsList_any _ xs _ (HS.out.below HB1.out) HB.out (by omega)).mono ?_
  rintro e w2 ⟨u, rfl, ho, hb2⟩
  obtain ⟨ua, ucap, rfl⟩ := own_slice ho
  have HU := Lib.hid (Sl.of_own ho (by rw [iv_length]; omega))
  have HB2 := Lib.hid (HB1.out.trans (hb2.mono HB1.out.size))
  clear hb2 ho
  (go_wp2_with fail); refine (refList_any _ xs _ (HS.out.below HB2.out) HB.out (by omega)).mono ?_
  rintro e w3 ⟨u, rfl, ho, hb3⟩
  obtain ⟨ub, ucap2, rfl⟩ := own_slice ho
  have HV := Lib.hid (Sl.of_own ho (by rw [iv_length]; omega))
  have HU3 := Lib.hid (HU.out.below hb3)
  have HB3 := Lib.hid (HB2.out.trans (hb3.mono HB2.out.size))
  clear hb3 ho
  (go_wp2_with fail); refine (refSame_any _ _ _ _ _ (HU3.out.mono (Nat.zero_le _)) (HV.out.mono (Nat.zero_le _))).mono ?_
  rintro e w4 ⟨rfl, hb4⟩
  have HB4 := Lib.hid (HB3.out.trans (hb4.mono HB3.out.size))
  clear hb4
  have hsame : sameB (lstB xs (8 * xs.length)) (lstB xs (8 * xs.length)) = true := by simp [sameB]
  (go_wp2_with fail); refine (bitsCount_any _ xs _ (HS.out.below HB4.out) HB.out (by omega)).mono ?_
  rintro e w5 ⟨rfl, hb5⟩
  have HB5 := Lib.hid (HB4.out.trans (hb5.mono HB4.out.size))
  clear hb5
  (go_wp2_with fail); refine (refCount_any _ xs _ (HS.out.below HB5.out) HB.out (by omega)).mono ?_
  rintro e w6 ⟨rfl, hb6⟩
  have HB6 := Lib.hid (HB5.out.trans (hb6.mono HB5.out.size))
  clear hb6
  go_wp2
  go_ret
  exact ⟨ret_bool (by simp), HB6.out⟩

set_option maxHeartbeats 1000000 in
theorem bitsNextWalk (a0 : Option Addr) (len0 cap0 : Nat) (z0 : List Int) (n fr : Int) (on : Bool) (w : World) (w0 : IsRow .u8 w a0 len0 cap0 z0) (hi : ∀ m ∈ [n, fr], IsInt m) :
    Calls Try.prog 8 #[.slice a0 len0 cap0, .agg #[.int .i64 n, .int .i64 fr], .bool on] w fun e w' => e = .returned (.bool true) ∧ Below w.heap.size w w' := by
  have HI1 := Lib.hid (hi n (by simp))
  have HI2 := Lib.hid (hi fr (by simp))
  clear hi
  by_cases hl : 3000 < len0
  · have hl2 := w0.len_le
    clear w0
    go_enter Try.func8, Try.ntmps8
    (go_wp2_with fail); refine (awake04_any _).mono ?_; rintro e w' ⟨rfl, hb1⟩
    have HB1 := Lib.hid hb1
    clear hb1
    go_wp2
    go_ret
    exact ⟨rfl, ((Below.refl _ _).alloc (Nat.le_refl _) _).trans (HB1.out.mono (by simp))⟩
  obtain ⟨hs, hlen, hwf⟩ := w0.sl (by omega)
  have hb : ∀ x ∈ z0.take len0, IsB x := fun x hx => wf_u8 (hwf x hx)
  generalize z0.take len0 = xs at *
  subst hlen
  clear w0 hwf
  have HS : Hid (Sl w 0 (.slice a0 xs.length cap0) (bv xs)) := hs
  have HB := Lib.hid hb
  clear hs hb
  have HA := Lib.hid ((Below.refl w.heap.size w).alloc (Nat.le_refl _) (.cells #[.int .i64 n, .int .i64 fr] 39))
  go_enter Try.func8, Try.ntmps8
  (go_wp2_with fail); refine (awake04_any _).mono ?_; rintro e w' ⟨rfl, hb1⟩
  have hlt : w.heap.size < w'.heap.size := by have := hb1.size; simp at this; omega
  have hc0 : w'.cell? ⟨w.heap.size, 0, none⟩ = some (.int .i64 n) := (hb1.cell (p := ⟨w.heap.size, 0, none⟩) (by simp)).trans (by simp)
  have hc1 : w'.cell? ⟨w.heap.size, 1, none⟩ = some (.int .i64 fr) := (hb1.cell (p := ⟨w.heap.size, 1, none⟩) (by simp)).trans (by simp)
  have HC0 := Lib.hid hc0
  have HC1 := Lib.hid hc1
  have HB1 := Lib.hid (HA.out.trans (hb1.mono HA.out.size))
  clear hb1
  go_wp2
  go_region_held3 (fun w' => w'.cell? ⟨w.heap.size, 0, none⟩ = some (.int .i64 n) ∧ w'.cell? ⟨w.heap.size, 1, none⟩ = some (.int .i64 fr)) (go_keep) (first | ((go_at_call 24; refine (bitsNext_any _ xs n fr on _ (HS.out.below (below_drewN HB1.out 1)) HB.out HI1.out HI2.out).mono ?_; rintro e w' ⟨rfl, rfl⟩)) | ((go_at_call 25; refine (refNext_any _ xs n fr on _ (HS.out.below (below_drewN HB1.out 1)) HB.out HI1.out HI2.out).mono ?_; rintro e w2 ⟨rfl, hb2⟩; have k0 := (hb2.cell (p := ⟨w.heap.size, 0, none⟩) hlt).trans HC0.out; have k1 := (hb2.cell (p := ⟨w.heap.size, 1, none⟩) hlt).trans HC1.out)))
  go_wp2
  go_ret
  exact ⟨ret_bool (by simp), HB1.out.drew.trans (hb2.mono HB1.out.size)⟩

/-- the first k bytes turned -/
def flipL (ys : List Int) (k : Nat) : List Int := (ys.take k).map (255 - ·) ++ ys.drop k
theorem flipL_length (ys : List Int) (k : Nat) : (flipL ys k).length = ys.length := by simp [flipL]; omega
theorem flipL_get {ys : List Int} {k : Nat} (h : k < ys.length) : (flipL ys k).getD k 0 = ys.getD k 0 := by
  unfold flipL
  rw [List.getD_eq_getElem?_getD, List.getElem?_append_right (by simp; omega)]
  simp
  rw [Nat.min_eq_left (by omega), Nat.sub_self, Nat.add_zero]
theorem flipL_step {ys : List Int} {k : Nat} (h : k < ys.length) : (flipL ys k).set k (255 - ys.getD k 0) = flipL ys (k + 1) := by
  unfold flipL
  rw [List.set_append_right _ _ (by simp; omega)]
  rw [List.take_succ_eq_append_getElem h, List.map_append, List.append_assoc]
  congr 1
  conv => lhs; rw [List.drop_eq_getElem_cons h]
  have e : k - (List.map (fun x => 255 - x) (List.take k ys)).length = 0 := by simp; omega
  rw [e, List.set_cons_zero]
  simp [h]
theorem flipL_all {ys : List Int} {j : Nat} (h : j < ys.length) : (flipL ys ys.length).getD j 0 = 255 - ys.getD j 0 := by
  simp [flipL, h]

theorem xor_nat : ∀ x : Fin 256, ((x.val ^^^ 255 : Nat) : Int) = 255 - x.val := by decide +kernel
theorem xor_255 {x : Int} (hx : IsB x) : bits BinOp.xor IntKind.u8 x 255 = 255 - x := by
  obtain ⟨n, rfl⟩ := Int.eq_ofNat_of_zero_le hx.1
  have hn : n < 256 := by have := hx.2; omega
  exact (u8_xor_nat n 255 hn (by decide)).trans (xor_nat ⟨n, hn⟩)

set_option maxHeartbeats 1000000 in
theorem bitsOwnWalk (a0 : Option Addr) (len0 cap0 : Nat) (z0 : List Int) (i : Int) (on : Bool) (w : World) (w0 : IsRow .u8 w a0 len0 cap0 z0) (w1 : (Lit.int .i64 i).wf = true) :
    Calls Try.prog 3 #[.slice a0 len0 cap0, .int .i64 i, .bool on] w fun e w' => e = .returned (.bool true) ∧ Below w.heap.size w w' := by
  have HI := Lib.hid (wf_i64 w1)
  clear w1
  by_cases hl : 3000 < len0
  · have hl2 := w0.len_le
    clear w0
    go_enter Try.func3, Try.ntmps3
    go_wp2_with (first | (go_at_call 15; refine (awake04_any _).mono ?_; rintro e w1 ⟨rfl, hb1⟩; have HB1 := Lib.hid hb1; clear hb1))
    go_ret
    exact ⟨rfl, HB1.out⟩
  obtain ⟨hs, hlen, hwf⟩ := w0.sl (by omega)
  have hb : ∀ x ∈ z0.take len0, IsB x := fun x hx => wf_u8 (hwf x hx)
  generalize z0.take len0 = xs at *
  subst hlen
  clear w0 hwf
  have HS : Hid (Sl w 0 (.slice a0 xs.length cap0) (bv xs)) := hs
  have HB := Lib.hid hb
  clear hs hb
  obtain ⟨i0, hif, hz0, hz1, hz2⟩ := info_parts info_u8
  by_cases hh : 0 ≤ i ∧ i / 8 < xs.length
  · have HH := Lib.hid hh
    clear hh
    have HYB := Lib.hid (setL_isB HB.out i on)
    have HYL := Lib.hid (setL_length xs i on)
    have hpos : 0 < xs.length := by have := HH.out; omega
    go_enter Try.func3, Try.ntmps3
    (go_wp2_with fail); refine (awake04_any _).mono ?_; rintro e w' ⟨rfl, hb1⟩
    rename_i W1
    have HB1 := Lib.hid hb1
    clear hb1
    go_wp2_with (first | (at_builtin; refine wpList_append_sl _ rfl (.tmp 20) (.tmp 21) 22 rfl w'.heap.size 5 i0 (.int .u8 0) 1 Try.underlying22 hif hz0 hz1 hz2 rfl (.slice (some ⟨w'.heap.size, 0, none⟩) 0 0) 0 [] rfl (World.ownsRow_made w' #[] 0 (Nat.le_refl _) (Nat.zero_le _) rfl) 0 _ (bv xs) rfl ?hsl ?h1 ?h63 ?hby ?hba ?K))
    case hsl => exact (HS.out.below HB1.out).below ((Below.refl _ _).alloc (Nat.le_refl _) _)
    case h1 => exact oneCell_bv xs
    case h63 => rw [bv_length]; unfold maxLen; omega
    case hby => rw [bv_length]; omega
    case hba => simp
    case K =>
      intro u1 w2 hown hgrow
      rw [bv_length] at hown
      obtain ⟨g1, cp, rfl⟩ := own_form hown (by omega)
      have hb2 : Below w'.heap.size w' w2 := ((Below.refl _ _).alloc (Nat.le_refl _) (.cells #[] 5)).grown hgrow (by simp) (fun k hk => by simp [Value.ownBlock] at hk; omega)
      have HB2 := Lib.hid (HB1.out.trans (hb2.mono HB1.out.size))
      have HU : Hid (Sl w2 0 (.slice (some ⟨g1, 0, none⟩) xs.length cp) (bv xs)) := (Sl.of_own hown (by rw [bv_length]; omega)).mono (Nat.zero_le _)
      clear hown hgrow hb2
      (go_wp2_with fail); refine (bitsSet_yes _ xs i on _ HU.out HB.out HI.out HH.out).mono ?_
      rintro e w3 ⟨g, rfl, hg, hbk, hb3⟩
      have HK := Lib.hid hbk
      have HG := Lib.hid hg
      have HB3 := Lib.hid hb3
      have hc1 := run_str_sl (P := Try.prog) 22 9 5 Try.underlying22 Try.underlying5 Try.underlying9 (HU.out.below HB3.out)
      have hc2 := run_str_sl (P := Try.prog) 22 9 5 Try.underlying22 Try.underlying5 Try.underlying9 (HS.out.below (HB2.out.trans (HB3.out.mono HB2.out.size)))
      clear hbk hg hb3
      go_wp2
      go_loopw [11] (fun t wr => ∃ k : Nat, k ≤ xs.length ∧ t = .int .i64 k ∧ Hid (Blk wr g 5 (bv (flipL (setL xs i on) k))) ∧ Hid (Below w2.heap.size w2 wr)) (fun t _ => ((xs.length : Int) - intOf t).toNat)
      case atStart => exact ⟨0, Nat.zero_le _, rfl, HK.out.get (by simp [flipL]), HB3.out⟩
      case round =>
        obtain ⟨k, hk, rfl, HK2, HW⟩ := hrel
        by_cases hlt : k < xs.length
        · have hy : k < (setL xs i on).length := by rw [HYL.out]; exact hlt
          have hc : wr.cell? ⟨g, k, none⟩ = some (.int .u8 ((setL xs i on).getD k 0)) := by
            rw [HK2.out.cell, ← flipL_get hy]; simp [bv, flipL_length, hy]
          have hf := HK2.out.free k
          have hx := xor_255 (getD_isB HYB.out k)
          have HY := Lib.hid hy
          clear hy
          generalize hz : (setL xs i on).getD k 0 = z at *
          have HZ := Lib.hid hz
          clear hz
          go_wp2
          go_roundw
          case rel =>
            refine ⟨k + 1, by omega, by go_num, ?_, HW.out.setCell HG.out _⟩
            have h := HK2.out.set k (.int .u8 (255 - z))
            refine h.get ?_
            rw [← flipL_step HY.out, HZ.out]
            simp [bv, List.map_set]
          case measure => simp [intOf]; omega
        · obtain rfl : k = xs.length := by omega
          have hc1 := run_str_sl (P := Try.prog) 22 9 5 Try.underlying22 Try.underlying5 Try.underlying9 (HU.out.below HW.out)
          have hc2 := run_str_sl (P := Try.prog) 22 9 5 Try.underlying22 Try.underlying5 Try.underlying9 (HS.out.below (HB2.out.trans (HW.out.mono HB2.out.size)))
          (go_wp2_with fail); refine (bitsSet_yes _ xs i on _ (HU.out.below HW.out) HB.out HI.out HH.out).mono ?_
          rintro e w4 ⟨g2, rfl, hg2, hbk2, hb4⟩
          have HK4 := Lib.hid (HK2.out.below hb4)
          have HKD := Lib.hid hbk2
          have HB4 := Lib.hid (HB2.out.trans ((HW.out.trans (hb4.mono HW.out.size)).mono HB2.out.size))
          clear hbk2 hg2 hb4
          go_wp2
          go_loopw [14] (fun t wr => ∃ k : Nat, k ≤ xs.length ∧ t = .int .i64 k ∧ Hid (Below w4.heap.size w4 wr)) (fun t _ => ((xs.length : Int) - intOf t).toNat)
          case atStart => exact ⟨0, Nat.zero_le _, rfl, Below.refl _ _⟩
          case round =>
            obtain ⟨k, hk, rfl, HW2⟩ := hrel
            by_cases hlt : k < xs.length
            · have hy : k < (setL xs i on).length := by rw [HYL.out]; exact hlt
              have hc : wr.cell? ⟨g, k, none⟩ = some (.int .u8 (255 - (setL xs i on).getD k 0)) := by
                rw [(HK4.out.below HW2.out).cell, ← flipL_all hy, HYL.out]; simp [bv, flipL_length, hy]
              have hd : wr.cell? ⟨g2, k, none⟩ = some (.int .u8 ((setL xs i on).getD k 0)) := by
                rw [(HKD.out.below HW2.out).cell]; simp [bv, hy]
              have hzb := getD_isB HYB.out k
              generalize (setL xs i on).getD k 0 = z at *
              have hx : bits BinOp.xor IntKind.u8 (255 - z) 255 = z := by rw [xor_255 ⟨by have := hzb.2; omega, by have := hzb.1; omega⟩]; omega
              clear hy hzb
              go_wp2
              go_region
              go_wp2
              go_roundw
              case rel => exact ⟨k + 1, by omega, by go_num, HW2.out.drew⟩
              case measure => simp [intOf]; omega
            · obtain rfl : k = xs.length := by omega
              go_wp2
              go_ret
              exact ⟨ret_bool (by simp), HB4.out.trans (HW2.out.mono HB4.out.size)⟩
  · have HH := Lib.hid hh
    clear hh
    go_enter Try.func3, Try.ntmps3
    (go_wp2_with fail); refine (awake04_any _).mono ?_; rintro e w' ⟨rfl, hb1⟩
    have HB1 := Lib.hid hb1
    clear hb1
    go_wp2_with (first | (at_builtin; refine wpList_append_sl _ rfl (.tmp 20) (.tmp 21) 22 rfl w'.heap.size 5 i0 (.int .u8 0) 1 Try.underlying22 hif hz0 hz1 hz2 rfl (.slice (some ⟨w'.heap.size, 0, none⟩) 0 0) 0 [] rfl (World.ownsRow_made w' #[] 0 (Nat.le_refl _) (Nat.zero_le _) rfl) 0 _ (bv xs) rfl ?hsl ?h1 ?h63 ?hby ?hba ?K))
    case hsl => exact (HS.out.below HB1.out).below ((Below.refl _ _).alloc (Nat.le_refl _) _)
    case h1 => exact oneCell_bv xs
    case h63 => rw [bv_length]; unfold maxLen; omega
    case hby => rw [bv_length]; omega
    case hba => simp
    case K =>
      intro u1 w2 hown hgrow
      rw [bv_length] at hown
      have hb2 : Below w'.heap.size w' w2 := ((Below.refl _ _).alloc (Nat.le_refl _) (.cells #[] 5)).grown hgrow (by simp) (fun k hk => by simp [Value.ownBlock] at hk; omega)
      have HB2 := Lib.hid (HB1.out.trans (hb2.mono HB1.out.size))
      have hown' : w2.ownsRow w'.heap.size 5 1 u1 xs.length (bv xs) := by simpa using hown
      have HU : Hid (Sl w2 0 u1 (bv xs)) := (Sl.of_own hown' (by rw [bv_length]; omega)).mono (Nat.zero_le _)
      obtain ⟨ua, ucap, rfl⟩ := own_slice hown'
      have hc1 := run_str_sl (P := Try.prog) 22 9 5 Try.underlying22 Try.underlying5 Try.underlying9 HU.out
      have hc2 := run_str_sl (P := Try.prog) 22 9 5 Try.underlying22 Try.underlying5 Try.underlying9 (HS.out.below HB2.out)
      clear hown hown' hgrow hb2
      (go_wp2_with fail); refine (bitsSet_no _ _ _ _ _ _ (by omega) HI.out HH.out).mono ?_
      rintro e w3 ⟨rfl, rfl⟩
      go_wp2
      go_loop [11] (fun t => t = .int .i64 0) (fun _ => 0)
      case atStart => rfl
      case round =>
        subst hrel
        (go_wp2_with fail); refine (bitsSet_no _ _ _ _ _ _ (by omega) HI.out HH.out).mono ?_
        rintro e w3 ⟨rfl, rfl⟩
        go_wp2
        go_loop [14] (fun t => t = .int .i64 0) (fun _ => 0)
        case atStart => rfl
        case round =>
          subst hrel
          go_wp2
          go_ret
          exact ⟨ret_bool (by simp), HB2.out⟩

end Go.Proofs.Ytbeahoimefnofaa
