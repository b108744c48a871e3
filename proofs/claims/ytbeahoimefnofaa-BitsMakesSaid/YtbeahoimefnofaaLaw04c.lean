/-
  The walks of the laws over package bits, BitsMakes.
-/
import Derived.Test.YtbeahoimefnofaaLaw04b
set_option linter.unusedVariables false
set_option linter.unusedSimpArgs false
namespace Go.Proofs.Ytbeahoimefnofaa
open Go.RowKit

set_option maxHeartbeats 8000000 in
theorem bitsMakesWalk (a0 : Option Addr) (len0 cap0 : Nat) (z0 : List Int) (n : Int) (w : World) (w0 : IsRow .u8 w a0 len0 cap0 z0) (w1 : (Lit.int .i64 n).wf = true) :
    Calls Try.prog 11 #[.slice a0 len0 cap0, .int .i64 n] w fun e w' => e = .returned (.bool true) ∧ Below w.heap.size w w' := by
  have HI := Lib.hid (wf_i64 w1)
  clear w1
  by_cases hl : 3000 < len0
  · have hl2 := w0.len_le
    clear w0
    go_enter Try.func11, Try.ntmps11
    go_wp2_with (first | (go_at_call 15; refine (awake04_any _).mono ?_; rintro e w1 ⟨rfl, hb1⟩; have HB1 := Lib.hid hb1; clear hb1))
    go_ret
    exact ⟨rfl, HB1.out⟩
  obtain ⟨hs, hlen, hwf⟩ := w0.sl (by omega)
  have hb : ∀ x ∈ z0.take len0, IsB x := fun x hx => wf_u8 (hwf x hx)
  generalize z0.take len0 = xs at *
  subst hlen
  clear w0 hwf
  have HS : Hid (Sl w 0 (.slice a0 xs.length cap0) (bv xs)) := hs
  have HB := Lib.hid hb
  clear hs hb
  have hmk := makeN_le n
  go_enter Try.func11, Try.ntmps11
  (go_wp2_with fail); refine (awake04_any _).mono ?_; rintro e w' ⟨rfl, hb1⟩
  have HB1 := Lib.hid hb1
  clear hb1
  go_wp2
  go_region_with (first
    | (go_at_call 33; refine (bitsMake_own n _ HI.out).mono ?_; rintro e w2 ⟨u, rfl, ho, hb2⟩; have hc2 := own_str (P := Try.prog) Try.underlying22 Try.underlying5 Try.underlying9 ho (by omega); have HO2 := Lib.hid ho; have HB2 := Lib.hid (HB1.out.drew.trans (hb2.mono HB1.out.size)); clear hb2 ho)
    | (go_at_call 34; refine (refMake_any n _ HI.out).mono ?_; rintro e w3 ⟨u3, rfl, ho, hb3⟩; have hc3 := own_str (P := Try.prog) Try.underlying22 Try.underlying5 Try.underlying9 ho (by omega); have hc4 := own_str (P := Try.prog) Try.underlying22 Try.underlying5 Try.underlying9 (own_below HO2.out hb3) (by omega); have HB3 := Lib.hid (HB2.out.trans (hb3.mono HB2.out.size)); clear hb3 ho)
    | (go_at_call 35; refine (bitsRight_any _ xs n _ (HS.out.below HB3.out) HB.out HI.out).mono ?_; rintro e w4 ⟨rfl, rfl⟩)
    | (go_at_call 36; refine (refRight_any _ xs n _ (HS.out.below HB3.out) HB.out HI.out).mono ?_; rintro e w5 ⟨rfl, hb5⟩; have HB5 := Lib.hid (HB3.out.trans (hb5.mono HB3.out.size)); clear hb5))
  all_goals
    go_wp2
    go_ret
    exact ⟨rfl, HB5.out⟩

end Go.Proofs.Ytbeahoimefnofaa
