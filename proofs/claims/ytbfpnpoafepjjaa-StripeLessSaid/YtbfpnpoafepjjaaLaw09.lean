/-
  The walks of the laws over package stripe.
-/
import Derived.Test.YtbfpnpoafepjjaaRef09
set_option linter.unusedVariables false
set_option linter.unusedSimpArgs false
set_option maxRecDepth 16384
namespace Go.Proofs.Ytbfpnpoafepjjaa
open Go.RowKit

theorem awake09_spot : Geo.spotU ⟨2, 1, 1, 3, 1⟩ 3 = 1 ∧ Geo.spotP ⟨2, 1, 1, 3, 1⟩ 3 = 1 ∧ Geo.spotE ⟨2, 1, 1, 3, 1⟩ 3 = 0 := by decide +kernel
theorem awake09_next : Geo.nxt ⟨2, 1, 1, 3, 1⟩ [1] 1 = 2 := by decide +kernel

set_option maxHeartbeats 1000000 in
theorem awake09_any (w : World) :
    Calls Try.prog 15 #[] w fun e w' => e = .returned (.bool true) ∧ Below w.heap.size w w' := by
  go_enter Try.func15, Try.ntmps15
  have hwf : Geo.Wf ⟨2, 1, 1, 3, 1⟩ := ⟨⟨by decide, by decide⟩, ⟨by decide, by decide⟩, ⟨by decide, by decide⟩, ⟨by decide, by decide⟩, ⟨by decide, by decide⟩⟩
  have HW := Lib.hid hwf
  clear hwf
  have HG := Lib.hid (Blk.new w 23 [.int .i64 2, .int .i64 1, .int .i64 1, .int .i64 3, .int .i64 1])
  have HA := Lib.hid awake09_spot
  have HA2 := Lib.hid awake09_next
  (go_wp2_with fail); refine (stripeSpot_any ⟨2, 1, 1, 3, 1⟩ 3 _ HW.out ⟨by decide, by decide⟩).mono ?_
  rintro e w1 ⟨rfl, hb⟩
  rw [HA.out.1, HA.out.2.1, HA.out.2.2]
  have hk := HG.out.below hb
  have k0 : w1.cell? ⟨w.heap.size, 0, none⟩ = some (.int .i64 2) := hk.cell 0
  have k1 : w1.cell? ⟨w.heap.size, 1, none⟩ = some (.int .i64 1) := hk.cell 1
  have k2 : w1.cell? ⟨w.heap.size, 2, none⟩ = some (.int .i64 1) := hk.cell 2
  have k3 : w1.cell? ⟨w.heap.size, 3, none⟩ = some (.int .i64 3) := hk.cell 3
  have k4 : w1.cell? ⟨w.heap.size, 4, none⟩ = some (.int .i64 1) := hk.cell 4
  have hlt := hk.lt
  have HB1 := Lib.hid (((Below.refl w.heap.size w).alloc (Nat.le_refl _) _).trans (hb.mono (by simp)))
  clear hb hk
  have HS := Lib.hid ((Blk.new w1 3 (iv [1])).sl (Nat.zero_le _) (by simp [iv]))
  (go_wp2_with fail); refine (stripeNext_any ⟨2, 1, 1, 3, 1⟩ _ [1] 1 _ HW.out HS.out ⟨by decide, by decide⟩).mono ?_
  rintro e w2 ⟨rfl, hb⟩
  rw [HA2.out]
  have HB2 := Lib.hid ((HB1.out.alloc HB1.out.size _).trans (hb.mono (by have := HB1.out.size; simp; omega)))
  clear hb
  go_wp2
  go_ret
  exact ⟨rfl, HB2.out⟩

/-- how many pages are left: by Next, again and again -/
theorem Geo.nxt_cases (g : Geo) (xs : List Int) (k : Int) (hk : 0 ≤ k) : (g.alv xs k = [] ∧ g.nxt xs k = -1) ∨ ∃ j : Nat, k ≤ j ∧ j < 256 ∧ g.nxt xs k = j ∧ g.alv xs k = (j : Int) :: g.alv xs (j + 1) := by
  unfold Geo.nxt Geo.alv
  by_cases hok : g.okB = true
  · have hp := Geo.pgs_le hok
    rw [if_pos hok]
    by_cases hlt : k.toNat ≤ (g.units * g.pages).toNat
    · rcases alv_next (g.units * g.pages).toNat g.units.toNat xs ((g.units * g.pages).toNat - k.toNat) k.toNat (by omega) with h | ⟨j, h1, h2, h3, h4⟩
      · rw [show (max k 0).toNat = k.toNat from by omega, h]
        exact .inl ⟨rfl, rfl⟩
      · rw [show (max k 0).toNat = k.toNat from by omega, h4]
        refine .inr ⟨j, by omega, by omega, rfl, ?_⟩
        rw [if_pos hok, show (max ((j : Int) + 1) 0).toNat = j + 1 from by omega]
    · rw [show (max k 0).toNat = k.toNat from by omega, alv_end (by omega)]
      exact .inl ⟨rfl, rfl⟩
  · rw [if_neg hok]
    exact .inl ⟨rfl, rfl⟩

theorem Geo.alv_max (g : Geo) (xs : List Int) (k : Int) : g.alv xs (max 0 k) = g.alv xs k := by
  unfold Geo.alv
  rw [show max (max 0 k) 0 = max k 0 from by omega]

theorem Geo.alv_len (g : Geo) (xs : List Int) (k : Int) : (g.alv xs k).length ≤ 256 := by
  unfold Geo.alv
  split
  · rename_i hok
    have := alv_length (g.units * g.pages).toNat g.units.toNat xs (max k 0).toNat
    have := Geo.pgs_le hok
    omega
  · simp

set_option maxHeartbeats 1000000 in
theorem stripeLeft_any (g : Geo) (v : Value) (xs : List Int) (k : Int) (w : World) (hg : g.Wf) (hs : Sl w 0 v (iv xs)) (hk : IsInt k) :
    Calls Try.prog 32 #[g.v, v, .int .i64 k] w fun e w' => e = .returned (.int .i64 ((g.alv xs k).length : Nat)) ∧ Below w.heap.size w w' := by
  have HW := Lib.hid hg
  have HS := Lib.hid hs
  have HNC := Lib.hid (fun i hi => g.nxt_cases xs i hi)
  obtain ⟨a, cap, rfl, h1, h2, h3⟩ := hs.ints
  clear hg hs h3
  obtain ⟨k1, k2⟩ := hk
  have HLEN := Lib.hid (g.alv_len xs k)
  have HMX := Lib.hid (g.alv_max xs k)
  obtain ⟨c, l, b, p, s⟩ := g
  unfold Geo.v
  have HG := Lib.hid (Blk.new w 23 [.int .i64 c, .int .i64 l, .int .i64 b, .int .i64 p, .int .i64 s])
  go_enter Try.func32, Try.ntmps32
  go_wp2_with fail
  go_step3
  go_wp2_with fail
  go_step3
  go_wp2_with fail
  go_loopw [7, 8] (fun n t wr => ∃ (cnt : Nat) (i : Int), cnt ≤ 256 ∧ 0 ≤ i ∧ i ≤ 9223372036854775807 ∧ n = .int .i64 cnt ∧ t = .int .i64 i ∧ Hid (cnt + (Geo.alv ⟨c, l, b, p, s⟩ xs i).length = (Geo.alv ⟨c, l, b, p, s⟩ xs k).length) ∧ Hid (Blk wr w.heap.size 23 [.int .i64 c, .int .i64 l, .int .i64 b, .int .i64 p, .int .i64 s]) ∧ Hid (Below w.heap.size w wr)) (fun _ t _ => (Geo.alv ⟨c, l, b, p, s⟩ xs (intOf t)).length)
  case atStart => exact ⟨0, max 0 k, Nat.zero_le _, by omega, by omega, rfl, rfl, by show _ = _; rw [HMX.out, Nat.zero_add], HG.out, (Below.refl w.heap.size w).alloc (Nat.le_refl _) _⟩
  case round =>
    obtain ⟨cnt, i, hc, hi0, hi9, rfl, rfl, HC, HGr, HBr⟩ := hrel
    have hkr := HGr.out
    have k0 : wr.cell? ⟨w.heap.size, 0, none⟩ = some (.int .i64 c) := hkr.cell 0; have k1 : wr.cell? ⟨w.heap.size, 1, none⟩ = some (.int .i64 l) := hkr.cell 1; have k2 : wr.cell? ⟨w.heap.size, 2, none⟩ = some (.int .i64 b) := hkr.cell 2; have k3 : wr.cell? ⟨w.heap.size, 3, none⟩ = some (.int .i64 p) := hkr.cell 3; have k4 : wr.cell? ⟨w.heap.size, 4, none⟩ = some (.int .i64 s) := hkr.cell 4
    clear hkr
    (go_wp2_with fail); refine (stripeNext_any ⟨c, l, b, p, s⟩ _ xs i _ HW.out (HS.out.below HBr.out) ⟨by omega, by omega⟩).mono ?_
    rintro e w2 ⟨rfl, hb⟩
    have HG2 := Lib.hid (HGr.out.below hb)
    have HB2 := Lib.hid (HBr.out.trans (hb.mono HBr.out.size))
    clear hb
    rcases HNC.out i hi0 with ⟨h1, h2⟩ | ⟨j, h1, h2, h3, h4⟩
    · have HE : Hid ((cnt : Int) = ((Geo.alv ⟨c, l, b, p, s⟩ xs k).length : Nat)) := by
        show (cnt : Int) = _
        rw [← HC.out, h1]; simp
      rw [h2]
      clear h1 h2
      go_wp2_with fail
      rw [Exit.noGoto_ret]
      go_ret
      exact ⟨ret_int HE.out, HB2.out⟩
    · rw [h3]
      have HE : Hid (cnt + 1 + (Geo.alv ⟨c, l, b, p, s⟩ xs (j + 1)).length = (Geo.alv ⟨c, l, b, p, s⟩ xs k).length) := by
        show _ = _
        rw [← HC.out, h4, List.length_cons]; omega
      have HM : Hid ((Geo.alv ⟨c, l, b, p, s⟩ xs (j + 1)).length < (Geo.alv ⟨c, l, b, p, s⟩ xs i).length) := by
        show _ < _
        rw [h4, List.length_cons]; omega
      have hcc : cnt + 1 ≤ 256 := by have := HE.out; have := HLEN.out; omega
      clear h3 h4
      go_wp2_with fail
      go_roundw
      case rel => exact ⟨cnt + 1, j + 1, hcc, by omega, by omega, by go_num, by go_num, HE.out, HG2.out, HB2.out⟩
      case measure => exact HM.out

set_option maxHeartbeats 2000000 in
theorem stripeNextWalk (g : Geo) (a0 : Option Addr) (len0 cap0 : Nat) (z0 : List Int) (k : Int) (w : World) (hg : g.Wf) (w0 : IsRow .i64 w a0 len0 cap0 z0) (hk : (Lit.int .i64 k).wf = true) :
    Calls Try.prog 3 #[g.v, .slice a0 len0 cap0, .int .i64 k] w fun e w' => e = .returned (.bool true) ∧ Below w.heap.size w w' := by
  have HW := Lib.hid hg
  have HI := Lib.hid (wf_i64 hk)
  clear hg hk
  obtain ⟨c, l, b, p, s⟩ := g
  have HG := Lib.hid (Blk.new w 23 [.int .i64 c, .int .i64 l, .int .i64 b, .int .i64 p, .int .i64 s])
  by_cases hl : 100 < len0
  · have hl2 := w0.len_le
    clear w0
    unfold Geo.v
    go_enter Try.func3, Try.ntmps3
    (go_wp2_with fail); refine (awake09_any _).mono ?_
    rintro e w1 ⟨rfl, hb⟩
    have HB1 := Lib.hid (((Below.refl w.heap.size w).alloc (Nat.le_refl _) _).trans (hb.mono (by simp)))
    clear hb
    go_wp2
    go_ret
    exact ⟨rfl, HB1.out⟩
  obtain ⟨hs, hlen, hwf⟩ := w0.sl (by omega)
  generalize z0.take len0 = xs at *
  subst hlen
  clear w0 hwf
  have HS : Hid (Sl w 0 (.slice a0 xs.length cap0) (iv xs)) := hs
  clear hs
  unfold Geo.v
  go_enter Try.func3, Try.ntmps3
  (go_wp2_with fail); refine (awake09_any _).mono ?_
  rintro e w1 ⟨rfl, hb⟩
  have hk := HG.out.below hb; have k0 : w1.cell? ⟨w.heap.size, 0, none⟩ = some (.int .i64 c) := hk.cell 0; have k1 : w1.cell? ⟨w.heap.size, 1, none⟩ = some (.int .i64 l) := hk.cell 1; have k2 : w1.cell? ⟨w.heap.size, 2, none⟩ = some (.int .i64 b) := hk.cell 2; have k3 : w1.cell? ⟨w.heap.size, 3, none⟩ = some (.int .i64 p) := hk.cell 3; have k4 : w1.cell? ⟨w.heap.size, 4, none⟩ = some (.int .i64 s) := hk.cell 4; have hltk := hk.lt
  have HG1 := Lib.hid hk
  have HB1 := Lib.hid (((Below.refl w.heap.size w).alloc (Nat.le_refl _) _).trans (hb.mono (by simp)))
  clear hb hk
  go_wp2_with fail
  refine wp_region_b 11 (by kernel_rfl) (by kernel_rfl) ?_
  simp only [List.take_succ_cons, List.take_zero, List.drop_succ_cons, List.drop_zero]
  repeat (first
    | (refine SeqC.run (v := ?_) ?_ (fun wz hz => ?_) ?_; rotate_left; (· rfl); (· have hzc := hz.cell; have hzf := hz.frozen; go_simp; first | exact UponS.value hz | exact UponS.skip hz | (refine UponS.call ?_; first | (go_at_call 16; refine (stripeNext_any ⟨c, l, b, p, s⟩ _ xs k _ HW.out (HS.out.below (HB1.out.drew.trans (hz.below.mono HB1.out.size))) HI.out).mono ?_; rintro e wy ⟨rfl, hb⟩; refine ⟨?_, hz.step hb⟩; rfl) | (go_at_call 17; refine (ref09Next_any ⟨c, l, b, p, s⟩ _ xs k _ HW.out (HS.out.below (HB1.out.drew.trans (hz.below.mono HB1.out.size))) HI.out).mono ?_; rintro e wy ⟨rfl, hb⟩; refine ⟨?_, hz.step hb⟩; rfl))); (try simp only [Act.put, List.setIfInBounds_toArray, List.set_cons_zero, List.set_cons_succ]))
    | (refine SeqC.skip ?_ ?_; (· rfl); (try simp only [Act.put, List.setIfInBounds_toArray, List.set_cons_zero, List.set_cons_succ])))
  refine fun wz hz => ?_
  go_wp2
  go_ret
  exact ⟨ret_bool (by simp), HB1.out.drew.trans (hz.below.mono HB1.out.size)⟩

set_option maxHeartbeats 2000000 in
theorem stripeLeftWalk (g : Geo) (a0 : Option Addr) (len0 cap0 : Nat) (z0 : List Int) (k : Int) (w : World) (hg : g.Wf) (w0 : IsRow .i64 w a0 len0 cap0 z0) (hk : (Lit.int .i64 k).wf = true) :
    Calls Try.prog 7 #[g.v, .slice a0 len0 cap0, .int .i64 k] w fun e w' => e = .returned (.bool true) ∧ Below w.heap.size w w' := by
  have HW := Lib.hid hg
  have HI := Lib.hid (wf_i64 hk)
  clear hg hk
  obtain ⟨c, l, b, p, s⟩ := g
  have HG := Lib.hid (Blk.new w 23 [.int .i64 c, .int .i64 l, .int .i64 b, .int .i64 p, .int .i64 s])
  by_cases hl : 100 < len0
  · have hl2 := w0.len_le
    clear w0
    unfold Geo.v
    go_enter Try.func7, Try.ntmps7
    (go_wp2_with fail); refine (awake09_any _).mono ?_
    rintro e w1 ⟨rfl, hb⟩
    have HB1 := Lib.hid (((Below.refl w.heap.size w).alloc (Nat.le_refl _) _).trans (hb.mono (by simp)))
    clear hb
    go_wp2
    go_ret
    exact ⟨rfl, HB1.out⟩
  obtain ⟨hs, hlen, hwf⟩ := w0.sl (by omega)
  generalize z0.take len0 = xs at *
  subst hlen
  clear w0 hwf
  have HS : Hid (Sl w 0 (.slice a0 xs.length cap0) (iv xs)) := hs
  clear hs
  unfold Geo.v
  go_enter Try.func7, Try.ntmps7
  (go_wp2_with fail); refine (awake09_any _).mono ?_
  rintro e w1 ⟨rfl, hb⟩
  have hk := HG.out.below hb; have k0 : w1.cell? ⟨w.heap.size, 0, none⟩ = some (.int .i64 c) := hk.cell 0; have k1 : w1.cell? ⟨w.heap.size, 1, none⟩ = some (.int .i64 l) := hk.cell 1; have k2 : w1.cell? ⟨w.heap.size, 2, none⟩ = some (.int .i64 b) := hk.cell 2; have k3 : w1.cell? ⟨w.heap.size, 3, none⟩ = some (.int .i64 p) := hk.cell 3; have k4 : w1.cell? ⟨w.heap.size, 4, none⟩ = some (.int .i64 s) := hk.cell 4; have hltk := hk.lt
  have HG1 := Lib.hid hk
  have HB1 := Lib.hid (((Below.refl w.heap.size w).alloc (Nat.le_refl _) _).trans (hb.mono (by simp)))
  clear hb hk
  go_wp2_with fail
  refine wp_region_b 11 (by kernel_rfl) (by kernel_rfl) ?_
  simp only [List.take_succ_cons, List.take_zero, List.drop_succ_cons, List.drop_zero]
  repeat (first
    | (refine SeqC.run (v := ?_) ?_ (fun wz hz => ?_) ?_; rotate_left; (· rfl); (· have hzc := hz.cell; have hzf := hz.frozen; go_simp; first | exact UponS.value hz | exact UponS.skip hz | (refine UponS.call ?_; first | (go_at_call 32; refine (stripeLeft_any ⟨c, l, b, p, s⟩ _ xs k _ HW.out (HS.out.below (HB1.out.drew.trans (hz.below.mono HB1.out.size))) HI.out).mono ?_; rintro e wy ⟨rfl, hb⟩; refine ⟨?_, hz.step hb⟩; rfl) | (go_at_call 33; refine (ref09Left_any ⟨c, l, b, p, s⟩ _ xs k _ HW.out (HS.out.below (HB1.out.drew.trans (hz.below.mono HB1.out.size))) HI.out).mono ?_; rintro e wy ⟨rfl, hb⟩; refine ⟨?_, hz.step hb⟩; rfl))); (try simp only [Act.put, List.setIfInBounds_toArray, List.set_cons_zero, List.set_cons_succ]))
    | (refine SeqC.skip ?_ ?_; (· rfl); (try simp only [Act.put, List.setIfInBounds_toArray, List.set_cons_zero, List.set_cons_succ])))
  refine fun wz hz => ?_
  go_wp2
  go_ret
  exact ⟨ret_bool (by simp), HB1.out.drew.trans (hz.below.mono HB1.out.size)⟩

end Go.Proofs.Ytbfpnpoafepjjaa
