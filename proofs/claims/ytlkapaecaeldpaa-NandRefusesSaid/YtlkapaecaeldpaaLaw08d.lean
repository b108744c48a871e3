/-
  The walks of the laws over package nand: NandNews.
-/
import Derived.Test.YtlkapaecaeldpaaLaw08b
import Derived.Test.YtlkapaecaeldpaaRef08b
set_option linter.unusedVariables false
set_option linter.unusedSimpArgs false
set_option maxRecDepth 16384
namespace Go.Proofs.Ytlkapaecaeldpaa
open Go.RowKit

theorem rnn_is {w : World} {g : Geo} {bad : List Int} {e : Ending} {w' : World} (h : RNNPost w g bad e w') (hk : badOk g bad = true) :
    Below w.heap.size w w' ∧ ∃ r F, e = .returned (.tuple #[.pointer (some ⟨r, 0, none⟩), .int .i64 0]) ∧ RNAt w' F r g (newS bad) 0 ∧ ∀ k, F k → w.heap.size ≤ k := by
  obtain ⟨h1, h2⟩ := h
  rw [if_pos hk] at h2
  exact ⟨h1, h2⟩
theorem rnn_no {w : World} {g : Geo} {bad : List Int} {e : Ending} {w' : World} (h : RNNPost w g bad e w') (hk : badOk g bad = false) : Below w.heap.size w w' ∧ e = .returned (.tuple #[.pointer none, .int .i64 1]) := by
  obtain ⟨h1, h2⟩ := h
  rw [if_neg (by rw [hk]; decide)] at h2
  exact ⟨h1, h2⟩

theorem nandGeometry_raw {w : World} {F : Nat → Prop} {d : Nat} {c l b p s : Int} {S : NSt} (H : NandAt w F d ⟨c, l, b, p, s⟩ S) :
    Calls Try.prog 30 #[.pointer (some ⟨d, 0, none⟩)] w fun e w' => e = .returned (.agg #[.int .i64 c, .int .i64 l, .int .i64 b, .int .i64 p, .int .i64 s]) ∧ Below w.heap.size w w' := nandGeometry_any H

set_option maxHeartbeats 4000000 in
theorem nandNewsWalk (g : Geo) (a0 : Option Addr) (len0 cap0 : Nat) (z0 : List Int) (w : World) (hg : g.Wf) (w0 : IsRow .i64 w a0 len0 cap0 z0) :
    Calls Try.prog 5 #[g.v, .slice a0 len0 cap0] w fun e w' => e = .returned (.bool true) ∧ Below w.heap.size w w' := by
  have HW := Lib.hid hg
  obtain ⟨c, l, b, p, s⟩ := g
  have HG := Lib.hid (Blk.new w 23 [.int .i64 c, .int .i64 l, .int .i64 b, .int .i64 p, .int .i64 s])
  have hll := w0.len_le
  by_cases hl : 1000 < len0
  · clear w0 hg
    unfold Geo.v
    go_enter Try.func5, Try.ntmps5
    (go_wp2_with fail); refine (awake08_any _).mono ?_
    rintro e w1 ⟨rfl, hb⟩
    have HB1 := Lib.hid (((Below.refl w.heap.size w).alloc (Nat.le_refl _) (.cells #[.int .i64 c, .int .i64 l, .int .i64 b, .int .i64 p, .int .i64 s] 23)).trans (hb.mono (by simp)))
    clear hb
    go_wp2_with fail
    go_ret
    exact ⟨rfl, HB1.out⟩
  obtain ⟨hs, hlen, hwf⟩ := w0.sl (by omega)
  generalize z0.take len0 = xs at *
  subst hlen
  have HS : Hid (Sl w 0 (.slice a0 xs.length cap0) (iv xs)) := hs
  clear w0 hwf hs hg
  unfold Geo.v
  go_enter Try.func5, Try.ntmps5
  (go_wp2_with fail); refine (awake08_any _).mono ?_
  rintro e w1 ⟨rfl, hb⟩
  have hk := HG.out.below hb; have k0 : w1.cell? ⟨w.heap.size, 0, none⟩ = some (.int .i64 c) := hk.cell 0; have k1 : w1.cell? ⟨w.heap.size, 1, none⟩ = some (.int .i64 l) := hk.cell 1; have k2 : w1.cell? ⟨w.heap.size, 2, none⟩ = some (.int .i64 b) := hk.cell 2; have k3 : w1.cell? ⟨w.heap.size, 3, none⟩ = some (.int .i64 p) := hk.cell 3; have k4 : w1.cell? ⟨w.heap.size, 4, none⟩ = some (.int .i64 s) := hk.cell 4; have hltk := hk.lt
  have HG1 := Lib.hid hk
  have HB1 := Lib.hid (((Below.refl w.heap.size w).alloc (Nat.le_refl _) _).trans (hb.mono (by simp)))
  clear hb hk
  (go_wp2_with fail); refine (nandNew_any ⟨c, l, b, p, s⟩ _ xs _ HW.out (HS.out.below HB1.out) (by omega)).mono ?_
  intro e w2 hp
  by_cases hok : badOk ⟨c, l, b, p, s⟩ xs = true
  · obtain ⟨hb, d, F, rfl, hn, hF⟩ := newN_is hp hok
    have HN2 := Lib.hid hn
    have hk := HG1.out.below hb; have k0 : w2.cell? ⟨w.heap.size, 0, none⟩ = some (.int .i64 c) := hk.cell 0; have k1 : w2.cell? ⟨w.heap.size, 1, none⟩ = some (.int .i64 l) := hk.cell 1; have k2 : w2.cell? ⟨w.heap.size, 2, none⟩ = some (.int .i64 b) := hk.cell 2; have k3 : w2.cell? ⟨w.heap.size, 3, none⟩ = some (.int .i64 p) := hk.cell 3; have k4 : w2.cell? ⟨w.heap.size, 4, none⟩ = some (.int .i64 s) := hk.cell 4; have hltk := hk.lt
    have HG2 := Lib.hid hk
    have HB2 := Lib.hid (HB1.out.trans (hb.mono HB1.out.size))
    clear hp hb hk hn hF
    (go_wp2_with fail); refine (ref08New_any ⟨c, l, b, p, s⟩ _ xs _ HW.out (HS.out.below HB2.out) (by omega)).mono ?_
    intro e w3 hp
    obtain ⟨hb, r, G, rfl, hr, hG⟩ := rnn_is hp hok
    have HN3 := Lib.hid (HN2.out.below hb)
    have HR3 := Lib.hid hr
    have HG3 := Lib.hid (HG2.out.below hb)
    have HB3 := Lib.hid (HB2.out.trans (hb.mono HB2.out.size))
    clear hp hb hr hG hok k0 k1 k2 k3 k4 hltk
    simp only []
    go_wp2_with fail
    go_loopw [10] (fun t wr => ∃ u : Int, -1 ≤ u ∧ u ≤ 9 ∧ t = .int .i64 u ∧ Hid (NandAt wr F d ⟨c, l, b, p, s⟩ (newS xs)) ∧ Hid (RNAt wr G r ⟨c, l, b, p, s⟩ (newS xs) 0) ∧ Hid (Blk wr w.heap.size 23 [.int .i64 c, .int .i64 l, .int .i64 b, .int .i64 p, .int .i64 s]) ∧ Hid (Below w.heap.size w wr)) (fun t _ => ((9 : Int) - intOf t).toNat)
    case atStart => exact ⟨-1, by omega, by omega, rfl, HN3.out, HR3.out, HG3.out, HB3.out⟩
    case round =>
      obtain ⟨u, hu0, hu9, rfl, HNr, HRr, HGr, HBr⟩ := hrel
      by_cases hlt : u ≤ 8
      · have hwu : IntKind.i64.wrap (u + 1) = u + 1 := wrap_in _ ⟨by omega, by omega⟩
        go_wp2_with fail
        go_loopw [11] (fun t wr => ∃ x : Int, -1 ≤ x ∧ x ≤ 65 ∧ t = .int .i64 x ∧ Hid (NandAt wr F d ⟨c, l, b, p, s⟩ (newS xs)) ∧ Hid (RNAt wr G r ⟨c, l, b, p, s⟩ (newS xs) 0) ∧ Hid (Blk wr w.heap.size 23 [.int .i64 c, .int .i64 l, .int .i64 b, .int .i64 p, .int .i64 s]) ∧ Hid (Below w.heap.size w wr)) (fun t _ => ((65 : Int) - intOf t).toNat)
        case atStart => exact ⟨-1, by omega, by omega, rfl, HNr.out, HRr.out, HGr.out, HBr.out⟩
        case round =>
          clear HNr HRr HGr HBr
          obtain ⟨x, hx0, hx9, rfl, HNr, HRr, HGr, HBr⟩ := hrel
          by_cases hlt2 : x ≤ 64
          · have hwx : IntKind.i64.wrap (x + 1) = x + 1 := wrap_in _ ⟨by omega, by omega⟩
            obtain ⟨RV, hRV⟩ : ∃ y, retO (newS xs) (findIx ⟨c, l, b, p, s⟩ u x) = y := ⟨_, rfl⟩
            have HRV := Lib.hid hRV
            have HNX : Hid (nextO (newS xs) (findIx ⟨c, l, b, p, s⟩ u x) = 0) := by
              show _ = _
              cases findIx ⟨c, l, b, p, s⟩ u x <;> rfl
            have HWX : Hid (wearO (newS xs) (findIx ⟨c, l, b, p, s⟩ u x) = 0) := by
              show _ = _
              cases findIx ⟨c, l, b, p, s⟩ u x <;> rfl
            clear hRV
            (go_wp2_with fail); refine (nandRetired_any HNr.out u x).mono ?_
            rintro e w4 ⟨rfl, hb⟩
            rw [HRV.out]
            have HN4 := Lib.hid (HNr.out.below hb)
            have HR4 := Lib.hid (HRr.out.below hb)
            have HG4 := Lib.hid (HGr.out.below hb)
            have HB4 := Lib.hid (HBr.out.trans (hb.mono HBr.out.size))
            clear hb
            (go_wp2_with fail); refine (ref08Retired_any HR4.out u x).mono ?_
            rintro e w5 ⟨rfl, hb⟩
            rw [HRV.out]
            have HN5 := Lib.hid (HN4.out.below hb)
            have HR5 := Lib.hid (HR4.out.below hb)
            have HG5 := Lib.hid (HG4.out.below hb)
            have HB5 := Lib.hid (HB4.out.trans (hb.mono HB4.out.size))
            clear hb
            (go_wp2_with fail); refine (nandNext_any HN5.out u x).mono ?_
            rintro e w6 ⟨rfl, hb⟩
            rw [HNX.out]
            have HN6 := Lib.hid (HN5.out.below hb)
            have HR6 := Lib.hid (HR5.out.below hb)
            have HG6 := Lib.hid (HG5.out.below hb)
            have HB6 := Lib.hid (HB5.out.trans (hb.mono HB5.out.size))
            clear hb
            (go_wp2_with fail); refine (nandWear_any HN6.out u x).mono ?_
            rintro e w7 ⟨rfl, hb⟩
            rw [HWX.out]
            have HN7 := Lib.hid (HN6.out.below hb)
            have HR7 := Lib.hid (HR6.out.below hb)
            have HG7 := Lib.hid (HG6.out.below hb)
            have HB7 := Lib.hid (HB6.out.trans (hb.mono HB6.out.size))
            clear hb
            go_wp2_with fail
            go_roundw
            case rel => exact ⟨x + 1, by omega, by omega, by first | rfl | go_num, HN7.out, HR7.out, HG7.out, HB7.out⟩
            case measure => simp [intOf] <;> omega
          · go_wp2_with fail
            go_roundw
            case rel => exact ⟨u + 1, by omega, by omega, by first | rfl | go_num, HNr.out, HRr.out, HGr.out, HBr.out⟩
            case measure => simp [intOf] <;> omega
      · have hg := HGr.out
        have k0 : wr.cell? ⟨w.heap.size, 0, none⟩ = some (.int .i64 c) := hg.cell 0
        have k1 : wr.cell? ⟨w.heap.size, 1, none⟩ = some (.int .i64 l) := hg.cell 1
        have k2 : wr.cell? ⟨w.heap.size, 2, none⟩ = some (.int .i64 b) := hg.cell 2
        have k3 : wr.cell? ⟨w.heap.size, 3, none⟩ = some (.int .i64 p) := hg.cell 3
        have k4 : wr.cell? ⟨w.heap.size, 4, none⟩ = some (.int .i64 s) := hg.cell 4
        have hgl := hg.lt
        obtain ⟨pb, bb, mb, lv, f, hraw⟩ := HNr.out
        have hdl := hraw.blk.lt
        clear hg hraw
        go_wp2_with fail
        refine wp_region_b 19 (by kernel_rfl) (by kernel_rfl) ?_
        simp only [List.take_succ_cons, List.take_zero, List.drop_succ_cons, List.drop_zero]
        repeat (first
          | (refine SeqC.run (v := ?_) ?_ (fun wz hz => ?_) ?_; rotate_left; (· rfl); (· have hzc := hz.cell; have hzf := hz.frozen; go_simp; first | exact UponS.value hz | exact UponS.skip hz | (refine UponS.call ?_; first | (go_at_call 30; refine (nandGeometry_raw (HNr.out.sinceD hz)).mono ?_; rintro e wy ⟨rfl, hb⟩; refine ⟨?_, hz.step hb⟩; rfl) | (go_at_call 31; refine (nandOff_any (HNr.out.sinceD hz)).mono ?_; rintro e wy ⟨rfl, rfl⟩; refine ⟨?_, hz⟩; rfl) | (go_at_call 32; refine (nandWrong_any (HNr.out.sinceD hz)).mono ?_; rintro e wy ⟨rfl, rfl⟩; refine ⟨?_, hz⟩; rfl))); (try simp only [Act.put, List.setIfInBounds_toArray, List.set_cons_zero, List.set_cons_succ]))
          | (refine SeqC.skip ?_ ?_; (· rfl); (try simp only [Act.put, List.setIfInBounds_toArray, List.set_cons_zero, List.set_cons_succ])))
        refine fun wz hz => ?_
        have HBz := Lib.hid (HBr.out.drew.trans (hz.below.mono HBr.out.size))
        clear hz
        go_wp2_with fail
        go_ret
        exact ⟨rfl, HBz.out⟩
  · have hno : badOk ⟨c, l, b, p, s⟩ xs = false := by simpa using hok
    obtain ⟨hb, rfl⟩ := newN_no hp hno
    have hk := HG1.out.below hb; have k0 : w2.cell? ⟨w.heap.size, 0, none⟩ = some (.int .i64 c) := hk.cell 0; have k1 : w2.cell? ⟨w.heap.size, 1, none⟩ = some (.int .i64 l) := hk.cell 1; have k2 : w2.cell? ⟨w.heap.size, 2, none⟩ = some (.int .i64 b) := hk.cell 2; have k3 : w2.cell? ⟨w.heap.size, 3, none⟩ = some (.int .i64 p) := hk.cell 3; have k4 : w2.cell? ⟨w.heap.size, 4, none⟩ = some (.int .i64 s) := hk.cell 4; have hltk := hk.lt
    have HB2 := Lib.hid (HB1.out.trans (hb.mono HB1.out.size))
    have HNO := Lib.hid hno
    clear hp hb hk hok hno
    (go_wp2_with fail); refine (ref08New_any ⟨c, l, b, p, s⟩ _ xs _ HW.out (HS.out.below HB2.out) (by omega)).mono ?_
    intro e w3 hp
    obtain ⟨hb, rfl⟩ := rnn_no hp HNO.out
    have HB3 := Lib.hid (HB2.out.trans (hb.mono HB2.out.size))
    clear hp hb k0 k1 k2 k3 k4 hltk
    go_wp2_with fail
    go_ret
    exact ⟨rfl, HB3.out⟩

end Go.Proofs.Ytlkapaecaeldpaa
