/-
  The walks of the laws over package nand: NandPlays.
-/
import Derived.Test.YtlkapaecaeldpaaLaw08g
set_option linter.unusedVariables false
set_option linter.unusedSimpArgs false
set_option maxRecDepth 16384
namespace Go.Proofs.Ytlkapaecaeldpaa
open Go.RowKit

theorem badOk_ok {g : Geo} {xs : List Int} (h : badOk g xs = true) : g.okB = true := by
  unfold badOk at h
  rw [Bool.and_eq_true] at h
  exact h.1

set_option maxHeartbeats 4000000 in
theorem nandPlaysWalk (g : Geo) (a1 : Option Addr) (len1 cap1 : Nat) (z1 : List Int) (a2 : Option Addr) (len2 cap2 : Nat) (w : World) (hg : g.Wf) (w1 : IsRow .i64 w a1 len1 cap1 z1) (w2 : IsOps8 w a2 len2 cap2) :
    Calls Try.prog 11 #[g.v, .slice a1 len1 cap1, .slice a2 len2 cap2] w fun e w' => e = .returned (.bool true) ∧ Below w.heap.size w w' := by
  have HW := Lib.hid hg
  obtain ⟨hll2, hls⟩ := w2
  have HL := Lib.hid hls
  clear hls
  obtain ⟨c, l, b, p, s⟩ := g
  have HG := Lib.hid (Blk.new w 23 [.int .i64 c, .int .i64 l, .int .i64 b, .int .i64 p, .int .i64 s])
  have hll := w1.len_le
  by_cases hl : 1000 < len1
  · clear w1 hg
    unfold Geo.v
    go_enter Try.func11, Try.ntmps11
    (go_wp2_with fail); refine (awake08_any _).mono ?_
    rintro e w1 ⟨rfl, hb⟩
    have HB1 := Lib.hid (((Below.refl w.heap.size w).alloc (Nat.le_refl _) (.cells #[.int .i64 c, .int .i64 l, .int .i64 b, .int .i64 p, .int .i64 s] 23)).trans (hb.mono (by simp)))
    clear hb
    go_wp2_with fail
    go_ret
    exact ⟨rfl, HB1.out⟩
  obtain ⟨hs, hlen, hwf⟩ := w1.sl (by omega)
  generalize z1.take len1 = xs at *
  subst hlen
  have HS : Hid (Sl w 0 (.slice a1 xs.length cap1) (iv xs)) := hs
  clear w1 hwf hs hg
  unfold Geo.v
  go_enter Try.func11, Try.ntmps11
  (go_wp2_with fail); refine (awake08_any _).mono ?_
  rintro e w1 ⟨rfl, hb⟩
  have hk := HG.out.below hb; have k0 : w1.cell? ⟨w.heap.size, 0, none⟩ = some (.int .i64 c) := hk.cell 0; have k1 : w1.cell? ⟨w.heap.size, 1, none⟩ = some (.int .i64 l) := hk.cell 1; have k2 : w1.cell? ⟨w.heap.size, 2, none⟩ = some (.int .i64 b) := hk.cell 2; have k3 : w1.cell? ⟨w.heap.size, 3, none⟩ = some (.int .i64 p) := hk.cell 3; have k4 : w1.cell? ⟨w.heap.size, 4, none⟩ = some (.int .i64 s) := hk.cell 4; have hltk := hk.lt
  have HG1 := Lib.hid hk
  have HB1 := Lib.hid (((Below.refl w.heap.size w).alloc (Nat.le_refl _) _).trans (hb.mono (by simp)))
  clear hb hk
  (go_wp2_with fail); refine (nandNew_any ⟨c, l, b, p, s⟩ _ xs _ HW.out (HS.out.below HB1.out) (by omega)).mono ?_
  intro e w2 hp
  by_cases hok : badOk ⟨c, l, b, p, s⟩ xs = true
  · have HBK := Lib.hid hok
    have HOK := Lib.hid (badOk_ok hok)
    obtain ⟨hb, d, F, rfl, hn, hF⟩ := newN_is hp hok
    have HN2 := Lib.hid hn
    have HF2 := Lib.hid hF
    have hk := HG1.out.below hb; have k0 : w2.cell? ⟨w.heap.size, 0, none⟩ = some (.int .i64 c) := hk.cell 0; have k1 : w2.cell? ⟨w.heap.size, 1, none⟩ = some (.int .i64 l) := hk.cell 1; have k2 : w2.cell? ⟨w.heap.size, 2, none⟩ = some (.int .i64 b) := hk.cell 2; have k3 : w2.cell? ⟨w.heap.size, 3, none⟩ = some (.int .i64 p) := hk.cell 3; have k4 : w2.cell? ⟨w.heap.size, 4, none⟩ = some (.int .i64 s) := hk.cell 4; have hltk := hk.lt
    have HB2 := Lib.hid (HB1.out.trans (hb.mono HB1.out.size))
    clear hp hb hk hn hF hok HG
    (go_wp2_with fail); refine (ref08New_any ⟨c, l, b, p, s⟩ _ xs _ HW.out (HS.out.below HB2.out) (by omega)).mono ?_
    intro e w3 hp
    obtain ⟨hb, r, G, rfl, hr, hG⟩ := rnn_is hp HBK.out
    have hin := HN2.out.inF
    have HH2 : Hid (Both w3 F G d r ⟨c, l, b, p, s⟩ (newS xs) (newS xs) 0) := ⟨HN2.out.below hb, hr, fun k h1 h2 => by have := hin k h1; have := hG k h2; omega⟩
    have HI2 := Lib.hid (SInv.new ⟨c, l, b, p, s⟩ (by have := (Geo.ok_of HOK.out).p; simp only at this ⊢; omega) xs)
    have HFF : Hid ((∀ k, F k → w.heap.size ≤ k) ∧ ∀ k, G k → w.heap.size ≤ k) := ⟨fun k hk => by have := HF2.out k hk; have := HB1.out.size; omega, fun k hk => by have := hG k hk; have := HB2.out.size; omega⟩
    have HB3 := Lib.hid (HB2.out.trans (hb.mono HB2.out.size))
    clear hp hb hr hG hin k0 k1 k2 k3 k4 hltk HN2 HF2
    simp only []
    go_wp2_with fail
    go_loopw [12] (fun t wr => ∃ (k : Nat) (S : NSt) (F' FR' : Nat → Prop), k ≤ len2 ∧ k ≤ 80 ∧ t = .int .i64 k ∧ Hid (Both wr F' FR' d r ⟨c, l, b, p, s⟩ S S k) ∧ Hid (SInv ⟨c, l, b, p, s⟩ S) ∧ Hid ((∀ k, F' k → w.heap.size ≤ k) ∧ ∀ k, FR' k → w.heap.size ≤ k) ∧ Hid (Below w.heap.size w wr)) (fun t _ => ((len2 : Int) - intOf t).toNat)
    case atStart => exact ⟨0, _, F, G, by omega, by omega, rfl, HH2.out, HI2.out, HFF.out, HB3.out⟩
    case round =>
      obtain ⟨k, S, F', FR', hkl, hk40, rfl, HHr, HIr, HFr, HBr⟩ := hrel
      by_cases hgo : k < len2 ∧ k < 80
      · obtain ⟨hlt, hk60⟩ := hgo
        obtain ⟨ab, off, rfl, habl, Fo, hFo⟩ := HL.out (by omega)
        obtain ⟨hoin, hc⟩ := hFo k hlt
        have HDO := Lib.hid (hoin.doing HBr.out HFr.out.1 HFr.out.2)
        generalize Fo k = ov at hc HDO
        have HDA : Hid (∃ zs, (∀ x ∈ zs, IsB x) ∧ Doing wr F' FR' ov zs) := Lib.hid ⟨_, HDO.out.isB, HDO.out⟩
        clear HDO hoin hFo
        obtain ⟨od, ou, obk, op, on, oodd, pa, pl, pc, zs0⟩ := ov
        have cell : ∀ j v, (Op8.l ⟨od, ou, obk, op, on, oodd, pa, pl, pc, zs0⟩)[j]? = some v → j < 7 → wr.cell? ⟨ab, off + k * 7 + j, none⟩ = some v := fun j v hv hj => by
          rw [(HBr.out).cell (p := ⟨ab, off + k * 7 + j, none⟩) habl, hc j hj, hv]
        have c0 : wr.cell? ⟨ab, off + k * 7, none⟩ = some (.int .i64 od) := cell 0 _ rfl (by decide)
        have c1 : wr.cell? ⟨ab, off + k * 7 + 1, none⟩ = some (.int .i64 ou) := cell 1 _ rfl (by decide)
        have c2 : wr.cell? ⟨ab, off + k * 7 + 2, none⟩ = some (.int .i64 obk) := cell 2 _ rfl (by decide)
        have c3 : wr.cell? ⟨ab, off + k * 7 + 3, none⟩ = some (.int .i64 op) := cell 3 _ rfl (by decide)
        have c4 : wr.cell? ⟨ab, off + k * 7 + 4, none⟩ = some (.int .i64 on) := cell 4 _ rfl (by decide)
        have c5 : wr.cell? ⟨ab, off + k * 7 + 5, none⟩ = some (.bool oodd) := cell 5 _ rfl (by decide)
        have c6 : wr.cell? ⟨ab, off + k * 7 + 6, none⟩ = some (.slice pa pl pc) := cell 6 _ rfl (by decide)
        clear cell
        have HC := Lib.hid hc
        obtain ⟨zs, hzs, hdo⟩ := HDA.out
        have HI3 := Lib.hid (HIr.out.step HOK.out (Op8.p8 ⟨od, ou, obk, op, on, oodd, pa, pl, pc, zs0⟩ zs) hzs)
        have HDO := Lib.hid hdo
        have hk0 : (0 : Int) ≤ k := by omega
        have hkl2 : (k : Int) < len2 := by omega
        clear HDA hzs hdo hc
        (go_wp2_with fail); refine (does_any HHr.out (by omega) HIr.out ⟨od, ou, obk, op, on, oodd, pa, pl, pc, zs0⟩ zs HDO.out).mono ?_
        intro e w4 hp
        obtain ⟨rfl, F3, FR3, hh3, hs3⟩ := hp
        have HH3 := Lib.hid hh3
        have HF3 : Hid ((∀ k, F3 k → w.heap.size ≤ k) ∧ ∀ k, FR3 k → w.heap.size ≤ k) := by
          have := HBr.out.size
          exact ⟨fun k hk => (hs3.fd k hk).elim (HFr.out.1 k) fun q => by omega, fun k hk => (hs3.fr k hk).elim (HFr.out.2 k) fun q => by omega⟩
        have HB4 := Lib.hid (HBr.out.trans (hs3.only.toBelow (B := w.heap.size) (fun k hk => hk.elim (HFr.out.1 k) (HFr.out.2 k)) HBr.out.size))
        clear hh3 hs3 c0 c1 c2 c3 c4 c5 c6
        have hc := HC.out
        have cell : ∀ j v, (Op8.l ⟨od, ou, obk, op, on, oodd, pa, pl, pc, zs0⟩)[j]? = some v → j < 7 → w4.cell? ⟨ab, off + k * 7 + j, none⟩ = some v := fun j v hv hj => by
          rw [(HB4.out).cell (p := ⟨ab, off + k * 7 + j, none⟩) habl, hc j hj, hv]
        have c0 : w4.cell? ⟨ab, off + k * 7, none⟩ = some (.int .i64 od) := cell 0 _ rfl (by decide)
        have c1 : w4.cell? ⟨ab, off + k * 7 + 1, none⟩ = some (.int .i64 ou) := cell 1 _ rfl (by decide)
        have c2 : w4.cell? ⟨ab, off + k * 7 + 2, none⟩ = some (.int .i64 obk) := cell 2 _ rfl (by decide)
        have c3 : w4.cell? ⟨ab, off + k * 7 + 3, none⟩ = some (.int .i64 op) := cell 3 _ rfl (by decide)
        have c4 : w4.cell? ⟨ab, off + k * 7 + 4, none⟩ = some (.int .i64 on) := cell 4 _ rfl (by decide)
        have c5 : w4.cell? ⟨ab, off + k * 7 + 5, none⟩ = some (.bool oodd) := cell 5 _ rfl (by decide)
        have c6 : w4.cell? ⟨ab, off + k * 7 + 6, none⟩ = some (.slice pa pl pc) := cell 6 _ rfl (by decide)
        clear cell
        clear hc c0 c3 c4 c5 c6
        have habl4 := Nat.lt_of_lt_of_le habl HB4.out.size
        generalize hST : stepTo ⟨c, l, b, p, s⟩ S (Op8.p8 ⟨od, ou, obk, op, on, oodd, pa, pl, pc, zs0⟩ zs) = S3 at HH3 HI3
        obtain ⟨L0, n0, evs, pb, nx, wrr, rt, lv, lg, hr⟩ := HH3.out.rn
        have r10 : w4.cell? ⟨r, 10, none⟩ = some (.bool S3.off) := hr.blk.cell 10
        have r11 : w4.cell? ⟨r, 11, none⟩ = some (.int .i64 S3.wrong) := hr.blk.cell 11
        have hrl := hr.blk.lt
        have hbd : ∀ {wz : World}, Since w4.drew wz → Below w4.heap.size w4 wz := fun hz => (Below.refl _ _).drew.trans hz.below
        have HC1 : Hid (∀ wz, Since w4.drew wz → Calls Try.prog 31 #[.pointer (some ⟨d, 0, none⟩)] wz fun e w' => e = .returned (.bool S3.off) ∧ wz = w') := Lib.hid fun wz hz => nandOff_any (HH3.out.dn.below (hbd hz))
        have HC2 : Hid (∀ wz, Since w4.drew wz → Calls Try.prog 32 #[.pointer (some ⟨d, 0, none⟩)] wz fun e w' => e = .returned (.int .i64 S3.wrong) ∧ wz = w') := Lib.hid fun wz hz => nandWrong_any (HH3.out.dn.below (hbd hz))
        have HC3 := Lib.hid fun (wz : World) (hz : Since w4.drew wz) => nandNext_any (HH3.out.dn.below (hbd hz)) ou obk
        have HC4 := Lib.hid fun (wz : World) (hz : Since w4.drew wz) => ref08Next_any (HH3.out.rn.below (hbd hz)) ou obk
        have HC5 := Lib.hid fun (wz : World) (hz : Since w4.drew wz) => nandWear_any (HH3.out.dn.below (hbd hz)) ou obk
        have HC6 := Lib.hid fun (wz : World) (hz : Since w4.drew wz) => ref08Wear_any (HH3.out.rn.below (hbd hz)) ou obk
        have HC7 := Lib.hid fun (wz : World) (hz : Since w4.drew wz) => nandRetired_any (HH3.out.dn.below (hbd hz)) ou obk
        have HC8 := Lib.hid fun (wz : World) (hz : Since w4.drew wz) => ref08Retired_any (HH3.out.rn.below (hbd hz)) ou obk
        generalize nextO S3 (findIx ⟨c, l, b, p, s⟩ ou obk) = NX at HC3 HC4
        generalize wearO S3 (findIx ⟨c, l, b, p, s⟩ ou obk) = WE at HC5 HC6
        generalize retO S3 (findIx ⟨c, l, b, p, s⟩ ou obk) = RE at HC7 HC8
        generalize S3.off = OF at HC1 r10
        generalize S3.wrong = WG at HC2 r11
        clear hST hr hbd HC
        go_wp2_with fail
        refine wp_region_b 11 (by kernel_rfl) (by kernel_rfl) ?_
        simp only [List.take_succ_cons, List.take_zero, List.drop_succ_cons, List.drop_zero]
        repeat (first
          | (refine SeqC.run (v := ?_) ?_ (fun wz hz => ?_) ?_; rotate_left; (· rfl); (· have hzc := hz.cell; have hzf := hz.frozen; go_simp; first | exact UponS.value hz | exact UponS.skip hz | (refine UponS.call ?_; fail)); (try simp only [Act.put, List.setIfInBounds_toArray, List.set_cons_zero, List.set_cons_succ]))
          | (refine SeqC.skip ?_ ?_; (· rfl); (try simp only [Act.put, List.setIfInBounds_toArray, List.set_cons_zero, List.set_cons_succ])))
        refine fun wz hz => ?_
        have hb5 : Below w4.heap.size w4 wz := (Below.refl _ _).drew.trans hz.below
        have hzc := fun (q : Nat) => World.cell?_of_block (a := ⟨r, q, none⟩) (hb5.block r hrl)
        have s10 := (hzc 10).trans r10
        have s11 := (hzc 11).trans r11
        have hrl5 := Nat.lt_of_lt_of_le hrl hb5.size
        have HZ := Lib.hid hz
        have HB5 := Lib.hid hb5
        clear hzc hz hb5 r10 r11 hrl c1 c2
        go_wp2_with fail
        have HSD : Hid (∀ wy, Since wz.drew wy → Since w4.drew wy) := Lib.hid fun wy hy => HZ.out.drew.trans (Below.mono hy HZ.out.size)
        refine wp_region_b 54 (by kernel_rfl) (by kernel_rfl) ?_
        simp only [List.take_succ_cons, List.take_zero, List.drop_succ_cons, List.drop_zero]
        repeat (first
          | (refine SeqC.run (v := ?_) ?_ (fun wz hz => ?_) ?_; rotate_left; (· rfl); (· have hzc := hz.cell; have hzf := hz.frozen; go_simp; first | exact UponS.value hz | exact UponS.skip hz | (refine UponS.call ?_; first | (go_at_call 31; refine (HC1.out _ (HSD.out _ hz)).mono ?_; rintro e wy ⟨rfl, rfl⟩; refine ⟨?_, hz⟩; rfl) | (go_at_call 32; refine (HC2.out _ (HSD.out _ hz)).mono ?_; rintro e wy ⟨rfl, rfl⟩; refine ⟨?_, hz⟩; rfl) | (go_at_call 28; refine (HC3.out _ (HSD.out _ hz)).mono ?_; rintro e wy ⟨rfl, hb⟩; refine ⟨?_, hz.step hb⟩; rfl) | (go_at_call 54; refine (HC4.out _ (HSD.out _ hz)).mono ?_; rintro e wy ⟨rfl, hb⟩; refine ⟨?_, hz.step hb⟩; rfl) | (go_at_call 29; refine (HC5.out _ (HSD.out _ hz)).mono ?_; rintro e wy ⟨rfl, hb⟩; refine ⟨?_, hz.step hb⟩; rfl) | (go_at_call 55; refine (HC6.out _ (HSD.out _ hz)).mono ?_; rintro e wy ⟨rfl, hb⟩; refine ⟨?_, hz.step hb⟩; rfl) | (go_at_call 26; refine (HC7.out _ (HSD.out _ hz)).mono ?_; rintro e wy ⟨rfl, hb⟩; refine ⟨?_, hz.step hb⟩; rfl) | (go_at_call 27; refine (HC8.out _ (HSD.out _ hz)).mono ?_; rintro e wy ⟨rfl, hb⟩; refine ⟨?_, hz.step hb⟩; rfl))); (try simp only [Act.put, List.setIfInBounds_toArray, List.set_cons_zero, List.set_cons_succ]))
          | (refine SeqC.skip ?_ ?_; (· rfl); (try simp only [Act.put, List.setIfInBounds_toArray, List.set_cons_zero, List.set_cons_succ])))
        refine fun w6 hz => ?_
        have hb6 : Below w4.heap.size w4 w6 := HB5.out.trans (((Below.refl wz.heap.size wz).drew.trans hz.below).mono HB5.out.size)
        have HH6 := Lib.hid (HH3.out.keep hb6)
        have HB6 := Lib.hid (HB4.out.trans (hb6.mono HB4.out.size))
        clear hz hb6
        go_wp2_with fail
        go_roundw
        case rel => exact ⟨k + 1, _, F3, FR3, by omega, by omega, by go_num, HH6.out, HI3.out, HF3.out, HB6.out⟩
        case measure => simp [intOf]; omega
      · have hex : ¬ k < len2 ∨ (k < len2 ∧ ¬ k < 80) := by omega
        clear hgo
        rcases hex with h1 | ⟨h1, h2⟩
        all_goals
          go_wp2_with fail
          go_ret
          exact ⟨rfl, HBr.out⟩
  · have hok : badOk ⟨c, l, b, p, s⟩ xs = false := by simpa using hok
    have HBK := Lib.hid hok
    obtain ⟨hb, rfl⟩ := newN_no hp hok
    have hk := HG1.out.below hb; have k0 : w2.cell? ⟨w.heap.size, 0, none⟩ = some (.int .i64 c) := hk.cell 0; have k1 : w2.cell? ⟨w.heap.size, 1, none⟩ = some (.int .i64 l) := hk.cell 1; have k2 : w2.cell? ⟨w.heap.size, 2, none⟩ = some (.int .i64 b) := hk.cell 2; have k3 : w2.cell? ⟨w.heap.size, 3, none⟩ = some (.int .i64 p) := hk.cell 3; have k4 : w2.cell? ⟨w.heap.size, 4, none⟩ = some (.int .i64 s) := hk.cell 4; have hltk := hk.lt
    have HB2 := Lib.hid (HB1.out.trans (hb.mono HB1.out.size))
    clear hp hb hk hok HG
    (go_wp2_with fail); refine (ref08New_any ⟨c, l, b, p, s⟩ _ xs _ HW.out (HS.out.below HB2.out) (by omega)).mono ?_
    intro e w3 hp
    obtain ⟨hb, rfl⟩ := rnn_no hp HBK.out
    have HB3 := Lib.hid (HB2.out.trans (hb.mono HB2.out.size))
    clear hp hb k0 k1 k2 k3 k4 hltk
    simp only []
    go_wp2_with fail
    go_loopw [12] (fun t wr => t = .int .i64 0 ∧ Hid (Below w.heap.size w wr)) (fun _ _ => 0)
    case atStart => exact ⟨rfl, HB3.out⟩
    case round =>
      obtain ⟨rfl, HBr⟩ := hrel
      by_cases h0 : 0 < len2
      · have h0' : (0 : Int) < len2 := by omega
        go_wp2_with fail
        go_ret
        exact ⟨rfl, HBr.out⟩
      · obtain rfl : len2 = 0 := by omega
        go_wp2_with fail
        go_ret
        exact ⟨rfl, HBr.out⟩

end Go.Proofs.Ytlkapaecaeldpaa
