/-
  The walks of the laws over package l2p: L2pPlays.
-/
import Derived.Test.YtlkapaecaeldpaaLaw11g
set_option linter.unusedVariables false
set_option linter.unusedSimpArgs false
set_option maxRecDepth 16384
namespace Go.Proofs.Ytlkapaecaeldpaa
open Go.RowKit

set_option maxHeartbeats 4000000 in
theorem l2pPlaysWalk (g : Geo) (n : Int) (a0 : Option Addr) (len0 cap0 : Nat) (w : World) (hg : g.Wf) (hn : (Lit.int .i64 n).wf = true) (w0 : IsOps w a0 len0 cap0) :
    Calls Try.prog 3 #[g.v, .int .i64 n, .slice a0 len0 cap0] w fun e w' => e = .returned (.bool true) ∧ Below w.heap.size w w' := by
  have HW := Lib.hid hg
  have HI := Lib.hid (wf_i64 hn)
  obtain ⟨hll, hls⟩ := w0
  have HL := Lib.hid hls
  clear hg hls hn
  obtain ⟨c, l, b, p, s⟩ := g
  have HG := Lib.hid (Blk.new w 23 [.int .i64 c, .int .i64 l, .int .i64 b, .int .i64 p, .int .i64 s])
  unfold Geo.v
  go_enter Try.func3, Try.ntmps3
  (go_wp2_with fail); refine (awake11_any _).mono ?_
  rintro e w1 ⟨rfl, hb⟩
  have hk := HG.out.below hb; have k0 : w1.cell? ⟨w.heap.size, 0, none⟩ = some (.int .i64 c) := hk.cell 0; have k1 : w1.cell? ⟨w.heap.size, 1, none⟩ = some (.int .i64 l) := hk.cell 1; have k2 : w1.cell? ⟨w.heap.size, 2, none⟩ = some (.int .i64 b) := hk.cell 2; have k3 : w1.cell? ⟨w.heap.size, 3, none⟩ = some (.int .i64 p) := hk.cell 3; have k4 : w1.cell? ⟨w.heap.size, 4, none⟩ = some (.int .i64 s) := hk.cell 4; have hltk := hk.lt
  have HB1 := Lib.hid (((Below.refl w.heap.size w).alloc (Nat.le_refl _) _).trans (hb.mono (by simp)))
  clear hb hk
  (go_wp2_with fail); refine (both_any ⟨c, l, b, p, s⟩ n _ HW.out HI.out).mono ?_
  intro e w2 hp
  obtain ⟨hb, hp⟩ := hp
  have HB2 := Lib.hid (HB1.out.trans (hb.mono HB1.out.size))
  by_cases hno : newOk ⟨c, l, b, p, s⟩ n = true
  · rw [if_pos hno] at hp
    obtain ⟨B, C, m, kt, kw, vb, st', sw, r, v, rfl, hm, hr, hBB⟩ := hp
    have hBw : w.heap.size ≤ B := Nat.le_trans HB1.out.size hBB
    have HM2 := Lib.hid hm
    have HR2 := Lib.hid hr
    clear hm hr hb hno k0 k1 k2 k3 k4 hltk hBB
    simp only []
    go_wp2_with fail
    go_loopw [11] (fun t wr => ∃ (k : Nat) (to : List Ent), k ≤ len0 ∧ t = .int .i64 k ∧ Hid (MapAt wr B C m ⟨c, l, b, p, s⟩ to kt kw vb st' sw) ∧ Hid (∃ v, RefAt wr C r ⟨c, l, b, p, s⟩ to v) ∧ Hid (Below w.heap.size w wr)) (fun t _ => ((len0 : Int) - intOf t).toNat)
    case atStart => exact ⟨0, _, by omega, rfl, HM2.out, ⟨_, HR2.out⟩, HB2.out⟩
    case round =>
      obtain ⟨k, to, hkl, rfl, HMr, HRr, HBr⟩ := hrel
      by_cases hgo : k < len0 ∧ k < 100
      · obtain ⟨hlt, hk60⟩ := hgo
        obtain ⟨ab, off, rfl, habl, F, hF⟩ := HL.out (by omega)
        have hc := hF k hlt
        generalize F k = ov at hc
        obtain ⟨d, lba, f, t, ea, es, ek⟩ := ov
        have cell : ∀ j v, (OpV.l ⟨d, lba, f, t, ea, es, ek⟩)[j]? = some v → j < 7 → wr.cell? ⟨ab, off + k * 7 + j, none⟩ = some v := fun j v hv hj => by
          rw [HBr.out.cell (p := ⟨ab, off + k * 7 + j, none⟩) habl, hc j hj, hv]
        have c0 : wr.cell? ⟨ab, off + k * 7, none⟩ = some (.int .i64 d) := cell 0 _ rfl (by decide)
        have c1 : wr.cell? ⟨ab, off + k * 7 + 1, none⟩ = some (.int .i64 lba) := cell 1 _ rfl (by decide)
        have c2 : wr.cell? ⟨ab, off + k * 7 + 2, none⟩ = some (.int .i64 f) := cell 2 _ rfl (by decide)
        have c3 : wr.cell? ⟨ab, off + k * 7 + 3, none⟩ = some (.int .i64 t) := cell 3 _ rfl (by decide)
        have c4 : wr.cell? ⟨ab, off + k * 7 + 4, none⟩ = some (.int .i64 ea) := cell 4 _ rfl (by decide)
        have c5 : wr.cell? ⟨ab, off + k * 7 + 5, none⟩ = some (.int .i64 es) := cell 5 _ rfl (by decide)
        have c6 : wr.cell? ⟨ab, off + k * 7 + 6, none⟩ = some (.int .i64 ek) := cell 6 _ rfl (by decide)
        clear cell hc hF
        have hk0 : (0 : Int) ≤ k := by omega
        have hkl2 : (k : Int) < len0 := by omega
        obtain ⟨v', hv'⟩ := HRr.out
        have HV := Lib.hid hv'
        clear hv'
        (go_wp2_with fail); refine (does_any HMr.out HV.out ⟨d, lba, f, t, ea, es, ek⟩).mono ?_
        intro e2 w3 hp
        generalize doesTo ⟨c, l, b, p, s⟩ to ⟨d, lba, f, t, ea, es, ek⟩ = to2 at hp
        obtain ⟨rfl, hm3, ⟨v3, hr3⟩, hb3⟩ := hp
        have HM3 := Lib.hid hm3
        have HR3 := Lib.hid hr3
        have HB3 := Lib.hid (HBr.out.trans (hb3.mono hBw))
        clear hm3 hr3 hb3 c0 c1 c2 c3 c4 c5 c6
        (go_wp2_with fail); refine (mapMany_any HM3.out).mono ?_
        rintro e w4 ⟨rfl, rfl⟩
        (go_wp2_with fail); refine (ref11Many_any HR3.out HM3.out.len).mono ?_
        rintro e w4 ⟨rfl, rfl⟩
        go_wp2_with fail
        go_roundw
        case rel => exact ⟨k + 1, _, by omega, by go_num, HM3.out, ⟨_, HR3.out⟩, HB3.out⟩
        case measure => simp [intOf]; omega
      · have hex : ¬ k < len0 ∨ (k < len0 ∧ ¬ k < 100) := by omega
        clear hgo
        rcases hex with h1 | ⟨h1, h2⟩
        all_goals
          go_wp2_with fail
          go_ret
          exact ⟨rfl, HBr.out⟩
  · rw [if_neg hno] at hp
    subst hp
    clear hb k0 k1 k2 k3 k4 hltk hno
    go_wp2_with fail
    go_loopw [11] (fun t wr => t = .int .i64 0 ∧ Hid (Below w.heap.size w wr)) (fun t _ => 0)
    case atStart => exact ⟨rfl, HB2.out⟩
    case round =>
      obtain ⟨rfl, HBr⟩ := hrel
      by_cases h0 : 0 < len0
      · go_wp2_with fail
        go_ret
        exact ⟨rfl, HBr.out⟩
      · go_wp2_with fail
        go_ret
        exact ⟨rfl, HBr.out⟩

end Go.Proofs.Ytlkapaecaeldpaa
