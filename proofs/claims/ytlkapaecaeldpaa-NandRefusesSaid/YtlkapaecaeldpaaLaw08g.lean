/-
  The law's package over nand: begun.
-/
import Derived.Test.YtlkapaecaeldpaaLaw08f
set_option linter.unusedVariables false
set_option linter.unusedSimpArgs false
set_option maxRecDepth 16384
namespace Go.Proofs.Ytlkapaecaeldpaa
open Go.RowKit

theorem Op8.In.doing {w wr : World} {o : Op8} (h : o.In w) (hb : Below w.heap.size w wr) {F FR : Nat → Prop} (hF : ∀ k, F k → w.heap.size ≤ k) (hFR : ∀ k, FR k → w.heap.size ≤ k) : Doing wr F FR o (o.zs.take o.pl) := by
  obtain ⟨hr, hp⟩ := h
  have hlen : (o.zs.take o.pl).length = o.pl := by
    rcases hr with ⟨h1, h2, h3, h4⟩ | ⟨x, h1, h2, h3, h4, h5, h6⟩
    · rw [h2, h4]; rfl
    · rw [List.length_take]; omega
  refine ⟨fun h100 => ?_, hlen.symm, fun x hx => ?_, hp⟩
  · have hs := (hr.sl (by omega)).1
    have h2 : SlQ w (fun k => 0 ≤ k ∧ k < w.heap.size) (.slice o.pa o.pl o.pc) (bv (o.zs.take o.pl)) := SlQ.of_sl hs
    exact (h2.keep hb.size fun k hk _ => hb.block k hk).mono fun k hk hq => ⟨fun q => by have := hF k q; omega, fun q => by have := hFR k q; omega, hk⟩
  · rcases hr with ⟨h1, h2, h3, h4⟩ | ⟨x, h1, h2, h3, h4, h5, h6⟩
    · rw [h4] at hx; simp at hx
    · exact wf_u8 (h6 _ (List.mem_of_mem_take hx))

theorem badOk_nil (g : Geo) : badOk g [] = g.okB := by
  unfold badOk
  simp

/-- how it ends -/
def BegunPost (w : World) (g : Geo) (e : Ending) (w' : World) : Prop :=
  Below w.heap.size w w' ∧ if g.okB = true then ∃ d F S, e = .returned (.pointer (some ⟨d, 0, none⟩)) ∧ NandAt w' F d g S ∧ SInv g S ∧ S.off = false ∧ S.plan = [] ∧ ∀ k, F k → w.heap.size ≤ k else e = .returned (.pointer none)
theorem begun_is {w : World} {g : Geo} {e : Ending} {w' : World} (h : BegunPost w g e w') (hk : g.okB = true) : Below w.heap.size w w' ∧ ∃ d F S, e = .returned (.pointer (some ⟨d, 0, none⟩)) ∧ NandAt w' F d g S ∧ SInv g S ∧ S.off = false ∧ S.plan = [] ∧ ∀ k, F k → w.heap.size ≤ k := by
  obtain ⟨h1, h2⟩ := h
  rw [if_pos hk] at h2
  exact ⟨h1, h2⟩
theorem begun_no {w : World} {g : Geo} {e : Ending} {w' : World} (h : BegunPost w g e w') (hk : g.okB = false) : Below w.heap.size w w' ∧ e = .returned (.pointer none) := by
  obtain ⟨h1, h2⟩ := h
  rw [if_neg (by rw [hk]; decide)] at h2
  exact ⟨h1, h2⟩

set_option maxHeartbeats 4000000 in
theorem begun_any (g : Geo) (a1 : Option Addr) (len1 cap1 : Nat) (w0 w : World) (hg : g.Wf) (w1 : IsOps8 w0 a1 len1 cap1) (hw : Below w0.heap.size w0 w) :
    Calls Try.prog 44 #[g.v, .slice a1 len1 cap1] w fun e w' => BegunPost w g e w' := by
  have HW := Lib.hid hg
  obtain ⟨hll, hls⟩ := w1
  have HL := Lib.hid hls
  have HW0 := Lib.hid hw
  clear hg hls hw
  obtain ⟨c, l, b, p, s⟩ := g
  have HG := Lib.hid (Blk.new w 23 [.int .i64 c, .int .i64 l, .int .i64 b, .int .i64 p, .int .i64 s])
  have HB0 : Hid (Below w.heap.size w (w.alloc (.cells #[.int .i64 c, .int .i64 l, .int .i64 b, .int .i64 p, .int .i64 s] 23))) := Lib.hid ((Below.refl w.heap.size w).alloc (Nat.le_refl _) _)
  have HSZ : Hid ((w.alloc (.cells #[.int .i64 c, .int .i64 l, .int .i64 b, .int .i64 p, .int .i64 s] 23)).heap.size = w.heap.size + 1) := by show _ = _; simp
  unfold Geo.v
  go_enter Try.func44, Try.ntmps44
  (go_wp2_with fail); refine (nandNew_any ⟨c, l, b, p, s⟩ (.slice none 0 0) [] _ HW.out (show Sl _ 0 (.slice none 0 0) (iv []) from (SlQ.nil _ (fun _ => True)).sl) (by simp)).mono ?_
  intro e w1 hp
  by_cases hok : (⟨c, l, b, p, s⟩ : Geo).okB = true
  · have hbk : badOk ⟨c, l, b, p, s⟩ [] = true := by rw [badOk_nil]; exact hok
    have HOK := Lib.hid hok
    have HBK := Lib.hid hbk
    obtain ⟨hb, d, F, rfl, hn, hF⟩ := newN_is hp hbk
    have HN1 := Lib.hid hn
    have HF1 := Lib.hid hF
    have hk := HG.out.below hb; have k0 : w1.cell? ⟨w.heap.size, 0, none⟩ = some (.int .i64 c) := hk.cell 0; have k1 : w1.cell? ⟨w.heap.size, 1, none⟩ = some (.int .i64 l) := hk.cell 1; have k2 : w1.cell? ⟨w.heap.size, 2, none⟩ = some (.int .i64 b) := hk.cell 2; have k3 : w1.cell? ⟨w.heap.size, 3, none⟩ = some (.int .i64 p) := hk.cell 3; have k4 : w1.cell? ⟨w.heap.size, 4, none⟩ = some (.int .i64 s) := hk.cell 4; have hltk := hk.lt
    have HB1 := Lib.hid (HB0.out.trans (hb.mono HB0.out.size))
    have hs1 := hb.size
    clear hp hb hk hn hF hok hbk HG
    (go_wp2_with fail); refine (ref08New_any ⟨c, l, b, p, s⟩ (.slice none 0 0) [] _ HW.out (show Sl _ 0 (.slice none 0 0) (iv []) from (SlQ.nil _ (fun _ => True)).sl) (by simp)).mono ?_
    intro e w2 hp
    obtain ⟨hb, r, G, rfl, hr, hG⟩ := rnn_is hp HBK.out
    have hin := HN1.out.inF
    have HH2 : Hid (Both w2 F G d r ⟨c, l, b, p, s⟩ (newS []) (newS []) 0) := ⟨HN1.out.below hb, hr, fun k h1 h2 => by have := hin k h1; have := hG k h2; omega⟩
    have HI2 := Lib.hid (SInv.new ⟨c, l, b, p, s⟩ (by have := (Geo.ok_of HOK.out).p; simp only at this ⊢; omega) [])
    have HF2 : Hid ((∀ k, F k → w.heap.size ≤ k) ∧ ∀ k, G k → w.heap.size ≤ k) := ⟨fun k hk => by have := HF1.out k hk; have := HSZ.out; omega, fun k hk => by have := hG k hk; have := HB1.out.size; omega⟩
    have HB2 := Lib.hid (HB1.out.trans (hb.mono HB1.out.size))
    clear hp hb hr hG hin hs1 k0 k1 k2 k3 k4 hltk HN1 HF1
    simp only []
    go_wp2_with fail
    go_loopw [9] (fun t wr => ∃ (k : Nat) (S : NSt) (F' FR' : Nat → Prop), k ≤ len1 ∧ k ≤ 40 ∧ t = .int .i64 k ∧ Hid (Both wr F' FR' d r ⟨c, l, b, p, s⟩ S S k) ∧ Hid (SInv ⟨c, l, b, p, s⟩ S) ∧ Hid ((∀ k, F' k → w.heap.size ≤ k) ∧ ∀ k, FR' k → w.heap.size ≤ k) ∧ Hid (Below w.heap.size w wr)) (fun t _ => ((len1 : Int) - intOf t).toNat)
    case atStart => exact ⟨0, _, F, G, by omega, by omega, rfl, HH2.out, HI2.out, HF2.out, HB2.out⟩
    case round =>
      obtain ⟨k, S, F', FR', hkl, hk40, rfl, HHr, HIr, HFr, HBr⟩ := hrel
      by_cases hgo : k < len1 ∧ k < 40
      · obtain ⟨hlt, hk60⟩ := hgo
        obtain ⟨ab, off, rfl, habl, Fo, hFo⟩ := HL.out (by omega)
        obtain ⟨hoin, hc⟩ := hFo k hlt
        have hbr0 : Below w0.heap.size w0 wr := HW0.out.trans (HBr.out.mono HW0.out.size)
        have hsz0 := HW0.out.size
        have HDO := Lib.hid (hoin.doing hbr0 (fun k hk => Nat.le_trans hsz0 (HFr.out.1 k hk)) (fun k hk => Nat.le_trans hsz0 (HFr.out.2 k hk)))
        generalize Fo k = ov at hc HDO
        have HDA : Hid (∃ zs, (∀ x ∈ zs, IsB x) ∧ Doing wr F' FR' ov zs) := Lib.hid ⟨_, HDO.out.isB, HDO.out⟩
        clear HDO hoin hFo
        obtain ⟨od, ou, obk, op, on, oodd, pa, pl, pc, zs0⟩ := ov
        have cell : ∀ j v, (Op8.l ⟨od, ou, obk, op, on, oodd, pa, pl, pc, zs0⟩)[j]? = some v → j < 7 → wr.cell? ⟨ab, off + k * 7 + j, none⟩ = some v := fun j v hv hj => by
          rw [hbr0.cell (p := ⟨ab, off + k * 7 + j, none⟩) habl, hc j hj, hv]
        have c0 : wr.cell? ⟨ab, off + k * 7, none⟩ = some (.int .i64 od) := cell 0 _ rfl (by decide)
        have c1 : wr.cell? ⟨ab, off + k * 7 + 1, none⟩ = some (.int .i64 ou) := cell 1 _ rfl (by decide)
        have c2 : wr.cell? ⟨ab, off + k * 7 + 2, none⟩ = some (.int .i64 obk) := cell 2 _ rfl (by decide)
        have c3 : wr.cell? ⟨ab, off + k * 7 + 3, none⟩ = some (.int .i64 op) := cell 3 _ rfl (by decide)
        have c4 : wr.cell? ⟨ab, off + k * 7 + 4, none⟩ = some (.int .i64 on) := cell 4 _ rfl (by decide)
        have c5 : wr.cell? ⟨ab, off + k * 7 + 5, none⟩ = some (.bool oodd) := cell 5 _ rfl (by decide)
        have c6 : wr.cell? ⟨ab, off + k * 7 + 6, none⟩ = some (.slice pa pl pc) := cell 6 _ rfl (by decide)
        clear cell hc hbr0 hsz0
        obtain ⟨zs, hzs, hdo⟩ := HDA.out
        have HI3 := Lib.hid (HIr.out.step HOK.out (Op8.p8 ⟨od, ou, obk, op, on, oodd, pa, pl, pc, zs0⟩ zs) hzs)
        have HDO := Lib.hid hdo
        have hk0 : (0 : Int) ≤ k := by omega
        have hkl2 : (k : Int) < len1 := by omega
        clear HDA hzs hdo
        (go_wp2_with fail); refine (does_any HHr.out (by omega) HIr.out ⟨od, ou, obk, op, on, oodd, pa, pl, pc, zs0⟩ zs HDO.out).mono ?_
        intro e w3 hp
        obtain ⟨rfl, F3, FR3, hh3, hs3⟩ := hp
        have HH3 := Lib.hid hh3
        have HF3 : Hid ((∀ k, F3 k → w.heap.size ≤ k) ∧ ∀ k, FR3 k → w.heap.size ≤ k) := by
          have := HBr.out.size
          exact ⟨fun k hk => (hs3.fd k hk).elim (HFr.out.1 k) fun q => by omega, fun k hk => (hs3.fr k hk).elim (HFr.out.2 k) fun q => by omega⟩
        have HB3 := Lib.hid (HBr.out.trans (hs3.only.toBelow (B := w.heap.size) (fun k hk => hk.elim (HFr.out.1 k) (HFr.out.2 k)) HBr.out.size))
        clear hh3 hs3 c0 c1 c2 c3 c4 c5 c6
        go_wp2_with fail
        go_roundw
        case rel => exact ⟨k + 1, _, F3, FR3, by omega, by omega, by go_num, HH3.out, HI3.out, HF3.out, HB3.out⟩
        case measure => simp [intOf]; omega
      · have hex : ¬ k < len1 ∨ (k < len1 ∧ ¬ k < 40) := by omega
        clear hgo
        rcases hex with h1 | ⟨h1, h2⟩
        all_goals
          (go_wp2_with fail); refine (nandPower_any HHr.out.dn).mono ?_
          intro e w3 hp
          obtain ⟨rfl, F3, hn3, ho3, hf3⟩ := hp
          have HN3 := Lib.hid hn3
          have HF3 : Hid (∀ k, F3 k → w.heap.size ≤ k) := fun k hk => (hf3 k hk).elim (HFr.out.1 k) fun q => by have := HBr.out.size; omega
          have HB3 := Lib.hid (HBr.out.trans (ho3.toBelow (B := w.heap.size) HFr.out.1 HBr.out.size))
          clear hn3 ho3 hf3
          (go_wp2_with fail); refine (nandPlan_any HN3.out (.slice none 0 0) [] (SlQ.nil _ (fun _ => True)).sl (fun x hx => absurd hx (by simp))).mono ?_
          intro e w4 hp
          obtain ⟨rfl, F4, hn4, ho4, hf4⟩ := hp
          have HFIN : Hid (BegunPost w ⟨c, l, b, p, s⟩ (.returned (.pointer (some ⟨d, 0, none⟩))) w4) := by
            refine ⟨HB3.out.trans (ho4.toBelow (B := w.heap.size) HF3.out HB3.out.size), ?_⟩
            rw [if_pos HOK.out]
            exact ⟨d, F4, _, rfl, hn4, (HIr.out.same rfl rfl (fun x hx => absurd hx (by simp))), rfl, rfl, fun k hk => (hf4 k hk).elim (HF3.out k) fun q => by have := HB3.out.size; omega⟩
          clear hn4 ho4 hf4
          go_wp2_with fail
          go_ret
          exact HFIN.out
  · have hok : (⟨c, l, b, p, s⟩ : Geo).okB = false := by simpa using hok
    have hbk : badOk ⟨c, l, b, p, s⟩ [] = false := by rw [badOk_nil]; exact hok
    have HOK := Lib.hid hok
    have HBK := Lib.hid hbk
    obtain ⟨hb, rfl⟩ := newN_no hp hbk
    have hk := HG.out.below hb; have k0 : w1.cell? ⟨w.heap.size, 0, none⟩ = some (.int .i64 c) := hk.cell 0; have k1 : w1.cell? ⟨w.heap.size, 1, none⟩ = some (.int .i64 l) := hk.cell 1; have k2 : w1.cell? ⟨w.heap.size, 2, none⟩ = some (.int .i64 b) := hk.cell 2; have k3 : w1.cell? ⟨w.heap.size, 3, none⟩ = some (.int .i64 p) := hk.cell 3; have k4 : w1.cell? ⟨w.heap.size, 4, none⟩ = some (.int .i64 s) := hk.cell 4; have hltk := hk.lt
    have HB1 := Lib.hid (HB0.out.trans (hb.mono HB0.out.size))
    clear hp hb hk hok hbk HG
    (go_wp2_with fail); refine (ref08New_any ⟨c, l, b, p, s⟩ (.slice none 0 0) [] _ HW.out (show Sl _ 0 (.slice none 0 0) (iv []) from (SlQ.nil _ (fun _ => True)).sl) (by simp)).mono ?_
    intro e w2 hp
    obtain ⟨hb, rfl⟩ := rnn_no hp HBK.out
    have HFIN : Hid (BegunPost w ⟨c, l, b, p, s⟩ (.returned (.pointer none)) w2) := by
      refine ⟨HB1.out.trans (hb.mono HB1.out.size), ?_⟩
      rw [if_neg (by rw [HOK.out]; decide)]
    clear hp hb k0 k1 k2 k3 k4 hltk
    simp only []
    go_wp2_with fail
    go_ret
    exact HFIN.out

end Go.Proofs.Ytlkapaecaeldpaa
