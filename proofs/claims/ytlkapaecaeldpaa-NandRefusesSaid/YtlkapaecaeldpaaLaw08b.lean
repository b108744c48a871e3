/-
  The law's package over nand: awake.
-/
import Derived.Test.YtlkapaecaeldpaaLaw08
set_option linter.unusedVariables false
set_option linter.unusedSimpArgs false
set_option maxRecDepth 16384
namespace Go.Proofs.Ytlkapaecaeldpaa
open Go.RowKit

def gAw : Geo := ⟨1, 1, 2, 2, 1⟩
def sAw : NSt := (progTo gAw (newS []) 0 0 0 (secsD 1 5) (secsO 1 5 false)).2
theorem aw08_new : badOk gAw [] = true := by decide +kernel
theorem aw08_prog : (progTo gAw (newS []) 0 0 0 (secsD 1 5) (secsO 1 5 false)).1 = 0 := by decide +kernel
theorem aw08_read : readOf gAw sAw 0 = (secD 5 0, secO 5 0, 0) := by decide +kernel
theorem aw08_five : (secD 5 0)[0]? = some 5 := by decide +kernel

theorem newN_is {w : World} {g : Geo} {bad : List Int} {e : Ending} {w' : World} (h : NewNPost w g bad e w') (hk : badOk g bad = true) :
    Below w.heap.size w w' ∧ ∃ d F, e = .returned (.tuple #[.pointer (some ⟨d, 0, none⟩), .int .i64 0]) ∧ NandAt w' F d g (newS bad) ∧ ∀ k, F k → w.heap.size ≤ k := by
  obtain ⟨h1, h2⟩ := h
  rw [if_pos hk] at h2
  exact ⟨h1, h2⟩
theorem newN_no {w : World} {g : Geo} {bad : List Int} {e : Ending} {w' : World} (h : NewNPost w g bad e w') (hk : badOk g bad = false) : Below w.heap.size w w' ∧ e = .returned (.tuple #[.pointer none, .int .i64 1]) := by
  obtain ⟨h1, h2⟩ := h
  rw [if_neg (by rw [hk]; decide)] at h2
  exact ⟨h1, h2⟩

set_option maxHeartbeats 2000000 in
theorem awake08_any (w : World) :
    Calls Try.prog 20 #[] w fun e w' => e = .returned (.bool true) ∧ Below w.heap.size w w' := by
  have HG := Lib.hid (Blk.new w 23 [.int .i64 1, .int .i64 1, .int .i64 2, .int .i64 2, .int .i64 1])
  have HB0 : Hid (Below w.heap.size w (w.alloc (.cells #[.int .i64 1, .int .i64 1, .int .i64 2, .int .i64 2, .int .i64 1] 23))) := Lib.hid ((Below.refl w.heap.size w).alloc (Nat.le_refl _) _)
  go_enter Try.func20, Try.ntmps20
  (go_wp2_with fail); refine (nandNew_any gAw (.slice none 0 0) [] _ ⟨⟨by decide, by decide⟩, ⟨by decide, by decide⟩, ⟨by decide, by decide⟩, ⟨by decide, by decide⟩, ⟨by decide, by decide⟩⟩ (show Sl _ 0 (.slice none 0 0) (iv []) from (SlQ.nil _ (fun _ => True)).sl) (by simp)).mono ?_
  intro e w1 hp
  obtain ⟨hb, d, F, rfl, hn, hF⟩ := newN_is hp aw08_new
  have HN1 := Lib.hid hn
  have HF1 : Hid (∀ k, F k → w.heap.size ≤ k) := fun k hk => by have := hF k hk; simp at this; omega
  have HB1 := Lib.hid (HB0.out.trans (hb.mono (by simp)))
  have hg1 := HG.out.below hb
  have k0 : w1.cell? ⟨w.heap.size, 0, none⟩ = some (.int .i64 1) := hg1.cell 0
  have k1 : w1.cell? ⟨w.heap.size, 1, none⟩ = some (.int .i64 1) := hg1.cell 1
  have k2 : w1.cell? ⟨w.heap.size, 2, none⟩ = some (.int .i64 2) := hg1.cell 2
  have k3 : w1.cell? ⟨w.heap.size, 3, none⟩ = some (.int .i64 2) := hg1.cell 3
  have k4 : w1.cell? ⟨w.heap.size, 4, none⟩ = some (.int .i64 1) := hg1.cell 4
  have hgl := hg1.lt
  clear hp hb hn hF hg1
  (go_wp2_with fail); refine (sectors_any gAw 5 false _).mono ?_
  intro e w2 hp
  obtain ⟨vd, vo, bs, cs, rfl, hs, hbl, hb⟩ := hp
  have hbl1 : bs.length = 1 := hbl
  have HN2 := Lib.hid (HN1.out.below hb)
  have HB2 := Lib.hid (HB1.out.trans (hb.mono HB1.out.size))
  have hin := HN1.out.inF
  have hd2 := hs.slsD
  have ho2 := hs.slsO
  rw [hbl1] at hd2 ho2
  have hd3 : Sls w2 (Away F w2.heap.size) vd (secsD 1 5) := hd2.mono fun k hk hq => ⟨fun hf => by have := hin k hf; have := hq.1; omega, hk⟩
  have ho3 : Sls w2 (Away F w2.heap.size) vo (secsO 1 5 false) := ho2.mono fun k hk hq => ⟨fun hf => by have := hin k hf; have := hq.1; omega, hk⟩
  have HD := Lib.hid hd3
  have HO := Lib.hid ho3
  clear hs hbl hbl1 hb hin hd2 ho2 hd3 ho3 k0 k1 k2 k3 k4 hgl
  simp only []
  (go_wp2_with fail); refine (nandProgram_any HN2.out 0 0 0 vd vo _ _ HD.out HO.out).mono ?_
  intro e w3 hp
  obtain ⟨rfl, F3, hn, hof, hfr⟩ := hp
  rw [aw08_prog]
  have HN3 : Hid (NandAt w3 F3 d gAw sAw) := hn
  have HB3 := Lib.hid (HB2.out.trans (hof.toBelow (B := w.heap.size) HF1.out HB2.out.size))
  clear hn hof hfr
  (go_wp2_with fail); refine (nandRead_any HN3.out 0).mono ?_
  intro e w4 hp
  rw [aw08_read] at hp
  obtain ⟨va, vb, rfl, oa, ob, hb⟩ := hp
  have HB4 := Lib.hid (HB3.out.trans (hb.mono HB3.out.size))
  rw [secD_length] at oa
  rw [secO_length] at ob
  obtain ⟨ga, ca, rfl⟩ := own_form oa (by decide)
  obtain ⟨gb, cb, rfl⟩ := own_form ob (by decide)
  have hc : w4.cell? ⟨ga, 0, none⟩ = some (.int .u8 5) := by
    rw [oa.cellAt _ (by decide)]
    unfold bv
    rw [List.getElem?_map, aw08_five]; rfl
  have hgl := World.block_lt_of_cell? w4 _ hc
  clear oa ob hb
  simp only []
  go_wp2_with fail
  go_ret
  exact ⟨rfl, HB4.out⟩

end Go.Proofs.Ytlkapaecaeldpaa
