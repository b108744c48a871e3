/-
  The walks of the laws over package l2p: L2pThere.
-/
import Derived.Test.YtbfpnpoafepjjaaLaw11
import Derived.Test.YtbfpnpoafepjjaaGeom2
set_option linter.unusedVariables false
set_option linter.unusedSimpArgs false
set_option maxRecDepth 16384
namespace Go.Proofs.Ytbfpnpoafepjjaa
open Go.RowKit

theorem MapAt.sinceD {w w' : World} {B C m : Nat} {g : Geo} {to : List Ent} {kt kw vb : Nat} {st sw : Shards} (h : MapAt w B C m g to kt kw vb st sw) (hz : Since w.drew w') : MapAt w' B C m g to kt kw vb st sw := ⟨h.raw.since hz, h.len, h.ok, h.fine⟩

set_option maxHeartbeats 4000000 in
theorem l2pThereWalk (g : Geo) (x0 x1 x2 st : Int) (w : World) (hg : g.Wf) (hi : ∀ m ∈ [x0, x1, x2], IsInt m) (hs : (Lit.int .i64 st).wf = true) :
    Calls Try.prog 13 #[g.v, .agg #[.int .i64 x0, .int .i64 x1, .int .i64 x2], .int .i64 st] w fun e w' => e = .returned (.bool true) ∧ Below w.heap.size w w' := by
  have HW := Lib.hid hg
  clear hg hi hs
  have HTH := Lib.hid (there_all g x0 x1 x2 st)
  have HTE := Lib.hid (there_end g x0 x1 x2 st)
  have hnok : ∀ b, newOk g 2 = b → newOk g 2 = b := fun _ h => h
  obtain ⟨c, l, b, p, s⟩ := g
  have HG := Lib.hid ((Blk.new w 23 [.int .i64 c, .int .i64 l, .int .i64 b, .int .i64 p, .int .i64 s]).alloc (.cells #[.int .i64 x0, .int .i64 x1, .int .i64 x2] 69))
  have HX := Lib.hid (Blk.new1 w (.cells #[.int .i64 c, .int .i64 l, .int .i64 b, .int .i64 p, .int .i64 s] 23) 69 [.int .i64 x0, .int .i64 x1, .int .i64 x2])
  unfold Geo.v
  go_enter Try.func13, Try.ntmps13
  (go_wp2_with fail); refine (awake11_any _).mono ?_
  rintro e w1 ⟨rfl, hb⟩
  have hx := HX.out.below hb
  have hk := HG.out.below hb; have k0 : w1.cell? ⟨w.heap.size, 0, none⟩ = some (.int .i64 c) := hk.cell 0; have k1 : w1.cell? ⟨w.heap.size, 1, none⟩ = some (.int .i64 l) := hk.cell 1; have k2 : w1.cell? ⟨w.heap.size, 2, none⟩ = some (.int .i64 b) := hk.cell 2; have k3 : w1.cell? ⟨w.heap.size, 3, none⟩ = some (.int .i64 p) := hk.cell 3; have k4 : w1.cell? ⟨w.heap.size, 4, none⟩ = some (.int .i64 s) := hk.cell 4; have hltk := hk.lt
  have HG1 := Lib.hid hk
  have HX1 := Lib.hid hx
  have HB1 := Lib.hid ((((Below.refl w.heap.size w).alloc (Nat.le_refl _) (.cells #[.int .i64 c, .int .i64 l, .int .i64 b, .int .i64 p, .int .i64 s] 23)).alloc (by simp) (.cells #[.int .i64 x0, .int .i64 x1, .int .i64 x2] 69)).trans (hb.mono (by simp; omega)))
  clear hb hk hx
  (go_wp2_with fail); refine (l2pNew_any ⟨c, l, b, p, s⟩ 2 _ HW.out ⟨by decide, by decide⟩).mono ?_
  intro e w2 hp
  by_cases hno : newOk ⟨c, l, b, p, s⟩ 2 = true
  · obtain ⟨hb, m, kt, kw, vb, st', sw, rfl, hm⟩ := newPost_ok hp hno
    have HM2 := Lib.hid hm
    have hx := HX1.out.below hb
    have hk := HG1.out.below hb; have k0 : w2.cell? ⟨w.heap.size, 0, none⟩ = some (.int .i64 c) := hk.cell 0; have k1 : w2.cell? ⟨w.heap.size, 1, none⟩ = some (.int .i64 l) := hk.cell 1; have k2 : w2.cell? ⟨w.heap.size, 2, none⟩ = some (.int .i64 b) := hk.cell 2; have k3 : w2.cell? ⟨w.heap.size, 3, none⟩ = some (.int .i64 p) := hk.cell 3; have k4 : w2.cell? ⟨w.heap.size, 4, none⟩ = some (.int .i64 s) := hk.cell 4; have hltk := hk.lt
    have y0 : w2.cell? ⟨w.heap.size + 1, 0, none⟩ = some (.int .i64 x0) := hx.cell 0
    have y1 : w2.cell? ⟨w.heap.size + 1, 1, none⟩ = some (.int .i64 x1) := hx.cell 1
    have y2 : w2.cell? ⟨w.heap.size + 1, 2, none⟩ = some (.int .i64 x2) := hx.cell 2
    have hXB : w.heap.size + 1 < w1.heap.size := HX1.out.lt
    have hCC : w2.heap.size ≤ w2.heap.size := Nat.le_refl _
    have HG2 := Lib.hid hk
    have HX2 := Lib.hid hx
    have HB2 := Lib.hid (HB1.out.trans (hb.mono HB1.out.size))
    have HA := Lib.hid (fun wy => geomAll_ok ⟨c, l, b, p, s⟩ hm.ok wy)
    generalize hBB : w1.heap.size = B at HM2 hXB
    generalize hCC2 : w2.heap.size = C at HM2
    clear hp hm hb hk hx hnok hCC
    unfold Geo.v at HA
    by_cases h01 : x0 = x1
    · have hb1 : (x0 == x1) = true := by simp [h01]
      clear HTH HTE h01
      go_wp2_with fail
      go_ret
      exact ⟨rfl, HB2.out⟩
    by_cases h02 : x0 = x2
    · have hb1 : (x0 == x1) = false := by simp [h01]
      have hb2 : (x0 == x2) = true := by simp [h02]
      clear HTH HTE h01 h02
      go_wp2_with fail
      go_ret
      exact ⟨rfl, HB2.out⟩
    by_cases h12 : x1 = x2
    · have hb1 : (x0 == x1) = false := by simp [h01]
      have hb2 : (x0 == x2) = false := by simp [h02]
      have hb3 : (x1 == x2) = true := by simp [h12]
      clear HTH HTE h01 h02 h12
      go_wp2_with fail
      go_ret
      exact ⟨rfl, HB2.out⟩
    have hb1 : (x0 == x1) = false := by simp [h01]
    have hb2 : (x0 == x2) = false := by simp [h02]
    have hb3 : (x1 == x2) = false := by simp [h12]
    have H01 := Lib.hid (And.intro h01 (And.intro h02 h12))
    clear h01 h02 h12
    go_wp2_with fail
    go_loopw [10] (fun t wr => ∃ k : Nat, k ≤ 3 ∧ t = .int .i64 k ∧ Hid (∀ j, j < k → 0 ≤ [x0, x1, x2].getD j 0 ∧ [x0, x1, x2].getD j 0 < Geo.all ⟨c, l, b, p, s⟩) ∧ Hid (MapAt wr B C m ⟨c, l, b, p, s⟩ (List.replicate (2 : Int).toNat Ent.none) kt kw vb st' sw) ∧ Hid (Blk wr w.heap.size 23 [.int .i64 c, .int .i64 l, .int .i64 b, .int .i64 p, .int .i64 s]) ∧ Hid (Blk wr (w.heap.size + 1) 69 [.int .i64 x0, .int .i64 x1, .int .i64 x2]) ∧ Hid (Below w.heap.size w wr)) (fun t _ => ((3 : Int) - intOf t).toNat)
    case atStart => exact ⟨0, by decide, rfl, fun j hj => by omega, HM2.out, HG2.out, HX2.out, HB2.out⟩
    case round =>
      obtain ⟨k, hk3, rfl, HT, HMr, HGr, HXr, HBr⟩ := hrel
      have hkr := HGr.out
      have k0 : wr.cell? ⟨w.heap.size, 0, none⟩ = some (.int .i64 c) := hkr.cell 0; have k1 : wr.cell? ⟨w.heap.size, 1, none⟩ = some (.int .i64 l) := hkr.cell 1; have k2 : wr.cell? ⟨w.heap.size, 2, none⟩ = some (.int .i64 b) := hkr.cell 2; have k3 : wr.cell? ⟨w.heap.size, 3, none⟩ = some (.int .i64 p) := hkr.cell 3; have k4 : wr.cell? ⟨w.heap.size, 4, none⟩ = some (.int .i64 s) := hkr.cell 4
      clear hkr y0 y1 y2
      by_cases hlt : k < 3
      · obtain ⟨xv, hxv⟩ : ∃ v, [x0, x1, x2].getD k 0 = v := ⟨_, rfl⟩
        have yk : wr.cell? ⟨w.heap.size + 1, k, none⟩ = some (.int .i64 xv) := by
          rw [HXr.out.cell, ← hxv]
          rcases (show k = 0 ∨ k = 1 ∨ k = 2 by omega) with rfl | rfl | rfl <;> rfl
        have HXV := Lib.hid hxv
        have hy := HXr.out.lt
        clear hxv
        obtain ⟨A, hA⟩ : ∃ A, Geo.all ⟨c, l, b, p, s⟩ = A := ⟨_, rfl⟩
        have HA2 := HA.out
        rw [hA] at HA2
        have HA3 := Lib.hid HA2
        have HAE := Lib.hid hA
        clear HA2 hA
        have hk0 : (0 : Int) ≤ k := by omega
        have hk4 : (k : Int) < 3 := by omega
        by_cases hx0 : xv < 0
        · have hd : decide (xv < 0) = true := decide_eq_true hx0
          go_wp2_with fail
          refine wp_region_b 11 (by kernel_rfl) (by kernel_rfl) ?_
          simp only [List.take_succ_cons, List.take_zero, List.drop_succ_cons, List.drop_zero]
          repeat (first
            | (refine SeqC.run (v := ?_) ?_ (fun wz hz => ?_) ?_; rotate_left; (· rfl); (· have hzc := hz.cell; have hzf := hz.frozen; go_simp; first | exact UponS.value hz | exact UponS.skip hz | (refine UponS.call ?_; (go_at_call 44; refine (HA3.out _).mono ?_; rintro e wy ⟨rfl, hb⟩; refine ⟨?_, hz.step hb⟩; rfl))); (try simp only [Act.put, List.setIfInBounds_toArray, List.set_cons_zero, List.set_cons_succ]))
            | (refine SeqC.skip ?_ ?_; (· rfl); (try simp only [Act.put, List.setIfInBounds_toArray, List.set_cons_zero, List.set_cons_succ])))
          refine fun wz hz => ?_
          go_wp2
          go_ret
          exact ⟨rfl, HBr.out.drew.trans (hz.below.mono HBr.out.size)⟩
        by_cases hx9 : A ≤ xv
        · have hd : decide (xv < 0) = false := decide_eq_false hx0
          have hd2 : decide (A ≤ xv) = true := decide_eq_true hx9
          go_wp2_with fail
          refine wp_region_b 11 (by kernel_rfl) (by kernel_rfl) ?_
          simp only [List.take_succ_cons, List.take_zero, List.drop_succ_cons, List.drop_zero]
          repeat (first
            | (refine SeqC.run (v := ?_) ?_ (fun wz hz => ?_) ?_; rotate_left; (· rfl); (· have hzc := hz.cell; have hzf := hz.frozen; go_simp; first | exact UponS.value hz | exact UponS.skip hz | (refine UponS.call ?_; (go_at_call 44; refine (HA3.out _).mono ?_; rintro e wy ⟨rfl, hb⟩; refine ⟨?_, hz.step hb⟩; rfl))); (try simp only [Act.put, List.setIfInBounds_toArray, List.set_cons_zero, List.set_cons_succ]))
            | (refine SeqC.skip ?_ ?_; (· rfl); (try simp only [Act.put, List.setIfInBounds_toArray, List.set_cons_zero, List.set_cons_succ])))
          refine fun wz hz => ?_
          go_wp2
          go_ret
          exact ⟨rfl, HBr.out.drew.trans (hz.below.mono HBr.out.size)⟩
        have hd : decide (xv < 0) = false := decide_eq_false hx0
        have hd2 : decide (A ≤ xv) = false := decide_eq_false hx9
        go_wp2_with fail
        refine wp_region_b 11 (by kernel_rfl) (by kernel_rfl) ?_
        simp only [List.take_succ_cons, List.take_zero, List.drop_succ_cons, List.drop_zero]
        repeat (first
          | (refine SeqC.run (v := ?_) ?_ (fun wz hz => ?_) ?_; rotate_left; (· rfl); (· have hzc := hz.cell; have hzf := hz.frozen; go_simp; first | exact UponS.value hz | exact UponS.skip hz | (refine UponS.call ?_; (go_at_call 44; refine (HA3.out _).mono ?_; rintro e wy ⟨rfl, hb⟩; refine ⟨?_, hz.step hb⟩; rfl))); (try simp only [Act.put, List.setIfInBounds_toArray, List.set_cons_zero, List.set_cons_succ]))
          | (refine SeqC.skip ?_ ?_; (· rfl); (try simp only [Act.put, List.setIfInBounds_toArray, List.set_cons_zero, List.set_cons_succ])))
        refine fun wz hz => ?_
        go_wp2
        go_roundw
        case rel =>
          refine ⟨k + 1, by omega, by go_num, fun j hj => ?_, HMr.out.sinceD hz, HGr.out.drew.below hz.below, HXr.out.drew.below hz.below, HBr.out.drew.trans (hz.below.mono HBr.out.size)⟩
          by_cases hjk : j = k
          · rw [hjk, HXV.out, HAE.out]; omega
          · exact HT.out j (by omega)
        case measure => simp [intOf]; omega
      · obtain rfl : k = 3 := by omega
        have h0 := HT.out 0 (by decide)
        have h1 := HT.out 1 (by decide)
        have h2 := HT.out 2 (by decide)
        simp only [List.getD_cons_zero, List.getD_cons_succ] at h0 h1 h2
        have HH := Lib.hid (And.intro h0 (And.intro h1 h2))
        clear h0 h1 h2
        by_cases hs1 : st < 1
        · go_wp2_with fail
          go_ret
          exact ⟨rfl, HBr.out⟩
        by_cases hs2 : 1125899906842624 < st
        · go_wp2_with fail
          go_ret
          exact ⟨rfl, HBr.out⟩
        obtain ⟨q1, q2, q3, q4, q5, q6, q7⟩ := HTH.out HH.out.1 HH.out.2.1 HH.out.2.2 H01.out.1 H01.out.2.1 H01.out.2.2 ⟨by omega, by omega⟩
        obtain ⟨q8, q9⟩ := HTE.out HH.out.1.1 HH.out.2.2.1 H01.out.1 H01.out.2.2
        have HQ1 := Lib.hid q1
        have HQ2 := Lib.hid q2
        have HQ3 := Lib.hid q3
        have HQ4 := Lib.hid q4
        have HQ5 := Lib.hid q5
        have HQ6 := Lib.hid q6
        have HQ7 := Lib.hid q7
        have HQ8 := Lib.hid q8
        have HQ9 := Lib.hid q9
        clear q1 q2 q3 q4 q5 q6 q7 q8 q9 HTH HTE HT
        have hb : Below wr.heap.size wr (wr.alloc (.cells #[.int .i64 x0, .int .i64 st, .int .i64 1] 55)) := (Below.refl wr.heap.size wr).alloc (Nat.le_refl _) _
        have HMf := Lib.hid (HMr.out.below hb)
        have HXf := Lib.hid (HXr.out.below hb)
        have HBf := Lib.hid (HBr.out.trans (hb.mono HBr.out.size))
        have hF := Blk.new wr 55 [.int .i64 x0, .int .i64 st, .int .i64 1]
        have hCF : C ≤ wr.heap.size := HMr.out.raw.top
        have xx0 : wr.cell? ⟨w.heap.size + 1, 0, none⟩ = some (.int .i64 x0) := HXr.out.cell 0
        have hxl0 := HXr.out.lt
        have HFf := Lib.hid hF
        clear hF hb
        (go_wp2_with fail); refine (mapSet_any HMf.out 0 ⟨x0, st, 1⟩).mono ?_
        intro e w3 hp
        generalize hff : wr.heap.size = f at HFf hCF ⊢
        obtain ⟨rfl, hm, ho⟩ := opPost_is hp HQ1.out
        have hx := HXf.out.only ho (.inl hXB)
        have hf := HFf.out.only ho (.inr hCF)
        have x0c : w3.cell? ⟨w.heap.size + 1, 0, none⟩ = some (.int .i64 x0) := hx.cell 0
        have x1c : w3.cell? ⟨w.heap.size + 1, 1, none⟩ = some (.int .i64 x1) := hx.cell 1
        have x2c : w3.cell? ⟨w.heap.size + 1, 2, none⟩ = some (.int .i64 x2) := hx.cell 2
        have f0c : w3.cell? ⟨f, 0, none⟩ = some (.int .i64 x0) := hf.cell 0
        have f1c : w3.cell? ⟨f, 1, none⟩ = some (.int .i64 st) := hf.cell 1
        have f2c : w3.cell? ⟨f, 2, none⟩ = some (.int .i64 1) := hf.cell 2
        have hxl := hx.lt
        have hfl := hf.lt
        have HXz := Lib.hid hx
        have HFz := Lib.hid hf
        have HMz := Lib.hid hm
        have HBz := Lib.hid (HBf.out.trans (ho.below (Nat.le_of_lt (Nat.lt_trans (Nat.lt_succ_self _) hXB)) HBf.out.size))
        clear HXf HFf HMf HBf hx hf
        have HXn := HXz
        have HFn := HFz
        have HMn := HMz
        have HBn := HBz
        clear HXz HFz HMz HBz
        clear hp hm ho
        simp only []
        (go_wp2_with fail); refine (mapSet_any HMn.out 1 ⟨x0, st, 1⟩).mono ?_
        intro e w4 hp
        obtain ⟨rfl, hm, ho⟩ := opPost_is hp HQ2.out
        have hx := HXn.out.only ho (.inl hXB)
        have hf := HFn.out.only ho (.inr hCF)
        have x0c : w4.cell? ⟨w.heap.size + 1, 0, none⟩ = some (.int .i64 x0) := hx.cell 0
        have x1c : w4.cell? ⟨w.heap.size + 1, 1, none⟩ = some (.int .i64 x1) := hx.cell 1
        have x2c : w4.cell? ⟨w.heap.size + 1, 2, none⟩ = some (.int .i64 x2) := hx.cell 2
        have f0c : w4.cell? ⟨f, 0, none⟩ = some (.int .i64 x0) := hf.cell 0
        have f1c : w4.cell? ⟨f, 1, none⟩ = some (.int .i64 st) := hf.cell 1
        have f2c : w4.cell? ⟨f, 2, none⟩ = some (.int .i64 1) := hf.cell 2
        have hxl := hx.lt
        have hfl := hf.lt
        have HXz := Lib.hid hx
        have HFz := Lib.hid hf
        have HMz := Lib.hid hm
        have HBz := Lib.hid (HBn.out.trans (ho.below (Nat.le_of_lt (Nat.lt_trans (Nat.lt_succ_self _) hXB)) HBn.out.size))
        clear HXn HFn HMn HBn hx hf
        have HXn := HXz
        have HFn := HFz
        have HMn := HMz
        have HBn := HBz
        clear HXz HFz HMz HBz
        clear hp hm ho
        simp only []
        (go_wp2_with fail); refine (mapMove_any HMn.out 0 x0 x1).mono ?_
        intro e w5 hp
        obtain ⟨rfl, hm, ho⟩ := opPost_is hp HQ3.out
        have hx := HXn.out.only ho (.inl hXB)
        have hf := HFn.out.only ho (.inr hCF)
        have x0c : w5.cell? ⟨w.heap.size + 1, 0, none⟩ = some (.int .i64 x0) := hx.cell 0
        have x1c : w5.cell? ⟨w.heap.size + 1, 1, none⟩ = some (.int .i64 x1) := hx.cell 1
        have x2c : w5.cell? ⟨w.heap.size + 1, 2, none⟩ = some (.int .i64 x2) := hx.cell 2
        have f0c : w5.cell? ⟨f, 0, none⟩ = some (.int .i64 x0) := hf.cell 0
        have f1c : w5.cell? ⟨f, 1, none⟩ = some (.int .i64 st) := hf.cell 1
        have f2c : w5.cell? ⟨f, 2, none⟩ = some (.int .i64 1) := hf.cell 2
        have hxl := hx.lt
        have hfl := hf.lt
        have HXz := Lib.hid hx
        have HFz := Lib.hid hf
        have HMz := Lib.hid hm
        have HBz := Lib.hid (HBn.out.trans (ho.below (Nat.le_of_lt (Nat.lt_trans (Nat.lt_succ_self _) hXB)) HBn.out.size))
        clear HXn HFn HMn HBn hx hf
        have HXn := HXz
        have HFn := HFz
        have HMn := HMz
        have HBn := HBz
        clear HXz HFz HMz HBz
        clear hp hm ho
        simp only []
        (go_wp2_with fail); refine (mapSet_any HMn.out 1 ⟨x0, st, 1⟩).mono ?_
        intro e w6 hp
        obtain ⟨rfl, hm, ho⟩ := opPost_is hp HQ4.out
        have hx := HXn.out.only ho (.inl hXB)
        have hf := HFn.out.only ho (.inr hCF)
        have x0c : w6.cell? ⟨w.heap.size + 1, 0, none⟩ = some (.int .i64 x0) := hx.cell 0
        have x1c : w6.cell? ⟨w.heap.size + 1, 1, none⟩ = some (.int .i64 x1) := hx.cell 1
        have x2c : w6.cell? ⟨w.heap.size + 1, 2, none⟩ = some (.int .i64 x2) := hx.cell 2
        have f0c : w6.cell? ⟨f, 0, none⟩ = some (.int .i64 x0) := hf.cell 0
        have f1c : w6.cell? ⟨f, 1, none⟩ = some (.int .i64 st) := hf.cell 1
        have f2c : w6.cell? ⟨f, 2, none⟩ = some (.int .i64 1) := hf.cell 2
        have hxl := hx.lt
        have hfl := hf.lt
        have HXz := Lib.hid hx
        have HFz := Lib.hid hf
        have HMz := Lib.hid hm
        have HBz := Lib.hid (HBn.out.trans (ho.below (Nat.le_of_lt (Nat.lt_trans (Nat.lt_succ_self _) hXB)) HBn.out.size))
        clear HXn HFn HMn HBn hx hf
        have HXn := HXz
        have HFn := HFz
        have HMn := HMz
        have HBn := HBz
        clear HXz HFz HMz HBz
        clear hp hm ho
        simp only []
        (go_wp2_with fail); refine (mapMove_any HMn.out 0 x1 x0).mono ?_
        intro e w7 hp
        obtain ⟨rfl, hm, ho⟩ := opPost_is hp HQ5.out
        have hx := HXn.out.only ho (.inl hXB)
        have hf := HFn.out.only ho (.inr hCF)
        have x0c : w7.cell? ⟨w.heap.size + 1, 0, none⟩ = some (.int .i64 x0) := hx.cell 0
        have x1c : w7.cell? ⟨w.heap.size + 1, 1, none⟩ = some (.int .i64 x1) := hx.cell 1
        have x2c : w7.cell? ⟨w.heap.size + 1, 2, none⟩ = some (.int .i64 x2) := hx.cell 2
        have f0c : w7.cell? ⟨f, 0, none⟩ = some (.int .i64 x0) := hf.cell 0
        have f1c : w7.cell? ⟨f, 1, none⟩ = some (.int .i64 st) := hf.cell 1
        have f2c : w7.cell? ⟨f, 2, none⟩ = some (.int .i64 1) := hf.cell 2
        have hxl := hx.lt
        have hfl := hf.lt
        have HXz := Lib.hid hx
        have HFz := Lib.hid hf
        have HMz := Lib.hid hm
        have HBz := Lib.hid (HBn.out.trans (ho.below (Nat.le_of_lt (Nat.lt_trans (Nat.lt_succ_self _) hXB)) HBn.out.size))
        clear HXn HFn HMn HBn hx hf
        have HXn := HXz
        have HFn := HFz
        have HMn := HMz
        have HBn := HBz
        clear HXz HFz HMz HBz
        clear hp hm ho
        simp only []
        (go_wp2_with fail); refine (mapMove_any HMn.out 1 x0 x2).mono ?_
        intro e w8 hp
        obtain ⟨rfl, hm, ho⟩ := opPost_is hp HQ6.out
        have hx := HXn.out.only ho (.inl hXB)
        have hf := HFn.out.only ho (.inr hCF)
        have x0c : w8.cell? ⟨w.heap.size + 1, 0, none⟩ = some (.int .i64 x0) := hx.cell 0
        have x1c : w8.cell? ⟨w.heap.size + 1, 1, none⟩ = some (.int .i64 x1) := hx.cell 1
        have x2c : w8.cell? ⟨w.heap.size + 1, 2, none⟩ = some (.int .i64 x2) := hx.cell 2
        have f0c : w8.cell? ⟨f, 0, none⟩ = some (.int .i64 x0) := hf.cell 0
        have f1c : w8.cell? ⟨f, 1, none⟩ = some (.int .i64 st) := hf.cell 1
        have f2c : w8.cell? ⟨f, 2, none⟩ = some (.int .i64 1) := hf.cell 2
        have hxl := hx.lt
        have hfl := hf.lt
        have HXz := Lib.hid hx
        have HFz := Lib.hid hf
        have HMz := Lib.hid hm
        have HBz := Lib.hid (HBn.out.trans (ho.below (Nat.le_of_lt (Nat.lt_trans (Nat.lt_succ_self _) hXB)) HBn.out.size))
        clear HXn HFn HMn HBn hx hf
        have HXn := HXz
        have HFn := HFz
        have HMn := HMz
        have HBn := HBz
        clear HXz HFz HMz HBz
        clear hp hm ho
        simp only []
        (go_wp2_with fail); refine (mapMove_any HMn.out 0 x1 x0).mono ?_
        intro e w9 hp
        obtain ⟨rfl, hm, ho⟩ := opPost_is hp HQ7.out
        have hx := HXn.out.only ho (.inl hXB)
        have hf := HFn.out.only ho (.inr hCF)
        have x0c : w9.cell? ⟨w.heap.size + 1, 0, none⟩ = some (.int .i64 x0) := hx.cell 0
        have x1c : w9.cell? ⟨w.heap.size + 1, 1, none⟩ = some (.int .i64 x1) := hx.cell 1
        have x2c : w9.cell? ⟨w.heap.size + 1, 2, none⟩ = some (.int .i64 x2) := hx.cell 2
        have f0c : w9.cell? ⟨f, 0, none⟩ = some (.int .i64 x0) := hf.cell 0
        have f1c : w9.cell? ⟨f, 1, none⟩ = some (.int .i64 st) := hf.cell 1
        have f2c : w9.cell? ⟨f, 2, none⟩ = some (.int .i64 1) := hf.cell 2
        have hxl := hx.lt
        have hfl := hf.lt
        have HXz := Lib.hid hx
        have HFz := Lib.hid hf
        have HMz := Lib.hid hm
        have HBz := Lib.hid (HBn.out.trans (ho.below (Nat.le_of_lt (Nat.lt_trans (Nat.lt_succ_self _) hXB)) HBn.out.size))
        clear HXn HFn HMn HBn hx hf
        have HXn := HXz
        have HFn := HFz
        have HMn := HMz
        have HBn := HBz
        clear HXz HFz HMz HBz
        clear hp hm ho
        simp only []
        clear xx0 hxl0
        (go_wp2_with fail); refine (mapGet_any HMn.out 0 ⟨x0, st, 1⟩ rfl).mono ?_
        rintro e wa ⟨rfl, hb⟩
        simp only [Ent.v]
        have hxa := HXn.out.below hb
        have hfa := HFn.out.below hb
        have hma := HMn.out.below hb
        have hba := HBn.out.trans (hb.mono HBn.out.size)
        have hb2 : Below wa.heap.size wa (wa.alloc (.cells #[.int .i64 x0, .int .i64 st, .int .i64 1] 55)) := (Below.refl wa.heap.size wa).alloc (Nat.le_refl _) _
        have HXa := Lib.hid (hxa.below hb2)
        have HFa := Lib.hid (hfa.below hb2)
        have HMa := Lib.hid (hma.below hb2)
        have HBa := Lib.hid (hba.trans (hb2.mono hba.size))
        have HYa := Lib.hid (Blk.new wa 55 [.int .i64 x0, .int .i64 st, .int .i64 1])
        clear hxa hfa hma hba hb2 hb HXn HFn HMn HBn x0c x1c x2c f0c f1c f2c hxl hfl
        (go_wp2_with fail); refine (mapGet_any HMa.out 1 ⟨x2, st, 1⟩ rfl).mono ?_
        rintro e wb ⟨rfl, hb⟩
        simp only [Ent.v]
        generalize wa.heap.size = ya at HYa ⊢
        have hxa := HXa.out.below hb
        have hfa := HFa.out.below hb
        have hya := HYa.out.below hb
        have hma := HMa.out.below hb
        have hba := HBa.out.trans (hb.mono HBa.out.size)
        have hb2 : Below wb.heap.size wb (wb.alloc (.cells #[.int .i64 x2, .int .i64 st, .int .i64 1] 55)) := (Below.refl wb.heap.size wb).alloc (Nat.le_refl _) _
        have x1b : wb.cell? ⟨w.heap.size + 1, 1, none⟩ = some (.int .i64 x1) := hxa.cell 1
        have hxb := hxa.lt
        have HXb := Lib.hid (hxa.below hb2)
        have HFb := Lib.hid (hfa.below hb2)
        have HYb := Lib.hid (hya.below hb2)
        have HMb := Lib.hid (hma.below hb2)
        have HBb := Lib.hid (hba.trans (hb2.mono hba.size))
        have HZb := Lib.hid (Blk.new wb 55 [.int .i64 x2, .int .i64 st, .int .i64 1])
        clear hxa hfa hya hma hba hb2 hb HXa HFa HMa HBa HYa
        (go_wp2_with fail); refine (mapLive_any HMb.out x1).mono ?_
        rintro e wc ⟨rfl, hb⟩
        rw [HQ8.out]
        generalize wb.heap.size = zb at HZb ⊢
        generalize liveN _ _ x1 = ln
        have hx := HXb.out.below hb
        have hf := HFb.out.below hb
        have hy := HYb.out.below hb
        have hz := HZb.out.below hb
        have HMc := Lib.hid (HMb.out.below hb)
        have HBc := Lib.hid (HBb.out.trans (hb.mono HBb.out.size))
        have x2c : wc.cell? ⟨w.heap.size + 1, 2, none⟩ = some (.int .i64 x2) := hx.cell 2
        have f0c : wc.cell? ⟨f, 0, none⟩ = some (.int .i64 x0) := hf.cell 0
        have f1c : wc.cell? ⟨f, 1, none⟩ = some (.int .i64 st) := hf.cell 1
        have f2c : wc.cell? ⟨f, 2, none⟩ = some (.int .i64 1) := hf.cell 2
        have y0c : wc.cell? ⟨ya, 0, none⟩ = some (.int .i64 x0) := hy.cell 0
        have y1c : wc.cell? ⟨ya, 1, none⟩ = some (.int .i64 st) := hy.cell 1
        have y2c : wc.cell? ⟨ya, 2, none⟩ = some (.int .i64 1) := hy.cell 2
        have z0c : wc.cell? ⟨zb, 0, none⟩ = some (.int .i64 x2) := hz.cell 0
        have z1c : wc.cell? ⟨zb, 1, none⟩ = some (.int .i64 st) := hz.cell 1
        have z2c : wc.cell? ⟨zb, 2, none⟩ = some (.int .i64 1) := hz.cell 2
        clear hx hf hy hz hb
        (go_wp2_with fail); refine (mapMany_any HMc.out).mono ?_
        rintro e wd ⟨rfl, rfl⟩
        rw [HQ9.out]
        go_wp2_with fail
        go_ret
        exact ⟨ret_bool (by simp), HBc.out⟩
  · obtain ⟨hb, rfl⟩ := newPost_no hp (by simpa using hno)
    have HB2 := Lib.hid (HB1.out.trans (hb.mono HB1.out.size))
    clear hp hb
    go_wp2_with fail
    go_ret
    exact ⟨rfl, HB2.out⟩

end Go.Proofs.Ytbfpnpoafepjjaa
