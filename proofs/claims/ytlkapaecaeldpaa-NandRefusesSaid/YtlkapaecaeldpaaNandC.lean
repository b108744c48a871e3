/-
  Package nand: find, refuse, end, sized; what is asked of a device.
-/
import Derived.Test.YtlkapaecaeldpaaRef07
import Derived.Test.YtlkapaecaeldpaaGeom
import Derived.Test.YtlkapaecaeldpaaReg
set_option linter.unusedVariables false
set_option linter.unusedSimpArgs false
set_option maxRecDepth 16384
namespace Go.Proofs.Ytlkapaecaeldpaa
open Go.RowKit

/-- a block's number -/
def findIx (g : Geo) (u n : Int) : Option Nat := if 0 ≤ u ∧ u < g.chans * g.luns ∧ 0 ≤ n ∧ n < g.blocks then some (u * g.blocks + n).toNat else none
def ptrO (bb : Nat) (o : Option Nat) : Value := match o with | none => .pointer none | some i => .pointer (some ⟨bb, i * 3, none⟩)

theorem findIx_lt {g : Geo} {u n : Int} {i : Nat} (h : findIx g u n = some i) : i < g.nb := by
  unfold findIx at h
  split at h
  · rename_i hc
    injection h with h
    subst h
    unfold Geo.nb
    have h1 : (u + 1) * g.blocks ≤ g.chans * g.luns * g.blocks := Int.mul_le_mul_of_nonneg_right (by omega) (by omega)
    rw [Int.add_mul] at h1
    have h2 : 0 ≤ u * g.blocks := Int.mul_nonneg hc.1 (by omega)
    omega
  · cases h

theorem Geo.nb_le {g : Geo} (h : g.okB = true) : g.nb ≤ 512 ∧ g.chans * g.luns * g.blocks = (g.nb : Nat) ∧ 1 ≤ g.nb := by
  have hgo := Geo.ok_of h
  obtain ⟨c1, c2⟩ := hgo.c
  obtain ⟨l1, l2⟩ := hgo.l
  obtain ⟨b1, b2⟩ := hgo.b
  have h1 : 1 ≤ g.chans * g.luns := Int.mul_pos (by omega) (by omega)
  have h2 : g.chans * g.luns ≤ 4 * 2 := Int.mul_le_mul c2 l2 (by omega) (by omega)
  have h3 : 1 ≤ g.chans * g.luns * g.blocks := Int.mul_pos (by omega) (by omega)
  have h4 : g.chans * g.luns * g.blocks ≤ 8 * 64 := Int.mul_le_mul h2 b2 (by omega) (by omega)
  unfold Geo.nb
  omega

theorem geomUnits_ok (g : Geo) (h : g.okB = true) (w : World) : Calls Try.prog 74 #[g.v] w fun e w' => e = .returned (.int .i64 (g.chans * g.luns)) ∧ Below w.heap.size w w' := by
  have := geomUnits_any g w (Geo.ok_of h).wf
  unfold Geo.unitsI at this
  rwa [if_pos h] at this

set_option maxHeartbeats 1000000 in
theorem nandFind_any {w : World} {F : Nat → Prop} {d : Nat} {g : Geo} {S : NSt} {pb bb mb : Nat} {lv : Value} {f : Nat → Option Value} (H : NandRaw w F d g S pb bb mb lv f) (u n : Int) :
    Calls Try.prog 75 #[.pointer (some ⟨d, 0, none⟩), .int .i64 u, .int .i64 n] w fun e w' => e = .returned (ptrO bb (findIx g u n)) ∧ Below w.heap.size w w' := by
  have HH := Lib.hid H
  obtain ⟨hnb1, hnb2, _⟩ := Geo.nb_le H.ok
  have hU : Hid (∀ wy, Calls Try.prog 74 #[g.v] wy fun e w' => e = .returned (.int .i64 (g.chans * g.luns)) ∧ Below wy.heap.size wy w') := fun wy => geomUnits_ok g H.ok wy
  have HF : Hid (findIx g u n = if 0 ≤ u ∧ u < g.chans * g.luns ∧ 0 ≤ n ∧ n < g.blocks then some (u * g.blocks + n).toNat else none) := Lib.hid rfl
  have HLT := Lib.hid (fun (i : Nat) (h : findIx g u n = some i) => findIx_lt h)
  have hb64 := (Geo.ok_of H.ok).b
  have hu8 : g.chans * g.luns ≤ 8 := by
    have hgo := Geo.ok_of H.ok
    exact Int.mul_le_mul hgo.c.2 hgo.l.2 (by have := hgo.l.1; omega) (by omega)
  obtain ⟨c, l, b, p, s⟩ := g
  have hdb := H.blk; have n0 : w.cell? ⟨d, 0, none⟩ = some (.bool S.off) := hdb.cell 0; have n1 : w.cell? ⟨d, 1, none⟩ = some (.int .i64 c) := hdb.cell 1; have n2 : w.cell? ⟨d, 2, none⟩ = some (.int .i64 l) := hdb.cell 2; have n3 : w.cell? ⟨d, 3, none⟩ = some (.int .i64 b) := hdb.cell 3; have n4 : w.cell? ⟨d, 4, none⟩ = some (.int .i64 p) := hdb.cell 4; have n5 : w.cell? ⟨d, 5, none⟩ = some (.int .i64 s) := hdb.cell 5; have n6 : w.cell? ⟨d, 6, none⟩ = some (.pointer (some ⟨pb, 0, none⟩)) := hdb.cell 6; have n7 : w.cell? ⟨d, 7, none⟩ = some (.slice (some ⟨bb, 0, none⟩) (Geo.nb ⟨c, l, b, p, s⟩) (Geo.nb ⟨c, l, b, p, s⟩)) := hdb.cell 7; have n8 : w.cell? ⟨d, 8, none⟩ = some (.map (some mb)) := hdb.cell 8; have n9 : w.cell? ⟨d, 9, none⟩ = some (.int .i64 S.wrong) := hdb.cell 9; have nlt := hdb.lt; clear hdb
  obtain ⟨N, hN⟩ : ∃ N, Geo.nb ⟨c, l, b, p, s⟩ = N := ⟨_, rfl⟩
  rw [hN] at n7 hnb1 hnb2 HLT
  have HNB := Lib.hid hN
  simp only at hb64 hu8 hnb2 HF hU
  obtain ⟨U, hU2⟩ : ∃ U, c * l = U := ⟨_, rfl⟩
  rw [hU2] at hU HF hu8
  unfold Geo.v at hU
  obtain ⟨hb1, hb2⟩ := hb64
  clear H hN hnb2 hU2
  by_cases h1 : u < 0
  · have HR : Hid (findIx ⟨c, l, b, p, s⟩ u n = none) := by show _ = _; rw [HF.out, if_neg (by omega)]
    go_enter Try.func75, Try.ntmps75
    go_wp2_with fail
    go_ret
    rw [HR.out]
    exact ⟨rfl, Below.refl _ _⟩
  go_enter Try.func75, Try.ntmps75
  (go_wp2_with fail); refine (hU.out _).mono ?_
  rintro e w1 ⟨rfl, hb⟩
  have HB1 := Lib.hid hb
  have H1 := HH.out.below hb
  clear n0 n1 n2 n3 n4 n5 n6 n7 n8 n9
  have hdb := H1.blk; have n0 : w1.cell? ⟨d, 0, none⟩ = some (.bool S.off) := hdb.cell 0; have n1 : w1.cell? ⟨d, 1, none⟩ = some (.int .i64 c) := hdb.cell 1; have n2 : w1.cell? ⟨d, 2, none⟩ = some (.int .i64 l) := hdb.cell 2; have n3 : w1.cell? ⟨d, 3, none⟩ = some (.int .i64 b) := hdb.cell 3; have n4 : w1.cell? ⟨d, 4, none⟩ = some (.int .i64 p) := hdb.cell 4; have n5 : w1.cell? ⟨d, 5, none⟩ = some (.int .i64 s) := hdb.cell 5; have n6 : w1.cell? ⟨d, 6, none⟩ = some (.pointer (some ⟨pb, 0, none⟩)) := hdb.cell 6; have n7 : w1.cell? ⟨d, 7, none⟩ = some (.slice (some ⟨bb, 0, none⟩) (Geo.nb ⟨c, l, b, p, s⟩) (Geo.nb ⟨c, l, b, p, s⟩)) := hdb.cell 7; have n8 : w1.cell? ⟨d, 8, none⟩ = some (.map (some mb)) := hdb.cell 8; have n9 : w1.cell? ⟨d, 9, none⟩ = some (.int .i64 S.wrong) := hdb.cell 9; have nlt := hdb.lt; clear hdb
  rw [HNB.out] at n7
  clear hb H1
  by_cases h2 : U ≤ u
  · have HR : Hid (findIx ⟨c, l, b, p, s⟩ u n = none) := by show _ = _; rw [HF.out, if_neg (by omega)]
    go_wp2_with fail
    go_ret
    rw [HR.out]
    exact ⟨rfl, HB1.out⟩
  by_cases h3 : n < 0
  · have HR : Hid (findIx ⟨c, l, b, p, s⟩ u n = none) := by show _ = _; rw [HF.out, if_neg (by omega)]
    go_wp2_with fail
    go_ret
    rw [HR.out]
    exact ⟨rfl, HB1.out⟩
  by_cases h4 : b ≤ n
  · have HR : Hid (findIx ⟨c, l, b, p, s⟩ u n = none) := by show _ = _; rw [HF.out, if_neg (by omega)]
    go_wp2_with fail
    go_ret
    rw [HR.out]
    exact ⟨rfl, HB1.out⟩
  have hm1 : 0 ≤ u * b := Int.mul_nonneg (by omega) (by omega)
  have hm2 : u * b ≤ 8 * 64 := Int.mul_le_mul (by omega) hb2 (by omega) (by omega)
  obtain ⟨I, hI⟩ : ∃ I : Nat, u * b + n = I := ⟨(u * b + n).toNat, by omega⟩
  have HR : Hid (findIx ⟨c, l, b, p, s⟩ u n = some I) := by show _ = _; rw [HF.out, if_pos (by omega), hI]; rfl
  have hIN := HLT.out I HR.out
  have hw1 : IntKind.i64.wrap (u * b) = u * b := wrap_in _ ⟨by omega, by omega⟩
  obtain ⟨X, hX⟩ : ∃ X, u * b = X := ⟨_, rfl⟩
  rw [hX] at hw1 hI hm1 hm2
  have hw0 : IntKind.i64.wrap (u * b) = X := by rw [hX]; exact hw1
  have hw2 : IntKind.i64.wrap (X + n) = (I : Int) := by rw [hI]; exact wrap_in _ ⟨by omega, by omega⟩
  have hI0 : (0 : Int) ≤ I := by omega
  have hI1 : (I : Int) < N := by omega
  clear hI hX hw1
  go_wp2_with fail
  refine wp_region_b 14 (by kernel_rfl) (by kernel_rfl) ?_
  simp only [List.take_succ_cons, List.take_zero, List.drop_succ_cons, List.drop_zero]
  repeat (first
    | (refine SeqC.run (v := ?_) ?_ (fun wz hz => ?_) ?_; rotate_left; (· rfl); (· have hzc := hz.cell; have hzf := hz.frozen; go_simp; first | exact UponS.value hz | exact UponS.skip hz | (refine UponS.call ?_; fail)); (try simp only [Act.put, List.setIfInBounds_toArray, List.set_cons_zero, List.set_cons_succ]))
    | (refine SeqC.skip ?_ ?_; (· rfl); (try simp only [Act.put, List.setIfInBounds_toArray, List.set_cons_zero, List.set_cons_succ])))
  refine fun wz hz => ?_
  go_wp2
  go_ret
  rw [HR.out]
  exact ⟨rfl, HB1.out.drew.trans (hz.below.mono HB1.out.size)⟩

section
variable {w : World} {F : Nat → Prop} {d : Nat} {g : Geo} {S : NSt}

/-- what stands in the row of blocks -/
theorem NandRaw.cells {pb bb mb : Nat} {lv : Value} {f : Nat → Option Value} (H : NandRaw w F d g S pb bb mb lv f) {i : Nat} (hi : i < g.nb) :
    w.cell? ⟨bb, i * 3, none⟩ = some (.int .i64 (S.next i)) ∧ w.cell? ⟨bb, i * 3 + 1, none⟩ = some (.int .i64 (S.wear i)) ∧ w.cell? ⟨bb, i * 3 + 2, none⟩ = some (.bool (S.ret i)) ∧
      w.frozen? ⟨bb, i * 3, none⟩ = false ∧ w.frozen? ⟨bb, i * 3 + 1, none⟩ = false ∧ w.frozen? ⟨bb, i * 3 + 2, none⟩ = false := by
  obtain ⟨h1, h2, h3⟩ := H.bls i hi
  exact ⟨h1.1, h2.1, h3.1, h1.2, h2.2, h3.2⟩

/-- what a block answers, and what is told where there is none -/
def nextO (S : NSt) (o : Option Nat) : Int := match o with | some i => S.next i | none => 0
def wearO (S : NSt) (o : Option Nat) : Int := match o with | some i => S.wear i | none => 0
def retO (S : NSt) (o : Option Nat) : Bool := match o with | some i => S.ret i | none => false
end

set_option maxHeartbeats 400000 in
theorem nandNext_any {w : World} {F : Nat → Prop} {d : Nat} {g : Geo} {S : NSt} (H : NandAt w F d g S) (u n : Int) :
    Calls Try.prog 28 #[.pointer (some ⟨d, 0, none⟩), .int .i64 u, .int .i64 n] w fun e w' => e = .returned (.int .i64 (nextO S (findIx g u n))) ∧ Below w.heap.size w w' := by
  obtain ⟨pb, bb, mb, lv, f, H⟩ := H
  have HH := Lib.hid H
  clear H
  go_enter Try.func28, Try.ntmps28
  (go_wp2_with fail); refine (nandFind_any HH.out u n).mono ?_
  rintro e w1 ⟨rfl, hb⟩
  have H1 := HH.out.below hb
  have HB1 := Lib.hid hb
  cases hf : findIx g u n with
  | none =>
    have HFX := Lib.hid hf
    simp only [ptrO]
    clear hb H1 hf
    go_wp2_with fail
    go_ret
    exact ⟨by rw [HFX.out]; rfl, HB1.out⟩
  | some i =>
    obtain ⟨x0, x1, x2, y0, y1, y2⟩ := H1.cells (findIx_lt hf)
    have HFX := Lib.hid hf
    simp only [ptrO]
    clear hb H1 hf
    go_wp2_with fail
    go_ret
    exact ⟨by rw [HFX.out]; rfl, HB1.out⟩

set_option maxHeartbeats 400000 in
theorem nandWear_any {w : World} {F : Nat → Prop} {d : Nat} {g : Geo} {S : NSt} (H : NandAt w F d g S) (u n : Int) :
    Calls Try.prog 29 #[.pointer (some ⟨d, 0, none⟩), .int .i64 u, .int .i64 n] w fun e w' => e = .returned (.int .i64 (wearO S (findIx g u n))) ∧ Below w.heap.size w w' := by
  obtain ⟨pb, bb, mb, lv, f, H⟩ := H
  have HH := Lib.hid H
  clear H
  go_enter Try.func29, Try.ntmps29
  (go_wp2_with fail); refine (nandFind_any HH.out u n).mono ?_
  rintro e w1 ⟨rfl, hb⟩
  have H1 := HH.out.below hb
  have HB1 := Lib.hid hb
  cases hf : findIx g u n with
  | none =>
    have HFX := Lib.hid hf
    simp only [ptrO]
    clear hb H1 hf
    go_wp2_with fail
    go_ret
    exact ⟨by rw [HFX.out]; rfl, HB1.out⟩
  | some i =>
    obtain ⟨x0, x1, x2, y0, y1, y2⟩ := H1.cells (findIx_lt hf)
    have HFX := Lib.hid hf
    simp only [ptrO]
    clear hb H1 hf
    go_wp2_with fail
    go_ret
    exact ⟨by rw [HFX.out]; rfl, HB1.out⟩

set_option maxHeartbeats 400000 in
theorem nandRetired_any {w : World} {F : Nat → Prop} {d : Nat} {g : Geo} {S : NSt} (H : NandAt w F d g S) (u n : Int) :
    Calls Try.prog 26 #[.pointer (some ⟨d, 0, none⟩), .int .i64 u, .int .i64 n] w fun e w' => e = .returned (.bool (retO S (findIx g u n))) ∧ Below w.heap.size w w' := by
  obtain ⟨pb, bb, mb, lv, f, H⟩ := H
  have HH := Lib.hid H
  clear H
  go_enter Try.func26, Try.ntmps26
  (go_wp2_with fail); refine (nandFind_any HH.out u n).mono ?_
  rintro e w1 ⟨rfl, hb⟩
  have H1 := HH.out.below hb
  have HB1 := Lib.hid hb
  cases hf : findIx g u n with
  | none =>
    have HFX := Lib.hid hf
    simp only [ptrO]
    clear hb H1 hf
    go_wp2_with fail
    go_ret
    exact ⟨by rw [HFX.out]; rfl, HB1.out⟩
  | some i =>
    obtain ⟨x0, x1, x2, y0, y1, y2⟩ := H1.cells (findIx_lt hf)
    have HFX := Lib.hid hf
    simp only [ptrO]
    clear hb H1 hf
    obtain ⟨R, hR⟩ : ∃ R, S.ret i = R := ⟨_, rfl⟩
    have HRR := Lib.hid hR
    rw [hR] at x2
    clear hR
    go_wp2_with fail
    go_ret
    exact ⟨by rw [HFX.out]; simp only [retO, HRR.out]; rfl, HB1.out⟩

theorem nandGeometry_any {w : World} {F : Nat → Prop} {d : Nat} {g : Geo} {S : NSt} (H : NandAt w F d g S) :
    Calls Try.prog 30 #[.pointer (some ⟨d, 0, none⟩)] w fun e w' => e = .returned g.v ∧ Below w.heap.size w w' := by
  obtain ⟨pb, bb, mb, lv, f, H⟩ := H
  obtain ⟨c, l, b, p, s⟩ := g
  have hdb := H.blk; have n0 : w.cell? ⟨d, 0, none⟩ = some (.bool S.off) := hdb.cell 0; have n1 : w.cell? ⟨d, 1, none⟩ = some (.int .i64 c) := hdb.cell 1; have n2 : w.cell? ⟨d, 2, none⟩ = some (.int .i64 l) := hdb.cell 2; have n3 : w.cell? ⟨d, 3, none⟩ = some (.int .i64 b) := hdb.cell 3; have n4 : w.cell? ⟨d, 4, none⟩ = some (.int .i64 p) := hdb.cell 4; have n5 : w.cell? ⟨d, 5, none⟩ = some (.int .i64 s) := hdb.cell 5; have n6 : w.cell? ⟨d, 6, none⟩ = some (.pointer (some ⟨pb, 0, none⟩)) := hdb.cell 6; have n7 : w.cell? ⟨d, 7, none⟩ = some (.slice (some ⟨bb, 0, none⟩) (Geo.nb ⟨c, l, b, p, s⟩) (Geo.nb ⟨c, l, b, p, s⟩)) := hdb.cell 7; have n8 : w.cell? ⟨d, 8, none⟩ = some (.map (some mb)) := hdb.cell 8; have n9 : w.cell? ⟨d, 9, none⟩ = some (.int .i64 S.wrong) := hdb.cell 9; have nlt := hdb.lt; clear hdb
  clear H
  go_enter Try.func30, Try.ntmps30
  go_wp2_with fail
  refine bodyPost_ret (by simp [results, Try.results30, go_sem]; try rfl) rfl ?_
  exact ⟨rfl, (Below.refl w.heap.size w).alloc (Nat.le_refl _) _⟩

theorem nandWrong_any {w : World} {F : Nat → Prop} {d : Nat} {g : Geo} {S : NSt} (H : NandAt w F d g S) :
    Calls Try.prog 32 #[.pointer (some ⟨d, 0, none⟩)] w fun e w' => e = .returned (.int .i64 S.wrong) ∧ w = w' := by
  obtain ⟨pb, bb, mb, lv, f, H⟩ := H
  obtain ⟨c, l, b, p, s⟩ := g
  have hdb := H.blk; have n0 : w.cell? ⟨d, 0, none⟩ = some (.bool S.off) := hdb.cell 0; have n1 : w.cell? ⟨d, 1, none⟩ = some (.int .i64 c) := hdb.cell 1; have n2 : w.cell? ⟨d, 2, none⟩ = some (.int .i64 l) := hdb.cell 2; have n3 : w.cell? ⟨d, 3, none⟩ = some (.int .i64 b) := hdb.cell 3; have n4 : w.cell? ⟨d, 4, none⟩ = some (.int .i64 p) := hdb.cell 4; have n5 : w.cell? ⟨d, 5, none⟩ = some (.int .i64 s) := hdb.cell 5; have n6 : w.cell? ⟨d, 6, none⟩ = some (.pointer (some ⟨pb, 0, none⟩)) := hdb.cell 6; have n7 : w.cell? ⟨d, 7, none⟩ = some (.slice (some ⟨bb, 0, none⟩) (Geo.nb ⟨c, l, b, p, s⟩) (Geo.nb ⟨c, l, b, p, s⟩)) := hdb.cell 7; have n8 : w.cell? ⟨d, 8, none⟩ = some (.map (some mb)) := hdb.cell 8; have n9 : w.cell? ⟨d, 9, none⟩ = some (.int .i64 S.wrong) := hdb.cell 9; have nlt := hdb.lt; clear hdb
  clear H
  go_enter Try.func32, Try.ntmps32
  go_wp2_with fail
  go_ret
  exact ⟨rfl, rfl⟩

theorem nandOff_any {w : World} {F : Nat → Prop} {d : Nat} {g : Geo} {S : NSt} (H : NandAt w F d g S) :
    Calls Try.prog 31 #[.pointer (some ⟨d, 0, none⟩)] w fun e w' => e = .returned (.bool S.off) ∧ w = w' := by
  obtain ⟨pb, bb, mb, lv, f, H⟩ := H
  obtain ⟨c, l, b, p, s⟩ := g
  have hdb := H.blk; have n0 : w.cell? ⟨d, 0, none⟩ = some (.bool S.off) := hdb.cell 0; have n1 : w.cell? ⟨d, 1, none⟩ = some (.int .i64 c) := hdb.cell 1; have n2 : w.cell? ⟨d, 2, none⟩ = some (.int .i64 l) := hdb.cell 2; have n3 : w.cell? ⟨d, 3, none⟩ = some (.int .i64 b) := hdb.cell 3; have n4 : w.cell? ⟨d, 4, none⟩ = some (.int .i64 p) := hdb.cell 4; have n5 : w.cell? ⟨d, 5, none⟩ = some (.int .i64 s) := hdb.cell 5; have n6 : w.cell? ⟨d, 6, none⟩ = some (.pointer (some ⟨pb, 0, none⟩)) := hdb.cell 6; have n7 : w.cell? ⟨d, 7, none⟩ = some (.slice (some ⟨bb, 0, none⟩) (Geo.nb ⟨c, l, b, p, s⟩) (Geo.nb ⟨c, l, b, p, s⟩)) := hdb.cell 7; have n8 : w.cell? ⟨d, 8, none⟩ = some (.map (some mb)) := hdb.cell 8; have n9 : w.cell? ⟨d, 9, none⟩ = some (.int .i64 S.wrong) := hdb.cell 9; have nlt := hdb.lt; clear hdb
  clear H
  go_enter Try.func31, Try.ntmps31
  go_wp2_with fail
  go_ret
  exact ⟨rfl, rfl⟩

/-- the device's own block: off, and how many were wrong -/
theorem nandL_off (g : Geo) (S : NSt) (pb bb mb : Nat) (o : Bool) : (nandL g S pb bb mb).set 0 (.bool o) = nandL g { S with off := o, wrong := S.wrong } pb bb mb := rfl
theorem nandL_wrong (g : Geo) (S : NSt) (pb bb mb : Nat) (x : Int) : (nandL g S pb bb mb).set 9 (.int .i64 x) = nandL g { S with off := S.off, wrong := x } pb bb mb := rfl

theorem NandRaw.setOff {w : World} {F : Nat → Prop} {d : Nat} {g : Geo} {S : NSt} {pb bb mb : Nat} {lv : Value} {f : Nat → Option Value} (H : NandRaw w F d g S pb bb mb lv f) (o : Bool) :
    NandRaw (w.setCell ⟨d, 0, none⟩ (.bool o)) F d g { S with off := o } pb bb mb lv f :=
  H.blockD (by simp) (fun k _ hk => Below.heap_setCell _ _ _ _ hk) o S.wrong (H.blk.set 0 (.bool o))
theorem NandRaw.setWrong {w : World} {F : Nat → Prop} {d : Nat} {g : Geo} {S : NSt} {pb bb mb : Nat} {lv : Value} {f : Nat → Option Value} (H : NandRaw w F d g S pb bb mb lv f) (x : Int) :
    NandRaw (w.setCell ⟨d, 9, none⟩ (.int .i64 x)) F d g { S with wrong := x } pb bb mb lv f :=
  H.blockD (by simp) (fun k _ hk => Below.heap_setCell _ _ _ _ hk) S.off x (H.blk.set 9 (.int .i64 x))

/-- a call that was wrong -/
def NSt.bad (S : NSt) : NSt := { S with wrong := IntKind.i64.wrap (S.wrong + 1) }

set_option maxHeartbeats 400000 in
theorem nandRefuse_any {w : World} {F : Nat → Prop} {d : Nat} {g : Geo} {S : NSt} {pb bb mb : Nat} {lv : Value} {f : Nat → Option Value} (H : NandRaw w F d g S pb bb mb lv f) (x : Int) :
    Calls Try.prog 77 #[.pointer (some ⟨d, 0, none⟩), .int .i64 x] w fun e w' => NandPost w F d g (.int .i64 x) S.bad e w' := by
  have HN := Lib.hid (H.setWrong (IntKind.i64.wrap (S.wrong + 1)))
  have HO : Hid (OnlyF F w (w.setCell ⟨d, 9, none⟩ (.int .i64 (IntKind.i64.wrap (S.wrong + 1))))) := Lib.hid ((OnlyF.refl F w).setCell (p := ⟨d, 9, none⟩) H.mem.1 _)
  have f9 := H.blk.free 9
  obtain ⟨c, l, b, p, s⟩ := g
  have hdb := H.blk; have n0 : w.cell? ⟨d, 0, none⟩ = some (.bool S.off) := hdb.cell 0; have n1 : w.cell? ⟨d, 1, none⟩ = some (.int .i64 c) := hdb.cell 1; have n2 : w.cell? ⟨d, 2, none⟩ = some (.int .i64 l) := hdb.cell 2; have n3 : w.cell? ⟨d, 3, none⟩ = some (.int .i64 b) := hdb.cell 3; have n4 : w.cell? ⟨d, 4, none⟩ = some (.int .i64 p) := hdb.cell 4; have n5 : w.cell? ⟨d, 5, none⟩ = some (.int .i64 s) := hdb.cell 5; have n6 : w.cell? ⟨d, 6, none⟩ = some (.pointer (some ⟨pb, 0, none⟩)) := hdb.cell 6; have n7 : w.cell? ⟨d, 7, none⟩ = some (.slice (some ⟨bb, 0, none⟩) (Geo.nb ⟨c, l, b, p, s⟩) (Geo.nb ⟨c, l, b, p, s⟩)) := hdb.cell 7; have n8 : w.cell? ⟨d, 8, none⟩ = some (.map (some mb)) := hdb.cell 8; have n9 : w.cell? ⟨d, 9, none⟩ = some (.int .i64 S.wrong) := hdb.cell 9; have nlt := hdb.lt; clear hdb
  obtain ⟨M, hM⟩ : ∃ M, IntKind.i64.wrap (S.wrong + 1) = M := ⟨_, rfl⟩
  have HFIN : Hid (NandPost w F d ⟨c, l, b, p, s⟩ (.int .i64 x) S.bad (.returned (.int .i64 x)) (w.setCell ⟨d, 9, none⟩ (.int .i64 M))) := by
    show NandPost _ _ _ _ _ _ _ _
    rw [← hM]
    exact ⟨rfl, F, ⟨pb, bb, mb, lv, f, HN.out⟩, HO.out, Fresh.refl _ _⟩
  clear H HN HO
  go_enter Try.func77, Try.ntmps77
  go_wp2_with fail
  go_ret
  exact HFIN.out

/-- what a call answers by the plan, and whether the power goes -/
def endE (says failed : Int) : Int := if says = 1 then failed else if says = 2 then 5 else 0
def NSt.cut (S : NSt) (says : Int) : NSt := { S with off := if says = 2 then true else S.off }

set_option maxHeartbeats 400000 in
theorem nandEnd_any {w : World} {F : Nat → Prop} {d : Nat} {g : Geo} {S : NSt} {pb bb mb : Nat} {lv : Value} {f : Nat → Option Value} (H : NandRaw w F d g S pb bb mb lv f) (says x : Int) :
    Calls Try.prog 79 #[.pointer (some ⟨d, 0, none⟩), .int .i64 says, .int .i64 x] w fun e w' => NandPost w F d g (.int .i64 (endE says x)) (S.cut says) e w' := by
  by_cases h1 : says = 1
  · subst h1
    have HFIN : Hid (NandPost w F d g (.int .i64 (endE 1 x)) (S.cut 1) (.returned (.int .i64 x)) w) := ⟨rfl, F, ⟨pb, bb, mb, lv, f, H⟩, OnlyF.refl _ _, Fresh.refl _ _⟩
    clear H
    go_enter Try.func79, Try.ntmps79
    go_wp2_with fail
    go_ret
    exact HFIN.out
  by_cases h2 : says = 2
  · subst h2
    have HFIN : Hid (NandPost w F d g (.int .i64 (endE 2 x)) (S.cut 2) (.returned (.int .i64 5)) (w.setCell ⟨d, 0, none⟩ (.bool true))) := ⟨rfl, F, ⟨pb, bb, mb, lv, f, H.setOff true⟩, (OnlyF.refl F w).setCell (p := ⟨d, 0, none⟩) H.mem.1 _, Fresh.refl _ _⟩
    have f0 := H.blk.free 0
    obtain ⟨c, l, b, p, s⟩ := g
    have hdb := H.blk; have n0 : w.cell? ⟨d, 0, none⟩ = some (.bool S.off) := hdb.cell 0; have n1 : w.cell? ⟨d, 1, none⟩ = some (.int .i64 c) := hdb.cell 1; have n2 : w.cell? ⟨d, 2, none⟩ = some (.int .i64 l) := hdb.cell 2; have n3 : w.cell? ⟨d, 3, none⟩ = some (.int .i64 b) := hdb.cell 3; have n4 : w.cell? ⟨d, 4, none⟩ = some (.int .i64 p) := hdb.cell 4; have n5 : w.cell? ⟨d, 5, none⟩ = some (.int .i64 s) := hdb.cell 5; have n6 : w.cell? ⟨d, 6, none⟩ = some (.pointer (some ⟨pb, 0, none⟩)) := hdb.cell 6; have n7 : w.cell? ⟨d, 7, none⟩ = some (.slice (some ⟨bb, 0, none⟩) (Geo.nb ⟨c, l, b, p, s⟩) (Geo.nb ⟨c, l, b, p, s⟩)) := hdb.cell 7; have n8 : w.cell? ⟨d, 8, none⟩ = some (.map (some mb)) := hdb.cell 8; have n9 : w.cell? ⟨d, 9, none⟩ = some (.int .i64 S.wrong) := hdb.cell 9; have nlt := hdb.lt; clear hdb
    clear H
    go_enter Try.func79, Try.ntmps79
    go_wp2_with fail
    go_ret
    exact HFIN.out
  have e1 : (says == 1) = false := by simp [h1]
  have e2 : (says == 2) = false := by simp [h2]
  have HFIN : Hid (NandPost w F d g (.int .i64 (endE says x)) (S.cut says) (.returned (.int .i64 0)) w) := by
    have q1 : endE says x = 0 := by unfold endE; rw [if_neg h1, if_neg h2]
    have q2 : S.cut says = S := by unfold NSt.cut; rw [if_neg h2]
    show NandPost _ _ _ _ _ _ _ _
    rw [q1, q2]
    exact ⟨rfl, F, ⟨pb, bb, mb, lv, f, H⟩, OnlyF.refl _ _, Fresh.refl _ _⟩
  clear H h1 h2
  go_enter Try.func79, Try.ntmps79
  go_wp2_with fail
  go_ret
  exact HFIN.out

/-- the power comes -/
theorem nandPower_any {w : World} {F : Nat → Prop} {d : Nat} {g : Geo} {S : NSt} (H : NandAt w F d g S) :
    Calls Try.prog 50 #[.pointer (some ⟨d, 0, none⟩)] w fun e w' => NandPost w F d g (.tuple #[]) { S with off := false } e w' := by
  obtain ⟨pb, bb, mb, lv, f, H⟩ := H
  have HFIN : Hid (NandPost w F d g (.tuple #[]) { S with off := false } (.returned (.tuple #[])) (w.setCell ⟨d, 0, none⟩ (.bool false))) := ⟨rfl, F, ⟨pb, bb, mb, lv, f, H.setOff false⟩, (OnlyF.refl F w).setCell (p := ⟨d, 0, none⟩) H.mem.1 _, Fresh.refl _ _⟩
  have f0 := H.blk.free 0
  obtain ⟨c, l, b, p, s⟩ := g
  have hdb := H.blk; have n0 : w.cell? ⟨d, 0, none⟩ = some (.bool S.off) := hdb.cell 0; have n1 : w.cell? ⟨d, 1, none⟩ = some (.int .i64 c) := hdb.cell 1; have n2 : w.cell? ⟨d, 2, none⟩ = some (.int .i64 l) := hdb.cell 2; have n3 : w.cell? ⟨d, 3, none⟩ = some (.int .i64 b) := hdb.cell 3; have n4 : w.cell? ⟨d, 4, none⟩ = some (.int .i64 p) := hdb.cell 4; have n5 : w.cell? ⟨d, 5, none⟩ = some (.int .i64 s) := hdb.cell 5; have n6 : w.cell? ⟨d, 6, none⟩ = some (.pointer (some ⟨pb, 0, none⟩)) := hdb.cell 6; have n7 : w.cell? ⟨d, 7, none⟩ = some (.slice (some ⟨bb, 0, none⟩) (Geo.nb ⟨c, l, b, p, s⟩) (Geo.nb ⟨c, l, b, p, s⟩)) := hdb.cell 7; have n8 : w.cell? ⟨d, 8, none⟩ = some (.map (some mb)) := hdb.cell 8; have n9 : w.cell? ⟨d, 9, none⟩ = some (.int .i64 S.wrong) := hdb.cell 9; have nlt := hdb.lt; clear hdb
  clear H
  go_enter Try.func50, Try.ntmps50
  go_wp2_with fail
  (first | (refine bodyPost_ret (results_none rfl _ _ _) rfl ?_) | (refine bodyPost_end (results_none rfl _ _ _) rfl ?_))
  exact HFIN.out

end Go.Proofs.Ytlkapaecaeldpaa
