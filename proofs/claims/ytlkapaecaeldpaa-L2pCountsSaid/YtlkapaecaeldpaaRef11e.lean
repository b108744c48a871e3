/-
  Package strakeref11: Set.
-/
import Derived.Test.YtlkapaecaeldpaaRef11d
set_option linter.unusedVariables false
set_option linter.unusedSimpArgs false
set_option maxRecDepth 16384
namespace Go.Proofs.Ytlkapaecaeldpaa
open Go.RowKit

/-- the post of the document's Set and Move -/
def ROpPost (w : World) (B r : Nat) (g : Geo) (x : Bool × Int × List Ent) (e : Ending) (w' : World) : Prop :=
  e = .returned (.tuple #[.bool x.1, .int .i64 x.2.1]) ∧ (∃ v, RefAt w' B r g x.2.2 v) ∧ Below B w w'

/-- the document's Set, in the order of its tests -/
theorem setTo_ref (g : Geo) (to : List Ent) (lba : Int) (e : Ent) : setTo g to lba e =
    (if 0 ≤ lba ∧ lba < to.length then
      if raddr g to lba e.a = 1 ∨ e.k < 1 ∨ 2 < e.k ∨ e.s < 1 ∨ 1125899906842624 < e.s then (false, 1, to)
      else if raddr g to lba e.a ≠ 0 then (false, raddr g to lba e.a, to)
      else if e.s ≤ (to.getD lba.toNat Ent.none).s then (false, 0, to)
      else (true, 0, to.set lba.toNat e)
    else (false, 2, to)) := by
  unfold setTo raddr
  by_cases h1 : 0 ≤ lba ∧ lba < to.length
  · rw [if_pos h1, if_pos h1]
    by_cases h2 : 0 ≤ e.a ∧ e.a < g.all
    · simp only [if_pos h2]
      by_cases h3 : whoIx to e.a ≠ 0 ∧ (whoIx to e.a : Int) ≠ lba + 1
      · simp only [if_pos h3]
        by_cases h4 : (e.k = 1 ∨ e.k = 2) ∧ 1 ≤ e.s ∧ e.s ≤ 1125899906842624
        · rw [if_pos ⟨h2, h4⟩, if_neg (by omega), if_pos (by decide)]
        · rw [if_neg (fun h => h4 h.2), if_pos (by omega)]
      · simp only [if_neg h3]
        by_cases h4 : (e.k = 1 ∨ e.k = 2) ∧ 1 ≤ e.s ∧ e.s ≤ 1125899906842624
        · rw [if_pos ⟨h2, h4⟩, if_neg (show ¬ ((0 : Int) = 1 ∨ e.k < 1 ∨ 2 < e.k ∨ e.s < 1 ∨ 1125899906842624 < e.s) by omega), if_neg (show ¬ ((0 : Int) ≠ 0) by decide)]
        · rw [if_neg (fun h => h4 h.2), if_pos (by omega)]
    · simp only [if_neg h2]
      rw [if_neg (fun h => h2 h.1), if_pos (by simp)]
  · rw [if_neg h1, if_neg h1]

theorem RefAt.free {w : World} {B r : Nat} {g : Geo} {to : List Ent} {b cap : Nat} (h : RefAt w B r g to (.slice (some ⟨b, 0, none⟩) to.length cap)) (hp : 0 < to.length) (k : Nat) : w.frozen? ⟨b, k, none⟩ = false ∧ r < b := by
  rcases h.row.2 with ⟨_, h0⟩ | ⟨b', cap', cur, h1, h2, h3, h4, h5, h6, h7⟩
  · omega
  · injection h1 with q1 q2 q3
    injection q1 with q1
    injection q1 with q4
    subst q4
    exact ⟨by simp [World.frozen?, h3], by omega⟩

set_option maxHeartbeats 2000000 in
theorem ref11Set_any {w : World} {B r : Nat} {g : Geo} {to : List Ent} {v : Value} (HM : RefAt w B r g to v) (hok : g.okB = true) (hf : Fine g to) (hlen : to.length ≤ 4096) (lba : Int) (e : Ent) :
    Calls Try.prog 66 #[.pointer (some ⟨r, 0, none⟩), .int .i64 lba, e.v] w fun x w' => ROpPost w B r g (setTo g to lba e) x w' := by
  have hb0 : Below w.heap.size w (w.alloc (.cells #[.int .i64 e.a, .int .i64 e.s, .int .i64 e.k] 32)) := (Below.refl w.heap.size w).alloc (Nat.le_refl _) _
  have HM0 := Lib.hid (HM.below hb0)
  have HE0 := Lib.hid (Blk.new w 32 [.int .i64 e.a, .int .i64 e.s, .int .i64 e.k])
  have HR := Lib.hid (setTo_ref g to lba e)
  have hBr := HM.base
  have hrl := HM.blk.lt
  have HB0 := Lib.hid (hb0.mono (show B ≤ w.heap.size by omega))
  have HADDR := Lib.hid (fun wy (h : RefAt wy B r g to v) => ref11Addr_any h hok hf hlen lba e.a)
  obtain ⟨sa, cap, rfl⟩ := own_slice HM.row
  have m5 : w.cell? ⟨r, 5, none⟩ = some (.slice sa to.length cap) := HM.blk.cell 5
  obtain ⟨R, hR⟩ : ∃ R, setTo g to lba e = R := ⟨_, rfl⟩
  obtain ⟨D, hD⟩ : ∃ D, raddr g to lba e.a = D := ⟨_, rfl⟩
  rw [hR, hD] at HR
  rw [hR]
  rw [hD] at HADDR
  obtain ⟨N, hN⟩ : ∃ N, to.length = N := ⟨_, rfl⟩
  have HLEN := Lib.hid hN
  rw [hN] at m5 HR hlen
  clear HM hb0 hR hD hok hf hN
  obtain ⟨ea, es, ek⟩ := e
  simp only at *
  unfold Ent.v
  go_enter Try.func66, Try.ntmps66
  by_cases h0 : lba < 0
  · go_wp2_with fail
    go_ret2
    have hS := HR.out
    rw [if_neg (by omega)] at hS
    rw [hS]
    exact ⟨rfl, ⟨_, HM0.out⟩, HB0.out⟩
  by_cases h9 : (N : Int) ≤ lba
  · go_wp2_with fail
    go_ret2
    have hS := HR.out
    rw [if_neg (by omega)] at hS
    rw [hS]
    exact ⟨rfl, ⟨_, HM0.out⟩, HB0.out⟩
  (go_wp2_with fail); refine (HADDR.out _ HM0.out).mono ?_
  rintro x w1 ⟨rfl, hb⟩
  have HM1 := Lib.hid (HM0.out.below hb)
  have HB1 := Lib.hid (HB0.out.trans (hb.mono (by simp; omega)))
  have he1 := HE0.out.below hb
  have e0 : w1.cell? ⟨w.heap.size, 0, none⟩ = some (.int .i64 ea) := he1.cell 0
  have e1 : w1.cell? ⟨w.heap.size, 1, none⟩ = some (.int .i64 es) := he1.cell 1
  have e2 : w1.cell? ⟨w.heap.size, 2, none⟩ = some (.int .i64 ek) := he1.cell 2
  have HE1 := Lib.hid he1
  clear hb he1
  have HR2 := HR.out
  rw [if_pos ⟨by omega, by omega⟩] at HR2
  clear HR
  have HR := Lib.hid HR2
  clear HR2
  by_cases hd1 : D = 1
  · subst hd1
    go_wp2_with fail
    go_ret2
    have hS := HR.out
    rw [if_pos (by simp)] at hS
    rw [hS]
    exact ⟨rfl, ⟨_, HM1.out⟩, HB1.out⟩
  have hd1b : (D == 1) = false := by simp [hd1]
  by_cases hk1 : ek < 1
  · go_wp2_with fail
    go_ret2
    have hS := HR.out
    rw [if_pos (by omega)] at hS
    rw [hS]
    exact ⟨rfl, ⟨_, HM1.out⟩, HB1.out⟩
  by_cases hk2 : 2 < ek
  · go_wp2_with fail
    go_ret2
    have hS := HR.out
    rw [if_pos (by omega)] at hS
    rw [hS]
    exact ⟨rfl, ⟨_, HM1.out⟩, HB1.out⟩
  by_cases hs1 : es < 1
  · go_wp2_with fail
    go_ret2
    have hS := HR.out
    rw [if_pos (by omega)] at hS
    rw [hS]
    exact ⟨rfl, ⟨_, HM1.out⟩, HB1.out⟩
  by_cases hs2 : 1125899906842624 < es
  · go_wp2_with fail
    go_ret2
    have hS := HR.out
    rw [if_pos (by omega)] at hS
    rw [hS]
    exact ⟨rfl, ⟨_, HM1.out⟩, HB1.out⟩
  by_cases hd0 : D = 0
  · subst hd0
    obtain ⟨i, rfl⟩ : ∃ i : Nat, lba = i := ⟨lba.toNat, by omega⟩
    have hlt : i < to.length := by rw [HLEN.out]; omega
    obtain ⟨x, hx⟩ : ∃ x, to[i]? = some x := ⟨_, List.getElem?_eq_getElem hlt⟩
    obtain ⟨b, cp, hsl, hbl, c0, c1, c2⟩ := HM1.out.get hx
    injection hsl with q1 q2 q3
    subst q1
    have hgd : to.getD (i : Int).toNat Ent.none = x := by rw [List.getD_eq_getElem?_getD, Int.toNat_natCast, hx]; rfl
    have hS := HR.out
    rw [if_neg (by omega), if_neg (by simp), hgd] at hS
    have HS := Lib.hid hS
    have p5 : w1.cell? ⟨r, 5, none⟩ = some (.slice (some ⟨b, 0, none⟩) N cap) := by have := HM1.out.blk.cell 5; rw [HLEN.out] at this; exact this
    have hrl1 := HM1.out.blk.lt
    obtain ⟨xa, xs, xk⟩ := x
    simp only at c0 c1 c2
    have hi0 : (0 : Int) ≤ i := by omega
    have hi1 : (i : Int) < N := by omega
    clear q2 q3 hgd hS
    by_cases hso : es ≤ xs
    · have hd : decide (es ≤ xs) = true := decide_eq_true hso
      have hS2 := HS.out
      rw [if_pos hso] at hS2
      have HS2 := Lib.hid hS2
      clear hS2
      go_wp2_with fail
      refine wp_region_b 10 (by kernel_rfl) (by kernel_rfl) ?_
      simp only [List.take_succ_cons, List.take_zero, List.drop_succ_cons, List.drop_zero]
      repeat (first
        | (refine SeqC.run (v := ?_) ?_ (fun wz hz => ?_) ?_; rotate_left; (· rfl); (· have hzc := hz.cell; have hzf := hz.frozen; go_simp; first | exact UponS.value hz | exact UponS.skip hz | (refine UponS.call ?_; fail)); (try simp only [Act.put, List.setIfInBounds_toArray, List.set_cons_zero, List.set_cons_succ]))
        | (refine SeqC.skip ?_ ?_; (· rfl); (try simp only [Act.put, List.setIfInBounds_toArray, List.set_cons_zero, List.set_cons_succ])))
      refine fun wz hz => ?_
      go_wp2
      go_ret2
      rw [HS2.out]
      exact ⟨rfl, ⟨_, HM1.out.below ((Below.refl w1.heap.size w1).drew.trans hz.below)⟩, HB1.out.drew.trans (hz.below.mono (by show B ≤ w1.heap.size; have := HM1.out.base; omega))⟩
    · have hd : decide (es ≤ xs) = false := decide_eq_false hso
      have hS2 := HS.out
      rw [if_neg hso] at hS2
      have HS2 := Lib.hid hS2
      clear hS2
      go_wp2_with fail
      refine wp_region_b 10 (by kernel_rfl) (by kernel_rfl) ?_
      simp only [List.take_succ_cons, List.take_zero, List.drop_succ_cons, List.drop_zero]
      repeat (first
        | (refine SeqC.run (v := ?_) ?_ (fun wz hz => ?_) ?_; rotate_left; (· rfl); (· have hzc := hz.cell; have hzf := hz.frozen; go_simp; first | exact UponS.value hz | exact UponS.skip hz | (refine UponS.call ?_; fail)); (try simp only [Act.put, List.setIfInBounds_toArray, List.set_cons_zero, List.set_cons_succ]))
        | (refine SeqC.skip ?_ ?_; (· rfl); (try simp only [Act.put, List.setIfInBounds_toArray, List.set_cons_zero, List.set_cons_succ])))
      refine fun wz hz => ?_
      have hbz : Below w1.heap.size w1 wz := (Below.refl w1.heap.size w1).drew.trans hz.below
      have hmz := HM1.out.below hbz
      rw [show Value.slice (some ⟨b, 0, none⟩) N cap = .slice (some ⟨b, 0, none⟩) to.length cap by rw [HLEN.out]] at *
      have HBz := Lib.hid (HB1.out.trans (hbz.mono (by have := HM1.out.base; omega)))
      have HXz := Lib.hid (HE1.out.below hbz)
      have HMz := Lib.hid hmz
      obtain ⟨b2, cp2, hsl2, hbl2, d0, d1, d2⟩ := hmz.get hx
      injection hsl2 with q1 q2 q3
      injection q1 with q1
      injection q1 with q4
      subst q4
      have p5z : wz.cell? ⟨r, 5, none⟩ = some (.slice (some ⟨b, 0, none⟩) N cap) := by have := hmz.blk.cell 5; rw [HLEN.out] at this; exact this
      have hrlz := hmz.blk.lt
      have e0z : wz.cell? ⟨w.heap.size, 0, none⟩ = some (.int .i64 ea) := HXz.out.cell 0
      have e1z : wz.cell? ⟨w.heap.size, 1, none⟩ = some (.int .i64 es) := HXz.out.cell 1
      have e2z : wz.cell? ⟨w.heap.size, 2, none⟩ = some (.int .i64 ek) := HXz.out.cell 2
      have hxlz := HXz.out.lt
      clear hz hbz hmz q2 q3 p5 c0 c1 c2 e0 e1 e2
      go_wp2_with fail
      refine wp_region_b 7 (by kernel_rfl) (by kernel_rfl) ?_
      simp only [List.take_succ_cons, List.take_zero, List.drop_succ_cons, List.drop_zero]
      repeat (first
        | (refine SeqC.run (v := ?_) ?_ (fun wz hz => ?_) ?_; rotate_left; (· rfl); (· have hzc := hz.cell; have hzf := hz.frozen; go_simp; first | exact UponS.value hz | exact UponS.skip hz | (refine UponS.call ?_; fail)); (try simp only [Act.put, List.setIfInBounds_toArray, List.set_cons_zero, List.set_cons_succ]))
        | (refine SeqC.skip ?_ ?_; (· rfl); (try simp only [Act.put, List.setIfInBounds_toArray, List.set_cons_zero, List.set_cons_succ])))
      refine fun wy hy => ?_
      have hby : Below wz.heap.size wz wy := (Below.refl wz.heap.size wz).drew.trans hy.below
      have hmy := HMz.out.below hby
      obtain ⟨f0, hrb⟩ := hmy.free (by omega) (i * 3)
      have f1 := (hmy.free (by omega) (i * 3 + 1)).1
      have f2 := (hmy.free (by omega) (i * 3 + 2)).1
      obtain ⟨b3, cp3, hsl3, hbl3, g0, g1, g2⟩ := hmy.get hx
      injection hsl3 with q1 q2 q3
      injection q1 with q1
      injection q1 with q5
      subst q5
      simp only at g0 g1 g2
      have HN := Lib.hid (hmy.set hlt ⟨ea, es, ek⟩)
      have HBy := Lib.hid ((((HBz.out.trans (hby.mono (by have := hmy.base; have := HMz.out.blk.lt; omega))).setCell (p := ⟨b, i * 3, none⟩) (by show B ≤ b; omega) (.int .i64 ea)).setCell (p := ⟨b, i * 3 + 1, none⟩) (by show B ≤ b; omega) (.int .i64 es)).setCell (p := ⟨b, i * 3 + 2, none⟩) (by show B ≤ b; omega) (.int .i64 ek))
      clear hy hby hmy q2 q3
      go_wp2_with fail
      go_ret2
      rw [HS2.out]
      exact ⟨rfl, ⟨_, HN.out⟩, HBy.out⟩
  · have hd0b : (D != 0) = true := by simp [hd0]
    have hS := HR.out
    rw [if_neg (by omega), if_pos hd0] at hS
    have HS := Lib.hid hS
    clear hS
    go_wp2_with fail
    go_ret2
    rw [HS.out]
    exact ⟨rfl, ⟨_, HM1.out⟩, HB1.out⟩

end Go.Proofs.Ytlkapaecaeldpaa
