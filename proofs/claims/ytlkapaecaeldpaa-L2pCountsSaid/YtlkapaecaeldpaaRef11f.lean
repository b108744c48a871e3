/-
  Package strakeref11: Move.
-/
import Derived.Test.YtlkapaecaeldpaaRef11e
set_option linter.unusedVariables false
set_option linter.unusedSimpArgs false
set_option maxRecDepth 16384
namespace Go.Proofs.Ytlkapaecaeldpaa
open Go.RowKit

/-- the document's Move, in the order of its tests -/
theorem moveTo_ref (g : Geo) (to : List Ent) (lba fr dst : Int) : moveTo g to lba fr dst =
    (if 0 ≤ lba ∧ lba < to.length then
      if raddr g to lba dst ≠ 0 then (false, raddr g to lba dst, to)
      else if fr < 0 ∨ (to.getD lba.toNat Ent.none).a ≠ fr then (false, 0, to)
      else (true, 0, to.set lba.toNat { to.getD lba.toNat Ent.none with a := dst })
    else (false, 2, to)) := by
  unfold moveTo raddr
  by_cases h1 : 0 ≤ lba ∧ lba < to.length
  · rw [if_pos h1, if_pos h1]
    by_cases h2 : 0 ≤ dst ∧ dst < g.all
    · simp only [if_pos h2]
      by_cases h3 : whoIx to dst ≠ 0 ∧ (whoIx to dst : Int) ≠ lba + 1
      · simp only [if_pos h3]
        rw [if_pos (by decide)]
      · simp only [if_neg h3]
        rw [if_neg (show ¬ ((0 : Int) ≠ 0) by decide)]
    · simp only [if_neg h2]
      rw [if_pos (by decide)]
  · rw [if_neg h1, if_neg h1]

theorem set_id {α : Type} {l : List α} {j : Nat} {v : α} (h : l[j]? = some v) : l.set j v = l := by
  refine List.ext_getElem? fun k => ?_
  rw [List.getElem?_set]
  split
  · rename_i e
    subst e
    rw [if_pos (List.getElem?_eq_some_iff.1 h).1, h]
  · rfl
theorem entC_setA {to : List Ent} {i : Nat} {x : Ent} (hx : to[i]? = some x) (d : Int) : entC (to.set i { x with a := d }) = (entC to).set (i * 3) (.int .i64 d) := by
  have hi := (List.getElem?_eq_some_iff.1 hx).1
  rw [entC_set hi]
  rw [set_id (j := i * 3 + 1), set_id (j := i * 3 + 2)]
  · rw [List.getElem?_set, if_neg (by omega)]
    exact entC_get hx 2 (by decide)
  · rw [List.getElem?_set, if_neg (by omega)]
    exact entC_get hx 1 (by decide)
theorem RefAt.setA {w : World} {B r : Nat} {g : Geo} {to : List Ent} {b cap : Nat} (h : RefAt w B r g to (.slice (some ⟨b, 0, none⟩) to.length cap)) {i : Nat} {x : Ent} (hx : to[i]? = some x) (d : Int) :
    RefAt (w.setCell ⟨b, i * 3, none⟩ (.int .i64 d)) B r g (to.set i { x with a := d }) (.slice (some ⟨b, 0, none⟩) to.length cap) := by
  have hi := (List.getElem?_eq_some_iff.1 hx).1
  obtain ⟨hl, hrow⟩ := h.row
  rcases hrow with ⟨_, h0⟩ | ⟨b', cap', cur, h1, h2, h3, h4, h5, h6, h7⟩
  · omega
  · injection h1 with q1 q2 q3
    injection q1 with q1
    injection q1 with q4
    subst q4 q3
    have hk : Blk w b 32 cur.toList := by unfold Blk; rw [Array.toArray_toList]; exact h3
    have hk2 := hk.set (i * 3) (.int .i64 d)
    have hne : r ≠ b := by omega
    refine ⟨h.blk.set_other (a := ⟨b, i * 3, none⟩) hne _, ?_, h.base⟩
    rw [List.length_set]
    refine ⟨by rw [entC_length, List.length_set], .inr ⟨b, cap, _, rfl, h2, hk2, h4, h5, ?_, ?_⟩⟩
    · simp only [List.size_toArray, List.length_set, Array.length_toList]; exact h6
    · rw [entC_setA hx, ← h7]
      simp only [List.take_set]

set_option maxHeartbeats 2000000 in
theorem ref11Move_any {w : World} {B r : Nat} {g : Geo} {to : List Ent} {v : Value} (HM : RefAt w B r g to v) (hok : g.okB = true) (hf : Fine g to) (hlen : to.length ≤ 4096) (lba fr dst : Int) :
    Calls Try.prog 67 #[.pointer (some ⟨r, 0, none⟩), .int .i64 lba, .int .i64 fr, .int .i64 dst] w fun x w' => ROpPost w B r g (moveTo g to lba fr dst) x w' := by
  have HM0 := Lib.hid HM
  have HR := Lib.hid (moveTo_ref g to lba fr dst)
  have hBr := HM.base
  have hrl := HM.blk.lt
  have HB0 : Hid (Below B w w) := Lib.hid (Below.refl _ _)
  have HADDR := Lib.hid (fun wy (h : RefAt wy B r g to v) => ref11Addr_any h hok hf hlen lba dst)
  obtain ⟨sa, cap, rfl⟩ := own_slice HM.row
  have m5 : w.cell? ⟨r, 5, none⟩ = some (.slice sa to.length cap) := HM.blk.cell 5
  obtain ⟨R, hR⟩ : ∃ R, moveTo g to lba fr dst = R := ⟨_, rfl⟩
  obtain ⟨D, hD⟩ : ∃ D, raddr g to lba dst = D := ⟨_, rfl⟩
  rw [hR, hD] at HR
  rw [hR]
  rw [hD] at HADDR
  obtain ⟨N, hN⟩ : ∃ N, to.length = N := ⟨_, rfl⟩
  have HLEN := Lib.hid hN
  rw [hN] at m5 HR hlen
  clear HM hR hD hok hf hN
  go_enter Try.func67, Try.ntmps67
  by_cases h0 : lba < 0
  · go_wp2_with fail
    go_ret2
    have hS := HR.out
    rw [if_neg (by omega)] at hS
    rw [hS]
    exact ⟨rfl, ⟨_, HM0.out⟩, HB0.out⟩
  by_cases h9 : (N : Int) ≤ lba
  · go_wp2_with fail
    go_ret2
    have hS := HR.out
    rw [if_neg (by omega)] at hS
    rw [hS]
    exact ⟨rfl, ⟨_, HM0.out⟩, HB0.out⟩
  (go_wp2_with fail); refine (HADDR.out _ HM0.out).mono ?_
  rintro x w1 ⟨rfl, hb⟩
  have HM1 := Lib.hid (HM0.out.below hb)
  have HB1 := Lib.hid (hb.mono (show B ≤ w.heap.size by omega))
  clear hb
  have HR2 := HR.out
  rw [if_pos ⟨by omega, by omega⟩] at HR2
  clear HR
  have HR := Lib.hid HR2
  clear HR2
  by_cases hd0 : D = 0
  · subst hd0
    obtain ⟨i, rfl⟩ : ∃ i : Nat, lba = i := ⟨lba.toNat, by omega⟩
    have hlt : i < to.length := by rw [HLEN.out]; omega
    obtain ⟨x, hx⟩ : ∃ x, to[i]? = some x := ⟨_, List.getElem?_eq_getElem hlt⟩
    obtain ⟨b, cp, hsl, hbl, c0, c1, c2⟩ := HM1.out.get hx
    injection hsl with q1 q2 q3
    subst q1
    have hgd : to.getD (i : Int).toNat Ent.none = x := by rw [List.getD_eq_getElem?_getD, Int.toNat_natCast, hx]; rfl
    have hS := HR.out
    rw [if_neg (by simp), hgd] at hS
    have HS := Lib.hid hS
    have p5 : w1.cell? ⟨r, 5, none⟩ = some (.slice (some ⟨b, 0, none⟩) N cap) := by have := HM1.out.blk.cell 5; rw [HLEN.out] at this; exact this
    have hrl1 := HM1.out.blk.lt
    obtain ⟨xa, xs, xk⟩ := x
    simp only at c0 c1 c2
    have hi0 : (0 : Int) ≤ i := by omega
    have hi1 : (i : Int) < N := by omega
    clear q2 q3 hgd hS
    by_cases hfr : fr < 0
    · have hS2 := HS.out
      rw [if_pos (.inl hfr)] at hS2
      have HS2 := Lib.hid hS2
      clear hS2
      go_wp2_with fail
      go_ret2
      rw [HS2.out]
      exact ⟨rfl, ⟨_, HM1.out⟩, HB1.out⟩
    by_cases hso : xa = fr
    · have hd : (xa != fr) = false := by simp [hso]
      have hS2 := HS.out
      rw [if_neg (by simp only; omega)] at hS2
      have HS2 := Lib.hid hS2
      clear hS2
      obtain ⟨f0, hrb⟩ := HM1.out.free (by omega) (i * 3)
      have hsl : Value.slice (some ⟨b, 0, none⟩) N cap = .slice (some ⟨b, 0, none⟩) to.length cap := by rw [HLEN.out]
      have HN : Hid (RefAt (w1.setCell ⟨b, i * 3, none⟩ (.int .i64 dst)) B r g (to.set i { (⟨xa, xs, xk⟩ : Ent) with a := dst }) (.slice (some ⟨b, 0, none⟩) to.length cap)) := RefAt.setA (hsl ▸ HM1.out) hx dst
      have HBy := Lib.hid (HB1.out.setCell (p := ⟨b, i * 3, none⟩) (by show B ≤ b; omega) (.int .i64 dst))
      clear hsl
      go_wp2_with fail
      go_ret2
      rw [HS2.out]
      exact ⟨rfl, ⟨_, HN.out⟩, HBy.out⟩
    · have hd : (xa != fr) = true := by simp [hso]
      have hS2 := HS.out
      rw [if_pos (.inr hso)] at hS2
      have HS2 := Lib.hid hS2
      clear hS2
      go_wp2_with fail
      go_ret2
      rw [HS2.out]
      exact ⟨rfl, ⟨_, HM1.out⟩, HB1.out⟩
  · have hd0b : (D != 0) = true := by simp [hd0]
    have hS := HR.out
    rw [if_pos hd0] at hS
    have HS := Lib.hid hS
    clear hS
    go_wp2_with fail
    go_ret2
    rw [HS.out]
    exact ⟨rfl, ⟨_, HM1.out⟩, HB1.out⟩

end Go.Proofs.Ytlkapaecaeldpaa
