/-
  The walks of the laws over package geom, fifth part: channels.
-/
import Derived.Test.YtbeahoimefnofaaLaw03
import Derived.Test.YtbeahoimefnofaaBits3
import Derived.Test.YtbeahoimefnofaaChan
set_option linter.unusedVariables false
set_option linter.unusedSimpArgs false
namespace Go.Proofs.Ytbeahoimefnofaa
open Go.RowKit

/-- how many of the first i units have which channel -/
def cntC (C N : Nat) : Nat → List Int
  | 0 => List.replicate N 0
  | i + 1 => (cntC C N i).set (i % C) ((cntC C N i).getD (i % C) 0 + 1)

theorem cntC_length (C N : Nat) : ∀ i, (cntC C N i).length = N
  | 0 => by simp [cntC]
  | i + 1 => by rw [cntC, List.length_set, cntC_length C N i]

theorem cntC_le (C N : Nat) : ∀ i k, 0 ≤ (cntC C N i).getD k 0 ∧ (cntC C N i).getD k 0 ≤ i
  | 0, k => by
    rw [cntC, List.getD_eq_getElem?_getD, List.getElem?_replicate]
    split <;> simp
  | i + 1, k => by
    have h1 := cntC_le C N i (i % C)
    have h2 := cntC_le C N i k
    rw [cntC, List.getD_eq_getElem?_getD, List.getElem?_set]
    split
    · split
      · simp only [Option.getD_some]; omega
      · simp; omega
    · rw [← List.getD_eq_getElem?_getD]; omega

theorem cntC_all : ∀ (C : Fin 5) (L : Fin 3) (k : Fin 5), k.val < C.val → 1 ≤ L.val → (cntC C.val (C.val * L.val) (C.val * L.val)).getD k.val 0 = (L.val : Int) := by decide +kernel

theorem chan_turn : ∀ (C : Fin 5) (i : Fin 9), 1 < C.val → 1 ≤ i.val → ¬ i.val % C.val = (i.val - 1) % C.val := by decide +kernel

def lastC (C i : Nat) : Int := if i = 0 then -1 else ((i - 1) % C : Nat)

set_option maxHeartbeats 2000000 in
theorem geomChansWalk (g : Geo) (w : World) (hg : g.Wf) :
    Calls Try.prog 14 #[g.v] w fun e w' => e = .returned (.bool true) ∧ Below w.heap.size w w' := by
  have HW := Lib.hid hg
  clear hg
  obtain ⟨c, l, b, p, s⟩ := g
  have HG := Lib.hid (Blk.new w 30 [.int .i64 c, .int .i64 l, .int .i64 b, .int .i64 p, .int .i64 s])
  unfold Geo.v
  go_enter Try.func14, Try.ntmps14
  (go_wp2_with fail); refine (awake03_any _).mono ?_
  rintro e w1 ⟨rfl, hb⟩
  have hk := HG.out.below hb; have k0 : w1.cell? ⟨w.heap.size, 0, none⟩ = some (.int .i64 c) := hk.cell 0; have k1 : w1.cell? ⟨w.heap.size, 1, none⟩ = some (.int .i64 l) := hk.cell 1; have k2 : w1.cell? ⟨w.heap.size, 2, none⟩ = some (.int .i64 b) := hk.cell 2; have k3 : w1.cell? ⟨w.heap.size, 3, none⟩ = some (.int .i64 p) := hk.cell 3; have k4 : w1.cell? ⟨w.heap.size, 4, none⟩ = some (.int .i64 s) := hk.cell 4; have hltk := hk.lt
  have HG1 := Lib.hid hk
  have HB1 := Lib.hid (((Below.refl w.heap.size w).alloc (Nat.le_refl _) _).trans (hb.mono (by simp)))
  clear hb hk
  (go_wp2_with fail); refine (geomRight_any ⟨c, l, b, p, s⟩ _ HW.out).mono ?_
  rintro e w2 ⟨rfl, hb⟩
  have hk := HG1.out.below hb; have k0 : w2.cell? ⟨w.heap.size, 0, none⟩ = some (.int .i64 c) := hk.cell 0; have k1 : w2.cell? ⟨w.heap.size, 1, none⟩ = some (.int .i64 l) := hk.cell 1; have k2 : w2.cell? ⟨w.heap.size, 2, none⟩ = some (.int .i64 b) := hk.cell 2; have k3 : w2.cell? ⟨w.heap.size, 3, none⟩ = some (.int .i64 p) := hk.cell 3; have k4 : w2.cell? ⟨w.heap.size, 4, none⟩ = some (.int .i64 s) := hk.cell 4; have hltk := hk.lt
  have HG2 := Lib.hid hk
  have HB2 := Lib.hid (HB1.out.trans (hb.mono HB1.out.size))
  clear hb hk
  by_cases hok : Geo.okB ⟨c, l, b, p, s⟩ = true
  · have hg := Geo.ok_of hok
    obtain ⟨C, rfl⟩ : ∃ C : Nat, c = C := ⟨c.toNat, by have := hg.c.1; simp only at this; omega⟩
    obtain ⟨L, rfl⟩ : ∃ L : Nat, l = L := ⟨l.toNat, by have := hg.l.1; simp only at this; omega⟩
    have hC1 := hg.c.1
    have hC2 := hg.c.2
    have hL1 := hg.l.1
    have hL2 := hg.l.2
    simp only at hC1 hC2 hL1 hL2
    obtain ⟨N, hN⟩ : ∃ N, C * L = N := ⟨_, rfl⟩
    have hN8 : 1 ≤ N ∧ N ≤ 8 ∧ C ≤ N := by
      rw [← hN]
      refine ⟨Nat.mul_pos (by omega) (by omega), Nat.mul_le_mul (show C ≤ 4 by omega) (show L ≤ 2 by omega), ?_⟩
      exact Nat.le_mul_of_pos_right _ (by omega)
    obtain ⟨hN1, hN2, hN3⟩ := hN8
    have HU : Hid (∀ wy, Calls Try.prog 28 #[.agg #[.int .i64 C, .int .i64 L, .int .i64 b, .int .i64 p, .int .i64 s]] wy fun e w' => e = .returned (.int .i64 N) ∧ Below wy.heap.size wy w') := by
      intro wy
      have := geomUnits_any ⟨C, L, b, p, s⟩ wy HW.out
      unfold Geo.unitsI Geo.units at this
      rw [if_pos hok] at this
      simp only at this
      rwa [← Int.natCast_mul, hN] at this
    have HCh : Hid (∀ (i : Nat) wy, i < N → Calls Try.prog 43 #[.agg #[.int .i64 C, .int .i64 L, .int .i64 b, .int .i64 p, .int .i64 s], .int .i64 i] wy fun e w' => e = .returned (.tuple #[.int .i64 (i % C : Nat), .int .i64 0]) ∧ Below wy.heap.size wy w') := by
      intro i wy hi
      have := geomChan_any ⟨C, L, b, p, s⟩ i wy HW.out
      have hin : (0 : Int) ≤ i ∧ (i : Int) < Geo.units ⟨C, L, b, p, s⟩ := by
        unfold Geo.units; simp only; rw [← Int.natCast_mul, hN]; omega
      unfold Geo.chanN Geo.chanE at this
      rw [if_pos ⟨hok, hin⟩, if_pos hok, if_pos hin] at this
      exact this
    have HALL : Hid (∀ k, k < C → (cntC C N N).getD k 0 = (L : Int)) := by
      intro k hk
      have := cntC_all ⟨C, by omega⟩ ⟨L, by omega⟩ ⟨k, by omega⟩ hk (by simp only; omega)
      simpa [hN] using this
    have HTURN : Hid (∀ i, i < N → 1 < C → ¬ ((i % C : Nat) : Int) = lastC C i) := by
      intro i hi hc
      unfold lastC
      split
      · omega
      · have := chan_turn ⟨C, by omega⟩ ⟨i, by omega⟩ hc (by simp only; omega)
        simp only at this
        omega
    rw [hok]
    clear hok hg hN
    have hmk := makeRow (P := Try.prog) 45 3 (.int .i64 0) 8 Try.underlying45 info_int rfl N (by omega) (by omega)
    (go_wp2_with fail); refine (HU.out _).mono ?_
    rintro e w3 ⟨rfl, hb⟩
    have hk := HG2.out.below hb; have k0 : w3.cell? ⟨w.heap.size, 0, none⟩ = some (.int .i64 C) := hk.cell 0; have k1 : w3.cell? ⟨w.heap.size, 1, none⟩ = some (.int .i64 L) := hk.cell 1; have k2 : w3.cell? ⟨w.heap.size, 2, none⟩ = some (.int .i64 b) := hk.cell 2; have k3 : w3.cell? ⟨w.heap.size, 3, none⟩ = some (.int .i64 p) := hk.cell 3; have k4 : w3.cell? ⟨w.heap.size, 4, none⟩ = some (.int .i64 s) := hk.cell 4; have hltk := hk.lt
    have hne0 : w.heap.size < w3.heap.size := hltk
    have HG3 := Lib.hid (hk.alloc (.cells (List.replicate N (.int .i64 0)).toArray 3))
    have HB3 := Lib.hid ((HB2.out.trans (hb.mono HB2.out.size)).alloc (Nat.le_trans HB2.out.size hb.size) (.cells (List.replicate N (.int .i64 0)).toArray 3))
    have HM3 := Lib.hid (Blk.new w3 3 (List.replicate N (.int .i64 0)))
    clear hb hk
    go_wp2_with fail
    go_loopw [7, 8] (fun la t wr => ∃ i : Nat, i ≤ N ∧ t = .int .i64 i ∧ la = .int .i64 (lastC C i) ∧ Hid (Blk wr w3.heap.size 3 (iv (cntC C N i))) ∧ Hid (Blk wr w.heap.size 30 [.int .i64 C, .int .i64 L, .int .i64 b, .int .i64 p, .int .i64 s]) ∧ Hid (Below w.heap.size w wr)) (fun _ t _ => ((N : Int) - intOf t).toNat)
    case atStart => exact ⟨0, Nat.zero_le _, rfl, rfl, HM3.out.get (by simp [cntC, iv]), HG3.out, HB3.out⟩
    case round =>
      obtain ⟨i, hi, rfl, rfl, HM, HGr, HB⟩ := hrel
      by_cases hlt : i < N
      · obtain ⟨K, hK⟩ : ∃ K, i % C = K := ⟨_, rfl⟩
        have hKC : K < C := by rw [← hK]; exact Nat.mod_lt _ (by omega)
        have HC4 := HCh.out i
        rw [hK] at HC4
        have HC5 := Lib.hid HC4
        clear HC4
        have hnx : lastC C (i + 1) = (K : Int) := by unfold lastC; rw [if_neg (by omega), Nat.add_sub_cancel, hK]
        have HNX := Lib.hid hnx
        have HT := HTURN.out i hlt
        rw [hK] at HT
        obtain ⟨X, hX⟩ : ∃ X, (cntC C N i).getD K 0 = X := ⟨_, rfl⟩
        have hXb := cntC_le C N i K
        rw [hX] at hXb
        have hNXT : Hid (iv (cntC C N (i + 1)) = (iv (cntC C N i)).set K (.int .i64 (X + 1))) := by
          show _ = _
          simp only [cntC, iv, hK, hX, List.map_set]
        have hKx : (iv (cntC C N i))[K]? = some (.int .i64 X) := by
          rw [← hX, iv, List.getElem?_map, List.getD_eq_getElem?_getD, List.getElem?_eq_getElem (by rw [cntC_length]; omega)]
          rfl
        have hXw : IntKind.i64.wrap (X + 1) = X + 1 := wrap_in _ ⟨by omega, by omega⟩
        obtain ⟨la, hla⟩ : ∃ la, lastC C i = la := ⟨_, rfl⟩
        rw [hla] at HT ⊢
        have hq0 := (HGr.out.cell 0)
        have hq := HGr.out.lt
        have hk0 : wr.cell? ⟨w.heap.size, 0, none⟩ = some (.int .i64 C) := HGr.out.cell 0
        have hk1 : wr.cell? ⟨w.heap.size, 1, none⟩ = some (.int .i64 L) := HGr.out.cell 1
        have hk2 : wr.cell? ⟨w.heap.size, 2, none⟩ = some (.int .i64 b) := HGr.out.cell 2
        have hk3 : wr.cell? ⟨w.heap.size, 3, none⟩ = some (.int .i64 p) := HGr.out.cell 3
        have hk4 : wr.cell? ⟨w.heap.size, 4, none⟩ = some (.int .i64 s) := HGr.out.cell 4
        clear hX hla hK hnx hq0
        (go_wp2_with fail); refine (HC5.out _ hlt).mono ?_
        rintro e w4 ⟨rfl, hb⟩
        have hk := HGr.out.below hb; have k0 : w4.cell? ⟨w.heap.size, 0, none⟩ = some (.int .i64 C) := hk.cell 0; have k1 : w4.cell? ⟨w.heap.size, 1, none⟩ = some (.int .i64 L) := hk.cell 1; have k2 : w4.cell? ⟨w.heap.size, 2, none⟩ = some (.int .i64 b) := hk.cell 2; have k3 : w4.cell? ⟨w.heap.size, 3, none⟩ = some (.int .i64 p) := hk.cell 3; have k4 : w4.cell? ⟨w.heap.size, 4, none⟩ = some (.int .i64 s) := hk.cell 4; have hltk := hk.lt
        have hm := HM.out.below hb
        have hmc : w4.cell? ⟨w3.heap.size, K, none⟩ = some (.int .i64 X) := (hm.cell K).trans hKx
        have hmf := hm.free K
        have hml := hm.lt
        have HM4 := Lib.hid hm
        have HG4 := Lib.hid hk
        have HB4 := Lib.hid (HB.out.trans (hb.mono HB.out.size))
        clear hb hk hm
        by_cases hC : C = 1
        · have hC' : ¬ (1 : Int) < C := by omega
          clear hC
          by_cases he0 : (K : Int) = la
          · have he : ((K : Int) == la) = true := by simp [he0]
            clear he0 HT
            go_wp2_with fail
            go_roundw
            case rel => exact ⟨i + 1, by omega, by go_num, by rw [HNX.out], (HM4.out.set K _).get hNXT.out.symm, HG4.out.set_other (by simp only; omega) _, HB4.out.setCell (Nat.le_of_lt hne0) _⟩
            case measure => simp [intOf]; omega
          · have he : ((K : Int) == la) = false := by simp [he0]
            clear he0 HT
            go_wp2_with fail
            go_roundw
            case rel => exact ⟨i + 1, by omega, by go_num, by rw [HNX.out], (HM4.out.set K _).get hNXT.out.symm, HG4.out.set_other (by simp only; omega) _, HB4.out.setCell (Nat.le_of_lt hne0) _⟩
            case measure => simp [intOf]; omega
        · have hC' : (1 : Int) < C := by omega
          have he : ((K : Int) == la) = false := by
            rw [beq_eq_false_iff_ne]
            exact HT (by omega)
          clear HT
          go_wp2_with fail
          go_roundw
          case rel => exact ⟨i + 1, by omega, by go_num, by rw [HNX.out], (HM4.out.set K _).get hNXT.out.symm, HG4.out.set_other (by simp only; omega) _, HB4.out.setCell (Nat.le_of_lt hne0) _⟩
          case measure => simp [intOf]; omega
      · obtain rfl : i = N := by omega
        obtain ⟨wo, rfl⟩ : ∃ wo : World, wo = wr := ⟨_, rfl⟩
        go_wp2_with fail
        go_loopw [11] (fun t wr => ∃ k : Nat, k ≤ C ∧ t = .int .i64 k ∧ Hid (Below wo.heap.size wo wr)) (fun t _ => ((C : Int) - intOf t).toNat)
        case atStart => exact ⟨0, Nat.zero_le _, rfl, Below.refl _ _⟩
        case round =>
          obtain ⟨k, hk, rfl, HW2⟩ := hrel
          have hb := HW2.out
          have hk := HGr.out.below hb; have k0 : wr.cell? ⟨w.heap.size, 0, none⟩ = some (.int .i64 C) := hk.cell 0; have k1 : wr.cell? ⟨w.heap.size, 1, none⟩ = some (.int .i64 L) := hk.cell 1; have k2 : wr.cell? ⟨w.heap.size, 2, none⟩ = some (.int .i64 b) := hk.cell 2; have k3 : wr.cell? ⟨w.heap.size, 3, none⟩ = some (.int .i64 p) := hk.cell 3; have k4 : wr.cell? ⟨w.heap.size, 4, none⟩ = some (.int .i64 s) := hk.cell 4; have hltk := hk.lt
          by_cases hlt2 : k < C
          · have hm := HM.out.below hb
            have hmc : wr.cell? ⟨w3.heap.size, k, none⟩ = some (.int .i64 L) := by
              rw [hm.cell, iv, List.getElem?_map, List.getElem?_eq_getElem (by rw [cntC_length]; omega), ← HALL.out k hlt2, List.getD_eq_getElem?_getD, List.getElem?_eq_getElem (by rw [cntC_length]; omega)]
              rfl
            clear hb hk hm
            go_wp2_with fail
            go_region
            go_wp2
            go_roundw
            case rel => exact ⟨k + 1, by omega, by go_num, HW2.out.drew⟩
            case measure => simp [intOf]; omega
          · have hkC : k = C := by omega
            clear hb hk
            go_wp2_with fail
            go_ret
            exact ⟨rfl, HB.out.trans (HW2.out.mono HB.out.size)⟩
  · have hk1 : Geo.okB ⟨c, l, b, p, s⟩ = false := by simpa using hok
    rw [hk1]
    go_wp2
    go_ret
    exact ⟨rfl, HB2.out⟩

end Go.Proofs.Ytbeahoimefnofaa
