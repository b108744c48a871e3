/-
  The walks of the laws over package stripe, fifth part: StripeAll. The plain law.
-/
import Derived.Test.YtbfpnpoafepjjaaLaw09
set_option linter.unusedVariables false
set_option linter.unusedSimpArgs false
set_option maxRecDepth 16384
namespace Go.Proofs.Ytbfpnpoafepjjaa
open Go.RowKit

/-- how many pages of a unit lie below a number -/
def pgB (U cur u : Nat) : Nat := (cur + U - 1 - u) / U

theorem u_cases {U : Nat} (h1 : 1 ≤ U) (h8 : U ≤ 8) : U = 1 ∨ U = 2 ∨ U = 3 ∨ U = 4 ∨ U = 5 ∨ U = 6 ∨ U = 7 ∨ U = 8 := by omega

theorem pgB_zero {U u : Nat} (h1 : 1 ≤ U) (h8 : U ≤ 8) (hu : u < U) : pgB U 0 u = 0 := by
  unfold pgB
  exact Nat.div_eq_of_lt (by omega)
theorem pgB_self {U k : Nat} (h1 : 1 ≤ U) (h8 : U ≤ 8) : pgB U k (k % U) = k / U := by
  unfold pgB
  rcases u_cases h1 h8 with rfl | rfl | rfl | rfl | rfl | rfl | rfl | rfl <;> omega
theorem pgB_step {U k u : Nat} (h1 : 1 ≤ U) (h8 : U ≤ 8) (hu : u < U) : pgB U (k + 1) u = if u = k % U then pgB U k u + 1 else pgB U k u := by
  unfold pgB
  rcases u_cases h1 h8 with rfl | rfl | rfl | rfl | rfl | rfl | rfl | rfl <;> split <;> omega
theorem pgB_all {U N u : Nat} (h1 : 1 ≤ U) (h8 : U ≤ 8) (hu : u < U) : pgB U (U * N) u = N := by
  unfold pgB
  rcases u_cases h1 h8 with rfl | rfl | rfl | rfl | rfl | rfl | rfl | rfl <;> omega


/-- what the law has counted, unit by unit, when it stands at a number -/
def nxL (U : Nat) (xs : List Int) (cur : Nat) : List Int := (List.range U).map fun (u : Nat) => if hasL xs (u : Int) then 0 else ((pgB U cur u : Nat) : Int)

theorem nxL_length (U : Nat) (xs : List Int) (cur : Nat) : (nxL U xs cur).length = U := by simp [nxL]
theorem nxL_get {U : Nat} {xs : List Int} {cur u : Nat} (hu : u < U) : (nxL U xs cur)[u]? = some (if hasL xs (u : Int) then 0 else ((pgB U cur u : Nat) : Int)) := by
  simp [nxL, hu]
theorem nxL_dead {U : Nat} {xs : List Int} {k : Nat} (h1 : 1 ≤ U) (h8 : U ≤ 8) (hd : hasL xs ((k % U : Nat) : Int) = true) : nxL U xs (k + 1) = nxL U xs k := by
  refine List.ext_getElem? fun u => ?_
  by_cases hu : u < U
  · rw [nxL_get hu, nxL_get hu, pgB_step h1 h8 hu]
    by_cases he : u = k % U
    · rw [he, hd]; simp
    · rw [if_neg he]
  · rw [List.getElem?_eq_none (by rw [nxL_length]; omega), List.getElem?_eq_none (by rw [nxL_length]; omega)]
theorem nxL_live {U : Nat} {xs : List Int} {k : Nat} (h1 : 1 ≤ U) (h8 : U ≤ 8) (hd : hasL xs ((k % U : Nat) : Int) = false) : nxL U xs (k + 1) = (nxL U xs k).set (k % U) (((k / U : Nat) : Int) + 1) := by
  refine List.ext_getElem? fun u => ?_
  have hm : k % U < U := Nat.mod_lt _ (by omega)
  by_cases hu : u < U
  · rw [nxL_get hu, List.getElem?_set, pgB_step h1 h8 hu]
    by_cases he : u = k % U
    · subst he
      simp only [hd, if_true, Bool.false_eq_true, if_false, nxL_length, hm, pgB_self h1 h8]
      rfl
    · rw [if_neg he, if_neg (show ¬ k % U = u from fun e => he e.symm), nxL_get hu]
  · rw [List.getElem?_eq_none (by rw [nxL_length]; omega), List.getElem?_eq_none (by rw [List.length_set, nxL_length]; omega)]

theorem alv_nextN {P U : Nat} (h1 : 1 ≤ U) (h8 : U ≤ 8) (xs : List Int) : ∀ (d i : Nat), i + d = P → (alvP P U xs i = [] ∧ nxL U xs i = nxL U xs P) ∨
    ∃ j : Nat, i ≤ j ∧ j < P ∧ hasL xs ((j % U : Nat) : Int) = false ∧ nxL U xs i = nxL U xs j ∧ alvP P U xs i = (j : Int) :: alvP P U xs (j + 1)
  | 0, i, h => .inl ⟨alv_end (i := i) (by omega), by rw [← h]; rfl⟩
  | d + 1, i, h => by
    rw [alv_step (show i < P by omega)]
    by_cases hd : hasL xs ((i % U : Nat) : Int) = true
    · rw [if_pos hd, ← nxL_dead (k := i) h1 h8 hd]
      rcases alv_nextN (P := P) h1 h8 xs d (i + 1) (by omega) with h2 | ⟨j, h2, h3, h4, h5, h6⟩
      · exact .inl h2
      · exact .inr ⟨j, by omega, h3, h4, h5, h6⟩
    · rw [if_neg hd]
      exact .inr ⟨i, Nat.le_refl _, by omega, by simpa using hd, rfl, rfl⟩


set_option maxHeartbeats 4000000 in
theorem stripeAllWalk (g : Geo) (a0 : Option Addr) (len0 cap0 : Nat) (z0 : List Int) (w : World) (hg : g.Wf) (w0 : IsRow .i64 w a0 len0 cap0 z0) :
    Calls Try.prog 4 #[g.v, .slice a0 len0 cap0] w fun e w' => e = .returned (.bool true) ∧ Below w.heap.size w w' := by
  have HW := Lib.hid hg
  have hll := w0.len_le
  by_cases hok : g.okB = true
  · have HK1 := Lib.hid hok
    obtain ⟨p1, p2, p3, p4⟩ := Geo.pgs_le hok
    have hpp := (Geo.ok_of hok).p
    obtain ⟨U, hU⟩ : ∃ U : Nat, g.units = U := ⟨g.units.toNat, by omega⟩
    obtain ⟨N, hN⟩ : ∃ N : Nat, g.pages = N := ⟨g.pages.toNat, by omega⟩
    have HU : Hid (∀ wy, Calls Try.prog 19 #[g.v] wy fun e w' => e = .returned (.int .i64 U) ∧ Below wy.heap.size wy w') := by
      intro wy
      have := geomUnits_any g wy HW.out
      unfold Geo.unitsI at this
      rwa [if_pos hok, hU] at this
    have HUE := Lib.hid hU
    rw [hU] at p1 p2
    rw [hN] at hpp
    clear hok hU p3 p4 hg
    obtain ⟨c, l, b, p, s⟩ := g
    simp only at hN
    subst hN
    have HG := Lib.hid (Blk.new w 23 [.int .i64 c, .int .i64 l, .int .i64 b, .int .i64 N, .int .i64 s])
    unfold Geo.v at HU ⊢
    by_cases hl : 100 < len0
    · clear w0
      go_enter Try.func4, Try.ntmps4
      (go_wp2_with fail); refine (awake09_any _).mono ?_
      rintro e w1 ⟨rfl, hb⟩
      have hk := HG.out.below hb
      have k0 : w1.cell? ⟨w.heap.size, 0, none⟩ = some (.int .i64 c) := hk.cell 0
      have k1 : w1.cell? ⟨w.heap.size, 1, none⟩ = some (.int .i64 l) := hk.cell 1
      have k2 : w1.cell? ⟨w.heap.size, 2, none⟩ = some (.int .i64 b) := hk.cell 2
      have k3 : w1.cell? ⟨w.heap.size, 3, none⟩ = some (.int .i64 N) := hk.cell 3
      have k4 : w1.cell? ⟨w.heap.size, 4, none⟩ = some (.int .i64 s) := hk.cell 4
      have HB1 := Lib.hid (((Below.refl w.heap.size w).alloc (Nat.le_refl _) _).trans (hb.mono (by simp)))
      clear hb hk
      (go_wp2_with fail); refine (geomRight_any ⟨c, l, b, N, s⟩ _ HW.out).mono ?_
      rintro e w2 ⟨rfl, hb⟩
      rw [HK1.out]
      have HB2 := Lib.hid (HB1.out.trans (hb.mono HB1.out.size))
      clear hb
      go_wp2
      go_ret
      exact ⟨ret_bool (by simp), HB2.out⟩
    · obtain ⟨hs, hlen, hwf⟩ := w0.sl (by omega)
      generalize z0.take len0 = xs at *
      subst hlen
      clear w0 hwf
      have HS : Hid (Sl w 0 (.slice a0 xs.length cap0) (iv xs)) := hs
      clear hs
      obtain ⟨P, hP⟩ : ∃ P, U * N = P := ⟨_, rfl⟩
      have hP8 : P ≤ 8 * 32 := by rw [← hP]; exact Nat.mul_le_mul (by omega) (by omega)
      have HPP := Lib.hid hP
      clear hP
      have hmk := makeRow (P := Try.prog) 24 3 (.int .i64 0) 8 Try.underlying24 info_int rfl U (by omega) (by omega)
      go_enter Try.func4, Try.ntmps4
      (go_wp2_with fail); refine (awake09_any _).mono ?_
      rintro e w1 ⟨rfl, hb⟩
      have hk := HG.out.below hb; have k0 : w1.cell? ⟨w.heap.size, 0, none⟩ = some (.int .i64 c) := hk.cell 0; have k1 : w1.cell? ⟨w.heap.size, 1, none⟩ = some (.int .i64 l) := hk.cell 1; have k2 : w1.cell? ⟨w.heap.size, 2, none⟩ = some (.int .i64 b) := hk.cell 2; have k3 : w1.cell? ⟨w.heap.size, 3, none⟩ = some (.int .i64 N) := hk.cell 3; have k4 : w1.cell? ⟨w.heap.size, 4, none⟩ = some (.int .i64 s) := hk.cell 4; have hltk := hk.lt
      have HG1 := Lib.hid hk
      have HB1 := Lib.hid (((Below.refl w.heap.size w).alloc (Nat.le_refl _) _).trans (hb.mono (by simp)))
      clear hb hk
      (go_wp2_with fail); refine (geomRight_any ⟨c, l, b, N, s⟩ _ HW.out).mono ?_
      rintro e w2 ⟨rfl, hb⟩
      rw [HK1.out]
      have hk := HG1.out.below hb; have k0 : w2.cell? ⟨w.heap.size, 0, none⟩ = some (.int .i64 c) := hk.cell 0; have k1 : w2.cell? ⟨w.heap.size, 1, none⟩ = some (.int .i64 l) := hk.cell 1; have k2 : w2.cell? ⟨w.heap.size, 2, none⟩ = some (.int .i64 b) := hk.cell 2; have k3 : w2.cell? ⟨w.heap.size, 3, none⟩ = some (.int .i64 N) := hk.cell 3; have k4 : w2.cell? ⟨w.heap.size, 4, none⟩ = some (.int .i64 s) := hk.cell 4; have hltk := hk.lt
      have HG2 := Lib.hid hk
      have HB2 := Lib.hid (HB1.out.trans (hb.mono HB1.out.size))
      clear hb hk
      (go_wp2_with fail); refine (HU.out _).mono ?_
      rintro e w3 ⟨rfl, hb⟩
      have hk := HG2.out.below hb; have k0 : w3.cell? ⟨w.heap.size, 0, none⟩ = some (.int .i64 c) := hk.cell 0; have k1 : w3.cell? ⟨w.heap.size, 1, none⟩ = some (.int .i64 l) := hk.cell 1; have k2 : w3.cell? ⟨w.heap.size, 2, none⟩ = some (.int .i64 b) := hk.cell 2; have k3 : w3.cell? ⟨w.heap.size, 3, none⟩ = some (.int .i64 N) := hk.cell 3; have k4 : w3.cell? ⟨w.heap.size, 4, none⟩ = some (.int .i64 s) := hk.cell 4; have hltk := hk.lt
      have hne0 : w.heap.size < w3.heap.size := hltk
      have HG3 := Lib.hid (hk.alloc (.cells (List.replicate U (.int .i64 0)).toArray 3))
      have HB3 := Lib.hid ((HB2.out.trans (hb.mono HB2.out.size)).alloc (Nat.le_trans HB2.out.size hb.size) (.cells (List.replicate U (.int .i64 0)).toArray 3))
      have HM3 := Lib.hid (Blk.new w3 3 (List.replicate U (.int .i64 0)))
      clear hb hk
      have hszn : w3.heap.size ≤ (w3.alloc (.cells (List.replicate U (.int .i64 0)).toArray 3)).heap.size := by simp
      (go_wp2_with fail); refine (stripeNext_any ⟨c, l, b, N, s⟩ _ xs 0 _ HW.out (HS.out.below (by simpa using HB3.out)) ⟨by decide, by decide⟩).mono ?_
      rintro e w4 ⟨rfl, hb⟩
      have hnx : Geo.nxt ⟨c, l, b, N, s⟩ xs 0 = (alvP P U xs 0).head?.getD (-1) := by
        unfold Geo.nxt Geo.alv
        rw [if_pos HK1.out, HUE.out]
        simp only
        rw [show ((U : Int) * (N : Int)).toNat = P from by rw [← HPP.out, ← Int.natCast_mul]; rfl]
        simp
      rw [hnx]
      have HG4 := Lib.hid (HG3.out.below hb)
      have HM4 := Lib.hid (HM3.out.below hb)
      have HB4 := Lib.hid (HB3.out.trans (hb.mono HB3.out.size))
      clear hb hnx hszn
      have HZ0 : Hid (List.replicate U (Value.int .i64 0) = iv (nxL U xs 0)) := by
        show _ = _
        refine List.ext_getElem? fun u => ?_
        by_cases hu : u < U
        · rw [List.getElem?_replicate, if_pos hu, iv, List.getElem?_map, nxL_get hu, pgB_zero (by omega) (by omega) hu]; simp
        · rw [List.getElem?_eq_none (by simpa using hu), List.getElem?_eq_none (by rw [iv_length, nxL_length]; omega)]
      have HNN : Hid (∀ cur, cur ≤ P → (alvP P U xs cur = [] ∧ nxL U xs cur = nxL U xs P) ∨
          ∃ j : Nat, cur ≤ j ∧ j < P ∧ hasL xs ((j % U : Nat) : Int) = false ∧ nxL U xs cur = nxL U xs j ∧ alvP P U xs cur = (j : Int) :: alvP P U xs (j + 1)) :=
        fun cur h => alv_nextN (by omega) (by omega) xs (P - cur) cur (by omega)
      have hwUN : IntKind.i64.wrap ((U : Int) * (N : Int)) = (P : Int) := by
        rw [← Int.natCast_mul, HPP.out]; exact wrap_in _ ⟨by omega, by omega⟩
      go_wp2_with fail
      go_loopw [9, 10] (fun kk t wr => ∃ (cur i : Nat), i ≤ cur ∧ cur ≤ P ∧ t = .int .i64 i ∧ kk = .int .i64 ((alvP P U xs cur).head?.getD (-1)) ∧ Hid (Blk wr w3.heap.size 3 (iv (nxL U xs cur))) ∧ Hid (Blk wr w.heap.size 23 [.int .i64 c, .int .i64 l, .int .i64 b, .int .i64 N, .int .i64 s]) ∧ Hid (Below w.heap.size w wr)) (fun _ t _ => ((P : Int) + 1 - intOf t).toNat)
      case atStart => exact ⟨0, 0, Nat.le_refl _, Nat.zero_le _, rfl, rfl, HM4.out.get HZ0.out, HG4.out, HB4.out⟩
      case round =>
        obtain ⟨cur, i, hic, hcP, rfl, rfl, HM, HGr, HBr⟩ := hrel
        have hkr := HGr.out
        have k0 : wr.cell? ⟨w.heap.size, 0, none⟩ = some (.int .i64 c) := hkr.cell 0
        have k1 : wr.cell? ⟨w.heap.size, 1, none⟩ = some (.int .i64 l) := hkr.cell 1
        have k2 : wr.cell? ⟨w.heap.size, 2, none⟩ = some (.int .i64 b) := hkr.cell 2
        have k3 : wr.cell? ⟨w.heap.size, 3, none⟩ = some (.int .i64 N) := hkr.cell 3
        have k4 : wr.cell? ⟨w.heap.size, 4, none⟩ = some (.int .i64 s) := hkr.cell 4
        have hltk := hkr.lt
        clear hkr
        have hip : i ≤ P := by omega
        have hdi : decide (i ≤ P) = true := decide_eq_true hip
        rcases HNN.out cur hcP with ⟨h1, h2⟩ | ⟨j, h1, h2, h3, h4, h5⟩
        · have HMP : Hid (Blk wr w3.heap.size 3 (iv (nxL U xs P))) := by rw [← h2]; exact HM
          rw [h1]
          clear h1 h2 HM
          simp only [List.head?_nil, Option.getD_none]
          go_wp2_with fail
          obtain ⟨wo, rfl⟩ : ∃ wo : World, wo = wr := ⟨_, rfl⟩
          clear k0 k1 k2 k3 k4
          go_loopw [14] (fun t wr => ∃ k : Nat, k ≤ U ∧ t = .int .i64 k ∧ Hid (Below wo.heap.size wo wr)) (fun t _ => ((U : Int) - intOf t).toNat)
          case atStart => exact ⟨0, Nat.zero_le _, rfl, Below.refl _ _⟩
          case round =>
            obtain ⟨k, hkU, rfl, HW2⟩ := hrel
            have hb := HW2.out
            have hk := HGr.out.below hb; have k0 : wr.cell? ⟨w.heap.size, 0, none⟩ = some (.int .i64 c) := hk.cell 0; have k1 : wr.cell? ⟨w.heap.size, 1, none⟩ = some (.int .i64 l) := hk.cell 1; have k2 : wr.cell? ⟨w.heap.size, 2, none⟩ = some (.int .i64 b) := hk.cell 2; have k3 : wr.cell? ⟨w.heap.size, 3, none⟩ = some (.int .i64 N) := hk.cell 3; have k4 : wr.cell? ⟨w.heap.size, 4, none⟩ = some (.int .i64 s) := hk.cell 4; have hltk := hk.lt
            clear hk
            by_cases hlt2 : k < U
            · have hm := HMP.out.below hb
              obtain ⟨H, hH⟩ : ∃ H, hasL xs (k : Int) = H := ⟨_, rfl⟩
              have hmc : wr.cell? ⟨w3.heap.size, k, none⟩ = some (.int .i64 (if H = true then 0 else (N : Int))) := by
                rw [hm.cell, iv, List.getElem?_map, nxL_get hlt2, hH, ← HPP.out, pgB_all (by omega) (by omega) hlt2]
                rfl
              have HHH := Lib.hid hH
              clear hm hH hb
              (go_wp2_with fail); refine (ref09Has_any _ xs k _ (HS.out.below (HBr.out.trans (HW2.out.mono HBr.out.size)))).mono ?_
              rintro e w5 ⟨rfl, rfl⟩
              rw [HHH.out]
              cases H
              · simp only [Bool.false_eq_true, if_false] at hmc
                have hNN : ((N : Int) != N) = false := by simp
                go_wp2_with fail
                go_region
                go_wp2
                go_roundw
                case rel => exact ⟨k + 1, by omega, by go_num, HW2.out.drew⟩
                case measure => simp [intOf]; omega
              · simp only [if_true] at hmc
                go_wp2_with fail
                go_region
                go_wp2
                go_roundw
                case rel => exact ⟨k + 1, by omega, by go_num, HW2.out.drew⟩
                case measure => simp [intOf]; omega
            · have hkC : k = U := by omega
              clear hb
              go_wp2_with fail
              go_ret
              exact ⟨rfl, HBr.out.trans (HW2.out.mono HBr.out.size)⟩
        · rw [h5]
          simp only [List.head?_cons, Option.getD_some]
          obtain ⟨Y, hY⟩ : ∃ Y, j % U = Y := ⟨_, rfl⟩
          obtain ⟨Z, hZ⟩ : ∃ Z, j / U = Z := ⟨_, rfl⟩
          have hYU : Y < U := by rw [← hY]; exact Nat.mod_lt _ (by omega)
          have hZP : Z ≤ P := by rw [← hZ]; exact Nat.le_trans (Nat.div_le_self _ _) (by omega)
          have HSP : Hid (Geo.spotU ⟨c, l, b, N, s⟩ j = Y ∧ Geo.spotP ⟨c, l, b, N, s⟩ j = Z ∧ Geo.spotE ⟨c, l, b, N, s⟩ j = 0) := by
            show _ ∧ _ ∧ _
            unfold Geo.spotU Geo.spotP Geo.spotE
            have hin : 0 ≤ (j : Int) ∧ (j : Int) < Geo.units ⟨c, l, b, N, s⟩ * Geo.pages ⟨c, l, b, N, s⟩ := by
              rw [HUE.out]; simp only; rw [← Int.natCast_mul, HPP.out]; omega
            rw [if_pos ⟨HK1.out, hin⟩, if_pos ⟨HK1.out, hin⟩, if_pos HK1.out, if_pos hin, HUE.out, ← hY, ← hZ]
            exact ⟨rfl, rfl, rfl⟩
          have hmc : wr.cell? ⟨w3.heap.size, Y, none⟩ = some (.int .i64 Z) := by
            rw [HM.out.cell, iv, List.getElem?_map, h4, nxL_get hYU, ← hY, h3, pgB_self (by omega) (by omega), hZ]
            rfl
          have HNL : Hid (iv (nxL U xs (j + 1)) = (iv (nxL U xs cur)).set Y (.int .i64 ((Z : Int) + 1))) := by
            show _ = _
            rw [nxL_live (by omega) (by omega) h3, h4, hY, hZ]
            simp only [iv, List.map_set]
          have HNJ : Hid (Geo.nxt ⟨c, l, b, N, s⟩ xs ((j : Int) + 1) = (alvP P U xs (j + 1)).head?.getD (-1)) := by
            show _ = _
            unfold Geo.nxt Geo.alv
            rw [if_pos HK1.out, HUE.out]
            simp only
            rw [show ((U : Int) * (N : Int)).toNat = P from by rw [← HPP.out, ← Int.natCast_mul]; rfl, show (max ((j : Int) + 1) 0).toNat = j + 1 from by omega]
            simp
          have hmf := HM.out.free Y
          have hml := HM.out.lt
          have hZw : IntKind.i64.wrap ((Z : Int) + 1) = (Z : Int) + 1 := wrap_in _ ⟨by omega, by omega⟩
          have hjw : IntKind.i64.wrap ((j : Int) + 1) = (j : Int) + 1 := wrap_in _ ⟨by omega, by omega⟩
          have hZZ : ((Z : Int) != Z) = false := by simp
          clear hY hZ h3 h4 h5
          (go_wp2_with fail); refine (stripeSpot_any ⟨c, l, b, N, s⟩ j _ HW.out ⟨by omega, by omega⟩).mono ?_
          rintro e w5 ⟨rfl, hb⟩
          rw [HSP.out.1, HSP.out.2.1, HSP.out.2.2]
          have hm := HM.out.below hb
          have hmc5 : w5.cell? ⟨w3.heap.size, Y, none⟩ = some (.int .i64 Z) := ((bcell hb).1 _ _ hml).trans hmc
          have hmf5 := hm.free Y
          have hk := HGr.out.below hb; have k0 : w5.cell? ⟨w.heap.size, 0, none⟩ = some (.int .i64 c) := hk.cell 0; have k1 : w5.cell? ⟨w.heap.size, 1, none⟩ = some (.int .i64 l) := hk.cell 1; have k2 : w5.cell? ⟨w.heap.size, 2, none⟩ = some (.int .i64 b) := hk.cell 2; have k3 : w5.cell? ⟨w.heap.size, 3, none⟩ = some (.int .i64 N) := hk.cell 3; have k4 : w5.cell? ⟨w.heap.size, 4, none⟩ = some (.int .i64 s) := hk.cell 4; have hltk := hk.lt
          have HG5 := Lib.hid hk
          have HM5 := Lib.hid hm
          have HB5 := Lib.hid (HBr.out.trans (hb.mono HBr.out.size))
          clear hb hk hm hmc hmf
          have HM6 := Lib.hid ((HM5.out.set Y (.int .i64 ((Z : Int) + 1))).get HNL.out.symm)
          have HG6 := Lib.hid (HG5.out.set_other (a := ⟨w3.heap.size, Y, none⟩) (by simp only; omega) (.int .i64 ((Z : Int) + 1)))
          have HB6 := Lib.hid (HB5.out.setCell (p := ⟨w3.heap.size, Y, none⟩) (Nat.le_of_lt hne0) (.int .i64 ((Z : Int) + 1)))
          (go_wp2_with fail); refine (stripeNext_any ⟨c, l, b, N, s⟩ _ xs (j + 1) _ HW.out (HS.out.below HB6.out) ⟨by omega, by omega⟩).mono ?_
          rintro e w6 ⟨rfl, hb⟩
          rw [HNJ.out]
          have HG7 := Lib.hid (HG6.out.below hb)
          have HM7 := Lib.hid (HM6.out.below hb)
          have HB7 := Lib.hid (HB6.out.trans (hb.mono HB6.out.size))
          clear hb
          go_wp2_with fail
          go_roundw
          case rel => exact ⟨j + 1, i + 1, by omega, by omega, by go_num, rfl, HM7.out, HG7.out, HB7.out⟩
          case measure => simp [intOf]; omega
  · have hk1 : g.okB = false := by simpa using hok
    have hN : g.nxt [] 0 = -1 := by unfold Geo.nxt Geo.alv; rw [if_neg hok]; rfl
    have HK1 := Lib.hid hk1
    have HN := Lib.hid hN
    clear hk1 hok hN w0 hg
    obtain ⟨c, l, b, p, s⟩ := g
    have HG := Lib.hid (Blk.new w 23 [.int .i64 c, .int .i64 l, .int .i64 b, .int .i64 p, .int .i64 s])
    unfold Geo.v
    go_enter Try.func4, Try.ntmps4
    (go_wp2_with fail); refine (awake09_any _).mono ?_
    rintro e w1 ⟨rfl, hb⟩
    have hk := HG.out.below hb; have k0 : w1.cell? ⟨w.heap.size, 0, none⟩ = some (.int .i64 c) := hk.cell 0; have k1 : w1.cell? ⟨w.heap.size, 1, none⟩ = some (.int .i64 l) := hk.cell 1; have k2 : w1.cell? ⟨w.heap.size, 2, none⟩ = some (.int .i64 b) := hk.cell 2; have k3 : w1.cell? ⟨w.heap.size, 3, none⟩ = some (.int .i64 p) := hk.cell 3; have k4 : w1.cell? ⟨w.heap.size, 4, none⟩ = some (.int .i64 s) := hk.cell 4; have hltk := hk.lt
    have HG1 := Lib.hid hk
    have HB1 := Lib.hid (((Below.refl w.heap.size w).alloc (Nat.le_refl _) _).trans (hb.mono (by simp)))
    clear hb hk
    (go_wp2_with fail); refine (geomRight_any ⟨c, l, b, p, s⟩ _ HW.out).mono ?_
    rintro e w2 ⟨rfl, hb⟩
    rw [HK1.out]
    have hk := HG1.out.below hb; have k0 : w2.cell? ⟨w.heap.size, 0, none⟩ = some (.int .i64 c) := hk.cell 0; have k1 : w2.cell? ⟨w.heap.size, 1, none⟩ = some (.int .i64 l) := hk.cell 1; have k2 : w2.cell? ⟨w.heap.size, 2, none⟩ = some (.int .i64 b) := hk.cell 2; have k3 : w2.cell? ⟨w.heap.size, 3, none⟩ = some (.int .i64 p) := hk.cell 3; have k4 : w2.cell? ⟨w.heap.size, 4, none⟩ = some (.int .i64 s) := hk.cell 4; have hltk := hk.lt
    have HB2 := Lib.hid (HB1.out.trans (hb.mono HB1.out.size))
    clear hb hk
    (go_wp2_with fail); refine (stripeNext_any ⟨c, l, b, p, s⟩ _ [] 0 _ HW.out ⟨none, 0, rfl, Nat.le_refl _, by decide, fun _ => rfl, .inl rfl⟩ ⟨by decide, by decide⟩).mono ?_
    rintro e w3 ⟨rfl, hb⟩
    rw [HN.out]
    have HB3 := Lib.hid (HB2.out.trans (hb.mono HB2.out.size))
    clear hb
    go_wp2
    go_ret
    exact ⟨ret_bool (by simp), HB3.out⟩

end Go.Proofs.Ytbfpnpoafepjjaa
