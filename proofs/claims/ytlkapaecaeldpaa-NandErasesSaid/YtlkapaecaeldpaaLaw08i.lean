/-
  The walks of the laws over package nand: NandErases.
-/
import Derived.Test.YtlkapaecaeldpaaLaw08g
import Derived.Test.YtlkapaecaeldpaaNandQ
set_option linter.unusedVariables false
set_option linter.unusedSimpArgs false
set_option maxRecDepth 16384
namespace Go.Proofs.Ytlkapaecaeldpaa
open Go.RowKit

set_option maxHeartbeats 4000000 in
theorem nandErasesWalk (g : Geo) (a1 : Option Addr) (len1 cap1 : Nat) (q : Int) (w : World) (hg : g.Wf) (hops : IsOps8 w a1 len1 cap1) (hq : (Lit.int .u8 q).wf = true) :
    Calls Try.prog 8 #[g.v, .slice a1 len1 cap1, .int .u8 q] w fun e w' => e = .returned (.bool true) ∧ Below w.heap.size w w' := by
  have HQ := Lib.hid (wf_u8 hq)
  clear hq
  have HW := Lib.hid hg
  have HL := Lib.hid hops
  clear hg hops
  obtain ⟨c, l, b, p, s⟩ := g
  have HG := Lib.hid (Blk.new w 23 [.int .i64 c, .int .i64 l, .int .i64 b, .int .i64 p, .int .i64 s])
  unfold Geo.v
  go_enter Try.func8, Try.ntmps8
  (go_wp2_with fail); refine (awake08_any _).mono ?_
  rintro e w1 ⟨rfl, hb⟩
  have hk := HG.out.below hb; have k0 : w1.cell? ⟨w.heap.size, 0, none⟩ = some (.int .i64 c) := hk.cell 0; have k1 : w1.cell? ⟨w.heap.size, 1, none⟩ = some (.int .i64 l) := hk.cell 1; have k2 : w1.cell? ⟨w.heap.size, 2, none⟩ = some (.int .i64 b) := hk.cell 2; have k3 : w1.cell? ⟨w.heap.size, 3, none⟩ = some (.int .i64 p) := hk.cell 3; have k4 : w1.cell? ⟨w.heap.size, 4, none⟩ = some (.int .i64 s) := hk.cell 4; have hltk := hk.lt
  have HG1 := Lib.hid hk
  have HB1 := Lib.hid (((Below.refl w.heap.size w).alloc (Nat.le_refl _) _).trans (hb.mono (by simp)))
  clear hb hk
  (go_wp2_with fail); refine (begun_any ⟨c, l, b, p, s⟩ a1 len1 cap1 w _ HW.out HL.out HB1.out).mono ?_
  intro e w2 hp
  by_cases hok : (⟨c, l, b, p, s⟩ : Geo).okB = true
  case neg =>
    have hok : (⟨c, l, b, p, s⟩ : Geo).okB = false := by simpa using hok
    have HOK := Lib.hid hok
    obtain ⟨hb, rfl⟩ := begun_no hp hok
    have HG2 := Lib.hid (HG1.out.below hb)
    have HB2 := Lib.hid (HB1.out.trans (hb.mono HB1.out.size))
    clear hp hb hok HG HG1
    clear k0 k1 k2 k3 k4 hltk
    have hk := HG2.out
    have k0 : w2.cell? ⟨w.heap.size, 0, none⟩ = some (.int .i64 c) := hk.cell 0; have k1 : w2.cell? ⟨w.heap.size, 1, none⟩ = some (.int .i64 l) := hk.cell 1; have k2 : w2.cell? ⟨w.heap.size, 2, none⟩ = some (.int .i64 b) := hk.cell 2; have k3 : w2.cell? ⟨w.heap.size, 3, none⟩ = some (.int .i64 p) := hk.cell 3; have k4 : w2.cell? ⟨w.heap.size, 4, none⟩ = some (.int .i64 s) := hk.cell 4
    have hltk := hk.lt
    clear hk
    (go_wp2_with fail); refine (ref03Right_any ⟨c, l, b, p, s⟩ _).mono ?_
    rintro e w3 ⟨rfl, hb⟩
    rw [HOK.out]
    have HB3 := Lib.hid (HB2.out.trans (hb.mono HB2.out.size))
    clear hb
    clear k0 k1 k2 k3 k4 hltk
    go_wp2_with fail
    go_ret
    exact ⟨rfl, HB3.out⟩
  obtain ⟨hb, d, F2, S, rfl, hn, hI, hoff, hpl, hF⟩ := begun_is hp hok
  have HOK := Lib.hid hok
  have HN2 := Lib.hid hn
  have HI := Lib.hid hI
  have HOFF := Lib.hid hoff
  have HPL := Lib.hid hpl
  have HF2 : Hid (∀ k, F2 k → w.heap.size < k) := fun k hk => by have := hF k hk; omega
  have HG2 := Lib.hid (HG1.out.below hb)
  have HB2 := Lib.hid (HB1.out.trans (hb.mono HB1.out.size))
  have HFX := Lib.hid (findIx_00 hok)
  clear hp hb hn hI hoff hpl hF hok HG HG1
  clear k0 k1 k2 k3 k4 hltk
  have hk := HG2.out
  have k0 : w2.cell? ⟨w.heap.size, 0, none⟩ = some (.int .i64 c) := hk.cell 0; have k1 : w2.cell? ⟨w.heap.size, 1, none⟩ = some (.int .i64 l) := hk.cell 1; have k2 : w2.cell? ⟨w.heap.size, 2, none⟩ = some (.int .i64 b) := hk.cell 2; have k3 : w2.cell? ⟨w.heap.size, 3, none⟩ = some (.int .i64 p) := hk.cell 3; have k4 : w2.cell? ⟨w.heap.size, 4, none⟩ = some (.int .i64 s) := hk.cell 4
  have hltk := hk.lt
  clear hk
  (go_wp2_with fail); refine (nandRetired_any HN2.out 0 0).mono ?_
  rintro e w3 ⟨rfl, hb⟩
  rw [HFX.out]
  simp only [retO]
  have HN3 := Lib.hid (HN2.out.below hb)
  have HF3 := Lib.hid HF2.out
  have HG3 := Lib.hid (HG2.out.below hb)
  have HB3 := Lib.hid (HB2.out.trans (hb.mono HB2.out.size))
  clear hb
  obtain ⟨RT, hRT⟩ : ∃ x, S.ret 0 = x := ⟨_, rfl⟩
  have HRT := Lib.hid hRT
  rw [hRT]
  clear hRT
  clear k0 k1 k2 k3 k4 hltk
  have hk := HG3.out
  have k0 : w3.cell? ⟨w.heap.size, 0, none⟩ = some (.int .i64 c) := hk.cell 0; have k1 : w3.cell? ⟨w.heap.size, 1, none⟩ = some (.int .i64 l) := hk.cell 1; have k2 : w3.cell? ⟨w.heap.size, 2, none⟩ = some (.int .i64 b) := hk.cell 2; have k3 : w3.cell? ⟨w.heap.size, 3, none⟩ = some (.int .i64 p) := hk.cell 3; have k4 : w3.cell? ⟨w.heap.size, 4, none⟩ = some (.int .i64 s) := hk.cell 4
  have hltk := hk.lt
  clear hk
  cases RT with
  | true =>
    go_wp2_with fail
    go_ret
    exact ⟨rfl, HB3.out⟩
  | false =>
    obtain ⟨x, S2, hS2, hx, hrd, y, S3, hS3, hy, hwr⟩ := erase_law HOK.out HI.out HOFF.out HRT.out HQ.out
    have HS2 := Lib.hid hS2
    have HX := Lib.hid hx
    have HRD := Lib.hid hrd
    have HS3 := Lib.hid hS3
    have HY := Lib.hid hy
    have HWR := Lib.hid hwr
    have HSB : Hid (saysB q = if q % 4 = 3 then 0 else q % 4) := Lib.hid rfl
    clear hS2 hx hrd hS3 hy hwr
    (go_wp2_with fail); refine (nandWear_any HN3.out 0 0).mono ?_
    rintro e w4 ⟨rfl, hb⟩
    rw [HFX.out]
    simp only [wearO]
    have HN4 := Lib.hid (HN3.out.below hb)
    have HF4 := Lib.hid HF3.out
    have HG4 := Lib.hid (HG3.out.below hb)
    have HB4 := Lib.hid (HB3.out.trans (hb.mono HB3.out.size))
    clear hb
    generalize S.wear 0 = WE at HWR ⊢
    clear k0 k1 k2 k3 k4 hltk
    have hk := HG4.out
    have k0 : w4.cell? ⟨w.heap.size, 0, none⟩ = some (.int .i64 c) := hk.cell 0; have k1 : w4.cell? ⟨w.heap.size, 1, none⟩ = some (.int .i64 l) := hk.cell 1; have k2 : w4.cell? ⟨w.heap.size, 2, none⟩ = some (.int .i64 b) := hk.cell 2; have k3 : w4.cell? ⟨w.heap.size, 3, none⟩ = some (.int .i64 p) := hk.cell 3; have k4 : w4.cell? ⟨w.heap.size, 4, none⟩ = some (.int .i64 s) := hk.cell 4
    have hltk := hk.lt
    clear hk
    have hb : Below w4.heap.size w4 (w4.alloc (.cells #[.int .u8 q] 5)) := (Below.refl _ _).alloc (Nat.le_refl _) _
    have HN5 := Lib.hid (HN4.out.below hb)
    have HF5 := Lib.hid HF4.out
    have HG5 := Lib.hid (HG4.out.below hb)
    have HB5 := Lib.hid (HB4.out.trans (hb.mono HB4.out.size))
    have HSL : Hid (Sl (w4.alloc (.cells #[.int .u8 q] 5)) 0 (.slice (some ⟨w4.heap.size, 0, none⟩) 1 1) (bv [q])) := Lib.hid ((Blk.new w4 5 [.int .u8 q]).sl (Nat.zero_le _) (by simp))
    clear hb
    (go_wp2_with fail); refine (nandPlan_any HN5.out (.slice (some ⟨w4.heap.size, 0, none⟩) 1 1) [q] HSL.out (fun x hx => by rw [List.mem_singleton.1 hx]; exact HQ.out)).mono ?_
    intro e w6 hp
    obtain ⟨rfl, F6, hn, ho, hf⟩ := hp
    have HN6 := Lib.hid hn
    have HF6 : Hid (∀ k, F6 k → w.heap.size < k) := fun k hk => (hf k hk).elim (HF5.out k) fun q => by have := HG5.out.lt; omega
    have HG6 : Hid (Blk w6 w.heap.size 23 _) := Lib.hid ((ho.block w.heap.size HG5.out.lt (fun q => by have := HF5.out _ q; omega)).trans HG5.out)
    have HB6 := Lib.hid (HB5.out.trans (ho.toBelow (B := w.heap.size) (fun k hk => Nat.le_of_lt (HF5.out k hk)) HB5.out.size))
    clear hn ho hf
    clear k0 k1 k2 k3 k4 hltk
    have hk := HG6.out
    have k0 : w6.cell? ⟨w.heap.size, 0, none⟩ = some (.int .i64 c) := hk.cell 0; have k1 : w6.cell? ⟨w.heap.size, 1, none⟩ = some (.int .i64 l) := hk.cell 1; have k2 : w6.cell? ⟨w.heap.size, 2, none⟩ = some (.int .i64 b) := hk.cell 2; have k3 : w6.cell? ⟨w.heap.size, 3, none⟩ = some (.int .i64 p) := hk.cell 3; have k4 : w6.cell? ⟨w.heap.size, 4, none⟩ = some (.int .i64 s) := hk.cell 4
    have hltk := hk.lt
    clear hk
    (go_wp2_with fail); refine (nandErase_any HN6.out 0 0).mono ?_
    rw [HS2.out]
    intro e w7 hp
    obtain ⟨rfl, F7, hn, ho, hf⟩ := hp
    have HN7 := Lib.hid hn
    have HF7 : Hid (∀ k, F7 k → w.heap.size < k) := fun k hk => (hf k hk).elim (HF6.out k) fun q => by have := HG6.out.lt; omega
    have HG7 : Hid (Blk w7 w.heap.size 23 _) := Lib.hid ((ho.block w.heap.size HG6.out.lt (fun q => by have := HF6.out _ q; omega)).trans HG6.out)
    have HB7 := Lib.hid (HB6.out.trans (ho.toBelow (B := w.heap.size) (fun k hk => Nat.le_of_lt (HF6.out k hk)) HB6.out.size))
    clear hn ho hf
    clear k0 k1 k2 k3 k4 hltk
    have hk := HG7.out
    have k0 : w7.cell? ⟨w.heap.size, 0, none⟩ = some (.int .i64 c) := hk.cell 0; have k1 : w7.cell? ⟨w.heap.size, 1, none⟩ = some (.int .i64 l) := hk.cell 1; have k2 : w7.cell? ⟨w.heap.size, 2, none⟩ = some (.int .i64 b) := hk.cell 2; have k3 : w7.cell? ⟨w.heap.size, 3, none⟩ = some (.int .i64 p) := hk.cell 3; have k4 : w7.cell? ⟨w.heap.size, 4, none⟩ = some (.int .i64 s) := hk.cell 4
    have hltk := hk.lt
    clear hk
    simp only []
    (go_wp2_with fail); refine (nandPower_any HN7.out).mono ?_
    intro e w8 hp
    obtain ⟨rfl, F8, hn, ho, hf⟩ := hp
    have HN8 := Lib.hid hn
    have HF8 : Hid (∀ k, F8 k → w.heap.size < k) := fun k hk => (hf k hk).elim (HF7.out k) fun q => by have := HG7.out.lt; omega
    have HG8 : Hid (Blk w8 w.heap.size 23 _) := Lib.hid ((ho.block w.heap.size HG7.out.lt (fun q => by have := HF7.out _ q; omega)).trans HG7.out)
    have HB8 := Lib.hid (HB7.out.trans (ho.toBelow (B := w.heap.size) (fun k hk => Nat.le_of_lt (HF7.out k hk)) HB7.out.size))
    clear hn ho hf
    clear k0 k1 k2 k3 k4 hltk
    have hk := HG8.out
    have k0 : w8.cell? ⟨w.heap.size, 0, none⟩ = some (.int .i64 c) := hk.cell 0; have k1 : w8.cell? ⟨w.heap.size, 1, none⟩ = some (.int .i64 l) := hk.cell 1; have k2 : w8.cell? ⟨w.heap.size, 2, none⟩ = some (.int .i64 b) := hk.cell 2; have k3 : w8.cell? ⟨w.heap.size, 3, none⟩ = some (.int .i64 p) := hk.cell 3; have k4 : w8.cell? ⟨w.heap.size, 4, none⟩ = some (.int .i64 s) := hk.cell 4
    have hltk := hk.lt
    clear hk
    go_wp2_with fail
    have hp32 := (Geo.ok_of HOK.out).p
    simp only at hp32
    go_loopw [12] (fun t wr => ∃ k : Nat, (k : Int) ≤ p ∧ t = .int .i64 k ∧ Hid (NandAt wr F8 d ⟨c, l, b, p, s⟩ { S2 with off := false }) ∧ Hid (Blk wr w.heap.size 23 [.int .i64 c, .int .i64 l, .int .i64 b, .int .i64 p, .int .i64 s]) ∧ Hid (Below w.heap.size w wr)) (fun t _ => (p - intOf t).toNat)
    case atStart => exact ⟨0, by omega, rfl, HN8.out, HG8.out, HB8.out⟩
    case round =>
      obtain ⟨k, hk, rfl, HN9, HG9, HB9⟩ := hrel
      clear HN8 HG8 HB8
      clear k0 k1 k2 k3 k4 hltk
      have hk9 := HG9.out
      have k0 : wr.cell? ⟨w.heap.size, 0, none⟩ = some (.int .i64 c) := hk9.cell 0; have k1 : wr.cell? ⟨w.heap.size, 1, none⟩ = some (.int .i64 l) := hk9.cell 1; have k2 : wr.cell? ⟨w.heap.size, 2, none⟩ = some (.int .i64 b) := hk9.cell 2; have k3 : wr.cell? ⟨w.heap.size, 3, none⟩ = some (.int .i64 p) := hk9.cell 3; have k4 : wr.cell? ⟨w.heap.size, 4, none⟩ = some (.int .i64 s) := hk9.cell 4
      have hltk := hk9.lt
      clear hk9
      by_cases hlt : (k : Int) < p
      · have hs4 := (Geo.ok_of HOK.out).s
        simp only at hs4
        obtain ⟨hne, a, hna, hal, _⟩ := adr_k HOK.out (n := (k : Int)) ⟨by omega, hlt⟩ (k := 0) (show ((0 : Nat) : Int) < s by omega)
        have hrd := HRD.out k ⟨by omega, hlt⟩
        have hna2 : Geo.numN ⟨c, l, b, p, s⟩ ⟨0, 0, k, 0⟩ = (a : Int) := by omega
        rw [hna2] at hrd
        have HRDK := Lib.hid hrd
        have HNUM : Hid (∀ wy, Calls Try.prog 46 #[.agg #[.int .i64 c, .int .i64 l, .int .i64 b, .int .i64 p, .int .i64 s], .agg #[.int .i64 0, .int .i64 0, .int .i64 k, .int .i64 0]] wy fun e w' => e = .returned (.tuple #[.int .i64 a, .int .i64 0]) ∧ Below wy.heap.size wy w') := fun wy => by
          have := geomNumber_any ⟨c, l, b, p, s⟩ ⟨0, 0, k, 0⟩ wy HW.out (place_wf ⟨by omega, by omega⟩)
          rwa [hne, hna2] at this
        clear hne hna hal hna2 hrd hs4
        (go_wp2_with fail); refine (HNUM.out _).mono ?_
        rintro e w10 ⟨rfl, hb⟩
        have HN10 := Lib.hid (HN9.out.below hb)
        have HG10 := Lib.hid (HG9.out.below hb)
        have HB10 := Lib.hid (HB9.out.trans (hb.mono HB9.out.size))
        clear hb
        clear k0 k1 k2 k3 k4 hltk
        have hk := HG10.out
        have k0 : w10.cell? ⟨w.heap.size, 0, none⟩ = some (.int .i64 c) := hk.cell 0; have k1 : w10.cell? ⟨w.heap.size, 1, none⟩ = some (.int .i64 l) := hk.cell 1; have k2 : w10.cell? ⟨w.heap.size, 2, none⟩ = some (.int .i64 b) := hk.cell 2; have k3 : w10.cell? ⟨w.heap.size, 3, none⟩ = some (.int .i64 p) := hk.cell 3; have k4 : w10.cell? ⟨w.heap.size, 4, none⟩ = some (.int .i64 s) := hk.cell 4
        have hltk := hk.lt
        clear hk
        simp only []
        (go_wp2_with fail); refine (nandRead_any HN10.out (a : Int)).mono ?_
        intro e w11 hp
        rw [HRDK.out] at hp
        obtain ⟨va, vb, rfl, _, _, hb⟩ := hp
        have HN11 := Lib.hid (HN10.out.below hb)
        have HG11 := Lib.hid (HG10.out.below hb)
        have HB11 := Lib.hid (HB10.out.trans (hb.mono HB10.out.size))
        clear hb
        clear k0 k1 k2 k3 k4 hltk
        simp only []
        go_wp2_with fail
        go_roundw
        case rel => exact ⟨k + 1, by omega, by go_num, HN11.out, HG11.out, HB11.out⟩
        case measure => simp [intOf]; omega
      · have hkp : (k : Int) = p := by omega
        (go_wp2_with fail); refine (sectors_any ⟨c, l, b, p, s⟩ 3 false _).mono ?_
        intro e w10 hp
        obtain ⟨vd, vo, bs, cs, rfl, hs, hbl, hb⟩ := hp
        have HN10 := Lib.hid (HN9.out.below hb)
        have HG10 := Lib.hid (HG9.out.below hb)
        have HB10 := Lib.hid (HB9.out.trans (hb.mono HB9.out.size))
        have hd := hs.slsD
        have hoo := hs.slsO
        rw [hbl] at hd hoo
        have hF8 := HN9.out.inF
        have HD : Hid (Sls w10 (Away F8 w10.heap.size) vd _) := Lib.hid (hd.mono fun k hk hq => ⟨fun hf => by have := hF8 k hf; have := hq.1; omega, hk⟩)
        have HOO : Hid (Sls w10 (Away F8 w10.heap.size) vo _) := Lib.hid (hoo.mono fun k hk hq => ⟨fun hf => by have := hF8 k hf; have := hq.1; omega, hk⟩)
        clear hs hbl hb hd hoo hF8
        clear k0 k1 k2 k3 k4 hltk
        simp only []
        (go_wp2_with fail); refine (nandProgram_any HN10.out 0 0 0 vd vo _ _ HD.out HOO.out).mono ?_
        intro e w11 hp
        rw [HS3.out] at hp
        have HF10 := Lib.hid HF8.out
        obtain ⟨rfl, F11, hn, ho, hf⟩ := hp
        have HN11 := Lib.hid hn
        have HF11 : Hid (∀ k, F11 k → w.heap.size < k) := fun k hk => (hf k hk).elim (HF10.out k) fun q => by have := HG10.out.lt; omega
        have HG11 : Hid (Blk w11 w.heap.size 23 _) := Lib.hid ((ho.block w.heap.size HG10.out.lt (fun q => by have := HF10.out _ q; omega)).trans HG10.out)
        have HB11 := Lib.hid (HB10.out.trans (ho.toBelow (B := w.heap.size) (fun k hk => Nat.le_of_lt (HF10.out k hk)) HB10.out.size))
        clear hn ho hf
        simp only []
        have hqq := HQ.out
        have htm : q.tmod 4 = q % 4 := Int.tmod_eq_emod_of_nonneg hqq.1
        have hx := HX.out
        have hy := HY.out
        have hsb := HSB.out
        have hwr : IntKind.u8.wrap (q % 4) = q % 4 := by rw [IntKind.wrap_u8]; omega
        have HWE := Lib.hid (nandWear_any HN11.out 0 0)
        rw [HFX.out] at HWE
        simp only [wearO] at HWE
        rw [HWR.out] at HWE
        have hq4 : q % 4 = 0 ∨ q % 4 = 1 ∨ q % 4 = 2 ∨ q % 4 = 3 := by omega
        clear hkp hlt hk hqq
        rcases hq4 with h4 | h4 | h4 | h4
        · obtain rfl : x = 0 := hx.2 (by rw [hsb, h4]; decide)
          obtain rfl : y = 0 := hy.2 (by rw [hsb, h4]; decide)
          rw [h4] at htm
          clear hx hy hsb hwr h4
          (go_wp2_with fail); refine (HWE.out).mono ?_
          rintro e w12 ⟨rfl, hb⟩
          have HB12 := Lib.hid (HB11.out.trans (hb.mono HB11.out.size))
          clear hb
          go_wp2_with fail
          go_ret
          exact ⟨rfl, HB12.out⟩
        · have h1 : saysB q = 1 := by rw [hsb, h4]; decide
          have hbx : (x == 0) = false := by rw [beq_eq_false_iff_ne]; intro h; have := hx.1 h; omega
          have hby : (y == 0) = false := by rw [beq_eq_false_iff_ne]; intro h; have := hy.1 h; omega
          rw [h4] at htm
          clear hx hy hsb hwr h4 h1
          (go_wp2_with fail); refine (HWE.out).mono ?_
          rintro e w12 ⟨rfl, hb⟩
          have HB12 := Lib.hid (HB11.out.trans (hb.mono HB11.out.size))
          clear hb
          go_wp2_with fail
          go_ret
          exact ⟨rfl, HB12.out⟩
        · have h1 : saysB q = 2 := by rw [hsb, h4]; decide
          have hbx : (x == 0) = false := by rw [beq_eq_false_iff_ne]; intro h; have := hx.1 h; omega
          have hby : (y == 0) = false := by rw [beq_eq_false_iff_ne]; intro h; have := hy.1 h; omega
          rw [h4] at htm
          clear hx hy hsb hwr h4 h1
          (go_wp2_with fail); refine (HWE.out).mono ?_
          rintro e w12 ⟨rfl, hb⟩
          have HB12 := Lib.hid (HB11.out.trans (hb.mono HB11.out.size))
          clear hb
          go_wp2_with fail
          go_ret
          exact ⟨rfl, HB12.out⟩
        · obtain rfl : x = 0 := hx.2 (by rw [hsb, h4]; decide)
          obtain rfl : y = 0 := hy.2 (by rw [hsb, h4]; decide)
          rw [h4] at htm
          clear hx hy hsb hwr h4
          (go_wp2_with fail); refine (HWE.out).mono ?_
          rintro e w12 ⟨rfl, hb⟩
          have HB12 := Lib.hid (HB11.out.trans (hb.mono HB11.out.size))
          clear hb
          go_wp2_with fail
          go_ret
          exact ⟨rfl, HB12.out⟩

end Go.Proofs.Ytlkapaecaeldpaa
