/-
  The walks of the laws over package nand: NandRefuses.
-/
import Derived.Test.YtlkapaecaeldpaaLaw08n
set_option linter.unusedVariables false
set_option linter.unusedSimpArgs false
set_option maxRecDepth 16384
namespace Go.Proofs.Ytlkapaecaeldpaa
open Go.RowKit

set_option maxHeartbeats 4000000 in
theorem nandRefusesWalk (g : Geo) (a1 : Option Addr) (len1 cap1 : Nat) (o : Op8) (w : World) (hg : g.Wf) (hops : IsOps8 w a1 len1 cap1) (hoin : o.In w) :
    Calls Try.prog 12 #[g.v, .slice a1 len1 cap1, o.v] w fun e w' => e = .returned (.bool true) ∧ Below w.heap.size w w' := by
  clear hoin
  have HW := Lib.hid hg
  have HL := Lib.hid hops
  clear hg hops
  obtain ⟨c, l, b, p, s⟩ := g
  obtain ⟨od, ou, obk, op, on, oodd, pa, pl, pc, zs0⟩ := o
  have HG := Lib.hid (Blk.new w 23 [.int .i64 c, .int .i64 l, .int .i64 b, .int .i64 p, .int .i64 s])
  have hba := ((Below.refl w.heap.size w).alloc (Nat.le_refl _) (.cells #[.int .i64 c, .int .i64 l, .int .i64 b, .int .i64 p, .int .i64 s] 23))
  have hbb : Below (w.alloc (.cells #[.int .i64 c, .int .i64 l, .int .i64 b, .int .i64 p, .int .i64 s] 23)).heap.size (w.alloc (.cells #[.int .i64 c, .int .i64 l, .int .i64 b, .int .i64 p, .int .i64 s] 23)) ((w.alloc (.cells #[.int .i64 c, .int .i64 l, .int .i64 b, .int .i64 p, .int .i64 s] 23)).alloc (.cells #[.int .i64 od, .int .i64 ou, .int .i64 obk, .int .i64 op, .int .i64 on, .bool oodd, .slice pa pl pc] 86)) := (Below.refl _ _).alloc (Nat.le_refl _) _
  have HGA := Lib.hid (HG.out.below hbb)
  have HBA := Lib.hid (hba.trans (hbb.mono hba.size))
  have HOA : Hid (Blk ((w.alloc (.cells #[.int .i64 c, .int .i64 l, .int .i64 b, .int .i64 p, .int .i64 s] 23)).alloc (.cells #[.int .i64 od, .int .i64 ou, .int .i64 obk, .int .i64 op, .int .i64 on, .bool oodd, .slice pa pl pc] 86)) (w.heap.size + 1) 86 [.int .i64 od, .int .i64 ou, .int .i64 obk, .int .i64 op, .int .i64 on, .bool oodd, .slice pa pl pc]) := by
    have h := Blk.new (w.alloc (.cells #[.int .i64 c, .int .i64 l, .int .i64 b, .int .i64 p, .int .i64 s] 23)) 86 [.int .i64 od, .int .i64 ou, .int .i64 obk, .int .i64 op, .int .i64 on, .bool oodd, .slice pa pl pc]
    rw [show (w.alloc (.cells #[.int .i64 c, .int .i64 l, .int .i64 b, .int .i64 p, .int .i64 s] 23)).heap.size = w.heap.size + 1 by simp] at h
    exact h
  unfold Geo.v Op8.v
  clear hba hbb HG
  go_enter Try.func12, Try.ntmps12
  (go_wp2_with fail); refine (awake08_any _).mono ?_
  rintro e w1 ⟨rfl, hb⟩
  have HG0 := Lib.hid (HGA.out.below hb)
  have HO0 := Lib.hid (HOA.out.below hb)
  have HB0 := Lib.hid (HBA.out.trans (hb.mono HBA.out.size))
  clear hb HGA HOA HBA
  have hkk := HG0.out
  have k0 : w1.cell? ⟨w.heap.size, 0, none⟩ = some (.int .i64 c) := hkk.cell 0; have k1 : w1.cell? ⟨w.heap.size, 1, none⟩ = some (.int .i64 l) := hkk.cell 1; have k2 : w1.cell? ⟨w.heap.size, 2, none⟩ = some (.int .i64 b) := hkk.cell 2; have k3 : w1.cell? ⟨w.heap.size, 3, none⟩ = some (.int .i64 p) := hkk.cell 3; have k4 : w1.cell? ⟨w.heap.size, 4, none⟩ = some (.int .i64 s) := hkk.cell 4
  have hltk := hkk.lt
  clear hkk
  (go_wp2_with fail); refine (little_any ⟨c, l, b, p, s⟩ _).mono ?_
  rintro e w1' ⟨rfl, hb⟩
  have HG1 := Lib.hid (HG0.out.below hb)
  have HO1 := Lib.hid (HO0.out.below hb)
  have HB1 := Lib.hid (HB0.out.trans (hb.mono HB0.out.size))
  obtain ⟨LB, hLB⟩ : ∃ x, Geo.littleB ⟨c, l, b, p, s⟩ = x := ⟨_, rfl⟩
  rw [hLB]
  clear hb hLB k0 k1 k2 k3 k4 HG0 hltk HO0 HB0
  cases LB with
  | false =>
    go_wp2_with fail
    go_ret
    exact ⟨rfl, HB1.out⟩
  | true =>
    have hkk := HG1.out
    have k0 : w1'.cell? ⟨w.heap.size, 0, none⟩ = some (.int .i64 c) := hkk.cell 0; have k1 : w1'.cell? ⟨w.heap.size, 1, none⟩ = some (.int .i64 l) := hkk.cell 1; have k2 : w1'.cell? ⟨w.heap.size, 2, none⟩ = some (.int .i64 b) := hkk.cell 2; have k3 : w1'.cell? ⟨w.heap.size, 3, none⟩ = some (.int .i64 p) := hkk.cell 3; have k4 : w1'.cell? ⟨w.heap.size, 4, none⟩ = some (.int .i64 s) := hkk.cell 4
    have hltk := hkk.lt
    have HOL : Hid (w.heap.size + 1 < w1'.heap.size) := HO1.out.lt
    clear hkk
    have HG := Lib.hid HG1.out
    (go_wp2_with fail); refine (begun_any ⟨c, l, b, p, s⟩ a1 len1 cap1 w _ HW.out HL.out HB1.out).mono ?_
    intro e w2 hp
    by_cases hok : (⟨c, l, b, p, s⟩ : Geo).okB = true
    case neg =>
      have hok : (⟨c, l, b, p, s⟩ : Geo).okB = false := by simpa using hok
      have HOK := Lib.hid hok
      obtain ⟨hb, rfl⟩ := begun_no hp hok
      have HG2 := Lib.hid (HG1.out.below hb)
      have HB2 := Lib.hid (HB1.out.trans (hb.mono HB1.out.size))
      clear hp hb hok HG HG1
      clear k0 k1 k2 k3 k4 hltk
      have hk := HG2.out
      have k0 : w2.cell? ⟨w.heap.size, 0, none⟩ = some (.int .i64 c) := hk.cell 0; have k1 : w2.cell? ⟨w.heap.size, 1, none⟩ = some (.int .i64 l) := hk.cell 1; have k2 : w2.cell? ⟨w.heap.size, 2, none⟩ = some (.int .i64 b) := hk.cell 2; have k3 : w2.cell? ⟨w.heap.size, 3, none⟩ = some (.int .i64 p) := hk.cell 3; have k4 : w2.cell? ⟨w.heap.size, 4, none⟩ = some (.int .i64 s) := hk.cell 4
      have hltk := hk.lt
      clear hk
      (go_wp2_with fail); refine (ref03Right_any ⟨c, l, b, p, s⟩ _).mono ?_
      rintro e w3 ⟨rfl, hb⟩
      rw [HOK.out]
      have HB3 := Lib.hid (HB2.out.trans (hb.mono HB2.out.size))
      clear hb
      clear k0 k1 k2 k3 k4 hltk
      go_wp2_with fail
      go_ret
      exact ⟨rfl, HB3.out⟩
    obtain ⟨hb, d, F2, S, rfl, hn, hI, hoff, hpl, hF⟩ := begun_is hp hok
    have HOK := Lib.hid hok
    have HN2 := Lib.hid hn
    have HI := Lib.hid hI
    have HOFF := Lib.hid hoff
    have HPL := Lib.hid hpl
    have HF2 : Hid (∀ k, F2 k → w.heap.size < k) := fun k hk => by have := hF k hk; omega
    have HG2 := Lib.hid (HG1.out.below hb)
    have HO2 := Lib.hid (HO1.out.below hb)
    have HB2 := Lib.hid (HB1.out.trans (hb.mono HB1.out.size))
    have HFX := Lib.hid (findIx_00 hok)
    clear hp hb hn hI hoff hpl hF hok HG HG1 HO1
    clear k0 k1 k2 k3 k4 hltk
    have hk := HG2.out
    have k0 : w2.cell? ⟨w.heap.size, 0, none⟩ = some (.int .i64 c) := hk.cell 0; have k1 : w2.cell? ⟨w.heap.size, 1, none⟩ = some (.int .i64 l) := hk.cell 1; have k2 : w2.cell? ⟨w.heap.size, 2, none⟩ = some (.int .i64 b) := hk.cell 2; have k3 : w2.cell? ⟨w.heap.size, 3, none⟩ = some (.int .i64 p) := hk.cell 3; have k4 : w2.cell? ⟨w.heap.size, 4, none⟩ = some (.int .i64 s) := hk.cell 4
    have hltk := hk.lt
    clear hk
    (go_wp2_with fail); refine (look_any HN2.out HI.out).mono ?_
    rintro e w3 ⟨rfl, hb⟩
    have HN3 := Lib.hid (HN2.out.below hb)
    have HF3 := Lib.hid HF2.out
    have HG3 := Lib.hid (HG2.out.below hb)
    have HB3 := Lib.hid (HB2.out.trans (hb.mono HB2.out.size))
    have HO3 := Lib.hid (HO2.out.below hb)
    clear hb HO2
    obtain ⟨STR, hSTR⟩ : ∃ x, strOfNums (lookL ⟨c, l, b, p, s⟩ S) = x := ⟨_, rfl⟩
    rw [hSTR]
    have HSTR := Lib.hid hSTR
    clear hSTR
    (go_wp2_with fail); refine (nandWrong_any HN3.out).mono ?_
    rintro e w3' ⟨rfl, rfl⟩
    obtain ⟨WG, hWG⟩ : ∃ x, S.wrong = x := ⟨_, rfl⟩
    rw [hWG]
    have HWG := Lib.hid hWG
    clear hWG
    clear k0 k1 k2 k3 k4 hltk
    have hk := HG3.out
    have k0 : w3.cell? ⟨w.heap.size, 0, none⟩ = some (.int .i64 c) := hk.cell 0; have k1 : w3.cell? ⟨w.heap.size, 1, none⟩ = some (.int .i64 l) := hk.cell 1; have k2 : w3.cell? ⟨w.heap.size, 2, none⟩ = some (.int .i64 b) := hk.cell 2; have k3 : w3.cell? ⟨w.heap.size, 3, none⟩ = some (.int .i64 p) := hk.cell 3; have k4 : w3.cell? ⟨w.heap.size, 4, none⟩ = some (.int .i64 s) := hk.cell 4
    have hltk := hk.lt
    clear hk
    have ho3 := HO3.out
    have r4 : w3.cell? ⟨w.heap.size + 1, 4, none⟩ = some (.int .i64 on) := ho3.cell 4
    have r5 : w3.cell? ⟨w.heap.size + 1, 5, none⟩ = some (.bool oodd) := ho3.cell 5
    have hrl := ho3.lt
    clear ho3
    (go_wp2_with fail); refine (sectors_any ⟨c, l, b, p, s⟩ on oodd _).mono ?_
    intro e w4 hp
    obtain ⟨vx, vy, bs, cs, rfl, hs, hbl, hb⟩ := hp
    have HN4 := Lib.hid (HN3.out.below hb)
    have HF4 := Lib.hid HF3.out
    have HG4 := Lib.hid (HG3.out.below hb)
    have HB4 := Lib.hid (HB3.out.trans (hb.mono HB3.out.size))
    have hd := hs.slsD
    have hoo := hs.slsO
    rw [hbl] at hd hoo
    have hin := HN3.out.inF
    have HX4 : Hid (Sls w4 (Away F2 w4.heap.size) vx (secsD (min s 4).toNat on)) := Lib.hid (hd.mono fun k hk hq => ⟨fun hf => by have := hin k hf; have := hq.1; omega, hk⟩)
    have HY4 : Hid (Sls w4 (Away F2 w4.heap.size) vy (secsO (min s 4).toNat on oodd)) := Lib.hid (hoo.mono fun k hk hq => ⟨fun hf => by have := hin k hf; have := hq.1; omega, hk⟩)
    have hko := HO3.out.below hb
    have q0 : w4.cell? ⟨w.heap.size + 1, 0, none⟩ = some (.int .i64 od) := hko.cell 0
    have q1 : w4.cell? ⟨w.heap.size + 1, 1, none⟩ = some (.int .i64 ou) := hko.cell 1
    have q2 : w4.cell? ⟨w.heap.size + 1, 2, none⟩ = some (.int .i64 obk) := hko.cell 2
    have q3 : w4.cell? ⟨w.heap.size + 1, 3, none⟩ = some (.int .i64 op) := hko.cell 3
    have hql := hko.lt
    clear hs hbl hd hoo hin hko hb r4 r5 hrl
    clear k0 k1 k2 k3 k4 hltk
    simp only []
    obtain ⟨D, hD⟩ : ∃ x, secsD (min s 4).toNat on = x := ⟨_, rfl⟩
    obtain ⟨O, hO⟩ : ∃ x, secsO (min s 4).toNat on oodd = x := ⟨_, rfl⟩
    rw [hD] at HX4
    rw [hO] at HY4
    clear hD hO
    by_cases h01 : od = 0 ∨ od = 1
    · have hen := prog_ends (g := ⟨c, l, b, p, s⟩) HOFF.out HPL.out ou obk op D O
      have hit := HI.out.prog HOK.out ou obk op D O
      obtain ⟨⟨X, T⟩, hXT⟩ : ∃ r, progTo ⟨c, l, b, p, s⟩ S ou obk op D O = r := ⟨_, rfl⟩
      rw [hXT, HWG.out] at hen
      rw [hXT] at hit
      have HXT := Lib.hid hXT
      have HEN := Lib.hid hen
      have HIT := Lib.hid hit
      clear hen hit hXT
      rcases h01 with rfl | rfl
      all_goals
        (go_wp2_with fail); refine (nandProgram_any HN4.out ou obk op vx vy D O HX4.out HY4.out).mono ?_
        rw [HXT.out]
        intro e w5 hp
        obtain ⟨rfl, F5, hn, ho, hf⟩ := hp
        have HN5 := Lib.hid hn
        have HF5 : Hid (∀ k, F5 k → w.heap.size < k) := fun k hk => (hf k hk).elim (HF4.out k) fun q => by have := HG4.out.lt; omega
        have HG5 : Hid (Blk w5 w.heap.size 23 _) := Lib.hid ((ho.block w.heap.size HG4.out.lt (fun q => by have := HF4.out _ q; omega)).trans HG4.out)
        have HB5 := Lib.hid (HB4.out.trans (ho.toBelow (B := w.heap.size) (fun k hk => Nat.le_of_lt (HF4.out k hk)) HB4.out.size))
        clear hn ho hf q0 q1 q2 q3 hql
        rcases HEN.out with ⟨rfl, hwg⟩ | ⟨hx, hT⟩
        · simp only []
          (go_wp2_with fail); refine (nandWrong_any HN5.out).mono ?_
          rintro e w6 ⟨rfl, rfl⟩
          rw [hwg]
          go_wp2_with fail
          go_ret
          exact ⟨rfl, HB5.out⟩
        · have HTW : Hid (T.wrong = IntKind.i64.wrap (WG + 1)) := by
            show _ = _
            rw [hT]
            show IntKind.i64.wrap (S.wrong + 1) = _
            rw [HWG.out]
          have HTL : Hid (strOfNums (lookL ⟨c, l, b, p, s⟩ T) = STR) := by
            show _ = _
            rw [hT, look_bad, HSTR.out]
          clear hT
          rcases hx with rfl | rfl | rfl
          all_goals
            simp only []
            (go_wp2_with fail); refine (look_any HN5.out HIT.out).mono ?_
            rintro e w6 ⟨rfl, hb⟩
            rw [HTL.out]
            have HN6 := Lib.hid (HN5.out.below hb)
            have HB6 := Lib.hid (HB5.out.trans (hb.mono HB5.out.size))
            clear hb
            (go_wp2_with fail); refine (nandWrong_any HN6.out).mono ?_
            rintro e w7 ⟨rfl, rfl⟩
            rw [HTW.out]
            go_wp2_with fail
            go_ret
            exact ⟨rfl, HB6.out⟩
    have e0 : (od == 0) = false := by rw [beq_eq_false_iff_ne]; omega
    have e1 : (od == 1) = false := by rw [beq_eq_false_iff_ne]; omega
    clear h01
    by_cases h2 : od = 2
    · subst h2
      clear e0 e1
      have hen := erase_ends (g := ⟨c, l, b, p, s⟩) HOFF.out HPL.out ou obk
      have hit := HI.out.erase HOK.out ou obk
      obtain ⟨⟨X, T⟩, hXT⟩ : ∃ r, eraseTo ⟨c, l, b, p, s⟩ S ou obk = r := ⟨_, rfl⟩
      rw [hXT, HWG.out] at hen
      rw [hXT] at hit
      have HXT := Lib.hid hXT
      have HEN := Lib.hid hen
      have HIT := Lib.hid hit
      clear hen hit hXT
      (go_wp2_with fail); refine (nandErase_any HN4.out ou obk).mono ?_
      rw [HXT.out]
      intro e w5 hp
      obtain ⟨rfl, F5, hn, ho, hf⟩ := hp
      have HN5 := Lib.hid hn
      have HF5 : Hid (∀ k, F5 k → w.heap.size < k) := fun k hk => (hf k hk).elim (HF4.out k) fun q => by have := HG4.out.lt; omega
      have HG5 : Hid (Blk w5 w.heap.size 23 _) := Lib.hid ((ho.block w.heap.size HG4.out.lt (fun q => by have := HF4.out _ q; omega)).trans HG4.out)
      have HB5 := Lib.hid (HB4.out.trans (ho.toBelow (B := w.heap.size) (fun k hk => Nat.le_of_lt (HF4.out k hk)) HB4.out.size))
      clear hn ho hf q0 q1 q2 q3 hql
      rcases HEN.out with ⟨rfl, hwg⟩ | ⟨hx, hT⟩
      · simp only []
        (go_wp2_with fail); refine (nandWrong_any HN5.out).mono ?_
        rintro e w6 ⟨rfl, rfl⟩
        rw [hwg]
        go_wp2_with fail
        go_ret
        exact ⟨rfl, HB5.out⟩
      · have HTW : Hid (T.wrong = IntKind.i64.wrap (WG + 1)) := by
          show _ = _
          rw [hT]
          show IntKind.i64.wrap (S.wrong + 1) = _
          rw [HWG.out]
        have HTL : Hid (strOfNums (lookL ⟨c, l, b, p, s⟩ T) = STR) := by
          show _ = _
          rw [hT, look_bad, HSTR.out]
        clear hT
        rcases hx with rfl | rfl | rfl
        all_goals
          simp only []
          (go_wp2_with fail); refine (look_any HN5.out HIT.out).mono ?_
          rintro e w6 ⟨rfl, hb⟩
          rw [HTL.out]
          have HN6 := Lib.hid (HN5.out.below hb)
          have HB6 := Lib.hid (HB5.out.trans (hb.mono HB5.out.size))
          clear hb
          (go_wp2_with fail); refine (nandWrong_any HN6.out).mono ?_
          rintro e w7 ⟨rfl, rfl⟩
          rw [HTW.out]
          go_wp2_with fail
          go_ret
          exact ⟨rfl, HB6.out⟩
    have e2 : (od == 2) = false := by rw [beq_eq_false_iff_ne]; omega
    clear h2
    by_cases h4 : od = 4
    · subst h4
      clear e0 e1 e2
      have hen := retire_ends (g := ⟨c, l, b, p, s⟩) HOFF.out ou obk
      have hit := HI.out.retire ou obk
      obtain ⟨⟨X, T⟩, hXT⟩ : ∃ r, retireTo ⟨c, l, b, p, s⟩ S ou obk = r := ⟨_, rfl⟩
      rw [hXT, HWG.out] at hen
      rw [hXT] at hit
      have HXT := Lib.hid hXT
      have HEN := Lib.hid hen
      have HIT := Lib.hid hit
      clear hen hit hXT
      (go_wp2_with fail); refine (nandRetire_any HN4.out ou obk).mono ?_
      rw [HXT.out]
      intro e w5 hp
      obtain ⟨rfl, F5, hn, ho, hf⟩ := hp
      have HN5 := Lib.hid hn
      have HF5 : Hid (∀ k, F5 k → w.heap.size < k) := fun k hk => (hf k hk).elim (HF4.out k) fun q => by have := HG4.out.lt; omega
      have HG5 : Hid (Blk w5 w.heap.size 23 _) := Lib.hid ((ho.block w.heap.size HG4.out.lt (fun q => by have := HF4.out _ q; omega)).trans HG4.out)
      have HB5 := Lib.hid (HB4.out.trans (ho.toBelow (B := w.heap.size) (fun k hk => Nat.le_of_lt (HF4.out k hk)) HB4.out.size))
      clear hn ho hf q0 q1 q2 q3 hql
      rcases HEN.out with ⟨rfl, hwg⟩ | ⟨hx, hT⟩
      · simp only []
        (go_wp2_with fail); refine (nandWrong_any HN5.out).mono ?_
        rintro e w6 ⟨rfl, rfl⟩
        rw [hwg]
        go_wp2_with fail
        go_ret
        exact ⟨rfl, HB5.out⟩
      · have HTW : Hid (T.wrong = IntKind.i64.wrap (WG + 1)) := by
          show _ = _
          rw [hT]
          show IntKind.i64.wrap (S.wrong + 1) = _
          rw [HWG.out]
        have HTL : Hid (strOfNums (lookL ⟨c, l, b, p, s⟩ T) = STR) := by
          show _ = _
          rw [hT, look_bad, HSTR.out]
        clear hT
        rcases hx with rfl | rfl | rfl
        all_goals
          simp only []
          (go_wp2_with fail); refine (look_any HN5.out HIT.out).mono ?_
          rintro e w6 ⟨rfl, hb⟩
          rw [HTL.out]
          have HN6 := Lib.hid (HN5.out.below hb)
          have HB6 := Lib.hid (HB5.out.trans (hb.mono HB5.out.size))
          clear hb
          (go_wp2_with fail); refine (nandWrong_any HN6.out).mono ?_
          rintro e w7 ⟨rfl, rfl⟩
          rw [HTW.out]
          go_wp2_with fail
          go_ret
          exact ⟨rfl, HB6.out⟩
    have e4 : (od == 4) = false := by rw [beq_eq_false_iff_ne]; omega
    clear h4
    (go_wp2_with fail); refine (nandWrong_any HN4.out).mono ?_
    rintro e w6 ⟨rfl, rfl⟩
    rw [HWG.out]
    go_wp2_with fail
    go_ret
    exact ⟨rfl, HB4.out⟩

end Go.Proofs.Ytlkapaecaeldpaa
