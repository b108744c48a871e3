/-
  The walks of the laws over package nand: NandKeeps.
-/
import Derived.Test.YtlkapaecaeldpaaLaw08j
import Derived.Deep.CutBlock
import Derived.Deep.CutRange
set_option linter.unusedVariables false
set_option linter.unusedSimpArgs false
set_option maxRecDepth 16384
namespace Go.Proofs.Ytlkapaecaeldpaa
open Go.RowKit

set_option maxHeartbeats 8000000 in
theorem nandKeepsWalk (g : Geo) (a1 : Option Addr) (len1 cap1 : Nat) (a2 : Option Addr) (len2 cap2 : Nat) (w : World) (hg : g.Wf) (hops : IsOps8 w a1 len1 cap1) (hmore : IsOps8 w a2 len2 cap2) :
    Calls Try.prog 7 #[g.v, .slice a1 len1 cap1, .slice a2 len2 cap2] w fun e w' => e = .returned (.bool true) ∧ Below w.heap.size w w' := by
  obtain ⟨hll2, hls⟩ := hmore
  have HM := Lib.hid hls
  clear hls
  have HW := Lib.hid hg
  have HL := Lib.hid hops
  clear hg hops
  obtain ⟨c, l, b, p, s⟩ := g
  have HG := Lib.hid (Blk.new w 23 [.int .i64 c, .int .i64 l, .int .i64 b, .int .i64 p, .int .i64 s])
  unfold Geo.v
  go_enter Try.func7, Try.ntmps7
  (go_wp2_with fail); refine (awake08_any _).mono ?_
  rintro e w1 ⟨rfl, hb⟩
  have hk := HG.out.below hb; have k0 : w1.cell? ⟨w.heap.size, 0, none⟩ = some (.int .i64 c) := hk.cell 0; have k1 : w1.cell? ⟨w.heap.size, 1, none⟩ = some (.int .i64 l) := hk.cell 1; have k2 : w1.cell? ⟨w.heap.size, 2, none⟩ = some (.int .i64 b) := hk.cell 2; have k3 : w1.cell? ⟨w.heap.size, 3, none⟩ = some (.int .i64 p) := hk.cell 3; have k4 : w1.cell? ⟨w.heap.size, 4, none⟩ = some (.int .i64 s) := hk.cell 4; have hltk := hk.lt
  have HG1 := Lib.hid hk
  have HB1 := Lib.hid (((Below.refl w.heap.size w).alloc (Nat.le_refl _) _).trans (hb.mono (by simp)))
  clear hb hk
  (go_wp2_with fail); refine (begun_any ⟨c, l, b, p, s⟩ a1 len1 cap1 w _ HW.out HL.out HB1.out).mono ?_
  intro e w2 hp
  by_cases hok : (⟨c, l, b, p, s⟩ : Geo).okB = true
  case neg =>
    have hok : (⟨c, l, b, p, s⟩ : Geo).okB = false := by simpa using hok
    have HOK := Lib.hid hok
    obtain ⟨hb, rfl⟩ := begun_no hp hok
    have HG2 := Lib.hid (HG1.out.below hb)
    have HB2 := Lib.hid (HB1.out.trans (hb.mono HB1.out.size))
    clear hp hb hok HG HG1
    clear k0 k1 k2 k3 k4 hltk
    have hk := HG2.out
    have k0 : w2.cell? ⟨w.heap.size, 0, none⟩ = some (.int .i64 c) := hk.cell 0; have k1 : w2.cell? ⟨w.heap.size, 1, none⟩ = some (.int .i64 l) := hk.cell 1; have k2 : w2.cell? ⟨w.heap.size, 2, none⟩ = some (.int .i64 b) := hk.cell 2; have k3 : w2.cell? ⟨w.heap.size, 3, none⟩ = some (.int .i64 p) := hk.cell 3; have k4 : w2.cell? ⟨w.heap.size, 4, none⟩ = some (.int .i64 s) := hk.cell 4
    have hltk := hk.lt
    clear hk
    (go_wp2_with fail); refine (ref03Right_any ⟨c, l, b, p, s⟩ _).mono ?_
    rintro e w3 ⟨rfl, hb⟩
    rw [HOK.out]
    have HB3 := Lib.hid (HB2.out.trans (hb.mono HB2.out.size))
    clear hb
    clear k0 k1 k2 k3 k4 hltk
    go_wp2_with fail
    go_ret
    exact ⟨rfl, HB3.out⟩
  obtain ⟨hb, d, F2, S, rfl, hn, hI, hoff, hpl, hF⟩ := begun_is hp hok
  have HOK := Lib.hid hok
  have HN2 := Lib.hid hn
  have HI := Lib.hid hI
  have HOFF := Lib.hid hoff
  have HPL := Lib.hid hpl
  have HF2 : Hid (∀ k, F2 k → w.heap.size < k) := fun k hk => by have := hF k hk; omega
  have HG2 := Lib.hid (HG1.out.below hb)
  have HB2 := Lib.hid (HB1.out.trans (hb.mono HB1.out.size))
  have HFX := Lib.hid (findIx_00 hok)
  clear hp hb hn hI hoff hpl hF hok HG HG1
  clear k0 k1 k2 k3 k4 hltk
  have hk := HG2.out
  have k0 : w2.cell? ⟨w.heap.size, 0, none⟩ = some (.int .i64 c) := hk.cell 0; have k1 : w2.cell? ⟨w.heap.size, 1, none⟩ = some (.int .i64 l) := hk.cell 1; have k2 : w2.cell? ⟨w.heap.size, 2, none⟩ = some (.int .i64 b) := hk.cell 2; have k3 : w2.cell? ⟨w.heap.size, 3, none⟩ = some (.int .i64 p) := hk.cell 3; have k4 : w2.cell? ⟨w.heap.size, 4, none⟩ = some (.int .i64 s) := hk.cell 4
  have hltk := hk.lt
  clear hk
  have hs4 := (Geo.ok_of HOK.out).s
  have hp32 := (Geo.ok_of HOK.out).p
  simp only at hs4 hp32
  (go_wp2_with fail); refine (nandNext_any HN2.out 0 0).mono ?_
  rintro e w3 ⟨rfl, hb⟩
  rw [HFX.out]
  simp only [nextO]
  have HN3 := Lib.hid (HN2.out.below hb)
  have HF3 := Lib.hid HF2.out
  have HG3 := Lib.hid (HG2.out.below hb)
  have HB3 := Lib.hid (HB2.out.trans (hb.mono HB2.out.size))
  clear hb
  obtain ⟨hn0, hn1⟩ := HI.out.nx 0
  simp only at hn1
  obtain ⟨n, hn⟩ : ∃ x, S.next 0 = x := ⟨_, rfl⟩
  have HNX := Lib.hid hn
  rw [hn] at hn0 hn1 ⊢
  clear hn
  clear k0 k1 k2 k3 k4 hltk
  have hk := HG3.out
  have k0 : w3.cell? ⟨w.heap.size, 0, none⟩ = some (.int .i64 c) := hk.cell 0; have k1 : w3.cell? ⟨w.heap.size, 1, none⟩ = some (.int .i64 l) := hk.cell 1; have k2 : w3.cell? ⟨w.heap.size, 2, none⟩ = some (.int .i64 b) := hk.cell 2; have k3 : w3.cell? ⟨w.heap.size, 3, none⟩ = some (.int .i64 p) := hk.cell 3; have k4 : w3.cell? ⟨w.heap.size, 4, none⟩ = some (.int .i64 s) := hk.cell 4
  have hltk := hk.lt
  clear hk
  by_cases hnp : p ≤ n
  · go_wp2_with fail
    go_ret
    exact ⟨rfl, HB3.out⟩
  (go_wp2_with fail); refine (nandRetired_any HN3.out 0 0).mono ?_
  rintro e w4 ⟨rfl, hb⟩
  rw [HFX.out]
  simp only [retO]
  have HN4 := Lib.hid (HN3.out.below hb)
  have HF4 := Lib.hid HF3.out
  have HG4 := Lib.hid (HG3.out.below hb)
  have HB4 := Lib.hid (HB3.out.trans (hb.mono HB3.out.size))
  clear hb
  obtain ⟨RT, hRT⟩ : ∃ x, S.ret 0 = x := ⟨_, rfl⟩
  have HRT := Lib.hid hRT
  rw [hRT]
  clear hRT
  clear k0 k1 k2 k3 k4 hltk
  have hk := HG4.out
  have k0 : w4.cell? ⟨w.heap.size, 0, none⟩ = some (.int .i64 c) := hk.cell 0; have k1 : w4.cell? ⟨w.heap.size, 1, none⟩ = some (.int .i64 l) := hk.cell 1; have k2 : w4.cell? ⟨w.heap.size, 2, none⟩ = some (.int .i64 b) := hk.cell 2; have k3 : w4.cell? ⟨w.heap.size, 3, none⟩ = some (.int .i64 p) := hk.cell 3; have k4 : w4.cell? ⟨w.heap.size, 4, none⟩ = some (.int .i64 s) := hk.cell 4
  have hltk := hk.lt
  clear hk
  cases RT with
  | true =>
    go_wp2_with fail
    go_ret
    exact ⟨rfl, HB4.out⟩
  | false =>
    have hnp2 : n < p := by omega
    have HNP : Hid (True → n < p) := fun _ => hnp2
    obtain ⟨D, hD⟩ : ∃ D, secsD (min s 4).toNat 77 = D := ⟨_, rfl⟩
    obtain ⟨O, hO⟩ : ∃ D, secsO (min s 4).toNat 77 false = D := ⟨_, rfl⟩
    have hsa := secs_at (s := s) (m := 77) ⟨by omega, by omega⟩
    have hI3 := HI.out.prog HOK.out 0 0 n (secsD (min s 4).toNat 77) (secsO (min s 4).toNat 77 false)
    obtain ⟨S2, hS2, hof, hpl2, hkept⟩ := keeps_law HOK.out HI.out HOFF.out HPL.out HRT.out HNX.out hn0 hnp2 77
    simp only at hS2
    rw [hS2] at hI3
    rw [hD, hO] at hsa hS2
    have HSA := Lib.hid hsa
    have HS2 := Lib.hid hS2
    have HI2 := Lib.hid hI3
    have HKP := Lib.hid hkept
    have HSEC : Hid (∀ wy, Calls Try.prog 22 #[.agg #[.int .i64 c, .int .i64 l, .int .i64 b, .int .i64 p, .int .i64 s], .int .i64 77, .bool false] wy fun e w' => ∃ vd vo, e = .returned (.tuple #[vd, vo]) ∧ Sls w' (fun k => wy.heap.size ≤ k) vd D ∧ Sls w' (fun k => wy.heap.size ≤ k) vo O ∧ Below wy.heap.size wy w') := fun wy => by
      refine (sectors_any ⟨c, l, b, p, s⟩ 77 false wy).mono fun e w' hp => ?_
      obtain ⟨vd, vo, bs, cs, rfl, h1, h2, h3⟩ := hp
      refine ⟨vd, vo, rfl, ?_, ?_, h3⟩
      · have := h1.slsD.mono fun k _ hq => hq.1
        rwa [h2, hD] at this
      · have := h1.slsO.mono fun k _ hq => hq.1
        rwa [h2, hO] at this
    clear hsa hS2 hof hpl2 hkept hI3 hD hO
    obtain ⟨hne, a, hna, hal, hofp⟩ := adr_k HOK.out (n := n) ⟨hn0, show n < p by omega⟩ (k := 0) (show ((0 : Nat) : Int) < s by omega)
    have hna2 : Geo.numN ⟨c, l, b, p, s⟩ ⟨0, 0, n, 0⟩ = (a : Int) := by omega
    have HNUM : Hid (∀ wy, Calls Try.prog 46 #[.agg #[.int .i64 c, .int .i64 l, .int .i64 b, .int .i64 p, .int .i64 s], .agg #[.int .i64 0, .int .i64 0, .int .i64 n, .int .i64 0]] wy fun e w' => e = .returned (.tuple #[.int .i64 a, .int .i64 0]) ∧ Below wy.heap.size wy w') := fun wy => by
      have := geomNumber_any ⟨c, l, b, p, s⟩ ⟨0, 0, n, 0⟩ wy HW.out (place_wf ⟨by omega, by omega⟩)
      rwa [hne, hna2] at this
    have HNA := Lib.hid hna2
    have hall : (Geo.all ⟨c, l, b, p, s⟩) ≤ 65536 := by
      have hgo := Geo.ok_of HOK.out
      obtain ⟨m1, m2, m3, m4, m5', m6, m7, m8, m9, m10⟩ := geo_mul hgo.c.1 hgo.c.2 hgo.l.1 hgo.l.2 hgo.b.1 hgo.b.2 hgo.p.1 hgo.p.2 hgo.s.1 hgo.s.2
      exact m8
    have HA6 : Hid (True → (a : Int) < 65536) := fun _ => by omega
    clear hne hna hal hofp hna2 hall
    (go_wp2_with fail); refine (HSEC.out _).mono ?_
    rintro e w5 ⟨vd, vo, rfl, hd, ho, hb⟩
    have HN5 := Lib.hid (HN4.out.below hb)
    have HF5 := Lib.hid HF4.out
    have HG5 := Lib.hid (HG4.out.below hb)
    have HB5 := Lib.hid (HB4.out.trans (hb.mono HB4.out.size))
    have hin := HN4.out.inF
    have HD5 : Hid (Sls w5 (Away F2 w5.heap.size) vd D) := Lib.hid (hd.mono fun k hk hq => ⟨fun hf => by have := hin k hf; have : w4.heap.size ≤ k := hq; omega, hk⟩)
    have HO5 : Hid (Sls w5 (Away F2 w5.heap.size) vo O) := Lib.hid (ho.mono fun k hk hq => ⟨fun hf => by have := hin k hf; have : w4.heap.size ≤ k := hq; omega, hk⟩)
    clear hd ho hb hin
    clear k0 k1 k2 k3 k4 hltk
    have hk := HG5.out
    have k0 : w5.cell? ⟨w.heap.size, 0, none⟩ = some (.int .i64 c) := hk.cell 0; have k1 : w5.cell? ⟨w.heap.size, 1, none⟩ = some (.int .i64 l) := hk.cell 1; have k2 : w5.cell? ⟨w.heap.size, 2, none⟩ = some (.int .i64 b) := hk.cell 2; have k3 : w5.cell? ⟨w.heap.size, 3, none⟩ = some (.int .i64 p) := hk.cell 3; have k4 : w5.cell? ⟨w.heap.size, 4, none⟩ = some (.int .i64 s) := hk.cell 4
    have hltk := hk.lt
    clear hk
    simp only []
    (go_wp2_with fail); refine (nandProgram_any HN5.out 0 0 n vd vo _ _ HD5.out HO5.out).mono ?_
    rw [HS2.out]
    intro e w6 hp
    obtain ⟨rfl, F6, hn, ho, hf⟩ := hp
    have HN6 := Lib.hid hn
    have HF6 : Hid (∀ k, F6 k → w.heap.size < k) := fun k hk => (hf k hk).elim (HF5.out k) fun q => by have := HG5.out.lt; omega
    have HG6 : Hid (Blk w6 w.heap.size 23 _) := Lib.hid ((ho.block w.heap.size HG5.out.lt (fun q => by have := HF5.out _ q; omega)).trans HG5.out)
    have HB6 := Lib.hid (HB5.out.trans (ho.toBelow (B := w.heap.size) (fun k hk => Nat.le_of_lt (HF5.out k hk)) HB5.out.size))
    have HD6 : Hid (Sls w6 (Away F6 w6.heap.size) _ _) := Lib.hid ((HD5.out.keep ho.size fun k hk ha => ho.block k hk ha.1).mono fun k hk hq => ⟨fun q => (hf k q).elim hq.1 fun q2 => by have := hq.2; omega, hk⟩)
    have HO6 : Hid (Sls w6 (Away F6 w6.heap.size) _ _) := Lib.hid ((HO5.out.keep ho.size fun k hk ha => ho.block k hk ha.1).mono fun k hk hq => ⟨fun q => (hf k q).elim hq.1 fun q2 => by have := hq.2; omega, hk⟩)
    clear hn ho hf
    clear k0 k1 k2 k3 k4 hltk
    have hk := HG6.out
    have k0 : w6.cell? ⟨w.heap.size, 0, none⟩ = some (.int .i64 c) := hk.cell 0; have k1 : w6.cell? ⟨w.heap.size, 1, none⟩ = some (.int .i64 l) := hk.cell 1; have k2 : w6.cell? ⟨w.heap.size, 2, none⟩ = some (.int .i64 b) := hk.cell 2; have k3 : w6.cell? ⟨w.heap.size, 3, none⟩ = some (.int .i64 p) := hk.cell 3; have k4 : w6.cell? ⟨w.heap.size, 4, none⟩ = some (.int .i64 s) := hk.cell 4
    have hltk := hk.lt
    clear hk
    simp only []
    (go_wp2_with fail); refine (HNUM.out _).mono ?_
    rintro e w7 ⟨rfl, hb⟩
    have HN7 := Lib.hid (HN6.out.below hb)
    have HF7 := Lib.hid HF6.out
    have HG7 := Lib.hid (HG6.out.below hb)
    have HB7 := Lib.hid (HB6.out.trans (hb.mono HB6.out.size))
    have HD7 : Hid (Sls w7 (Away F6 w7.heap.size) _ _) := Lib.hid ((HD6.out.below hb).mono fun k hk hq => ⟨hq.1, hk⟩)
    have HO7 : Hid (Sls w7 (Away F6 w7.heap.size) _ _) := Lib.hid ((HO6.out.below hb).mono fun k hk hq => ⟨hq.1, hk⟩)
    clear hb
    clear k0 k1 k2 k3 k4 hltk
    have hk := HG7.out
    have k0 : w7.cell? ⟨w.heap.size, 0, none⟩ = some (.int .i64 c) := hk.cell 0; have k1 : w7.cell? ⟨w.heap.size, 1, none⟩ = some (.int .i64 l) := hk.cell 1; have k2 : w7.cell? ⟨w.heap.size, 2, none⟩ = some (.int .i64 b) := hk.cell 2; have k3 : w7.cell? ⟨w.heap.size, 3, none⟩ = some (.int .i64 p) := hk.cell 3; have k4 : w7.cell? ⟨w.heap.size, 4, none⟩ = some (.int .i64 s) := hk.cell 4
    have hltk := hk.lt
    clear hk
    have hvd := HD7.out
    have hvo := HO7.out
    obtain ⟨ad, cd, rfl, _, _, _⟩ := hvd
    obtain ⟨ao, co, rfl, _, _, _⟩ := hvo
    simp only []
    go_wp2_with fail
    go_loopw [16] (fun t wr => ∃ (k : Nat) (T : NSt) (F : Nat → Prop), k ≤ len2 ∧ k ≤ 40 ∧ t = .int .i64 k ∧ Hid (NandAt wr F d ⟨c, l, b, p, s⟩ T) ∧ Hid (SInv ⟨c, l, b, p, s⟩ T) ∧ Hid (Kept ⟨c, l, b, p, s⟩ n 77 T) ∧ Hid (∀ j, F j → w.heap.size < j) ∧ Hid (Sls wr (Away F wr.heap.size) (.slice ad D.length cd) D) ∧ Hid (Sls wr (Away F wr.heap.size) (.slice ao O.length co) O) ∧ Hid (Blk wr w.heap.size 23 [.int .i64 c, .int .i64 l, .int .i64 b, .int .i64 p, .int .i64 s]) ∧ Hid (Below w.heap.size w wr)) (fun t _ => ((len2 : Int) - intOf t).toNat)
    case atStart => exact ⟨0, S2, F6, by omega, by omega, rfl, HN7.out, HI2.out, HKP.out, HF6.out, HD7.out, HO7.out, HG7.out, HB7.out⟩
    case round =>
      obtain ⟨k, S3, F3, hkl, hk40, rfl, HN3, HI3, HK3, HF3, HD3, HO3, HG3, HB3⟩ := hrel
      clear HN2 HN4 HN5 HN6 HN7 HD5 HD6 HD7 HO5 HO6 HO7 HG2 HG4 HG5 HG6 HG7 HB4 HB5 HB6 HB7 HF4 HF5 HF6 HF7
      clear k0 k1 k2 k3 k4 hltk
      have hk3 := HG3.out
      have k0 : wr.cell? ⟨w.heap.size, 0, none⟩ = some (.int .i64 c) := hk3.cell 0; have k1 : wr.cell? ⟨w.heap.size, 1, none⟩ = some (.int .i64 l) := hk3.cell 1; have k2 : wr.cell? ⟨w.heap.size, 2, none⟩ = some (.int .i64 b) := hk3.cell 2; have k3 : wr.cell? ⟨w.heap.size, 3, none⟩ = some (.int .i64 p) := hk3.cell 3; have k4 : wr.cell? ⟨w.heap.size, 4, none⟩ = some (.int .i64 s) := hk3.cell 4
      have hltk := hk3.lt
      clear hk3
      by_cases hgo : k < len2 ∧ k < 40
      · obtain ⟨hlt, hk60⟩ := hgo
        obtain ⟨ab, off, rfl, habl, Fo, hFo⟩ := HM.out (by omega)
        obtain ⟨hoin, hc⟩ := hFo k hlt
        generalize Fo k = ov at hc hoin
        obtain ⟨od, ou, obk, op, on, oodd, pa, pl, pc, zs0⟩ := ov
        have cell : ∀ j v, (Op8.l ⟨od, ou, obk, op, on, oodd, pa, pl, pc, zs0⟩)[j]? = some v → j < 7 → wr.cell? ⟨ab, off + k * 7 + j, none⟩ = some v := fun j v hv hj => by
          rw [(HB3.out).cell (p := ⟨ab, off + k * 7 + j, none⟩) habl, hc j hj, hv]
        have c0 : wr.cell? ⟨ab, off + k * 7, none⟩ = some (.int .i64 od) := cell 0 _ rfl (by decide)
        have c1 : wr.cell? ⟨ab, off + k * 7 + 1, none⟩ = some (.int .i64 ou) := cell 1 _ rfl (by decide)
        have c2 : wr.cell? ⟨ab, off + k * 7 + 2, none⟩ = some (.int .i64 obk) := cell 2 _ rfl (by decide)
        have c3 : wr.cell? ⟨ab, off + k * 7 + 3, none⟩ = some (.int .i64 op) := cell 3 _ rfl (by decide)
        have c4 : wr.cell? ⟨ab, off + k * 7 + 4, none⟩ = some (.int .i64 on) := cell 4 _ rfl (by decide)
        have c5 : wr.cell? ⟨ab, off + k * 7 + 5, none⟩ = some (.bool oodd) := cell 5 _ rfl (by decide)
        have c6 : wr.cell? ⟨ab, off + k * 7 + 6, none⟩ = some (.slice pa pl pc) := cell 6 _ rfl (by decide)
        clear cell
        have HOI : Hid (∀ wz, Below w.heap.size w wz → pl ≤ 100 → ∃ zs : List Int, (∀ x ∈ zs, IsB x) ∧ Sl wz 0 (.slice pa pl pc) (bv zs)) := fun wz hbz h100 => by
          have hdo := hoin.doing hbz (F := fun _ => False) (FR := fun _ => False) (fun k h => h.elim) (fun k h => h.elim)
          have hlen := hdo.len
          simp only at hlen
          exact ⟨_, hdo.isB, (hdo.sl (by simp only; omega)).sl⟩
        have hk0 : (0 : Int) ≤ k := by omega
        have hkl2 : (k : Int) < len2 := by omega
        have hb : Below wr.heap.size wr (wr.alloc (.cells #[.int .i64 od, .int .i64 ou, .int .i64 obk, .int .i64 op, .int .i64 on, .bool oodd, .slice pa pl pc] 86)) := (Below.refl _ _).alloc (Nat.le_refl _) _
        have HKO := Lib.hid (Blk.new wr 86 [.int .i64 od, .int .i64 ou, .int .i64 obk, .int .i64 op, .int .i64 on, .bool oodd, .slice pa pl pc])
        have HB0 := Lib.hid hb
        clear hc hFo hoin hb
        (go_wp2_with fail); refine (sectors_any ⟨c, l, b, p, s⟩ on oodd _).mono ?_
        intro e w4 hp
        obtain ⟨vx, vy, bs, cs, rfl, hs, hbl, hb0⟩ := hp
        have hb : Below wr.heap.size wr w4 := HB0.out.trans (hb0.mono HB0.out.size)
        have HN4 := Lib.hid (HN3.out.below hb)
        have HF4 := Lib.hid HF3.out
        have HG4 := Lib.hid (HG3.out.below hb)
        have HB4 := Lib.hid (HB3.out.trans (hb.mono HB3.out.size))
        have HD4 : Hid (Sls w4 (Away F3 w4.heap.size) _ _) := Lib.hid ((HD3.out.below hb).mono fun k hk hq => ⟨hq.1, hk⟩)
        have HO4 : Hid (Sls w4 (Away F3 w4.heap.size) _ _) := Lib.hid ((HO3.out.below hb).mono fun k hk hq => ⟨hq.1, hk⟩)
        have hd := hs.slsD
        have hoo := hs.slsO
        rw [hbl] at hd hoo
        have hin := HN3.out.inF
        have hs0 := HB0.out.size
        have HX4 : Hid (Sls w4 (Away F3 w4.heap.size) vx _) := Lib.hid (hd.mono fun k hk hq => ⟨fun hf => by have := hin k hf; have := hq.1; omega, hk⟩)
        have HY4 : Hid (Sls w4 (Away F3 w4.heap.size) vy _) := Lib.hid (hoo.mono fun k hk hq => ⟨fun hf => by have := hin k hf; have := hq.1; omega, hk⟩)
        have hko := HKO.out.below hb0
        have q0 : w4.cell? ⟨wr.heap.size, 0, none⟩ = some (.int .i64 od) := hko.cell 0
        have q1 : w4.cell? ⟨wr.heap.size, 1, none⟩ = some (.int .i64 ou) := hko.cell 1
        have q2 : w4.cell? ⟨wr.heap.size, 2, none⟩ = some (.int .i64 obk) := hko.cell 2
        have q3 : w4.cell? ⟨wr.heap.size, 3, none⟩ = some (.int .i64 op) := hko.cell 3
        have q6 : w4.cell? ⟨wr.heap.size, 6, none⟩ = some (.slice pa pl pc) := hko.cell 6
        have hql := hko.lt
        clear hs hbl hd hoo hin hs0 hko hb hb0 HKO HB0 c0 c1 c2 c3 c4 c5 c6 HN3 HD3 HO3 HG3 HB3
        clear k0 k1 k2 k3 k4 hltk
        simp only []
        have HK4 : Hid (True → k < len2 ∧ k < 40) := fun _ => ⟨by omega, by omega⟩
        go_upto_block 2 with fail
        go_cut [] from 75 to 187 (fun wx => ∃ (S5 : NSt) (F5 : Nat → Prop), Hid (NandAt wx F5 d ⟨c, l, b, p, s⟩ S5) ∧ Hid (SInv ⟨c, l, b, p, s⟩ S5) ∧ Hid (Kept ⟨c, l, b, p, s⟩ n 77 S5) ∧ Hid (∀ j, F5 j → w.heap.size < j) ∧ Hid (Sls wx (Away F5 wx.heap.size) (.slice ad D.length cd) D) ∧ Hid (Sls wx (Away F5 wx.heap.size) (.slice ao O.length co) O) ∧ Hid (Blk wx w.heap.size 23 [.int .i64 c, .int .i64 l, .int .i64 b, .int .i64 p, .int .i64 s]) ∧ Hid (Below w.heap.size w wx))
        case first =>
          by_cases h01 : od = 0 ∨ od = 1
          · rcases h01 with rfl | rfl
            all_goals
              (go_wp2_with fail); refine (nandProgram_any HN4.out ou obk op vx vy _ _ HX4.out HY4.out).mono ?_
              intro e w5 hp
              obtain ⟨rfl, F5, hn, ho, hf⟩ := hp
              have HN5 := Lib.hid hn
              have HF5 : Hid (∀ k, F5 k → w.heap.size < k) := fun k hk => (hf k hk).elim (HF4.out k) fun q => by have := HG4.out.lt; omega
              have HG5 : Hid (Blk w5 w.heap.size 23 _) := Lib.hid ((ho.block w.heap.size HG4.out.lt (fun q => by have := HF4.out _ q; omega)).trans HG4.out)
              have HB5 := Lib.hid (HB4.out.trans (ho.toBelow (B := w.heap.size) (fun k hk => Nat.le_of_lt (HF4.out k hk)) HB4.out.size))
              have HD5 : Hid (Sls w5 (Away F5 w5.heap.size) _ _) := Lib.hid ((HD4.out.keep ho.size fun k hk ha => ho.block k hk ha.1).mono fun k hk hq => ⟨fun q => (hf k q).elim hq.1 fun q2 => by have := hq.2; omega, hk⟩)
              have HO5 : Hid (Sls w5 (Away F5 w5.heap.size) _ _) := Lib.hid ((HO4.out.keep ho.size fun k hk ha => ho.block k hk ha.1).mono fun k hk hq => ⟨fun q => (hf k q).elim hq.1 fun q2 => by have := hq.2; omega, hk⟩)
              clear hn ho hf q0 q1 q2 q3 q6 hql
              have HI5 := Lib.hid (HI3.out.prog HOK.out ou obk op (secsD (min s 4).toNat on) (secsO (min s 4).toNat on oodd))
              have HK5 := Lib.hid (HK3.out.prog HOK.out ou obk op (secsD (min s 4).toNat on) (secsO (min s 4).toNat on oodd))
              generalize (progTo ⟨c, l, b, p, s⟩ S3 ou obk op (secsD (min s 4).toNat on) (secsO (min s 4).toNat on oodd)).2 = S5 at HN5 HI5 HK5
              clear HN4 HD4 HO4 HG4 HB4 HI3 HK3 HX4 HY4
              go_wp2_with fail
              go_meet
              exact ⟨S5, F5, HN5.out, HI5.out, HK5.out, HF5.out, HD5.out, HO5.out, HG5.out, HB5.out⟩
          have e0 : (od == 0) = false := by rw [beq_eq_false_iff_ne]; omega
          have e1 : (od == 1) = false := by rw [beq_eq_false_iff_ne]; omega
          clear h01
          by_cases h2 : od = 2
          · subst h2
            clear e0 e1
            by_cases hu : ou = 0
            · subst hu
              by_cases hob : obk = 0
              · subst hob
                go_wp2_with fail
                go_meet
                exact ⟨S3, F3, HN4.out, HI3.out, HK3.out, HF4.out, HD4.out, HO4.out, HG4.out, HB4.out⟩
              · have hbb : (obk != 0) = true := by simp [hob]
                have HNE : Hid (obk = 0 → False) := hob
                clear hob
                (go_wp2_with fail); refine (nandErase_any HN4.out 0 obk).mono ?_
                intro e w5 hp
                obtain ⟨rfl, F5, hn, ho, hf⟩ := hp
                have HN5 := Lib.hid hn
                have HF5 : Hid (∀ k, F5 k → w.heap.size < k) := fun k hk => (hf k hk).elim (HF4.out k) fun q => by have := HG4.out.lt; omega
                have HG5 : Hid (Blk w5 w.heap.size 23 _) := Lib.hid ((ho.block w.heap.size HG4.out.lt (fun q => by have := HF4.out _ q; omega)).trans HG4.out)
                have HB5 := Lib.hid (HB4.out.trans (ho.toBelow (B := w.heap.size) (fun k hk => Nat.le_of_lt (HF4.out k hk)) HB4.out.size))
                have HD5 : Hid (Sls w5 (Away F5 w5.heap.size) _ _) := Lib.hid ((HD4.out.keep ho.size fun k hk ha => ho.block k hk ha.1).mono fun k hk hq => ⟨fun q => (hf k q).elim hq.1 fun q2 => by have := hq.2; omega, hk⟩)
                have HO5 : Hid (Sls w5 (Away F5 w5.heap.size) _ _) := Lib.hid ((HO4.out.keep ho.size fun k hk ha => ho.block k hk ha.1).mono fun k hk hq => ⟨fun q => (hf k q).elim hq.1 fun q2 => by have := hq.2; omega, hk⟩)
                clear hn ho hf q0 q1 q2 q3 q6 hql
                have HI5 := Lib.hid (HI3.out.erase HOK.out 0 obk)
                have HK5 := Lib.hid (HK3.out.erase HOK.out 0 obk (fun h => HNE.out h.2))
                generalize (eraseTo ⟨c, l, b, p, s⟩ S3 0 obk).2 = S5 at HN5 HI5 HK5
                clear HN4 HD4 HO4 HG4 HB4 HI3 HK3 HX4 HY4
                go_wp2_with fail
                go_meet
                exact ⟨S5, F5, HN5.out, HI5.out, HK5.out, HF5.out, HD5.out, HO5.out, HG5.out, HB5.out⟩
            · have hbb : (ou != 0) = true := by simp [hu]
              have HNE : Hid (ou = 0 → False) := hu
              clear hu
              (go_wp2_with fail); refine (nandErase_any HN4.out ou obk).mono ?_
              intro e w5 hp
              obtain ⟨rfl, F5, hn, ho, hf⟩ := hp
              have HN5 := Lib.hid hn
              have HF5 : Hid (∀ k, F5 k → w.heap.size < k) := fun k hk => (hf k hk).elim (HF4.out k) fun q => by have := HG4.out.lt; omega
              have HG5 : Hid (Blk w5 w.heap.size 23 _) := Lib.hid ((ho.block w.heap.size HG4.out.lt (fun q => by have := HF4.out _ q; omega)).trans HG4.out)
              have HB5 := Lib.hid (HB4.out.trans (ho.toBelow (B := w.heap.size) (fun k hk => Nat.le_of_lt (HF4.out k hk)) HB4.out.size))
              have HD5 : Hid (Sls w5 (Away F5 w5.heap.size) _ _) := Lib.hid ((HD4.out.keep ho.size fun k hk ha => ho.block k hk ha.1).mono fun k hk hq => ⟨fun q => (hf k q).elim hq.1 fun q2 => by have := hq.2; omega, hk⟩)
              have HO5 : Hid (Sls w5 (Away F5 w5.heap.size) _ _) := Lib.hid ((HO4.out.keep ho.size fun k hk ha => ho.block k hk ha.1).mono fun k hk hq => ⟨fun q => (hf k q).elim hq.1 fun q2 => by have := hq.2; omega, hk⟩)
              clear hn ho hf q0 q1 q2 q3 q6 hql
              have HI5 := Lib.hid (HI3.out.erase HOK.out ou obk)
              have HK5 := Lib.hid (HK3.out.erase HOK.out ou obk (fun h => HNE.out h.1))
              generalize (eraseTo ⟨c, l, b, p, s⟩ S3 ou obk).2 = S5 at HN5 HI5 HK5
              clear HN4 HD4 HO4 HG4 HB4 HI3 HK3 HX4 HY4
              go_wp2_with fail
              go_meet
              exact ⟨S5, F5, HN5.out, HI5.out, HK5.out, HF5.out, HD5.out, HO5.out, HG5.out, HB5.out⟩
          have e2 : (od == 2) = false := by rw [beq_eq_false_iff_ne]; omega
          clear h2
          by_cases h4 : od = 4
          · subst h4
            clear e0 e1 e2
            (go_wp2_with fail); refine (nandRetire_any HN4.out ou obk).mono ?_
            intro e w5 hp
            obtain ⟨rfl, F5, hn, ho, hf⟩ := hp
            have HN5 := Lib.hid hn
            have HF5 : Hid (∀ k, F5 k → w.heap.size < k) := fun k hk => (hf k hk).elim (HF4.out k) fun q => by have := HG4.out.lt; omega
            have HG5 : Hid (Blk w5 w.heap.size 23 _) := Lib.hid ((ho.block w.heap.size HG4.out.lt (fun q => by have := HF4.out _ q; omega)).trans HG4.out)
            have HB5 := Lib.hid (HB4.out.trans (ho.toBelow (B := w.heap.size) (fun k hk => Nat.le_of_lt (HF4.out k hk)) HB4.out.size))
            have HD5 : Hid (Sls w5 (Away F5 w5.heap.size) _ _) := Lib.hid ((HD4.out.keep ho.size fun k hk ha => ho.block k hk ha.1).mono fun k hk hq => ⟨fun q => (hf k q).elim hq.1 fun q2 => by have := hq.2; omega, hk⟩)
            have HO5 : Hid (Sls w5 (Away F5 w5.heap.size) _ _) := Lib.hid ((HO4.out.keep ho.size fun k hk ha => ho.block k hk ha.1).mono fun k hk hq => ⟨fun q => (hf k q).elim hq.1 fun q2 => by have := hq.2; omega, hk⟩)
            clear hn ho hf q0 q1 q2 q3 q6 hql
            have HI5 := Lib.hid (HI3.out.retire ou obk)
            have HK5 := Lib.hid (HK3.out.retire ou obk)
            generalize (retireTo ⟨c, l, b, p, s⟩ S3 ou obk).2 = S5 at HN5 HI5 HK5
            clear HN4 HD4 HO4 HG4 HB4 HI3 HK3 HX4 HY4
            go_wp2_with fail
            go_meet
            exact ⟨S5, F5, HN5.out, HI5.out, HK5.out, HF5.out, HD5.out, HO5.out, HG5.out, HB5.out⟩
          have e4 : (od == 4) = false := by rw [beq_eq_false_iff_ne]; omega
          clear h4
          by_cases h5 : od = 5
          · subst h5
            clear e0 e1 e2 e4
            by_cases h100 : pl ≤ 100
            · obtain ⟨zs, hzs, hsl⟩ := HOI.out _ HB4.out h100
              have HZS := Lib.hid hzs
              have HSL := Lib.hid hsl
              have hp1 : (pl : Int) ≤ 100 := by omega
              clear hzs hsl h100
              (go_wp2_with fail); refine (nandPlan_any HN4.out (.slice pa pl pc) zs HSL.out HZS.out).mono ?_
              intro e w5 hp
              obtain ⟨rfl, F5, hn, ho, hf⟩ := hp
              have HN5 := Lib.hid hn
              have HF5 : Hid (∀ k, F5 k → w.heap.size < k) := fun k hk => (hf k hk).elim (HF4.out k) fun q => by have := HG4.out.lt; omega
              have HG5 : Hid (Blk w5 w.heap.size 23 _) := Lib.hid ((ho.block w.heap.size HG4.out.lt (fun q => by have := HF4.out _ q; omega)).trans HG4.out)
              have HB5 := Lib.hid (HB4.out.trans (ho.toBelow (B := w.heap.size) (fun k hk => Nat.le_of_lt (HF4.out k hk)) HB4.out.size))
              have HD5 : Hid (Sls w5 (Away F5 w5.heap.size) _ _) := Lib.hid ((HD4.out.keep ho.size fun k hk ha => ho.block k hk ha.1).mono fun k hk hq => ⟨fun q => (hf k q).elim hq.1 fun q2 => by have := hq.2; omega, hk⟩)
              have HO5 : Hid (Sls w5 (Away F5 w5.heap.size) _ _) := Lib.hid ((HO4.out.keep ho.size fun k hk ha => ho.block k hk ha.1).mono fun k hk hq => ⟨fun q => (hf k q).elim hq.1 fun q2 => by have := hq.2; omega, hk⟩)
              clear hn ho hf q0 q1 q2 q3 q6 hql
              have HI5 := Lib.hid (SInv.same (T := ({ S3 with plan := zs, many := 0 } : NSt)) HI3.out rfl rfl HZS.out)
              have HK5 := Lib.hid (Kept.same (T := ({ S3 with plan := zs, many := 0 } : NSt)) HK3.out rfl rfl)
              generalize ({ S3 with plan := zs, many := 0 } : NSt) = S5 at HN5 HI5 HK5
              clear HN4 HD4 HO4 HG4 HB4 HI3 HK3 HX4 HY4
              go_wp2_with fail
              go_meet
              exact ⟨S5, F5, HN5.out, HI5.out, HK5.out, HF5.out, HD5.out, HO5.out, HG5.out, HB5.out⟩
            · have hp1 : ¬ (pl : Int) ≤ 100 := by omega
              clear h100
              go_wp2_with fail
              go_meet
              exact ⟨S3, F3, HN4.out, HI3.out, HK3.out, HF4.out, HD4.out, HO4.out, HG4.out, HB4.out⟩
          have e5 : (od == 5) = false := by rw [beq_eq_false_iff_ne]; omega
          clear h5
          go_wp2_with fail
          go_meet
          exact ⟨S3, F3, HN4.out, HI3.out, HK3.out, HF4.out, HD4.out, HO4.out, HG4.out, HB4.out⟩
        case rest =>
          obtain ⟨S5, F5, HN5, HI5, HK5, HF5, HD5, HO5, HG5, HB5⟩ := hcut
          clear HN4 HD4 HO4 HG4 HB4 HI3 HK3 HX4 HY4 q0 q1 q2 q3 q6 hql
          (go_wp2_with fail); refine (nandPower_any HN5.out).mono ?_
          intro e w6 hp
          obtain ⟨rfl, F6, hn, ho, hf⟩ := hp
          have HN6 := Lib.hid hn
          have HF6 : Hid (∀ k, F6 k → w.heap.size < k) := fun k hk => (hf k hk).elim (HF5.out k) fun q => by have := HG5.out.lt; omega
          have HG6 : Hid (Blk w6 w.heap.size 23 _) := Lib.hid ((ho.block w.heap.size HG5.out.lt (fun q => by have := HF5.out _ q; omega)).trans HG5.out)
          have HB6 := Lib.hid (HB5.out.trans (ho.toBelow (B := w.heap.size) (fun k hk => Nat.le_of_lt (HF5.out k hk)) HB5.out.size))
          have HD6 : Hid (Sls w6 (Away F6 w6.heap.size) _ _) := Lib.hid ((HD5.out.keep ho.size fun k hk ha => ho.block k hk ha.1).mono fun k hk hq => ⟨fun q => (hf k q).elim hq.1 fun q2 => by have := hq.2; omega, hk⟩)
          have HO6 : Hid (Sls w6 (Away F6 w6.heap.size) _ _) := Lib.hid ((HO5.out.keep ho.size fun k hk ha => ho.block k hk ha.1).mono fun k hk hq => ⟨fun q => (hf k q).elim hq.1 fun q2 => by have := hq.2; omega, hk⟩)
          clear hn ho hf
          have HI6 : Hid (SInv ⟨c, l, b, p, s⟩ { S5 with off := false }) := HI5.out.same rfl rfl HI5.out.pl
          have HK6 : Hid (Kept ⟨c, l, b, p, s⟩ n 77 { S5 with off := false }) := HK5.out.same rfl rfl
          have HRK : Hid (∀ j : Nat, (j : Int) < s → readOf ⟨c, l, b, p, s⟩ { S5 with off := false } ((a : Int) + j) = (secD 77 j, secO 77 j, 0)) := fun j hj => by
            have := HK6.out.read HOK.out rfl ⟨hn0, HNP.out trivial⟩ (k := j) hj
            rwa [HNA.out] at this
          have hk := HG6.out
          have k0 : w6.cell? ⟨w.heap.size, 0, none⟩ = some (.int .i64 c) := hk.cell 0; have k1 : w6.cell? ⟨w.heap.size, 1, none⟩ = some (.int .i64 l) := hk.cell 1; have k2 : w6.cell? ⟨w.heap.size, 2, none⟩ = some (.int .i64 b) := hk.cell 2; have k3 : w6.cell? ⟨w.heap.size, 3, none⟩ = some (.int .i64 p) := hk.cell 3; have k4 : w6.cell? ⟨w.heap.size, 4, none⟩ = some (.int .i64 s) := hk.cell 4
          have hltk := hk.lt
          clear hk
          go_wp2_with fail
          go_loopw [20] (fun t wq => ∃ j : Nat, (j : Int) ≤ s ∧ t = .int .i64 j ∧ Hid (NandAt wq F6 d ⟨c, l, b, p, s⟩ { S5 with off := false }) ∧ Hid (Sls wq (Away F6 wq.heap.size) (.slice ad D.length cd) D) ∧ Hid (Sls wq (Away F6 wq.heap.size) (.slice ao O.length co) O) ∧ Hid (Blk wq w.heap.size 23 [.int .i64 c, .int .i64 l, .int .i64 b, .int .i64 p, .int .i64 s]) ∧ Hid (Below w.heap.size w wq)) (fun t _ => (s - intOf t).toNat)
          case atStart => exact ⟨0, by omega, rfl, HN6.out, HD6.out, HO6.out, HG6.out, HB6.out⟩
          case round =>
            obtain ⟨j, hj, rfl, HN7, HD7, HO7, HG7, HB7⟩ := hrel
            clear HN6 HD6 HO6 HG6 HB6
            clear k0 k1 k2 k3 k4 hltk
            have hk7 := HG7.out
            have k0 : wr.cell? ⟨w.heap.size, 0, none⟩ = some (.int .i64 c) := hk7.cell 0; have k1 : wr.cell? ⟨w.heap.size, 1, none⟩ = some (.int .i64 l) := hk7.cell 1; have k2 : wr.cell? ⟨w.heap.size, 2, none⟩ = some (.int .i64 b) := hk7.cell 2; have k3 : wr.cell? ⟨w.heap.size, 3, none⟩ = some (.int .i64 p) := hk7.cell 3; have k4 : wr.cell? ⟨w.heap.size, 4, none⟩ = some (.int .i64 s) := hk7.cell 4
            have hltk := hk7.lt
            clear hk7
            by_cases hlt : (j : Int) < s
            · have hwk : IntKind.i64.wrap ((a : Int) + j) = (a : Int) + j := wrap_in _ ⟨by omega, by have := HA6.out trivial; omega⟩
              have hxs := HSA.out.2.2.1 j hlt
              have hys := HSA.out.2.2.2 j hlt
              obtain ⟨hdl, hol, _, _⟩ := HSA.out
              have hj0 : (0 : Int) ≤ j := by omega
              (go_wp2_with fail); refine (nandRead_any HN7.out ((a : Int) + j)).mono ?_
              intro e w8 hp
              rw [HRK.out j hlt] at hp
              obtain ⟨va2, vb2, rfl, oa, ob, hb⟩ := hp
              have HN8 := Lib.hid (HN7.out.below hb)
              have HG8 := Lib.hid (HG7.out.below hb)
              have HB8 := Lib.hid (HB7.out.trans (hb.mono HB7.out.size))
              have HD8 : Hid (Sls w8 (Away F6 w8.heap.size) _ _) := Lib.hid ((HD7.out.below hb).mono fun k hk hq => ⟨hq.1, hk⟩)
              have HO8 : Hid (Sls w8 (Away F6 w8.heap.size) _ _) := Lib.hid ((HO7.out.below hb).mono fun k hk hq => ⟨hq.1, hk⟩)
              rw [secD_length] at oa
              rw [secO_length] at ob
              obtain ⟨ga, ca, rfl⟩ := own_form oa (by decide)
              obtain ⟨gb, cb, rfl⟩ := own_form ob (by decide)
              obtain ⟨gx, ox, uxa, uxc, rfl, hgx, hcx, hsx⟩ := HD8.out.get hxs
              obtain ⟨gy, oy, uya, uyc, rfl, hgy, hcy, hsy⟩ := HO8.out.get hys
              have hsx1 := hsx.sl
              have hsy1 := hsy.sl
              rw [secD_length] at hcx hsx1
              rw [secO_length] at hcy hsy1
              obtain ⟨SD, hSD⟩ : ∃ x, strOfNums (secD 77 j) = x := ⟨_, rfl⟩
              obtain ⟨SO, hSO⟩ : ∃ x, strOfNums (secO 77 j) = x := ⟨_, rfl⟩
              have hdw : ∀ {wz : World}, Since w8.drew wz → Below w8.heap.size w8 wz := fun hz => (Below.refl _ _).drew.trans hz.below
              have hq1' : ∀ wz, Since w8.drew wz → (convert 45 9 (.slice (some ⟨ga, 0, none⟩) 16 ca)).run Try.prog wz = .ok (.string SD) wz := fun wz hz => by rw [← hSD]; exact own_str (P := Try.prog) Try.underlying45 Try.underlying5 Try.underlying9 (own_below oa (hdw hz)) (by decide)
              have hq2' : ∀ wz, Since w8.drew wz → (convert 45 9 (.slice (some ⟨gb, 0, none⟩) 17 cb)).run Try.prog wz = .ok (.string SO) wz := fun wz hz => by rw [← hSO]; exact own_str (P := Try.prog) Try.underlying45 Try.underlying5 Try.underlying9 (own_below ob (hdw hz)) (by decide)
              have hq3' : ∀ wz, Since w8.drew wz → (convert 45 9 (.slice uxa 16 uxc)).run Try.prog wz = .ok (.string SD) wz := fun wz hz => by rw [← hSD]; exact run_str_sl (P := Try.prog) 45 9 5 Try.underlying45 Try.underlying5 Try.underlying9 (hsx1.below (hdw hz))
              have hq4' : ∀ wz, Since w8.drew wz → (convert 45 9 (.slice uya 17 uyc)).run Try.prog wz = .ok (.string SO) wz := fun wz hz => by rw [← hSO]; exact run_str_sl (P := Try.prog) 45 9 5 Try.underlying45 Try.underlying5 Try.underlying9 (hsy1.below (hdw hz))
              clear hdw hSD hSO hsx1 hsy1 hsx hsy oa ob hxs hys hb
              simp only []
              go_wp2_with fail
              refine wp_region_b 21 (by kernel_rfl) (by kernel_rfl) ?_
              simp only [List.take_succ_cons, List.take_zero, List.drop_succ_cons, List.drop_zero]
              repeat (first
                | (refine SeqC.run (v := ?_) ?_ (fun wz hz => ?_) ?_; rotate_left; (· rfl); (· have hzc := hz.cell; have hzf := hz.frozen; go_simp; first | exact UponS.value hz | exact UponS.skip hz | (refine UponS.call ?_; fail)); (try simp only [Act.put, List.setIfInBounds_toArray, List.set_cons_zero, List.set_cons_succ]))
                | (refine SeqC.skip ?_ ?_; (· rfl); (try simp only [Act.put, List.setIfInBounds_toArray, List.set_cons_zero, List.set_cons_succ])))
              refine fun wz hz => ?_
              have hbz : Below w8.heap.size w8 wz := (Below.refl _ _).drew.trans hz.below
              have HN9 := Lib.hid (HN8.out.below hbz)
              have HG9 := Lib.hid (HG8.out.below hbz)
              have HB9 := Lib.hid (HB8.out.trans (hbz.mono HB8.out.size))
              have HD9 : Hid (Sls wz (Away F6 wz.heap.size) _ _) := Lib.hid ((HD8.out.below hbz).mono fun k hk hq => ⟨hq.1, hk⟩)
              have HO9 : Hid (Sls wz (Away F6 wz.heap.size) _ _) := Lib.hid ((HO8.out.below hbz).mono fun k hk hq => ⟨hq.1, hk⟩)
              clear hz hbz hq1' hq2' hq3' hq4' hcx hcy
              go_wp2_with fail
              go_roundw
              case rel => exact ⟨j + 1, by omega, by go_num, HN9.out, HD9.out, HO9.out, HG9.out, HB9.out⟩
              case measure => simp [intOf]; omega
            · go_wp2_with fail
              go_roundw
              case rel =>
                have hk4 := HK4.out trivial
                first
                  | exact ⟨k + 1, _, F6, by omega, by omega, by go_num, HN7.out, HI6.out, HK6.out, HF6.out, HD7.out, HO7.out, HG7.out, HB7.out⟩
                  | ((repeat apply Exists.intro); exact ⟨⟨k + 1, _, F6, by omega, by omega, by go_num, HN7.out, HI6.out, HK6.out, HF6.out, HD7.out, HO7.out, HG7.out, HB7.out⟩, rfl⟩)
              case measure => simp [intOf]; omega
      · have hex : ¬ k < len2 ∨ (k < len2 ∧ ¬ k < 40) := by omega
        clear hgo
        rcases hex with h1 | ⟨h1, h2⟩
        all_goals
          go_wp2_with fail
          go_ret
          exact ⟨rfl, HB3.out⟩

end Go.Proofs.Ytlkapaecaeldpaa
