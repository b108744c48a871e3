/-
  The walks of the laws over package nand: NandTears.
-/
import Derived.Test.YtlkapaecaeldpaaLaw08g
import Derived.Test.YtlkapaecaeldpaaNandQ2
set_option linter.unusedVariables false
set_option linter.unusedSimpArgs false
set_option maxRecDepth 16384
namespace Go.Proofs.Ytlkapaecaeldpaa
open Go.RowKit

theorem secs_at {s m : Int} (hs : 0 ≤ s ∧ s ≤ 4) : ((secsD (min s 4).toNat m).length : Int) = s ∧ ((secsO (min s 4).toNat m false).length : Int) = s ∧ (∀ k : Nat, (k : Int) < s → (secsD (min s 4).toNat m)[k]? = some (secD m k)) ∧ ∀ k : Nat, (k : Int) < s → (secsO (min s 4).toNat m false)[k]? = some (secO m k) := by
  refine ⟨by simp [secsD]; omega, by simp [secsO]; omega, fun k hk => ?_, fun k hk => ?_⟩
  · unfold secsD
    rw [List.getElem?_map, List.getElem?_range (by omega)]
    rfl
  · unfold secsO
    rw [List.getElem?_map, List.getElem?_range (by omega)]
    simp

set_option maxHeartbeats 4000000 in
theorem nandTearsWalk (g : Geo) (a1 : Option Addr) (len1 cap1 : Nat) (q : Int) (w : World) (hg : g.Wf) (hops : IsOps8 w a1 len1 cap1) (hq : (Lit.int .u8 q).wf = true) :
    Calls Try.prog 9 #[g.v, .slice a1 len1 cap1, .int .u8 q] w fun e w' => e = .returned (.bool true) ∧ Below w.heap.size w w' := by
  have HQ := Lib.hid (wf_u8 hq)
  clear hq
  have HW := Lib.hid hg
  have HL := Lib.hid hops
  clear hg hops
  obtain ⟨c, l, b, p, s⟩ := g
  have HG := Lib.hid (Blk.new w 23 [.int .i64 c, .int .i64 l, .int .i64 b, .int .i64 p, .int .i64 s])
  unfold Geo.v
  go_enter Try.func9, Try.ntmps9
  (go_wp2_with fail); refine (awake08_any _).mono ?_
  rintro e w1 ⟨rfl, hb⟩
  have hk := HG.out.below hb; have k0 : w1.cell? ⟨w.heap.size, 0, none⟩ = some (.int .i64 c) := hk.cell 0; have k1 : w1.cell? ⟨w.heap.size, 1, none⟩ = some (.int .i64 l) := hk.cell 1; have k2 : w1.cell? ⟨w.heap.size, 2, none⟩ = some (.int .i64 b) := hk.cell 2; have k3 : w1.cell? ⟨w.heap.size, 3, none⟩ = some (.int .i64 p) := hk.cell 3; have k4 : w1.cell? ⟨w.heap.size, 4, none⟩ = some (.int .i64 s) := hk.cell 4; have hltk := hk.lt
  have HG1 := Lib.hid hk
  have HB1 := Lib.hid (((Below.refl w.heap.size w).alloc (Nat.le_refl _) _).trans (hb.mono (by simp)))
  clear hb hk
  (go_wp2_with fail); refine (begun_any ⟨c, l, b, p, s⟩ a1 len1 cap1 w _ HW.out HL.out HB1.out).mono ?_
  intro e w2 hp
  by_cases hok : (⟨c, l, b, p, s⟩ : Geo).okB = true
  case neg =>
    have hok : (⟨c, l, b, p, s⟩ : Geo).okB = false := by simpa using hok
    have HOK := Lib.hid hok
    obtain ⟨hb, rfl⟩ := begun_no hp hok
    have HG2 := Lib.hid (HG1.out.below hb)
    have HB2 := Lib.hid (HB1.out.trans (hb.mono HB1.out.size))
    clear hp hb hok HG HG1
    clear k0 k1 k2 k3 k4 hltk
    have hk := HG2.out
    have k0 : w2.cell? ⟨w.heap.size, 0, none⟩ = some (.int .i64 c) := hk.cell 0; have k1 : w2.cell? ⟨w.heap.size, 1, none⟩ = some (.int .i64 l) := hk.cell 1; have k2 : w2.cell? ⟨w.heap.size, 2, none⟩ = some (.int .i64 b) := hk.cell 2; have k3 : w2.cell? ⟨w.heap.size, 3, none⟩ = some (.int .i64 p) := hk.cell 3; have k4 : w2.cell? ⟨w.heap.size, 4, none⟩ = some (.int .i64 s) := hk.cell 4
    have hltk := hk.lt
    clear hk
    (go_wp2_with fail); refine (ref03Right_any ⟨c, l, b, p, s⟩ _).mono ?_
    rintro e w3 ⟨rfl, hb⟩
    rw [HOK.out]
    have HB3 := Lib.hid (HB2.out.trans (hb.mono HB2.out.size))
    clear hb
    clear k0 k1 k2 k3 k4 hltk
    go_wp2_with fail
    go_ret
    exact ⟨rfl, HB3.out⟩
  obtain ⟨hb, d, F2, S, rfl, hn, hI, hoff, hpl, hF⟩ := begun_is hp hok
  have HOK := Lib.hid hok
  have HN2 := Lib.hid hn
  have HI := Lib.hid hI
  have HOFF := Lib.hid hoff
  have HPL := Lib.hid hpl
  have HF2 : Hid (∀ k, F2 k → w.heap.size < k) := fun k hk => by have := hF k hk; omega
  have HG2 := Lib.hid (HG1.out.below hb)
  have HB2 := Lib.hid (HB1.out.trans (hb.mono HB1.out.size))
  have HFX := Lib.hid (findIx_00 hok)
  clear hp hb hn hI hoff hpl hF hok HG HG1
  clear k0 k1 k2 k3 k4 hltk
  have hk := HG2.out
  have k0 : w2.cell? ⟨w.heap.size, 0, none⟩ = some (.int .i64 c) := hk.cell 0; have k1 : w2.cell? ⟨w.heap.size, 1, none⟩ = some (.int .i64 l) := hk.cell 1; have k2 : w2.cell? ⟨w.heap.size, 2, none⟩ = some (.int .i64 b) := hk.cell 2; have k3 : w2.cell? ⟨w.heap.size, 3, none⟩ = some (.int .i64 p) := hk.cell 3; have k4 : w2.cell? ⟨w.heap.size, 4, none⟩ = some (.int .i64 s) := hk.cell 4
  have hltk := hk.lt
  clear hk
  have hs4 := (Geo.ok_of HOK.out).s
  have hp32 := (Geo.ok_of HOK.out).p
  simp only at hs4 hp32
  (go_wp2_with fail); refine (nandNext_any HN2.out 0 0).mono ?_
  rintro e w3 ⟨rfl, hb⟩
  rw [HFX.out]
  simp only [nextO]
  have HN3 := Lib.hid (HN2.out.below hb)
  have HF3 := Lib.hid HF2.out
  have HG3 := Lib.hid (HG2.out.below hb)
  have HB3 := Lib.hid (HB2.out.trans (hb.mono HB2.out.size))
  clear hb
  obtain ⟨hn0, hn1⟩ := HI.out.nx 0
  simp only at hn1
  obtain ⟨n, hn⟩ : ∃ x, S.next 0 = x := ⟨_, rfl⟩
  have HNX := Lib.hid hn
  rw [hn] at hn0 hn1 ⊢
  clear hn
  clear k0 k1 k2 k3 k4 hltk
  have hk := HG3.out
  have k0 : w3.cell? ⟨w.heap.size, 0, none⟩ = some (.int .i64 c) := hk.cell 0; have k1 : w3.cell? ⟨w.heap.size, 1, none⟩ = some (.int .i64 l) := hk.cell 1; have k2 : w3.cell? ⟨w.heap.size, 2, none⟩ = some (.int .i64 b) := hk.cell 2; have k3 : w3.cell? ⟨w.heap.size, 3, none⟩ = some (.int .i64 p) := hk.cell 3; have k4 : w3.cell? ⟨w.heap.size, 4, none⟩ = some (.int .i64 s) := hk.cell 4
  have hltk := hk.lt
  clear hk
  by_cases hnp : p ≤ n
  · go_wp2_with fail
    go_ret
    exact ⟨rfl, HB3.out⟩
  (go_wp2_with fail); refine (nandRetired_any HN3.out 0 0).mono ?_
  rintro e w4 ⟨rfl, hb⟩
  rw [HFX.out]
  simp only [retO]
  have HN4 := Lib.hid (HN3.out.below hb)
  have HF4 := Lib.hid HF3.out
  have HG4 := Lib.hid (HG3.out.below hb)
  have HB4 := Lib.hid (HB3.out.trans (hb.mono HB3.out.size))
  clear hb
  obtain ⟨RT, hRT⟩ : ∃ x, S.ret 0 = x := ⟨_, rfl⟩
  have HRT := Lib.hid hRT
  rw [hRT]
  clear hRT
  clear k0 k1 k2 k3 k4 hltk
  have hk := HG4.out
  have k0 : w4.cell? ⟨w.heap.size, 0, none⟩ = some (.int .i64 c) := hk.cell 0; have k1 : w4.cell? ⟨w.heap.size, 1, none⟩ = some (.int .i64 l) := hk.cell 1; have k2 : w4.cell? ⟨w.heap.size, 2, none⟩ = some (.int .i64 b) := hk.cell 2; have k3 : w4.cell? ⟨w.heap.size, 3, none⟩ = some (.int .i64 p) := hk.cell 3; have k4 : w4.cell? ⟨w.heap.size, 4, none⟩ = some (.int .i64 s) := hk.cell 4
  have hltk := hk.lt
  clear hk
  cases RT with
  | true =>
    go_wp2_with fail
    go_ret
    exact ⟨rfl, HB4.out⟩
  | false =>
    have hqq := HQ.out
    have htm : q.tmod 4 = q % 4 := Int.tmod_eq_emod_of_nonneg hqq.1
    have hwr : IntKind.u8.wrap (q % 4) = q % 4 := by rw [IntKind.wrap_u8]; omega
    by_cases h4 : q % 4 = 2
    case neg =>
      have hne4 : (q % 4 != 2) = true := by simp [h4]
      clear h4
      go_wp2_with fail
      go_ret
      exact ⟨rfl, HB4.out⟩
    rw [h4] at htm
    clear hwr
    have HQ4 := Lib.hid h4
    obtain ⟨D, hD⟩ : ∃ D, secsD (min s 4).toNat 99 = D := ⟨_, rfl⟩
    obtain ⟨O, hO⟩ : ∃ D, secsO (min s 4).toNat 99 false = D := ⟨_, rfl⟩
    have hsa := secs_at (s := s) (m := 99) ⟨by omega, by omega⟩
    obtain ⟨S2, hS2, hof, hnx, hrd⟩ := tears_law HOK.out HI.out HOFF.out HRT.out h4 HNX.out hn0 (show n < p by omega) 99
    simp only at hS2 hrd
    rw [hD, hO] at hsa hS2
    have HSA := Lib.hid hsa
    have HS2 := Lib.hid hS2
    have HOF := Lib.hid hof
    have HNX2 := Lib.hid hnx
    have HRD := Lib.hid hrd
    have HSEC : Hid (∀ wy, Calls Try.prog 22 #[.agg #[.int .i64 c, .int .i64 l, .int .i64 b, .int .i64 p, .int .i64 s], .int .i64 99, .bool false] wy fun e w' => ∃ vd vo, e = .returned (.tuple #[vd, vo]) ∧ Sls w' (fun k => wy.heap.size ≤ k) vd D ∧ Sls w' (fun k => wy.heap.size ≤ k) vo O ∧ Below wy.heap.size wy w') := fun wy => by
      refine (sectors_any ⟨c, l, b, p, s⟩ 99 false wy).mono fun e w' hp => ?_
      obtain ⟨vd, vo, bs, cs, rfl, h1, h2, h3⟩ := hp
      refine ⟨vd, vo, rfl, ?_, ?_, h3⟩
      · have := h1.slsD.mono fun k _ hq => hq.1
        rwa [h2, hD] at this
      · have := h1.slsO.mono fun k _ hq => hq.1
        rwa [h2, hO] at this
    clear hsa hS2 hof hnx hrd hD hO
    obtain ⟨hne, a, hna, hal, hofp⟩ := adr_k HOK.out (n := n) ⟨hn0, show n < p by omega⟩ (k := 0) (show ((0 : Nat) : Int) < s by omega)
    have hna2 : Geo.numN ⟨c, l, b, p, s⟩ ⟨0, 0, n, 0⟩ = (a : Int) := by omega
    have HNUM : Hid (∀ wy, Calls Try.prog 46 #[.agg #[.int .i64 c, .int .i64 l, .int .i64 b, .int .i64 p, .int .i64 s], .agg #[.int .i64 0, .int .i64 0, .int .i64 n, .int .i64 0]] wy fun e w' => e = .returned (.tuple #[.int .i64 a, .int .i64 0]) ∧ Below wy.heap.size wy w') := fun wy => by
      have := geomNumber_any ⟨c, l, b, p, s⟩ ⟨0, 0, n, 0⟩ wy HW.out (place_wf ⟨by omega, by omega⟩)
      rwa [hne, hna2] at this
    have hrd := HRD.out
    rw [hna2] at hrd
    have HRDA := Lib.hid hrd
    have hall : (Geo.all ⟨c, l, b, p, s⟩) ≤ 65536 := by
      have hgo := Geo.ok_of HOK.out
      obtain ⟨m1, m2, m3, m4, m5', m6, m7, m8, m9, m10⟩ := geo_mul hgo.c.1 hgo.c.2 hgo.l.1 hgo.l.2 hgo.b.1 hgo.b.2 hgo.p.1 hgo.p.2 hgo.s.1 hgo.s.2
      exact m8
    have HA6 : Hid (True → (a : Int) < 65536) := fun _ => by omega
    clear hne hna hal hofp hna2 hrd hall HRD h4
    have hb : Below w4.heap.size w4 (w4.alloc (.cells #[.int .u8 q] 5)) := (Below.refl _ _).alloc (Nat.le_refl _) _
    have HN5 := Lib.hid (HN4.out.below hb)
    have HF5 := Lib.hid HF4.out
    have HG5 := Lib.hid (HG4.out.below hb)
    have HB5 := Lib.hid (HB4.out.trans (hb.mono HB4.out.size))
    have HSL : Hid (Sl (w4.alloc (.cells #[.int .u8 q] 5)) 0 (.slice (some ⟨w4.heap.size, 0, none⟩) 1 1) (bv [q])) := Lib.hid ((Blk.new w4 5 [.int .u8 q]).sl (Nat.zero_le _) (by simp))
    clear hb
    (go_wp2_with fail); refine (nandPlan_any HN5.out (.slice (some ⟨w4.heap.size, 0, none⟩) 1 1) [q] HSL.out (fun x hx => by rw [List.mem_singleton.1 hx]; exact HQ.out)).mono ?_
    intro e w6 hp
    obtain ⟨rfl, F6, hn, ho, hf⟩ := hp
    have HN6 := Lib.hid hn
    have HF6 : Hid (∀ k, F6 k → w.heap.size < k) := fun k hk => (hf k hk).elim (HF5.out k) fun q => by have := HG5.out.lt; omega
    have HG6 : Hid (Blk w6 w.heap.size 23 _) := Lib.hid ((ho.block w.heap.size HG5.out.lt (fun q => by have := HF5.out _ q; omega)).trans HG5.out)
    have HB6 := Lib.hid (HB5.out.trans (ho.toBelow (B := w.heap.size) (fun k hk => Nat.le_of_lt (HF5.out k hk)) HB5.out.size))
    clear hn ho hf
    clear k0 k1 k2 k3 k4 hltk
    have hk := HG6.out
    have k0 : w6.cell? ⟨w.heap.size, 0, none⟩ = some (.int .i64 c) := hk.cell 0; have k1 : w6.cell? ⟨w.heap.size, 1, none⟩ = some (.int .i64 l) := hk.cell 1; have k2 : w6.cell? ⟨w.heap.size, 2, none⟩ = some (.int .i64 b) := hk.cell 2; have k3 : w6.cell? ⟨w.heap.size, 3, none⟩ = some (.int .i64 p) := hk.cell 3; have k4 : w6.cell? ⟨w.heap.size, 4, none⟩ = some (.int .i64 s) := hk.cell 4
    have hltk := hk.lt
    clear hk
    (go_wp2_with fail); refine (HSEC.out _).mono ?_
    rintro e w7 ⟨vd, vo, rfl, hd, ho, hb⟩
    have HN7 := Lib.hid (HN6.out.below hb)
    have HF7 := Lib.hid HF6.out
    have HG7 := Lib.hid (HG6.out.below hb)
    have HB7 := Lib.hid (HB6.out.trans (hb.mono HB6.out.size))
    have hin := HN6.out.inF
    have HD7 : Hid (Sls w7 (Away F6 w7.heap.size) vd D) := Lib.hid (hd.mono fun k hk hq => ⟨fun hf => by have := hin k hf; have : w6.heap.size ≤ k := hq; omega, hk⟩)
    have HO7 : Hid (Sls w7 (Away F6 w7.heap.size) vo O) := Lib.hid (ho.mono fun k hk hq => ⟨fun hf => by have := hin k hf; have : w6.heap.size ≤ k := hq; omega, hk⟩)
    clear hd ho hb hin
    clear k0 k1 k2 k3 k4 hltk
    have hk := HG7.out
    have k0 : w7.cell? ⟨w.heap.size, 0, none⟩ = some (.int .i64 c) := hk.cell 0; have k1 : w7.cell? ⟨w.heap.size, 1, none⟩ = some (.int .i64 l) := hk.cell 1; have k2 : w7.cell? ⟨w.heap.size, 2, none⟩ = some (.int .i64 b) := hk.cell 2; have k3 : w7.cell? ⟨w.heap.size, 3, none⟩ = some (.int .i64 p) := hk.cell 3; have k4 : w7.cell? ⟨w.heap.size, 4, none⟩ = some (.int .i64 s) := hk.cell 4
    have hltk := hk.lt
    clear hk
    simp only []
    (go_wp2_with fail); refine (nandProgram_any HN7.out 0 0 n vd vo _ _ HD7.out HO7.out).mono ?_
    rw [HS2.out]
    intro e w8 hp
    obtain ⟨rfl, F8, hn, ho, hf⟩ := hp
    have HN8 := Lib.hid hn
    have HF8 : Hid (∀ k, F8 k → w.heap.size < k) := fun k hk => (hf k hk).elim (HF7.out k) fun q => by have := HG7.out.lt; omega
    have HG8 : Hid (Blk w8 w.heap.size 23 _) := Lib.hid ((ho.block w.heap.size HG7.out.lt (fun q => by have := HF7.out _ q; omega)).trans HG7.out)
    have HB8 := Lib.hid (HB7.out.trans (ho.toBelow (B := w.heap.size) (fun k hk => Nat.le_of_lt (HF7.out k hk)) HB7.out.size))
    have HD8 : Hid (Sls w8 (Away F8 w8.heap.size) _ _) := Lib.hid ((HD7.out.keep ho.size fun k hk ha => ho.block k hk ha.1).mono fun k hk hq => ⟨fun q => (hf k q).elim hq.1 fun q2 => by have := hq.2; omega, hk⟩)
    have HO8 : Hid (Sls w8 (Away F8 w8.heap.size) _ _) := Lib.hid ((HO7.out.keep ho.size fun k hk ha => ho.block k hk ha.1).mono fun k hk hq => ⟨fun q => (hf k q).elim hq.1 fun q2 => by have := hq.2; omega, hk⟩)
    clear hn ho hf
    clear k0 k1 k2 k3 k4 hltk
    have hk := HG8.out
    have k0 : w8.cell? ⟨w.heap.size, 0, none⟩ = some (.int .i64 c) := hk.cell 0; have k1 : w8.cell? ⟨w.heap.size, 1, none⟩ = some (.int .i64 l) := hk.cell 1; have k2 : w8.cell? ⟨w.heap.size, 2, none⟩ = some (.int .i64 b) := hk.cell 2; have k3 : w8.cell? ⟨w.heap.size, 3, none⟩ = some (.int .i64 p) := hk.cell 3; have k4 : w8.cell? ⟨w.heap.size, 4, none⟩ = some (.int .i64 s) := hk.cell 4
    have hltk := hk.lt
    clear hk
    simp only []
    (go_wp2_with fail); refine (HNUM.out _).mono ?_
    rintro e w9 ⟨rfl, hb⟩
    have HN9 := Lib.hid (HN8.out.below hb)
    have HF9 := Lib.hid HF8.out
    have HG9 := Lib.hid (HG8.out.below hb)
    have HB9 := Lib.hid (HB8.out.trans (hb.mono HB8.out.size))
    have HD9 : Hid (Sls w9 (Away F8 w9.heap.size) _ _) := Lib.hid ((HD8.out.below hb).mono fun k hk hq => ⟨hq.1, hk⟩)
    have HO9 : Hid (Sls w9 (Away F8 w9.heap.size) _ _) := Lib.hid ((HO8.out.below hb).mono fun k hk hq => ⟨hq.1, hk⟩)
    clear hb
    clear k0 k1 k2 k3 k4 hltk
    have hk := HG9.out
    have k0 : w9.cell? ⟨w.heap.size, 0, none⟩ = some (.int .i64 c) := hk.cell 0; have k1 : w9.cell? ⟨w.heap.size, 1, none⟩ = some (.int .i64 l) := hk.cell 1; have k2 : w9.cell? ⟨w.heap.size, 2, none⟩ = some (.int .i64 b) := hk.cell 2; have k3 : w9.cell? ⟨w.heap.size, 3, none⟩ = some (.int .i64 p) := hk.cell 3; have k4 : w9.cell? ⟨w.heap.size, 4, none⟩ = some (.int .i64 s) := hk.cell 4
    have hltk := hk.lt
    clear hk
    simp only []
    (go_wp2_with fail); refine (nandOff_any HN9.out).mono ?_
    rintro e w9' ⟨rfl, rfl⟩
    rw [HOF.out]
    (go_wp2_with fail); refine (nandRead_any HN9.out (a : Int)).mono ?_
    rw [off_read HOF.out]
    rintro e w10 ⟨va, vb, rfl, _, _, hb⟩
    have HN10 := Lib.hid (HN9.out.below hb)
    have HF10 := Lib.hid HF9.out
    have HG10 := Lib.hid (HG9.out.below hb)
    have HB10 := Lib.hid (HB9.out.trans (hb.mono HB9.out.size))
    have HD10 : Hid (Sls w10 (Away F8 w10.heap.size) _ _) := Lib.hid ((HD9.out.below hb).mono fun k hk hq => ⟨hq.1, hk⟩)
    have HO10 : Hid (Sls w10 (Away F8 w10.heap.size) _ _) := Lib.hid ((HO9.out.below hb).mono fun k hk hq => ⟨hq.1, hk⟩)
    clear hb
    clear k0 k1 k2 k3 k4 hltk
    have hk := HG10.out
    have k0 : w10.cell? ⟨w.heap.size, 0, none⟩ = some (.int .i64 c) := hk.cell 0; have k1 : w10.cell? ⟨w.heap.size, 1, none⟩ = some (.int .i64 l) := hk.cell 1; have k2 : w10.cell? ⟨w.heap.size, 2, none⟩ = some (.int .i64 b) := hk.cell 2; have k3 : w10.cell? ⟨w.heap.size, 3, none⟩ = some (.int .i64 p) := hk.cell 3; have k4 : w10.cell? ⟨w.heap.size, 4, none⟩ = some (.int .i64 s) := hk.cell 4
    have hltk := hk.lt
    clear hk
    simp only []
    (go_wp2_with fail); refine (nandErase_any HN10.out 0 0).mono ?_
    rw [off_erase HOF.out]
    intro e w11 hp
    obtain ⟨rfl, F11, hn, ho, hf⟩ := hp
    have HN11 := Lib.hid hn
    have HF11 : Hid (∀ k, F11 k → w.heap.size < k) := fun k hk => (hf k hk).elim (HF10.out k) fun q => by have := HG10.out.lt; omega
    have HG11 : Hid (Blk w11 w.heap.size 23 _) := Lib.hid ((ho.block w.heap.size HG10.out.lt (fun q => by have := HF10.out _ q; omega)).trans HG10.out)
    have HB11 := Lib.hid (HB10.out.trans (ho.toBelow (B := w.heap.size) (fun k hk => Nat.le_of_lt (HF10.out k hk)) HB10.out.size))
    have HD11 : Hid (Sls w11 (Away F11 w11.heap.size) _ _) := Lib.hid ((HD10.out.keep ho.size fun k hk ha => ho.block k hk ha.1).mono fun k hk hq => ⟨fun q => (hf k q).elim hq.1 fun q2 => by have := hq.2; omega, hk⟩)
    have HO11 : Hid (Sls w11 (Away F11 w11.heap.size) _ _) := Lib.hid ((HO10.out.keep ho.size fun k hk ha => ho.block k hk ha.1).mono fun k hk hq => ⟨fun q => (hf k q).elim hq.1 fun q2 => by have := hq.2; omega, hk⟩)
    clear hn ho hf
    clear k0 k1 k2 k3 k4 hltk
    have hk := HG11.out
    have k0 : w11.cell? ⟨w.heap.size, 0, none⟩ = some (.int .i64 c) := hk.cell 0; have k1 : w11.cell? ⟨w.heap.size, 1, none⟩ = some (.int .i64 l) := hk.cell 1; have k2 : w11.cell? ⟨w.heap.size, 2, none⟩ = some (.int .i64 b) := hk.cell 2; have k3 : w11.cell? ⟨w.heap.size, 3, none⟩ = some (.int .i64 p) := hk.cell 3; have k4 : w11.cell? ⟨w.heap.size, 4, none⟩ = some (.int .i64 s) := hk.cell 4
    have hltk := hk.lt
    clear hk
    simp only []
    (go_wp2_with fail); refine (nandRetire_any HN11.out 0 0).mono ?_
    rw [off_retire HOF.out]
    intro e w12 hp
    obtain ⟨rfl, F12, hn, ho, hf⟩ := hp
    have HN12 := Lib.hid hn
    have HF12 : Hid (∀ k, F12 k → w.heap.size < k) := fun k hk => (hf k hk).elim (HF11.out k) fun q => by have := HG11.out.lt; omega
    have HG12 : Hid (Blk w12 w.heap.size 23 _) := Lib.hid ((ho.block w.heap.size HG11.out.lt (fun q => by have := HF11.out _ q; omega)).trans HG11.out)
    have HB12 := Lib.hid (HB11.out.trans (ho.toBelow (B := w.heap.size) (fun k hk => Nat.le_of_lt (HF11.out k hk)) HB11.out.size))
    have HD12 : Hid (Sls w12 (Away F12 w12.heap.size) _ _) := Lib.hid ((HD11.out.keep ho.size fun k hk ha => ho.block k hk ha.1).mono fun k hk hq => ⟨fun q => (hf k q).elim hq.1 fun q2 => by have := hq.2; omega, hk⟩)
    have HO12 : Hid (Sls w12 (Away F12 w12.heap.size) _ _) := Lib.hid ((HO11.out.keep ho.size fun k hk ha => ho.block k hk ha.1).mono fun k hk hq => ⟨fun q => (hf k q).elim hq.1 fun q2 => by have := hq.2; omega, hk⟩)
    clear hn ho hf
    clear k0 k1 k2 k3 k4 hltk
    have hk := HG12.out
    have k0 : w12.cell? ⟨w.heap.size, 0, none⟩ = some (.int .i64 c) := hk.cell 0; have k1 : w12.cell? ⟨w.heap.size, 1, none⟩ = some (.int .i64 l) := hk.cell 1; have k2 : w12.cell? ⟨w.heap.size, 2, none⟩ = some (.int .i64 b) := hk.cell 2; have k3 : w12.cell? ⟨w.heap.size, 3, none⟩ = some (.int .i64 p) := hk.cell 3; have k4 : w12.cell? ⟨w.heap.size, 4, none⟩ = some (.int .i64 s) := hk.cell 4
    have hltk := hk.lt
    clear hk
    simp only []
    (go_wp2_with fail); refine (nandProgram_any HN12.out 0 0 n vd vo _ _ HD12.out HO12.out).mono ?_
    rw [off_prog HOF.out]
    intro e w13 hp
    obtain ⟨rfl, F13, hn, ho, hf⟩ := hp
    have HN13 := Lib.hid hn
    have HF13 : Hid (∀ k, F13 k → w.heap.size < k) := fun k hk => (hf k hk).elim (HF12.out k) fun q => by have := HG12.out.lt; omega
    have HG13 : Hid (Blk w13 w.heap.size 23 _) := Lib.hid ((ho.block w.heap.size HG12.out.lt (fun q => by have := HF12.out _ q; omega)).trans HG12.out)
    have HB13 := Lib.hid (HB12.out.trans (ho.toBelow (B := w.heap.size) (fun k hk => Nat.le_of_lt (HF12.out k hk)) HB12.out.size))
    have HD13 : Hid (Sls w13 (Away F13 w13.heap.size) _ _) := Lib.hid ((HD12.out.keep ho.size fun k hk ha => ho.block k hk ha.1).mono fun k hk hq => ⟨fun q => (hf k q).elim hq.1 fun q2 => by have := hq.2; omega, hk⟩)
    have HO13 : Hid (Sls w13 (Away F13 w13.heap.size) _ _) := Lib.hid ((HO12.out.keep ho.size fun k hk ha => ho.block k hk ha.1).mono fun k hk hq => ⟨fun q => (hf k q).elim hq.1 fun q2 => by have := hq.2; omega, hk⟩)
    clear hn ho hf
    clear k0 k1 k2 k3 k4 hltk
    have hk := HG13.out
    have k0 : w13.cell? ⟨w.heap.size, 0, none⟩ = some (.int .i64 c) := hk.cell 0; have k1 : w13.cell? ⟨w.heap.size, 1, none⟩ = some (.int .i64 l) := hk.cell 1; have k2 : w13.cell? ⟨w.heap.size, 2, none⟩ = some (.int .i64 b) := hk.cell 2; have k3 : w13.cell? ⟨w.heap.size, 3, none⟩ = some (.int .i64 p) := hk.cell 3; have k4 : w13.cell? ⟨w.heap.size, 4, none⟩ = some (.int .i64 s) := hk.cell 4
    have hltk := hk.lt
    clear hk
    have hwn : IntKind.i64.wrap (n + 1) = n + 1 := wrap_in _ ⟨by omega, by omega⟩
    simp only []
    (go_wp2_with fail); refine (nandNext_any HN13.out 0 0).mono ?_
    rintro e w14 ⟨rfl, hb⟩
    rw [HFX.out]
    simp only [nextO]
    rw [HNX2.out]
    have HN14 := Lib.hid (HN13.out.below hb)
    have HF14 := Lib.hid HF13.out
    have HG14 := Lib.hid (HG13.out.below hb)
    have HB14 := Lib.hid (HB13.out.trans (hb.mono HB13.out.size))
    have HD14 : Hid (Sls w14 (Away F13 w14.heap.size) _ _) := Lib.hid ((HD13.out.below hb).mono fun k hk hq => ⟨hq.1, hk⟩)
    have HO14 : Hid (Sls w14 (Away F13 w14.heap.size) _ _) := Lib.hid ((HO13.out.below hb).mono fun k hk hq => ⟨hq.1, hk⟩)
    clear hb
    clear k0 k1 k2 k3 k4 hltk
    have hk := HG14.out
    have k0 : w14.cell? ⟨w.heap.size, 0, none⟩ = some (.int .i64 c) := hk.cell 0; have k1 : w14.cell? ⟨w.heap.size, 1, none⟩ = some (.int .i64 l) := hk.cell 1; have k2 : w14.cell? ⟨w.heap.size, 2, none⟩ = some (.int .i64 b) := hk.cell 2; have k3 : w14.cell? ⟨w.heap.size, 3, none⟩ = some (.int .i64 p) := hk.cell 3; have k4 : w14.cell? ⟨w.heap.size, 4, none⟩ = some (.int .i64 s) := hk.cell 4
    have hltk := hk.lt
    clear hk
    (go_wp2_with fail); refine (nandPower_any HN14.out).mono ?_
    intro e w15 hp
    obtain ⟨rfl, F15, hn, ho, hf⟩ := hp
    have HN15 := Lib.hid hn
    have HF15 : Hid (∀ k, F15 k → w.heap.size < k) := fun k hk => (hf k hk).elim (HF14.out k) fun q => by have := HG14.out.lt; omega
    have HG15 : Hid (Blk w15 w.heap.size 23 _) := Lib.hid ((ho.block w.heap.size HG14.out.lt (fun q => by have := HF14.out _ q; omega)).trans HG14.out)
    have HB15 := Lib.hid (HB14.out.trans (ho.toBelow (B := w.heap.size) (fun k hk => Nat.le_of_lt (HF14.out k hk)) HB14.out.size))
    have HD15 : Hid (Sls w15 (Away F15 w15.heap.size) _ _) := Lib.hid ((HD14.out.keep ho.size fun k hk ha => ho.block k hk ha.1).mono fun k hk hq => ⟨fun q => (hf k q).elim hq.1 fun q2 => by have := hq.2; omega, hk⟩)
    have HO15 : Hid (Sls w15 (Away F15 w15.heap.size) _ _) := Lib.hid ((HO14.out.keep ho.size fun k hk ha => ho.block k hk ha.1).mono fun k hk hq => ⟨fun q => (hf k q).elim hq.1 fun q2 => by have := hq.2; omega, hk⟩)
    clear hn ho hf hwn
    clear k0 k1 k2 k3 k4 hltk
    have hk := HG15.out
    have k0 : w15.cell? ⟨w.heap.size, 0, none⟩ = some (.int .i64 c) := hk.cell 0; have k1 : w15.cell? ⟨w.heap.size, 1, none⟩ = some (.int .i64 l) := hk.cell 1; have k2 : w15.cell? ⟨w.heap.size, 2, none⟩ = some (.int .i64 b) := hk.cell 2; have k3 : w15.cell? ⟨w.heap.size, 3, none⟩ = some (.int .i64 p) := hk.cell 3; have k4 : w15.cell? ⟨w.heap.size, 4, none⟩ = some (.int .i64 s) := hk.cell 4
    have hltk := hk.lt
    clear hk
    obtain ⟨hq0, hq1⟩ := hqq
    have htd : q.tdiv 4 = q / 4 := Int.tdiv_eq_ediv_of_nonneg hq0
    have hb4 : 0 ≤ q / 4 := by omega
    have hw0 : IntKind.i64.wrap q = q := wrap_in _ ⟨by omega, by omega⟩
    have hw1 : IntKind.i64.wrap (q / 4) = q / 4 := wrap_in _ ⟨by omega, by omega⟩
    have hws : IntKind.i64.wrap (s + 1) = s + 1 := wrap_in _ ⟨by omega, by omega⟩
    have hs1 : ¬ (s + 1) = 0 := by omega
    have hs2 : ((s + 1) == 0) = false := beq_eq_false_iff_ne.2 hs1
    have htm2 : (q / 4).tmod (s + 1) = q / 4 % (s + 1) := Int.tmod_eq_emod_of_nonneg hb4
    have hm1 := Int.emod_nonneg (q / 4) hs1
    have hm2 := Int.emod_lt_of_pos (q / 4) (show (0 : Int) < s + 1 by omega)
    have hw2 : IntKind.i64.wrap (q / 4 % (s + 1)) = q / 4 % (s + 1) := wrap_in _ ⟨by omega, by omega⟩
    obtain ⟨KP, hKP⟩ : ∃ Z, q / 4 % (s + 1) = Z := ⟨_, rfl⟩
    have hrd := HRDA.out
    rw [hKP] at htm2 hw2 hrd hm1 hm2
    have HRDB := Lib.hid hrd
    obtain ⟨Y, hY⟩ : ∃ Y, q / 4 = Y := ⟨_, rfl⟩
    rw [hY] at htd hw1 htm2
    obtain ⟨X, hX⟩ : ∃ X, s + 1 = X := ⟨_, rfl⟩
    have hws2 : IntKind.i64.wrap (s + 1) = X := by rw [hws, hX]
    rw [hX] at hs1 hs2 htm2
    clear hws hrd hX hY hKP HRDA hb4
    have hvd := HD15.out
    have hvo := HO15.out
    obtain ⟨ad, cd, rfl, _, _, _⟩ := hvd
    obtain ⟨ao, co, rfl, _, _, _⟩ := hvo
    go_wp2_with fail
    clear htd hw0 hw1 hws2 hs1 hs2 htm2 hw2
    go_loopw [23] (fun t wr => ∃ k : Nat, (k : Int) ≤ s ∧ t = .int .i64 k ∧ Hid (NandAt wr F15 d ⟨c, l, b, p, s⟩ { S2 with off := false }) ∧ Hid (Sls wr (Away F15 wr.heap.size) (.slice ad D.length cd) D) ∧ Hid (Sls wr (Away F15 wr.heap.size) (.slice ao O.length co) O) ∧ Hid (Blk wr w.heap.size 23 [.int .i64 c, .int .i64 l, .int .i64 b, .int .i64 p, .int .i64 s]) ∧ Hid (Below w.heap.size w wr)) (fun t _ => (s - intOf t).toNat)
    case atStart => exact ⟨0, by omega, rfl, HN15.out, HD15.out, HO15.out, HG15.out, HB15.out⟩
    case round =>
      obtain ⟨k, hk, rfl, HN16, HD16, HO16, HG16, HB16⟩ := hrel
      clear HN15 HD15 HO15 HG15 HB15
      clear k0 k1 k2 k3 k4 hltk
      have hk16 := HG16.out
      have k0 : wr.cell? ⟨w.heap.size, 0, none⟩ = some (.int .i64 c) := hk16.cell 0; have k1 : wr.cell? ⟨w.heap.size, 1, none⟩ = some (.int .i64 l) := hk16.cell 1; have k2 : wr.cell? ⟨w.heap.size, 2, none⟩ = some (.int .i64 b) := hk16.cell 2; have k3 : wr.cell? ⟨w.heap.size, 3, none⟩ = some (.int .i64 p) := hk16.cell 3; have k4 : wr.cell? ⟨w.heap.size, 4, none⟩ = some (.int .i64 s) := hk16.cell 4
      have hltk := hk16.lt
      clear hk16
      by_cases hlt : (k : Int) < s
      · have hwk : IntKind.i64.wrap ((a : Int) + k) = (a : Int) + k := wrap_in _ ⟨by omega, by have := HA6.out trivial; omega⟩
        have hrd := HRDB.out k hlt
        have hxs := HSA.out.2.2.1 k hlt
        have hys := HSA.out.2.2.2 k hlt
        obtain ⟨hdl, hol, _, _⟩ := HSA.out
        have hk0 : (0 : Int) ≤ k := by omega
        by_cases hkk : (k : Int) < KP
        · rw [if_pos hkk] at hrd
          have HRDK := Lib.hid hrd
          clear hrd
          (go_wp2_with fail); refine (nandRead_any HN16.out ((a : Int) + k)).mono ?_
          intro e w17 hp
          rw [HRDK.out] at hp
          obtain ⟨va2, vb2, rfl, oa, ob, hb⟩ := hp
          have HN17 := Lib.hid (HN16.out.below hb)
          have HG17 := Lib.hid (HG16.out.below hb)
          have HB17 := Lib.hid (HB16.out.trans (hb.mono HB16.out.size))
          have HD17 : Hid (Sls w17 (Away F15 w17.heap.size) _ _) := Lib.hid ((HD16.out.below hb).mono fun k hk hq => ⟨hq.1, hk⟩)
          have HO17 : Hid (Sls w17 (Away F15 w17.heap.size) _ _) := Lib.hid ((HO16.out.below hb).mono fun k hk hq => ⟨hq.1, hk⟩)
          rw [secD_length] at oa
          rw [secO_length] at ob
          obtain ⟨ga, ca, rfl⟩ := own_form oa (by decide)
          obtain ⟨gb, cb, rfl⟩ := own_form ob (by decide)
          obtain ⟨gx, ox, uxa, uxc, rfl, hgx, hcx, hsx⟩ := HD17.out.get hxs
          obtain ⟨gy, oy, uya, uyc, rfl, hgy, hcy, hsy⟩ := HO17.out.get hys
          have hsx1 := hsx.sl
          have hsy1 := hsy.sl
          rw [secD_length] at hcx hsx1
          rw [secO_length] at hcy hsy1
          obtain ⟨SD, hSD⟩ : ∃ x, strOfNums (secD 99 k) = x := ⟨_, rfl⟩
          obtain ⟨SO, hSO⟩ : ∃ x, strOfNums (secO 99 k) = x := ⟨_, rfl⟩
          have hdw : ∀ {wz : World}, Since w17.drew wz → Below w17.heap.size w17 wz := fun hz => (Below.refl _ _).drew.trans hz.below
          have hq1' : ∀ wz, Since w17.drew wz → (convert 45 9 (.slice (some ⟨ga, 0, none⟩) 16 ca)).run Try.prog wz = .ok (.string SD) wz := fun wz hz => by rw [← hSD]; exact own_str (P := Try.prog) Try.underlying45 Try.underlying5 Try.underlying9 (own_below oa (hdw hz)) (by decide)
          have hq2' : ∀ wz, Since w17.drew wz → (convert 45 9 (.slice (some ⟨gb, 0, none⟩) 17 cb)).run Try.prog wz = .ok (.string SO) wz := fun wz hz => by rw [← hSO]; exact own_str (P := Try.prog) Try.underlying45 Try.underlying5 Try.underlying9 (own_below ob (hdw hz)) (by decide)
          have hq3' : ∀ wz, Since w17.drew wz → (convert 45 9 (.slice uxa 16 uxc)).run Try.prog wz = .ok (.string SD) wz := fun wz hz => by rw [← hSD]; exact run_str_sl (P := Try.prog) 45 9 5 Try.underlying45 Try.underlying5 Try.underlying9 (hsx1.below (hdw hz))
          have hq4' : ∀ wz, Since w17.drew wz → (convert 45 9 (.slice uya 17 uyc)).run Try.prog wz = .ok (.string SO) wz := fun wz hz => by rw [← hSO]; exact run_str_sl (P := Try.prog) 45 9 5 Try.underlying45 Try.underlying5 Try.underlying9 (hsy1.below (hdw hz))
          clear hdw hSD hSO hsx1 hsy1 hsx hsy oa ob hxs hys hb
          simp only []
          go_wp2_with fail
          refine wp_region_b 29 (by kernel_rfl) (by kernel_rfl) ?_
          simp only [List.take_succ_cons, List.take_zero, List.drop_succ_cons, List.drop_zero]
          repeat (first
            | (refine SeqC.run (v := ?_) ?_ (fun wz hz => ?_) ?_; rotate_left; (· rfl); (· have hzc := hz.cell; have hzf := hz.frozen; go_simp; first | exact UponS.value hz | exact UponS.skip hz | (refine UponS.call ?_; fail)); (try simp only [Act.put, List.setIfInBounds_toArray, List.set_cons_zero, List.set_cons_succ]))
            | (refine SeqC.skip ?_ ?_; (· rfl); (try simp only [Act.put, List.setIfInBounds_toArray, List.set_cons_zero, List.set_cons_succ])))
          refine fun wz hz => ?_
          have hbz : Below w17.heap.size w17 wz := (Below.refl _ _).drew.trans hz.below
          have HN18 := Lib.hid (HN17.out.below hbz)
          have HG18 := Lib.hid (HG17.out.below hbz)
          have HB18 := Lib.hid (HB17.out.trans (hbz.mono HB17.out.size))
          have HD18 : Hid (Sls wz (Away F15 wz.heap.size) _ _) := Lib.hid ((HD17.out.below hbz).mono fun k hk hq => ⟨hq.1, hk⟩)
          have HO18 : Hid (Sls wz (Away F15 wz.heap.size) _ _) := Lib.hid ((HO17.out.below hbz).mono fun k hk hq => ⟨hq.1, hk⟩)
          clear hz hbz hq1' hq2' hq3' hq4' hcx hcy
          go_wp2_with fail
          go_roundw
          case rel => exact ⟨k + 1, by omega, by go_num, HN18.out, HD18.out, HO18.out, HG18.out, HB18.out⟩
          case measure => simp [intOf]; omega
        · rw [if_neg hkk] at hrd
          have hkb : decide ((k : Int) < KP) = false := decide_eq_false hkk
          have hkl : KP ≤ (k : Int) := by omega
          have HRDK := Lib.hid hrd
          clear hrd
          (go_wp2_with fail); refine (nandRead_any HN16.out ((a : Int) + k)).mono ?_
          intro e w17 hp
          rw [HRDK.out] at hp
          obtain ⟨va2, vb2, rfl, oa, ob, hb⟩ := hp
          have HN17 := Lib.hid (HN16.out.below hb)
          have HG17 := Lib.hid (HG16.out.below hb)
          have HB17 := Lib.hid (HB16.out.trans (hb.mono HB16.out.size))
          have HD17 : Hid (Sls w17 (Away F15 w17.heap.size) _ _) := Lib.hid ((HD16.out.below hb).mono fun k hk hq => ⟨hq.1, hk⟩)
          have HO17 : Hid (Sls w17 (Away F15 w17.heap.size) _ _) := Lib.hid ((HO16.out.below hb).mono fun k hk hq => ⟨hq.1, hk⟩)
          clear hb oa ob hxs hys
          simp only []
          go_wp2_with fail
          refine wp_region_b 29 (by kernel_rfl) (by kernel_rfl) ?_
          simp only [List.take_succ_cons, List.take_zero, List.drop_succ_cons, List.drop_zero]
          repeat (first
            | (refine SeqC.run (v := ?_) ?_ (fun wz hz => ?_) ?_; rotate_left; (· rfl); (· have hzc := hz.cell; have hzf := hz.frozen; go_simp; first | exact UponS.value hz | exact UponS.skip hz | (refine UponS.call ?_; fail)); (try simp only [Act.put, List.setIfInBounds_toArray, List.set_cons_zero, List.set_cons_succ]))
            | (refine SeqC.skip ?_ ?_; (· rfl); (try simp only [Act.put, List.setIfInBounds_toArray, List.set_cons_zero, List.set_cons_succ])))
          refine fun wz hz => ?_
          have hbz : Below w17.heap.size w17 wz := (Below.refl _ _).drew.trans hz.below
          have HN18 := Lib.hid (HN17.out.below hbz)
          have HG18 := Lib.hid (HG17.out.below hbz)
          have HB18 := Lib.hid (HB17.out.trans (hbz.mono HB17.out.size))
          have HD18 : Hid (Sls wz (Away F15 wz.heap.size) _ _) := Lib.hid ((HD17.out.below hbz).mono fun k hk hq => ⟨hq.1, hk⟩)
          have HO18 : Hid (Sls wz (Away F15 wz.heap.size) _ _) := Lib.hid ((HO17.out.below hbz).mono fun k hk hq => ⟨hq.1, hk⟩)
          clear hz hbz
          go_wp2_with fail
          go_roundw
          case rel => exact ⟨k + 1, by omega, by go_num, HN18.out, HD18.out, HO18.out, HG18.out, HB18.out⟩
          case measure => simp [intOf]; omega
      · go_wp2_with fail
        go_ret
        exact ⟨rfl, HB16.out⟩

end Go.Proofs.Ytlkapaecaeldpaa
