/-
  Package l2p: Bits, with each and its function.
-/
import Derived.Test.YtlkapaecaeldpaaL2pZ
import Derived.Test.YtlkapaecaeldpaaLaw04
import Derived.Test.YtlkapaecaeldpaaBits2
import Derived.Test.YtlkapaecaeldpaaBits3
set_option linter.unusedVariables false
set_option linter.unusedSimpArgs false
set_option maxRecDepth 16384
namespace Go.Proofs.Ytlkapaecaeldpaa
open Go.RowKit

/-- the bitmap of a line's first so many addresses -/
def bitsF (line : Int) (to : List Ent) (l : Int) : Nat → List Int
  | 0 => List.replicate (makeN line) 0
  | j + 1 => if whoIx to (l * line + j) ≠ 0 then setL (bitsF line to l j) j true else bitsF line to l j

theorem bitsF_length (line : Int) (to : List Ent) (l : Int) : ∀ j, (bitsF line to l j).length = makeN line
  | 0 => by simp [bitsF]
  | j + 1 => by
    rw [bitsF]
    split
    · rw [setL_length, bitsF_length line to l j]
    · exact bitsF_length line to l j
theorem bitsF_isB (line : Int) (to : List Ent) (l : Int) : ∀ j, ∀ x ∈ bitsF line to l j, IsB x
  | 0 => by
    intro x hx
    rw [bitsF, List.mem_replicate] at hx
    rw [hx.2]
    exact ⟨by decide, by decide⟩
  | j + 1 => by
    rw [bitsF]
    split
    · exact setL_isB (bitsF_isB line to l j) _ _
    · exact bitsF_isB line to l j

set_option maxHeartbeats 1000000 in
theorem mapBits1_any (i : Int) (is : Bool) (p B0 n : Nat) (v : Value) (xs : List Int) (w : World) (hp : Blk w p 45 [v]) (ho : w.ownsRow B0 5 1 v n (bv xs)) (hpo : v.ownBlock ≠ some p) (hB : B0 ≤ p) (hb : ∀ x ∈ xs, IsB x) (hn : xs.length = n) (hn9 : n ≤ 1024) (hi : 0 ≤ i ∧ i / 8 < n) :
    Calls Try.prog 93 #[.int .i64 i, .bool is, .pointer (some ⟨p, 0, none⟩)] w (Po fun e w' => e = .returned (.tuple #[]) ∧ ∃ v', Blk w' p 45 [v'] ∧ w'.ownsRow B0 5 1 v' n (bv (if is = true then setL xs i true else xs)) ∧ v'.ownBlock ≠ some p ∧ Below B0 w w') := by
  have h1 : w.cell? ⟨p, 0, none⟩ = some v := by rw [hp.cell]; rfl
  have h1f := hp.free 0
  have hlt := hp.lt
  subst hn
  have HS := Lib.hid (Sl.of_own ho (by rw [bv_length]; omega))
  have HP := Lib.hid hp
  have HO := Lib.hid ho
  have HB := Lib.hid hb
  have HI := Lib.hid hi
  have hpo' := Lib.hid hpo
  clear hp ho hb hpo
  cases is with
  | false =>
    go_enter Try.func93, Try.ntmps93
    go_wp2
    go_end0
    exact Po.mk ⟨rfl, v, HP.out, by simpa using HO.out, hpo'.out, Below.refl _ _⟩
  | true =>
    go_enter Try.func93, Try.ntmps93
    (go_wp2_with fail); refine (bitsSet_yes v xs i true _ (Sl.mono HS.out (Nat.zero_le _)) HB.out ⟨by omega, by omega⟩ ⟨HI.out.1, HI.out.2⟩).mono ?_
    rintro e w1 ⟨g, rfl, hg, hk, hb1⟩
    have hp1 := HP.out.below hb1
    have HP1 := Lib.hid hp1
    have h2 : w1.cell? ⟨p, 0, none⟩ = some v := by rw [hp1.cell]; rfl
    have h2f := hp1.free 0
    have HK := Lib.hid hk
    have HB1 := Lib.hid hb1
    have hgp : g ≠ p := by omega
    clear hp1 hk hb1
    go_wp2
    go_end0
    refine Po.mk ⟨rfl, _, HP1.out.set 0 _, ?_, ?_, (HB1.out.mono (by omega)).setCell hB _⟩
    · have h3 := (HK.out.set_other (a := ⟨p, 0, none⟩) hgp (.slice (some ⟨g, 0, none⟩) xs.length xs.length)).own (B := B0) (by omega) (by rw [bv_length, setL_length]; unfold maxLen; omega)
      rw [bv_length, setL_length] at h3
      simpa using h3
    · intro e
      simp only [Value.ownBlock, Option.some.injEq] at e
      exact hgp e

set_option maxHeartbeats 2000000 in
theorem mapEach_any {B C m : Nat} {g : Geo} {to : List Ent} {kt kw vb : Nat} {st sw : Shards} (l : Int) (p B0 : Nat) (v : Value) (w : World) (HM : MapAt w B C m g to kt kw vb st sw) (hl : 0 ≤ l ∧ l < g.blocks) (hp : Blk w p 45 [v]) (ho : w.ownsRow B0 5 1 v (makeN g.line) (bv (bitsF g.line to l 0))) (hpo : v.ownBlock ≠ some p) (hB : B0 ≤ p) (hC : C ≤ B0) :
    Calls Try.prog 92 #[.pointer (some ⟨m, 0, none⟩), .int .i64 l, .func (Fn.func 93) #[] #[.pointer (some ⟨p, 0, none⟩)]] w (Po fun e w' => e = .returned (.tuple #[]) ∧ (∃ v', Blk w' p 45 [v'] ∧ w'.ownsRow B0 5 1 v' (makeN g.line) (bv (bitsF g.line to l g.line.toNat))) ∧ Below B0 w w') := by
  have hok := HM.ok
  have hgo := Geo.ok_of hok
  have hbl : g.blocks ≤ 64 := hgo.b.2
  obtain ⟨m1, m2, m3, m4, m5, m6, m7, m8, m9, m10⟩ := geo_mul hgo.c.1 hgo.c.2 hgo.l.1 hgo.l.2 hgo.b.1 hgo.b.2 hgo.p.1 hgo.p.2 hgo.s.1 hgo.s.2
  obtain ⟨L, hL⟩ : ∃ L : Nat, g.line = L := ⟨g.line.toNat, by unfold Geo.line; omega⟩
  have hL1 : 1 ≤ L ∧ L ≤ 1024 := by have : g.line = g.chans * g.luns * g.pages * g.sectors := rfl; omega
  have hmk : makeN g.line = (L + 7) / 8 := by rw [hL]; unfold makeN; rw [if_pos (by omega)]; omega
  have HMK := Lib.hid hmk
  have HLN : Hid (∀ wy, Calls Try.prog 40 #[g.v] wy fun e w' => e = .returned (.int .i64 L) ∧ Below wy.heap.size wy w') := by
    intro wy
    have := geomLine_ok g hok wy
    rwa [hL] at this
  have HMM := Lib.hid HM
  have HP := Lib.hid hp
  have HO := Lib.hid ho
  have HPO := Lib.hid hpo
  have hlive : Hid (∀ (j : Nat), j < L → liveB g to (l * L + j) = decide (whoIx to (l * L + j) ≠ 0)) := fun j hj => by
    have h1 : 0 ≤ l * (L : Int) := Int.mul_nonneg hl.1 (by omega)
    have h2 : l * (L : Int) + L ≤ g.all := by
      rw [Geo.all_eq, hL]
      have : (l + 1) * (L : Int) ≤ g.blocks * L := Int.mul_le_mul_of_nonneg_right (by omega) (by omega)
      rw [Int.add_mul] at this
      rw [Int.mul_comm (L : Int)]
      omega
    unfold liveB
    rw [decide_eq_decide]
    exact ⟨fun h => h.2, fun h => ⟨⟨by omega, by omega⟩, h⟩⟩
  have HLEN := Lib.hid (bitsF_length g.line to l)
  have HISB := Lib.hid (bitsF_isB g.line to l)
  have hlL : 0 ≤ l * (L : Int) ∧ l * (L : Int) ≤ 65536 := by
    refine ⟨Int.mul_nonneg hl.1 (by omega), ?_⟩
    have : l * (L : Int) ≤ 64 * 1024 := Int.mul_le_mul (by omega) (by omega) (by omega) (by omega)
    omega
  have HNX : Hid (∀ j : Nat, bitsF g.line to l (j + 1) = if (decide (whoIx to (l * L + j) ≠ 0)) = true then setL (bitsF g.line to l j) j true else bitsF g.line to l j) := fun j => by
    rw [bitsF, hL]
    simp only [decide_eq_true_eq]
  have hR := HM.raw
  obtain ⟨M, hM⟩ : ∃ M, makeN g.line = M := ⟨_, rfl⟩
  rw [hM] at HO ⊢
  have hM8 : M = (L + 7) / 8 := by rw [← hM]; exact hmk
  have HTL : Hid (g.line.toNat = L) := by show g.line.toNat = L; rw [hL]; rfl
  obtain ⟨F, hF⟩ : ∃ F, F = bitsF g.line to l := ⟨_, rfl⟩
  rw [← hF] at HLEN HISB HNX HO ⊢
  rw [hM] at HLEN
  rw [HTL.out]
  clear HM hp ho hpo hmk hF hM hgo
  obtain ⟨c, l', b, pp, s⟩ := g
  obtain ⟨bl, rfl⟩ : ∃ bl : Nat, b = bl := ⟨b.toNat, by simp only at hl; omega⟩
  have n0 : w.cell? ⟨m, 0, none⟩ = some (.int .i64 c) := hR.blk.cell 0
  have n1 : w.cell? ⟨m, 1, none⟩ = some (.int .i64 l') := hR.blk.cell 1
  have n2 : w.cell? ⟨m, 2, none⟩ = some (.int .i64 bl) := hR.blk.cell 2
  have n3 : w.cell? ⟨m, 3, none⟩ = some (.int .i64 pp) := hR.blk.cell 3
  have n4 : w.cell? ⟨m, 4, none⟩ = some (.int .i64 s) := hR.blk.cell 4
  have hBs := hR.top
  unfold Geo.v at HLN
  clear hR hL m1 m2 m3 m4 m5 m6 m7 m8 m9 m10
  go_enter Try.func92, Try.ntmps92
  (go_wp2_with fail); refine (HLN.out _).mono ?_
  rintro e w1 ⟨rfl, hb⟩
  have HM1 := Lib.hid (HMM.out.below hb)
  have HP1 := Lib.hid (HP.out.below hb)
  have HO1 := Lib.hid (own_below HO.out hb)
  have hBw : B0 ≤ w.heap.size := Nat.le_of_lt (Nat.lt_of_le_of_lt hB HP.out.lt)
  have HB1 := Lib.hid (hb.mono hBw)
  clear hb
  go_wp2_with fail
  go_loopw [16] (fun t wr => ∃ j : Nat, j ≤ L ∧ t = .int .i64 j ∧ Hid (MapAt wr B C m ⟨c, l', bl, pp, s⟩ to kt kw vb st sw) ∧ Hid (∃ u, Blk wr p 45 [u] ∧ wr.ownsRow B0 5 1 u M (bv (F j)) ∧ u.ownBlock ≠ some p) ∧ Hid (Below B0 w wr)) (fun t _ => ((L : Int) - intOf t).toNat)
  case atStart => exact ⟨0, Nat.zero_le _, rfl, HM1.out, ⟨v, HP1.out, HO1.out, HPO.out⟩, HB1.out⟩
  case round =>
    obtain ⟨j, hj, rfl, HMr, HU, HBr⟩ := hrel
    obtain ⟨u, hu1, hu2, hu3⟩ := HU.out
    have HU1 := Lib.hid hu1
    have HU2 := Lib.hid hu2
    have HU3 := Lib.hid hu3
    clear hu1 hu2 hu3 HU
    by_cases hlt : j < L
    · obtain ⟨K, hK⟩ : ∃ K, l * (L : Int) = K := ⟨_, rfl⟩
      have HLV := hlive.out j hlt
      have HNJ := HNX.out j
      rw [hK] at HLV HNJ hlL
      have hw1 : IntKind.i64.wrap (l * (L : Int)) = K := by rw [hK]; exact wrap_in _ ⟨by omega, by omega⟩
      have hw2 : IntKind.i64.wrap (K + (j : Int)) = K + j := wrap_in _ ⟨by omega, by omega⟩
      obtain ⟨D, hD⟩ : ∃ D, decide (whoIx to (K + j) ≠ 0) = D := ⟨_, rfl⟩
      rw [hD] at HLV HNJ
      have HNJ2 := Lib.hid HNJ
      have HLV2 := Lib.hid HLV
      clear HLV HNJ hD hK
      (go_wp2_with fail); refine (mapLive_any HMr.out (K + j)).mono ?_
      rintro e w2 ⟨rfl, hb⟩
      rw [HLV2.out]
      generalize liveN _ _ (K + (j : Int)) = ln
      have HM2 := Lib.hid (HMr.out.below hb)
      have HP2 := Lib.hid (HU1.out.below hb)
      have HO2 := Lib.hid (own_below HU2.out hb)
      have hBr : B0 ≤ wr.heap.size := Nat.le_trans hBw HBr.out.size
      have HB2 := Lib.hid (HBr.out.trans (hb.mono hBr))
      clear hb
      (go_wp2_with fail); refine (mapBits1_any j D p B0 M u (F j) w2 HP2.out HO2.out HU3.out hB (HISB.out j) (HLEN.out j) (by omega) ⟨by omega, by omega⟩).mono ?_
      rintro e w3 ⟨rfl, u2, hp2, ho2, hne, hb2⟩
      rw [← HNJ2.out] at ho2
      have HM3 := Lib.hid (HM2.out.only (B' := C) (C' := w2.heap.size + w3.heap.size) ⟨hb2.os, hb2.tape, hb2.output, hb2.size, fun k hk hc => hb2.block k (by omega)⟩ (.inl (Nat.le_refl _)))
      have HU4 : Hid (∃ u, Blk w3 p 45 [u] ∧ w3.ownsRow B0 5 1 u M (bv (F (j + 1))) ∧ u.ownBlock ≠ some p) := ⟨u2, hp2, ho2, hne⟩
      have HB3 := Lib.hid (HB2.out.trans hb2)
      clear hp2 ho2 hne hb2
      go_wp2_with fail
      go_roundw
      case rel => exact ⟨j + 1, by omega, by go_num, HM3.out, HU4.out, HB3.out⟩
      case measure => simp [intOf]; omega
    · obtain rfl : j = L := by omega
      go_wp2_with fail
      go_end0
      exact Po.mk ⟨rfl, ⟨u, HU1.out, HU2.out⟩, HBr.out⟩

set_option maxHeartbeats 1000000 in
theorem mapBits_any {w : World} {B C m : Nat} {g : Geo} {to : List Ent} {kt kw vb : Nat} {st sw : Shards} (HM : MapAt w B C m g to kt kw vb st sw) (l : Int) (hl : 0 ≤ l ∧ l < g.blocks) :
    Calls Try.prog 39 #[.pointer (some ⟨m, 0, none⟩), .int .i64 l] w (Po fun e w' => ∃ v, e = .returned v ∧ w'.ownsRow w.heap.size 5 1 v (makeN g.line) (bv (bitsF g.line to l g.line.toNat)) ∧ Below w.heap.size w w') := by
  have hok := HM.ok
  have hgo := Geo.ok_of hok
  obtain ⟨m1, m2, m3, m4, m5, m6, m7, m8, m9, m10⟩ := geo_mul hgo.c.1 hgo.c.2 hgo.l.1 hgo.l.2 hgo.b.1 hgo.b.2 hgo.p.1 hgo.p.2 hgo.s.1 hgo.s.2
  have hL1 : 1 ≤ g.line ∧ g.line ≤ 1024 := by have : g.line = g.chans * g.luns * g.pages * g.sectors := rfl; omega
  have hmk : 1 ≤ makeN g.line ∧ makeN g.line ≤ 1024 := by unfold makeN; rw [if_pos (by omega)]; omega
  have HLN : Hid (∀ wy, Calls Try.prog 40 #[g.v] wy fun e w' => e = .returned (.int .i64 g.line) ∧ Below wy.heap.size wy w') := fun wy => geomLine_ok g hok wy
  have HMM := Lib.hid HM
  have HLL := Lib.hid hl
  have HEACH := Lib.hid (fun (p : Nat) (v : Value) (wy : World) (hm : MapAt wy B C m g to kt kw vb st sw) hp ho hpo hB => mapEach_any (B := B) (C := C) l p w.heap.size v wy hm hl hp ho hpo hB HM.raw.top)
  have HF0 : Hid (bitsF g.line to l 0 = List.replicate (makeN g.line) 0) := rfl
  obtain ⟨LN, hLN⟩ : ∃ LN, g.line = LN := ⟨_, rfl⟩
  have hbl := hgo.b
  have hR := HM.raw
  obtain ⟨FE, hFE⟩ : ∃ F, bitsF g.line to l g.line.toNat = F := ⟨_, rfl⟩
  rw [hFE] at HEACH ⊢
  obtain ⟨F0, hF0⟩ : ∃ F, bitsF g.line to l 0 = F := ⟨_, rfl⟩
  rw [hF0] at HEACH HF0
  rw [hLN] at HLN HF0 HEACH hmk hL1 ⊢
  clear HM hFE hF0 hLN m1 m2 m3 m4 m5 m6 m7 m8 m9 m10 hok hgo
  obtain ⟨c, l', b, pp, s⟩ := g
  simp only at hbl hl
  obtain ⟨bl, rfl⟩ : ∃ bl : Nat, b = bl := ⟨b.toNat, by omega⟩
  have n0 : w.cell? ⟨m, 0, none⟩ = some (.int .i64 c) := hR.blk.cell 0
  have n1 : w.cell? ⟨m, 1, none⟩ = some (.int .i64 l') := hR.blk.cell 1
  have n2 : w.cell? ⟨m, 2, none⟩ = some (.int .i64 bl) := hR.blk.cell 2
  have n3 : w.cell? ⟨m, 3, none⟩ = some (.int .i64 pp) := hR.blk.cell 3
  have n4 : w.cell? ⟨m, 4, none⟩ = some (.int .i64 s) := hR.blk.cell 4
  unfold Geo.v at HLN
  clear hR
  obtain ⟨hl0, hl1⟩ := hl
  go_enter Try.func39, Try.ntmps39
  (go_wp2_with fail); refine (HLN.out _).mono ?_
  rintro e w1 ⟨rfl, hb⟩
  have HM1 := Lib.hid (HMM.out.below hb)
  have HB1 := Lib.hid hb
  clear hb
  (go_wp2_with fail); refine (bitsMake_any LN _ ⟨by omega, by omega⟩).mono ?_
  rintro e w2 ⟨v, rfl, hv⟩
  rcases hv with ⟨_, h0, _⟩ | ⟨rfl, rfl⟩
  · omega
  · have hb1 := HB1.out.size
    have hbm : Below w1.heap.size w1 (w1.alloc (.cells (Array.replicate (makeN LN) (.int .u8 0)) 5)) := (Below.refl w1.heap.size w1).alloc (Nat.le_refl _) _
    have hk : (w1.alloc (.cells (Array.replicate (makeN LN) (.int .u8 0)) 5)).ownsRow w.heap.size 5 1 (.slice (some ⟨w1.heap.size, 0, none⟩) (makeN LN) (makeN LN)) (makeN LN) (bv F0) := by
      have := World.ownsRow_lit (base := w.heap.size) (e := 5) (size := 1) w1 (Array.replicate (makeN LN) (.int .u8 0)) (makeN LN) hb1 (by unfold maxLen; omega) (by simp)
      rw [show bv F0 = (Array.replicate (makeN LN) (Value.int .u8 0)).toList by rw [HF0.out]; simp [bv]]
      exact this
    have HM2 := Lib.hid (HM1.out.below hbm)
    have HK2 := Lib.hid hk
    have HB2 := Lib.hid (HB1.out.trans (hbm.mono hb1))
    have hsz : w1.heap.size < (w1.alloc (.cells (Array.replicate (makeN LN) (.int .u8 0)) 5)).heap.size := by simp
    generalize w1.alloc (.cells (Array.replicate (makeN LN) (.int .u8 0)) 5) = wa at HM2 HK2 HB2 hsz ⊢
    clear hbm hk
    have hbp : Below wa.heap.size wa (wa.alloc (.cells #[.slice (some ⟨w1.heap.size, 0, none⟩) (makeN LN) (makeN LN)] 45)) := (Below.refl wa.heap.size wa).alloc (Nat.le_refl _) _
    have HM3 := Lib.hid (HM2.out.below hbp)
    have HK3 := Lib.hid (own_below HK2.out hbp)
    have HP3 := Lib.hid (Blk.new wa 45 [.slice (some ⟨w1.heap.size, 0, none⟩) (makeN LN) (makeN LN)])
    have HB3 := Lib.hid (HB2.out.trans (hbp.mono HB2.out.size))
    have hsz2 := HB2.out.size
    clear hbp
    (go_wp2_with fail); refine (HEACH.out wa.heap.size _ _ HM3.out HP3.out HK3.out (by simp only [Value.ownBlock, ne_eq, Option.some.injEq]; omega) hsz2).mono ?_
    rintro e w4 ⟨rfl, ⟨v', hp4, ho4⟩, hb4⟩
    have h4 : w4.cell? ⟨wa.heap.size, 0, none⟩ = some v' := by rw [hp4.cell]; rfl
    have HO4 := Lib.hid ho4
    have HB4 := Lib.hid (HB3.out.trans hb4)
    clear hp4 ho4 hb4
    go_wp2_with fail
    go_ret
    exact Po.mk ⟨v', rfl, HO4.out, HB4.out⟩

end Go.Proofs.Ytlkapaecaeldpaa
