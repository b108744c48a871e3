/-
  Package strakeref11: Live, Many; package l2p: Valid.
-/
import Derived.Test.YtlkapaecaeldpaaRef11b
import Derived.Test.YtlkapaecaeldpaaL2pQ
set_option linter.unusedVariables false
set_option linter.unusedSimpArgs false
set_option maxRecDepth 16384
namespace Go.Proofs.Ytlkapaecaeldpaa
open Go.RowKit

/-- what the document's Live tells -/
def rliveN (to : List Ent) (a : Int) : Int := if 0 ≤ a ∧ whoIx to a ≠ 0 then (whoIx to a : Int) - 1 else 0
def rliveB (to : List Ent) (a : Int) : Bool := decide (0 ≤ a ∧ whoIx to a ≠ 0)

theorem live_same {g : Geo} {to : List Ent} (hf : Fine g to) (a : Int) : liveN g to a = rliveN to a ∧ liveB g to a = rliveB to a := by
  have h : ((0 ≤ a ∧ a < g.all) ∧ whoIx to a ≠ 0) ↔ (0 ≤ a ∧ whoIx to a ≠ 0) := by
    refine ⟨fun h => ⟨h.1.1, h.2⟩, fun h => ⟨⟨h.1, ?_⟩, h.2⟩⟩
    obtain ⟨e, he, ha⟩ := whoIx_ne.1 h.2
    have := hf.in_ e he
    omega
  unfold liveN rliveN liveB rliveB
  refine ⟨?_, decide_eq_decide.2 h⟩
  by_cases h1 : 0 ≤ a ∧ whoIx to a ≠ 0
  · rw [if_pos h1, if_pos (h.2 h1)]
  · rw [if_neg h1, if_neg (fun h2 => h1 (h.1 h2))]

theorem manyN_take {to : List Ent} {i : Nat} {e : Ent} (he : to[i]? = some e) : manyN (to.take (i + 1)) = manyN (to.take i) + (if 0 ≤ e.a then 1 else 0) := by
  unfold manyN
  rw [List.take_add_one, he, List.countP_append]
  simp only [Option.toList_some, List.countP_singleton, decide_eq_true_eq]

set_option maxHeartbeats 1000000 in
theorem ref11Live_any {w : World} {B r : Nat} {g : Geo} {to : List Ent} {v : Value} (HM : RefAt w B r g to v) (hf : Fine g to) (hlen : to.length ≤ 4096) (a : Int) :
    Calls Try.prog 69 #[.pointer (some ⟨r, 0, none⟩), .int .i64 a] w fun e w' => e = .returned (.tuple #[.int .i64 (rliveN to a), .bool (rliveB to a)]) ∧ w = w' := by
  have HN : Hid (rliveN to a = if 0 ≤ a ∧ whoIx to a ≠ 0 then (whoIx to a : Int) - 1 else 0) := Lib.hid rfl
  have HBB : Hid (rliveB to a = decide (0 ≤ a ∧ whoIx to a ≠ 0)) := Lib.hid rfl
  have HSOME : Hid (∀ (i : Nat) (e : Ent), to[i]? = some e → 0 ≤ e.a → whoIx to e.a = i + 1) := fun i e he h0 => whoIx_some hf he h0
  have HNONE : Hid ((∀ e ∈ to, e.a ≠ a) → whoIx to a = 0) := fun h => whoIx_none h
  have HGET := Lib.hid (fun (i : Nat) (e : Ent) (he : to[i]? = some e) => HM.get he)
  obtain ⟨sa, cap, rfl⟩ := own_slice HM.row
  obtain ⟨N, hN⟩ : ∃ N, to.length = N := ⟨_, rfl⟩
  have m5 : w.cell? ⟨r, 5, none⟩ = some (.slice sa N cap) := by have := HM.blk.cell 5; rw [hN] at this; exact this
  have hrl := HM.blk.lt
  rw [hN] at hlen
  clear HM hf
  go_enter Try.func69, Try.ntmps69
  go_wp2_with fail
  go_loop [6] (fun t => ∃ i : Nat, i ≤ N ∧ t = .int .i64 i ∧ Hid (0 ≤ a → ∀ k e, k < i → to[k]? = some e → e.a ≠ a)) (fun t => ((N : Int) - intOf t).toNat)
  case atStart => exact ⟨0, Nat.zero_le _, rfl, fun _ k e h => by omega⟩
  case round =>
    obtain ⟨i, hi, rfl, HT⟩ := hrel
    by_cases hlt : i < N
    · by_cases ha : 0 ≤ a
      · obtain ⟨x, hx⟩ : ∃ x, to[i]? = some x := ⟨_, List.getElem?_eq_getElem (by omega)⟩
        obtain ⟨gb, cp', he, hgl, c0, _, _⟩ := HGET.out i x hx
        injection he with he1 he2 he3
        subst he1
        obtain ⟨xa, xs, xk⟩ := x
        simp only at c0
        have HX := Lib.hid hx
        have hi0 : (0 : Int) ≤ i := by omega
        have hi1 : (i : Int) < N := by omega
        clear he2 he3 hx
        by_cases hxa : xa = a
        · have hb : (xa == a) = true := by simp [hxa]
          have hw := HSOME.out i _ HX.out (by simp only; omega)
          simp only at hw
          rw [hxa] at hw
          rw [hw] at HN HBB
          have HA := Lib.hid ha
          clear hxa hw
          go_wp2_with fail
          go_ret2
          refine ⟨?_, rfl⟩
          rw [HN.out, HBB.out, if_pos ⟨HA.out, by omega⟩, decide_eq_true ⟨HA.out, by omega⟩, show ((i + 1 : Nat) : Int) - 1 = i by omega]
          rfl
        · have hb : (xa == a) = false := by simp [hxa]
          have HXA := Lib.hid hxa
          clear hxa
          go_wp2_with fail
          go_round
          case rel =>
            refine ⟨i + 1, by omega, by go_num, fun h0 k e hk he => ?_⟩
            by_cases hki : k = i
            · subst hki; rw [HX.out] at he; cases he; exact HXA.out
            · exact HT.out h0 k e (by omega) he
          case measure => simp [intOf]; omega
      · have hi0 : (0 : Int) ≤ i := by omega
        go_wp2_with fail
        go_round
        case rel => exact ⟨i + 1, by omega, by go_num, fun h0 => absurd h0 ha⟩
        case measure => simp [intOf]; omega
    · obtain rfl : i = N := by omega
      have hfin : ¬ (0 ≤ a ∧ whoIx to a ≠ 0) := by
        rintro ⟨h0, h1⟩
        apply h1
        refine HNONE.out fun e he => ?_
        obtain ⟨k, hk⟩ := List.getElem?_of_mem he
        exact HT.out h0 k e (by have := (List.getElem?_eq_some_iff.1 hk).1; omega) hk
      have HF := Lib.hid hfin
      clear hfin
      go_wp2_with fail
      go_ret2
      exact ⟨by rw [HN.out, HBB.out, if_neg HF.out, decide_eq_false HF.out]; rfl, rfl⟩

set_option maxHeartbeats 1000000 in
theorem ref11Many_any {w : World} {B r : Nat} {g : Geo} {to : List Ent} {v : Value} (HM : RefAt w B r g to v) (hlen : to.length ≤ 4096) :
    Calls Try.prog 19 #[.pointer (some ⟨r, 0, none⟩)] w fun e w' => e = .returned (.int .i64 (manyN to : Nat)) ∧ w = w' := by
  have HGET := Lib.hid (fun (i : Nat) (e : Ent) (he : to[i]? = some e) => HM.get he)
  have HT := Lib.hid (fun (i : Nat) (e : Ent) (he : to[i]? = some e) => manyN_take he)
  have HLE : Hid (∀ i, manyN (to.take i) ≤ 4096) := fun i => Nat.le_trans List.countP_le_length (by rw [List.length_take]; omega)
  obtain ⟨sa, cap, rfl⟩ := own_slice HM.row
  have hall : manyN (to.take to.length) = manyN to := by rw [List.take_length]
  obtain ⟨N, hN⟩ : ∃ N, to.length = N := ⟨_, rfl⟩
  have m5 : w.cell? ⟨r, 5, none⟩ = some (.slice sa N cap) := by have := HM.blk.cell 5; rw [hN] at this; exact this
  have hrl := HM.blk.lt
  rw [hN] at hlen hall
  have HALL := Lib.hid hall
  have HZ : Hid (manyN (to.take 0) = 0) := by show manyN (to.take 0) = 0; rw [List.take_zero]; rfl
  clear HM hall
  go_enter Try.func19, Try.ntmps19
  go_wp2_with fail
  go_loop [3, 4] (fun n t => ∃ i : Nat, i ≤ N ∧ t = .int .i64 i ∧ n = .int .i64 (manyN (to.take i) : Nat)) (fun _ t => ((N : Int) - intOf t).toNat)
  case atStart => exact ⟨0, Nat.zero_le _, rfl, by rw [HZ.out]; rfl⟩
  case round =>
    obtain ⟨i, hi, rfl, rfl⟩ := hrel
    by_cases hlt : i < N
    · obtain ⟨x, hx⟩ : ∃ x, to[i]? = some x := ⟨_, List.getElem?_eq_getElem (by omega)⟩
      obtain ⟨gb, cp', he, hgl, c0, _, _⟩ := HGET.out i x hx
      injection he with he1 he2 he3
      subst he1
      have hst := HT.out i x hx
      have hle := HLE.out i
      obtain ⟨K, hK⟩ : ∃ K, manyN (to.take i) = K := ⟨_, rfl⟩
      rw [hK] at hst hle
      rw [hK]
      obtain ⟨xa, xs, xk⟩ := x
      simp only at c0 hst
      have HST := Lib.hid hst
      have hi0 : (0 : Int) ≤ i := by omega
      have hi1 : (i : Int) < N := by omega
      clear he2 he3 hx hK hst
      by_cases ha : 0 ≤ xa
      · have hw1 : IntKind.i64.wrap ((K : Int) + 1) = (K : Int) + 1 := wrap_in _ ⟨by omega, by omega⟩
        have hst2 := HST.out
        rw [if_pos ha] at hst2
        have HS2 := Lib.hid hst2
        clear hst2 HST
        go_wp2_with fail
        go_round
        case rel => exact ⟨i + 1, by omega, by go_num, by rw [HS2.out]; simp⟩
        case measure => simp [intOf]; omega
      · have hst2 := HST.out
        rw [if_neg ha] at hst2
        have HS2 := Lib.hid hst2
        clear hst2 HST
        go_wp2_with fail
        go_round
        case rel => exact ⟨i + 1, by omega, by go_num, by rw [HS2.out]; simp⟩
        case measure => simp [intOf]; omega
    · obtain rfl : i = N := by omega
      rw [HALL.out]
      go_wp2_with fail
      go_ret
      exact ⟨rfl, rfl⟩

set_option maxHeartbeats 1000000 in
theorem mapValid_any {w : World} {B C m : Nat} {g : Geo} {to : List Ent} {kt kw vb : Nat} {st sw : Shards} (HM : MapAt w B C m g to kt kw vb st sw) (l : Nat) (hl : (l : Int) < g.blocks) :
    Calls Try.prog 43 #[.pointer (some ⟨m, 0, none⟩), .int .i64 l] w fun r w' => r = .returned (.int .i64 (validN g.line to l : Nat)) ∧ w = w' := by
  have hv := HM.raw.vals l (by omega)
  have hR := HM.raw
  have hb := (Geo.ok_of HM.ok).b
  obtain ⟨V, hV⟩ : ∃ V, validN g.line to l = V := ⟨_, rfl⟩
  rw [hV] at hv ⊢
  obtain ⟨c, l', b, p, s⟩ := g
  simp only at hb hl
  obtain ⟨bl, rfl⟩ : ∃ bl : Nat, b = bl := ⟨b.toNat, by omega⟩
  have n2 : w.cell? ⟨m, 2, none⟩ = some (.int .i64 bl) := hR.blk.cell 2
  have n8 : w.cell? ⟨m, 8, none⟩ = some (.slice (some ⟨vb, 0, none⟩) bl bl) := hR.blk.cell 8
  obtain ⟨hv1, hv2⟩ := hv
  have hl0 : (0 : Int) ≤ l := by omega
  clear hR HM hV hv2
  go_enter Try.func43, Try.ntmps43
  go_wp2_with fail
  go_ret
  exact ⟨rfl, rfl⟩

end Go.Proofs.Ytlkapaecaeldpaa
