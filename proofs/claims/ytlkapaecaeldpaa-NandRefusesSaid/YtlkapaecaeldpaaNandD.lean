/-
  Package nand: sized; package strakeref08: sized.
-/
import Derived.Test.YtlkapaecaeldpaaNandC
set_option linter.unusedVariables false
set_option linter.unusedSimpArgs false
set_option maxRecDepth 16384
namespace Go.Proofs.Ytlkapaecaeldpaa
open Go.RowKit

/-- a slice of slices of bytes -/
def Sls (w : World) (Q : Nat → Prop) (v : Value) (xss : List (List Int)) : Prop :=
  ∃ (a : Option Addr) (cap : Nat), v = .slice a xss.length cap ∧ xss.length ≤ cap ∧ xss.length ≤ 140737488351232 ∧
    ∀ j xs, xss[j]? = some xs → ∃ b off u, a = some ⟨b, off, none⟩ ∧ Q b ∧ b < w.heap.size ∧ w.cell? ⟨b, off + j, none⟩ = some u ∧ SlQ w Q u (bv xs)

theorem Sls.keep {w w' : World} {Q : Nat → Prop} {v : Value} {xss : List (List Int)} (h : Sls w Q v xss) (hs : w.heap.size ≤ w'.heap.size) (hk : ∀ k, k < w.heap.size → Q k → w'.heap[k]? = w.heap[k]?) : Sls w' Q v xss := by
  obtain ⟨a, cap, h1, h2, h3, h4⟩ := h
  refine ⟨a, cap, h1, h2, h3, fun j xs hj => ?_⟩
  obtain ⟨b, off, u, e, hq, hb, hc, hl⟩ := h4 j xs hj
  exact ⟨b, off, u, e, hq, by omega, (World.cell?_of_block (a := ⟨b, off + j, none⟩) (hk b hb hq)).trans hc, hl.keep hs hk⟩
theorem Sls.below {w w' : World} {Q : Nat → Prop} {v : Value} {xss : List (List Int)} (h : Sls w Q v xss) (hb : Below w.heap.size w w') : Sls w' Q v xss := h.keep hb.size fun k hk _ => hb.block k hk
theorem Sls.mono {w : World} {Q Q' : Nat → Prop} {v : Value} {xss : List (List Int)} (h : Sls w Q v xss) (hQ : ∀ k, k < w.heap.size → Q k → Q' k) : Sls w Q' v xss := by
  obtain ⟨a, cap, h1, h2, h3, h4⟩ := h
  refine ⟨a, cap, h1, h2, h3, fun j xs hj => ?_⟩
  obtain ⟨b, off, u, e, hq, hb, hc, hl⟩ := h4 j xs hj
  exact ⟨b, off, u, e, hQ b hb hq, hb, hc, hl.mono hQ⟩
/-- one of them -/
theorem Sls.get {w : World} {Q : Nat → Prop} {a : Option Addr} {n cap : Nat} {xss : List (List Int)} (h : Sls w Q (.slice a n cap) xss) {j : Nat} {xs : List Int} (hj : xss[j]? = some xs) :
    ∃ b off ua uc, a = some ⟨b, off, none⟩ ∧ b < w.heap.size ∧ w.cell? ⟨b, off + j, none⟩ = some (.slice ua xs.length uc) ∧ SlQ w Q (.slice ua xs.length uc) (bv xs) := by
  obtain ⟨a', cap', h1, h2, h3, h4⟩ := h
  injection h1 with q1 q2 q3
  subst q1
  obtain ⟨b, off, u, e, hq, hb, hc, hl⟩ := h4 j xs hj
  have hl2 := hl
  obtain ⟨ua, uc, rfl, _⟩ := hl2
  rw [bv_length] at hc hl
  exact ⟨b, off, ua, uc, e, hb, hc, hl⟩

def sizedB (xss : List (List Int)) (many bytes : Int) : Bool := decide ((∀ x ∈ xss, (x.length : Int) = bytes) ∧ (xss.length : Int) = many)

set_option maxHeartbeats 1000000 in
theorem nandSized_any (v : Value) (xss : List (List Int)) (w : World) {Q : Nat → Prop} (hs : Sls w Q v xss) (many bytes : Int) :
    Calls Try.prog 76 #[v, .int .i64 many, .int .i64 bytes] w fun e w' => e = .returned (.bool (sizedB xss many bytes)) ∧ w = w' := by
  have HSZ : Hid (sizedB xss many bytes = decide ((∀ x ∈ xss, (x.length : Int) = bytes) ∧ (xss.length : Int) = many)) := Lib.hid rfl
  obtain ⟨a, cap, rfl, h1, h2, h4⟩ := id hs
  have HGET := Lib.hid (fun (j : Nat) (xs : List Int) (hj : xss[j]? = some xs) => hs.get hj)
  obtain ⟨N, hN⟩ : ∃ N, xss.length = N := ⟨_, rfl⟩
  have HN := Lib.hid hN
  rw [hN] at h1 h2 HSZ ⊢
  clear hs h4 hN
  go_enter Try.func76, Try.ntmps76
  go_wp2_with fail
  go_loop [11] (fun t => ∃ i : Nat, i ≤ N ∧ t = .int .i64 i ∧ Hid (∀ k x, k < i → xss[k]? = some x → (x.length : Int) = bytes)) (fun t => ((N : Int) - intOf t).toNat)
  case atStart => exact ⟨0, Nat.zero_le _, rfl, fun k x h => by omega⟩
  case round =>
    obtain ⟨i, hi, rfl, HT⟩ := hrel
    by_cases hlt : i < N
    · obtain ⟨x, hx⟩ : ∃ x, xss[i]? = some x := ⟨_, List.getElem?_eq_getElem (by rw [HN.out]; exact hlt)⟩
      obtain ⟨gb, off, ua, uc, rfl, hgb, hc, _⟩ := HGET.out i x hx
      have HX := Lib.hid hx
      have hi0 : (0 : Int) ≤ i := by omega
      have hi1 : (i : Int) < N := by omega
      obtain ⟨X, hX⟩ : ∃ X, x.length = X := ⟨_, rfl⟩
      have HXL := Lib.hid hX
      rw [hX] at hc
      clear hx hX
      by_cases he : (X : Int) = bytes
      · have heb : ((X : Int) != bytes) = false := by simp [he]
        have HE := Lib.hid he
        clear he
        go_wp2_with fail
        go_round
        case rel =>
          refine ⟨i + 1, by omega, by go_num, fun k y hk hy => ?_⟩
          by_cases hki : k = i
          · subst hki
            rw [HX.out] at hy
            cases hy
            rw [HXL.out]
            exact HE.out
          · exact HT.out k y (by omega) hy
        case measure => simp [intOf]; omega
      · have heb : ((X : Int) != bytes) = true := by simp [he]
        have HR : Hid (sizedB xss many bytes = false) := by
          show _ = _
          rw [HSZ.out, decide_eq_false]
          rintro ⟨h, _⟩
          exact he (by rw [← HXL.out]; exact h x (List.mem_of_getElem? HX.out))
        clear he
        go_wp2_with fail
        go_ret
        exact ⟨by rw [HR.out]; rfl, rfl⟩
    · obtain rfl : i = N := by omega
      have HALL : Hid (∀ x ∈ xss, (x.length : Int) = bytes) := fun x hx => by
        obtain ⟨k, hk⟩ := List.getElem?_of_mem hx
        exact HT.out k x (by rw [← HN.out]; exact (List.getElem?_eq_some_iff.1 hk).1) hk
      by_cases hm : (i : Int) = many
      · have hmb : ((i : Int) == many) = true := by simp [hm]
        have HR : Hid (sizedB xss many bytes = true) := by show _ = _; rw [HSZ.out, decide_eq_true ⟨HALL.out, hm⟩]
        clear hm
        go_wp2_with fail
        go_ret
        exact ⟨by rw [HR.out]; rfl, rfl⟩
      · have hmb : ((i : Int) == many) = false := by simp [hm]
        have HR : Hid (sizedB xss many bytes = false) := by show _ = _; rw [HSZ.out, decide_eq_false (fun h => hm h.2)]
        clear hm
        go_wp2_with fail
        go_ret
        exact ⟨by rw [HR.out]; rfl, rfl⟩

set_option maxHeartbeats 1000000 in
theorem ref08Sized_any (v : Value) (xss : List (List Int)) (w : World) {Q : Nat → Prop} (hs : Sls w Q v xss) (many bytes : Int) :
    Calls Try.prog 120 #[v, .int .i64 many, .int .i64 bytes] w fun e w' => e = .returned (.bool (sizedB xss many bytes)) ∧ w = w' := by
  have HSZ : Hid (sizedB xss many bytes = decide ((∀ x ∈ xss, (x.length : Int) = bytes) ∧ (xss.length : Int) = many)) := Lib.hid rfl
  obtain ⟨a, cap, rfl, h1, h2, h4⟩ := id hs
  have HGET := Lib.hid (fun (j : Nat) (xs : List Int) (hj : xss[j]? = some xs) => hs.get hj)
  obtain ⟨N, hN⟩ : ∃ N, xss.length = N := ⟨_, rfl⟩
  have HN := Lib.hid hN
  rw [hN] at h1 h2 HSZ ⊢
  clear hs h4 hN
  by_cases hm : (N : Int) = many
  · have hmb : ((N : Int) != many) = false := by simp [hm]
    have HM := Lib.hid hm
    clear hm
    go_enter Try.func120, Try.ntmps120
    go_wp2_with fail
    go_loop [7] (fun t => ∃ i : Nat, i ≤ N ∧ t = .int .i64 i ∧ Hid (∀ k x, k < i → xss[k]? = some x → (x.length : Int) = bytes)) (fun t => ((N : Int) - intOf t).toNat)
    case atStart => exact ⟨0, Nat.zero_le _, rfl, fun k x h => by omega⟩
    case round =>
      obtain ⟨i, hi, rfl, HT⟩ := hrel
      by_cases hlt : i < N
      · obtain ⟨x, hx⟩ : ∃ x, xss[i]? = some x := ⟨_, List.getElem?_eq_getElem (by rw [HN.out]; exact hlt)⟩
        obtain ⟨gb, off, ua, uc, rfl, hgb, hc, _⟩ := HGET.out i x hx
        have HX := Lib.hid hx
        have hi0 : (0 : Int) ≤ i := by omega
        have hi1 : (i : Int) < N := by omega
        obtain ⟨X, hX⟩ : ∃ X, x.length = X := ⟨_, rfl⟩
        have HXL := Lib.hid hX
        rw [hX] at hc
        clear hx hX
        by_cases he : (X : Int) = bytes
        · have heb : ((X : Int) != bytes) = false := by simp [he]
          have HE := Lib.hid he
          clear he
          go_wp2_with fail
          go_round
          case rel =>
            refine ⟨i + 1, by omega, by go_num, fun k y hk hy => ?_⟩
            by_cases hki : k = i
            · subst hki
              rw [HX.out] at hy
              cases hy
              rw [HXL.out]
              exact HE.out
            · exact HT.out k y (by omega) hy
          case measure => simp [intOf]; omega
        · have heb : ((X : Int) != bytes) = true := by simp [he]
          have HR : Hid (sizedB xss many bytes = false) := by
            show _ = _
            rw [HSZ.out, decide_eq_false]
            rintro ⟨h, _⟩
            exact he (by rw [← HXL.out]; exact h x (List.mem_of_getElem? HX.out))
          clear he
          go_wp2_with fail
          go_ret
          exact ⟨by rw [HR.out]; rfl, rfl⟩
      · obtain rfl : i = N := by omega
        have HALL : Hid (∀ x ∈ xss, (x.length : Int) = bytes) := fun x hx => by
          obtain ⟨k, hk⟩ := List.getElem?_of_mem hx
          exact HT.out k x (by rw [← HN.out]; exact (List.getElem?_eq_some_iff.1 hk).1) hk
        have HR : Hid (sizedB xss many bytes = true) := by show _ = _; rw [HSZ.out, decide_eq_true ⟨HALL.out, HM.out⟩]
        go_wp2_with fail
        go_ret
        exact ⟨by rw [HR.out]; rfl, rfl⟩
  · have hmb : ((N : Int) != many) = true := by simp [hm]
    have HR : Hid (sizedB xss many bytes = false) := by show _ = _; rw [HSZ.out, decide_eq_false (fun h => hm h.2)]
    clear hm
    go_enter Try.func120, Try.ntmps120
    go_wp2_with fail
    go_ret
    exact ⟨by rw [HR.out]; rfl, rfl⟩

end Go.Proofs.Ytlkapaecaeldpaa
