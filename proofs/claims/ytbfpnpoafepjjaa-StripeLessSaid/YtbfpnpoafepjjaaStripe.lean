/-
  Package stripe: pages of a line.
-/
import Derived.Test.YtbfpnpoafepjjaaGeom3
import Derived.WalkMore
import Derived.ScopeJumps
set_option linter.unusedVariables false
set_option linter.unusedSimpArgs false
set_option maxRecDepth 16384
namespace Go.Proofs.Ytbfpnpoafepjjaa
open Go.RowKit

/-- how many pages a line has -/
def Geo.pgs (g : Geo) : Int := if g.okB then g.units * g.pages else 0

theorem Geo.pgs_le {g : Geo} (h : g.okB = true) : 1 ≤ g.units ∧ g.units ≤ 8 ∧ 1 ≤ g.units * g.pages ∧ g.units * g.pages ≤ 256 := by
  have hg := Geo.ok_of h
  obtain ⟨m1, m2, m3, m4, m5, m6, m7, m8, m9, m10⟩ := geo_mul hg.c.1 hg.c.2 hg.l.1 hg.l.2 hg.b.1 hg.b.2 hg.p.1 hg.p.2 hg.s.1 hg.s.2
  exact ⟨m1, m2, m3, m4⟩

set_option maxHeartbeats 1000000 in
theorem stripePages_any (g : Geo) (w : World) (hg : g.Wf) (hok : g.okB = true) :
    Calls Try.prog 50 #[g.v] w fun e w' => e = .returned (.int .i64 (g.units * g.pages)) ∧ Below w.heap.size w w' := by
  have HW := Lib.hid hg
  have HU : Hid (∀ wy, Calls Try.prog 19 #[g.v] wy fun e w' => e = .returned (.int .i64 g.units) ∧ Below wy.heap.size wy w') := by
    intro wy
    have := geomUnits_any g wy hg
    unfold Geo.unitsI at this
    rwa [if_pos hok] at this
  obtain ⟨h1, h2, h3, h4⟩ := Geo.pgs_le hok
  clear hg hok
  obtain ⟨c, l, b, p, s⟩ := g
  obtain ⟨U, hU⟩ : ∃ r, Geo.units ⟨c, l, b, p, s⟩ = r := ⟨_, rfl⟩
  rw [hU] at HU h1 h2 h3 h4 ⊢
  simp only at h3 h4 ⊢
  clear hU
  have HG := Lib.hid (Blk.new w 23 [.int .i64 c, .int .i64 l, .int .i64 b, .int .i64 p, .int .i64 s])
  have hw1 : IntKind.i64.wrap (U * p) = U * p := wrap_in _ ⟨by omega, by omega⟩
  unfold Geo.v at HU ⊢
  go_enter Try.func50, Try.ntmps50
  go_wp2_with fail
  refine wp_region_b 5 (by kernel_rfl) (by kernel_rfl) ?_
  simp only [List.take_succ_cons, List.take_zero, List.drop_succ_cons, List.drop_zero]
  repeat (first
    | (refine SeqC.run (v := ?_) ?_ (fun wz hz => ?_) ?_; rotate_left; (· rfl); (· have hzc := hz.cell; have hzf := hz.frozen; go_simp; first | exact UponS.value hz | exact UponS.skip hz | (refine UponS.call ?_; (go_at_call 19; refine (HU.out _).mono ?_; rintro e wy ⟨rfl, hb⟩; refine ⟨?_, hz.step hb⟩; rfl))); (try simp only [Act.put, List.setIfInBounds_toArray, List.set_cons_zero, List.set_cons_succ]))
    | (refine SeqC.skip ?_ ?_; (· rfl); (try simp only [Act.put, List.setIfInBounds_toArray, List.set_cons_zero, List.set_cons_succ])))
  refine fun wz hz => ?_
  go_wp2
  go_ret
  exact ⟨rfl, (((Below.refl w.heap.size w).alloc (Nat.le_refl _) _).drew).trans (hz.below.mono (by simp))⟩

/-- whether a number is in a list -/
def hasL (xs : List Int) (n : Int) : Bool := decide (n ∈ xs)

set_option maxHeartbeats 1000000 in
theorem stripeDying_any (v : Value) (xs : List Int) (n : Int) (w : World) (hs : Sl w 0 v (iv xs)) :
    Calls Try.prog 51 #[v, .int .i64 n] w fun e w' => e = .returned (.bool (hasL xs n)) ∧ w = w' := by
  obtain ⟨a, cap, rfl, h1, h2, h3⟩ := hs.ints
  have HS := Lib.hid hs
  clear hs
  go_enter Try.func51, Try.ntmps51
  go_wp2_with fail
  go_loop [9] (fun t => ∃ k : Nat, k ≤ xs.length ∧ t = .int .i64 k ∧ Hid (∀ j, j < k → ¬ xs.getD j 0 = n)) (fun t => ((xs.length : Int) - intOf t).toNat)
  case atStart => exact ⟨0, Nat.zero_le _, rfl, fun j h => by omega⟩
  case round =>
    obtain ⟨k, hk, rfl, HT⟩ := hrel
    by_cases hlt : k < xs.length
    · obtain ⟨b, off, rfl, h4, h5, h6⟩ := h3 (by omega)
      have hc := h6 k hlt
      clear h6 h3
      obtain ⟨y, hy⟩ : ∃ y, xs.getD k 0 = y := ⟨_, rfl⟩
      rw [hy] at hc
      have HY := Lib.hid hy
      clear hy
      by_cases he : y = n
      · subst he
        go_wp2_with fail
        go_ret
        refine ⟨ret_bool ?_, rfl⟩
        symm
        unfold hasL
        rw [decide_eq_true_eq, ← HY.out, List.getD_eq_getElem?_getD, List.getElem?_eq_getElem hlt]
        exact List.getElem_mem hlt
      · have hb : (y == n) = false := by rw [beq_eq_false_iff_ne]; exact he
        have HE := Lib.hid he
        clear he
        go_wp2_with fail
        go_round
        case rel =>
          refine ⟨k + 1, by omega, by go_num, fun j hj => ?_⟩
          by_cases hjk : j = k
          · rw [hjk, HY.out]; exact HE.out
          · exact HT.out j (by omega)
        case measure => simp [intOf]; omega
    · obtain rfl : k = xs.length := by omega
      go_wp2_with fail
      go_ret
      refine ⟨ret_bool ?_, rfl⟩
      symm
      unfold hasL
      rw [decide_eq_false_iff_not]
      intro h
      obtain ⟨j, hj, hjx⟩ := List.getElem_of_mem h
      exact HT.out j hj (by rw [List.getD_eq_getElem?_getD, List.getElem?_eq_getElem hj]; exact hjx)


/-- the pages from i on (f of them) whose unit is not in the list -/
def alvF (U : Nat) (xs : List Int) : Nat → Nat → List Int
  | 0, _ => []
  | f + 1, i => if hasL xs ((i % U : Nat) : Int) then alvF U xs f (i + 1) else (i : Int) :: alvF U xs f (i + 1)

def alvP (P U : Nat) (xs : List Int) (i : Nat) : List Int := alvF U xs (P - i) i

theorem alv_end {P U : Nat} {xs : List Int} {i : Nat} (h : ¬ i < P) : alvP P U xs i = [] := by unfold alvP; rw [show P - i = 0 from by omega]; rfl
theorem alv_step {P U : Nat} {xs : List Int} {i : Nat} (h : i < P) : alvP P U xs i = if hasL xs ((i % U : Nat) : Int) then alvP P U xs (i + 1) else (i : Int) :: alvP P U xs (i + 1) := by
  unfold alvP
  rw [show P - i = (P - (i + 1)) + 1 from by omega]
  rfl

/-- the next one, and what is behind it -/
theorem alv_next (P U : Nat) (xs : List Int) : ∀ (d i : Nat), i + d = P → (alvP P U xs i = []) ∨ ∃ j : Nat, i ≤ j ∧ j < P ∧ hasL xs ((j % U : Nat) : Int) = false ∧ alvP P U xs i = (j : Int) :: alvP P U xs (j + 1)
  | 0, i, h => .inl (alv_end (by omega))
  | d + 1, i, h => by
    rw [alv_step (by omega)]
    by_cases hd : hasL xs ((i % U : Nat) : Int) = true
    · rw [if_pos hd]
      rcases alv_next P U xs d (i + 1) (by omega) with h1 | ⟨j, h1, h2, h3, h4⟩
      · exact .inl h1
      · exact .inr ⟨j, by omega, h2, h3, h4⟩
    · rw [if_neg hd]
      exact .inr ⟨i, Nat.le_refl _, by omega, by simpa using hd, rfl⟩

/-- the pages of a line, for a geometry -/
def Geo.alv (g : Geo) (xs : List Int) (k : Int) : List Int := if g.okB then alvP (g.units * g.pages).toNat g.units.toNat xs (max k 0).toNat else []
def Geo.nxt (g : Geo) (xs : List Int) (k : Int) : Int := (g.alv xs k).headD (-1)

set_option maxHeartbeats 2000000 in
theorem stripeNext_any (g : Geo) (v : Value) (xs : List Int) (k : Int) (w : World) (hg : g.Wf) (hs : Sl w 0 v (iv xs)) (hk : IsInt k) :
    Calls Try.prog 16 #[g.v, v, .int .i64 k] w fun e w' => e = .returned (.int .i64 (g.nxt xs k)) ∧ Below w.heap.size w w' := by
  have HW := Lib.hid hg
  have HS := Lib.hid hs
  obtain ⟨a, cap, rfl, h1, h2, h3⟩ := hs.ints
  clear hg hs h3
  obtain ⟨k1, k2⟩ := hk
  by_cases hok : g.okB = true
  · have HOK := Lib.hid hok
    obtain ⟨p1, p2, p3, p4⟩ := Geo.pgs_le hok
    obtain ⟨U, hU⟩ : ∃ U : Nat, g.units = U := ⟨g.units.toNat, by omega⟩
    obtain ⟨P, hP⟩ : ∃ P : Nat, g.units * g.pages = P := ⟨(g.units * g.pages).toNat, by omega⟩
    rw [hU] at p1 p2
    rw [hP] at p3 p4
    obtain ⟨K, hK⟩ : ∃ K : Nat, max k 0 = K := ⟨(max k 0).toNat, by omega⟩
    obtain ⟨A, hA⟩ : ∃ A, alvP P U xs K = A := ⟨_, rfl⟩
    have HN : Hid (g.nxt xs k = A.headD (-1)) := by
      show g.nxt xs k = _
      unfold Geo.nxt Geo.alv
      rw [if_pos hok, hP, hU, hK, ← hA]
      simp
    have HU : Hid (∀ wy, Calls Try.prog 19 #[g.v] wy fun e w' => e = .returned (.int .i64 U) ∧ Below wy.heap.size wy w') := by
      intro wy
      have := geomUnits_any g wy HW.out
      unfold Geo.unitsI at this
      rwa [if_pos hok, hU] at this
    have HPG : Hid (∀ wy, Calls Try.prog 50 #[g.v] wy fun e w' => e = .returned (.int .i64 P) ∧ Below wy.heap.size wy w') := by
      intro wy
      have := stripePages_any g wy HW.out hok
      rwa [hP] at this
    have HKK : Hid ((K : Int) ≤ 9223372036854775807) := by show (K : Int) ≤ _; omega
    have hmx : max 0 k = (K : Int) := by omega
    have HA0 := Lib.hid hA
    clear hok hU hP hK hA
    obtain ⟨c, l, b, p, s⟩ := g
    unfold Geo.v at HU HPG ⊢
    have HG := Lib.hid (Blk.new w 23 [.int .i64 c, .int .i64 l, .int .i64 b, .int .i64 p, .int .i64 s])
    go_enter Try.func16, Try.ntmps16
    go_wp2
    refine wp_scope_jumps 0 (fun a' wr => ∃ (i : Nat) (u6 u8 u9 u10 u11 u12 u13 u14 u15 u16 u17 u18 u19 u20 u21 u22 u23 u24 u25 : Value), a' = { tmps := #[.agg #[.int .i64 c, .int .i64 l, .int .i64 b, .int .i64 p, .int .i64 s], .slice a xs.length cap, .int .i64 k, .pointer (some ⟨w.heap.size, 0, none⟩), undef, undef, u6, .int .i64 i, u8, u9, u10, u11, u12, u13, u14, u15, u16, u17, u18, u19, u20, u21, u22, u23, u24, u25], defers := [] } ∧ K ≤ i ∧ Hid (alvP P U xs i = A) ∧ Hid (Blk wr w.heap.size 23 [.int .i64 c, .int .i64 l, .int .i64 b, .int .i64 p, .int .i64 s]) ∧ Hid (Below w.heap.size w wr)) (fun a' _ => (P - intOf (a'.tmps.getD 7 undef)).toNat) rfl ?_ ?_
    · (go_wp2_with fail); refine (geomRight_any ⟨c, l, b, p, s⟩ _ HW.out).mono ?_
      rintro e w1 ⟨rfl, hb⟩
      rw [HOK.out]
      have hk := HG.out.below hb; have k0 : w1.cell? ⟨w.heap.size, 0, none⟩ = some (.int .i64 c) := hk.cell 0; have k1 : w1.cell? ⟨w.heap.size, 1, none⟩ = some (.int .i64 l) := hk.cell 1; have k2 : w1.cell? ⟨w.heap.size, 2, none⟩ = some (.int .i64 b) := hk.cell 2; have k3 : w1.cell? ⟨w.heap.size, 3, none⟩ = some (.int .i64 p) := hk.cell 3; have k4 : w1.cell? ⟨w.heap.size, 4, none⟩ = some (.int .i64 s) := hk.cell 4; have hltk := hk.lt
      have HG1 := Lib.hid hk
      have HB1 := Lib.hid (((Below.refl w.heap.size w).alloc (Nat.le_refl _) _).trans (hb.mono (by simp)))
      clear hb hk
      go_wp2_with fail
      go_step3
      have hKi := Nat.le_refl K
      have HAL := HA0
      have hkr := HG1.out
      have k0 : w1.cell? ⟨w.heap.size, 0, none⟩ = some (.int .i64 c) := hkr.cell 0; have k1 : w1.cell? ⟨w.heap.size, 1, none⟩ = some (.int .i64 l) := hkr.cell 1; have k2 : w1.cell? ⟨w.heap.size, 2, none⟩ = some (.int .i64 b) := hkr.cell 2; have k3 : w1.cell? ⟨w.heap.size, 3, none⟩ = some (.int .i64 p) := hkr.cell 3; have k4 : w1.cell? ⟨w.heap.size, 4, none⟩ = some (.int .i64 s) := hkr.cell 4
      clear hkr
      (go_wp2_with fail); refine (HPG.out _).mono ?_
      rintro e w2 ⟨rfl, hb⟩
      have hk := HG1.out.below hb; have k0 : w2.cell? ⟨w.heap.size, 0, none⟩ = some (.int .i64 c) := hk.cell 0; have k1 : w2.cell? ⟨w.heap.size, 1, none⟩ = some (.int .i64 l) := hk.cell 1; have k2 : w2.cell? ⟨w.heap.size, 2, none⟩ = some (.int .i64 b) := hk.cell 2; have k3 : w2.cell? ⟨w.heap.size, 3, none⟩ = some (.int .i64 p) := hk.cell 3; have k4 : w2.cell? ⟨w.heap.size, 4, none⟩ = some (.int .i64 s) := hk.cell 4; have hltk := hk.lt
      have HG2 := Lib.hid hk
      have HB2 := Lib.hid (HB1.out.trans (hb.mono HB1.out.size))
      clear hb hk
      by_cases hlt : K < P
      · have hU0 : ¬ (U : Int) = 0 := by omega
        have hU1 : ((U : Int) == 0) = false := by simp; omega
        have htm : (K : Int).tmod U = ((K % U : Nat) : Int) := by rw [Int.tmod_eq_emod_of_nonneg (by omega)]; rfl
        have htl : K % U < U := Nat.mod_lt _ (by omega)
        have htw : IntKind.i64.wrap ((K % U : Nat) : Int) = ((K % U : Nat) : Int) := wrap_in _ ⟨by omega, by omega⟩
        have HST := Lib.hid (alv_step (xs := xs) (U := U) hlt)
        obtain ⟨Y, hY⟩ : ∃ Y, K % U = Y := ⟨_, rfl⟩
        rw [hY] at htm htw HST
        clear hY htl
        (go_wp2_with fail); refine (HU.out _).mono ?_
        rintro e w3 ⟨rfl, hb⟩
        have hk := HG2.out.below hb; have k0 : w3.cell? ⟨w.heap.size, 0, none⟩ = some (.int .i64 c) := hk.cell 0; have k1 : w3.cell? ⟨w.heap.size, 1, none⟩ = some (.int .i64 l) := hk.cell 1; have k2 : w3.cell? ⟨w.heap.size, 2, none⟩ = some (.int .i64 b) := hk.cell 2; have k3 : w3.cell? ⟨w.heap.size, 3, none⟩ = some (.int .i64 p) := hk.cell 3; have k4 : w3.cell? ⟨w.heap.size, 4, none⟩ = some (.int .i64 s) := hk.cell 4; have hltk := hk.lt
        have HG3 := Lib.hid hk
        have HB3 := Lib.hid (HB2.out.trans (hb.mono HB2.out.size))
        clear hb hk
        (go_wp2_with fail); refine (stripeDying_any _ xs _ _ (HS.out.below HB3.out)).mono ?_
        rintro e w4 ⟨rfl, rfl⟩
        by_cases hd : hasL xs (Y : Int) = true
        · rw [hd]
          have HAL2 : Hid (alvP P U xs (K + 1) = A) := by
            rw [← HAL.out, HST.out, if_pos hd]; exact Lib.hid rfl
          clear hd HST HAL
          go_wp2_with fail
          go_step3
          refine ⟨rfl, ⟨K + 1, _, _, _, _, _, _, _, _, _, _, _, _, _, _, _, _, _, _, _, rfl, by omega, HAL2, HG3, HB3⟩⟩
        · have hd : hasL xs (Y : Int) = false := by simpa using hd
          rw [hd]
          have HAL2 : Hid (A = (K : Int) :: alvP P U xs (K + 1)) := by
            rw [← HAL.out, HST.out, if_neg (by rw [hd]; decide)]; exact Lib.hid rfl
          clear hd HST HAL
          go_wp2_with fail
          simp only [Exit.jump]
          go_ret
          exact ⟨ret_int (by rw [HN.out, HAL2.out]; rfl), HB3.out⟩
      · have HEND := Lib.hid (alv_end (xs := xs) (U := U) hlt)
        go_wp2_with fail
        simp only [Exit.jump]
        go_ret
        exact ⟨ret_int (by rw [HN.out, ← HAL.out, HEND.out]; rfl), HB2.out⟩
    · rintro a' wr ⟨i, u6, u8, u9, u10, u11, u12, u13, u14, u15, u16, u17, u18, u19, u20, u21, u22, u23, u24, u25, rfl, hKi, HAL, HGr, HBr⟩
      have hkr := HGr.out
      have k0 : wr.cell? ⟨w.heap.size, 0, none⟩ = some (.int .i64 c) := hkr.cell 0; have k1 : wr.cell? ⟨w.heap.size, 1, none⟩ = some (.int .i64 l) := hkr.cell 1; have k2 : wr.cell? ⟨w.heap.size, 2, none⟩ = some (.int .i64 b) := hkr.cell 2; have k3 : wr.cell? ⟨w.heap.size, 3, none⟩ = some (.int .i64 p) := hkr.cell 3; have k4 : wr.cell? ⟨w.heap.size, 4, none⟩ = some (.int .i64 s) := hkr.cell 4
      clear hkr
      (go_wp2_with fail); refine (HPG.out _).mono ?_
      rintro e w2 ⟨rfl, hb⟩
      have hk := HGr.out.below hb; have k0 : w2.cell? ⟨w.heap.size, 0, none⟩ = some (.int .i64 c) := hk.cell 0; have k1 : w2.cell? ⟨w.heap.size, 1, none⟩ = some (.int .i64 l) := hk.cell 1; have k2 : w2.cell? ⟨w.heap.size, 2, none⟩ = some (.int .i64 b) := hk.cell 2; have k3 : w2.cell? ⟨w.heap.size, 3, none⟩ = some (.int .i64 p) := hk.cell 3; have k4 : w2.cell? ⟨w.heap.size, 4, none⟩ = some (.int .i64 s) := hk.cell 4; have hltk := hk.lt
      have HG2 := Lib.hid hk
      have HB2 := Lib.hid (HBr.out.trans (hb.mono HBr.out.size))
      clear hb hk
      by_cases hlt : i < P
      · have hU0 : ¬ (U : Int) = 0 := by omega
        have hU1 : ((U : Int) == 0) = false := by simp; omega
        have htm : (i : Int).tmod U = ((i % U : Nat) : Int) := by rw [Int.tmod_eq_emod_of_nonneg (by omega)]; rfl
        have htl : i % U < U := Nat.mod_lt _ (by omega)
        have htw : IntKind.i64.wrap ((i % U : Nat) : Int) = ((i % U : Nat) : Int) := wrap_in _ ⟨by omega, by omega⟩
        have HST := Lib.hid (alv_step (xs := xs) (U := U) hlt)
        obtain ⟨Y, hY⟩ : ∃ Y, i % U = Y := ⟨_, rfl⟩
        rw [hY] at htm htw HST
        clear hY htl
        (go_wp2_with fail); refine (HU.out _).mono ?_
        rintro e w3 ⟨rfl, hb⟩
        have hk := HG2.out.below hb; have k0 : w3.cell? ⟨w.heap.size, 0, none⟩ = some (.int .i64 c) := hk.cell 0; have k1 : w3.cell? ⟨w.heap.size, 1, none⟩ = some (.int .i64 l) := hk.cell 1; have k2 : w3.cell? ⟨w.heap.size, 2, none⟩ = some (.int .i64 b) := hk.cell 2; have k3 : w3.cell? ⟨w.heap.size, 3, none⟩ = some (.int .i64 p) := hk.cell 3; have k4 : w3.cell? ⟨w.heap.size, 4, none⟩ = some (.int .i64 s) := hk.cell 4; have hltk := hk.lt
        have HG3 := Lib.hid hk
        have HB3 := Lib.hid (HB2.out.trans (hb.mono HB2.out.size))
        clear hb hk
        (go_wp2_with fail); refine (stripeDying_any _ xs _ _ (HS.out.below HB3.out)).mono ?_
        rintro e w4 ⟨rfl, rfl⟩
        by_cases hd : hasL xs (Y : Int) = true
        · rw [hd]
          have HAL2 : Hid (alvP P U xs (i + 1) = A) := by
            rw [← HAL.out, HST.out, if_pos hd]; exact Lib.hid rfl
          clear hd HST HAL
          go_wp2_with fail
          go_step3
          (refine ⟨rfl, ⟨i + 1, _, _, _, _, _, _, _, _, _, _, _, _, _, _, _, _, _, _, _, rfl, by omega, HAL2, HG3, HB3⟩, ?_⟩; simp [intOf]; omega)
        · have hd : hasL xs (Y : Int) = false := by simpa using hd
          rw [hd]
          have HAL2 : Hid (A = (i : Int) :: alvP P U xs (i + 1)) := by
            rw [← HAL.out, HST.out, if_neg (by rw [hd]; decide)]; exact Lib.hid rfl
          clear hd HST HAL
          go_wp2_with fail
          simp only [Exit.jump]
          go_ret
          exact ⟨ret_int (by rw [HN.out, HAL2.out]; rfl), HB3.out⟩
      · have HEND := Lib.hid (alv_end (xs := xs) (U := U) hlt)
        go_wp2_with fail
        simp only [Exit.jump]
        go_ret
        exact ⟨ret_int (by rw [HN.out, ← HAL.out, HEND.out]; rfl), HB2.out⟩
  · have hk1 : g.okB = false := by simpa using hok
    have HN : Hid (g.nxt xs k = -1) := by
      show g.nxt xs k = -1
      unfold Geo.nxt Geo.alv
      rw [if_neg hok]
      rfl
    have HK1 := Lib.hid hk1
    clear hk1 hok
    obtain ⟨c, l, b, p, s⟩ := g
    unfold Geo.v
    have HG := Lib.hid (Blk.new w 23 [.int .i64 c, .int .i64 l, .int .i64 b, .int .i64 p, .int .i64 s])
    go_enter Try.func16, Try.ntmps16
    go_wp2
    go_step3
    (go_wp2_with fail); refine (geomRight_any ⟨c, l, b, p, s⟩ _ HW.out).mono ?_
    rintro e w1 ⟨rfl, hb⟩
    rw [HK1.out]
    have HB1 := Lib.hid (((Below.refl w.heap.size w).alloc (Nat.le_refl _) _).trans (hb.mono (by simp)))
    clear hb
    go_wp2
    rw [Exit.noGoto_ret]
    go_ret
    exact ⟨ret_int HN.out.symm, HB1.out⟩

/-- the unit and the page of a number -/
def Geo.spotE (g : Geo) (k : Int) : Int := if g.okB = true then (if 0 ≤ k ∧ k < g.units * g.pages then 0 else 2) else 1
def Geo.spotU (g : Geo) (k : Int) : Int := if g.okB = true ∧ 0 ≤ k ∧ k < g.units * g.pages then k % g.units else 0
def Geo.spotP (g : Geo) (k : Int) : Int := if g.okB = true ∧ 0 ≤ k ∧ k < g.units * g.pages then k / g.units else 0

set_option maxHeartbeats 2000000 in
theorem stripeSpot_any (g : Geo) (k : Int) (w : World) (hg : g.Wf) (hk : IsInt k) :
    Calls Try.prog 20 #[g.v, .int .i64 k] w fun e w' => e = .returned (.tuple #[.int .i64 (g.spotU k), .int .i64 (g.spotP k), .int .i64 (g.spotE k)]) ∧ Below w.heap.size w w' := by
  have HW := Lib.hid hg
  clear hg
  obtain ⟨k1, k2⟩ := hk
  by_cases hok : g.okB = true
  · have HOK := Lib.hid hok
    obtain ⟨p1, p2, p3, p4⟩ := Geo.pgs_le hok
    obtain ⟨U, hU⟩ : ∃ U, g.units = U := ⟨_, rfl⟩
    obtain ⟨P, hP⟩ : ∃ P, g.units * g.pages = P := ⟨_, rfl⟩
    have HS : Hid (g.spotU k = (if 0 ≤ k ∧ k < P then k % U else 0) ∧ g.spotP k = (if 0 ≤ k ∧ k < P then k / U else 0) ∧ g.spotE k = (if 0 ≤ k ∧ k < P then 0 else 2)) := by
      show _ ∧ _ ∧ _
      unfold Geo.spotU Geo.spotP Geo.spotE
      rw [hP, hU]
      simp only [hok, true_and, if_true, and_self]
    have HU : Hid (∀ wy, Calls Try.prog 19 #[g.v] wy fun e w' => e = .returned (.int .i64 U) ∧ Below wy.heap.size wy w') := by
      intro wy
      have := geomUnits_any g wy HW.out
      unfold Geo.unitsI at this
      rwa [if_pos hok, hU] at this
    have HPG : Hid (∀ wy, Calls Try.prog 50 #[g.v] wy fun e w' => e = .returned (.int .i64 P) ∧ Below wy.heap.size wy w') := by
      intro wy
      have := stripePages_any g wy HW.out hok
      rwa [hP] at this
    rw [hU] at p1 p2
    rw [hP] at p3 p4
    clear hok hU hP
    obtain ⟨c, l, b, p, s⟩ := g
    unfold Geo.v at HU HPG ⊢
    have HG := Lib.hid (Blk.new w 23 [.int .i64 c, .int .i64 l, .int .i64 b, .int .i64 p, .int .i64 s])
    go_enter Try.func20, Try.ntmps20
    (go_wp2_with fail); refine (geomRight_any ⟨c, l, b, p, s⟩ _ HW.out).mono ?_
    rintro e w1 ⟨rfl, hb⟩
    rw [HOK.out]
    have hk := HG.out.below hb; have k0 : w1.cell? ⟨w.heap.size, 0, none⟩ = some (.int .i64 c) := hk.cell 0; have k1 : w1.cell? ⟨w.heap.size, 1, none⟩ = some (.int .i64 l) := hk.cell 1; have k2 : w1.cell? ⟨w.heap.size, 2, none⟩ = some (.int .i64 b) := hk.cell 2; have k3 : w1.cell? ⟨w.heap.size, 3, none⟩ = some (.int .i64 p) := hk.cell 3; have k4 : w1.cell? ⟨w.heap.size, 4, none⟩ = some (.int .i64 s) := hk.cell 4; have hltk := hk.lt
    have HG1 := Lib.hid hk
    have HB1 := Lib.hid (((Below.refl w.heap.size w).alloc (Nat.le_refl _) _).trans (hb.mono (by simp)))
    clear hb hk
    by_cases hk0 : k < 0
    · have HS2 : Hid (Geo.spotU ⟨c, l, b, p, s⟩ k = 0 ∧ Geo.spotP ⟨c, l, b, p, s⟩ k = 0 ∧ Geo.spotE ⟨c, l, b, p, s⟩ k = 2) := by
        have := HS.out
        rwa [if_neg (by omega), if_neg (by omega), if_neg (by omega)] at this
      clear HS
      go_wp2_with fail
      refine bodyPost_ret (v := .tuple #[.int .i64 (0), .int .i64 (0), .int .i64 (2)]) (by simp [results, Try.results20, go_sem]) rfl ⟨?_, ?_⟩
      · rw [HS2.out.1, HS2.out.2.1, HS2.out.2.2]
      · exact HB1.out
    · (go_wp2_with fail); refine (HPG.out _).mono ?_
      rintro e w2 ⟨rfl, hb⟩
      have hk := HG1.out.below hb; have k0 : w2.cell? ⟨w.heap.size, 0, none⟩ = some (.int .i64 c) := hk.cell 0; have k1 : w2.cell? ⟨w.heap.size, 1, none⟩ = some (.int .i64 l) := hk.cell 1; have k2 : w2.cell? ⟨w.heap.size, 2, none⟩ = some (.int .i64 b) := hk.cell 2; have k3 : w2.cell? ⟨w.heap.size, 3, none⟩ = some (.int .i64 p) := hk.cell 3; have k4 : w2.cell? ⟨w.heap.size, 4, none⟩ = some (.int .i64 s) := hk.cell 4; have hltk := hk.lt
      have HG2 := Lib.hid hk
      have HB2 := Lib.hid (HB1.out.trans (hb.mono HB1.out.size))
      clear hb hk
      by_cases hkP : k < P
      · have hU0 : ¬ U = 0 := by omega
        have hU1 : (U == 0) = false := by simp; omega
        have htm : k.tmod U = k % U := Int.tmod_eq_emod_of_nonneg (by omega)
        have htd : k.tdiv U = k / U := Int.tdiv_eq_ediv_of_nonneg (by omega)
        have hb1 := Int.emod_nonneg k hU0
        have hb2 := Int.emod_lt_of_pos k (show 0 < U by omega)
        have hb3 := Int.ediv_nonneg (show 0 ≤ k by omega) (show 0 ≤ U by omega)
        have hb4 := Int.ediv_le_self U (show 0 ≤ k by omega)
        have hw1 : IntKind.i64.wrap (k % U) = k % U := wrap_in _ ⟨by omega, by omega⟩
        have hw2 : IntKind.i64.wrap (k / U) = k / U := wrap_in _ ⟨by omega, by omega⟩
        have HS2 : Hid (Geo.spotU ⟨c, l, b, p, s⟩ k = k % U ∧ Geo.spotP ⟨c, l, b, p, s⟩ k = k / U ∧ Geo.spotE ⟨c, l, b, p, s⟩ k = 0) := by
          have := HS.out
          rwa [if_pos (by omega), if_pos (by omega), if_pos (by omega)] at this
        clear hb1 hb2 hb3 hb4 HS
        go_wp2_with fail
        refine wp_region_b 10 (by kernel_rfl) (by kernel_rfl) ?_
        simp only [List.take_succ_cons, List.take_zero, List.drop_succ_cons, List.drop_zero]
        repeat (first
          | (refine SeqC.run (v := ?_) ?_ (fun wz hz => ?_) ?_; rotate_left; (· rfl); (· have hzc := hz.cell; have hzf := hz.frozen; go_simp; first | exact UponS.value hz | exact UponS.skip hz | (refine UponS.call ?_; (go_at_call 19; refine (HU.out _).mono ?_; rintro e wy ⟨rfl, hb⟩; refine ⟨?_, hz.step hb⟩; rfl))); (try simp only [Act.put, List.setIfInBounds_toArray, List.set_cons_zero, List.set_cons_succ]))
          | (refine SeqC.skip ?_ ?_; (· rfl); (try simp only [Act.put, List.setIfInBounds_toArray, List.set_cons_zero, List.set_cons_succ])))
        refine fun wz hz => ?_
        go_wp2
        refine bodyPost_ret (v := .tuple #[.int .i64 (k % U), .int .i64 (k / U), .int .i64 (0)]) (by simp [results, Try.results20, go_sem]) rfl ⟨?_, ?_⟩
        · rw [HS2.out.1, HS2.out.2.1, HS2.out.2.2]
        · exact HB2.out.drew.trans (hz.below.mono HB2.out.size)
      · have HS2 : Hid (Geo.spotU ⟨c, l, b, p, s⟩ k = 0 ∧ Geo.spotP ⟨c, l, b, p, s⟩ k = 0 ∧ Geo.spotE ⟨c, l, b, p, s⟩ k = 2) := by
          have := HS.out
          rwa [if_neg (by omega), if_neg (by omega), if_neg (by omega)] at this
        clear HS
        go_wp2_with fail
        refine bodyPost_ret (v := .tuple #[.int .i64 (0), .int .i64 (0), .int .i64 (2)]) (by simp [results, Try.results20, go_sem]) rfl ⟨?_, ?_⟩
        · rw [HS2.out.1, HS2.out.2.1, HS2.out.2.2]
        · exact HB2.out
  · have hk1 : g.okB = false := by simpa using hok
    have HS2 : Hid (g.spotU k = 0 ∧ g.spotP k = 0 ∧ g.spotE k = 1) := by
      show _ ∧ _ ∧ _
      unfold Geo.spotU Geo.spotP Geo.spotE
      simp [hk1]
    have HK1 := Lib.hid hk1
    clear hk1 hok
    obtain ⟨c, l, b, p, s⟩ := g
    unfold Geo.v
    go_enter Try.func20, Try.ntmps20
    (go_wp2_with fail); refine (geomRight_any ⟨c, l, b, p, s⟩ _ HW.out).mono ?_
    rintro e w1 ⟨rfl, hb⟩
    rw [HK1.out]
    have HB1 := Lib.hid (((Below.refl w.heap.size w).alloc (Nat.le_refl _) _).trans (hb.mono (by simp)))
    clear hb
    go_wp2
    refine bodyPost_ret (v := .tuple #[.int .i64 (0), .int .i64 (0), .int .i64 (1)]) (by simp [results, Try.results20, go_sem]) rfl ⟨?_, ?_⟩
    · rw [HS2.out.1, HS2.out.2.1, HS2.out.2.2]
    · exact HB1.out

end Go.Proofs.Ytbfpnpoafepjjaa
