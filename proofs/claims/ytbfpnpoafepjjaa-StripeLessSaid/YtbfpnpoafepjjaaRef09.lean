/-
  Package strakeref09: Has, all, Next, Left.
-/
import Derived.Test.YtbfpnpoafepjjaaStripe
import Derived.Test.YtbfpnpoafepjjaaRef03
import Derived.Test.YtbfpnpoafepjjaaBits3
set_option linter.unusedVariables false
set_option linter.unusedSimpArgs false
set_option maxRecDepth 16384
namespace Go.Proofs.Ytbfpnpoafepjjaa
open Go.RowKit

set_option maxHeartbeats 1000000 in
theorem ref09Has_any (v : Value) (xs : List Int) (n : Int) (w : World) (hs : Sl w 0 v (iv xs)) :
    Calls Try.prog 21 #[v, .int .i64 n] w fun e w' => e = .returned (.bool (hasL xs n)) ∧ w = w' := by
  obtain ⟨a, cap, rfl, h1, h2, h3⟩ := hs.ints
  have HS := Lib.hid hs
  clear hs h3
  go_enter Try.func21, Try.ntmps21
  go_wp2_with fail
  go_loop [5] (fun t => ∃ k : Nat, k ≤ xs.length ∧ t = .int .i64 k ∧ Hid (∀ j, j < k → ¬ xs.getD j 0 = n)) (fun t => ((xs.length : Int) - intOf t).toNat)
  case atStart => exact ⟨0, Nat.zero_le _, rfl, fun j h => by omega⟩
  case round =>
    obtain ⟨k, hk, rfl, HT⟩ := hrel
    by_cases hlt : k < xs.length
    · obtain ⟨a', cap', e1, h1', h2', h3⟩ := HS.out.ints
      cases e1
      obtain ⟨b, off, rfl, h4, h5, h6⟩ := h3 (by omega)
      have hc := h6 k hlt
      clear h6 h3 h1' h2'
      obtain ⟨y, hy⟩ : ∃ y, xs.getD k 0 = y := ⟨_, rfl⟩
      rw [hy] at hc
      have HY := Lib.hid hy
      clear hy
      by_cases he : y = n
      · subst he
        go_wp2
        go_ret
        refine ⟨ret_bool ?_, rfl⟩
        symm
        unfold hasL
        rw [decide_eq_true_eq, ← HY.out, List.getD_eq_getElem?_getD, List.getElem?_eq_getElem hlt]
        exact List.getElem_mem hlt
      · have hb : (y == n) = false := by rw [beq_eq_false_iff_ne]; exact he
        have HE := Lib.hid he
        clear he
        go_wp2
        go_round
        case rel =>
          refine ⟨k + 1, by omega, by go_num, fun j hj => ?_⟩
          by_cases hjk : j = k
          · rw [hjk, HY.out]; exact HE.out
          · exact HT.out j (by omega)
        case measure => simp [intOf]; omega
    · obtain rfl : k = xs.length := by omega
      go_wp2_with fail
      go_ret
      refine ⟨ret_bool ?_, rfl⟩
      symm
      unfold hasL
      rw [decide_eq_false_iff_not]
      intro h
      obtain ⟨j, hj, hjx⟩ := List.getElem_of_mem h
      exact HT.out j hj (by rw [List.getD_eq_getElem?_getD, List.getElem?_eq_getElem hj]; exact hjx)


theorem alvF_length (U : Nat) (xs : List Int) : ∀ f i, (alvF U xs f i).length ≤ f
  | 0, _ => by simp [alvF]
  | f + 1, i => by
    have := alvF_length U xs f (i + 1)
    rw [alvF]
    split <;> simp <;> omega
theorem alv_length (P U : Nat) (xs : List Int) (i : Nat) : (alvP P U xs i).length ≤ P := by
  have := alvF_length U xs (P - i) i
  unfold alvP
  omega

set_option maxHeartbeats 4000000 in
theorem ref09All_any (g : Geo) (v : Value) (xs : List Int) (fr : Int) (w : World) (hg : g.Wf) (hs : Sl w 0 v (iv xs)) (hk : IsInt fr) :
    Calls Try.prog 52 #[g.v, v, .int .i64 fr] w (Po fun e w' => ∃ u, e = .returned u ∧ w'.ownsRow (w.heap.size + 1) 3 1 u (g.alv xs fr).length (iv (g.alv xs fr)) ∧ Below w.heap.size w w') := by
  have HS := Lib.hid hs
  obtain ⟨a, cap, rfl, h1, h2, h3⟩ := hs.ints
  clear hs h3
  obtain ⟨k1, k2⟩ := hk
  by_cases hok : g.okB = true
  · have HOK := Lib.hid hok
    obtain ⟨p1, p2, p3, p4⟩ := Geo.pgs_le hok
    have hpp := (Geo.ok_of hok).p
    obtain ⟨U, hU⟩ : ∃ U : Nat, g.units = U := ⟨g.units.toNat, by omega⟩
    obtain ⟨P, hP⟩ : ∃ P : Nat, g.units * g.pages = P := ⟨(g.units * g.pages).toNat, by omega⟩
    obtain ⟨N, hN⟩ : ∃ N : Nat, g.pages = N := ⟨g.pages.toNat, by omega⟩
    have hPN : P = N * U := by rw [hU, hN] at hP; rw [Nat.mul_comm]; exact_mod_cast hP.symm
    rw [hU] at p1 p2
    rw [hP] at p3 p4
    rw [hN] at hpp
    obtain ⟨K, hK⟩ : ∃ K : Nat, max fr 0 = K := ⟨(max fr 0).toNat, by omega⟩
    obtain ⟨A, hA⟩ : ∃ A, alvP P U xs K = A := ⟨_, rfl⟩
    have hAl := alv_length P U xs K
    rw [hA] at hAl
    have hAV : g.alv xs fr = A := by
      unfold Geo.alv
      rw [if_pos hok, hP, hU, hK, ← hA]
      simp
    have HU : Hid (∀ wy, Calls Try.prog 66 #[g.v] wy fun e w' => e = .returned (.int .i64 U) ∧ Below wy.heap.size wy w') := by
      intro wy
      have := ref03Units_any g wy
      unfold Geo.unitsI at this
      rwa [if_pos hok, hU] at this
    rw [hAV]
    have HA := Lib.hid hA
    have HPN := Lib.hid hPN
    clear hok hU hP hA hAV hPN
    obtain ⟨c, l, b, p, s⟩ := g
    simp only at hN
    subst hN
    unfold Geo.v at HU ⊢
    have HG := Lib.hid (Blk.new w 23 [.int .i64 c, .int .i64 l, .int .i64 b, .int .i64 N, .int .i64 s])
    obtain ⟨i0, hif, hz0, hz1, hz2⟩ := info_parts info_int
    go_enter Try.func52, Try.ntmps52
    (go_wp2_with fail); refine (ref03Right_any ⟨c, l, b, N, s⟩ _).mono ?_
    rintro e w1 ⟨rfl, hb⟩
    rw [HOK.out]
    have hkb := HG.out.below hb
    have HG1 := Lib.hid hkb
    have HB1 := Lib.hid (((Below.refl w.heap.size w).alloc (Nat.le_refl _) _).trans (hb.mono (by simp)))
    clear hb hkb
    go_wp2_with fail
    go_loopw [7, 8, 9] (fun ou kk pg wr => ∃ (Q kn : Nat) (zs : List Int), Q ≤ N ∧ kn ≤ P ∧ pg = .int .i64 Q ∧ kk = .int .i64 kn ∧ Hid (kn = Q * U) ∧ Hid (zs ++ alvP P U xs (max K kn) = A) ∧ Hid (wr.ownsRow (w.heap.size + 1) 3 1 ou zs.length (iv zs)) ∧ Hid (Blk wr w.heap.size 23 [.int .i64 c, .int .i64 l, .int .i64 b, .int .i64 N, .int .i64 s]) ∧ Hid (Below w.heap.size w wr)) (fun _ _ pg _ => ((N : Int) - intOf pg).toNat)
    case atStart => exact ⟨0, 0, [], Nat.zero_le _, Nat.zero_le _, rfl, rfl, (Nat.zero_mul _).symm, by rw [List.nil_append, Nat.max_eq_left (Nat.zero_le _)]; exact HA.out, World.ownsRow_nil _ _ _ _, HG1.out, HB1.out⟩
    case round =>
      obtain ⟨Q, kn, zs, hQ, hkn, rfl, rfl, HKQ, HZ, HO, HGr, HBr⟩ := hrel
      have hkr := HGr.out
      have k3 : wr.cell? ⟨w.heap.size, 3, none⟩ = some (.int .i64 N) := hkr.cell 3
      clear hkr
      by_cases hlt : Q < N
      · have HQU : Hid ((Q + 1) * U ≤ P) := by rw [HPN.out]; exact Nat.mul_le_mul_right _ hlt
        obtain ⟨wo, rfl⟩ : ∃ wo : World, wo = wr := ⟨_, rfl⟩
        go_wp2_with fail
        go_loopw [7, 8, 10] (fun ou kk un wr => ∃ (V kn : Nat) (zs : List Int), V ≤ U ∧ kn ≤ P ∧ un = .int .i64 V ∧ kk = .int .i64 kn ∧ Hid (kn = Q * U + V) ∧ Hid (zs ++ alvP P U xs (max K kn) = A) ∧ Hid (wr.ownsRow (w.heap.size + 1) 3 1 ou zs.length (iv zs)) ∧ Hid (Blk wr w.heap.size 23 [.int .i64 c, .int .i64 l, .int .i64 b, .int .i64 N, .int .i64 s]) ∧ Hid (Below w.heap.size w wr)) (fun _ _ un _ => ((U : Int) - intOf un).toNat)
        case atStart => exact ⟨0, kn, zs, Nat.zero_le _, hkn, rfl, rfl, HKQ.out, HZ.out, HO.out, HGr.out, HBr.out⟩
        case round =>
          obtain ⟨V, kv, ys, hV, hkv, rfl, rfl, HKV, HY, HOy, HGy, HBy⟩ := hrel
          have hkr := HGy.out
          have k0 : wr.cell? ⟨w.heap.size, 0, none⟩ = some (.int .i64 c) := hkr.cell 0
          have k1 : wr.cell? ⟨w.heap.size, 1, none⟩ = some (.int .i64 l) := hkr.cell 1
          have k2 : wr.cell? ⟨w.heap.size, 2, none⟩ = some (.int .i64 b) := hkr.cell 2
          have k3 : wr.cell? ⟨w.heap.size, 3, none⟩ = some (.int .i64 N) := hkr.cell 3
          have k4 : wr.cell? ⟨w.heap.size, 4, none⟩ = some (.int .i64 s) := hkr.cell 4
          clear hkr
          (go_wp2_with fail); refine (HU.out _).mono ?_
          rintro e w3 ⟨rfl, hb⟩
          have HG3 := Lib.hid (HGy.out.below hb)
          have HO3 := Lib.hid (own_below HOy.out hb)
          have HB3 := Lib.hid (HBy.out.trans (hb.mono HBy.out.size))
          clear hb
          by_cases hlv : V < U
          · have HKP : Hid (kv < P) := by
              have h1 := HKV.out
              have h2 := HQU.out
              rw [Nat.add_mul, Nat.one_mul] at h2
              show kv < P
              omega
            have HMOD : Hid (kv % U = V) := by
              show kv % U = V
              rw [HKV.out, Nat.add_comm, Nat.add_mul_mod_self_right, Nat.mod_eq_of_lt hlv]
            have hST := alv_step (U := U) (xs := xs) HKP.out
            rw [HMOD.out] at hST
            have hyl : ys.length ≤ P := by
              have := congrArg List.length HY.out
              rw [List.length_append] at this
              omega
            have HSTh := Lib.hid hST
            clear hST
            (go_wp2_with fail); refine (ref09Has_any _ xs _ _ (HS.out.below HB3.out)).mono ?_
            rintro e w4 ⟨rfl, rfl⟩
            by_cases hd : hasL xs (V : Int) = true
            · have HNX : Hid (ys ++ alvP P U xs (max K (kv + 1)) = A) := by
                show _ = A
                rw [← HY.out]
                by_cases hKk : K ≤ kv
                · rw [Nat.max_eq_right hKk, Nat.max_eq_right (by omega), HSTh.out, if_pos hd]
                · rw [Nat.max_eq_left (by omega), Nat.max_eq_left (by omega)]
              rw [hd]
              clear hd
              go_wp2_with fail
              go_roundw
              case rel => exact ⟨V + 1, kv + 1, ys, by omega, by have := HKP.out; omega, by go_num, by go_num, by show kv + 1 = Q * U + (V + 1); rw [HKV.out]; omega, HNX.out, HO3.out, HG3.out, HB3.out⟩
              case measure => simp [intOf]; omega
            · have hd : hasL xs (V : Int) = false := by simpa using hd
              by_cases hf : fr ≤ kv
              · have HNX : Hid ((ys ++ [(kv : Int)]) ++ alvP P U xs (max K (kv + 1)) = A) := by
                  show _ = A
                  rw [← HY.out, Nat.max_eq_right (by omega), Nat.max_eq_right (by omega), HSTh.out, if_neg (by rw [hd]; decide), List.append_assoc]
                  rfl
                rw [hd]
                clear hd
                go_wp2_with (first | (at_builtin; refine wpList_append_own_at _ rfl (.tmp 37) (.tmp 39) 24 rfl (w.heap.size + 1) 3 i0 (.int .i64 0) 1 8 Try.underlying24 hif hz0 hz1 hz2 rfl (by decide) _ _ _ rfl (HO3.out.alloc _) ⟨w3.heap.size, 0, none⟩ 1 1 [.int .i64 kv] rfl rfl (cell_one_new _ _ _) (oneCell_one _ _) ?c3 ?c4 ?c5 ?K))
                case c3 => unfold maxLen; omega
                case c4 => omega
                case c5 => have := HB3.out.size; have := HG3.out.lt; simp; omega
                case K =>
                  intro v1 w5 hown hgrow hnil hat
                  clear hat hnil
                  have hp1 := (HG3.out.alloc (.cells #[Value.int IntKind.i64 kv] 3)).grown hgrow (own_ne HO3.out (by omega))
                  have hb1 := below_grown (B := w.heap.size) ((HB3.out).alloc HB3.out.size (.cells #[Value.int .i64 kv] 3)) (HO3.out.alloc _) hgrow (by have := HB3.out.size; simp; omega) (by omega)
                  have HO5 := Lib.hid hown
                  have HB5 := Lib.hid hb1
                  have HG5 := Lib.hid hp1
                  clear hown hgrow hb1 hp1
                  go_wp2
                  go_roundw
                  case rel =>
                    refine ⟨V + 1, kv + 1, ys ++ [(kv : Int)], by omega, by have := HKP.out; omega, by go_num, by go_num, by show kv + 1 = Q * U + (V + 1); rw [HKV.out]; omega, HNX.out, ?_, HG5.out, HB5.out⟩
                    have h := HO5.out
                    show Go.World.ownsRow _ _ _ _ _ _ _
                    simpa [iv] using h
                  case measure => simp [intOf]; omega
              · have HNX : Hid (ys ++ alvP P U xs (max K (kv + 1)) = A) := by
                  show _ = A
                  rw [← HY.out, Nat.max_eq_left (by omega), Nat.max_eq_left (by omega)]
                rw [hd]
                clear hd
                go_wp2_with fail
                go_roundw
                case rel => exact ⟨V + 1, kv + 1, ys, by omega, by have := HKP.out; omega, by go_num, by go_num, by show kv + 1 = Q * U + (V + 1); rw [HKV.out]; omega, HNX.out, HO3.out, HG3.out, HB3.out⟩
                case measure => simp [intOf]; omega
          · obtain rfl : V = U := by omega
            go_wp2_with fail
            go_roundw
            case rel => exact ⟨Q + 1, kv, ys, by omega, hkv, by go_num, rfl, by show kv = (Q + 1) * V; rw [HKV.out, Nat.add_mul, Nat.one_mul], HY.out, HO3.out, HG3.out, HB3.out⟩
            case measure => simp [intOf]; omega
      · obtain rfl : Q = N := by omega
        have HAZ : Hid (zs = A) := by
          have := HZ.out
          rw [alv_end (by rw [HKQ.out, ← HPN.out]; omega), List.append_nil] at this
          exact this
        go_wp2_with fail
        go_ret
        exact Po.mk ⟨_, rfl, by rw [← HAZ.out]; exact HO.out, HBr.out⟩
  · have hk1 : g.okB = false := by simpa using hok
    have hAV : g.alv xs fr = [] := by
      unfold Geo.alv
      rw [if_neg hok]
    rw [hAV]
    have HK1 := Lib.hid hk1
    clear hk1 hok hAV
    obtain ⟨c, l, b, p, s⟩ := g
    unfold Geo.v
    go_enter Try.func52, Try.ntmps52
    (go_wp2_with fail); refine (ref03Right_any ⟨c, l, b, p, s⟩ _).mono ?_
    rintro e w1 ⟨rfl, hb⟩
    rw [HK1.out]
    have HB1 := Lib.hid (((Below.refl w.heap.size w).alloc (Nat.le_refl _) _).trans (hb.mono (by simp)))
    clear hb
    go_wp2
    go_ret
    exact Po.mk ⟨_, rfl, World.ownsRow_nil _ _ _ _, HB1.out⟩

set_option maxHeartbeats 1000000 in
theorem ref09Next_any (g : Geo) (v : Value) (xs : List Int) (k : Int) (w : World) (hg : g.Wf) (hs : Sl w 0 v (iv xs)) (hk : IsInt k) :
    Calls Try.prog 17 #[g.v, v, .int .i64 k] w fun e w' => e = .returned (.int .i64 (g.nxt xs k)) ∧ Below w.heap.size w w' := by
  have HA : Hid (∀ (wy : World), Below w.heap.size w wy → Calls Try.prog 52 #[g.v, v, .int .i64 k] wy (Po fun e w' => ∃ u, e = .returned u ∧ w'.ownsRow (wy.heap.size + 1) 3 1 u (g.alv xs k).length (iv (g.alv xs k)) ∧ Below wy.heap.size wy w')) :=
    fun wy hy => ref09All_any g v xs k wy hg (hs.below hy) hk
  obtain ⟨a, cap, rfl, h1, h2, h3⟩ := hs.ints
  clear h3 hs
  have hlen : (g.alv xs k).length ≤ 256 := by
    unfold Geo.alv
    split
    · rename_i hok
      have := alv_length (g.units * g.pages).toNat g.units.toNat xs (max k 0).toNat
      have := Geo.pgs_le hok
      omega
    · simp
  have HN : Hid (g.nxt xs k = (g.alv xs k).headD (-1)) := rfl
  obtain ⟨A, hA⟩ : ∃ A, g.alv xs k = A := ⟨_, rfl⟩
  rw [hA] at HA HN hlen
  clear hA
  have HG := Lib.hid ((Below.refl w.heap.size w).alloc (Nat.le_refl _) (.cells #[.int .i64 g.chans, .int .i64 g.luns, .int .i64 g.blocks, .int .i64 g.pages, .int .i64 g.sectors] 23))
  obtain ⟨c, l, b, p, s⟩ := g
  unfold Geo.v at HA ⊢
  go_enter Try.func17, Try.ntmps17
  (go_wp2_with fail); refine (HA.out _ HG.out).mono ?_
  rintro e w2 ⟨u, rfl, ho, hb⟩
  obtain ⟨ua, ucap, rfl⟩ := own_slice ho
  have HB2 := Lib.hid (HG.out.trans (hb.mono HG.out.size))
  have hsl := Sl.of_own ho (by rw [iv_length]; omega)
  obtain ⟨a', cap', e1, h1', h2', h3⟩ := hsl.ints
  cases e1
  clear hb ho hsl
  cases A with
  | nil =>
    go_wp2
    go_ret
    exact ⟨ret_int HN.out.symm, HB2.out⟩
  | cons x A =>
    obtain ⟨bb, off, rfl, h4, h5, h6⟩ := h3 (by simp)
    have hc := h6 0 (by simp)
    simp only [List.getD_cons_zero, Nat.add_zero] at hc
    clear h6 h3
    go_wp2
    go_ret
    exact ⟨ret_int HN.out.symm, HB2.out⟩

set_option maxHeartbeats 1000000 in
theorem ref09Left_any (g : Geo) (v : Value) (xs : List Int) (k : Int) (w : World) (hg : g.Wf) (hs : Sl w 0 v (iv xs)) (hk : IsInt k) :
    Calls Try.prog 33 #[g.v, v, .int .i64 k] w fun e w' => e = .returned (.int .i64 ((g.alv xs k).length : Nat)) ∧ Below w.heap.size w w' := by
  have HA : Hid (∀ (wy : World), Below w.heap.size w wy → Calls Try.prog 52 #[g.v, v, .int .i64 k] wy (Po fun e w' => ∃ u, e = .returned u ∧ w'.ownsRow (wy.heap.size + 1) 3 1 u (g.alv xs k).length (iv (g.alv xs k)) ∧ Below wy.heap.size wy w')) :=
    fun wy hy => ref09All_any g v xs k wy hg (hs.below hy) hk
  obtain ⟨a, cap, rfl, h1, h2, h3⟩ := hs.ints
  clear h3 hs
  obtain ⟨A, hA⟩ : ∃ A, g.alv xs k = A := ⟨_, rfl⟩
  rw [hA] at HA ⊢
  clear hA
  have HG := Lib.hid ((Below.refl w.heap.size w).alloc (Nat.le_refl _) (.cells #[.int .i64 g.chans, .int .i64 g.luns, .int .i64 g.blocks, .int .i64 g.pages, .int .i64 g.sectors] 23))
  obtain ⟨c, l, b, p, s⟩ := g
  unfold Geo.v at HA ⊢
  go_enter Try.func33, Try.ntmps33
  (go_wp2_with fail); refine (HA.out _ HG.out).mono ?_
  rintro e w2 ⟨u, rfl, ho, hb⟩
  obtain ⟨ua, ucap, rfl⟩ := own_slice ho
  have HB2 := Lib.hid (HG.out.trans (hb.mono HG.out.size))
  clear hb ho
  go_wp2
  go_ret
  exact ⟨rfl, HB2.out⟩

end Go.Proofs.Ytbfpnpoafepjjaa
