/-
  The walks of the laws over package l2p: L2pNewest.
-/
import Derived.Test.YtbfpnpoafepjjaaLaw11b
set_option linter.unusedVariables false
set_option linter.unusedSimpArgs false
set_option maxRecDepth 16384
namespace Go.Proofs.Ytbfpnpoafepjjaa
open Go.RowKit

/-- ten sectors of which the eighth is there -/
def lone (cur : Ent) : List Ent := [Ent.none, Ent.none, Ent.none, Ent.none, Ent.none, Ent.none, Ent.none, cur, Ent.none, Ent.none]

theorem whoIx_lone (cur : Ent) (a : Int) (h : 0 ≤ a) : whoIx (lone cur) a = if cur.a = a then 8 else 0 := by
  have hn : ¬ Ent.none.a = a := by show ¬ (-1 : Int) = a; omega
  unfold whoIx lone
  by_cases h0 : cur.a = a <;> simp [List.findIdx?_cons, h0, hn]
theorem manyN_lone (cur : Ent) (h : 0 ≤ cur.a) : manyN (lone cur) = 1 := by
  have hn : ¬ 0 ≤ Ent.none.a := by decide
  unfold manyN lone
  simp [List.countP_cons, h, hn]

theorem mod_two {n x : Nat} (h : x < 2 * n) : x % n = if x < n then x else x - n := by
  split
  · exact Nat.mod_eq_of_lt (by assumption)
  · rw [Nat.mod_eq_sub_mod (by omega), Nat.mod_eq_of_lt (by omega)]

/-- what is the sector's behind i of the calls -/
def Newest (xs : List Int) (r i : Nat) (cur : Ent) : Prop :=
  (i = 0 ∧ cur = Ent.none) ∨ ((∃ j, j < i ∧ cur = ⟨((j + r) % xs.length : Nat), xs.getD ((j + r) % xs.length) 0, 1⟩) ∧ ∀ j, j < i → xs.getD ((j + r) % xs.length) 0 ≤ cur.s)

theorem newest_keep {xs : List Int} {r i : Nat} {cur : Ent} (h : Newest xs r i cur) (hr : r < xs.length) (hi : i < xs.length) (hp : 1 ≤ xs.getD ((i + r) % xs.length) 0) (hs : xs.getD ((i + r) % xs.length) 0 ≤ cur.s) :
    Newest xs r (i + 1) cur ∧ cur.a ≠ ((i + r) % xs.length : Nat) := by
  rcases h with ⟨rfl, rfl⟩ | ⟨⟨j, hj, hc⟩, hall⟩
  · have : Ent.none.s = 0 := rfl
    omega
  · refine ⟨.inr ⟨⟨j, by omega, hc⟩, fun k hk => ?_⟩, ?_⟩
    · by_cases hki : k = i
      · rw [hki]; exact hs
      · exact hall k (by omega)
    · rw [hc]
      simp only
      have h1 := mod_two (n := xs.length) (x := j + r) (by omega)
      have h2 := mod_two (n := xs.length) (x := i + r) (by omega)
      rw [h1, h2]
      split <;> split <;> omega
theorem newest_new {xs : List Int} {r i : Nat} {cur : Ent} (h : Newest xs r i cur) (hs : ¬ xs.getD ((i + r) % xs.length) 0 ≤ cur.s) :
    Newest xs r (i + 1) ⟨((i + r) % xs.length : Nat), xs.getD ((i + r) % xs.length) 0, 1⟩ := by
  refine .inr ⟨⟨i, by omega, rfl⟩, fun k hk => ?_⟩
  by_cases hki : k = i
  · rw [hki]; exact Int.le_refl _
  · rcases h with ⟨rfl, rfl⟩ | ⟨_, hall⟩
    · omega
    · have := hall k (by omega)
      simp only
      omega
theorem newest_end {xs : List Int} {r : Nat} {cur : Ent} (hr : r < xs.length) (h : Newest xs r xs.length cur) :
    ∃ p, p < xs.length ∧ cur = ⟨(p : Nat), xs.getD p 0, 1⟩ ∧ ∀ q, q < xs.length → xs.getD q 0 ≤ xs.getD p 0 := by
  rcases h with ⟨h0, _⟩ | ⟨⟨j, hj, hc⟩, hall⟩
  · omega
  · refine ⟨(j + r) % xs.length, Nat.mod_lt _ (by omega), hc, fun q hq => ?_⟩
    have hcs : cur.s = xs.getD ((j + r) % xs.length) 0 := by rw [hc]
    rw [← hcs]
    by_cases hqr : r ≤ q
    · have := hall (q - r) (by omega)
      rwa [show q - r + r = q by omega, Nat.mod_eq_of_lt hq] at this
    · have := hall (q + xs.length - r) (by omega)
      rwa [show q + xs.length - r + r = q + xs.length by omega, Nat.add_mod_right, Nat.mod_eq_of_lt hq] at this
/-- what the sector may be -/
theorem newest_fine {xs : List Int} {r i : Nat} {cur : Ent} (h : Newest xs r i cur) (hr : r < xs.length) (hx : ∀ q, q < xs.length → xs.getD q 0 ≤ 1125899906842624) : cur.a < 1000 ∨ 1000 ≤ xs.length := by
  rcases h with ⟨_, rfl⟩ | ⟨⟨j, hj, hc⟩, _⟩
  · exact .inl (by decide)
  · rw [hc]
    have := Nat.mod_lt (j + r) (show 0 < xs.length by omega)
    simp only
    omega

/-- the greatest of the first k, and 0 -/
def bestN (xs : List Int) (k : Nat) : Int := (xs.take k).foldl max 0
theorem bestN_zero (xs : List Int) : bestN xs 0 = 0 := by simp [bestN]
theorem bestN_succ {xs : List Int} {k : Nat} (h : k < xs.length) : bestN xs (k + 1) = max (bestN xs k) (xs.getD k 0) := by
  unfold bestN
  rw [List.take_add_one, List.foldl_append, List.getD_eq_getElem?_getD, List.getElem?_eq_getElem h]
  rfl
theorem bestN_ge {xs : List Int} : ∀ {k : Nat}, k ≤ xs.length → ∀ q, q < k → xs.getD q 0 ≤ bestN xs k
  | 0, _, q, h => by omega
  | k + 1, hk, q, h => by
    rw [bestN_succ (by omega)]
    by_cases hq : q = k
    · rw [hq]; omega
    · have := bestN_ge (xs := xs) (k := k) (by omega) q (by omega)
      omega
theorem bestN_in {xs : List Int} : ∀ {k : Nat}, k ≤ xs.length → bestN xs k = 0 ∨ ∃ q, q < k ∧ bestN xs k = xs.getD q 0
  | 0, _ => .inl (bestN_zero _)
  | k + 1, hk => by
    rw [bestN_succ (by omega)]
    rcases bestN_in (xs := xs) (k := k) (by omega) with h | ⟨q, h1, h2⟩
    · by_cases h3 : xs.getD k 0 ≤ 0
      · exact .inl (by omega)
      · exact .inr ⟨k, by omega, by omega⟩
    · by_cases h3 : xs.getD k 0 ≤ bestN xs k
      · exact .inr ⟨q, by omega, by omega⟩
      · exact .inr ⟨k, by omega, by omega⟩
theorem best_is {xs : List Int} {p : Nat} (hp : p < xs.length) (h1 : ∀ q, q < xs.length → 1 ≤ xs.getD q 0) (h : ∀ q, q < xs.length → xs.getD q 0 ≤ xs.getD p 0) : bestN xs xs.length = xs.getD p 0 := by
  have h2 := bestN_ge (xs := xs) (Nat.le_refl _) p hp
  have h3 := h1 p hp
  rcases bestN_in (xs := xs) (Nat.le_refl xs.length) with h4 | ⟨q, h4, h5⟩
  · omega
  · have := h q h4
    omega

theorem newest_set {g : Geo} {cur : Ent} {a : Nat} {s : Int} (ha : (a : Int) < g.all) (hs : 1 ≤ s ∧ s ≤ 1125899906842624) :
    setTo g (lone cur) 7 ⟨a, s, 1⟩ = if s ≤ cur.s then (false, 0, lone cur) else (true, 0, lone ⟨a, s, 1⟩) := by
  have hw : whoIx (lone cur) (a : Int) = 0 ∨ whoIx (lone cur) (a : Int) = 7 + 1 := by
    rw [whoIx_lone cur a (by omega)]
    split
    · exact .inr rfl
    · exact .inl rfl
  split
  · rename_i h
    exact setTo_old (i := 7) (old := cur) rfl ⟨by simp only; omega, ha⟩ (.inl rfl) hs hw h
  · rename_i h
    exact setTo_ok (i := 7) (old := cur) rfl ⟨by simp only; omega, ha⟩ (.inl rfl) hs hw (by simp only; omega)

/-- a slice's cell -/
theorem ints_at {w : World} {B : Nat} {b : Nat} {off cap : Nat} {xs : List Int} (h : Sl w B (.slice (some ⟨b, off, none⟩) xs.length cap) (iv xs)) {k : Nat} (hk : k < xs.length) : w.cell? ⟨b, off + k, none⟩ = some (.int .i64 (xs.getD k 0)) := by
  obtain ⟨a', cap', e1, h1', h2', h3⟩ := h.ints
  cases e1
  obtain ⟨b', off', e2, h4, h5, h6⟩ := h3 (by omega)
  cases e2
  exact h6 k hk

theorem nw_new : newOk ⟨4, 2, 8, 8, 1⟩ 10 = true := by decide +kernel
theorem nw_all : Geo.all ⟨4, 2, 8, 8, 1⟩ = 512 := by decide +kernel

set_option maxHeartbeats 4000000 in
theorem l2pNewestWalk (a0 : Option Addr) (len0 cap0 : Nat) (z0 : List Int) (tn : Int) (w : World) (w0 : IsRow .i64 w a0 len0 cap0 z0) (ht : (Lit.int .i64 tn).wf = true) :
    Calls Try.prog 12 #[.slice a0 len0 cap0, .int .i64 tn] w fun e w' => e = .returned (.bool true) ∧ Below w.heap.size w w' := by
  obtain ⟨ht1, ht2⟩ := wf_i64 ht
  have hll := w0.len_le
  clear ht
  have hgw : Geo.Wf ⟨4, 2, 8, 8, 1⟩ := ⟨⟨by decide, by decide⟩, ⟨by decide, by decide⟩, ⟨by decide, by decide⟩, ⟨by decide, by decide⟩, ⟨by decide, by decide⟩⟩
  go_enter Try.func12, Try.ntmps12
  (go_wp2_with fail); refine (awake11_any _).mono ?_
  rintro e w1 ⟨rfl, hb⟩
  have HB1 := Lib.hid hb
  have hb2 : Below w1.heap.size w1 (w1.alloc (.cells #[.int .i64 4, .int .i64 2, .int .i64 8, .int .i64 8, .int .i64 1] 23)) := (Below.refl w1.heap.size w1).alloc (Nat.le_refl _) _
  have HB2 := Lib.hid (hb.trans (hb2.mono hb.size))
  clear hb hb2
  (go_wp2_with fail); refine (l2pNew_any ⟨4, 2, 8, 8, 1⟩ 10 _ hgw ⟨by decide, by decide⟩).mono ?_
  intro e w2 hp
  obtain ⟨hb, m, kt, kw, vb, st, sw, rfl, hm⟩ := newPost_ok hp nw_new
  have HM3 := Lib.hid hm
  have HB3 := Lib.hid (HB2.out.trans (hb.mono HB2.out.size))
  have hB0 := HB2.out.size
  generalize hBB : (w1.alloc (.cells #[.int .i64 4, .int .i64 2, .int .i64 8, .int .i64 8, .int .i64 1] 23)).heap.size = B at HM3 hB0
  generalize hCC2 : w2.heap.size = C at HM3
  clear hp hm hb hgw
  by_cases hl0 : len0 = 0
  · subst hl0
    clear w0
    go_wp2_with fail
    go_ret
    exact ⟨rfl, HB3.out⟩
  have hl0b : ((len0 : Int) == 0) = false := by simp [hl0]
  by_cases hl : 200 < len0
  · clear w0
    go_wp2_with fail
    go_ret
    exact ⟨rfl, HB3.out⟩
  by_cases ht0 : tn < 0
  · clear w0
    go_wp2_with fail
    go_ret
    exact ⟨rfl, HB3.out⟩
  obtain ⟨hs, hlen, hwf⟩ := w0.sl (by omega)
  generalize z0.take len0 = xs at *
  subst hlen
  clear w0 hwf
  have HS : Hid (Sl w 0 (.slice a0 xs.length cap0) (iv xs)) := hs
  clear hs
  obtain ⟨T, rfl⟩ : ∃ T : Nat, tn = T := ⟨tn.toNat, by omega⟩
  go_wp2_with fail
  go_loopw [9, 10] (fun bst t wr => ∃ k : Nat, k ≤ xs.length ∧ t = .int .i64 k ∧ bst = .int .i64 (bestN xs k) ∧ wr = w2 ∧ Hid (∀ q, q < k → 1 ≤ xs.getD q 0 ∧ xs.getD q 0 ≤ 1125899906842624)) (fun _ t _ => ((xs.length : Int) - intOf t).toNat)
  case atStart => exact ⟨0, Nat.zero_le _, rfl, by rw [bestN_zero], rfl, fun q hq => by omega⟩
  case round =>
    obtain ⟨k, hk, rfl, rfl, rfl, HT⟩ := hrel
    by_cases hlt : k < xs.length
    · obtain ⟨a', cap', e1, h1', h2', h3⟩ := (HS.out.below HB3.out).ints
      cases e1
      obtain ⟨b, off, rfl, h4, h5, h6⟩ := h3 (by omega)
      have hc := h6 k hlt
      clear h6 h3 h1' h2'
      obtain ⟨y, hy⟩ : ∃ y, xs.getD k 0 = y := ⟨_, rfl⟩
      rw [hy] at hc
      have HY := Lib.hid hy
      have HN := Lib.hid (bestN_succ hlt)
      obtain ⟨bk, hbk⟩ : ∃ b, bestN xs k = b := ⟨_, rfl⟩
      rw [hbk] at HN
      rw [hbk]
      rw [hy] at HN
      clear hy hbk
      by_cases hy1 : y < 1
      · go_wp2_with fail
        go_ret
        exact ⟨rfl, HB3.out⟩
      by_cases hy9 : 1125899906842624 < y
      · go_wp2_with fail
        go_ret
        exact ⟨rfl, HB3.out⟩
      have hmx : max y bk = max bk y := by omega
      go_wp2_with fail
      go_roundw
      case rel =>
        refine ⟨k + 1, by omega, by go_num, by rw [HN.out], trivial, fun q hq => ?_⟩
        by_cases hqk : q = k
        · rw [hqk, HY.out]; omega
        · exact HT.out q (by omega)
      case measure => simp [intOf]; omega
    · obtain rfl : k = xs.length := by omega
      have hb0 : ∃ b off, a0 = some ⟨b, off, none⟩ := by
        obtain ⟨a', cap', e1, h1', h2', h3⟩ := HS.out.ints
        cases e1
        obtain ⟨b, off, rfl, _⟩ := h3 (by omega)
        exact ⟨b, off, rfl⟩
      obtain ⟨sb, so, rfl⟩ := hb0
      obtain ⟨r, hr⟩ : ∃ r, T % xs.length = r := ⟨_, rfl⟩
      have hrn : r < xs.length := by rw [← hr]; exact Nat.mod_lt _ (by omega)
      have htm1 : (T : Int).tmod (xs.length : Int) = (r : Int) := by rw [Int.tmod_eq_emod_of_nonneg (by omega), ← hr]; rfl
      have hte1 : (T : Int) % (xs.length : Int) = (r : Int) := by rw [← hr]; rfl
      have hwr : IntKind.i64.wrap (r : Int) = r := wrap_in _ ⟨by omega, by omega⟩
      have hn0 : ¬ xs.length = 0 := by omega
      have hn1 : ¬ (xs.length : Int) = 0 := by omega
      have hNE := Lib.hid (fun cur h => newest_end (cur := cur) hrn h)
      have HTW := Lib.hid HT
      have HM4 : Hid (MapAt wr B C m ⟨4, 2, 8, 8, 1⟩ (lone Ent.none) kt kw vb st sw) := HM3
      clear hr HM3
      go_wp2_with fail
      go_loopw [11] (fun t wr => ∃ (i : Nat) (cur : Ent), i ≤ xs.length ∧ t = .int .i64 i ∧ Hid (Newest xs r i cur) ∧ Hid (MapAt wr B C m ⟨4, 2, 8, 8, 1⟩ (lone cur) kt kw vb st sw) ∧ Hid (Below w.heap.size w wr)) (fun t _ => ((xs.length : Int) - intOf t).toNat)
      case atStart => exact ⟨0, Ent.none, Nat.zero_le _, rfl, .inl ⟨rfl, rfl⟩, HM4.out, HB3.out⟩
      case round =>
        obtain ⟨i, cur, hi, rfl, HNW, HMr, HBr⟩ := hrel
        by_cases hlt : i < xs.length
        · obtain ⟨at_, hat⟩ : ∃ q, (i + r) % xs.length = q := ⟨_, rfl⟩
          have hatn : at_ < xs.length := by rw [← hat]; exact Nat.mod_lt _ (by omega)
          obtain ⟨X, hX⟩ : ∃ X, i + r = X := ⟨_, rfl⟩
          have hsum : IntKind.i64.wrap ((i : Int) + (r : Int)) = (X : Int) := by rw [wrap_in _ ⟨by omega, by omega⟩]; omega
          have htm2 : (X : Int).tmod (xs.length : Int) = (at_ : Int) := by rw [Int.tmod_eq_emod_of_nonneg (by omega), ← hat, hX]; rfl
          have hte2 : (X : Int) % (xs.length : Int) = (at_ : Int) := by rw [← hat, hX]; rfl
          have hwa : IntKind.i64.wrap (at_ : Int) = at_ := wrap_in _ ⟨by omega, by omega⟩
          obtain ⟨y, hy⟩ : ∃ y, xs.getD at_ 0 = y := ⟨_, rfl⟩
          have hyT := HTW.out at_ hatn
          have HY := Lib.hid hy
          rw [hy] at hyT
          have HKEEP : Hid (y ≤ cur.s → Newest xs r (i + 1) cur ∧ cur.a ≠ (at_ : Nat)) := fun h => by
            have := newest_keep HNW.out hrn hlt
            rw [hat, hy] at this
            exact this hyT.1 h
          have HNEWW : Hid (¬ y ≤ cur.s → Newest xs r (i + 1) ⟨(at_ : Nat), y, 1⟩) := fun h => by
            have := newest_new (i := i) HNW.out
            rw [hat, hy] at this
            exact this h
          have HSET := Lib.hid (newest_set (g := ⟨4, 2, 8, 8, 1⟩) (cur := cur) (a := at_) (s := y) (by rw [nw_all]; omega) hyT)
          clear hat hX hy
          have hcS := ints_at (HS.out.below HBr.out) hatn
          rw [show xs.getD at_ 0 = y from HY.out] at hcS
          (go_wp2_with fail); refine (mapSet_any HMr.out 7 ⟨at_, y, 1⟩).mono ?_
          intro e w3 hp
          by_cases hyc : y ≤ cur.s
          · obtain ⟨hkp, hne⟩ := HKEEP.out hyc
            have HKP := Lib.hid hkp
            obtain ⟨rfl, hm, ho⟩ := opPost_is hp (HSET.out.trans (if_pos hyc))
            have HM3 := Lib.hid hm
            have HB3' := Lib.hid (HBr.out.trans (ho.below hB0 HBr.out.size))
            clear hp hm ho hkp HKEEP HNEWW HSET hcS
            simp only []
            (go_wp2_with fail); refine (mapGet_any HM3.out 7 cur rfl).mono ?_
            rintro e w4 ⟨rfl, hb⟩
            obtain ⟨ca, cs, ck⟩ := cur
            simp only at hne hyc
            simp only [Ent.v]
            have hb2 : Below w4.heap.size w4 (w4.alloc (.cells #[.int .i64 ca, .int .i64 cs, .int .i64 ck] 55)) := (Below.refl w4.heap.size w4).alloc (Nat.le_refl _) _
            have HM4 := Lib.hid ((HM3.out.below hb).below hb2)
            have HB4 := Lib.hid ((HB3'.out.trans (hb.mono HB3'.out.size)).trans (hb2.mono (HB3'.out.trans (hb.mono HB3'.out.size)).size))
            have hB4 : Below w.heap.size w w4 := HB3'.out.trans (hb.mono HB3'.out.size)
            have hcS := ints_at (HS.out.below hB4) hatn
            rw [show xs.getD at_ 0 = y from HY.out] at hcS
            have hcl := World.block_lt_of_cell? w4 _ hcS
            have hne2 : (ca == (at_ : Int)) = false := by rw [beq_eq_false_iff_ne]; exact hne
            have hcy : decide (cs < y) = false := decide_eq_false (by omega)
            have hat0 : (0 : Int) ≤ at_ := by omega
            have hatl : (at_ : Int) < xs.length := by omega
            have hxx := Blk.new w4 55 [.int .i64 ca, .int .i64 cs, .int .i64 ck]
            have hcT := (hb2.cell (p := ⟨sb, so + at_, none⟩) hcl).trans hcS
            clear hb hb2 hB4 hne
            go_wp2_with fail
            have v0 := hxx.cell 0
            have v1 := hxx.cell 1
            simp only [List.getElem?_cons_zero, List.getElem?_cons_succ] at v0 v1
            generalize w4.alloc (.cells #[.int .i64 ca, .int .i64 cs, .int .i64 ck] 55) = wx at HM4 HB4 hcT v0 v1 ⊢
            clear hxx hcS hcl
            refine wp_region_b 22 (by kernel_rfl) (by kernel_rfl) ?_
            simp only [List.take_succ_cons, List.take_zero, List.drop_succ_cons, List.drop_zero]
            repeat (first
              | (refine SeqC.run (v := ?_) ?_ (fun wz hz => ?_) ?_; rotate_left; (· rfl); (· have hzc := hz.cell; have hzf := hz.frozen; go_simp; first | exact UponS.value hz | exact UponS.skip hz | (refine UponS.call ?_; fail)); (try simp only [Act.put, List.setIfInBounds_toArray, List.set_cons_zero, List.set_cons_succ]))
              | (refine SeqC.skip ?_ ?_; (· rfl); (try simp only [Act.put, List.setIfInBounds_toArray, List.set_cons_zero, List.set_cons_succ])))
            refine fun wz hz => ?_
            go_wp2
            go_roundw
            case rel => exact ⟨i + 1, ⟨ca, cs, ck⟩, by omega, by go_num, HKP.out, HM4.out.sinceD hz, HB4.out.drew.trans (hz.below.mono HB4.out.size)⟩
            case measure => simp [intOf]; omega
          · have HKP := Lib.hid (HNEWW.out (by omega))
            obtain ⟨rfl, hm, ho⟩ := opPost_is hp (HSET.out.trans (if_neg hyc))
            have HM3 := Lib.hid hm
            have HB3' := Lib.hid (HBr.out.trans (ho.below hB0 HBr.out.size))
            clear hp hm ho HKEEP HNEWW HSET hcS
            simp only []
            (go_wp2_with fail); refine (mapGet_any HM3.out 7 ⟨at_, y, 1⟩ rfl).mono ?_
            rintro e w4 ⟨rfl, hb⟩
            simp only [Ent.v]
            have hb2 : Below w4.heap.size w4 (w4.alloc (.cells #[.int .i64 at_, .int .i64 y, .int .i64 1] 55)) := (Below.refl w4.heap.size w4).alloc (Nat.le_refl _) _
            have HM4 := Lib.hid ((HM3.out.below hb).below hb2)
            have HB4 := Lib.hid ((HB3'.out.trans (hb.mono HB3'.out.size)).trans (hb2.mono (HB3'.out.trans (hb.mono HB3'.out.size)).size))
            have hB4 : Below w.heap.size w w4 := HB3'.out.trans (hb.mono HB3'.out.size)
            have hcS := ints_at (HS.out.below hB4) hatn
            rw [show xs.getD at_ 0 = y from HY.out] at hcS
            have hcl := World.block_lt_of_cell? w4 _ hcS
            have hne2 : ((at_ : Int) == (at_ : Int)) = true := by simp
            have hcy : decide (y < y) = false := decide_eq_false (by omega)
            have hat0 : (0 : Int) ≤ at_ := by omega
            have hatl : (at_ : Int) < xs.length := by omega
            have hxx := Blk.new w4 55 [.int .i64 at_, .int .i64 y, .int .i64 1]
            have hcT := (hb2.cell (p := ⟨sb, so + at_, none⟩) hcl).trans hcS
            clear hb hb2 hB4
            go_wp2_with fail
            have v0 := hxx.cell 0
            have v1 := hxx.cell 1
            simp only [List.getElem?_cons_zero, List.getElem?_cons_succ] at v0 v1
            generalize w4.alloc (.cells #[.int .i64 at_, .int .i64 y, .int .i64 1] 55) = wx at HM4 HB4 hcT v0 v1 ⊢
            clear hxx hcS hcl
            refine wp_region_b 22 (by kernel_rfl) (by kernel_rfl) ?_
            simp only [List.take_succ_cons, List.take_zero, List.drop_succ_cons, List.drop_zero]
            repeat (first
              | (refine SeqC.run (v := ?_) ?_ (fun wz hz => ?_) ?_; rotate_left; (· rfl); (· have hzc := hz.cell; have hzf := hz.frozen; go_simp; first | exact UponS.value hz | exact UponS.skip hz | (refine UponS.call ?_; fail)); (try simp only [Act.put, List.setIfInBounds_toArray, List.set_cons_zero, List.set_cons_succ]))
              | (refine SeqC.skip ?_ ?_; (· rfl); (try simp only [Act.put, List.setIfInBounds_toArray, List.set_cons_zero, List.set_cons_succ])))
            refine fun wz hz => ?_
            go_wp2
            go_roundw
            case rel => exact ⟨i + 1, ⟨at_, y, 1⟩, by omega, by go_num, HKP.out, HM4.out.sinceD hz, HB4.out.drew.trans (hz.below.mono HB4.out.size)⟩
            case measure => simp [intOf]; omega
        · obtain rfl : i = xs.length := by omega
          obtain ⟨q, hq, rfl, hmax⟩ := hNE.out cur HNW.out
          have HBEST := Lib.hid (best_is hq (fun q hq => (HTW.out q hq).1) hmax)
          obtain ⟨y, hy⟩ : ∃ y, xs.getD q 0 = y := ⟨_, rfl⟩
          have HY := Lib.hid hy
          rw [hy] at HMr HBEST
          have HMAN := Lib.hid (manyN_lone ⟨(q : Nat), y, 1⟩ (by simp only; omega))
          rw [HBEST.out]
          clear hmax hy HNW
          (go_wp2_with fail); refine (mapGet_any HMr.out 7 ⟨(q : Nat), y, 1⟩ rfl).mono ?_
          rintro e w4 ⟨rfl, hb⟩
          simp only [Ent.v]
          have hb2 : Below w4.heap.size w4 (w4.alloc (.cells #[.int .i64 q, .int .i64 y, .int .i64 1] 55)) := (Below.refl w4.heap.size w4).alloc (Nat.le_refl _) _
          have HM4 := Lib.hid ((HMr.out.below hb).below hb2)
          have hB4 : Below w.heap.size w w4 := HBr.out.trans (hb.mono HBr.out.size)
          have HB4 := Lib.hid (hB4.trans (hb2.mono hB4.size))
          have hcS := ints_at (HS.out.below hB4) hq
          rw [show xs.getD q 0 = y from HY.out] at hcS
          have hcl := World.block_lt_of_cell? w4 _ hcS
          have hq0 : (0 : Int) ≤ q := by omega
          have hql : (q : Int) < xs.length := by omega
          have hxx := Blk.new w4 55 [.int .i64 q, .int .i64 y, .int .i64 1]
          have hcT := (hb2.cell (p := ⟨sb, so + q, none⟩) hcl).trans hcS
          have v0 := hxx.cell 0
          have v1 := hxx.cell 1
          simp only [List.getElem?_cons_zero, List.getElem?_cons_succ] at v0 v1
          clear hb hb2 hB4 hxx hcS
          (go_wp2_with fail); refine (mapMany_any HM4.out).mono ?_
          rintro e w5 ⟨rfl, rfl⟩
          rw [HMAN.out]
          go_wp2_with fail
          go_ret
          exact ⟨ret_bool (by simp), HB4.out⟩

end Go.Proofs.Ytbfpnpoafepjjaa
