/-
  Package strakeref07: New, Next.
-/
import Derived.Test.YtlkapaecaeldpaaNandB
set_option linter.unusedVariables false
set_option linter.unusedSimpArgs false
set_option maxRecDepth 16384
namespace Go.Proofs.Ytlkapaecaeldpaa
open Go.RowKit

set_option maxHeartbeats 400000 in
theorem ref07New_any (v : Value) (xs : List Int) (w : World) (hs : Sl w 0 v (bv xs)) :
    Calls Try.prog 81 #[v] w fun e w' => PlanNewPost 166 w xs e w' := by
  obtain ⟨i0, hif, hz0, hz1, hz2⟩ := info_parts info_u8
  obtain ⟨a, cap, rfl, h1, h2, h3⟩ := hs.bytes
  have HS := Lib.hid hs
  clear hs h3
  go_enter Try.func81, Try.ntmps81
  go_wp2_with (first | (at_builtin; refine wpList_append_sl _ rfl (.tmp 3) (.tmp 4) 45 rfl w.heap.size 5 i0 (.int .u8 0) 1 Try.underlying45 hif hz0 hz1 hz2 rfl (.slice (some ⟨w.heap.size, 0, none⟩) 0 0) 0 [] rfl (World.ownsRow_made w #[] 0 (Nat.le_refl _) (Nat.zero_le _) rfl) 0 _ (bv xs) rfl ?hsl ?h1 ?h63 ?hby ?hba ?K))
  case hsl => exact HS.out.below ((Below.refl _ _).alloc (Nat.le_refl _) _)
  case h1 => exact oneCell_bv xs
  case h63 => rw [bv_length]; unfold maxLen; omega
  case hby => rw [bv_length]; omega
  case hba => simp
  case K =>
    intro u1 w1 hown hgrow
    rw [bv_length] at hown
    obtain ⟨ua, uc, rfl⟩ := own_slice hown
    have hb1 : Below w.heap.size w w1 := ((Below.refl _ _).alloc (Nat.le_refl _) (.cells #[] 5)).grown hgrow (by simp) (fun k hk => by simp [Value.ownBlock] at hk; omega)
    have hs1 := SlQ.of_sl (Sl.of_own hown (by rw [bv_length]; omega))
    have hbx : Below w1.heap.size w1 (w1.alloc (.cells #[.slice ua xs.length uc, .int .i64 0] 166)) := (Below.refl _ _).alloc (Nat.le_refl _) _
    have HP : Hid (PlanNewPost 166 w xs (.returned (.pointer (some ⟨w1.heap.size, 0, none⟩))) (w1.alloc (.cells #[.slice ua xs.length uc, .int .i64 0] 166))) := Lib.hid ⟨w1.heap.size, _, rfl, Blk.new w1 166 [.slice ua xs.length uc, .int .i64 0],
      (hs1.keep hbx.size fun k hk _ => hbx.block k hk).mono (fun k _ hk => ⟨hk.1, by omega⟩), hb1.size, hb1.trans (hbx.mono hb1.size)⟩
    clear hs1 hb1 hbx hown hgrow HS
    go_wp2_with fail
    go_ret
    exact HP.out

def RefPlanNextPost (w : World) (pb : Nat) (lv : Value) (n : Nat) (r : Int × Int) (e : Ending) (w' : World) : Prop :=
  e = .returned (.tuple #[.int .i64 r.1, .int .i64 r.2]) ∧ Blk w' pb 166 [lv, .int .i64 ((n + 1 : Nat) : Int)] ∧ OnlyF (fun k => k = pb) w w'

set_option maxHeartbeats 1000000 in
theorem ref07Next_any {w : World} {Q : Nat → Prop} {pb : Nat} {lv : Value} {pl : List Int} {n : Nat} (HP : Blk w pb 166 [lv, .int .i64 (n : Int)]) (HL : SlQ w Q lv (bv pl)) (hQ : ¬ Q pb) (hB : ∀ x ∈ pl, IsB x) (hn : n ≤ 1000000000) (s : Int) (hs : IsInt s) :
    Calls Try.prog 122 #[.pointer (some ⟨pb, 0, none⟩), .int .i64 s] w fun e w' => RefPlanNextPost w pb lv n (nextP (pl.drop n) s) e w' := by
  obtain ⟨a, cap, rfl, h1, h2, h3, h4⟩ := HL
  rw [bv_length] at h1 h2 HP ⊢
  have p0 : w.cell? ⟨pb, 0, none⟩ = some (.slice a pl.length cap) := HP.cell 0
  have p1 : w.cell? ⟨pb, 1, none⟩ = some (.int .i64 n) := HP.cell 1
  have f1 := HP.free 1
  have hpl := HP.lt
  have hw : IntKind.i64.wrap ((n : Int) + 1) = (n : Int) + 1 := wrap_in _ ⟨by omega, by omega⟩
  have HP1 : Hid (Blk (w.setCell ⟨pb, 1, none⟩ (.int .i64 ((n : Int) + 1))) pb 166 [.slice a pl.length cap, .int .i64 ((n + 1 : Nat) : Int)]) := Lib.hid (HP.set 1 _)
  have HO1 : Hid (OnlyF (fun k => k = pb) w (w.setCell ⟨pb, 1, none⟩ (.int .i64 ((n : Int) + 1)))) := Lib.hid (OnlyF.setCell (F := fun k => k = pb) (OnlyF.refl _ w) (p := ⟨pb, 1, none⟩) rfl _)
  obtain ⟨N, hN⟩ : ∃ N, pl.length = N := ⟨_, rfl⟩
  have HN := Lib.hid hN
  have HFIN : Hid (∀ (r : Int × Int) (wf : World), nextP (pl.drop n) s = r → Below (w.setCell ⟨pb, 1, none⟩ (.int .i64 ((n : Int) + 1))).heap.size (w.setCell ⟨pb, 1, none⟩ (.int .i64 ((n : Int) + 1))) wf → RefPlanNextPost w pb (.slice a N cap) n (nextP (pl.drop n) s) (.returned (.tuple #[.int .i64 r.1, .int .i64 r.2])) wf) := by
    intro r wf hr hbf
    subst hr
    rw [← hN]
    exact ⟨rfl, HP1.out.below hbf, HO1.out.step hbf⟩
  rw [hN] at p0 h1 h2 ⊢
  clear HP HP1 HO1 hN
  by_cases hge : N ≤ n
  · have HR : Hid (nextP (pl.drop n) s = (0, 0)) := by
      show _ = _
      rw [List.drop_eq_nil_of_le (by rw [HN.out]; exact hge)]; rfl
    have hge2 : (N : Int) ≤ n := by omega
    clear h4
    go_enter Try.func122, Try.ntmps122
    go_wp2_with fail
    go_ret2
    exact HFIN.out _ _ HR.out (Below.refl _ _)
  · rcases h4 with h4 | ⟨lb, off, rfl, hq, hlb, hcells⟩
    · have : pl = [] := by simpa [bv] using h4
      subst this
      have := HN.out
      simp at this
      omega
    obtain ⟨b, hb⟩ : ∃ b, pl[n]? = some b := ⟨_, List.getElem?_eq_getElem (by rw [HN.out]; omega)⟩
    have hdrop : pl.drop n = b :: pl.drop (n + 1) := by
      obtain ⟨hlt, he⟩ := List.getElem?_eq_some_iff.1 hb
      rw [List.drop_eq_getElem_cons hlt, he]
    have hne : lb ≠ pb := fun e => hQ (e ▸ hq)
    have c0 : w.cell? ⟨lb, off + n, none⟩ = some (.int .u8 b) := hcells n _ (by simp [bv, hb])
    have hBB := hB b (List.mem_of_getElem? hb)
    have HNX : Hid (nextP (pl.drop n) s = if saysB b = 2 ∧ 0 ≤ s ∧ s ≤ 4 then (2, b / 4 % (s + 1)) else (saysB b, 0)) := by show _ = _; rw [hdrop]; rfl
    obtain ⟨hb0, hb1⟩ := hBB
    have hn0 : (0 : Int) ≤ n := by omega
    have hnN : (n : Int) < N := by omega
    have htm : b.tmod 4 = b % 4 := Int.tmod_eq_emod_of_nonneg hb0
    have hw0 : IntKind.i64.wrap b = b := wrap_in _ ⟨by omega, by omega⟩
    have hm0 : 0 ≤ b % 4 := by omega
    have hm3 : b % 4 ≤ 3 := by omega
    have hwm : IntKind.i64.wrap (b % 4) = b % 4 := wrap_in _ ⟨by omega, by omega⟩
    have HS : Hid (saysB b = if b % 4 = 3 then 0 else b % 4) := Lib.hid rfl
    have HBB : Hid (0 ≤ b ∧ b < 256) := ⟨hb0, hb1⟩
    obtain ⟨D, hD⟩ : ∃ D, b % 4 = D := ⟨_, rfl⟩
    rw [hD] at htm hm0 hm3 hwm HS
    clear hcells hB hdrop hD hb hb0 hb1 hge
    by_cases hd2 : D = 2
    · subst hd2
      have HS2 : Hid (saysB b = 2) := by show _ = _; rw [HS.out, if_neg (by decide)]
      by_cases hs0 : s < 0
      · have HR : Hid (nextP (pl.drop n) s = (2, 0)) := by show _ = _; rw [HNX.out, HS2.out, if_neg (by omega)]
        go_enter Try.func122, Try.ntmps122
        go_wp2_with fail
        go_ret2
        exact HFIN.out _ _ HR.out (Below.refl _ _)
      by_cases hs4 : 4 < s
      · have HR : Hid (nextP (pl.drop n) s = (2, 0)) := by show _ = _; rw [HNX.out, HS2.out, if_neg (by omega)]
        go_enter Try.func122, Try.ntmps122
        go_wp2_with fail
        go_ret2
        exact HFIN.out _ _ HR.out (Below.refl _ _)
      have HR : Hid (nextP (pl.drop n) s = (2, b / 4 % (s + 1))) := by show _ = _; rw [HNX.out, HS2.out, if_pos ⟨rfl, by omega, by omega⟩]
      obtain ⟨hb0, hb1⟩ := HBB.out
      have htd : b.tdiv 4 = b / 4 := Int.tdiv_eq_ediv_of_nonneg hb0
      have hb4 : 0 ≤ b / 4 := by omega
      have hb49 : b / 4 ≤ 64 := by omega
      have hw1 : IntKind.i64.wrap (b / 4) = b / 4 := wrap_in _ ⟨by omega, by omega⟩
      have hws : IntKind.i64.wrap (s + 1) = s + 1 := wrap_in _ ⟨by omega, by omega⟩
      have hs1 : ¬ (s + 1) = 0 := by omega
      have hs2 : ((s + 1) == 0) = false := beq_eq_false_iff_ne.2 hs1
      have htm2 : (b / 4).tmod (s + 1) = b / 4 % (s + 1) := Int.tmod_eq_emod_of_nonneg hb4
      have hm1 := Int.emod_nonneg (b / 4) hs1
      have hm2 := Int.emod_lt_of_pos (b / 4) (show (0 : Int) < s + 1 by omega)
      have hw2 : IntKind.i64.wrap (b / 4 % (s + 1)) = b / 4 % (s + 1) := wrap_in _ ⟨by omega, by omega⟩
      obtain ⟨Z, hZ⟩ : ∃ Z, b / 4 % (s + 1) = Z := ⟨_, rfl⟩
      rw [hZ] at htm2 hw2 HR
      obtain ⟨Y, hY⟩ : ∃ Y, b / 4 = Y := ⟨_, rfl⟩
      rw [hY] at htd hw1 htm2
      obtain ⟨X, hX⟩ : ∃ X, s + 1 = X := ⟨_, rfl⟩
      have hws2 : IntKind.i64.wrap (s + 1) = X := by rw [hws, hX]
      rw [hX] at hs1 hs2 htm2
      clear hws hZ hY hX hm1 hm2 hb4 hb49 hb0 hb1
      go_enter Try.func122, Try.ntmps122
      go_wp2_with fail
      refine wp_region_b 13 (by kernel_rfl) (by kernel_rfl) ?_
      simp only [List.take_succ_cons, List.take_zero, List.drop_succ_cons, List.drop_zero]
      repeat (first
        | (refine SeqC.run (v := ?_) ?_ (fun wz hz => ?_) ?_; rotate_left; (· rfl); (· have hzc := hz.cell; have hzf := hz.frozen; go_simp; first | exact UponS.value hz | exact UponS.skip hz | (refine UponS.call ?_; fail)); (try simp only [Act.put, List.setIfInBounds_toArray, List.set_cons_zero, List.set_cons_succ]))
        | (refine SeqC.skip ?_ ?_; (· rfl); (try simp only [Act.put, List.setIfInBounds_toArray, List.set_cons_zero, List.set_cons_succ])))
      refine fun wf hf => ?_
      go_wp2_with fail
      go_ret2
      exact HFIN.out _ _ HR.out ((Below.refl _ _).drew.trans hf.below)
    · by_cases hd3 : D = 3
      · subst hd3
        have HR : Hid (nextP (pl.drop n) s = (0, 0)) := by show _ = _; rw [HNX.out, HS.out, if_pos rfl, if_neg (by omega)]
        go_enter Try.func122, Try.ntmps122
        go_wp2_with fail
        go_ret2
        exact HFIN.out _ _ HR.out (Below.refl _ _)
      · have e3 : (D == 3) = false := by simp [hd3]
        have e2 : (D != 2) = true := by simp [hd2]
        have HR : Hid (nextP (pl.drop n) s = (D, 0)) := by show _ = _; rw [HNX.out, HS.out, if_neg hd3, if_neg (by omega)]
        clear hd2 hd3
        go_enter Try.func122, Try.ntmps122
        go_wp2_with fail
        go_ret2
        exact HFIN.out _ _ HR.out (Below.refl _ _)

end Go.Proofs.Ytlkapaecaeldpaa
